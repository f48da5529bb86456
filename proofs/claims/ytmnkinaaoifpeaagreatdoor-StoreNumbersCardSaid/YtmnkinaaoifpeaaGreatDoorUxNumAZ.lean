/- A part of the proof that the statement holds for every input that it names. No other condition. -/
import Derived.IntWalk
import Derived.Lib.DecodeN
set_option linter.unusedVariables false
set_option linter.unusedSimpArgs false
namespace Go.Ux.Trie
open Go
abbrev Pr:=Int×Int
def fnd:List Pr→Int→Int
 | [],_=>0
 |p::l,c=>if p.1=c then p.2 else fnd l c
def may (p:Pr):Bool:=decide (0≤p.1)&&decide (p.1≤1114367)&&decide (-2147483648≤p.2)&&decide (p.2<2147483648)
def blk (f:Int→Int) (i:Int):List Int:=(List.range 64).map fun (j:Nat)=>f (64*i+(j:Int))
def zero64:List Int:=List.replicate 64 0
theorem zero64_get {j:Nat} (h:j<64):zero64[j]? =some 0:=by unfold zero64;rw [List.getElem?_replicate,if_pos h]
def addB {α:Type} [DecidableEq α] (bl:List α) (b:α):List α:=if b∈bl then bl else bl++ [b]
def addAll {α:Type} [DecidableEq α] (bl:List α) (l:List α):List α:=l.foldl addB bl
section
variable {α:Type} [DecidableEq α]
theorem addAll_cons (bl:List α) (b:α) (l:List α):addAll bl (b::l)=addAll (addB bl b) l:=rfl
theorem addAll_snoc (bl:List α) (b:α) (l:List α):addAll bl (l++ [b])=addB (addAll bl l) b:=by simp [addAll,List.foldl_append]
theorem mem_addB {bl:List α} {b x:α}:x∈addB bl b↔x∈bl∨x=b:=by
 unfold addB
 split
 ·rename_i h
  exact ⟨.inl,fun h'=>h'.elim id fun e=>by rw [e];exact h⟩
 ·simp
theorem nodup_addB {bl:List α} (h:bl.Nodup) (b:α):(addB bl b).Nodup:=by
 unfold addB
 split
 ·exact h
 ·rename_i hb
  rw [List.nodup_append]
  exact ⟨h,by simp,fun x hx y hy e=>hb (by rw [List.mem_singleton] at hy;rw [←hy,←e];exact hx)⟩
theorem mem_addAll {x:α}: ∀(l bl:List α),x∈addAll bl l↔x∈bl∨x∈l
 | [],bl=>by simp [addAll]
 |b::l,bl=>by rw [addAll_cons,mem_addAll l,mem_addB];simp [or_assoc]
theorem nodup_addAll: ∀(l:List α) {bl:List α},bl.Nodup→(addAll bl l).Nodup
 | [],_,h=>h
 |_::l,_,h=>nodup_addAll l (nodup_addB h _)
end
theorem fnd_none: ∀{l:List Pr} {c:Int},(∀p∈l,p.1≠c)→fnd l c=0
 | [],_,_=>rfl
 |p::l,c,h=>by
  unfold fnd
  rw [if_neg (h p List.mem_cons_self)]
  exact fnd_none fun q hq=>h q (List.mem_cons_of_mem _ hq)
def apart (l:List Pr):Prop:=l.Pairwise fun p q=>p.1≠q.1
theorem fnd_mem: ∀{l:List Pr} (_:apart l) {p:Pr},p∈l→fnd l p.1=p.2
 |q::l,h,p,hp=>by
  obtain ⟨h1,h2⟩:=List.pairwise_cons.1 h
  unfold fnd
  rcases List.mem_cons.1 hp with rfl|hp
  ·rw [if_pos rfl]
  ·rw [if_neg (h1 p hp)]
   exact fnd_mem h2 hp
theorem mem_of_fnd: ∀{l:List Pr} {c:Int},fnd l c≠0→(c,fnd l c)∈l
 | [],c,h=>absurd rfl h
 |q::l,c,h=>by
  unfold fnd at h⊢
  split at h
  ·rename_i hq
   rw [if_pos hq,←hq]
   exact List.mem_cons_self
  ·rename_i hq
   rw [if_neg hq]
   exact List.mem_cons_of_mem _ (mem_of_fnd h)
theorem fnd_append (l:List Pr) (p:Pr) (h: ∀q∈l,q.1≠p.1) (c:Int):fnd (l++ [p]) c=if c=p.1 then p.2 else fnd l c:=by
 induction l with
 |nil=>
  show (if p.1=c then p.2 else 0)=if c=p.1 then p.2 else 0
  by_cases e:p.1=c
  ·rw [if_pos e,if_pos e.symm]
  ·rw [if_neg e,if_neg (fun h=>e h.symm)]
 |cons q l ih=>
  have ih:=ih fun q hq=>h q (List.mem_cons_of_mem _ hq)
  simp only [List.cons_append,fnd,ih]
  by_cases e:q.1=c
  ·have:c≠p.1:=fun e'=>h q List.mem_cons_self (e.trans e')
   simp [e,this]
  ·simp [e]
theorem blk_length (f:Int→Int) (i:Int):(blk f i).length=64:=by simp [blk]
theorem blk_get (f:Int→Int) (i:Int) {j:Nat} (h:j<64):(blk f i)[j]? =some (f (64*i+(j:Int))):=by
 simp [blk,List.getElem?_map,List.getElem?_range h]
theorem blk_zero {f:Int→Int} {i:Int} (h: ∀j:Nat,j<64→f (64*i+(j:Int))=0):blk f i=zero64:=by
 apply List.ext_getElem?
 intro j
 by_cases hj:j<64
 ·rw [blk_get f i hj,h j hj,zero64_get hj]
 ·rw [List.getElem?_eq_none (by rw [blk_length];omega),List.getElem?_eq_none (by unfold zero64;rw [List.length_replicate];omega)]
theorem zero_of_blk {f:Int→Int} {i:Int} (h:blk f i=zero64) {j:Nat} (hj:j<64):f (64*i+(j:Int))=0:=by
 have h1:=blk_get f i hj
 rw [h,zero64_get hj] at h1
 exact (Option.some.inj h1).symm
def bls (ks:List Int) (f:Int→Int):List (List Int):=addAll [zero64] (ks.map (blk f))
theorem blk_off {l:List Pr} {ks:List Int} (hk: ∀p∈l,p.1/64∈ks): ∀i,i∉ks→blk (fnd l) i=zero64:=by
 intro i hi
 refine blk_zero fun j hj=>fnd_none fun p hp e=>hi ?_
 have:=hk p hp
 rw [e] at this
 have e2:(64*i+(j:Int))/64=i:=by omega
 rwa [e2] at this
theorem apart_snoc {l:List Pr} (h:apart l) {p:Pr} (hp: ∀q∈l,q.1≠p.1):apart (l++ [p]):=by
 unfold apart
 rw [List.pairwise_append]
 exact ⟨h,by simp,fun q hq r hr=>by rw [List.mem_singleton] at hr;rw [hr];exact hp q hq⟩
end Go.Ux.Trie
namespace Go.Ux
open Go Go.RowKit
theorem u64w (n:Int):IntKind.u64.wrap n=n % 18446744073709551616:=by simp [IntKind.wrap,IntKind.bits,IntKind.signed]
end Go.Ux
namespace Go.Ux
open Go Go.RowKit
def fld (a n x:Nat):Nat:=x/2^a % 2^n
def setF (a n x v:Nat):Nat:=2^a*(2^n*(x/2^(a+n))+v % 2^n)+x % 2^a
theorem testBit_setF (a n x v i:Nat):(setF a n x v).testBit i=if i<a then x.testBit i else if i<a+n then v.testBit (i-a) else x.testBit i:=by
 unfold setF
 rw [Nat.testBit_two_pow_mul_add _ (Nat.mod_lt _ (Nat.two_pow_pos a))]
 by_cases h1:i<a
 ·rw [if_pos h1,if_pos h1,Nat.testBit_mod_two_pow,decide_eq_true h1,Bool.true_and]
 ·rw [if_neg h1,if_neg h1,Nat.testBit_two_pow_mul_add _ (Nat.mod_lt _ (Nat.two_pow_pos n))]
  by_cases h2:i<a+n
  ·rw [if_pos (by omega),if_pos h2,Nat.testBit_mod_two_pow,decide_eq_true (by omega),Bool.true_and]
  ·rw [if_neg (by omega),if_neg h2,Nat.testBit_div_two_pow]
   congr 1
   omega
theorem testBit_mask (a n i:Nat):((2^n-1)*2^a).testBit i=(decide (a≤i)&&decide (i<a+n)):=by
 rw [Nat.mul_comm,Nat.testBit_two_pow_mul,Nat.testBit_two_pow_sub_one]
 by_cases h:a≤i
 ·simp [h];omega
 ·simp [h]
theorem and_field (a n x:Nat):x&&&(2^n-1)*2^a=fld a n x*2^a:=by
 apply Nat.eq_of_testBit_eq
 intro i
 rw [Nat.testBit_and,testBit_mask]
 unfold fld
 rw [Nat.mul_comm,Nat.testBit_two_pow_mul,Nat.testBit_mod_two_pow,Nat.testBit_div_two_pow]
 by_cases h:a≤i
 ·have e:i-a+a=i:=by omega
  have e2:decide (i-a<n)=decide (i<a+n):=by rw [decide_eq_decide];omega
  rw [e,e2]
  simp [h,Bool.and_comm]
 ·simp [h]
theorem mask_lt (a n:Nat) (h:a+n≤64):(2^n-1)*2^a<18446744073709551616:=by
 have h1:(2^n-1)*2^a<2^n*2^a:=Nat.mul_lt_mul_of_pos_right (Nat.sub_lt (Nat.two_pow_pos n) (by omega)) (Nat.two_pow_pos a)
 rw [←Nat.pow_add] at h1
 have h2:2^(n+a)≤2^64:=Nat.pow_le_pow_right (by omega) (by omega)
 omega
theorem ofInt64 (x:Nat) (h:x<18446744073709551616):(BitVec.ofInt 64 (x:Int)).toNat=x:=by rw [BitVec.toNat_ofInt];omega
theorem bits_and (x m:Nat) (hx:x<18446744073709551616) (hm:m<18446744073709551616):bits .and .u64 (x:Int) (m:Int)=((x&&&m:Nat):Int):=by
 show IntKind.u64.wrap ((BitVec.ofInt 64 (x:Int)&&&BitVec.ofInt 64 (m:Int)).toNat:Nat)=_
 rw [BitVec.toNat_and,ofInt64 x hx,ofInt64 m hm,u64w]
 have:x&&&m≤x:=Nat.and_le_left
 omega
theorem get_field (a n x:Nat) (h:a+n≤64) (hx:x<18446744073709551616):bits .and .u64 (x:Int) (((2^n-1)*2^a:Nat):Int)/((2^a:Nat):Int)=(fld a n x:Nat):=by
 rw [bits_and x _ hx (mask_lt a n h),and_field,Int.natCast_mul]
 exact Int.mul_ediv_cancel _ (by have:=Nat.two_pow_pos a;omega)
theorem set_field (a n x v:Nat) (h:a+n≤64) (hx:x<18446744073709551616):bits .or .u64 (bits .andNot .u64 (x:Int) (((2^n-1)*2^a:Nat):Int)) (bits .and .u64 (((v*2^a) % 18446744073709551616:Nat):Int) (((2^n-1)*2^a:Nat):Int))=(setF a n x v:Nat):=by
 have hm:=mask_lt a n h
 have e1:bits .andNot .u64 (x:Int) (((2^n-1)*2^a:Nat):Int)=(((BitVec.ofInt 64 (x:Int)&&& ~~~ BitVec.ofInt 64 (((2^n-1)*2^a:Nat):Int)).toNat:Nat):Int):=by
  show IntKind.u64.wrap (((BitVec.ofInt 64 (x:Int)&&& ~~~ BitVec.ofInt 64 (((2^n-1)*2^a:Nat):Int)).toNat:Nat):Int)=_
  rw [u64w]
  have:=(BitVec.ofInt 64 (x:Int)&&& ~~~ BitVec.ofInt 64 (((2^n-1)*2^a:Nat):Int)).isLt
  omega
 obtain ⟨y,hy⟩: ∃y,(BitVec.ofInt 64 (x:Int)&&& ~~~ BitVec.ofInt 64 (((2^n-1)*2^a:Nat):Int)).toNat=y:=⟨_,rfl⟩
 have hyl:y<18446744073709551616:=by rw [←hy];exact BitVec.isLt _
 have hyb: ∀i,i<64→y.testBit i=(x.testBit i&& !((2^n-1)*2^a).testBit i):=fun i hi=>by
  rw [←hy,BitVec.toNat_and,Nat.testBit_and,ofInt64 x hx,BitVec.toNat_not,ofInt64 _ hm,show 2^64-1-(2^n-1)*2^a=2^64-((2^n-1)*2^a+1) by omega,Nat.testBit_two_pow_sub_succ (by omega)]
  simp [hi]
 have e2:=bits_and ((v*2^a) % 18446744073709551616) _ (Nat.mod_lt _ (by omega)) hm
 rw [e1,hy,e2]
 have e3:bits .or .u64 (y:Int) (((v*2^a) % 18446744073709551616&&&(2^n-1)*2^a:Nat):Int)=((y|||((v*2^a) % 18446744073709551616&&&(2^n-1)*2^a):Nat):Int):=by
  have hz:((v*2^a) % 18446744073709551616&&&(2^n-1)*2^a)<18446744073709551616:=Nat.lt_of_le_of_lt Nat.and_le_right hm
  show IntKind.u64.wrap ((BitVec.ofInt 64 (y:Int)|||BitVec.ofInt 64 _).toNat:Nat)=_
  rw [BitVec.toNat_or,ofInt64 y hyl,ofInt64 _ hz,u64w]
  have:y|||((v*2^a) % 18446744073709551616&&&(2^n-1)*2^a)<2^64:=Nat.or_lt_two_pow hyl hz
  omega
 rw [e3]
 congr 1
 apply Nat.eq_of_testBit_eq
 intro i
 rw [Nat.testBit_or,Nat.testBit_and,testBit_setF,testBit_mask]
 by_cases hi:i<64
 ·rw [hyb i hi,testBit_mask,show (18446744073709551616:Nat)=2^64 from rfl,Nat.testBit_mod_two_pow,decide_eq_true hi,Bool.true_and,Nat.mul_comm v,Nat.testBit_two_pow_mul]
  by_cases h1:i<a
  ·have h2: ¬a≤i:=by omega
   simp [h1,h2]
  ·have h2:a≤i:=by omega
   by_cases h3:i<a+n
   ·simp [h1,h2,h3]
   ·simp [h1,h2,h3]
 ·have y0:y.testBit i=false:=Nat.testBit_lt_two_pow (Nat.lt_of_lt_of_le hyl (Nat.pow_le_pow_right (by omega) (by omega):2^64≤2^i))
  have x0:x.testBit i=false:=Nat.testBit_lt_two_pow (Nat.lt_of_lt_of_le hx (Nat.pow_le_pow_right (by omega) (by omega):2^64≤2^i))
  have h1: ¬i<a:=by omega
  have h3: ¬i<a+n:=by omega
  simp [y0,x0,h1,h3]
def eP (e:Nat):Nat:=e/65536
def eS (e:Nat):Nat:=e/256 % 256
def eT (e:Nat):Nat:=e/2 % 128
def eV (e:Nat):Bool:=decide (e % 2=1)
def eMk (p s t:Nat) (v:Bool):Nat:=p*65536+s*256+t*2+if v then 1 else 0
theorem fld_p (e:Nat) (h:e<4294967296):fld 16 16 e=eP e:=by unfold fld eP;omega
theorem fld_s (e:Nat):fld 8 8 e=eS e:=by unfold fld eS;omega
theorem fld_t (e:Nat):fld 1 7 e=eT e:=by unfold fld eT;omega
def eLetter (c t:Nat):Nat:=eMk (256+8*c) 32 t false
def markW (c:Nat):Nat:=if c=776 then 43 else if c=778 then 41 else if c=768 then 37 else if c=769 then 36 else if c=770 then 39 else if c=771 then 45 else if c=772 then 47 else 48
def eMark (c:Nat):Nat:=eMk 0 (markW c) 2 false
end Go.Ux
namespace Go.Ux.Sign
open Go
def tl (b:Nat):Prop:=128≤b∧b<192
instance (b:Nat):Decidable (tl b):=inferInstanceAs (Decidable (_∧_))
def isT (x:UInt8):Bool:=decide (tl x.toNat)
def bt (s:List UInt8) (i:Nat):Nat:=match s[i]? with
 |some x=>x.toNat
 |none=>0
def v3 (b0 b1 b2:Nat):Nat:=(b0-224)*4096+(b1-128)*64+(b2-128)
def v4 (b0 b1 b2 b3:Nat):Nat:=(b0-240)*262144+(b1-128)*4096+(b2-128)*64+(b3-128)
def sgN (b0 b1 b2 b3:Nat):Nat×Nat:=
 if b0<128 then (b0,1)
 else if 194≤b0∧b0≤223∧tl b1 then ((b0-192)*64+(b1-128),2)
 else if 224≤b0∧b0≤239∧tl b1∧tl b2∧2048≤v3 b0 b1 b2∧(v3 b0 b1 b2<55296∨57344≤v3 b0 b1 b2) then (v3 b0 b1 b2,3)
 else if 240≤b0∧b0≤244∧tl b1∧tl b2∧tl b3∧65536≤v4 b0 b1 b2 b3∧v4 b0 b1 b2 b3≤1114111 then (v4 b0 b1 b2 b3,4)
 else (1114112+b0,1)
def sg (s:List UInt8):Nat×Nat:=sgN (bt s 0) (bt s 1) (bt s 2) (bt s 3)
theorem bt_lt (s:List UInt8) (i:Nat):bt s i<256:=by
 unfold bt
 split
 ·exact UInt8.toNat_lt _
 ·omega
theorem bt_pos {s:List UInt8} {i:Nat} (h:tl (bt s i)):i<s.length:=Classical.byContradiction fun hn=>by
 have:bt s i=0:=by unfold bt;rw [List.getElem?_eq_none (by omega)]
 rw [this] at h
 exact absurd h (by decide)
theorem sgN_one (b0 b1 b2 b3:Nat):1≤(sgN b0 b1 b2 b3).2:=by
 unfold sgN
 repeat' split
 all_goals (simp only;omega)
theorem sg_le {s:List UInt8} (h:s≠[]):(sg s).2≤s.length:=by
 have h0:0<s.length:=List.length_pos_iff.2 h
 unfold sg sgN
 split
 ·exact h0
 ·split
  ·rename_i h;have:=bt_pos h.2.2;exact this
  ·split
   ·rename_i h;have:=bt_pos h.2.2.2.1;exact this
   ·split
    ·rename_i h;have:=bt_pos h.2.2.2.2.1;exact this
    ·exact h0
def signs:List UInt8→List Nat
 | []=> []
 |x::s=>(sg (x::s)).1::signs ((x::s).drop (sg (x::s)).2)
termination_by s=>s.length
decreasing_by
 have:=sgN_one (bt (x::s) 0) (bt (x::s) 1) (bt (x::s) 2) (bt (x::s) 3)
 rw [List.length_drop]
 show (x::s).length-(sg (x::s)).2<(x::s).length
 have h2:1≤(sg (x::s)).2:=this
 simp only [List.length_cons]
 omega
def cp (c:Nat):Prop:=c<55296∨57344≤c∧c<1114112
def raw (c:Nat):Prop:=1114240≤c∧c<1114368
theorem sgN_is (b0 b1 b2 b3:Nat) (h:b0<256):cp (sgN b0 b1 b2 b3).1∨raw (sgN b0 b1 b2 b3).1∧sgN b0 b1 b2 b3=(1114112+b0,1):=by
 unfold sgN cp raw
 split
 ·simp only;omega
 ·split
  ·rename_i h;unfold tl at h;simp only;omega
  ·split
   ·rename_i h;unfold tl v3 at h;unfold v3;simp only;omega
   ·split
    ·rename_i h;simp only;omega
    ·refine .inr ⟨?_,rfl⟩
     simp only;omega
def encN (c:Nat):List Nat:=
 if 1114112≤c then [c-1114112]
 else if c<128 then [c]
 else if c<2048 then [192+c/64,128+c % 64]
 else if c<65536 then [224+c/4096,128+c/64 % 64,128+c % 64]
 else [240+c/262144,128+c/4096 % 64,128+c/64 % 64,128+c % 64]
def enc (c:Nat):List UInt8:=(encN c).map UInt8.ofNat
def put (l:List Nat):List UInt8:=l.flatMap enc
theorem signs_cons {s:List UInt8} (h:s≠[]):signs s=(sg s).1::signs (s.drop (sg s).2):=by
 cases s with
 |nil=>exact absurd rfl h
 |cons x s=>rw [signs]
def run (s:List UInt8):List UInt8:=s.takeWhile isT
def good:List Nat→Prop
 | []=>True
 |c::l=>(cp c∨raw c∧sg (enc c++run (put l))=(c,1))∧good l
end Go.Ux.Sign
namespace Go.Ux.Sign
open Go
set_option maxHeartbeats 4000000 in
theorem decodeN_sgN (n b0 b1 b2 b3:Nat) (h0:b0<256) (h1:b1<256) (h2:b2<256) (h3:b3<256) (n1:1<n∨b1=0) (n2:2<n∨b2=0) (n3:3<n∨b3=0):
 (if (Lib.decodeN n b0 b1 b2 b3).1=65533∧(Lib.decodeN n b0 b1 b2 b3).2=1 then (1114112+b0,1) else Lib.decodeN n b0 b1 b2 b3)=sgN b0 b1 b2 b3:=by
 unfold sgN Lib.decodeN tl v3 v4
 by_cases c0:b0<128
 ·simp only [if_pos c0]
  rw [if_neg (by omega)]
 ·simp only [if_neg c0]
  by_cases c1:b0/32=6∧1<n∧b1/64=2
  ·simp only [if_pos c1]
   by_cases c2:b0 % 32*64+b1 % 64≥128
   ·simp only [if_pos c2]
    rw [if_neg (by omega),if_pos (by omega)]
    exact Prod.ext (by show b0 % 32*64+b1 % 64=_;omega) rfl
   ·simp only [if_neg c2]
    rw [if_pos ⟨trivial,trivial⟩,if_neg (by omega),if_neg (by omega),if_neg (by omega)]
  ·simp only [if_neg c1]
   rw [if_neg (by omega: ¬(194≤b0∧b0≤223∧128≤b1∧b1<192))]
   by_cases c3:b0/16=14∧(1<n∧b1/64=2)∧(2<n∧b2/64=2)
   ·simp only [if_pos c3]
    have e:b0 % 16*4096+b1 % 64*64+b2 % 64=(b0-224)*4096+(b1-128)*64+(b2-128):=by omega
    rw [e]
    by_cases c4:(b0-224)*4096+(b1-128)*64+(b2-128)≥2048∧((b0-224)*4096+(b1-128)*64+(b2-128)<55296∨(57344≤(b0-224)*4096+(b1-128)*64+(b2-128)∧(b0-224)*4096+(b1-128)*64+(b2-128)≤1114111))
    ·simp only [if_pos c4]
     rw [if_neg (by omega),if_pos (by omega)]
    ·simp only [if_neg c4]
     rw [if_pos ⟨trivial,trivial⟩,if_neg (by omega),if_neg (by omega)]
   ·simp only [if_neg c3]
    rw [if_neg (by omega: ¬(224≤b0∧b0≤239∧(128≤b1∧b1<192)∧(128≤b2∧b2<192)∧_∧_))]
    by_cases c5:b0/8=30∧(1<n∧b1/64=2)∧(2<n∧b2/64=2)∧(3<n∧b3/64=2)
    ·simp only [if_pos c5]
     have e:b0 % 8*262144+b1 % 64*4096+b2 % 64*64+b3 % 64=(b0-240)*262144+(b1-128)*4096+(b2-128)*64+(b3-128):=by omega
     rw [e]
     by_cases c6:(b0-240)*262144+(b1-128)*4096+(b2-128)*64+(b3-128)≥65536∧((b0-240)*262144+(b1-128)*4096+(b2-128)*64+(b3-128)<55296∨(57344≤(b0-240)*262144+(b1-128)*4096+(b2-128)*64+(b3-128)∧(b0-240)*262144+(b1-128)*4096+(b2-128)*64+(b3-128)≤1114111))
     ·simp only [if_pos c6]
      rw [if_neg (by omega),if_pos (by omega)]
     ·simp only [if_neg c6]
      rw [if_pos ⟨trivial,trivial⟩,if_neg (by omega)]
    ·simp only [if_neg c5]
     rw [if_pos ⟨trivial,trivial⟩,if_neg (by omega)]
theorem bt_get (s:ByteArray) (i:Nat):(s.get! i).toNat=bt s.data.toList i:=by
 obtain ⟨d⟩:=s
 show (d[i]!).toNat=bt d.toList i
 unfold bt
 rw [Array.getElem?_toList]
 by_cases h:i<d.size
 ·rw [getElem!_pos d i h,Array.getElem?_eq_getElem h]
 ·rw [getElem!_neg d i h,Array.getElem?_eq_none (by omega)]
  rfl
theorem decode_sg (s:ByteArray):(if (Utf8.decode s 0).1=65533∧(Utf8.decode s 0).2=1 then (1114112+(s.get! 0).toNat,1) else Utf8.decode s 0)=sg s.data.toList:=by
 rw [Lib.decode_at]
 have hl:s.size=s.data.toList.length:=by rw [Array.length_toList];rfl
 have hz: ∀i,i<s.size-0∨(s.get! i).toNat=0:=fun i=>by
  rw [bt_get]
  by_cases h:i<s.size
  ·exact .inl h
  ·refine .inr ?_
   unfold bt
   rw [List.getElem?_eq_none (by omega)]
 rw [decodeN_sgN _ _ _ _ _ (UInt8.toNat_lt _) (UInt8.toNat_lt _) (UInt8.toNat_lt _) (UInt8.toNat_lt _) (hz 1) (hz 2) (hz 3)]
 simp only [bt_get]
 rfl
end Go.Ux.Sign
