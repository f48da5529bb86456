/- A part of the proof that the statement holds for every input that it names. No other condition. -/
import Derived.Test.YtikmdhhbamggfaaGreatDoorMadeAZ
import Derived.Test.YtikmdhhbamggfaaGreatDoorLikeAZ
import Derived.Test.YtikmdhhbamggfaaGreatDoorLikeBZ
import Derived.Test.YtikmdhhbamggfaaGreatDoorUxEndsZ
set_option linter.unusedVariables false
set_option linter.unusedSimpArgs false
namespace Go.Proofs.YtikmdhhbamggfaaGreatDoor
open Go.RowKit
open Ux (Row iv sv Ent)
open Ux.Sign (cp raw signs)
def vld (p:ByteArray):Bool:=(signs p.data.toList).all fun c=>decide (c<1114112)
def begB (kd:Int) (p:ByteArray):Bool:=decide (kd=1)||(decide (kd=2)&&vld p)
def begS (kd:Int) (p:ByteArray):ByteArray:=if kd=1 then p else if begB kd p=true then ftB p else ⟨#[]⟩
set_option maxHeartbeats 8000000 in
set_option maxRecDepth 100000 in
theorem begin_ (kd:Int) (LN:Nat) (sh bk:Bool) (tb:Option Addr) (hk:kd=1∨kd=2∨kd=3) (hok:okC kd LN tb=true) (p:ByteArray) (w:World) (hT:Tabs w) (hp:p.size≤1000000):
 Calls Tryz.prog 39 #[cV kd (LN:Nat) sh bk tb,.string p] w fun e w'=>e= .returned (.tuple #[.string (begS kd p),.bool (begB kd p)])∧Ux.Touch (fun _=>False) w w':=by
 have HO:=Lib.hid fun W=>cok_ kd (LN:Nat) sh bk tb W
 rw [hok] at HO
 have HV:=Lib.hid fun W (T:Ux.Touch (fun _=>False) w W)=>valid_ p W (by omega) (hT.touch T)
 have HF:=Lib.hid fun W (T:Ux.Touch (fun _=>False) w W)=>ft_ p W (by omega) (hT.touch T)
 have e1:((signs p.data.toList).all fun c=>decide (c<1114112))=vld p:=rfl
 have e2:(⟨(Ux.Sign.foldText p.data.toList).toArray⟩:ByteArray)=ftB p:=rfl
 rw [e1] at HV
 rw [e2] at HF
 have T0:Ux.Touch (fun _=>False) w (w.alloc (.cells #[.int .i64 kd,.int .i64 (LN:Nat),.bool sh,.bool bk,.pointer tb] 25)):=(Ux.Touch.refl _ _).alloc _
 have hb:(w.alloc (.cells #[.int .i64 kd,.int .i64 (LN:Nat),.bool sh,.bool bk,.pointer tb] 25)).heap[w.heap.size]? =some (.cells #[.int .i64 kd,.int .i64 (LN:Nat),.bool sh,.bool bk,.pointer tb] 25 (0,0)):=heap_alloc_new w _
 obtain ⟨W,hW⟩: ∃W,w.alloc (.cells #[.int .i64 kd,.int .i64 (LN:Nat),.bool sh,.bool bk,.pointer tb] 25)=W:=⟨_,rfl⟩
 obtain ⟨q,hq⟩: ∃q,w.heap.size=q:=⟨_,rfl⟩
 rw [hW] at T0 hb
 rw [hq] at hb
 have HC:=Lib.hid fun W' (T:Ux.Touch (fun _=>False) W W')=>(CAt.of hb).touch T
 have H0:=Lib.hid T0
 have HW:=Lib.hid (And.intro hW hq)
 clear hok hT hp e1 e2 T0 hb hW hq
 unfold cV at HO⊢
 obtain ⟨x0,x1,x2,x3,x4⟩:=HC.out W (Ux.Touch.refl _ _)
 unfold begS
 obtain ⟨V,hV⟩: ∃V,vld p=V:=⟨_,rfl⟩
 have hbb:begB kd p=(decide (kd=1)||(decide (kd=2)&&V)):=by unfold begB;rw [hV]
 rw [hV] at HV
 rw [hbb]
 clear hbb hV
 go_enter Tryz.func39,Tryz.ntmps39
 go_upto_region 1 with (fail)
 rw [HW.out.1,HW.out.2]
 go_wp2_with (go_at_call 19;fail)
 refine (HO.out W).mono ?_
 rintro e w2 ⟨rfl,T2⟩
 have H2:=Lib.hid (And.intro (H0.out.trans T2 fun _ _ f=>f) T2)
 clear T2 x0 x1 x2 x3 x4
 obtain ⟨x0,x1,x2,x3,x4⟩:=HC.out w2 H2.out.2
 rcases hk with rfl|rfl|rfl
 ·go_wp2
  go_returns
  exact ⟨rfl,H2.out.1⟩
 ·go_wp2_with (go_at_call 82;fail)
  refine (HV.out w2 H2.out.1).mono ?_
  rintro e w3 ⟨rfl,T3⟩
  have H3:=Lib.hid (H2.out.1.trans T3 fun _ _ f=>f)
  clear T3 x0 x1 x2 x3 x4
  cases V with
  |true=>
   go_wp2_with (go_at_call 69;fail)
   refine (HF.out w3 H3.out).mono ?_
   rintro e w4 ⟨rfl,T4⟩
   have H4:=Lib.hid (H3.out.trans T4 fun _ _ f=>f)
   clear T4
   go_wp2
   go_returns
   exact ⟨rfl,H4.out⟩
  |false=>
   go_wp2
   go_returns
   exact ⟨rfl,H3.out⟩
 ·go_wp2
  go_returns
  exact ⟨rfl,H2.out.1⟩
end Go.Proofs.YtikmdhhbamggfaaGreatDoor
namespace Go.Ux
open Go
def cutF (l:List UInt8):Nat→Nat
 |0=>0
 |n+1=>if l[n]? =some 255 then cutF l n else n+1
def nextL (l:List UInt8):Option (List UInt8):=match cutF l l.length with
 |0=>none
 |n+1=>some (l.take n++ [l.getD n 0+1])
theorem cutF_le (l:List UInt8): ∀n,cutF l n≤n
 |0=>Nat.le_refl _
 |n+1=>by
  unfold cutF
  split
  ·have:=cutF_le l n;omega
  ·exact Nat.le_refl _
theorem cutF_last (l:List UInt8): ∀{n k:Nat},cutF l n=k+1→l[k]?≠some 255
 |n+1,k,h=>by
  unfold cutF at h
  split at h
  ·exact cutF_last l h
  ·rename_i h1
   cases h
   exact h1
theorem less_self_app: ∀(a b:List UInt8),Op.bytesLess (a++b) a=false
 | [],[]=>rfl
 | [],_::_=>rfl
 |x::a,b=>by
  have:=less_self_app a b
  simp only [List.cons_append,Op.bytesLess]
  simp [this]
theorem less_pre: ∀(a:List UInt8) {x y:UInt8} (b c:List UInt8),x<y→Op.bytesLess (a++x::b) (a++y::c)=true
 | [],x,y,b,c,h=>by
   simp only [List.nil_append,Op.bytesLess]
   simp [h]
 |z::a,x,y,b,c,h=>by
  have:=less_pre a b c h
  simp only [List.cons_append,Op.bytesLess]
  simp [this]
theorem next_less {l h:List UInt8} (hn:nextL l=some h) (r:List UInt8):Op.bytesLess (l++r) h=true:=by
 unfold nextL at hn
 cases hc:cutF l l.length with
 |zero=>rw [hc] at hn;cases hn
 |succ k=>
  rw [hc] at hn
  cases hn
  have hk:k<l.length:=by have:=cutF_le l l.length;omega
  have hne:=cutF_last l hc
  have hx:l[k]? =some (l.getD k 0):=by rw [List.getD_eq_getElem?_getD,List.getElem?_eq_getElem hk];rfl
  have hl:l=l.take k++l.getD k 0::l.drop (k+1):=by
   conv=>lhs;rw [←List.take_append_drop k l]
   congr 1
   rw [List.drop_eq_getElem_cons hk,List.getD_eq_getElem?_getD,List.getElem?_eq_getElem hk]
   rfl
  have h1:l++r=l.take k++l.getD k 0::(l.drop (k+1)++r):=by
   conv=>lhs;rw [hl]
   rw [List.append_assoc,List.cons_append]
  rw [h1]
  refine less_pre _ _ _ ?_
  have h255:l.getD k 0≠255:=fun e=>hne (by rw [hx,e])
  have:(l.getD k 0).toNat<255:=by
   have h1:=(l.getD k 0).toNat_lt
   have h2:(l.getD k 0).toNat≠255:=fun e=>h255 (UInt8.toNat.inj e)
   omega
  rw [UInt8.lt_iff_toNat_lt,UInt8.toNat_add]
  show _<((l.getD k 0).toNat+1) % 2^8
  omega
end Go.Ux
namespace Go.Ux.Like
open Go Go.Ux.Sign
theorem mat_begins {eqv:Int→Int→Bool}: ∀{l:List Nat} {r S:List Int},mat eqv ((l.map fun (c:Nat)=>(c:Int))++r) S=true→∃S1 S2,S=S1++S2∧S1.length=l.length∧∀(i:Nat) (a:Nat) (b:Int),l[i]? =some a→S1[i]? =some b→eqv a b=true
 | [],r,S,_=>⟨[],S,rfl,rfl,fun i a b h=>by simp at h⟩
 |c::l,r,S,h=>by
  rw [List.map_cons,List.cons_append,mat_sign (by omega)] at h
  obtain ⟨x,S',rfl,hx,hm⟩:=h
  obtain ⟨S1,S2,rfl,hl,hh⟩:=mat_begins hm
  refine ⟨x::S1,S2,rfl,by simp [hl],fun i a b ha hb=> ?_⟩
  cases i with
  |zero=>
   simp at ha hb
   subst ha hb
   unfold hit at hx
   rw [decide_eq_false (by omega),Bool.false_or] at hx
   exact hx
  |succ i=>exact hh i a b (by simpa using ha) (by simpa using hb)
end Go.Ux.Like
namespace Go.Ux.Sign
open Go
theorem run_pre: ∀(s t:List UInt8),run s<+:run (s++t)
 | [],t=>List.nil_prefix
 |x::s,t=>by
  rw [List.cons_append,run_cons,run_cons]
  split
  ·exact List.cons_prefix_cons.2 ⟨rfl,run_pre s t⟩
  ·exact List.nil_prefix
theorem good_prefix: ∀{a b:List Nat},good (a++b)→good a
 | [],_,_=>trivial
 |c::a,b,h=>by
  have h:(cp c∨raw c∧sg (enc c++run (put (a++b)))=(c,1))∧good (a++b):=h
  refine ⟨?_,good_prefix h.2⟩
  rcases h.1 with h1|⟨h1,h2⟩
  ·exact .inl h1
  ·refine .inr ⟨h1,?_⟩
   have hr:=h1
   unfold raw at hr
   have hp:run (put a)<+:run (put (a++b)):=by rw [put_append];exact run_pre _ _
   rw [enc_raw h1] at h2⊢
   have hx:(UInt8.ofNat (c-1114112)).toNat=c-1114112:=toNat_of (by omega)
   have h3:=sg_pre (x:=UInt8.ofNat (c-1114112)) hp (by rw [hx,show 1114112+(c-1114112)=c by omega];exact h2) (by rw [hx];omega)
   rw [hx,show 1114112+(c-1114112)=c by omega] at h3
   exact h3
theorem good_unmap: ∀{l:List Nat},(∀c∈l,cp c∨raw c)→good (l.map foldN)→good l
 | [],_,_=>trivial
 |c::l,hl,h=>by
  have h:(cp (foldN c)∨raw (foldN c)∧sg (enc (foldN c)++run (put (l.map foldN)))=(foldN c,1))∧good (l.map foldN):=h
  have hl': ∀d∈l,cp d∨raw d:=fun d hd=>hl d (List.mem_cons_of_mem _ hd)
  refine ⟨?_,good_unmap hl' h.2⟩
  rcases hl c List.mem_cons_self with h1|h1
  ·exact .inl h1
  ·refine .inr ⟨h1,?_⟩
   have h2:=h.1
   rw [foldN_raw c h1,run_map foldN_cp foldN_raw hl'] at h2
   rcases h2 with h2|⟨_,h2⟩
   ·unfold cp at h2
    unfold raw at h1
    omega
   ·exact h2
theorem fold_begins {l S1 S2:List Nat} (hf:S1.map foldN=l.map foldN) (hl: ∀c∈l,cp c∨raw c) (hS:good (S1++S2)):signs (put l)=l:=by
 have h:=good_foldN (good_prefix hS)
 rw [hf] at h
 exact signs_put (good_unmap hl h)
theorem foldText_begins {l:List Nat} {s:List UInt8} {S1 S2:List Nat} (hs:signs s=S1++S2) (hf:S1.map foldN=l.map foldN) (hl: ∀c∈l,cp c∨raw c): ∃r,foldText s=foldText (put l)++r:=by
 have hg:=good_signs s
 rw [hs] at hg
 refine ⟨put (S2.map foldN),?_⟩
 unfold foldText
 rw [fold_begins hf hl hg,hs,List.map_append,put_append,hf]
end Go.Ux.Sign
namespace Go.Proofs.YtikmdhhbamggfaaGreatDoor
open Go.RowKit
open Ux (cutF nextL)
def nextV (l:List UInt8):Value:=match nextL l with
 |none=> .tuple #[.string ⟨#[]⟩,.bool false]
 |some h=> .tuple #[.string ⟨h.toArray⟩,.bool true]
theorem convN (W:World) (b k:Nat) (Z:ByteArray) (z:Int) (hz:z=k) (hk:k<256) (hZ:(⟨#[UInt8.ofNat k]⟩:ByteArray)=Z) (hb:W.heap[b]? =some (.cells #[.int .u8 z] 5 (0,0))):(convert 108 9 (.slice (some ⟨b,0,none⟩) 1 1)).run Tryz.prog W= .ok (.string Z) W:=by
 rw [←hZ]
 refine run_convert_bytes_back (P:=Tryz.prog) W 108 9 5 ⟨b,0,none⟩ 1 [UInt8.ofNat k] Tryz.underlying108 Tryz.underlying5 Tryz.underlying9 fun j hj=> ?_
 obtain rfl:j=0:=by simp at hj;exact hj
 have e:(⟨b,0,none⟩:Addr).add 0=⟨b,0,none⟩:=by rw [Addr.add_mid]
 rw [e,cell_of_row W b 0 _ _ _ hb,hz]
 show some _=some (Value.int .u8 ((UInt8.ofNat k).toNat:Int))
 rw [UInt8.toNat_ofNat',show k % 2^8=k by omega]
 rfl
set_option maxHeartbeats 8000000 in
set_option maxRecDepth 100000 in
theorem pnext_ (p:ByteArray) (w:World) (hp:p.size≤1000000000):Calls Tryz.prog 81 #[.string p] w fun e w'=>e= .returned (nextV p.data.toList)∧Ux.Touch (fun _=>False) w w':=by
 obtain ⟨n,hn⟩: ∃n,p.size=n:=⟨_,rfl⟩
 have hln:p.data.toList.length=n:=hn
 obtain ⟨C,hC⟩: ∃c,cutF p.data.toList n=c:=⟨_,rfl⟩
 have hnv:nextV p.data.toList=match (match C with|0=>none|k+1=>some (p.data.toList.take k++ [p.data.toList.getD k 0+1])) with
  |none=> .tuple #[.string ⟨#[]⟩,.bool false]
  |some h=> .tuple #[.string ⟨h.toArray⟩,.bool true]:=by
  unfold nextV nextL
  rw [hln,hC]
  try rfl
 obtain ⟨V,hV⟩: ∃V,nextV p.data.toList=V:=⟨_,rfl⟩
 rw [hV] at hnv⊢
 have n1:(n:Int)≤1000000000:=by omega
 have HH:=Lib.hid (And.intro hn (And.intro hC hnv))
 clear hp hln hC hnv hV
 go_enter Tryz.func81,Tryz.ntmps81
 go_wp2_with (fail)
 go_loopg [4] n (fun gk s4 wr=> ∃m:Nat,s4= .int .i64 m∧m≤n∧m≤gk∧Hid (cutF p.data.toList m=C)∧w=wr)
 case atStart=>exact ⟨n,rfl,Nat.le_refl _,Nat.le_refl _,Lib.hid HH.out.2.1,rfl⟩
 case round=>
  obtain ⟨m,rfl,hmn,hmg,HI,rfl⟩:=hrel
  have m0:(0:Int)≤m:=by omega
  cases m with
  |zero=>
   have h0:C=0:=by rw [←HI.out];rfl
   have hV:=HH.out.2.2
   rw [h0] at hV
   subst hV
   clear h0 HH HI
   go_wp2
   go_returns
   exact ⟨rfl,Ux.Touch.refl _ _⟩
  |succ m=>
   have q0:(((m+1:Nat):Int)>0):=by omega
   have q1:((m+1:Nat):Int)-1=m:=by omega
   have q2:(0:Int)≤m:=by omega
   have q3:(m:Int)<n:=by omega
   have his:m<p.size:=by have:=HH.out.1;omega
   obtain ⟨y,hy⟩: ∃y:UInt8,p[m]'his=y:=⟨_,rfl⟩
   have hyd:=Lib.data_getElem? p m his
   rw [hy] at hyd
   have hy256:=y.toNat_lt
   have hcu:=HI.out
   unfold cutF at hcu
   rw [hyd] at hcu
   by_cases h255:y.toNat=255
   ·have hy5:y=255:=UInt8.toNat.inj h255
    rw [hy5,if_pos rfl] at hcu
    have k1:((y.toNat:Int)==255)=true:=by rw [h255];rfl
    have HC:=Lib.hid hcu
    obtain ⟨g',rfl⟩: ∃g',gk=g'+1:=⟨gk-1,by omega⟩
    clear hyd hcu hy5 h255
    go_wp2
    go_roundg g'
    case measure=>omega
    case rel=>exact ⟨m,rfl,by omega,by omega,Lib.hid HC.out,rfl⟩
   ·have hy5:y≠255:=fun e=>h255 (by rw [e];rfl)
    rw [if_neg (by intro e;exact hy5 (Option.some.inj e))] at hcu
    have k1:((y.toNat:Int)==255)=false:=beq_false_of_ne (by omega)
    have k2:(((m+1:Nat):Int)==0)=false:=beq_false_of_ne (by omega)
    have hV:=HH.out.2.2
    rw [←hcu] at hV
    obtain ⟨z,hz⟩: ∃z,y.toNat+1=z:=⟨_,rfl⟩
    have hzI:(y.toNat:Int)+1=z:=by omega
    have z1:(0:Int)≤z:=by omega
    have z2:(z:Int)≤255:=by omega
    obtain ⟨Z,hZ⟩: ∃Z:ByteArray,(⟨#[UInt8.ofNat z]⟩:ByteArray)=Z:=⟨_,rfl⟩
    obtain ⟨A,hA⟩: ∃A,p.extract 0 m=A:=⟨_,rfl⟩
    obtain ⟨AZ,hAZ⟩: ∃S,A++Z=S:=⟨_,rfl⟩
    have dA:A.data.toList=p.data.toList.take m:=by rw [←hA];simp
    have hVV:V= .tuple #[.string AZ,.bool true]:=by
     rw [hV]
     dsimp only
     refine congrArg (fun s=>Value.tuple #[.string s,.bool true]) ?_
     apply ByteArray.ext
     rw [←hAZ,←hZ,ByteArray.data_append]
     apply Array.toList_inj.1
     rw [Array.toList_append,dA]
     show p.data.toList.take m++ [p.data.toList.getD m 0+1]=p.data.toList.take m++ [UInt8.ofNat z]
     congr 2
     rw [List.getD_eq_getElem?_getD,hyd,←hz]
     show y+1=UInt8.ofNat (y.toNat+1)
     apply UInt8.toNat.inj
     rw [UInt8.toNat_add,UInt8.toNat_ofNat']
     rfl
    subst hVV
    have sA:A.size=m:=by
     have e:A.data.toList.length=A.size:=rfl
     have e':p.data.toList.length=p.size:=rfl
     rw [←e,dA,List.length_take]
     omega
    have sZ:Z.size=1:=by rw [←hZ];rfl
    have j1: ¬((9223372036854775807:Int)<(m:Int)+1):=by omega
    have j2: ¬(9223372036854775807<m+1):=by omega
    obtain ⟨q,hq⟩: ∃q,w.heap.size=q:=⟨_,rfl⟩
    have r1:(w.alloc (.cells #[.int .u8 (z:Int)] 5)).heap[q]? =some (.cells #[.int .u8 (z:Int)] 5 (0,0)):=by rw [←hq];exact heap_alloc_new _ _
    have f1:=convN (w.alloc (.cells #[.int .u8 (z:Int)] 5)).drew q z Z (z:Int) rfl (by omega) hZ r1
    clear hyd hcu hy5 h255 hV hz hZ dA r1 HI HH
    go_upto_region 6 with (fail)
    refine Ux.wpr (fun _ _=>True) (.q [0,1,2,3,4,5,6,7,8] (.e 9 false false (.e 10 false false (.q [11] (.line [12,13]))))) ?_;repeat ((with_reducible refine Ux.qg ?_);refine Ux.qu ?_)
    go_wp2_with (fail)
    go_wp2_with (fail)
    repeat ((with_reducible refine Ux.qg ?_);refine Ux.qu ?_)
    go_wp2
    go_returns
    exact ⟨rfl,((Ux.Touch.refl _ _).alloc _).drew⟩
set_option maxHeartbeats 8000000 in
set_option maxRecDepth 100000 in
theorem rnext_ (p:ByteArray) (w:World) (hp:p.size≤1000000000):Calls Tryz.prog 40 #[.string p] w fun e w'=>e= .returned (nextV p.data.toList)∧Ux.Touch (fun _=>False) w w':=by
 obtain ⟨n,hn⟩: ∃n,p.size=n:=⟨_,rfl⟩
 have hln:p.data.toList.length=n:=hn
 obtain ⟨C,hC⟩: ∃c,cutF p.data.toList n=c:=⟨_,rfl⟩
 have hnv:nextV p.data.toList=match (match C with|0=>none|k+1=>some (p.data.toList.take k++ [p.data.toList.getD k 0+1])) with
  |none=> .tuple #[.string ⟨#[]⟩,.bool false]
  |some h=> .tuple #[.string ⟨h.toArray⟩,.bool true]:=by
  unfold nextV nextL
  rw [hln,hC]
  try rfl
 obtain ⟨V,hV⟩: ∃V,nextV p.data.toList=V:=⟨_,rfl⟩
 rw [hV] at hnv⊢
 have n1:(n:Int)≤1000000000:=by omega
 have HH:=Lib.hid (And.intro hn (And.intro hC hnv))
 clear hp hln hC hnv hV
 go_enter Tryz.func40,Tryz.ntmps40
 go_wp2_with (fail)
 go_loopg [4] n (fun gk s4 wr=> ∃m:Nat,s4= .int .i64 m∧m≤n∧m≤gk∧Hid (cutF p.data.toList m=C)∧w=wr)
 case atStart=>exact ⟨n,rfl,Nat.le_refl _,Nat.le_refl _,Lib.hid HH.out.2.1,rfl⟩
 case round=>
  obtain ⟨m,rfl,hmn,hmg,HI,rfl⟩:=hrel
  have m0:(0:Int)≤m:=by omega
  cases m with
  |zero=>
   have h0:C=0:=by rw [←HI.out];rfl
   have hV:=HH.out.2.2
   rw [h0] at hV
   subst hV
   clear h0 HH HI
   go_wp2
   go_returns
   exact ⟨rfl,Ux.Touch.refl _ _⟩
  |succ m=>
   have q0:(((m+1:Nat):Int)>0):=by omega
   have q1:((m+1:Nat):Int)-1=m:=by omega
   have q2:(0:Int)≤m:=by omega
   have q3:(m:Int)<n:=by omega
   have his:m<p.size:=by have:=HH.out.1;omega
   obtain ⟨y,hy⟩: ∃y:UInt8,p[m]'his=y:=⟨_,rfl⟩
   have hyd:=Lib.data_getElem? p m his
   rw [hy] at hyd
   have hy256:=y.toNat_lt
   have hcu:=HI.out
   unfold cutF at hcu
   rw [hyd] at hcu
   by_cases h255:y.toNat=255
   ·have hy5:y=255:=UInt8.toNat.inj h255
    rw [hy5,if_pos rfl] at hcu
    have k1:((y.toNat:Int)==255)=true:=by rw [h255];rfl
    have HC:=Lib.hid hcu
    obtain ⟨g',rfl⟩: ∃g',gk=g'+1:=⟨gk-1,by omega⟩
    clear hyd hcu hy5 h255
    go_wp2
    go_roundg g'
    case measure=>omega
    case rel=>exact ⟨m,rfl,by omega,by omega,Lib.hid HC.out,rfl⟩
   ·have hy5:y≠255:=fun e=>h255 (by rw [e];rfl)
    rw [if_neg (by intro e;exact hy5 (Option.some.inj e))] at hcu
    have k1:((y.toNat:Int)==255)=false:=beq_false_of_ne (by omega)
    have k2:(((m+1:Nat):Int)==0)=false:=beq_false_of_ne (by omega)
    have hV:=HH.out.2.2
    rw [←hcu] at hV
    obtain ⟨z,hz⟩: ∃z,y.toNat+1=z:=⟨_,rfl⟩
    have hzI:(y.toNat:Int)+1=z:=by omega
    have z1:(0:Int)≤z:=by omega
    have z2:(z:Int)≤255:=by omega
    obtain ⟨Z,hZ⟩: ∃Z:ByteArray,(⟨#[UInt8.ofNat z]⟩:ByteArray)=Z:=⟨_,rfl⟩
    obtain ⟨A,hA⟩: ∃A,p.extract 0 m=A:=⟨_,rfl⟩
    obtain ⟨AZ,hAZ⟩: ∃S,A++Z=S:=⟨_,rfl⟩
    have dA:A.data.toList=p.data.toList.take m:=by rw [←hA];simp
    have hVV:V= .tuple #[.string AZ,.bool true]:=by
     rw [hV]
     dsimp only
     refine congrArg (fun s=>Value.tuple #[.string s,.bool true]) ?_
     apply ByteArray.ext
     rw [←hAZ,←hZ,ByteArray.data_append]
     apply Array.toList_inj.1
     rw [Array.toList_append,dA]
     show p.data.toList.take m++ [p.data.toList.getD m 0+1]=p.data.toList.take m++ [UInt8.ofNat z]
     congr 2
     rw [List.getD_eq_getElem?_getD,hyd,←hz]
     show y+1=UInt8.ofNat (y.toNat+1)
     apply UInt8.toNat.inj
     rw [UInt8.toNat_add,UInt8.toNat_ofNat']
     rfl
    subst hVV
    have sA:A.size=m:=by
     have e:A.data.toList.length=A.size:=rfl
     have e':p.data.toList.length=p.size:=rfl
     rw [←e,dA,List.length_take]
     omega
    have sZ:Z.size=1:=by rw [←hZ];rfl
    have j1: ¬((9223372036854775807:Int)<(m:Int)+1):=by omega
    have j2: ¬(9223372036854775807<m+1):=by omega
    obtain ⟨q,hq⟩: ∃q,w.heap.size=q:=⟨_,rfl⟩
    have r1:(w.alloc (.cells #[.int .u8 (z:Int)] 5)).heap[q]? =some (.cells #[.int .u8 (z:Int)] 5 (0,0)):=by rw [←hq];exact heap_alloc_new _ _
    have f1:=convN (w.alloc (.cells #[.int .u8 (z:Int)] 5)).drew q z Z (z:Int) rfl (by omega) hZ r1
    clear hyd hcu hy5 h255 hV hz hZ dA r1 HI HH
    go_upto_region 6 with (fail)
    refine Ux.wpr (fun _ _=>True) (.q [0,1,2,3,4,5,6,7,8] (.e 9 false false (.e 10 false false (.q [11] (.line [12,13]))))) ?_;repeat ((with_reducible refine Ux.qg ?_);refine Ux.qu ?_)
    go_wp2_with (fail)
    go_wp2_with (fail)
    repeat ((with_reducible refine Ux.qg ?_);refine Ux.qu ?_)
    go_wp2
    go_returns
    exact ⟨rfl,((Ux.Touch.refl _ _).alloc _).drew⟩
end Go.Proofs.YtikmdhhbamggfaaGreatDoor
namespace Go.Proofs.YtikmdhhbamggfaaGreatDoor
open Go.RowKit
open Ux (Ent Row iv sv nextL)
open Ux.Sign (signs put cp raw foldN)
open Ux.Like (mat)
def hiN (l:List UInt8):ByteArray:=match nextL l with
 |none=>⟨#[]⟩
 |some h=>⟨h.toArray⟩
theorem nextV_eq (l:List UInt8):nextV l= .tuple #[.string (hiN l),.bool (nextL l).isSome]:=by
 unfold nextV hiN
 cases nextL l<;>rfl
theorem begS_ok (kd:Int) (p:ByteArray) (h:begB kd p=false):begS kd p=⟨#[]⟩:=by
 unfold begS
 unfold begB at h
 by_cases h1:kd=1
 ·subst h1;cases h
 ·rw [if_neg h1]
  have h2:begB kd p=false:=h
  rw [h2]
  rfl
theorem toList_emp (s:ByteArray):s.toList.isEmpty=decide (s.size=0):=by
 have e:s.data.toList.length=s.size:=rfl
 rw [Lib.toList_data]
 cases h:s.data.toList with
 |nil=>rw [h] at e;rw [←e];rfl
 |cons a l=>rw [h] at e;simp only [List.length_cons] at e;rw [decide_eq_false (by omega)];rfl
def rOk (kd:Int) (p:ByteArray):Bool:=begB kd p&& !(begS kd p).toList.isEmpty
theorem size_emp {s:ByteArray} (h:s.toList.isEmpty=true):s=⟨#[]⟩:=by
 rw [toList_emp] at h
 have h:=of_decide_eq_true h
 apply ByteArray.ext
 exact Array.size_eq_zero_iff.1 h
theorem rOk_false {kd:Int} {p:ByteArray} (h:rOk kd p=false):begS kd p=⟨#[]⟩:=by
 unfold rOk at h
 cases hb:begB kd p with
 |false=>exact begS_ok kd p hb
 |true=>
  rw [hb] at h
  simp at h
  exact size_emp (by simpa using h)
set_option maxHeartbeats 8000000 in
set_option maxRecDepth 100000 in
theorem prange_ (kd:Int) (LN:Nat) (sh bk:Bool) (tb:Option Addr) (hk:kd=1∨kd=2∨kd=3) (hok:okC kd LN tb=true) (v:Value) (l:List Nat) (r:List Int) (hr:r= []∨∃x r',r=x::r'∧x<0) (hl: ∀c∈l,c<1114368) (lo:Nat) (w:World) (hT:Tabs w) (hR:Row w lo 3 v (iv (sv l++r))) (hn:(sv l++r).length≤60) (pt:ByteArray) (hpt:(⟨(put l).toArray⟩:ByteArray)=pt) (hps:pt.size≤1000000) (S:ByteArray) (hS:begS kd pt=S) (hSs:S.size≤1000000000):
 Calls Tryz.prog 38 #[.agg #[v],cV kd (LN:Nat) sh bk tb] w fun e w'=>e= .returned (.tuple #[.string S,.string (hiN S.data.toList),.bool (rOk kd pt&&(nextL S.data.toList).isNone),.bool (rOk kd pt)])∧Ux.Touch (fun _=>False) w w':=by
 obtain ⟨a,c,rfl,_⟩:=hR.is
 obtain ⟨n,hnn⟩: ∃n,(iv (sv l++r)).length=n:=⟨_,rfl⟩
 rw [hnn] at hR⊢
 obtain ⟨W1,hW1⟩: ∃W,(w.alloc (.cells #[.slice a n c] 51)).alloc (.cells #[.int .i64 kd,.int .i64 (LN:Nat),.bool sh,.bool bk,.pointer tb] 25)=W:=⟨_,rfl⟩
 have T1:Ux.Touch (fun _=>False) w W1:=by rw [←hW1];exact ((Ux.Touch.refl _ _).alloc _).alloc _
 obtain ⟨q,hq⟩: ∃q,w.heap.size=q:=⟨_,rfl⟩
 have r1:W1.heap[q]? =some (.cells #[.slice a n c] 51 (0,0)):=by rw [←hW1,←hq];exact ((Ux.Touch.refl (fun _=>False) _).alloc _).heap (heap_alloc_new w _) (fun f=>f)
 have r2:W1.heap[q+1]? =some (.cells #[.int .i64 kd,.int .i64 (LN:Nat),.bool sh,.bool bk,.pointer tb] 25 (0,0)):=by
  rw [←hW1,←hq]
  have:=heap_alloc_new (w.alloc (.cells #[.slice a n c] 51)) (.cells #[.int .i64 kd,.int .i64 (LN:Nat),.bool sh,.bool bk,.pointer tb] 25)
  rwa [World.size_alloc] at this
 have HC:=Lib.hid fun W' (T:Ux.Touch (fun _=>False) W1 W')=>And.intro (show W'.cell? ⟨q,0,none⟩=some (.slice a n c) from T.cell (by rw [cell_of_row W1 q 0 _ _ (0,0) r1];rfl) (fun f=>f)) ((CAt.of r2).touch T)
 have HPX:=Lib.hid fun W (T:Ux.Touch (fun _=>False) w W)=>prefix_ (.slice a n c) l r hr hl lo W (hR.touch0 T) (by omega)
 rw [hpt] at HPX
 have HB:=Lib.hid fun W (T:Ux.Touch (fun _=>False) w W)=>begin_ kd LN sh bk tb hk hok pt W (hT.touch T) hps
 rw [hS] at HB
 have HN:=Lib.hid fun W=>pnext_ S W hSs
 obtain ⟨B,hB⟩: ∃B,begB kd pt=B:=⟨_,rfl⟩
 have hrk:rOk kd pt=(B&& !S.toList.isEmpty):=by unfold rOk;rw [hB,hS]
 have hBS:B=false→S=⟨#[]⟩:=fun h=>by rw [←hS];exact begS_ok kd pt (by rw [hB,h])
 rw [hB] at HB
 rw [nextV_eq] at HN
 rw [hrk]
 have hES:S.toList.isEmpty=true→S=⟨#[]⟩:=size_emp
 have hemp:hiN S.data.toList=⟨#[]⟩∨S.toList.isEmpty=false:=by
  cases h:S.toList.isEmpty with
  |false=>exact .inr rfl
  |true=>exact .inl (by rw [hES h];rfl)
 obtain ⟨E,hE⟩: ∃E,S.toList.isEmpty=E:=⟨_,rfl⟩
 obtain ⟨N,hN⟩: ∃N,nextL S.data.toList=N:=⟨_,rfl⟩
 obtain ⟨NS,hNS⟩: ∃b,N.isSome=b:=⟨_,rfl⟩
 have hNN:N.isNone= !NS:=by rw [←hNS];cases N<;>rfl
 obtain ⟨HI,hHI⟩: ∃x,hiN S.data.toList=x:=⟨_,rfl⟩
 rw [hN,hNS,hHI] at HN
 rw [hN,hHI,hNN,hE]
 rw [hE] at hES
 rw [hHI,hE] at hemp
 have HE:=Lib.hid hE
 have H0:=Lib.hid T1
 have HW:=Lib.hid (And.intro hW1 hq)
 clear hk hok hr hl hT hR hn hpt hps hS hSs hnn T1 r1 r2 hW1 hq hB hrk hE hN hNS hNN hHI
 unfold cV at HB⊢
 go_enter Tryz.func38,Tryz.ntmps38
 go_upto_region 1 with (fail)
 rw [HW.out.1,HW.out.2]
 obtain ⟨x0,x1,x2,x3,x4,x5⟩:=HC.out W1 (Ux.Touch.refl _ _)
 go_wp2_with (go_at_call 34;fail)
 refine (HPX.out W1 H0.out).mono ?_
 rintro e w2 ⟨rfl,T2⟩
 have H2:=Lib.hid (And.intro (H0.out.trans T2 fun _ _ f=>f) T2)
 clear T2 x0 x1 x2 x3 x4 x5
 obtain ⟨x0,x1,x2,x3,x4,x5⟩:=HC.out w2 H2.out.2
 go_wp2_with (go_at_call 39;fail)
 refine (HB.out w2 H2.out.1).mono ?_
 rintro e w3 ⟨rfl,T3⟩
 have H3:=Lib.hid (H2.out.1.trans T3 fun _ _ f=>f)
 clear T3 x0 x1 x2 x3 x4 x5
 cases B with
 |false=>
  obtain rfl:=hBS rfl
  have e1:HI=⟨#[]⟩:=by
   rcases hemp with h|h
   ·exact h
   ·rw [←HE.out,toList_emp] at h;exact absurd h (by decide)
  subst e1
  go_wp2
  go_returns
  exact ⟨by simp,H3.out⟩
 |true=>
  cases E with
  |true=>
   obtain rfl:=hES rfl
   have e1:HI=⟨#[]⟩:=by
    rcases hemp with h|h
    ·exact h
    ·cases h
   subst e1
   go_wp2
   go_returns
   exact ⟨by simp,H3.out⟩
  |false=>
   have k1:=HE.out
   go_wp2_with (go_at_call 81;fail)
   refine (HN.out w3).mono ?_
   rintro e w4 ⟨rfl,T4⟩
   have H4:=Lib.hid (H3.out.trans T4 fun _ _ f=>f)
   clear T4
   go_wp2
   go_returns
   exact ⟨by simp,H4.out⟩
end Go.Proofs.YtikmdhhbamggfaaGreatDoor
namespace Go.Ux
open Go Go.RowKit Go.ChangeShapes Go.WideShapes Go.Deep
section
variable {H:Type} {enc:TypeId×Value→H} {P:Program} {W:World} {b0 base:Nat} {r:Reach} {spare:Nat→Bool} {held:Bool} {v:Value} {d:DataW H} {p:List MemPlace}
def TView (w:World) (v:Value) (ss:List ByteArray):Prop:= ∃a c,v= .slice a ss.length c∧ss.length≤maxLen∧∀(i:Nat) (s:ByteArray),ss[i]? =some s→s.size≤maxLen∧∃b f,a=some ⟨b,f,none⟩∧b<w.heap.size∧w.cell? ⟨b,f+i,none⟩=some (.string s)
theorem TView.touch {w w':World} {v:Value} {ss:List ByteArray} (h:TView w v ss) (t:Touch (fun _=>False) w w'):TView w' v ss:=by
 obtain ⟨a,c,e,h1,h2⟩:=h
 refine ⟨a,c,e,h1,fun i s hs=> ?_⟩
 obtain ⟨h3,b,f,e1,h4,h5⟩:=h2 i s hs
 exact ⟨h3,b,f,e1,block_lt_of_cell (t.cell h5 fun f=>f),t.cell h5 fun f=>f⟩
theorem open_texts {t e:TypeId} (ht:P.underlying t=some (.slice e)) (he:P.underlying e=some .string) (hc:P.cellsOf e=1) (hv:Value.okWide P W r b0 t v) (h:DataW.Trod enc P W base spare held t v d p): ∃ss,TView W v ss:=by
 obtain ⟨a,len,c,rfl,hl,hi⟩:=open_row ht hv h
 obtain ⟨B,hB⟩:=choose_lt (α:=ByteArray) (n:=len) (p:=fun i k=>k.size≤maxLen∧∃b f,a=some ⟨b,f,none⟩∧b<W.heap.size∧W.cell? ⟨b,f+i,none⟩=some (.string k)) (fun i h=>by
  obtain ⟨ad,cs,n,y,rfl,h1,h2⟩:=hi i h
  rw [hc] at h1
  obtain ⟨hl1,hcell⟩:=cells_at h1
  obtain ⟨k,rfl,_,hw⟩:=DataW.trod_string he h2
  have h0:=hcell 0 (by omega)
  rw [Go.Deep.add_add] at h0
  obtain ⟨b,f,rfl⟩: ∃b f,ad=⟨b,f,none⟩:=by
   obtain ⟨ad',cs',n',y',e',h1',_⟩:=hi 0 (by omega)
   cases e'
   rw [hc] at h1'
   exact plain_row h1'
  rw [add_plain] at h0
  simp only [Nat.mul_one,Nat.add_zero,List.getElem?_cons_zero] at h0
  exact ⟨k,hw,b,f,rfl,block_lt_of_cell h0,h0⟩)
 refine ⟨(List.range len).map B,a,c,by simp,by simpa using hl,fun i k hk=> ?_⟩
 rw [List.getElem?_map] at hk
 have hil:i<len:=by
  have:=(List.getElem?_eq_some_iff.1 (show ((List.range len).map B)[i]? =some k by rw [List.getElem?_map];exact hk)).1
  simpa using this
 rw [List.getElem?_range hil] at hk
 cases hk
 exact hB i hil
end
end Go.Ux
