/- A part of the proof that the statement holds for every input that it names. No other condition. -/
import Derived.Test.YtmnkinaaoifpeaaGreatDoorUxNumAZ
import Derived.Test.YtmnkinaaoifpeaaGreatDoorUxMapAZ
import Derived.Test.YtmnkinaaoifpeaaGreatDoorRows
import Derived.Handy
import Derived.Laws.EntriesVeiled
import Derived.WalkSpells
import Derived.WalkLawsBesides
import Derived.BigQuiet
import Derived.Deep.Cut
import Derived.Deep.DeepCutAuto
import Derived.Lib.Overlaps
import Derived.Lib.Hide
import Derived.Test.YtmnkinaaoifpeaaGreatDoorUxCollAZ
import Derived.Test.YtmnkinaaoifpeaaGreatDoorShelfZ
import Derived.Test.YtmnkinaaoifpeaaGreatDoorUxFewZ
set_option linter.unusedVariables false
set_option linter.unusedSimpArgs false
namespace Go.Proofs.YtmnkinaaoifpeaaGreatDoor
open Go.RowKit
open Ux.Trie (fnd Pr)
def PrsAt (w:World) (v:Value) (l:List Pr):Prop:=
 ∃a c,v= .slice a l.length c∧∀i p,l[i]? =some p→∃b f,a=some ⟨b,f,none⟩∧w.cell? ⟨b,f+i*2,none⟩=some (.int .i64 p.1)∧w.cell? ⟨b,f+i*2+1,none⟩=some (.int .i64 p.2)
theorem may_yes {c v:Int} (h:0≤c∧c≤1114367∧-2147483648≤v∧v<2147483648):Ux.Trie.may (c,v)=true:=by
 unfold Ux.Trie.may;simp [h.1,h.2.1,h.2.2.1,h.2.2.2]
theorem may_no {c v:Int} (h: ¬(0≤c∧c≤1114367∧-2147483648≤v∧v<2147483648)):Ux.Trie.may (c,v)=false:=by
 rw [Bool.eq_false_iff]
 intro e
 unfold Ux.Trie.may at e
 simp only [Bool.and_eq_true,decide_eq_true_eq] at e
 exact h ⟨e.1.1.1,e.1.1.2,e.1.2,e.2⟩
theorem valid17 (c v:Int) (w:World):Calls Tryz.prog 210 #[.agg #[.int .i64 c,.int .i64 v]] w fun e w'=>e= .returned (.bool (Ux.Trie.may (c,v)))∧Below w.heap.size w w':=by
 go_enter Tryz.func210,Tryz.ntmps210
 go_wp2
 all_goals (go_ret;refine ⟨?_,(Below.refl _ _).alloc (Nat.le_refl _) _⟩)
 all_goals first
  |(rw [may_yes (by omega)];rfl)
  |(rw [may_no (by omega)];rfl)
  |(rw [show Ux.Trie.may (c,v)=decide (v≤2147483647) by
     by_cases hv:v≤2147483647
     ·rw [may_yes (by omega),decide_eq_true hv]
     ·rw [may_no (by omega),decide_eq_false hv]]
    rfl)
theorem bad16 (c v:Int) (w:World):Calls Tryz.prog 209 #[.agg #[.int .i64 c,.int .i64 v]] w fun e w'=>e= .returned (.bool (!Ux.Trie.may (c,v)))∧Below w.heap.size w w':=by
 go_enter Tryz.func209,Tryz.ntmps209
 go_wp2_with (go_at_call 210;refine (valid17 _ _ _).mono ?_;rintro e w' ⟨rfl,hb⟩)
 go_ret
 refine ⟨rfl,?_⟩
 exact ((Below.refl _ _).alloc (Nat.le_refl _) _).trans (hb.mono (by simp))
end Go.Proofs.YtmnkinaaoifpeaaGreatDoor
namespace Go.Proofs.YtmnkinaaoifpeaaGreatDoor
open Go.RowKit
open Ux.Trie (fnd Pr)
def blCells (bl:List (List Int)):List Value:=bl.flatMap fun b=>b.map (Value.int .i32)
end Go.Proofs.YtmnkinaaoifpeaaGreatDoor
namespace Go.Proofs.YtmnkinaaoifpeaaGreatDoor
open Go.RowKit
open Ux.Trie (fnd Pr)
theorem PrsAt.touch {R:Nat→Prop} {w w':World} {v:Value} {l:List Pr} (h:PrsAt w v l) (ht:Ux.Touch R w w') (hn: ∀b f n c,v= .slice (some ⟨b,f,none⟩) n c→¬R b):PrsAt w' v l:=by
 obtain ⟨a,c,rfl,hc⟩:=h
 refine ⟨a,c,rfl,fun i p hp=> ?_⟩
 obtain ⟨b,f,rfl,h1,h2⟩:=hc i p hp
 exact ⟨b,f,rfl,ht.cell h1 (hn _ _ _ _ rfl),ht.cell h2 (hn _ _ _ _ rfl)⟩
theorem any_drop {l:List Pr} {i:Nat} {p:Pr} (h:l[i]? =some p) (f:Pr→Bool):(l.drop i).any f=(f p||(l.drop (i+1)).any f):=by
 obtain ⟨hi,e⟩:=List.getElem?_eq_some_iff.1 h
 rw [List.drop_eq_getElem_cons hi,e]
 rfl
set_option maxHeartbeats 2000000 in
theorem index24 (v:Value) (l:List Pr) (w:World) (h:PrsAt w v l) (hl:l.length≤1152921504606846976):
 Calls Tryz.prog 240 #[v,.func (.func 209) #[] #[]] w fun e w'=> ∃k:Int,e= .returned (.int .i64 k)∧(decide (k≥0))=(l.any fun p=> !Ux.Trie.may p)∧Ux.Touch (fun _=>False) w w':=by
 obtain ⟨a,cp,rfl,hcell⟩:=h
 obtain ⟨n,hn⟩: ∃n,l.length=n:=⟨_,rfl⟩
 obtain ⟨r,hr⟩: ∃r,(l.any fun p=> !Ux.Trie.may p)=r:=⟨_,rfl⟩
 rw [hn] at hl
 rw [hn,hr]
 have HC:=Lib.hid hcell
 have HR:=Lib.hid (And.intro hr hn)
 have j0:(n:Int)≤1152921504606846976:=by omega
 clear hcell hr hn hl
 go_enter Tryz.func240,Tryz.ntmps240
 go_wp2
 go_loopg [8] n (fun g s8 wr=> ∃i:Nat,s8= .int .i64 i∧i+g=n∧Hid ((l.drop i).any (fun p=> !Ux.Trie.may p)=r)∧Hid (Ux.Touch (fun _=>False) w wr))
 case atStart=>exact ⟨0,rfl,by omega,Lib.hid HR.out.1,Lib.hid (Ux.Touch.refl _ _)⟩
 case round=>
  obtain ⟨i,rfl,hig,HF,HT⟩:=hrel
  have p0:(0:Int)≤i:=by omega
  by_cases hlt:i<n
  ·obtain ⟨g',rfl⟩: ∃g',gk=g'+1:=⟨gk-1,by omega⟩
   obtain ⟨p,hp⟩: ∃p,l[i]? =some p:=⟨l[i]'(by have:=HR.out.2;omega),List.getElem?_eq_getElem (by have:=HR.out.2;omega)⟩
   obtain ⟨b,f,ha,c1,c2⟩:=HC.out i p hp
   have hd:=any_drop hp fun p=> !Ux.Trie.may p
   subst ha
   have c1:=HT.out.cell c1 (fun f=>f)
   have c2:=HT.out.cell c2 (fun f=>f)
   have j1:(i:Int)<n:=by omega
   have HP:=Lib.hid hp
   obtain ⟨pc,pv⟩:=p
   obtain ⟨m,hm⟩: ∃m,Ux.Trie.may (pc,pv)=m:=⟨_,rfl⟩
   rw [hm] at hd
   have HD:=Lib.hid hd
   have cB: ∀w,Calls Tryz.prog 209 #[.agg #[.int .i64 pc,.int .i64 pv]] w fun e w'=>e= .returned (.bool (!m))∧Below w.heap.size w w':=fun w=>by
    have:=bad16 pc pv w
    rwa [hm] at this
   have CB:=Lib.hid cB
   clear hd hp hm cB
   cases m
   ·go_wp2_with (go_at_call 209;refine (CB.out _).mono ?_;rintro e w' ⟨rfl,hb⟩)
    go_ret
    exact ⟨_,rfl,by rw [←HF.out,HD.out];simp,HT.out.trans (Ux.Touch.of_below hb) (fun _ _ h=>h)⟩
   ·go_wp2_with (go_at_call 209;refine (CB.out _).mono ?_;rintro e w' ⟨rfl,hb⟩)
    go_roundg g'
    case measure=>omega
    case rel=>exact ⟨i+1,rfl,by omega,Lib.hid (by have:=HD.out;simp at this;rw [←HF.out,←this]),Lib.hid (HT.out.trans (Ux.Touch.of_below hb) (fun _ _ h=>h))⟩
  ·have q1: ¬(i:Int)<n:=by omega
   have hr0:r=false:=by
    rw [←HF.out,List.drop_eq_nil_of_le (by have:=HR.out.2;omega)]
    rfl
   subst hr0
   clear hlt
   go_wp2
   go_ret
   exact ⟨_,rfl,by decide,HT.out⟩
theorem contains15 (v:Value) (l:List Pr) (w:World) (h:PrsAt w v l) (hl:l.length≤1152921504606846976):
 Calls Tryz.prog 208 #[v,.func (.func 209) #[] #[]] w fun e w'=>e= .returned (.bool (l.any fun p=> !Ux.Trie.may p))∧Ux.Touch (fun _=>False) w w':=by
 have c:=Lib.hid (index24 v l w h hl)
 obtain ⟨r,hr⟩: ∃r,(l.any fun p=> !Ux.Trie.may p)=r:=⟨_,rfl⟩
 rw [hr] at c⊢
 clear hr h
 go_enter Tryz.func208,Tryz.ntmps208
 go_wp2_with (go_at_call 240;refine c.out.mono ?_;rintro e w' ⟨k,rfl,hk,ht⟩)
 go_ret
 exact ⟨by rw [←hk];rfl,ht⟩
end Go.Proofs.YtmnkinaaoifpeaaGreatDoor
namespace Go.Proofs.YtmnkinaaoifpeaaGreatDoor
open Go.RowKit
open Ux.Trie (fnd Pr blk zero64)
def seenG (l:List Pr):Int→Option Value:=fun c=>if c∈l.map (·.1) then some (.bool true) else none
def arr (b:List Int):Value:= .agg (b.map (Value.int .i32)).toArray
def ownG (l:List Pr):Int→Option Value:=fun k=>if k∈l.map (fun p=>p.1/64) then some (arr (blk (fnd l) k)) else none
theorem arr_zero:arr zero64= .agg (Array.replicate 64 (.int .i32 0)):=by
 unfold arr zero64
 rw [List.map_replicate]
 rfl
theorem ownG_get (l:List Pr) (k:Int):(ownG l k).getD (.agg (Array.replicate 64 (.int .i32 0)))=arr (blk (fnd l) k):=by
 unfold ownG
 split
 ·rfl
 ·rename_i h
  rw [←arr_zero,Ux.Trie.blk_off (ks:=l.map fun p=>p.1/64) (fun p hp=>List.mem_map.2 ⟨p,hp,rfl⟩) k h]
  rfl
theorem take_snoc {l:List Pr} {i:Nat} {p:Pr} (h:l[i]? =some p):l.take (i+1)=l.take i++ [p]:=by rw [List.take_add_one,h];rfl
theorem seen_step {l:List Pr} {i:Nat} {p:Pr} (h:l[i]? =some p):(fun x=>if x=p.1 then some (Value.bool true) else seenG (l.take i) x)=seenG (l.take (i+1)):=by
 funext x
 unfold seenG
 rw [take_snoc h]
 by_cases e:x=p.1
 ·simp [e]
 ·have: ¬x=p.1:=e
  simp [e]
theorem blk_set {f g:Int→Int} {c v:Int} (hg: ∀x,g x=if x=c then v else f x):blk g (c/64)=(blk f (c/64)).set (c % 64).toNat v:=by
 apply List.ext_getElem?
 intro j
 by_cases hj:j<64
 ·rw [Ux.Trie.blk_get g _ hj,List.getElem?_set,hg]
  by_cases hjc:(c % 64).toNat=j
  ·rw [if_pos (by omega),if_pos hjc,if_pos (by rw [Ux.Trie.blk_length];omega)]
  ·rw [if_neg (by omega),if_neg hjc,Ux.Trie.blk_get f _ hj]
 ·rw [List.getElem?_eq_none (by rw [Ux.Trie.blk_length];omega),List.getElem?_eq_none (by rw [List.length_set,Ux.Trie.blk_length];omega)]
theorem blk_same {f g:Int→Int} {c v:Int} (hg: ∀x,g x=if x=c then v else f x) {k:Int} (hk:k≠c/64):blk g k=blk f k:=by
 apply List.ext_getElem?
 intro j
 by_cases hj:j<64
 ·rw [Ux.Trie.blk_get g _ hj,Ux.Trie.blk_get f _ hj,hg,if_neg (by omega)]
 ·rw [List.getElem?_eq_none (by rw [Ux.Trie.blk_length];omega),List.getElem?_eq_none (by rw [Ux.Trie.blk_length];omega)]
theorem own_step {l:List Pr} {i:Nat} {p:Pr} (h:l[i]? =some p) (hn:p.1∉(l.take i).map (·.1)):
 (fun x=>if x=p.1/64 then some (.agg (((blk (fnd (l.take i)) (p.1/64)).map (Value.int .i32)).set (p.1 % 64).toNat (.int .i32 p.2)).toArray) else ownG (l.take i) x)=ownG (l.take (i+1)):=by
 have hf: ∀x,fnd (l.take (i+1)) x=if x=p.1 then p.2 else fnd (l.take i) x:=fun x=>by
  rw [take_snoc h]
  exact Ux.Trie.fnd_append _ p (fun q hq e=>hn (List.mem_map.2 ⟨q,hq,e⟩)) x
 funext x
 unfold ownG
 by_cases e:x=p.1/64
 ·subst e
  rw [if_pos rfl,if_pos (by rw [take_snoc h];simp),blk_set hf]
  unfold arr
  rw [List.map_set]
 ·rw [if_neg e,blk_same hf e,take_snoc h]
  simp [e]
theorem not_seen {l:List Pr} {c:Int} (h:(seenG l c).isSome=false):c∉l.map (·.1):=by
 unfold seenG at h
 split at h
 ·cases h
 ·assumption
theorem apart_take {l:List Pr} {i:Nat} {p:Pr} (h:l[i]? =some p) (ha:Ux.Trie.apart (l.take i)) (hn:p.1∉(l.take i).map (·.1)):Ux.Trie.apart (l.take (i+1)):=by
 rw [take_snoc h]
 exact Ux.Trie.apart_snoc ha fun q hq e=>hn (List.mem_map.2 ⟨q,hq,e⟩)
theorem not_apart {l:List Pr} {i:Nat} {p:Pr} (h:l[i]? =some p) (hn:p.1∈(l.take i).map (·.1)): ¬Ux.Trie.apart l:=by
 intro ha
 obtain ⟨q,hq,e⟩:=List.mem_map.1 hn
 obtain ⟨j,hj,rfl⟩:=List.mem_take_iff_getElem.1 hq
 obtain ⟨hi,rfl⟩:=List.getElem?_eq_some_iff.1 h
 exact List.pairwise_iff_getElem.1 ha j i (by omega) hi (by omega) e
end Go.Proofs.YtmnkinaaoifpeaaGreatDoor
namespace Go.Proofs.YtmnkinaaoifpeaaGreatDoor
open Go.RowKit
open Ux.Trie (fnd Pr blk zero64)
theorem keyed3:Go.Maps.Keyed Tryz.prog 3:=Go.Maps.int_keyed Tryz.underlying3
theorem zero44: ∀w,(zeroValue 318).run Tryz.prog w= .ok (.agg (Array.replicate 64 (.int .i32 0))) w:=(zero_of_info (P:=Tryz.prog) (t:=318) (n:=64) (by kernel_rfl)).1
theorem size44:(Tryz.prog.info? 318).map (·.size)=some 64:=(zero_of_info (P:=Tryz.prog) (t:=318) (v:= .agg (Array.replicate 64 (.int .i32 0))) (by kernel_rfl)).2
theorem keyI {c:Int} (h1: -9223372036854775808≤c) (h2:c≤9223372036854775807):Go.keyOf Tryz.prog 3 (.int .i64 c)=some (.int .i64 c):=Go.Maps.keyOf_int_mk Tryz.underlying3 (by
 have e1:IntKind.i64.min= -9223372036854775808:=rfl
 have e2:IntKind.i64.max=9223372036854775807:=rfl
 simp [Lit.wf,e1,e2,h1,h2])
theorem zero4: ∀w,(zeroValue 4).run Tryz.prog w= .ok (.bool false) w:=(zero_of_info (P:=Tryz.prog) (t:=4) (n:=1) (by kernel_rfl)).1
theorem seen_get (l:List Pr) (c:Int):(seenG l c).getD (.bool false)= .bool (seenG l c).isSome:=by
 unfold seenG;split<;>rfl
def TrieAt (w:World) (t:Nat) (ks:List Int) (f:Int→Int):Prop:=
 ∃bb c am:Nat,∃G:Int→Option Value,w.cell? ⟨t,0,none⟩=some (.slice (some ⟨bb,0,none⟩) (Ux.Trie.bls ks f).length c)∧w.cell? ⟨t,1,none⟩=some (.map (some am))∧
  (∀j v,(blCells (Ux.Trie.bls ks f))[j]? =some v→w.cell? ⟨bb,j,none⟩=some v)∧Ux.MapIs Tryz.prog 3 w am ks.length (Ux.intF G)∧
  (∀k∈ks,∃i:Nat,G k=some (.int .i64 i)∧(Ux.Trie.bls ks f)[i]? =some (blk f k))∧(∀k,k∉ks→G k=none∧blk f k=zero64)∧
  ks.Pairwise (· < ·)∧(∀k∈ks,0≤k∧k≤17412)∧ks.length≤600
def BuildSays (l:List Pr) (e:Ending) (w:World):Prop:=
 ((l.any fun p=> !Ux.Trie.may p)=true∧e= .returned (.tuple #[.pointer none,.int .i64 1]))∨
 ((l.any fun p=> !Ux.Trie.may p)=false∧¬Ux.Trie.apart l∧e= .returned (.tuple #[.pointer none,.int .i64 64]))∨
 ((l.any fun p=> !Ux.Trie.may p)=false∧Ux.Trie.apart l∧∃t ks,e= .returned (.tuple #[.pointer (some ⟨t,0,none⟩),.int .i64 0])∧TrieAt w t ks (fnd l)∧∀k,k∈ks↔∃p∈l,p.1/64=k)
theorem info44:(Tryz.prog.info? 318).map (fun i=>(i.zero,i.size,i.bytes))=some (some (.agg (Array.replicate 64 (.int .i32 0))),64,256):=by kernel_rfl
theorem app46 (v:Value) (n:Nat) (xs:List Value) (w:World) (h:w.ownsRow 0 318 64 v n xs) (hn:n≤1000) (g:Nat) (A:Array Value) (hA:A.size=64) (h1:A.all (·.oneCell')=true) (hg:w.heap[g]? =some (.cells A 318 (0,0))):
 ∃r w',(∀ty,(Builtin.append_ #[319,319] ty #[v,.slice (some ⟨g,0,none⟩) 1 1]).run Tryz.prog w= .ok r w')∧w'.ownsRow 0 318 64 r (n+1) (xs++A.toList)∧Ux.Touch (fun k=>v.ownBlock=some k) w w'∧(r.ownBlock=v.ownBlock∨∃g,r.ownBlock=some g∧w.heap.size≤g):=by
 obtain ⟨i0,hi0,hz0,hz1,hz2⟩:=info_parts info44
 have src:Src Tryz.prog 64 319 (.slice (some ⟨g,0,none⟩) 1 1) 1 A.toList w:=Src.ofSlice w Tryz.underlying319 ⟨g,0,none⟩ 1 1 A.toList (by simp [hA]) (fun j u hj=>by
  have e:(⟨g,0,none⟩:Addr).add j=⟨g,j,none⟩:=by rw [Addr.add_mid];simp
  rw [e,cell_of_row w g j A 318 (0,0) hg]
  simpa using hj) (fun u hu=>Array.all_eq_true_iff_forall_mem.1 h1 u (by simpa using hu))
 have key:=fun ty=>Ux.run_app (P:=Tryz.prog) w 319 ty 318 i0 (.agg (Array.replicate 64 (.int .i32 0))) 64 256 Tryz.underlying319 hi0 hz0 hz1 hz2 (by simp [Value.cells]) (by omega) v n xs h _ 1 A.toList src (by simp only [maxLen];omega) (by omega)
 obtain ⟨r,w',hr,ho,ht,hbk,_⟩:=key 319
 exact ⟨r,w',fun ty=>hr,ho,ht,hbk⟩
def klit (b:List Int):Lit:= .string (keyBytes (b.map (Lit.int .i32)))
def fits (b:List Int):Prop:=b.length=64∧∀z∈b,-2147483648≤z∧z<2147483648
theorem key44 {b:List Int} (h:fits b):Go.keyOf Tryz.prog 318 (arr b)=some (klit b):=
 Ux.keyOf_ints (P:=Tryz.prog) (ar:=64) (e:=21) (q:= .i32) Tryz.underlying318 Tryz.underlying21 (by kernel_rfl) (by kernel_rfl) (by kernel_rfl) (m:=Tryz.prog.types.size-1) (by kernel_rfl) h.1 (fun z hz=>by
  have e1:IntKind.i32.min= -2147483648:=rfl
  have e2:IntKind.i32.max=2147483647:=rfl
  have:=h.2 z hz
  simp [Lit.wf,e1,e2]
  omega)
theorem laid44:laidOutB Tryz.prog=true:=by kernel_rfl
theorem row44:318<Tryz.prog.types.size:=of_decide_eq_true (by kernel_rfl)
theorem wide44:(match Tryz.prog.underlying 318 with|some (.array _ _)|some (.struct _)=>true|_=>false)=true:=by rw [Tryz.underlying318]
set_option maxRecDepth 1000000 in
theorem keyed44:Go.Maps.Keyed Tryz.prog 318:=Go.Maps.Keyed.of_law (deep_law_laid laid44 (m:=3) (by omega) row44 (by kernel_rfl) wide44)
end Go.Proofs.YtmnkinaaoifpeaaGreatDoor
namespace Go.Proofs.YtmnkinaaoifpeaaGreatDoor
open Go.RowKit
open Ux.Trie (fnd Pr blk zero64)
theorem wf32 {z:Int} (h: -2147483648≤z∧z<2147483648):(Lit.int .i32 z).wf=true:=by
 have e1:IntKind.i32.min= -2147483648:=rfl
 have e2:IntKind.i32.max=2147483647:=rfl
 simp [Lit.wf,e1,e2]
 omega
theorem alike32: ∀(a b:List Int),a.length=b.length→Alike (a.map (Lit.int .i32)) (b.map (Lit.int .i32))
 | [],[],_=>trivial
 |_::a,_::b,h=>⟨rfl,alike32 a b (by simpa using h)⟩
 | [],_::_,h=>by simp at h
 |_::_,[],h=>by simp at h
theorem map_int_inj: ∀{a b:List Int},a.map (Lit.int .i32)=b.map (Lit.int .i32)→a=b
 | [],[],_=>rfl
 |x::a,y::b,h=>by
  simp only [List.map_cons,List.cons.injEq,Lit.int.injEq,true_and] at h
  rw [h.1,map_int_inj h.2]
 | [],_::_,h=>by simp at h
 |_::_,[],h=>by simp at h
theorem klit_inj {a b:List Int} (ha:fits a) (hb:fits b) (h:klit a=klit b):a=b:=by
 unfold klit at h
 have h:=keyBytes_inj (alike32 a b (ha.1.trans hb.1.symm)) (fun x hx=>by
  obtain ⟨z,hz,rfl⟩:=List.mem_map.1 hx
  exact wf32 (ha.2 z hz)) (fun x hx=>by
  obtain ⟨z,hz,rfl⟩:=List.mem_map.1 hx
  exact wf32 (hb.2 z hz)) (Lit.string.inj h)
 exact map_int_inj h
def foundF (bl:List (List Int)):Lit→Option Value:=fun kl=>(bl.findIdx? fun b=>kl.sameKey (klit b)).map fun i=> .int .i64 (i:Nat)
theorem klit_self (b:List Int):(klit b).sameKey (klit b)=true:=WideAt.sameKey_self (by unfold klit;trivial)
theorem foundF_snoc {bl:List (List Int)} {b:List Int} (hf: ∀x∈bl,fits x) (hb:fits b) (hn:b∉bl) (kl:Lit):Ux.upd (foundF bl) (klit b) (.int .i64 bl.length) kl=foundF (bl++ [b]) kl:=by
 unfold Ux.upd foundF
 rw [List.findIdx?_append]
 by_cases h:kl.sameKey (klit b)=true
 ·rw [if_pos h]
  have e:=WideAt.sameKey_eq h
  subst e
  have:bl.findIdx? (fun x=>(klit b).sameKey (klit x))=none:=by
   rw [List.findIdx?_eq_none_iff]
   intro x hx
   rw [Bool.eq_false_iff]
   intro e
   exact hn (by rw [klit_inj hb (hf x hx) (WideAt.sameKey_eq e)];exact hx)
  rw [this]
  simp [List.findIdx?_cons,klit_self]
 ·rw [if_neg h]
  have h':kl.sameKey (klit b)=false:=by simpa using h
  simp [List.findIdx?_cons,h']
theorem foundF_in {bl:List (List Int)} {b:List Int} (hf: ∀x∈bl,fits x) (hb:fits b):(∃i:Nat,bl[i]? =some b∧foundF bl (klit b)=some (.int .i64 i))∨(b∉bl∧foundF bl (klit b)=none):=by
 unfold foundF
 cases h:bl.findIdx? fun x=>(klit b).sameKey (klit x) with
 |none=>
  refine .inr ⟨fun hm=> ?_,rfl⟩
  have:=List.findIdx?_eq_none_iff.1 h b hm
  rw [klit_self] at this
  cases this
 |some i=>
  obtain ⟨hi,h1,_⟩:=List.findIdx?_eq_some_iff_getElem.1 h
  refine .inl ⟨i,?_,rfl⟩
  rw [List.getElem?_eq_getElem hi,klit_inj hb (hf _ (List.getElem_mem hi)) (WideAt.sameKey_eq h1)]
theorem blk_fits {l:List Pr} (h: ∀p∈l,Ux.Trie.may p=true) (k:Int):fits (blk (fnd l) k):=by
 refine ⟨Ux.Trie.blk_length _ _,fun z hz=> ?_⟩
 unfold blk at hz
 obtain ⟨j,_,rfl⟩:=List.mem_map.1 hz
 by_cases h0:fnd l (64*k+(j:Int))=0
 ·rw [h0];omega
 ·have:=h _ (Ux.Trie.mem_of_fnd h0)
  unfold Ux.Trie.may at this
  simp only [Bool.and_eq_true,decide_eq_true_eq] at this
  exact ⟨this.1.2,this.2⟩
theorem zero_fits:fits zero64:=⟨by simp [zero64],fun z hz=>by rw [List.eq_of_mem_replicate hz];omega⟩
theorem mem_addAll_fits {bl l:List (List Int)} (hb: ∀x∈bl,fits x) (hl: ∀x∈l,fits x): ∀x∈Ux.Trie.addAll bl l,fits x:=fun x hx=>((Ux.Trie.mem_addAll _ _).1 hx).elim (hb x) (hl x)
theorem blCells_snoc (bl:List (List Int)) (b:List Int):blCells (bl++ [b])=blCells bl++b.map (Value.int .i32):=by simp [blCells]
structure Tell (wr:World) (q gk:Nat) (v:Value) (bl:List (List Int)) (done:List Int) (f:Int→Int):Prop where
 at_: ∃G,Ux.MapIs Tryz.prog 3 wr q done.length (Ux.intF G)∧(∀k∈done,∃i:Nat,G k=some (.int .i64 i)∧bl[i]? =some (blk f k))∧∀k,k∉done→G k=none
 found:Ux.MapIs Tryz.prog 318 wr (q+2) bl.length (foundF bl)
 obj:wr.heap[q+1]? =some (.cells #[v,.map (some q)] 321 (0,0))
 row:wr.ownsRow 0 318 64 v bl.length (blCells bl)
 own: ∀g,v.ownBlock=some g→q+3≤g∧g≠gk
 size:q+3≤wr.heap.size
theorem obj_set {w:World} {b:Nat} {x y v:Value} {t:TypeId} (h:w.heap[b]? =some (.cells #[x,y] t (0,0))):(w.setCell ⟨b,0,none⟩ v).heap[b]? =some (.cells #[v,y] t (0,0)):=by
 unfold World.setCell
 simp only [Array.getElem?_modify,if_pos,h]
 rfl
theorem Tell.touch {R:Nat→Prop} {wr w':World} {q gk:Nat} {v:Value} {bl:List (List Int)} {done:List Int} {f:Int→Int} (h:Tell wr q gk v bl done f) (ht:Ux.Touch R wr w') (hR: ∀i,R i→¬(q≤i∧i<q+3)) (hv: ∀g,v.ownBlock=some g→¬R g):Tell w' q gk v bl done f:=by
 obtain ⟨⟨G,h1,h2⟩,h3,h4,h5,h6,h7⟩:=h
 exact ⟨⟨G,h1.touch ht (fun e=>hR _ e (by omega)),h2⟩,h3.touch ht (fun e=>hR _ e (by omega)),ht.heap h4 (fun e=>hR _ e (by omega)),Ux.own_touch h5 ht hv,h6,Nat.le_trans h7 ht.size⟩
def keys0 (l:List Pr):List Int:=Ux.Trie.addAll [] (l.map fun p=>p.1/64)
theorem keys0_nodup (l:List Pr):(keys0 l).Nodup:=Ux.Trie.nodup_addAll _ (by simp)
theorem keys0_mem (l:List Pr) (k:Int):k∈keys0 l↔k∈l.map (fun p=>p.1/64):=by unfold keys0;rw [Ux.Trie.mem_addAll];simp
theorem ownG_some (l:List Pr) (k:Int):(Ux.intF (ownG l) (.int .i64 k)).isSome=true↔k∈l.map (fun p=>p.1/64):=by
 show (ownG l k).isSome=true↔_
 unfold ownG
 split
 case isTrue h=>exact ⟨fun _=>h,fun _=>rfl⟩
 case isFalse h=>exact ⟨fun e=>(nomatch e),fun e=>absurd e h⟩
end Go.Proofs.YtmnkinaaoifpeaaGreatDoor
namespace Go.Proofs.YtmnkinaaoifpeaaGreatDoor
open Go.RowKit
open Go.Shelf Go.Maps
open Ux.Trie (Pr)
theorem sortsA (m:Nat):AnyZI.SortsIn Tryz.prog Tryz.sortedA_ren Fence.wide m:=
 ⟨fun blk off cap ss W hH hblk hsz=>callsIn_wide.2 (Tryz.slices_Sort_int blk off cap ss W hH hblk hsz),
  fun p cap W=>callsIn_wide.2 (Tryz.slices_Sort_int_none p cap W)⟩
theorem keys19 (mb:Option Nat) (W:World):Calls Tryz.prog 211 #[.map mb] W fun e w'=>e= .returned (.func (.func 241) #[] #[.pointer (some ⟨W.heap.size,0,none⟩)])∧w'=W.alloc (.cells #[.map mb] 316):=
 (callsIn_wide (n:=5)).1 (AnyZI.keys_in Tryz.keysA Fence.wide 5 trivial rfl mb W)
theorem sorted_rising {ss ks0:List Int} (h:ks0.Nodup) (hp:ss.Perm ks0):(ss.mergeSort fun x y=>decide (x≤y)).Pairwise (· < ·)∧(ss.mergeSort fun x y=>decide (x≤y)).Perm ks0:=by
 have h1:(ss.mergeSort fun x y=>decide (x≤y)).Perm ks0:=(List.mergeSort_perm _ _).trans hp
 have h2:(ss.mergeSort fun x y=>decide (x≤y)).Pairwise fun a b=>decide (a≤b)=true:=List.pairwise_mergeSort (fun a b c h h'=>by simp at*;omega) (fun a b=>by simp;omega) _
 have h3:(ss.mergeSort fun x y=>decide (x≤y)).Nodup:=h1.nodup_iff.2 h
 refine ⟨?_,h1⟩
 refine List.Pairwise.imp₂ (fun a b hab hne=> ?_) h2 h3
 have:a≤b:=by simpa using hab
 have hne:a≠b:=hne
 omega
theorem sorted18 (fn T:Nat) (hE: ∀args w,(callFunc fn args).run Tryz.prog w= .ok (.enter fn args) w) {w:World} {b n:Nat} {g:Int→Option Value} {ks0:List Int} (h:Ux.MapIs Tryz.prog 3 w b n (Ux.intF g)) (hnd:ks0.Nodup) (hm: ∀x,x∈ks0↔(Ux.intF g (.int .i64 x)).isSome=true) (hn:n≤100000)
 (hG: ∀D0:DataW Value,w.ownsMap Tryz.prog 3 Ux.rawE b n D0→SeqGives Fence.wide 2 Tryz.prog fn #[.pointer (some ⟨w.heap.size,0,none⟩)] encZ (fun ss=>ss.Perm (intKeys D0)) (Maps.size D0) (w.alloc (.cells #[.map (some b)] T))):
 Calls Tryz.prog 38 #[.func (.func fn) #[] #[.pointer (some ⟨w.heap.size,0,none⟩)]] (w.alloc (.cells #[.map (some b)] T)) fun e w'=> ∃(v:Value) (ks:List Int),e= .returned v∧ks.Perm ks0∧ks.Pairwise (· < ·)∧
  w'.ownsRow (w.heap.size+1) 3 1 v ks.length (ks.map (Value.int .i64))∧Ux.Touch (fun _=>False) w w':=by
 obtain ⟨D0,hD,hp,hs,hsn⟩:=h.keys keyed3 Tryz.underlying3 hnd hm
 have cS:=AnyZI.sorted_in Tryz.sortedA Fence.wide 5 trivial trivial trivial trivial rfl (by omega) (sortsA _) (enters_of Tryz.func85 (by kernel_rfl) rfl) fn #[.pointer (some ⟨w.heap.size,0,none⟩)] trivial hE _ _ (by unfold maxLen;omega) (by omega) _ (hG D0 hD)
 refine (callsIn_wide (n:=5)).1 (cS.mono ?_)
 rintro e w' ⟨v,ss,rfl,hS,hrow,_,hb⟩
 obtain ⟨r1,r2⟩:=sorted_rising hnd (hS.trans hp.symm)
 refine ⟨v,_,rfl,r2,r1,?_,?_⟩
 ·have hl:(ss.mergeSort fun x y=>decide (x≤y)).length=ss.length:=(List.mergeSort_perm _ _).length_eq
  rw [hl]
  have e1:(w.alloc (.cells #[.map (some b)] T)).heap.size=w.heap.size+1:=by simp
  rw [e1] at hrow
  exact hrow
 ·exact ((Ux.Touch.refl (fun _=>False) w).alloc _).trans (Ux.Touch.of_below hb) (fun _ _ h=>h)
theorem sortedA18 {w:World} {b n:Nat} {g:Int→Option Value} {ks0:List Int} (h:Ux.MapIs Tryz.prog 3 w b n (Ux.intF g)) (hnd:ks0.Nodup) (hm: ∀x,x∈ks0↔(Ux.intF g (.int .i64 x)).isSome=true) (hn:n≤100000):
 Calls Tryz.prog 38 #[.func (.func 241) #[] #[.pointer (some ⟨w.heap.size,0,none⟩)]] (w.alloc (.cells #[.map (some b)] 316)) fun e w'=> ∃(v:Value) (ks:List Int),e= .returned v∧ks.Perm ks0∧ks.Pairwise (· < ·)∧
  w'.ownsRow (w.heap.size+1) 3 1 v ks.length (ks.map (Value.int .i64))∧Ux.Touch (fun _=>False) w w':=
 sorted18 241 316 (enters_of Tryz.func241 (by kernel_rfl) rfl) h hnd hm hn fun D0 hD=>
  AnyZI.keys_gives (ρ:=Tryz.keysA_ren) { Tryz.keysA with } Fence.wide _ trivial rfl (by omega) w.heap.size b n D0 _ (by simp) (by simp) (by
   have hbl:=hD.lt
   obtain ⟨es,clock,hb,Ft,hs,hD⟩:=hD
   exact ⟨es,clock,(Below.heap_alloc _ _ b hbl).trans hb,Ft,hs,hD⟩)
theorem keys_row {w:World} {v:Value} {ks:List Int} {base:Nat} (h:w.ownsRow base 3 1 v ks.length (ks.map (Value.int .i64))): ∃(gk:Nat) (ak:Option Addr) (ck:Nat),v= .slice ak ks.length ck∧base≤gk∧
 ∀(j:Nat) (x:Int),ks[j]? =some x→ak=some ⟨gk,0,none⟩∧w.cell? ⟨gk,j,none⟩=some (.int .i64 x):=by
 rcases h.2 with ⟨hv,h0⟩|⟨g,cap,cur,hv,hb,hh,_,_,_,ht⟩
 ·refine ⟨base,none,0,by rw [hv,h0],Nat.le_refl _,fun j x hj=> ?_⟩
  have:ks= []:=List.eq_nil_of_length_eq_zero h0
  subst this
  simp at hj
 ·refine ⟨g,_,cap,hv,hb,fun j x hj=>⟨rfl,?_⟩⟩
  exact Ux.row_cell (xs:=ks.map (Value.int .i64)) hh ht j _ (by rw [List.getElem?_map,hj];rfl)
theorem at_step {w5:World} {q:Nat} {done:List Int} {bl:List (List Int)} {G:Int→Option Value} {f:Int→Int} {k:Int} {i0:Nat} (hm:Ux.MapIs Tryz.prog 3 w5 q (done.length+1) (Ux.upd (Ux.intF G) (.int .i64 k) (.int .i64 i0)))
 (h2: ∀k∈done,∃i:Nat,G k=some (.int .i64 i)∧bl[i]? =some (Ux.Trie.blk f k)) (h3: ∀k,k∉done→G k=none) (hi:bl[i0]? =some (Ux.Trie.blk f k)):
 ∃G,Ux.MapIs Tryz.prog 3 w5 q (done++ [k]).length (Ux.intF G)∧(∀x∈done++ [k],∃i:Nat,G x=some (.int .i64 i)∧bl[i]? =some (Ux.Trie.blk f x))∧∀x,x∉done++ [k]→G x=none:=by
 refine ⟨_,by rw [List.length_append];exact hm.intF,fun x hx=> ?_,fun x hx=> ?_⟩
 ·by_cases e:x=k
  ·subst e
   exact ⟨i0,by simp,hi⟩
  ·rw [List.mem_append,List.mem_singleton] at hx
   obtain ⟨i,h,h'⟩:=h2 x (hx.resolve_right e)
   exact ⟨i,by rw [if_neg e];exact h,h'⟩
 ·rw [List.mem_append,List.mem_singleton] at hx
  rw [if_neg (fun e=>hx (.inr e))]
  exact h3 x (fun e=>hx (.inl e))
theorem addB_in {bl:List (List Int)} {b:List Int} (h:b∈bl):Ux.Trie.addB bl b=bl:=by unfold Ux.Trie.addB;rw [if_pos h]
theorem addB_out {bl:List (List Int)} {b:List Int} (h:b∉bl):Ux.Trie.addB bl b=bl++ [b]:=by unfold Ux.Trie.addB;rw [if_neg h]
theorem addAll_length {α:Type} [DecidableEq α]: ∀(l bl:List α),(Ux.Trie.addAll bl l).length≤bl.length+l.length
 | [],bl=>by simp [Ux.Trie.addAll]
 |b::l,bl=>by
  rw [Ux.Trie.addAll_cons]
  refine Nat.le_trans (addAll_length l _) ?_
  unfold Ux.Trie.addB
  split<;>simp<;>omega
theorem key_range {l:List Pr} (h: ∀p∈l,Ux.Trie.may p=true) {k:Int} (hk:k∈keys0 l):0≤k∧k≤17412:=by
 obtain ⟨p,hp,rfl⟩:=List.mem_map.1 ((keys0_mem l k).1 hk)
 have:=h p hp
 unfold Ux.Trie.may at this
 simp only [Bool.and_eq_true,decide_eq_true_eq] at this
 omega
end Go.Proofs.YtmnkinaaoifpeaaGreatDoor
namespace Go.Proofs.YtmnkinaaoifpeaaGreatDoor
open Go.RowKit
open Ux.Trie (fnd Pr blk zero64)
theorem zero3: ∀w,(zeroValue 3).run Tryz.prog w= .ok (.int .i64 0) w:=(zero_of_info (P:=Tryz.prog) (t:=3) (n:=1) (by kernel_rfl)).1
set_option maxHeartbeats 4000000 in
set_option maxRecDepth 100000 in
theorem build7 (v:Value) (l:List Pr) (w:World) (h:PrsAt w v l) (hl:l.length≤600):
 Calls Tryz.prog 159 #[v] w fun e w'=>Ux.Touch (fun _=>False) w w'∧BuildSays l e w':=by
 have c15:=Lib.hid (contains15 v l w h (by omega))
 have H0:=Lib.hid h
 obtain ⟨a,cp,rfl,hcell⟩:=h
 obtain ⟨n,hn⟩: ∃n,l.length=n:=⟨_,rfl⟩
 obtain ⟨m,hm⟩: ∃m,(l.any fun p=> !Ux.Trie.may p)=m:=⟨_,rfl⟩
 rw [hn] at hl
 rw [hn,hm] at c15
 rw [hn]
 have HC:=Lib.hid hcell
 have HN:=Lib.hid hn
 have HM:=Lib.hid hm
 have j0:(n:Int)≤600:=by omega
 clear hcell hn hl hm
 have hmm:= @run_makeMap Tryz.prog
 go_enter Tryz.func159,Tryz.ntmps159
 cases m with
 |true=>
  go_wp2_with (go_at_call 208;refine c15.out.mono ?_;rintro e w' ⟨rfl,ht⟩)
  go_ret2
  exact ⟨ht,.inl ⟨HM.out,rfl⟩⟩
 |false=>
  go_wp2_with (go_at_call 208;refine c15.out.mono ?_;rintro e w1 ⟨rfl,ht⟩;have HT1:=Lib.hid ht;clear ht)
  have HA: ∀p∈l,Ux.Trie.may p=true:=by
   intro p hp
   have:=List.any_eq_false.1 HM.out p hp
   simpa using this
  have HA:=Lib.hid HA
  have s4:=(Ux.MapIs.made w1 Tryz.prog 3).touch (((Ux.Touch.refl (fun _=>False) _).alloc (.map #[] 0))) (fun f=>f)
  have s5:=Ux.MapIs.made (w1.alloc (.map #[] 0)) Tryz.prog 3
  have T2:Ux.Touch (fun _=>False) w ((w1.alloc (.map #[] 0)).alloc (.map #[] 0)):=(HT1.out.alloc _).alloc _
  have hsz:w.heap.size≤w1.heap.size:=HT1.out.size
  clear HT1
  obtain ⟨w2,hw2⟩: ∃w2,(w1.alloc (.map #[] 0)).alloc (.map #[] 0)=w2:=⟨_,rfl⟩
  obtain ⟨b4,hb4⟩: ∃b4,w1.heap.size=b4:=⟨_,rfl⟩
  have e5:(w1.alloc (.map #[] 0)).heap.size=b4+1:=by rw [←hb4];simp
  rw [hw2,e5] at s5
  rw [hw2,hb4] at s4
  rw [hw2] at T2
  rw [hb4] at hsz
  simp only [hw2,e5,hb4]
  clear hw2 e5 hb4
  have HS:=Lib.hid (And.intro s4 (And.intro s5 (And.intro T2 hsz)))
  clear s4 s5 T2 hsz
  go_loopg [21] n (fun g s21 wr=> ∃i:Nat,s21= .int .i64 i∧i+g=n∧Hid (Ux.MapIs Tryz.prog 3 wr b4 i (Ux.intF (seenG (l.take i)))∧Ux.MapIs Tryz.prog 3 wr (b4+1) i (Ux.intF (ownG (l.take i)))∧Ux.Trie.apart (l.take i)∧Ux.Touch (fun _=>False) w wr))
  case atStart=>
   refine ⟨0,rfl,by omega,Lib.hid ⟨HS.out.1.ext fun kl=> ?_,HS.out.2.1.ext fun kl=> ?_,List.Pairwise.nil,HS.out.2.2.1⟩⟩
   ·unfold Ux.intF seenG;split<;>simp
   ·unfold Ux.intF ownG;split<;>simp
  case round=>
   obtain ⟨i,rfl,hig,HI⟩:=hrel
   have p0:(0:Int)≤i:=by omega
   by_cases hlt:i<n
   ·obtain ⟨g',rfl⟩: ∃g',gk=g'+1:=⟨gk-1,by omega⟩
    obtain ⟨p,hp⟩: ∃p,l[i]? =some p:=⟨l[i]'(by have:=HN.out;omega),List.getElem?_eq_getElem (by have:=HN.out;omega)⟩
    obtain ⟨b,f,ha,c1,c2⟩:=HC.out i p hp
    subst ha
    have c1:=HI.out.2.2.2.cell c1 (fun f=>f)
    have c2:=HI.out.2.2.2.cell c2 (fun f=>f)
    have j1:(i:Int)<n:=by omega
    have hmp:=HA.out p (List.mem_of_getElem? hp)
    have HP:=Lib.hid hp
    obtain ⟨pc,pv⟩:=p
    have hb0:0≤pc∧pc≤1114367∧-2147483648≤pv∧pv<2147483648:=by
     by_cases hh:0≤pc∧pc≤1114367∧-2147483648≤pv∧pv<2147483648
     ·exact hh
     ·rw [may_no hh] at hmp;cases hmp
    obtain ⟨q1,q2,q3,q4⟩:=hb0
    clear hp hmp
    dsimp only at c1 c2
    obtain ⟨m,hm⟩: ∃m,(seenG (l.take i) pc).isSome=m:=⟨_,rfl⟩
    have hkey:=keyI (c:=pc) (by omega) (by omega)
    have hlt4:=HI.out.1.lt
    have hlt5:=HI.out.2.1.lt
    have hr: ∀w',Ux.Touch (fun _=>False) wr w'→(Instr.lookup 315 (.map (some b4)) (.int .i64 pc) false).run Tryz.prog w'= .ok (.bool m) w':=fun w' ht=>by
     have:=(HI.out.1.touch ht (fun f=>f)).look keyed3 Tryz.underlying315 (zero4 w') hkey
     rw [this]
     show Result.ok ((seenG (l.take i) pc).getD (.bool false)) w'=_
     rw [seen_get,hm]
    have hr5: ∀w',Ux.Touch (fun i=>i=b4) wr w'→(Instr.lookup 316 (.map (some (b4+1))) (.int .i64 (pc/64)) false).run Tryz.prog w'= .ok (arr (blk (fnd (l.take i)) (pc/64))) w':=fun w' ht=>by
     have:=(HI.out.2.1.touch ht (fun f=>by omega)).look keyed3 Tryz.underlying316 (zero44 w') (keyI (c:=pc/64) (by omega) (by omega))
     rw [this]
     show Result.ok ((ownG (l.take i) (pc/64)).getD (.agg (Array.replicate 64 (.int .i32 0)))) w'=_
     rw [ownG_get]
    obtain ⟨A,hA⟩: ∃A,((blk (fnd (l.take i)) (pc/64)).map (Value.int .i32)).toArray=A:=⟨_,rfl⟩
    unfold arr at hr5
    rw [hA] at hr5
    have HA64:Hid (A.size=64∧A.all (·.oneCell')=true):=Lib.hid (by
     subst hA
     refine ⟨by simp [Ux.Trie.blk_length],all_oneCell_toArray fun v hv=> ?_⟩
     obtain ⟨z,_,rfl⟩:=List.mem_map.1 hv
     rfl)
    have hAj:A[(pc % 64).toNat]? =some (.int .i32 (fnd (l.take i) (64*(pc/64)+((pc % 64).toNat:Int)))):=by
     subst hA
     rw [List.getElem?_toArray,List.getElem?_map,Ux.Trie.blk_get _ _ (by omega)]
     rfl
    obtain ⟨old,hold⟩: ∃o,fnd (l.take i) (64*(pc/64)+((pc % 64).toNat:Int))=o:=⟨_,rfl⟩
    rw [hold] at hAj
    have HAA:=Lib.hid hA
    clear hold hA
    have HR5:=Lib.hid hr5
    have HR:=Lib.hid hr
    clear hr5
    have HM2:=Lib.hid hm
    have HK:=Lib.hid (And.intro hkey (And.intro hlt4 hlt5))
    clear hr hm hkey hlt4 hlt5
    cases m with
    |true=>
     go_wp2_with (at_lookup;refine Ux.wpList_look rfl _ _ 315 rfl rfl rfl (HR.out _ ((Ux.Touch.refl _ _).alloc _)) ?_)
     go_ret2
     refine ⟨HI.out.2.2.2.alloc _,.inr (.inl ⟨HM.out,not_apart HP.out ?_,rfl⟩)⟩
     have:=HM2.out
     unfold seenG at this
     split at this
     ·assumption
     ·cases this
    |false=>
     go_wp2_with (first
      |(at_lookup;refine Ux.wpList_look rfl _ _ 315 rfl rfl rfl (HR.out _ ((Ux.Touch.refl _ _).alloc _)) ?_)
      |(at_mapUpdate;refine Ux.wpList_put (key:= .int .i64 pc) (val:= .bool true) rfl _ _ _ 315 rfl rfl rfl rfl (HI.out.1.touch ((Ux.Touch.refl (fun _=>False) _).alloc _) (fun f=>f)) keyed3 Tryz.underlying315 (by have:=maxLen;unfold maxLen;omega) HK.out.1 ?_;intro w3 hm3 ht3
        have d1:=ht3.cell (show (wr.alloc (.cells #[.int .i64 pc,.int .i64 pv] 269)).cell? ⟨wr.heap.size,0,none⟩=some (.int .i64 pc) by rw [Ux.cell_new];rfl) (fun e=>by have:=HK.out.2.1;simp only at e;omega)
        have d2:=ht3.cell (show (wr.alloc (.cells #[.int .i64 pc,.int .i64 pv] 269)).cell? ⟨wr.heap.size,1,none⟩=some (.int .i64 pv) by rw [Ux.cell_new];rfl) (fun e=>by have:=HK.out.2.1;simp only at e;omega)
        have d0:wr.heap.size<w3.heap.size:=block_lt_of_cell d1
        have HT3:=Lib.hid (((Ux.Touch.refl (fun j=>j=b4) wr).alloc _).trans ht3 (fun _ _ h=>h))
        have HM3:=Lib.hid hm3;clear hm3 ht3)
      |(at_lookup;refine Ux.wpList_look rfl _ _ 316 rfl rfl rfl (HR5.out _ HT3.out) ?_)
      |(refine Ux.is_store 318 rfl ?_;refine Ux.wpList_store_new rfl 318 _ _ rfl (Array.replicate 64 (.int .i32 0)) A rfl rfl (by rw [HA64.out.1];exact size44) (by rw [HA64.out.1];rfl) HA64.out.2 ?_)
      |(refine Ux.is_load 318 rfl ?_;refine Ux.wpList_load_new (w:=w3) rfl 318 _ rfl (A.setIfInBounds (pc % 64).toNat (.int .i32 pv)) 64 21 Tryz.underlying318 rfl (by rw [Array.size_setIfInBounds,HA64.out.1];exact size44) ?_)
      |(at_mapUpdate;refine Ux.wpList_put (key:= .int .i64 (pc/64)) (val:= .agg (A.setIfInBounds (pc % 64).toNat (.int .i32 pv))) rfl _ _ _ 316 rfl rfl rfl rfl (HI.out.2.1.touch ((HT3.out).alloc _) (fun e=>by omega)) keyed3 Tryz.underlying316 (by unfold maxLen;omega) (keyI (c:=pc/64) (by omega) (by omega)) ?_;intro w5 hm5 ht5
        have HM5:=Lib.hid (And.intro hm5 ht5);clear hm5 ht5))
     go_roundg g'
     case measure=>omega
     case rel=>
      have hns:=not_seen HM2.out
      have hT5:Ux.Touch (fun j=>j=b4∨j=b4+1) wr w5:=((HT3.out.mono (fun _ _ h=>Or.inl h)).alloc _).trans HM5.out.2 (fun _ _ h=>Or.inr h)
      refine ⟨i+1,rfl,by omega,Lib.hid ⟨?_,?_,apart_take HP.out HI.out.2.2.1 hns,HI.out.2.2.2.trans hT5 (fun j hj h=>by have:=HS.out.2.2.2;omega)⟩⟩
      ·have h4:=((HM3.out).touch (Ux.Touch.trans ((Ux.Touch.refl (fun j=>j=b4+1) w3).alloc _) (HM5.out.2) (fun _ _ h=>h)) (fun e=>by omega)).intF
       have:=seen_step HP.out
       exact h4.ext fun kl=>by rw [←this]
      ·have h5:=HM5.out.1.intF
       refine h5.ext fun kl=> ?_
       rw [←own_step HP.out hns]
       have e1:(((blk (fnd (l.take i)) (pc/64)).map (Value.int .i32)).set (pc % 64).toNat (.int .i32 pv)).toArray=A.setIfInBounds (pc % 64).toNat (.int .i32 pv):=by
        rw [←HAA.out]
        simp
       rw [←e1]
   ·have hi:i=n:=by omega
    subst hi
    have q1: ¬(i:Int)<i:=by omega
    have hfull:l.take i=l:=by rw [List.take_of_length_le (by have:=HN.out;omega)]
    have m5:=HI.out.2.1
    have hap:=HI.out.2.2.1
    have T2:=HI.out.2.2.2
    rw [hfull] at m5 hap
    have hb5:=m5.lt
    have HAP:=Lib.hid hap
    clear HI hfull hlt hig p0 hap
    go_upto_region 17 with (fail)
    obtain ⟨q,hq⟩: ∃q,wr.heap.size=q:=⟨_,rfl⟩
    have s5:=((m5.touch ((((Ux.Touch.refl (fun _=>False) wr).alloc (.map #[] 0)).alloc (.cells #[.slice none 0 0,.map (some q)] 321)).alloc (.map #[] 0)) (fun f=>f)))
    have sa:=(Ux.MapIs.made wr Tryz.prog 3).touch (((Ux.Touch.refl (fun _=>False) (wr.alloc (.map #[] 0))).alloc (.cells #[.slice none 0 0,.map (some q)] 321)).alloc (.map #[] 0)) (fun f=>f)
    have sf:=Ux.MapIs.made ((wr.alloc (.map #[] 0)).alloc (.cells #[.slice none 0 0,.map (some q)] 321)) Tryz.prog 318
    have T6:Ux.Touch (fun _=>False) w (((wr.alloc (.map #[] 0)).alloc (.cells #[.slice none 0 0,.map (some q)] 321)).alloc (.map #[] 0)):=((T2.alloc _).alloc _).alloc _
    have hq1:(wr.alloc (.map #[] 0)).heap.size=q+1:=by simp [hq]
    have hblk:(((wr.alloc (.map #[] 0)).alloc (.cells #[.slice none 0 0,.map (some q)] 321)).alloc (.map #[] 0)).heap[q+1]? =some (.cells #[.slice none 0 0,.map (some q)] 321 (0,0)):=by
     rw [Below.heap_alloc _ _ _ (by simp;omega),←hq1]
     exact heap_alloc_last _ _
    have hs6:(((wr.alloc (.map #[] 0)).alloc (.cells #[.slice none 0 0,.map (some q)] 321)).alloc (.map #[] 0)).heap.size=q+3:=by simp [hq]
    simp only [hq] at sa hb5
    have hq2:((wr.alloc (.map #[] 0)).alloc (.cells #[.slice none 0 0,.map (some q)] 321)).heap.size=q+2:=by simp [hq]
    rw [hq2] at sf
    obtain ⟨w6,hw6⟩: ∃w6,((wr.alloc (.map #[] 0)).alloc (.cells #[.slice none 0 0,.map (some q)] 321)).alloc (.map #[] 0)=w6:=⟨_,rfl⟩
    rw [hw6] at s5 sa sf T6 hblk hs6
    have hwq:w.heap.size≤q:=by rw [←hq];exact T2.size
    simp only [hq,hw6]
    clear hq1 hq2 T2 m5 hw6 hq
    have c0:=cell_of_row w6 (q+1) 0 _ 321 (0,0) hblk
    have c1:=cell_of_row w6 (q+1) 1 _ 321 (0,0) hblk
    have fr: ∀j,w6.frozen? ⟨q+1,j,none⟩=false:=fun j=>frozen_of_row w6 (q+1) j _ 321 hblk
    simp only [List.getElem?_toArray,List.getElem?_cons_zero,List.getElem?_cons_succ] at c0 c1
    have H6:=Lib.hid (And.intro s5 (And.intro sa (And.intro sf (And.intro T6 (And.intro hblk (And.intro hs6 hwq))))))
    have hle: ∀ty,(Builtin.len_ #[316] ty #[.map (some (b4+1))]).run Tryz.prog w6= .ok (.int .i64 (keys0 l).length) w6:=fun ty=>s5.len keyed3 Tryz.underlying3 (keys0_nodup l) (fun x=>by rw [keys0_mem,ownG_some]) Tryz.underlying316 ty
    obtain ⟨D0,_,_,e1,e2⟩:=s5.keys keyed3 Tryz.underlying3 (keys0_nodup l) (fun x=>by rw [keys0_mem,ownG_some])
    obtain ⟨nk,hnk⟩: ∃nk,(keys0 l).length=nk:=⟨_,rfl⟩
    have hk:(nk:Int)≤600:=by omega
    rw [hnk] at hle
    have HNK:=Lib.hid hnk
    obtain ⟨Z,hZ⟩: ∃Z,(zero64.map (Value.int .i32)).toArray=Z:=⟨_,rfl⟩
    have hZs:Z.size=64:=by rw [←hZ];rfl
    have hZ1:Z.all (·.oneCell')=true:=by
     rw [←hZ]
     exact all_oneCell_toArray fun v hv=>by obtain ⟨z,_,rfl⟩:=List.mem_map.1 hv;rfl
    have hz0: ∀w,(zeroValue 318).run Tryz.prog w= .ok (.agg Z) w:=fun w=>by
     rw [zero44,←arr_zero,←hZ];rfl
    obtain ⟨i44,hi44,hzz,hsz44,_⟩:=info_parts info44
    obtain ⟨i21,hi21⟩: ∃i21,Tryz.prog.info? 21=some i21:=Option.isSome_iff_exists.1 (by kernel_rfl)
    obtain ⟨v7,w7,run7,row7,t7,own7⟩:=app46 (.slice none 0 0) 0 [] (w6.alloc (.cells Z 318)) (World.ownsRow_nil _ 0 318 64) (by omega) (q+3) Z hZs hZ1 (by rw [←hs6];exact heap_alloc_last _ _)
    obtain ⟨g7,cap7,cur7,rfl,_⟩:=Ux.own_pos row7 (by omega)
    have hb7:w7.heap[q+1]? =some (.cells #[.slice none 0 0,.map (some q)] 321 (0,0)):=t7.heap (((Ux.Touch.refl (fun _=>False) w6).alloc _).heap hblk (fun f=>f)) (fun e=>by cases e)
    have c7:=cell_of_row w7 (q+1) 0 _ 321 (0,0) hb7
    have fr7: ∀j,w7.frozen? ⟨q+1,j,none⟩=false:=fun j=>frozen_of_row w7 (q+1) j _ 321 hb7
    have sf7:=(sf.touch (((Ux.Touch.refl (fun _=>False) w6).alloc _).trans t7 (fun _ _ h=>by cases h)) (fun f=>f)).touch ((Ux.Touch.refl (fun j=>j=q+1) w7).setCell (p:=⟨q+1,0,none⟩) (fun _=>rfl) (.slice (some ⟨g7,0,none⟩) 1 cap7)) (fun e=>by omega)
    have T7:Ux.Touch (fun j=>j=q+1) w6 (w7.setCell ⟨q+1,0,none⟩ (.slice (some ⟨g7,0,none⟩) 1 cap7)):=(((Ux.Touch.refl (fun j=>j=q+1) w6).alloc _).trans t7 (fun _ _ h=>by cases h)).setCell (fun _=>rfl) _
    simp only [List.getElem?_toArray,List.getElem?_cons_zero,List.getElem?_cons_succ] at c7
    have H7:=Lib.hid (And.intro row7 (And.intro own7 (And.intro hb7 (And.intro sf7 (And.intro T7 hnk)))))
    have HZ:=Lib.hid (And.intro hZ (And.intro hZs (And.intro hZ1 (And.intro hz0 (And.intro hi44 (And.intro hzz (And.intro hsz44 hi21)))))))
    have R7:=Lib.hid run7
    clear s5 sa sf T6 hblk row7 own7 hb7 sf7 T7 t7 hnk hZ hZs hZ1 hz0 hi44 hzz hsz44 hi21 run7 e1 e2
    go_upto_region 20 with (first
     |(refine Ux.is_build 318 rfl ?_;refine Ux.wpList_buildZero rfl 318 21 64 rfl Z Tryz.underlying318 (HZ.out.2.2.2.1 _) i21 HZ.out.2.2.2.2.2.2.2 ?_)
     |(refine Ux.is_buildSlice 319 rfl ?_;refine Ux.wpList_buildOne rfl 319 318 _ rfl Z rfl i44 _ Tryz.underlying319 HZ.out.2.2.2.2.1 HZ.out.2.2.2.2.2.1 (by rw [HZ.out.2.1];exact HZ.out.2.2.2.2.2.2.1) (by rw [HZ.out.2.1];omega) (by rw [HZ.out.2.1];omega) ?_;rw [hs6])
     |(at_builtin;refine Ux.wpList_app (v1:= .slice none 0 0) (x1:= .slice (some ⟨q+3,0,none⟩) 1 1) rfl _ _ _ _ rfl rfl rfl (R7.out _) ?_)
     |(at_mapUpdate;refine Ux.wpList_put (key:= .agg Z) (val:= .int .i64 0) (kl:=klit zero64) rfl _ _ _ 322 rfl rfl rfl rfl H7.out.2.2.2.1 keyed44 Tryz.underlying322 (by unfold maxLen;omega) (by rw [←HZ.out.1];exact key44 zero_fits) ?_;intro w8 hm8 ht8
       have H8:=Lib.hid (And.intro hm8 ht8);clear hm8 ht8))
    obtain ⟨m8,t8⟩:=H8.out
    obtain ⟨row7,own7,hb7,sf7,T7,_⟩:=H7.out
    obtain ⟨s5,sa,sf,T6,_,_⟩:=H6.out
    have hsz7:q+3≤w7.heap.size:=by
     have:=T7.size
     simp at this
     omega
    have t68:Ux.Touch (fun j=>j=q+1∨j=q+2) w6 w8:=(T7.mono (fun _ _ h=>Or.inl h)).trans t8 (fun _ _ h=>Or.inr h)
    have s58:=s5.touch t68 (by omega)
    have T8:Ux.Touch (fun _=>False) w w8:=T6.trans t68 (fun i hi h=>by omega)
    have hg7:q+4≤g7:=by
     rcases own7 with h|⟨g,h,h'⟩
     ·cases h
     ·simp only [Value.ownBlock,Option.map_some,Option.some.injEq] at h
      subst h
      simpa [hs6] using h'
    have hrow8:w8.ownsRow 0 318 64 (.slice (some ⟨g7,0,none⟩) 1 cap7) 1 (blCells [zero64]):=by
     have e1:blCells [zero64]= []++Z.toList:=by rw [←HZ.out.1];simp [blCells]
     rw [e1]
     refine Ux.own_touch row7 (((Ux.Touch.refl (fun j=>j=q+1∨j=q+2) w7).setCell (p:=⟨q+1,0,none⟩) (fun _=>Or.inl rfl) (.slice (some ⟨g7,0,none⟩) 1 cap7)).trans t8 (fun _ _ h=>Or.inr h)) (fun b hb=> ?_)
     simp only [Value.ownBlock,Option.map_some,Option.some.injEq] at hb
     omega
    have TL8: ∀gk,g7≠gk→Tell w8 q gk (.slice (some ⟨g7,0,none⟩) 1 cap7) [zero64] [] (fnd l):=by
     intro gk hgk
     refine ⟨⟨fun _=>none,?_,by simp,fun _ _=>rfl⟩,?_,?_,hrow8,?_,by have:=t68.size;omega⟩
     ·refine (sa.touch t68 (by omega)).ext fun kl=> ?_
      unfold Ux.intF;split<;>rfl
     ·refine (m8.mono (by simp)).ext fun kl=> ?_
      have:=foundF_snoc (bl:= []) (by simp) zero_fits (by simp) kl
      simp only [List.nil_append] at this
      rw [←this]
      rfl
     ·exact t8.heap (obj_set hb7) (by omega)
     ·intro g hg
      simp only [Value.ownBlock,Option.map_some,Option.some.injEq] at hg
      subst hg
      exact ⟨by omega,hgk⟩
    have hg8:g7<w8.heap.size:=hrow8.lt _ rfl|>.2
    have HT8:=Lib.hid (And.intro TL8 (And.intro hg8 (And.intro T8 (And.intro s58 (And.intro hg7 (And.intro hk (And.intro hb5 hwq)))))))
    have c18:=Lib.hid (sortedA18 s58 (keys0_nodup l) (fun x=>by rw [keys0_mem,ownG_some]) (by omega))
    clear H8 H7 H6 R7 m8 t8 row7 own7 hb7 sf7 T7 s5 sa sf T6 hsz7 t68 s58 T8 hg7 hrow8 TL8 hg8 hs6 hwq hle fr c0 c1 hb5 fr7 c7
    go_wp2_with (first
     |(go_at_call 211;refine (keys19 _ _).mono ?_;rintro e w' ⟨rfl,rfl⟩)
     |(go_at_call 38;refine c18.out.mono ?_;rintro e w9 ⟨vk,ks,rfl,hp9,hr9,row9,t9⟩;obtain ⟨kb,ak,ck,rfl,hkb,hck⟩:=keys_row row9;have H9:=Lib.hid (And.intro hp9 (And.intro hr9 (And.intro t9 (And.intro hkb hck))));clear hp9 hr9 row9 t9 hkb hck;obtain ⟨nks,hnks⟩: ∃n,ks.length=n:=⟨_,rfl⟩;rw [hnks];have HNS:=Lib.hid hnks;clear hnks))
    have hnk64:(nks:Int)≤600:=by have:=H9.out.1.length_eq;have:=HNS.out;have:=HNK.out;omega
    go_loopg [73] nks (fun g s73 wr=> ∃j:Nat,s73= .int .i64 j∧j+g=nks∧Hid (∃gv cv,Tell wr q kb (.slice (some ⟨gv,0,none⟩) (Ux.Trie.addAll [zero64] ((ks.take j).map (blk (fnd l)))).length cv) (Ux.Trie.addAll [zero64] ((ks.take j).map (blk (fnd l)))) (ks.take j) (fnd l)∧Ux.Touch (fun i=>q≤i∧i≠kb) w9 wr∧Ux.Touch (fun _=>False) w wr))
    case atStart=>
     refine ⟨0,rfl,by omega,Lib.hid ⟨g7,cap7,?_,Ux.Touch.refl _ _,HT8.out.2.2.1.trans H9.out.2.2.1 (fun _ _ h=>h)⟩⟩
     have hg:=H9.out.2.2.2.1
     have hg':=HT8.out.2.1
     exact (HT8.out.1 kb (by omega)).touch H9.out.2.2.1 (fun _ h=>h.elim) (fun _ _ h=>h)
    case round=>
     obtain ⟨j,rfl,hjg,HJ⟩:=hrel
     have p0:(0:Int)≤j:=by omega
     by_cases hlt:j<nks
     ·obtain ⟨g',rfl⟩: ∃g',gk=g'+1:=⟨gk-1,by omega⟩
      obtain ⟨gv,cv,TL,TJ,TW⟩:=HJ.out
      obtain ⟨k,hks⟩: ∃k,ks[j]? =some k:=⟨ks[j]'(by have:=HNS.out;omega),List.getElem?_eq_getElem (by have:=HNS.out;omega)⟩
      obtain ⟨hak,ckk⟩:=H9.out.2.2.2.2 j k hks
      subst hak
      have ckk:=TJ.cell ckk (fun h=>h.2 rfl)
      have j1:(j:Int)<nks:=by omega
      have hkm:k∈keys0 l:=H9.out.1.mem_iff.1 (List.mem_of_getElem? hks)
      obtain ⟨r1,r2⟩:=key_range HA.out hkm
      have hkey:=keyI (c:=k) (by omega) (by omega)
      have hsn:(ks.take (j+1))=ks.take j++ [k]:=by rw [List.take_add_one,hks];rfl
      have hdl:(ks.take j).length=j:=by rw [List.length_take];have:=HNS.out;omega
      obtain ⟨bl,hbl⟩: ∃bl,Ux.Trie.addAll [zero64] ((ks.take j).map (blk (fnd l)))=bl:=⟨_,rfl⟩
      have hfb: ∀x∈bl,fits x:=by
       rw [←hbl]
       exact mem_addAll_fits (fun x hx=>by rw [List.mem_singleton.1 hx];exact zero_fits) (fun x hx=>by obtain ⟨z,_,rfl⟩:=List.mem_map.1 hx;exact blk_fits HA.out z)
      have hnb:bl.length≤1+j:=by
       rw [←hbl]
       have:=addAll_length ((ks.take j).map (blk (fnd l))) [zero64]
       rw [List.length_map,hdl] at this
       simpa using this
      rw [hbl] at TL
      obtain ⟨bk,hbk⟩: ∃bk,blk (fnd l) k=bk:=⟨_,rfl⟩
      have hfk:fits bk:=by rw [←hbk];exact blk_fits HA.out k
      obtain ⟨A,hA⟩: ∃A,(bk.map (Value.int .i32)).toArray=A:=⟨_,rfl⟩
      have hAs:A.size=64:=by rw [←hA];simp [hfk.1]
      have hA1:A.all (·.oneCell')=true:=by
       rw [←hA]
       exact all_oneCell_toArray fun v hv=>by obtain ⟨z,_,rfl⟩:=List.mem_map.1 hv;rfl
      have hAl:A.toList=bk.map (Value.int .i32):=by rw [←hA]
      obtain ⟨nb,hnb'⟩: ∃nb,bl.length=nb:=⟨_,rfl⟩
      rw [hnb'] at TL hnb
      obtain ⟨⟨G,hG1,hG2,hG3⟩,hfound,hobj,hrow,hown,hsize⟩:=TL
      have c0:=cell_of_row wr (q+1) 0 _ 321 (0,0) hobj
      have c1:=cell_of_row wr (q+1) 1 _ 321 (0,0) hobj
      simp only [List.getElem?_toArray,List.getElem?_cons_zero,List.getElem?_cons_succ] at c0 c1
      obtain ⟨hgv,hgvk⟩:=hown gv rfl
      have s59:=HT8.out.2.2.2.1.touch H9.out.2.2.1 (fun f=>f)
      have hbq:b4+1<q:=HT8.out.2.2.2.2.2.2.1
      have HO: ∀w',Ux.Touch (fun i=>q≤i) w9 w'→(Instr.lookup 316 (.map (some (b4+1))) (.int .i64 k) false).run Tryz.prog w'= .ok (.agg A) w':=fun w' ht=>by
       have:=(s59.touch ht (by omega)).look keyed3 Tryz.underlying316 (zero44 w') hkey
       rw [this]
       show Result.ok ((ownG l k).getD (.agg (Array.replicate 64 (.int .i32 0)))) w'=_
       rw [ownG_get,hbk]
       unfold arr
       rw [hA]
      have hk44:Go.keyOf Tryz.prog 318 (.agg A)=some (klit bk):=by rw [←hA];exact key44 hfk
      have HOX:=Lib.hid HO
      have TJQ:=Lib.hid (TJ.mono (fun i _ h=>h.1):Ux.Touch (fun i=>q≤i) w9 wr)
      have hlk:=hfound.lookOk keyed44 Tryz.underlying322 (zero3 wr) hk44
      have hkbq:q+3≤kb:=by
       have:=H9.out.2.2.2.1
       have:=HT8.out.2.1
       have:=HT8.out.2.2.2.2.1
       omega
      have HE:=Lib.hid (And.intro hsn (And.intro hdl (And.intro hbl (And.intro hbk (And.intro hnb' hks)))))
      clear hsn hdl hbl hbk hnb' hks
      rcases foundF_in hfb hfk with ⟨i0,hi0,hf0⟩|⟨hnin,hf0⟩
      ·rw [hf0] at hlk
       have HLK:=Lib.hid hlk
       have HX:=Lib.hid (And.intro hG1 (And.intro hG2 (And.intro hG3 (And.intro hfound (And.intro hobj (And.intro hrow (And.intro hown hsize)))))))
       have HY:=Lib.hid (And.intro hi0 (And.intro hf0 (And.intro TJ (And.intro TW hkey))))
       clear hlk hG1 hG2 hG3 hfound hobj hrow hown hsize hi0 hf0 TJ TW HO s59 hfk hfb hA hA1 hAs hAl hk44 hkey
       go_wp2_with (first
        |(at_lookup;refine Ux.wpList_look rfl _ _ 316 rfl rfl rfl (HOX.out _ TJQ.out) ?_)
        |(at_lookup;refine Ux.wpList_look rfl _ _ 322 rfl rfl rfl HLK.out ?_)
        |(at_mapUpdate;refine Ux.wpList_put (key:= .int .i64 k) (val:= .int .i64 i0) rfl _ _ _ 265 rfl rfl rfl rfl HX.out.1 keyed3 Tryz.underlying265 (by have:=HE.out.2.1;unfold maxLen;omega) HY.out.2.2.2.2 ?_;intro w5 hm5 ht5
          have HM5:=Lib.hid (And.intro hm5 ht5);clear hm5 ht5))
       go_roundg g'
       case measure=>omega
       case rel=>
        obtain ⟨hG1,hG2,hG3,hfound,hobj,hrow,hown,hsize⟩:=HX.out
        obtain ⟨hi0,hf0,TJ,TW,_⟩:=HY.out
        obtain ⟨hsn,hdl,hbl,hbk,hnb',_⟩:=HE.out
        obtain ⟨hm5,ht5⟩:=HM5.out
        have e1:Ux.Trie.addAll [zero64] ((ks.take (j+1)).map (blk (fnd l)))=bl:=by
         rw [hsn,List.map_append]
         show Ux.Trie.addAll [zero64] (List.map (blk (fnd l)) (List.take j ks)++ [blk (fnd l) k])=bl
         rw [Ux.Trie.addAll_snoc,hbl,hbk,addB_in (List.mem_of_getElem? hi0)]
        refine ⟨j+1,rfl,by omega,Lib.hid ⟨gv,cv,?_,TJ.trans ht5 (fun i hi h=>by omega),TW.trans ht5 (fun i hi h=>by have:=HT8.out.2.2.2.2.2.2.2;omega)⟩⟩
        rw [e1,hsn,hnb']
        refine ⟨at_step hm5 hG2 hG3 (by rw [hbk];exact hi0),?_,ht5.heap hobj (by omega),?_,hown,Nat.le_trans hsize ht5.size⟩
        ·exact hfound.touch ht5 (by omega)
        ·exact Ux.own_touch hrow ht5 (fun b hb=>by simp only [Value.ownBlock,Option.map_some,Option.some.injEq] at hb;omega)
      ·rw [hf0] at hlk
       have HLK:=Lib.hid hlk
       have tD:Ux.Touch (fun i=>i=gv∨i=q+1) wr (wr.drew.alloc (.cells A 318)):=((Ux.Touch.refl _ wr).drew).alloc _
       have tD0:Ux.Touch (fun _=>False) wr (wr.drew.alloc (.cells A 318)):=((Ux.Touch.refl _ wr).drew).alloc _
       obtain ⟨vn,w2,run2,row2,t2,own2⟩:=app46 (.slice (some ⟨gv,0,none⟩) nb cv) nb (blCells bl) (wr.drew.alloc (.cells A 318)) (Ux.own_touch (by have:=hrow;rw [HE.out.2.2.2.2.1] at this;exact this) tD0 (fun _ _ h=>h)) (by omega) wr.heap.size A hAs hA1 (heap_alloc_last wr.drew _)
       obtain ⟨gn,cn,curn,rfl,_⟩:=Ux.own_pos row2 (by omega)
       have hgn:gn=gv∨wr.heap.size+1≤gn:=by
        rcases own2 with h|⟨g,h,h'⟩
        ·simp only [Value.ownBlock,Option.map_some,Option.some.injEq] at h
         exact .inl h
        ·simp only [Value.ownBlock,Option.map_some,Option.some.injEq] at h
         subst h
         exact .inr (by simpa using h')
       have t2':Ux.Touch (fun i=>i=gv∨i=q+1) wr w2:=tD.trans t2 (fun i _ h=>by simp only [Value.ownBlock,Option.map_some,Option.some.injEq] at h;exact .inl h.symm)
       have hobj2:w2.heap[q+1]? =some (.cells #[.slice (some ⟨gv,0,none⟩) nb cv,.map (some q)] 321 (0,0)):=t2.heap (tD0.heap hobj (fun f=>f)) (fun h=>by simp only [Value.ownBlock,Option.map_some,Option.some.injEq] at h;omega)
       have d0:=cell_of_row w2 (q+1) 0 _ 321 (0,0) hobj2
       simp only [List.getElem?_toArray,List.getElem?_cons_zero,List.getElem?_cons_succ] at d0
       have fr2: ∀j,w2.frozen? ⟨q+1,j,none⟩=false:=fun j=>frozen_of_row w2 (q+1) j _ 321 hobj2
       have T3:Ux.Touch (fun i=>i=gv∨i=q+1) wr (w2.setCell ⟨q+1,0,none⟩ (.slice (some ⟨gn,0,none⟩) (nb+1) cn)):=t2'.setCell (fun _=> .inr rfl) _
       have hf3:=hfound.touch T3 (by omega)
       rw [HE.out.2.2.2.2.1] at hf3
       have hobj3:=obj_set (v:= .slice (some ⟨gn,0,none⟩) (nb+1) cn) hobj2
       have T39:Ux.Touch (fun i=>q≤i) w9 (w2.setCell ⟨q+1,0,none⟩ (.slice (some ⟨gn,0,none⟩) (nb+1) cn)):=TJQ.out.trans T3 (fun i hi h=>by omega)
       have TD9:Ux.Touch (fun i=>q≤i) w9 wr.drew:=TJQ.out.drew
       have HX:=Lib.hid (And.intro hG1 (And.intro hG2 (And.intro hG3 (And.intro hfound (And.intro hobj (And.intro hrow (And.intro hown hsize)))))))
       have HY:=Lib.hid (And.intro hnin (And.intro hf0 (And.intro TJ (And.intro TW (And.intro hkey (And.intro hk44 (And.intro hAs hAl)))))))
       have HW:=Lib.hid (And.intro T3 (And.intro hf3 (And.intro hobj3 (And.intro T39 (And.intro TD9 (And.intro row2 (And.intro hgn hfb)))))))
       have R2:=Lib.hid run2
       have hnb64:(nb:Int)≤601:=by omega
       have hq1:q+1<wr.heap.size:=by omega
       clear hlk hG1 hG2 hG3 hfound hobj hrow hown hsize hf0 TJ TW HO s59 hfk hA hA1 hkey hk44 hnin tD tD0 t2 own2 t2' hobj2 T3 hf3 hobj3 T39 TD9 row2 hgn run2 hAl hfb
       go_upto_region 26 with (first
        |(at_lookup;refine Ux.wpList_look rfl _ _ 316 rfl rfl rfl (HOX.out _ TJQ.out) ?_)
        |(at_lookup;refine Ux.wpList_look rfl _ _ 322 rfl rfl rfl HLK.out ?_))
       have d8:(wr.drew.alloc (.cells A 318)).cell? ⟨q+1,0,none⟩=some (.slice (some ⟨gv,0,none⟩) nb cv):=by
        rw [World.cell?_alloc_lt _ _ _ (by simpa using hq1)];simpa using c0
       have c0D:wr.drew.cell? ⟨q+1,0,none⟩=some (.slice (some ⟨gv,0,none⟩) nb cv):=by simpa using c0
       refine Ux.wpr (fun _ w'=>w'.cell? ⟨q+1,0,none⟩=some (.slice (some ⟨gv,0,none⟩) nb cv)) (.q [0,1,2,3,5,6] (.h false [4] (.e 7 true false (.e 8 true false (.e 9 true false (.line [10,11,12])))))) ?_;repeat ((with_reducible refine Ux.qg ?_);refine Ux.qu ?_)
       go_wp2_with (first
        |(at_lookup;refine Ux.wpList_look rfl _ _ 316 rfl rfl rfl (HOX.out _ HW.out.2.2.2.2.1) ?_)
        |(at_lookup;refine Ux.wpList_look rfl _ _ 316 rfl rfl rfl (HOX.out _ HW.out.2.2.2.1) ?_)
        |(refine Ux.is_buildSlice 319 rfl ?_;refine Ux.wpList_buildOne rfl 319 318 _ rfl A rfl i44 _ Tryz.underlying319 HZ.out.2.2.2.2.1 HZ.out.2.2.2.2.2.1 (by rw [HY.out.2.2.2.2.2.2.1];exact HZ.out.2.2.2.2.2.2.1) (by rw [HY.out.2.2.2.2.2.2.1];omega) (by rw [HY.out.2.2.2.2.2.2.1];omega) ?_)
        |(at_builtin;refine Ux.wpList_app (v1:= .slice (some ⟨gv,0,none⟩) nb cv) (x1:= .slice (some ⟨wr.heap.size,0,none⟩) 1 1) rfl _ _ _ _ rfl rfl rfl (R2.out _) ?_)
        |(at_mapUpdate;refine Ux.wpList_put (key:= .agg A) (val:= .int .i64 nb) rfl _ _ _ 322 rfl rfl rfl rfl HW.out.2.1 keyed44 Tryz.underlying322 (by unfold maxLen;omega) HY.out.2.2.2.2.2.1 ?_;intro w4 hm4 ht4
          have d1:=cell_of_row w4 (q+1) 1 _ 321 (0,0) (ht4.heap HW.out.2.2.1 (by omega))
          simp only [List.getElem?_toArray,List.getElem?_cons_zero,List.getElem?_cons_succ] at d1
          have T34:Hid (Ux.Touch (fun i=>i=gv∨i=q+1∨i=q+2) wr w4):=Lib.hid ((HW.out.1.mono (fun _ _ h=>by omega)).trans ht4 (fun _ _ h=>by omega))
          have HM4:=Lib.hid (And.intro hm4 ht4);clear hm4 ht4)
        |(at_mapUpdate;refine Ux.wpList_put (key:= .int .i64 k) (val:= .int .i64 nb) rfl _ _ _ 265 rfl rfl rfl rfl (HX.out.1.touch T34.out (by omega)) keyed3 Tryz.underlying265 (by have:=HE.out.2.1;unfold maxLen;omega) HY.out.2.2.2.2.1 ?_;intro w5 hm5 ht5
          have HM5:=Lib.hid (And.intro hm5 ht5);clear hm5 ht5))
       refine ⟨d8,?_⟩
       go_wp2_with (first
        |(at_lookup;refine Ux.wpList_look rfl _ _ 316 rfl rfl rfl (HOX.out _ HW.out.2.2.2.2.1) ?_)
        |(at_lookup;refine Ux.wpList_look rfl _ _ 316 rfl rfl rfl (HOX.out _ HW.out.2.2.2.1) ?_)
        |(refine Ux.is_buildSlice 319 rfl ?_;refine Ux.wpList_buildOne rfl 319 318 _ rfl A rfl i44 _ Tryz.underlying319 HZ.out.2.2.2.2.1 HZ.out.2.2.2.2.2.1 (by rw [HY.out.2.2.2.2.2.2.1];exact HZ.out.2.2.2.2.2.2.1) (by rw [HY.out.2.2.2.2.2.2.1];omega) (by rw [HY.out.2.2.2.2.2.2.1];omega) ?_)
        |(at_builtin;refine Ux.wpList_app (v1:= .slice (some ⟨gv,0,none⟩) nb cv) (x1:= .slice (some ⟨wr.heap.size,0,none⟩) 1 1) rfl _ _ _ _ rfl rfl rfl (R2.out _) ?_)
        |(at_mapUpdate;refine Ux.wpList_put (key:= .agg A) (val:= .int .i64 nb) rfl _ _ _ 322 rfl rfl rfl rfl HW.out.2.1 keyed44 Tryz.underlying322 (by unfold maxLen;omega) HY.out.2.2.2.2.2.1 ?_;intro w4 hm4 ht4
          have d1:=cell_of_row w4 (q+1) 1 _ 321 (0,0) (ht4.heap HW.out.2.2.1 (by omega))
          simp only [List.getElem?_toArray,List.getElem?_cons_zero,List.getElem?_cons_succ] at d1
          have T34:Hid (Ux.Touch (fun i=>i=gv∨i=q+1∨i=q+2) wr w4):=Lib.hid ((HW.out.1.mono (fun _ _ h=>by omega)).trans ht4 (fun _ _ h=>by omega))
          have HM4:=Lib.hid (And.intro hm4 ht4);clear hm4 ht4)
        |(at_mapUpdate;refine Ux.wpList_put (key:= .int .i64 k) (val:= .int .i64 nb) rfl _ _ _ 265 rfl rfl rfl rfl (HX.out.1.touch T34.out (by omega)) keyed3 Tryz.underlying265 (by have:=HE.out.2.1;unfold maxLen;omega) HY.out.2.2.2.2.1 ?_;intro w5 hm5 ht5
          have HM5:=Lib.hid (And.intro hm5 ht5);clear hm5 ht5))
       refine ⟨d0,?_⟩
       go_wp2_with (first
        |(at_lookup;refine Ux.wpList_look rfl _ _ 316 rfl rfl rfl (HOX.out _ HW.out.2.2.2.2.1) ?_)
        |(at_lookup;refine Ux.wpList_look rfl _ _ 316 rfl rfl rfl (HOX.out _ HW.out.2.2.2.1) ?_)
        |(refine Ux.is_buildSlice 319 rfl ?_;refine Ux.wpList_buildOne rfl 319 318 _ rfl A rfl i44 _ Tryz.underlying319 HZ.out.2.2.2.2.1 HZ.out.2.2.2.2.2.1 (by rw [HY.out.2.2.2.2.2.2.1];exact HZ.out.2.2.2.2.2.2.1) (by rw [HY.out.2.2.2.2.2.2.1];omega) (by rw [HY.out.2.2.2.2.2.2.1];omega) ?_)
        |(at_builtin;refine Ux.wpList_app (v1:= .slice (some ⟨gv,0,none⟩) nb cv) (x1:= .slice (some ⟨wr.heap.size,0,none⟩) 1 1) rfl _ _ _ _ rfl rfl rfl (R2.out _) ?_)
        |(at_mapUpdate;refine Ux.wpList_put (key:= .agg A) (val:= .int .i64 nb) rfl _ _ _ 322 rfl rfl rfl rfl HW.out.2.1 keyed44 Tryz.underlying322 (by unfold maxLen;omega) HY.out.2.2.2.2.2.1 ?_;intro w4 hm4 ht4
          have d1:=cell_of_row w4 (q+1) 1 _ 321 (0,0) (ht4.heap HW.out.2.2.1 (by omega))
          simp only [List.getElem?_toArray,List.getElem?_cons_zero,List.getElem?_cons_succ] at d1
          have T34:Hid (Ux.Touch (fun i=>i=gv∨i=q+1∨i=q+2) wr w4):=Lib.hid ((HW.out.1.mono (fun _ _ h=>by omega)).trans ht4 (fun _ _ h=>by omega))
          have HM4:=Lib.hid (And.intro hm4 ht4);clear hm4 ht4)
        |(at_mapUpdate;refine Ux.wpList_put (key:= .int .i64 k) (val:= .int .i64 nb) rfl _ _ _ 265 rfl rfl rfl rfl (HX.out.1.touch T34.out (by omega)) keyed3 Tryz.underlying265 (by have:=HE.out.2.1;unfold maxLen;omega) HY.out.2.2.2.2.1 ?_;intro w5 hm5 ht5
          have HM5:=Lib.hid (And.intro hm5 ht5);clear hm5 ht5))
       go_roundg g'
       case measure=>omega
       case rel=>
        obtain ⟨hG1,hG2,hG3,hfound,hobj,hrow,hown,hsize⟩:=HX.out
        obtain ⟨hnin,hf0,TJ,TW,_,_,hAs,hAl⟩:=HY.out
        obtain ⟨hsn,hdl,hbl,hbk,hnb',_⟩:=HE.out
        obtain ⟨hm5,ht5⟩:=HM5.out
        obtain ⟨hm4,ht4⟩:=HM4.out
        obtain ⟨T3,hf3,hobj3,T39,TD9,row2,hgn,hfb⟩:=HW.out
        have hfk:fits bk:=by rw [←hbk];exact blk_fits HA.out k
        have e1:Ux.Trie.addAll [zero64] ((ks.take (j+1)).map (blk (fnd l)))=bl++ [bk]:=by
         rw [hsn,List.map_append]
         show Ux.Trie.addAll [zero64] (List.map (blk (fnd l)) (List.take j ks)++ [blk (fnd l) k])=_
         rw [Ux.Trie.addAll_snoc,hbl,hbk,addB_out hnin]
        have t45:Ux.Touch (fun i=>i=gv∨i=q+1∨i=q+2∨i=q) wr w5:=(T34.out.mono (fun _ _ h=>by omega)).trans ht5 (fun _ _ h=>by omega)
        have e2:(bl++ [bk]).length=nb+1:=by simp [hnb']
        refine ⟨j+1,rfl,by omega,Lib.hid ⟨gn,cn,?_,TJ.trans t45 (fun i hi h=>by omega),TW.trans t45 (fun i hi h=>by have:=HT8.out.2.2.2.2.2.2.2;omega)⟩⟩
        rw [e1,hsn,e2]
        refine ⟨at_step hm5 (fun x hx=> ?_) hG3 (by rw [hbk,List.getElem?_append_right (by omega)];simp [hnb']),?_,?_,?_,?_,Nat.le_trans hsize t45.size⟩
        ·obtain ⟨i,h1,h2⟩:=hG2 x hx
         exact ⟨i,h1,by rw [List.getElem?_append_left (List.getElem?_eq_some_iff.1 h2).1];exact h2⟩
        ·rw [e2]
         refine (hm4.touch ht5 (by omega)).ext fun kl=> ?_
         rw [←foundF_snoc hfb hfk hnin kl,hnb']
        ·exact ht5.heap (ht4.heap hobj3 (by omega)) (by omega)
        ·rw [e2]
         have e3:blCells (bl++ [bk])=blCells bl++A.toList:=by rw [blCells_snoc,hAl]
         rw [e3]
         have t25:Ux.Touch (fun i=>i=q+1∨i=q+2∨i=q) w2 w5:=((((Ux.Touch.refl (fun i=>i=q+1∨i=q+2∨i=q) w2).setCell (p:=⟨q+1,0,none⟩) (fun _=> .inl rfl) (.slice (some ⟨gn,0,none⟩) (nb+1) cn)).trans ht4 (fun _ _ h=> .inr (.inl h)))).trans ht5 (fun _ _ h=> .inr (.inr h))
         refine Ux.own_touch row2 t25 (fun b hb=> ?_)
         simp only [Value.ownBlock,Option.map_some,Option.some.injEq] at hb
         rcases hgn with h|h<;>omega
        ·intro g hg
         simp only [Value.ownBlock,Option.map_some,Option.some.injEq] at hg
         have hkb2:kb<wr.heap.size:=block_lt_of_cell ckk
         rcases hgn with h|h
         ·have:=hown gv rfl
          omega
         ·omega
     ·have hj:j=nks:=by omega
      subst hj
      have q2: ¬(j:Int)<j:=by omega
      clear hlt
      go_wp2
      go_ret2
      obtain ⟨gv,cv,TL,TJ,TW⟩:=HJ.out
      have hfull:ks.take j=ks:=by rw [List.take_of_length_le (by have:=HNS.out;omega)]
      rw [hfull] at TL
      obtain ⟨⟨G,hG1,hG2,hG3⟩,hfound,hobj,hrow,hown,hsize⟩:=TL
      have hmem: ∀k,k∈ks↔∃p∈l,p.1/64=k:=fun k=>by
       rw [H9.out.1.mem_iff,keys0_mem,List.mem_map]
      have c0:=cell_of_row wr (q+1) 0 _ 321 (0,0) hobj
      have c1:=cell_of_row wr (q+1) 1 _ 321 (0,0) hobj
      simp only [List.getElem?_toArray,List.getElem?_cons_zero,List.getElem?_cons_succ] at c0 c1
      refine ⟨TW,.inr (.inr ⟨HM.out,HAP.out,q+1,ks,rfl,⟨gv,cv,q,G,c0,c1,?_,hG1,hG2,fun k hk=>⟨hG3 k hk,Ux.Trie.blk_off (fun p hp=>(hmem _).2 ⟨p,hp,rfl⟩) k hk⟩,H9.out.2.1,fun k hk=>key_range HA.out (H9.out.1.mem_iff.1 hk),by have:=HNS.out;omega⟩,hmem⟩)⟩
      intro x v hv
      rcases hrow.2 with ⟨h,_⟩|⟨g,cap,cur,h,_,hh,_,_,_,ht⟩
      ·cases h
      ·cases h
       exact Ux.row_cell hh ht x v hv
end Go.Proofs.YtmnkinaaoifpeaaGreatDoor
namespace Go.Proofs.YtmnkinaaoifpeaaGreatDoor
open Go.RowKit
open Ux.Trie (fnd Pr blk zero64)
theorem bls_64 {ks:List Int} {f:Int→Int}: ∀b∈Ux.Trie.bls ks f,b.length=64:=fun b hb=>by
 unfold Ux.Trie.bls at hb
 rcases (Ux.Trie.mem_addAll _ _).1 hb with h|h
 ·rw [List.mem_singleton] at h;rw [h];simp [zero64]
 ·obtain ⟨k,_,rfl⟩:=List.mem_map.1 h
  exact Ux.Trie.blk_length _ _
theorem blCells_get: ∀{bl:List (List Int)} (_: ∀b∈bl,b.length=64) {i:Nat} {b:List Int} (_:bl[i]? =some b) {j:Nat} {z:Int} (_:b[j]? =some z),(blCells bl)[i*64+j]? =some (.int .i32 z)
 | [],_,i,b,h,_,_,_=>by simp at h
 |x::bl,h64,0,b,h,j,z,hj=>by
  simp only [List.getElem?_cons_zero,Option.some.injEq] at h
  subst h
  have hl:j<x.length:=(List.getElem?_eq_some_iff.1 hj).1
  show ((x::bl).flatMap fun b=>b.map (Value.int .i32))[0*64+j]? =_
  rw [List.flatMap_cons,List.getElem?_append_left (by simpa using hl),Nat.zero_mul,Nat.zero_add,List.getElem?_map,hj]
  rfl
 |x::bl,h64,i+1,b,h,j,z,hj=>by
  have hx:=h64 x List.mem_cons_self
  have:=blCells_get (bl:=bl) (fun b hb=>h64 b (List.mem_cons_of_mem _ hb)) (i:=i) (by simpa using h) hj
  show ((x::bl).flatMap fun b=>b.map (Value.int .i32))[(i+1)*64+j]? =_
  rw [List.flatMap_cons,List.getElem?_append_right (by simp;omega)]
  have e:(i+1)*64+j-(x.map (Value.int .i32)).length=i*64+j:=by rw [List.length_map,hx];omega
  rw [e]
  exact this
set_option maxHeartbeats 2000000 in
set_option maxRecDepth 100000 in
theorem get9 (t:Nat) (ks:List Int) (f:Int→Int) (c:Int) (w:World) (h:TrieAt w t ks f) (h1: -9223372036854775808≤c) (h2:c≤9223372036854775807) (hv: ∀c,-2147483648≤f c∧f c<2147483648) (hz: ∀c,¬(0≤c∧c≤1114367)→f c=0):
 Calls Tryz.prog 249 #[.pointer (some ⟨t,0,none⟩),.int .i64 c] w fun e w'=>e= .returned (.int .i64 (f c))∧w'=w:=by
 obtain ⟨bb,cp,am,G,c0,c1,hcell,hG,hG1,hG2,hsort,hrange,hlen⟩:=h
 obtain ⟨nb,hnb⟩: ∃n,(Ux.Trie.bls ks f).length=n:=⟨_,rfl⟩
 have hlk: ∀k,-9223372036854775808≤k→k≤9223372036854775807→(Instr.lookup 265 (.map (some am)) (.int .i64 k) true).run Tryz.prog w= .ok (.tuple #[(G k).getD (.int .i64 0),.bool (G k).isSome]) w:=fun k k1 k2=>
  hG.lookOk keyed3 Tryz.underlying265 (zero3 w) (keyI k1 k2)
 have HLK:=Lib.hid hlk
 have HG:=Lib.hid (And.intro hG1 (And.intro hG2 (And.intro hcell hnb)))
 obtain ⟨r,hr⟩: ∃r,f c=r:=⟨_,rfl⟩
 by_cases hc:0≤c∧c≤1114367
 ·obtain ⟨hc1,hc2⟩:=hc
  by_cases hk:c/64∈ks
  ·obtain ⟨i0,hi0,hb0⟩:=hG1 _ hk
   have hj:=Ux.Trie.blk_get f (c/64) (j:=(c % 64).toNat) (by omega)
   have e:64*(c/64)+(((c % 64).toNat:Nat):Int)=c:=by omega
   rw [e,hr] at hj
   have hcc:=hcell _ _ (blCells_get bls_64 hb0 hj)
   have hi:i0<nb:=by rw [←hnb];exact (List.getElem?_eq_some_iff.1 hb0).1
   have hlk2:=hlk (c/64) (by omega) (by omega)
   rw [hi0] at hlk2
   simp only [Option.getD_some,Option.isSome_some] at hlk2
   have HLK2:=Lib.hid hlk2
   obtain ⟨hv1,hv2⟩:=hv c
   rw [hr] at hv1 hv2
   rw [hnb] at c0
   have HR:=Lib.hid hr
   have hi':(i0:Int)<nb:=by omega
   rw [hr]
   clear hlk hlk2 hcell hG hG1 hG2 hsort hrange hlen hnb hv hz hi0 hb0 hj e hk hr
   go_enter Tryz.func249,Tryz.ntmps249
   go_wp2_with (at_lookup;refine Ux.wpList_look rfl _ _ 265 rfl rfl rfl HLK2.out ?_)
   go_ret
   exact ⟨rfl,rfl⟩
  ·have hr0:r=0:=by
    rw [←hr]
    have:=Ux.Trie.zero_of_blk (hG2 _ hk).2 (j:=(c % 64).toNat) (by omega)
    have e:64*(c/64)+(((c % 64).toNat:Nat):Int)=c:=by omega
    rwa [e] at this
   subst hr0
   have hlk2:=hlk (c/64) (by omega) (by omega)
   rw [(hG2 _ hk).1] at hlk2
   simp only [Option.getD_none,Option.isSome_none] at hlk2
   have HLK2:=Lib.hid hlk2
   rw [hr]
   clear hlk hlk2 hcell hG hG1 hG2 hsort hrange hlen hnb hv hz hk hr
   go_enter Tryz.func249,Tryz.ntmps249
   go_wp2_with (at_lookup;refine Ux.wpList_look rfl _ _ 265 rfl rfl rfl HLK2.out ?_)
   go_ret
   exact ⟨rfl,rfl⟩
 ·have hr0:=hz c hc
  rw [hr] at hr0
  subst hr0
  rw [hr]
  obtain ⟨kz,hkz⟩: ∃k,c.tdiv 64=k:=⟨_,rfl⟩
  have hkr: -9223372036854775808≤kz∧kz≤9223372036854775807:=by
   rw [←hkz]
   rcases Int.le_total 0 c with h|h
   ·rw [Int.tdiv_eq_ediv_of_nonneg h];omega
   ·have:=Int.neg_tdiv c 64
    have e:(-c).tdiv 64=(-c)/64:=Int.tdiv_eq_ediv_of_nonneg (by omega)
    omega
  have hlk2:=hlk kz hkr.1 hkr.2
  obtain ⟨gv,hgv⟩: ∃v,(G kz).getD (.int .i64 0)=v:=⟨_,rfl⟩
  obtain ⟨gb,hgb⟩: ∃v,(G kz).isSome=v:=⟨_,rfl⟩
  rw [hgv,hgb,←hkz] at hlk2
  have HLK2:=Lib.hid hlk2
  have hlt:c<0∨1114367<c:=by omega
  clear hlk hlk2 hcell hG hG1 hG2 hsort hrange hlen hnb hv hz hr hc hgv hgb hkr hkz
  rcases hlt with hlt|hlt
  ·go_enter Tryz.func249,Tryz.ntmps249
   go_wp2_with (at_lookup;refine Ux.wpList_look rfl _ _ 265 rfl rfl rfl HLK2.out ?_)
   go_ret
   exact ⟨rfl,rfl⟩
  ·rw [Int.tdiv_eq_ediv_of_nonneg (by omega)] at HLK2
   go_enter Tryz.func249,Tryz.ntmps249
   go_wp2_with (at_lookup;refine Ux.wpList_look rfl _ _ 265 rfl rfl rfl HLK2.out ?_)
   go_ret
   exact ⟨rfl,rfl⟩
end Go.Proofs.YtmnkinaaoifpeaaGreatDoor
