/- A part of the proof that the statement holds for every input that it names. No other condition. -/
import Derived.Test.YtfccjaboicpohaaGreatDoorKencAZ
import Derived.Test.YtfccjaboicpohaaGreatDoorStrmAZ
import Derived.Test.YtfccjaboicpohaaGreatDoorMadeAZ
import Derived.Test.YtfccjaboicpohaaGreatDoorUxEndsZ
set_option linter.unusedVariables false
set_option linter.unusedSimpArgs false
namespace Go.Proofs.YtfccjaboicpohaaGreatDoor
open Go.RowKit
open Ux (Ent okT)
def valB (K:ByteArray→ByteArray) (k n:Int) (s:ByteArray):List UInt8:=
 if okVB k n s=true then (if k=0 then [1] else if k=1 then (if n=0 then [2,0] else [2,1]) else if k=2 then 3::num8 (n+9223372036854775808).toNat else 4::Ux.esc (K s).data.toList) else [1]
def valP (K:ByteArray→ByteArray) (d:Bool) (k n:Int) (s:ByteArray):ByteArray:=⟨(if d=true then Ux.turn (valB K k n s) else valB K k n s).toArray⟩
theorem val_no {K:ByteArray→ByteArray} {k n:Int} {s X:ByteArray} (h:X.data.toList=valB K k n s):Ending.returned (.string X)= .returned (.string (valP K false k n s)):=by
 have e:X=valP K false k n s:=ByteArray.ext (by rw [←Array.toList_inj,h];rfl)
 rw [e]
theorem val_yes {K:ByteArray→ByteArray} {k n:Int} {s X:ByteArray} (h:X.data.toList=valB K k n s):Ending.returned (.string ⟨(Ux.turn X.data.toList).toArray⟩)= .returned (.string (valP K true k n s)):=by
 rw [h]
 rfl
theorem val_yes2 {K:ByteArray→ByteArray} {k n:Int} {s:ByteArray} {l:List UInt8} (h:l=valB K k n s):Ending.returned (.string ⟨(Ux.turn l).toArray⟩)= .returned (.string (valP K true k n s)):=by
 rw [h]
 rfl
theorem empty_of {s:ByteArray} (h:s.toList.isEmpty=true):s=⟨#[]⟩:=Ux.ba_ext (by rw [List.isEmpty_iff.1 h,Lib.toList_data])
theorem clV_cases (K:ByteArray→ByteArray) (k n:Int) (s:ByteArray):
 (clV k n s=vV 0 0 ⟨#[]⟩∧valB K k n s= [1])∨(clV k n s=vV 1 0 ⟨#[]⟩∧valB K k n s= [2,0])∨(clV k n s=vV 1 1 ⟨#[]⟩∧valB K k n s= [2,1])∨
 (clV k n s=vV 2 n ⟨#[]⟩∧valB K k n s=3::num8 (n+9223372036854775808).toNat)∨(clV k n s=vV 3 0 s∧valB K k n s=4::Ux.esc (K s).data.toList):=by
 unfold clV valB
 cases h:okVB k n s with
 |false=>exact .inl ⟨by simp,by simp⟩
 |true=>
  rw [if_pos rfl,if_pos rfl]
  unfold okVB at h
  by_cases h0:k=0
  ·subst h0
   rw [if_pos rfl,Bool.and_eq_true,decide_eq_true_eq] at h
   rw [h.1,empty_of h.2]
   exact .inl ⟨rfl,rfl⟩
  ·rw [if_neg h0] at h⊢
   by_cases h1:k=1
   ·subst h1
    rw [if_pos rfl,Bool.and_eq_true,Bool.or_eq_true,decide_eq_true_eq,decide_eq_true_eq] at h
    rw [if_pos rfl,empty_of h.2]
    rcases h.1 with e|e
    ·rw [e];exact .inr (.inl ⟨rfl,rfl⟩)
    ·rw [e];exact .inr (.inr (.inl ⟨rfl,rfl⟩))
   ·rw [if_neg h1] at h⊢
    by_cases h2:k=2
    ·subst h2
     rw [if_pos rfl] at h
     rw [if_pos rfl,empty_of h]
     exact .inr (.inr (.inr (.inl ⟨rfl,rfl⟩)))
    ·rw [if_neg h2] at h⊢
     rw [Bool.and_eq_true,decide_eq_true_eq,decide_eq_true_eq] at h
     rw [h.1,h.2]
     exact .inr (.inr (.inr (.inr ⟨rfl,rfl⟩)))
theorem cat3 (N:ByteArray) (h:N.size=8):(¬9223372036854775807<1+N.size)∧((⟨#[3]⟩:ByteArray)++N).data.toList=3::N.data.toList∧((⟨#[3]⟩:ByteArray)++N).size≤4000000:=by
 refine ⟨by omega,by simp,?_⟩
 rw [ByteArray.size_append]
 have:(⟨#[3]⟩:ByteArray).size=1:=rfl
 omega
theorem esc_sz (t:ByteArray):(⟨(Ux.esc t.data.toList).toArray⟩:ByteArray).size≤2*t.size+2:=by
 have h1:=(Ux.escB_length t.data.toList).2
 have h4:t.data.toList.length=t.size:=by simp
 show (Ux.esc t.data.toList).toArray.size≤_
 unfold Ux.esc
 rw [List.size_toArray,List.length_append]
 simp only [List.length_cons,List.length_nil]
 omega
theorem cat4 (N:ByteArray) (h:N.size≤2000002):(¬9223372036854775807<1+N.size)∧((⟨#[4]⟩:ByteArray)++N).data.toList=4::N.data.toList∧((⟨#[4]⟩:ByteArray)++N).size≤4000000:=by
 refine ⟨by omega,by simp,?_⟩
 rw [ByteArray.size_append]
 have:(⟨#[4]⟩:ByteArray).size=1:=rfl
 omega
theorem cell_add (w:World) (c:Array Value) (ty:TypeId) (j:Nat):(w.alloc (.cells c ty)).cell? ((⟨w.heap.size,0,none⟩:Addr).add j)=c[j]? :=by
 have e:(⟨w.heap.size,0,none⟩:Addr).add j=⟨w.heap.size,j,none⟩:=by unfold Addr.add;split<;>simp_all
 rw [e,cell_newb]
theorem convN (l:List UInt8) (c:Array Value) (hc:c.toList=l.map fun b=>Value.int .u8 (b.toNat:Int)) (w:World) (g:Nat) (h:w.heap[g]? =some (.cells c 5 (0,0))):(convert 160 9 (.slice (some ⟨g,0,none⟩) l.length l.length)).run Tryz.prog w= .ok (.string ⟨l.toArray⟩) w:=
 run_convert_bytes_back (P:=Tryz.prog) w 160 9 5 ⟨g,0,none⟩ l.length l Tryz.underlying160 Tryz.underlying5 Tryz.underlying9 fun j hj=>by
  have e:(⟨g,0,none⟩:Addr).add j=⟨g,j,none⟩:=by unfold Addr.add;split<;>simp_all
  rw [e,cell_of_row w g j c _ (0,0) h]
  have:c[j]? =c.toList[j]? :=by simp
  rw [this,hc,List.getElem?_map,List.getElem?_eq_getElem hj]
  rfl
theorem conv1_ (b:Nat) (w:World) (g:Nat) (h:w.heap[g]? =some (.cells #[.int .u8 (b:Nat)] 5 (0,0))) (hb:b<256:=by decide):(convert 160 9 (.slice (some ⟨g,0,none⟩) 1 1)).run Tryz.prog w= .ok (.string ⟨#[UInt8.ofNat b]⟩) w:=
 convN [UInt8.ofNat b] _ (by simp;omega) w g h
set_option maxHeartbeats 8000000 in
set_option maxRecDepth 100000 in
theorem value_ (kd lv:Int) (sh bk:Bool) (tb:Option Addr) (E:List Ent) (k n:Int) (s:ByteArray) (d:Bool) (m:Int) (w:World) (hn: -9223372036854775808≤n∧n≤9223372036854775807) (hs:s.size≤1000000)
 (hm:w.cell? ⟨3,0,none⟩=some (.int .i64 m)) (hT:Tabs w) (hE:CTab w kd tb E) (hkl:(keyP kd lv sh bk tb E s).size≤1000000):
 Calls Tryz.prog 36 #[vV k n s,.agg #[.int .i64 kd,.int .i64 lv,.bool sh,.bool bk,.pointer tb,.bool d]] w fun e w'=>e= .returned (.string (valP (keyP kd lv sh bk tb E) d k n s))∧Ux.Touch (fun _=>False) w w':=by
 have c23:=vis_ k n s
 have hc:=clV_cases (keyP kd lv sh bk tb E) k n s
 have HKEY:=Lib.hid fun W (t:Ux.Touch (fun _=>False) w W)=>skey_ kd lv sh bk tb E s W hs (hT.touch t) (hE.touch t) (by omega)
 have HESC:=Lib.hid fun W (t:Ux.Touch (fun _=>False) w W)=>escape9 (keyP kd lv sh bk tb E s) m W (t.cell hm (fun f=>f)) (by omega)
 have HNUM:=Lib.hid fun W=>number_ n hn W
 have HSZ:=Lib.hid hkl
 unfold cV at HKEY
 unfold vV at c23⊢
 obtain ⟨B,hB⟩: ∃B,w.heap.size=B:=⟨_,rfl⟩
 have HB:=Lib.hid hB
 obtain ⟨V,hV⟩: ∃V,clV k n s=V:=⟨_,rfl⟩
 rw [hV] at c23 hc
 obtain ⟨L,hL⟩: ∃L,valB (keyP kd lv sh bk tb E) k n s=L:=⟨_,rfl⟩
 rw [hL] at hc
 have HL:=Lib.hid hL
 have C23:=Lib.hid c23
 clear hm hs hn hT hE hkl c23 hV hL
 have hA:((w.alloc (.cells #[.int .i64 k,.int .i64 n,.string s] 84)).alloc (.cells #[.int .i64 kd,.int .i64 lv,.bool sh,.bool bk,.pointer tb,.bool d] 91)).heap[B]? =some (.cells #[.int .i64 k,.int .i64 n,.string s] 84 (0,0)):=by
  rw [←hB];exact ((Ux.Touch.refl (fun _=>False) _).alloc _).heap (heap_alloc_new w _) (fun f=>f)
 have hC:((w.alloc (.cells #[.int .i64 k,.int .i64 n,.string s] 84)).alloc (.cells #[.int .i64 kd,.int .i64 lv,.bool sh,.bool bk,.pointer tb,.bool d] 91)).heap[B+1]? =some (.cells #[.int .i64 kd,.int .i64 lv,.bool sh,.bool bk,.pointer tb,.bool d] 91 (0,0)):=by
  rw [←hB];have:=heap_alloc_new (w.alloc (.cells #[.int .i64 k,.int .i64 n,.string s] 84)) (.cells #[.int .i64 kd,.int .i64 lv,.bool sh,.bool bk,.pointer tb,.bool d] 91);rwa [World.size_alloc] at this
 have HAC:=Lib.hid (And.intro hA hC)
 clear hA hC
 go_enter Tryz.func36,Tryz.ntmps36
 go_wp2_with (go_at_call 85;fail)
 refine (C23.out _).mono ?_
 rintro e w2 ⟨rfl,T2⟩
 have hA2:=T2.heap HAC.out.1 (fun f=>f)
 have hC2:=T2.heap HAC.out.2 (fun f=>f)
 have T02:Ux.Touch (fun _=>False) w w2:=(((Ux.Touch.refl _ w).alloc _).alloc _).trans T2 (fun _ _ f=>f)
 have f0:w2.frozen? ⟨B,0,none⟩=false:=frozen_of_row w2 B 0 _ 84 hA2
 have f1:w2.frozen? ⟨B,1,none⟩=false:=frozen_of_row w2 B 1 _ 84 hA2
 have f2:w2.frozen? ⟨B,2,none⟩=false:=frozen_of_row w2 B 2 _ 84 hA2
 have e0:w2.cell? ⟨B,0,none⟩=some (.int .i64 k):=by rw [cell_of_row w2 B 0 _ 84 (0,0) hA2];rfl
 have e1:w2.cell? ⟨B,1,none⟩=some (.int .i64 n):=by rw [cell_of_row w2 B 1 _ 84 (0,0) hA2];rfl
 have e2:w2.cell? ⟨B,2,none⟩=some (.string s):=by rw [cell_of_row w2 B 2 _ 84 (0,0) hA2];rfl
 have H2:=Lib.hid (And.intro T02 (And.intro hA2 hC2))
 clear T2 hA2 hC2 T02 hB
 obtain ⟨k',n',s',hV',hc'⟩: ∃k' n' s',V=vV k' n' s'∧((k'=0∧L= [1])∨(k'=1∧n'=0∧L= [2,0])∨(k'=1∧n'=1∧L= [2,1])∨(k'=2∧n'=n∧L=3::num8 (n+9223372036854775808).toNat)∨(k'=3∧s'=s∧L=4::Ux.esc (keyP kd lv sh bk tb E s).data.toList)):=by
  rcases hc with ⟨a,b⟩|⟨a,b⟩|⟨a,b⟩|⟨a,b⟩|⟨a,b⟩
  ·exact ⟨_,_,_,a,.inl ⟨rfl,b⟩⟩
  ·exact ⟨_,_,_,a,.inr (.inl ⟨rfl,rfl,b⟩)⟩
  ·exact ⟨_,_,_,a,.inr (.inr (.inl ⟨rfl,rfl,b⟩))⟩
  ·exact ⟨_,_,_,a,.inr (.inr (.inr (.inl ⟨rfl,rfl,b⟩)))⟩
  ·exact ⟨_,_,_,a,.inr (.inr (.inr (.inr ⟨rfl,rfl,b⟩)))⟩
 rw [hV']
 unfold vV
 have HC:=Lib.hid hc'
 clear hc hc' hV'
 go_upto_region 3 with (fail)
 obtain ⟨w3,hw3⟩: ∃w3,((w2.setCell ⟨B,0,none⟩ (.int .i64 k')).setCell ⟨B,1,none⟩ (.int .i64 n')).setCell ⟨B,2,none⟩ (.string s')=w3:=⟨_,rfl⟩
 rw [hw3]
 have T23:Ux.Touch (fun b=>b=B) w2 w3:=by rw [←hw3];exact (((Ux.Touch.refl (fun b=>b=B) w2).setCell (p:=⟨B,0,none⟩) (fun _=>rfl) _).setCell (p:=⟨B,1,none⟩) (fun _=>rfl) _).setCell (p:=⟨B,2,none⟩) (fun _=>rfl) _
 have T03:Ux.Touch (fun _=>False) w w3:=H2.out.1.trans T23 (fun b h e=>by have:=HB.out;omega)
 have hA3:w3.heap[B]? =some (.cells #[.int .i64 k',.int .i64 n',.string s'] 84 (0,0)):=by
  rw [←hw3]
  exact heap_setCell_same _ B 2 _ 84 _ (heap_setCell_same _ B 1 _ 84 _ (heap_setCell_same _ B 0 _ 84 _ H2.out.2.1))
 have hC3:=T23.heap H2.out.2.2 (by omega)
 have HF:=Lib.hid fun W (T:Ux.Touch (fun _=>False) w3 W)=>
  show (W.cell? ⟨B,0,none⟩=some (.int .i64 k')∧W.cell? ⟨B,1,none⟩=some (.int .i64 n')∧W.cell? ⟨B,2,none⟩=some (.string s'))∧(W.cell? ⟨B+1,0,none⟩=some (.int .i64 kd)∧W.cell? ⟨B+1,1,none⟩=some (.int .i64 lv)∧W.cell? ⟨B+1,2,none⟩=some (.bool sh)∧W.cell? ⟨B+1,3,none⟩=some (.bool bk)∧W.cell? ⟨B+1,4,none⟩=some (.pointer tb))∧W.cell? ⟨B+1,5,none⟩=some (.bool d) from by
   have a:=T.heap hA3 (fun f=>f)
   have c:=T.heap hC3 (fun f=>f)
   refine ⟨⟨?_,?_,?_⟩,⟨?_,?_,?_,?_,?_⟩,?_⟩
   ·rw [cell_of_row W B 0 _ _ (0,0) a];rfl
   ·rw [cell_of_row W B 1 _ _ (0,0) a];rfl
   ·rw [cell_of_row W B 2 _ _ (0,0) a];rfl
   ·rw [cell_of_row W (B+1) 0 _ _ (0,0) c];rfl
   ·rw [cell_of_row W (B+1) 1 _ _ (0,0) c];rfl
   ·rw [cell_of_row W (B+1) 2 _ _ (0,0) c];rfl
   ·rw [cell_of_row W (B+1) 3 _ _ (0,0) c];rfl
   ·rw [cell_of_row W (B+1) 4 _ _ (0,0) c];rfl
   ·rw [cell_of_row W (B+1) 5 _ _ (0,0) c];rfl
 have H3:=Lib.hid T03
 obtain ⟨⟨a0,a1,a2⟩,⟨x0,x1,x2,x3,x4⟩,x5⟩:=HF.out w3 (Ux.Touch.refl _ _)
 clear hw3 T23 T03 hA3 hC3 f0 f1 f2 e0 e1 e2 H2 x0 x1 x2 x3 x4 x5
 have hc:=HC.out
 clear HC
 rcases hc with ⟨rfl,hb⟩|⟨rfl,rfl,hb⟩|⟨rfl,rfl,hb⟩|⟨rfl,rfl,hb⟩|⟨rfl,rfl,hb⟩
 ·subst hb
  have HX:=Lib.hid HL.out.symm
  have x5:=((Ux.Touch.refl (fun _=>False) w3).alloc (.cells #[.int .u8 1] 5)).cell (HF.out w3 (Ux.Touch.refl _ _)).2.2 (fun f=>f)
  clear HL
  cases d with
  |false=>
   go_wp2_with (refine Ux.is_convert 160 9 rfl ?_;refine Ux.wpList_bytes [1] rfl 160 9 5 _ rfl _ _ rfl Tryz.underlying160 Tryz.underlying5 Tryz.underlying9 ?_ ?_)
   first
   |go_ret
    exact ⟨val_no (X:=⟨#[1]⟩) HX.out,H3.out.alloc _⟩
   |skip
    ·intro j hj
     obtain rfl:j=0:=by have hj':j<1:=hj;omega
     exact (cell_add _ _ _ _).trans rfl
    ·go_ret
     exact ⟨val_no (X:=⟨#[1]⟩) HX.out,H3.out.alloc _⟩
  |true=>
   go_wp2_with (first
    |(go_at_call 87;refine (turn21 _ _ (show (⟨#[1]⟩:ByteArray).size≤9223372036854775807 by decide)).mono ?_;rintro e w9 ⟨rfl,T9⟩;have HT:=Lib.hid T9;clear T9)
    |(refine Ux.is_convert 160 9 rfl ?_;refine Ux.wpList_bytes [1] rfl 160 9 5 _ rfl _ _ rfl Tryz.underlying160 Tryz.underlying5 Tryz.underlying9 ?_ ?_))
   first
   |go_ret
    exact ⟨val_yes (X:=⟨#[1]⟩) HX.out,(H3.out.alloc _).trans HT.out fun _ _ f=>f⟩
   |skip
    ·intro j hj
     obtain rfl:j=0:=by have hj':j<1:=hj;omega
     exact (cell_add _ _ _ _).trans rfl
    ·go_ret
     exact ⟨val_yes (X:=⟨#[1]⟩) HX.out,(H3.out.alloc _).trans HT.out fun _ _ f=>f⟩
 ·subst hb
  have HX:=Lib.hid HL.out.symm
  have x5:=((Ux.Touch.refl (fun _=>False) w3).alloc (.cells #[.int .u8 2,.int .u8 0] 5)).cell (HF.out w3 (Ux.Touch.refl _ _)).2.2 (fun f=>f)
  clear HL
  cases d with
  |false=>
   go_wp2_with (refine Ux.is_convert 160 9 rfl ?_;refine Ux.wpList_bytes [2,0] rfl 160 9 5 _ rfl _ _ rfl Tryz.underlying160 Tryz.underlying5 Tryz.underlying9 ?_ ?_)
   first
   |go_ret
    exact ⟨val_no (X:=⟨#[2,0]⟩) HX.out,H3.out.alloc _⟩
   |skip
    ·intro j hj
     have hj0:j=0∨j=1:=by have hj':j<2:=hj;omega
     rcases hj0 with rfl|rfl<;>exact (cell_add _ _ _ _).trans rfl
    ·go_ret
     exact ⟨val_no (X:=⟨#[2,0]⟩) HX.out,H3.out.alloc _⟩
  |true=>
   go_wp2_with (first
    |(go_at_call 87;refine (turn21 _ _ (show (⟨#[2,0]⟩:ByteArray).size≤9223372036854775807 by decide)).mono ?_;rintro e w9 ⟨rfl,T9⟩;have HT:=Lib.hid T9;clear T9)
    |(refine Ux.is_convert 160 9 rfl ?_;refine Ux.wpList_bytes [2,0] rfl 160 9 5 _ rfl _ _ rfl Tryz.underlying160 Tryz.underlying5 Tryz.underlying9 ?_ ?_))
   first
   |go_ret
    exact ⟨val_yes (X:=⟨#[2,0]⟩) HX.out,(H3.out.alloc _).trans HT.out fun _ _ f=>f⟩
   |skip
    ·intro j hj
     have hj0:j=0∨j=1:=by have hj':j<2:=hj;omega
     rcases hj0 with rfl|rfl<;>exact (cell_add _ _ _ _).trans rfl
    ·go_ret
     exact ⟨val_yes (X:=⟨#[2,0]⟩) HX.out,(H3.out.alloc _).trans HT.out fun _ _ f=>f⟩
 ·subst hb
  have HX:=Lib.hid HL.out.symm
  have x5:=((Ux.Touch.refl (fun _=>False) w3).alloc (.cells #[.int .u8 2,.int .u8 1] 5)).cell (HF.out w3 (Ux.Touch.refl _ _)).2.2 (fun f=>f)
  clear HL
  cases d with
  |false=>
   go_wp2_with (refine Ux.is_convert 160 9 rfl ?_;refine Ux.wpList_bytes [2,1] rfl 160 9 5 _ rfl _ _ rfl Tryz.underlying160 Tryz.underlying5 Tryz.underlying9 ?_ ?_)
   first
   |go_ret
    exact ⟨val_no (X:=⟨#[2,1]⟩) HX.out,H3.out.alloc _⟩
   |skip
    ·intro j hj
     have hj0:j=0∨j=1:=by have hj':j<2:=hj;omega
     rcases hj0 with rfl|rfl<;>exact (cell_add _ _ _ _).trans rfl
    ·go_ret
     exact ⟨val_no (X:=⟨#[2,1]⟩) HX.out,H3.out.alloc _⟩
  |true=>
   go_wp2_with (first
    |(go_at_call 87;refine (turn21 _ _ (show (⟨#[2,1]⟩:ByteArray).size≤9223372036854775807 by decide)).mono ?_;rintro e w9 ⟨rfl,T9⟩;have HT:=Lib.hid T9;clear T9)
    |(refine Ux.is_convert 160 9 rfl ?_;refine Ux.wpList_bytes [2,1] rfl 160 9 5 _ rfl _ _ rfl Tryz.underlying160 Tryz.underlying5 Tryz.underlying9 ?_ ?_))
   first
   |go_ret
    exact ⟨val_yes (X:=⟨#[2,1]⟩) HX.out,(H3.out.alloc _).trans HT.out fun _ _ f=>f⟩
   |skip
    ·intro j hj
     have hj0:j=0∨j=1:=by have hj':j<2:=hj;omega
     rcases hj0 with rfl|rfl<;>exact (cell_add _ _ _ _).trans rfl
    ·go_ret
     exact ⟨val_yes (X:=⟨#[2,1]⟩) HX.out,(H3.out.alloc _).trans HT.out fun _ _ f=>f⟩
 ·subst hb
  have HX:=Lib.hid HL.out.symm
  have cv:=Lib.hid (conv1_ 3)
  clear HL
  go_wp2_with (fail)
  obtain ⟨⟨a0,a1,a2⟩,⟨x0,x1,x2,x3,x4⟩,-⟩:=HF.out w3 (Ux.Touch.refl _ _)
  refine Ux.wpr (fun _ w'=>w'.cell? ⟨B,1,none⟩=some (.int .i64 n')) (.q [2] (.h false [3] (.br 0 (.br 1 (.e 4 true true (.q [5] (.line [6]))) 4 (.e 1 true true (.q [5] (.line [6])))) 4 (.e 0 true true (.e 1 true true (.q [5] (.line [6]))))))) ?_;repeat ((with_reducible refine Ux.qg ?_);refine Ux.qu ?_)
  clear a0 a1 a2 x0 x1 x2 x3 x4
  obtain ⟨wc,hwc⟩: ∃W,w3.drew=W:=⟨_,rfl⟩
  rw [hwc]
  have HT:=Lib.hid (show Ux.Touch (fun _=>False) w3 wc by rw [←hwc];exact (Ux.Touch.refl _ _).drew)
  clear hwc
  refine ⟨?_,?_⟩
  ·have T:=(Ux.Touch.refl (fun _=>False) wc).alloc (.cells #[.int .u8 3] 5)
   have GG:=heap_alloc_new wc (.cells #[.int .u8 3] 5)
   obtain ⟨g,hg⟩: ∃g,wc.heap.size=g:=⟨_,rfl⟩
   rw [hg] at GG
   obtain ⟨wc,hwc⟩: ∃W,wc.alloc (.cells #[.int .u8 3] 5)=W:=⟨_,rfl⟩
   rw [hwc] at T GG
   have HT:=Lib.hid (HT.out.trans T fun _ _ f=>f)
   have G:=Lib.hid GG
   clear T GG
   go_wp2_with (fail)
   clear hwc hg
   first|refine ⟨⟨(HF.out _ HT.out).1.2.1,(HF.out _ HT.out).1.2.1⟩,?_⟩|refine ⟨(HF.out _ HT.out).1.2.1,?_⟩
   refine ⟨?_,?_⟩
   ·have hcv:=cv.out wc g G.out
    go_wp2_with (fail)
    clear hcv
    first|refine ⟨⟨(HF.out _ HT.out).1.2.1,(HF.out _ HT.out).1.2.1⟩,?_⟩|refine ⟨(HF.out _ HT.out).1.2.1,?_⟩
    go_wp2_with (go_at_call 84;fail)
    refine (HNUM.out _).mono ?_
    obtain ⟨N,hN⟩: ∃N:ByteArray,(⟨(num8 (n'+9223372036854775808).toNat).toArray⟩:ByteArray)=N:=⟨_,rfl⟩
    rw [hN]
    obtain ⟨q,q2,q3⟩:=cat3 N (by rw [←hN];rfl)
    have h5:3::N.data.toList=valB (keyP kd lv sh bk tb E) k n' s:=by rw [←hN];exact HX.out
    have HX2:=Lib.hid (q2.trans h5)
    have HX5:=Lib.hid h5
    clear h5
    have HX3:=Lib.hid q3
    clear hN q2 q3
    rintro e wc ⟨rfl,T⟩
    have HT:=Lib.hid (HT.out.trans T fun _ _ f=>f)
    try have G:=Lib.hid (T.heap G.out fun f=>f)
    clear T
    go_wp2_with (fail)
    first|refine ⟨⟨(HF.out _ HT.out).1.2.1,(HF.out _ HT.out).1.2.1⟩,?_⟩|refine ⟨(HF.out _ HT.out).1.2.1,?_⟩
    repeat ((with_reducible refine Ux.qg ?_);refine Ux.qu ?_)
    obtain ⟨-,-,x5⟩:=HF.out wc HT.out
    cases d with
    |false=>
     go_wp2_with (fail)
     go_ret
     exact ⟨val_no HX2.out,H3.out.trans HT.out fun _ _ f=>f⟩
    |true=>
     go_wp2_with (go_at_call 87;fail)
     refine (turn21 _ _ (by have:=HX3.out;omega)).mono ?_
     rintro e w9 ⟨rfl,T9⟩
     go_wp2
     go_ret
     exact ⟨val_yes2 HX5.out,(H3.out.trans HT.out fun _ _ f=>f).trans T9 fun _ _ f=>f⟩
   ·go_wp2_with (go_at_call 84;fail)
    refine (HNUM.out _).mono ?_
    obtain ⟨N,hN⟩: ∃N:ByteArray,(⟨(num8 (n'+9223372036854775808).toNat).toArray⟩:ByteArray)=N:=⟨_,rfl⟩
    rw [hN]
    obtain ⟨q,q2,q3⟩:=cat3 N (by rw [←hN];rfl)
    have h5:3::N.data.toList=valB (keyP kd lv sh bk tb E) k n' s:=by rw [←hN];exact HX.out
    have HX2:=Lib.hid (q2.trans h5)
    have HX5:=Lib.hid h5
    clear h5
    have HX3:=Lib.hid q3
    clear hN q2 q3
    rintro e wc ⟨rfl,T⟩
    have HT:=Lib.hid (HT.out.trans T fun _ _ f=>f)
    try have G:=Lib.hid (T.heap G.out fun f=>f)
    clear T
    go_wp2_with (fail)
    first|refine ⟨⟨(HF.out _ HT.out).1.2.1,(HF.out _ HT.out).1.2.1⟩,?_⟩|refine ⟨(HF.out _ HT.out).1.2.1,?_⟩
    have hcv:=cv.out wc g G.out
    go_wp2_with (fail)
    clear hcv
    first|refine ⟨⟨(HF.out _ HT.out).1.2.1,(HF.out _ HT.out).1.2.1⟩,?_⟩|refine ⟨(HF.out _ HT.out).1.2.1,?_⟩
    repeat ((with_reducible refine Ux.qg ?_);refine Ux.qu ?_)
    obtain ⟨-,-,x5⟩:=HF.out wc HT.out
    cases d with
    |false=>
     go_wp2_with (fail)
     go_ret
     exact ⟨val_no HX2.out,H3.out.trans HT.out fun _ _ f=>f⟩
    |true=>
     go_wp2_with (go_at_call 87;fail)
     refine (turn21 _ _ (by have:=HX3.out;omega)).mono ?_
     rintro e w9 ⟨rfl,T9⟩
     go_wp2
     go_ret
     exact ⟨val_yes2 HX5.out,(H3.out.trans HT.out fun _ _ f=>f).trans T9 fun _ _ f=>f⟩
  ·go_wp2_with (go_at_call 84;fail)
   refine (HNUM.out _).mono ?_
   obtain ⟨N,hN⟩: ∃N:ByteArray,(⟨(num8 (n'+9223372036854775808).toNat).toArray⟩:ByteArray)=N:=⟨_,rfl⟩
   rw [hN]
   obtain ⟨q,q2,q3⟩:=cat3 N (by rw [←hN];rfl)
   have h5:3::N.data.toList=valB (keyP kd lv sh bk tb E) k n' s:=by rw [←hN];exact HX.out
   have HX2:=Lib.hid (q2.trans h5)
   have HX5:=Lib.hid h5
   clear h5
   have HX3:=Lib.hid q3
   clear hN q2 q3
   rintro e wc ⟨rfl,T⟩
   have HT:=Lib.hid (HT.out.trans T fun _ _ f=>f)
   try have G:=Lib.hid (T.heap G.out fun f=>f)
   clear T
   go_wp2_with (fail)
   first|refine ⟨⟨(HF.out _ HT.out).1.2.1,(HF.out _ HT.out).1.2.1⟩,?_⟩|refine ⟨(HF.out _ HT.out).1.2.1,?_⟩
   have T:=(Ux.Touch.refl (fun _=>False) wc).alloc (.cells #[.int .u8 3] 5)
   have GG:=heap_alloc_new wc (.cells #[.int .u8 3] 5)
   obtain ⟨g,hg⟩: ∃g,wc.heap.size=g:=⟨_,rfl⟩
   rw [hg] at GG
   obtain ⟨wc,hwc⟩: ∃W,wc.alloc (.cells #[.int .u8 3] 5)=W:=⟨_,rfl⟩
   rw [hwc] at T GG
   have HT:=Lib.hid (HT.out.trans T fun _ _ f=>f)
   have G:=Lib.hid GG
   clear T GG
   go_wp2_with (fail)
   clear hwc hg
   first|refine ⟨⟨(HF.out _ HT.out).1.2.1,(HF.out _ HT.out).1.2.1⟩,?_⟩|refine ⟨(HF.out _ HT.out).1.2.1,?_⟩
   have hcv:=cv.out wc g G.out
   go_wp2_with (fail)
   clear hcv
   first|refine ⟨⟨(HF.out _ HT.out).1.2.1,(HF.out _ HT.out).1.2.1⟩,?_⟩|refine ⟨(HF.out _ HT.out).1.2.1,?_⟩
   repeat ((with_reducible refine Ux.qg ?_);refine Ux.qu ?_)
   obtain ⟨-,-,x5⟩:=HF.out wc HT.out
   cases d with
   |false=>
    go_wp2_with (fail)
    go_ret
    exact ⟨val_no HX2.out,H3.out.trans HT.out fun _ _ f=>f⟩
   |true=>
    go_wp2_with (go_at_call 87;fail)
    refine (turn21 _ _ (by have:=HX3.out;omega)).mono ?_
    rintro e w9 ⟨rfl,T9⟩
    go_wp2
    go_ret
    exact ⟨val_yes2 HX5.out,(H3.out.trans HT.out fun _ _ f=>f).trans T9 fun _ _ f=>f⟩
 ·subst hb
  have HX:=Lib.hid HL.out.symm
  have cv:=Lib.hid (conv1_ 4)
  clear HL
  go_wp2_with (fail)
  obtain ⟨⟨a0,a1,a2⟩,⟨x0,x1,x2,x3,x4⟩,-⟩:=HF.out w3 (Ux.Touch.refl _ _)
  refine Ux.wpr (fun _ w'=>(w'.cell? ⟨B+1,0,none⟩=some (.int .i64 kd)∧w'.cell? ⟨B+1,1,none⟩=some (.int .i64 lv)∧w'.cell? ⟨B+1,2,none⟩=some (.bool sh)∧w'.cell? ⟨B+1,3,none⟩=some (.bool bk)∧w'.cell? ⟨B+1,4,none⟩=some (.pointer tb))∧w'.cell? ⟨B,2,none⟩=some (.string s')) (.q [2,4] (.h false [3,5] (.br 0 (.br 1 (.e 6 true true (.e 7 true true (.q [8] (.line [9])))) 6 (.br 1 (.e 7 true true (.q [8] (.line [9]))) 7 (.e 1 true true (.q [8] (.line [9]))))) 6 (.br 0 (.br 1 (.e 7 true true (.q [8] (.line [9]))) 7 (.e 1 true true (.q [8] (.line [9])))) 7 (.e 0 true true (.e 1 true true (.q [8] (.line [9])))))))) ?_;repeat ((with_reducible refine Ux.qg ?_);refine Ux.qu ?_)
  clear a0 a1 a2 x0 x1 x2 x3 x4
  obtain ⟨wc,hwc⟩: ∃W,w3.drew=W:=⟨_,rfl⟩
  rw [hwc]
  have HT:=Lib.hid (show Ux.Touch (fun _=>False) w3 wc by rw [←hwc];exact (Ux.Touch.refl _ _).drew)
  clear hwc
  refine ⟨?_,?_⟩
  ·have T:=(Ux.Touch.refl (fun _=>False) wc).alloc (.cells #[.int .u8 4] 5)
   have GG:=heap_alloc_new wc (.cells #[.int .u8 4] 5)
   obtain ⟨g,hg⟩: ∃g,wc.heap.size=g:=⟨_,rfl⟩
   rw [hg] at GG
   obtain ⟨wc,hwc⟩: ∃W,wc.alloc (.cells #[.int .u8 4] 5)=W:=⟨_,rfl⟩
   rw [hwc] at T GG
   have HT:=Lib.hid (HT.out.trans T fun _ _ f=>f)
   have G:=Lib.hid GG
   clear T GG
   go_wp2_with (fail)
   clear hwc hg
   first|refine ⟨⟨⟨(HF.out _ HT.out).2.1,(HF.out _ HT.out).1.2.2⟩,⟨(HF.out _ HT.out).2.1,(HF.out _ HT.out).1.2.2⟩⟩,?_⟩|refine ⟨⟨(HF.out _ HT.out).2.1,(HF.out _ HT.out).1.2.2⟩,?_⟩
   refine ⟨?_,?_⟩
   ·have hcv:=cv.out wc g G.out
    go_wp2_with (fail)
    clear hcv
    first|refine ⟨⟨⟨(HF.out _ HT.out).2.1,(HF.out _ HT.out).1.2.2⟩,⟨(HF.out _ HT.out).2.1,(HF.out _ HT.out).1.2.2⟩⟩,?_⟩|refine ⟨⟨(HF.out _ HT.out).2.1,(HF.out _ HT.out).1.2.2⟩,?_⟩
    go_wp2_with (go_at_call 86;fail)
    refine (HKEY.out _ (H3.out.trans HT.out fun _ _ f=>f)).mono ?_
    rintro e wc ⟨rfl,T⟩
    have HT:=Lib.hid (HT.out.trans T fun _ _ f=>f)
    try have G:=Lib.hid (T.heap G.out fun f=>f)
    clear T
    go_wp2_with (fail)
    first|refine ⟨⟨⟨(HF.out _ HT.out).2.1,(HF.out _ HT.out).1.2.2⟩,⟨(HF.out _ HT.out).2.1,(HF.out _ HT.out).1.2.2⟩⟩,?_⟩|refine ⟨⟨(HF.out _ HT.out).2.1,(HF.out _ HT.out).1.2.2⟩,?_⟩
    go_wp2_with (go_at_call 80;fail)
    refine (HESC.out _ (H3.out.trans HT.out fun _ _ f=>f)).mono ?_
    obtain ⟨N,hN⟩: ∃N:ByteArray,(⟨(Ux.esc (keyP kd lv sh bk tb E s').data.toList).toArray⟩:ByteArray)=N:=⟨_,rfl⟩
    have hNs:=esc_sz (keyP kd lv sh bk tb E s')
    rw [hN] at hNs
    rw [hN]
    obtain ⟨q,q2,q3⟩:=cat4 N (by have:=HSZ.out;omega)
    have h5:4::N.data.toList=valB (keyP kd lv sh bk tb E) k n s':=by rw [←hN];exact HX.out
    have HX2:=Lib.hid (q2.trans h5)
    have HX5:=Lib.hid h5
    clear h5
    have HX3:=Lib.hid q3
    clear hN q2 q3 hNs
    rintro e wc ⟨rfl,T⟩
    have HT:=Lib.hid (HT.out.trans T fun _ _ f=>f)
    try have G:=Lib.hid (T.heap G.out fun f=>f)
    clear T
    go_wp2_with (fail)
    first|refine ⟨⟨⟨(HF.out _ HT.out).2.1,(HF.out _ HT.out).1.2.2⟩,⟨(HF.out _ HT.out).2.1,(HF.out _ HT.out).1.2.2⟩⟩,?_⟩|refine ⟨⟨(HF.out _ HT.out).2.1,(HF.out _ HT.out).1.2.2⟩,?_⟩
    repeat ((with_reducible refine Ux.qg ?_);refine Ux.qu ?_)
    obtain ⟨-,-,x5⟩:=HF.out wc HT.out
    cases d with
    |false=>
     go_wp2_with (fail)
     go_ret
     exact ⟨val_no HX2.out,H3.out.trans HT.out fun _ _ f=>f⟩
    |true=>
     go_wp2_with (go_at_call 87;fail)
     refine (turn21 _ _ (by have:=HX3.out;omega)).mono ?_
     rintro e w9 ⟨rfl,T9⟩
     go_wp2
     go_ret
     exact ⟨val_yes2 HX5.out,(H3.out.trans HT.out fun _ _ f=>f).trans T9 fun _ _ f=>f⟩
   ·go_wp2_with (go_at_call 86;fail)
    refine (HKEY.out _ (H3.out.trans HT.out fun _ _ f=>f)).mono ?_
    rintro e wc ⟨rfl,T⟩
    have HT:=Lib.hid (HT.out.trans T fun _ _ f=>f)
    try have G:=Lib.hid (T.heap G.out fun f=>f)
    clear T
    go_wp2_with (fail)
    first|refine ⟨⟨⟨(HF.out _ HT.out).2.1,(HF.out _ HT.out).1.2.2⟩,⟨(HF.out _ HT.out).2.1,(HF.out _ HT.out).1.2.2⟩⟩,?_⟩|refine ⟨⟨(HF.out _ HT.out).2.1,(HF.out _ HT.out).1.2.2⟩,?_⟩
    refine ⟨?_,?_⟩
    ·have hcv:=cv.out wc g G.out
     go_wp2_with (fail)
     clear hcv
     first|refine ⟨⟨⟨(HF.out _ HT.out).2.1,(HF.out _ HT.out).1.2.2⟩,⟨(HF.out _ HT.out).2.1,(HF.out _ HT.out).1.2.2⟩⟩,?_⟩|refine ⟨⟨(HF.out _ HT.out).2.1,(HF.out _ HT.out).1.2.2⟩,?_⟩
     go_wp2_with (go_at_call 80;fail)
     refine (HESC.out _ (H3.out.trans HT.out fun _ _ f=>f)).mono ?_
     obtain ⟨N,hN⟩: ∃N:ByteArray,(⟨(Ux.esc (keyP kd lv sh bk tb E s').data.toList).toArray⟩:ByteArray)=N:=⟨_,rfl⟩
     have hNs:=esc_sz (keyP kd lv sh bk tb E s')
     rw [hN] at hNs
     rw [hN]
     obtain ⟨q,q2,q3⟩:=cat4 N (by have:=HSZ.out;omega)
     have h5:4::N.data.toList=valB (keyP kd lv sh bk tb E) k n s':=by rw [←hN];exact HX.out
     have HX2:=Lib.hid (q2.trans h5)
     have HX5:=Lib.hid h5
     clear h5
     have HX3:=Lib.hid q3
     clear hN q2 q3 hNs
     rintro e wc ⟨rfl,T⟩
     have HT:=Lib.hid (HT.out.trans T fun _ _ f=>f)
     try have G:=Lib.hid (T.heap G.out fun f=>f)
     clear T
     go_wp2_with (fail)
     first|refine ⟨⟨⟨(HF.out _ HT.out).2.1,(HF.out _ HT.out).1.2.2⟩,⟨(HF.out _ HT.out).2.1,(HF.out _ HT.out).1.2.2⟩⟩,?_⟩|refine ⟨⟨(HF.out _ HT.out).2.1,(HF.out _ HT.out).1.2.2⟩,?_⟩
     repeat ((with_reducible refine Ux.qg ?_);refine Ux.qu ?_)
     obtain ⟨-,-,x5⟩:=HF.out wc HT.out
     cases d with
     |false=>
      go_wp2_with (fail)
      go_ret
      exact ⟨val_no HX2.out,H3.out.trans HT.out fun _ _ f=>f⟩
     |true=>
      go_wp2_with (go_at_call 87;fail)
      refine (turn21 _ _ (by have:=HX3.out;omega)).mono ?_
      rintro e w9 ⟨rfl,T9⟩
      go_wp2
      go_ret
      exact ⟨val_yes2 HX5.out,(H3.out.trans HT.out fun _ _ f=>f).trans T9 fun _ _ f=>f⟩
    ·go_wp2_with (go_at_call 80;fail)
     refine (HESC.out _ (H3.out.trans HT.out fun _ _ f=>f)).mono ?_
     obtain ⟨N,hN⟩: ∃N:ByteArray,(⟨(Ux.esc (keyP kd lv sh bk tb E s').data.toList).toArray⟩:ByteArray)=N:=⟨_,rfl⟩
     have hNs:=esc_sz (keyP kd lv sh bk tb E s')
     rw [hN] at hNs
     rw [hN]
     obtain ⟨q,q2,q3⟩:=cat4 N (by have:=HSZ.out;omega)
     have h5:4::N.data.toList=valB (keyP kd lv sh bk tb E) k n s':=by rw [←hN];exact HX.out
     have HX2:=Lib.hid (q2.trans h5)
     have HX5:=Lib.hid h5
     clear h5
     have HX3:=Lib.hid q3
     clear hN q2 q3 hNs
     rintro e wc ⟨rfl,T⟩
     have HT:=Lib.hid (HT.out.trans T fun _ _ f=>f)
     try have G:=Lib.hid (T.heap G.out fun f=>f)
     clear T
     go_wp2_with (fail)
     first|refine ⟨⟨⟨(HF.out _ HT.out).2.1,(HF.out _ HT.out).1.2.2⟩,⟨(HF.out _ HT.out).2.1,(HF.out _ HT.out).1.2.2⟩⟩,?_⟩|refine ⟨⟨(HF.out _ HT.out).2.1,(HF.out _ HT.out).1.2.2⟩,?_⟩
     have hcv:=cv.out wc g G.out
     go_wp2_with (fail)
     clear hcv
     first|refine ⟨⟨⟨(HF.out _ HT.out).2.1,(HF.out _ HT.out).1.2.2⟩,⟨(HF.out _ HT.out).2.1,(HF.out _ HT.out).1.2.2⟩⟩,?_⟩|refine ⟨⟨(HF.out _ HT.out).2.1,(HF.out _ HT.out).1.2.2⟩,?_⟩
     repeat ((with_reducible refine Ux.qg ?_);refine Ux.qu ?_)
     obtain ⟨-,-,x5⟩:=HF.out wc HT.out
     cases d with
     |false=>
      go_wp2_with (fail)
      go_ret
      exact ⟨val_no HX2.out,H3.out.trans HT.out fun _ _ f=>f⟩
     |true=>
      go_wp2_with (go_at_call 87;fail)
      refine (turn21 _ _ (by have:=HX3.out;omega)).mono ?_
      rintro e w9 ⟨rfl,T9⟩
      go_wp2
      go_ret
      exact ⟨val_yes2 HX5.out,(H3.out.trans HT.out fun _ _ f=>f).trans T9 fun _ _ f=>f⟩
  ·go_wp2_with (go_at_call 86;fail)
   refine (HKEY.out _ (H3.out.trans HT.out fun _ _ f=>f)).mono ?_
   rintro e wc ⟨rfl,T⟩
   have HT:=Lib.hid (HT.out.trans T fun _ _ f=>f)
   try have G:=Lib.hid (T.heap G.out fun f=>f)
   clear T
   go_wp2_with (fail)
   first|refine ⟨⟨⟨(HF.out _ HT.out).2.1,(HF.out _ HT.out).1.2.2⟩,⟨(HF.out _ HT.out).2.1,(HF.out _ HT.out).1.2.2⟩⟩,?_⟩|refine ⟨⟨(HF.out _ HT.out).2.1,(HF.out _ HT.out).1.2.2⟩,?_⟩
   refine ⟨?_,?_⟩
   ·have T:=(Ux.Touch.refl (fun _=>False) wc).alloc (.cells #[.int .u8 4] 5)
    have GG:=heap_alloc_new wc (.cells #[.int .u8 4] 5)
    obtain ⟨g,hg⟩: ∃g,wc.heap.size=g:=⟨_,rfl⟩
    rw [hg] at GG
    obtain ⟨wc,hwc⟩: ∃W,wc.alloc (.cells #[.int .u8 4] 5)=W:=⟨_,rfl⟩
    rw [hwc] at T GG
    have HT:=Lib.hid (HT.out.trans T fun _ _ f=>f)
    have G:=Lib.hid GG
    clear T GG
    go_wp2_with (fail)
    clear hwc hg
    first|refine ⟨⟨⟨(HF.out _ HT.out).2.1,(HF.out _ HT.out).1.2.2⟩,⟨(HF.out _ HT.out).2.1,(HF.out _ HT.out).1.2.2⟩⟩,?_⟩|refine ⟨⟨(HF.out _ HT.out).2.1,(HF.out _ HT.out).1.2.2⟩,?_⟩
    refine ⟨?_,?_⟩
    ·have hcv:=cv.out wc g G.out
     go_wp2_with (fail)
     clear hcv
     first|refine ⟨⟨⟨(HF.out _ HT.out).2.1,(HF.out _ HT.out).1.2.2⟩,⟨(HF.out _ HT.out).2.1,(HF.out _ HT.out).1.2.2⟩⟩,?_⟩|refine ⟨⟨(HF.out _ HT.out).2.1,(HF.out _ HT.out).1.2.2⟩,?_⟩
     go_wp2_with (go_at_call 80;fail)
     refine (HESC.out _ (H3.out.trans HT.out fun _ _ f=>f)).mono ?_
     obtain ⟨N,hN⟩: ∃N:ByteArray,(⟨(Ux.esc (keyP kd lv sh bk tb E s').data.toList).toArray⟩:ByteArray)=N:=⟨_,rfl⟩
     have hNs:=esc_sz (keyP kd lv sh bk tb E s')
     rw [hN] at hNs
     rw [hN]
     obtain ⟨q,q2,q3⟩:=cat4 N (by have:=HSZ.out;omega)
     have h5:4::N.data.toList=valB (keyP kd lv sh bk tb E) k n s':=by rw [←hN];exact HX.out
     have HX2:=Lib.hid (q2.trans h5)
     have HX5:=Lib.hid h5
     clear h5
     have HX3:=Lib.hid q3
     clear hN q2 q3 hNs
     rintro e wc ⟨rfl,T⟩
     have HT:=Lib.hid (HT.out.trans T fun _ _ f=>f)
     try have G:=Lib.hid (T.heap G.out fun f=>f)
     clear T
     go_wp2_with (fail)
     first|refine ⟨⟨⟨(HF.out _ HT.out).2.1,(HF.out _ HT.out).1.2.2⟩,⟨(HF.out _ HT.out).2.1,(HF.out _ HT.out).1.2.2⟩⟩,?_⟩|refine ⟨⟨(HF.out _ HT.out).2.1,(HF.out _ HT.out).1.2.2⟩,?_⟩
     repeat ((with_reducible refine Ux.qg ?_);refine Ux.qu ?_)
     obtain ⟨-,-,x5⟩:=HF.out wc HT.out
     cases d with
     |false=>
      go_wp2_with (fail)
      go_ret
      exact ⟨val_no HX2.out,H3.out.trans HT.out fun _ _ f=>f⟩
     |true=>
      go_wp2_with (go_at_call 87;fail)
      refine (turn21 _ _ (by have:=HX3.out;omega)).mono ?_
      rintro e w9 ⟨rfl,T9⟩
      go_wp2
      go_ret
      exact ⟨val_yes2 HX5.out,(H3.out.trans HT.out fun _ _ f=>f).trans T9 fun _ _ f=>f⟩
    ·go_wp2_with (go_at_call 80;fail)
     refine (HESC.out _ (H3.out.trans HT.out fun _ _ f=>f)).mono ?_
     obtain ⟨N,hN⟩: ∃N:ByteArray,(⟨(Ux.esc (keyP kd lv sh bk tb E s').data.toList).toArray⟩:ByteArray)=N:=⟨_,rfl⟩
     have hNs:=esc_sz (keyP kd lv sh bk tb E s')
     rw [hN] at hNs
     rw [hN]
     obtain ⟨q,q2,q3⟩:=cat4 N (by have:=HSZ.out;omega)
     have h5:4::N.data.toList=valB (keyP kd lv sh bk tb E) k n s':=by rw [←hN];exact HX.out
     have HX2:=Lib.hid (q2.trans h5)
     have HX5:=Lib.hid h5
     clear h5
     have HX3:=Lib.hid q3
     clear hN q2 q3 hNs
     rintro e wc ⟨rfl,T⟩
     have HT:=Lib.hid (HT.out.trans T fun _ _ f=>f)
     try have G:=Lib.hid (T.heap G.out fun f=>f)
     clear T
     go_wp2_with (fail)
     first|refine ⟨⟨⟨(HF.out _ HT.out).2.1,(HF.out _ HT.out).1.2.2⟩,⟨(HF.out _ HT.out).2.1,(HF.out _ HT.out).1.2.2⟩⟩,?_⟩|refine ⟨⟨(HF.out _ HT.out).2.1,(HF.out _ HT.out).1.2.2⟩,?_⟩
     have hcv:=cv.out wc g G.out
     go_wp2_with (fail)
     clear hcv
     first|refine ⟨⟨⟨(HF.out _ HT.out).2.1,(HF.out _ HT.out).1.2.2⟩,⟨(HF.out _ HT.out).2.1,(HF.out _ HT.out).1.2.2⟩⟩,?_⟩|refine ⟨⟨(HF.out _ HT.out).2.1,(HF.out _ HT.out).1.2.2⟩,?_⟩
     repeat ((with_reducible refine Ux.qg ?_);refine Ux.qu ?_)
     obtain ⟨-,-,x5⟩:=HF.out wc HT.out
     cases d with
     |false=>
      go_wp2_with (fail)
      go_ret
      exact ⟨val_no HX2.out,H3.out.trans HT.out fun _ _ f=>f⟩
     |true=>
      go_wp2_with (go_at_call 87;fail)
      refine (turn21 _ _ (by have:=HX3.out;omega)).mono ?_
      rintro e w9 ⟨rfl,T9⟩
      go_wp2
      go_ret
      exact ⟨val_yes2 HX5.out,(H3.out.trans HT.out fun _ _ f=>f).trans T9 fun _ _ f=>f⟩
   ·go_wp2_with (go_at_call 80;fail)
    refine (HESC.out _ (H3.out.trans HT.out fun _ _ f=>f)).mono ?_
    obtain ⟨N,hN⟩: ∃N:ByteArray,(⟨(Ux.esc (keyP kd lv sh bk tb E s').data.toList).toArray⟩:ByteArray)=N:=⟨_,rfl⟩
    have hNs:=esc_sz (keyP kd lv sh bk tb E s')
    rw [hN] at hNs
    rw [hN]
    obtain ⟨q,q2,q3⟩:=cat4 N (by have:=HSZ.out;omega)
    have h5:4::N.data.toList=valB (keyP kd lv sh bk tb E) k n s':=by rw [←hN];exact HX.out
    have HX2:=Lib.hid (q2.trans h5)
    have HX5:=Lib.hid h5
    clear h5
    have HX3:=Lib.hid q3
    clear hN q2 q3 hNs
    rintro e wc ⟨rfl,T⟩
    have HT:=Lib.hid (HT.out.trans T fun _ _ f=>f)
    try have G:=Lib.hid (T.heap G.out fun f=>f)
    clear T
    go_wp2_with (fail)
    first|refine ⟨⟨⟨(HF.out _ HT.out).2.1,(HF.out _ HT.out).1.2.2⟩,⟨(HF.out _ HT.out).2.1,(HF.out _ HT.out).1.2.2⟩⟩,?_⟩|refine ⟨⟨(HF.out _ HT.out).2.1,(HF.out _ HT.out).1.2.2⟩,?_⟩
    have T:=(Ux.Touch.refl (fun _=>False) wc).alloc (.cells #[.int .u8 4] 5)
    have GG:=heap_alloc_new wc (.cells #[.int .u8 4] 5)
    obtain ⟨g,hg⟩: ∃g,wc.heap.size=g:=⟨_,rfl⟩
    rw [hg] at GG
    obtain ⟨wc,hwc⟩: ∃W,wc.alloc (.cells #[.int .u8 4] 5)=W:=⟨_,rfl⟩
    rw [hwc] at T GG
    have HT:=Lib.hid (HT.out.trans T fun _ _ f=>f)
    have G:=Lib.hid GG
    clear T GG
    go_wp2_with (fail)
    clear hwc hg
    first|refine ⟨⟨⟨(HF.out _ HT.out).2.1,(HF.out _ HT.out).1.2.2⟩,⟨(HF.out _ HT.out).2.1,(HF.out _ HT.out).1.2.2⟩⟩,?_⟩|refine ⟨⟨(HF.out _ HT.out).2.1,(HF.out _ HT.out).1.2.2⟩,?_⟩
    have hcv:=cv.out wc g G.out
    go_wp2_with (fail)
    clear hcv
    first|refine ⟨⟨⟨(HF.out _ HT.out).2.1,(HF.out _ HT.out).1.2.2⟩,⟨(HF.out _ HT.out).2.1,(HF.out _ HT.out).1.2.2⟩⟩,?_⟩|refine ⟨⟨(HF.out _ HT.out).2.1,(HF.out _ HT.out).1.2.2⟩,?_⟩
    repeat ((with_reducible refine Ux.qg ?_);refine Ux.qu ?_)
    obtain ⟨-,-,x5⟩:=HF.out wc HT.out
    cases d with
    |false=>
     go_wp2_with (fail)
     go_ret
     exact ⟨val_no HX2.out,H3.out.trans HT.out fun _ _ f=>f⟩
    |true=>
     go_wp2_with (go_at_call 87;fail)
     refine (turn21 _ _ (by have:=HX3.out;omega)).mono ?_
     rintro e w9 ⟨rfl,T9⟩
     go_wp2
     go_ret
     exact ⟨val_yes2 HX5.out,(H3.out.trans HT.out fun _ _ f=>f).trans T9 fun _ _ f=>f⟩
end Go.Proofs.YtfccjaboicpohaaGreatDoor
namespace Go.Proofs.YtfccjaboicpohaaGreatDoor
open Go.RowKit
open Ux (Ent okT)
set_option maxHeartbeats 8000000 in
set_option maxRecDepth 100000 in
theorem rvalue_ (kd lv:Int) (hlv:kd=3→0≤lv∧lv≤3) (sh bk:Bool) (xa:Option Addr) (xn xc:Nat) (TT:List Ent) (A:Nat→Prop) (k n:Int) (s:ByteArray) (d:Bool) (w:World) (hn: -9223372036854775808≤n∧n≤9223372036854775807) (hs:s.size≤1000000)
 (hT:kd=3→RRows w A (.slice xa xn xc) TT∧okT TT∧TT.length≤1000) (hkl:(rkeyC kd lv sh bk TT s).size≤1000000):
 Calls Tryz.prog 37 #[vV k n s,.agg #[.int .i64 kd,.int .i64 lv,.bool sh,.bool bk,.slice xa xn xc,.bool d]] w fun e w'=>e= .returned (.string (valP (rkeyC kd lv sh bk TT) d k n s))∧Ux.Touch (fun _=>False) w w':=by
 have c23:=vclean_ k n s
 have hc:=clV_cases (rkeyC kd lv sh bk TT) k n s
 have HKEY:=Lib.hid fun W (t:Ux.Touch (fun _=>False) w W)=>rkey_ kd lv hlv sh bk (.slice xa xn xc) TT _ s W ⟨_,_,_,rfl⟩ (fun e=>⟨(hT e).1.touch0 t,(hT e).2⟩) hs
 have HESC:=Lib.hid fun W=>refEscape12 (rkeyC kd lv sh bk TT s) W (by omega)
 have HNUM:=Lib.hid fun W=>eight_ n hn W
 have HSZ:=Lib.hid hkl
 unfold rcV at HKEY
 unfold vV at c23⊢
 obtain ⟨B,hB⟩: ∃B,w.heap.size=B:=⟨_,rfl⟩
 have HB:=Lib.hid hB
 obtain ⟨V,hV⟩: ∃V,clV k n s=V:=⟨_,rfl⟩
 rw [hV] at c23 hc
 obtain ⟨L,hL⟩: ∃L,valB (rkeyC kd lv sh bk TT) k n s=L:=⟨_,rfl⟩
 rw [hL] at hc
 have HL:=Lib.hid hL
 have C23:=Lib.hid c23
 clear hlv hs hn hT hkl c23 hV hL
 have hA:((w.alloc (.cells #[.int .i64 k,.int .i64 n,.string s] 84)).alloc (.cells #[.int .i64 kd,.int .i64 lv,.bool sh,.bool bk,.slice xa xn xc,.bool d] 86)).heap[B]? =some (.cells #[.int .i64 k,.int .i64 n,.string s] 84 (0,0)):=by
  rw [←hB];exact ((Ux.Touch.refl (fun _=>False) _).alloc _).heap (heap_alloc_new w _) (fun f=>f)
 have hC:((w.alloc (.cells #[.int .i64 k,.int .i64 n,.string s] 84)).alloc (.cells #[.int .i64 kd,.int .i64 lv,.bool sh,.bool bk,.slice xa xn xc,.bool d] 86)).heap[B+1]? =some (.cells #[.int .i64 kd,.int .i64 lv,.bool sh,.bool bk,.slice xa xn xc,.bool d] 86 (0,0)):=by
  rw [←hB];have:=heap_alloc_new (w.alloc (.cells #[.int .i64 k,.int .i64 n,.string s] 84)) (.cells #[.int .i64 kd,.int .i64 lv,.bool sh,.bool bk,.slice xa xn xc,.bool d] 86);rwa [World.size_alloc] at this
 have HAC:=Lib.hid (And.intro hA hC)
 clear hA hC
 go_enter Tryz.func37,Tryz.ntmps37
 go_wp2_with (go_at_call 81;fail)
 refine (C23.out _).mono ?_
 rintro e w2 ⟨rfl,T2⟩
 have hA2:=T2.heap HAC.out.1 (fun f=>f)
 have hC2:=T2.heap HAC.out.2 (fun f=>f)
 have T02:Ux.Touch (fun _=>False) w w2:=(((Ux.Touch.refl _ w).alloc _).alloc _).trans T2 (fun _ _ f=>f)
 have f0:w2.frozen? ⟨B,0,none⟩=false:=frozen_of_row w2 B 0 _ 84 hA2
 have f1:w2.frozen? ⟨B,1,none⟩=false:=frozen_of_row w2 B 1 _ 84 hA2
 have f2:w2.frozen? ⟨B,2,none⟩=false:=frozen_of_row w2 B 2 _ 84 hA2
 have e0:w2.cell? ⟨B,0,none⟩=some (.int .i64 k):=by rw [cell_of_row w2 B 0 _ 84 (0,0) hA2];rfl
 have e1:w2.cell? ⟨B,1,none⟩=some (.int .i64 n):=by rw [cell_of_row w2 B 1 _ 84 (0,0) hA2];rfl
 have e2:w2.cell? ⟨B,2,none⟩=some (.string s):=by rw [cell_of_row w2 B 2 _ 84 (0,0) hA2];rfl
 have H2:=Lib.hid (And.intro T02 (And.intro hA2 hC2))
 clear T2 hA2 hC2 T02 hB
 obtain ⟨k',n',s',hV',hc'⟩: ∃k' n' s',V=vV k' n' s'∧((k'=0∧L= [1])∨(k'=1∧n'=0∧L= [2,0])∨(k'=1∧n'=1∧L= [2,1])∨(k'=2∧n'=n∧L=3::num8 (n+9223372036854775808).toNat)∨(k'=3∧s'=s∧L=4::Ux.esc (rkeyC kd lv sh bk TT s).data.toList)):=by
  rcases hc with ⟨a,b⟩|⟨a,b⟩|⟨a,b⟩|⟨a,b⟩|⟨a,b⟩
  ·exact ⟨_,_,_,a,.inl ⟨rfl,b⟩⟩
  ·exact ⟨_,_,_,a,.inr (.inl ⟨rfl,rfl,b⟩)⟩
  ·exact ⟨_,_,_,a,.inr (.inr (.inl ⟨rfl,rfl,b⟩))⟩
  ·exact ⟨_,_,_,a,.inr (.inr (.inr (.inl ⟨rfl,rfl,b⟩)))⟩
  ·exact ⟨_,_,_,a,.inr (.inr (.inr (.inr ⟨rfl,rfl,b⟩)))⟩
 rw [hV']
 unfold vV
 have HC:=Lib.hid hc'
 clear hc hc' hV'
 go_upto_region 3 with (fail)
 obtain ⟨w3,hw3⟩: ∃w3,((w2.setCell ⟨B,0,none⟩ (.int .i64 k')).setCell ⟨B,1,none⟩ (.int .i64 n')).setCell ⟨B,2,none⟩ (.string s')=w3:=⟨_,rfl⟩
 rw [hw3]
 have T23:Ux.Touch (fun b=>b=B) w2 w3:=by rw [←hw3];exact (((Ux.Touch.refl (fun b=>b=B) w2).setCell (p:=⟨B,0,none⟩) (fun _=>rfl) _).setCell (p:=⟨B,1,none⟩) (fun _=>rfl) _).setCell (p:=⟨B,2,none⟩) (fun _=>rfl) _
 have T03:Ux.Touch (fun _=>False) w w3:=H2.out.1.trans T23 (fun b h e=>by have:=HB.out;omega)
 have hA3:w3.heap[B]? =some (.cells #[.int .i64 k',.int .i64 n',.string s'] 84 (0,0)):=by
  rw [←hw3]
  exact heap_setCell_same _ B 2 _ 84 _ (heap_setCell_same _ B 1 _ 84 _ (heap_setCell_same _ B 0 _ 84 _ H2.out.2.1))
 have hC3:=T23.heap H2.out.2.2 (by omega)
 have HF:=Lib.hid fun W (T:Ux.Touch (fun _=>False) w3 W)=>
  show (W.cell? ⟨B,0,none⟩=some (.int .i64 k')∧W.cell? ⟨B,1,none⟩=some (.int .i64 n')∧W.cell? ⟨B,2,none⟩=some (.string s'))∧(W.cell? ⟨B+1,0,none⟩=some (.int .i64 kd)∧W.cell? ⟨B+1,1,none⟩=some (.int .i64 lv)∧W.cell? ⟨B+1,2,none⟩=some (.bool sh)∧W.cell? ⟨B+1,3,none⟩=some (.bool bk)∧W.cell? ⟨B+1,4,none⟩=some (.slice xa xn xc))∧W.cell? ⟨B+1,5,none⟩=some (.bool d) from by
   have a:=T.heap hA3 (fun f=>f)
   have c:=T.heap hC3 (fun f=>f)
   refine ⟨⟨?_,?_,?_⟩,⟨?_,?_,?_,?_,?_⟩,?_⟩
   ·rw [cell_of_row W B 0 _ _ (0,0) a];rfl
   ·rw [cell_of_row W B 1 _ _ (0,0) a];rfl
   ·rw [cell_of_row W B 2 _ _ (0,0) a];rfl
   ·rw [cell_of_row W (B+1) 0 _ _ (0,0) c];rfl
   ·rw [cell_of_row W (B+1) 1 _ _ (0,0) c];rfl
   ·rw [cell_of_row W (B+1) 2 _ _ (0,0) c];rfl
   ·rw [cell_of_row W (B+1) 3 _ _ (0,0) c];rfl
   ·rw [cell_of_row W (B+1) 4 _ _ (0,0) c];rfl
   ·rw [cell_of_row W (B+1) 5 _ _ (0,0) c];rfl
 have H3:=Lib.hid T03
 obtain ⟨⟨a0,a1,a2⟩,⟨x0,x1,x2,x3,x4⟩,x5⟩:=HF.out w3 (Ux.Touch.refl _ _)
 clear hw3 T23 T03 hA3 hC3 f0 f1 f2 e0 e1 e2 H2 x0 x1 x2 x3 x4 x5
 have hc:=HC.out
 clear HC
 rcases hc with ⟨rfl,hb⟩|⟨rfl,rfl,hb⟩|⟨rfl,rfl,hb⟩|⟨rfl,rfl,hb⟩|⟨rfl,rfl,hb⟩
 ·subst hb
  have HX:=Lib.hid HL.out.symm
  have x5:=(HF.out w3 (Ux.Touch.refl _ _)).2.2
  clear HL
  cases d with
  |false=>
   go_wp2_with (fail)
   go_ret
   exact ⟨val_no (X:=⟨#[1]⟩) HX.out,H3.out⟩
  |true=>
   go_wp2_with (go_at_call 91;fail)
   refine (turned22 ⟨#[1]⟩ _ (by decide) (by decide)).mono ?_
   rintro e w9 ⟨rfl,T9⟩
   go_wp2
   go_ret
   exact ⟨val_yes (X:=⟨#[1]⟩) HX.out,H3.out.trans T9 fun _ _ f=>f⟩
 ·subst hb
  have HX:=Lib.hid HL.out.symm
  have x5:=((Ux.Touch.refl (fun _=>False) w3).alloc (.cells #[.int .u8 2,.int .u8 0] 5)).cell (HF.out w3 (Ux.Touch.refl _ _)).2.2 (fun f=>f)
  clear HL
  cases d with
  |false=>
   go_wp2_with (refine Ux.is_convert 160 9 rfl ?_;refine Ux.wpList_bytes [2,0] rfl 160 9 5 _ rfl _ _ rfl Tryz.underlying160 Tryz.underlying5 Tryz.underlying9 ?_ ?_)
   ·intro j hj
    have hj0:j=0∨j=1:=by have hj':j<2:=hj;omega
    rcases hj0 with rfl|rfl<;>exact (cell_add _ _ _ _).trans rfl
   ·go_ret
    exact ⟨val_no (X:=⟨#[2,0]⟩) HX.out,H3.out.alloc _⟩
  |true=>
   go_wp2_with (first
    |(go_at_call 91;refine (turned22 ⟨#[2,0]⟩ _ (by decide) (by decide)).mono ?_;rintro e w9 ⟨rfl,T9⟩;have HT:=Lib.hid T9;clear T9)
    |(refine Ux.is_convert 160 9 rfl ?_;refine Ux.wpList_bytes [2,0] rfl 160 9 5 _ rfl _ _ rfl Tryz.underlying160 Tryz.underlying5 Tryz.underlying9 ?_ ?_))
   ·intro j hj
    have hj0:j=0∨j=1:=by have hj':j<2:=hj;omega
    rcases hj0 with rfl|rfl<;>exact (cell_add _ _ _ _).trans rfl
   ·go_ret
    exact ⟨val_yes (X:=⟨#[2,0]⟩) HX.out,(H3.out.alloc _).trans HT.out fun _ _ f=>f⟩
 ·subst hb
  have HX:=Lib.hid HL.out.symm
  have x5:=((Ux.Touch.refl (fun _=>False) w3).alloc (.cells #[.int .u8 2,.int .u8 1] 5)).cell (HF.out w3 (Ux.Touch.refl _ _)).2.2 (fun f=>f)
  clear HL
  cases d with
  |false=>
   go_wp2_with (refine Ux.is_convert 160 9 rfl ?_;refine Ux.wpList_bytes [2,1] rfl 160 9 5 _ rfl _ _ rfl Tryz.underlying160 Tryz.underlying5 Tryz.underlying9 ?_ ?_)
   ·intro j hj
    have hj0:j=0∨j=1:=by have hj':j<2:=hj;omega
    rcases hj0 with rfl|rfl<;>exact (cell_add _ _ _ _).trans rfl
   ·go_ret
    exact ⟨val_no (X:=⟨#[2,1]⟩) HX.out,H3.out.alloc _⟩
  |true=>
   go_wp2_with (first
    |(go_at_call 91;refine (turned22 ⟨#[2,1]⟩ _ (by decide) (by decide)).mono ?_;rintro e w9 ⟨rfl,T9⟩;have HT:=Lib.hid T9;clear T9)
    |(refine Ux.is_convert 160 9 rfl ?_;refine Ux.wpList_bytes [2,1] rfl 160 9 5 _ rfl _ _ rfl Tryz.underlying160 Tryz.underlying5 Tryz.underlying9 ?_ ?_))
   ·intro j hj
    have hj0:j=0∨j=1:=by have hj':j<2:=hj;omega
    rcases hj0 with rfl|rfl<;>exact (cell_add _ _ _ _).trans rfl
   ·go_ret
    exact ⟨val_yes (X:=⟨#[2,1]⟩) HX.out,(H3.out.alloc _).trans HT.out fun _ _ f=>f⟩
 ·subst hb
  have HX:=Lib.hid HL.out.symm
  obtain ⟨⟨a0,a1,a2⟩,⟨x0,x1,x2,x3,x4⟩,-⟩:=HF.out w3 (Ux.Touch.refl _ _)
  clear HL
  go_wp2_with (go_at_call 88;fail)
  refine (HNUM.out _).mono ?_
  obtain ⟨N,hN⟩: ∃N:ByteArray,(⟨(num8 (n'+9223372036854775808).toNat).toArray⟩:ByteArray)=N:=⟨_,rfl⟩
  rw [hN]
  obtain ⟨q,q2,q3⟩:=cat3 N (by rw [←hN];rfl)
  have h5:3::N.data.toList=valB (rkeyC kd lv sh bk TT) k n' s:=by rw [←hN];exact HX.out
  have HX2:=Lib.hid (q2.trans h5)
  have HX5:=Lib.hid h5
  clear h5
  have HX3:=Lib.hid q3
  have HX4:=Lib.hid (show 0<((⟨#[3]⟩:ByteArray)++N).size by rw [ByteArray.size_append];show 0<1+N.size;omega)
  clear hN q2 q3
  rintro e wc ⟨rfl,T⟩
  have HT:=Lib.hid T
  clear T a0 a1 a2 x0 x1 x2 x3 x4
  obtain ⟨-,-,x5⟩:=HF.out wc HT.out
  cases d with
  |false=>
   go_wp2_with (fail)
   go_ret
   exact ⟨val_no HX2.out,H3.out.trans HT.out fun _ _ f=>f⟩
  |true=>
   go_wp2_with (go_at_call 91;fail)
   refine (turned22 _ _ (by have:=HX4.out;omega) (by have:=HX3.out;omega)).mono ?_
   rintro e w9 ⟨rfl,T9⟩
   go_wp2
   go_ret
   exact ⟨val_yes2 HX5.out,(H3.out.trans HT.out fun _ _ f=>f).trans T9 fun _ _ f=>f⟩
 ·subst hb
  have HX:=Lib.hid HL.out.symm
  obtain ⟨⟨a0,a1,a2⟩,⟨x0,x1,x2,x3,x4⟩,-⟩:=HF.out w3 (Ux.Touch.refl _ _)
  clear HL
  go_wp2_with (go_at_call 90;fail)
  refine (HKEY.out _ H3.out).mono ?_
  rintro e wc ⟨rfl,T⟩
  have HT:=Lib.hid T
  clear T a0 a1 a2 x0 x1 x2 x3 x4
  go_wp2_with (go_at_call 89;fail)
  refine (HESC.out _).mono ?_
  obtain ⟨N,hN⟩: ∃N:ByteArray,(⟨(Ux.esc (rkeyC kd lv sh bk TT s').data.toList).toArray⟩:ByteArray)=N:=⟨_,rfl⟩
  have hNs:=esc_sz (rkeyC kd lv sh bk TT s')
  rw [hN] at hNs
  rw [hN]
  obtain ⟨q,q2,q3⟩:=cat4 N (by have:=HSZ.out;omega)
  have h5:4::N.data.toList=valB (rkeyC kd lv sh bk TT) k n s':=by rw [←hN];exact HX.out
  have HX2:=Lib.hid (q2.trans h5)
  have HX5:=Lib.hid h5
  clear h5
  have HX3:=Lib.hid q3
  have HX4:=Lib.hid (show 0<((⟨#[4]⟩:ByteArray)++N).size by rw [ByteArray.size_append];show 0<1+N.size;omega)
  clear hN q2 q3 hNs
  rintro e wc ⟨rfl,T⟩
  have HT:=Lib.hid (HT.out.trans T fun _ _ f=>f)
  clear T
  obtain ⟨-,-,x5⟩:=HF.out wc HT.out
  cases d with
  |false=>
   go_wp2_with (fail)
   go_ret
   exact ⟨val_no HX2.out,H3.out.trans HT.out fun _ _ f=>f⟩
  |true=>
   go_wp2_with (go_at_call 91;fail)
   refine (turned22 _ _ (by have:=HX4.out;omega) (by have:=HX3.out;omega)).mono ?_
   rintro e w9 ⟨rfl,T9⟩
   go_wp2
   go_ret
   exact ⟨val_yes2 HX5.out,(H3.out.trans HT.out fun _ _ f=>f).trans T9 fun _ _ f=>f⟩
end Go.Proofs.YtfccjaboicpohaaGreatDoor
namespace Go.Proofs.YtfccjaboicpohaaGreatDoor
open Go.RowKit
def VView (w:World) (v:Value) (os:List (Int×Int×ByteArray)):Prop:= ∃a c,v= .slice a os.length c∧os.length≤maxLen∧∀(i:Nat) o,os[i]? =some o→(-9223372036854775808≤o.1∧o.1≤9223372036854775807)∧(-9223372036854775808≤o.2.1∧o.2.1≤9223372036854775807)∧o.2.2.size≤maxLen∧∃b f,a=some ⟨b,f,none⟩∧b<w.heap.size∧
 w.cell? ⟨b,f+i*3,none⟩=some (.int .i64 o.1)∧w.cell? ⟨b,f+i*3+1,none⟩=some (.int .i64 o.2.1)∧w.cell? ⟨b,f+i*3+2,none⟩=some (.string o.2.2)
def FewR (os:List (Int×Int×ByteArray)) (e:Ending):Prop:= ∃b,e= .returned (.bool b)∧(b=true→os.length<10∧∀o∈os,o.2.2.size<200)
set_option maxHeartbeats 4000000 in
set_option maxRecDepth 100000 in
theorem few_ (v:Value) (os:List (Int×Int×ByteArray)) (w:World) (hv:VView w v os):
 Calls Tryz.prog 32 #[v] w fun e w'=>FewR os e∧w'=w:=by
 obtain ⟨a,c,rfl,hl,hc⟩:=hv
 obtain ⟨n,hn⟩: ∃n,os.length=n:=⟨_,rfl⟩
 rw [hn] at hl⊢
 unfold maxLen at hl
 have n0:(n:Int)≤9223372036854775807:=by omega
 have HH:=Lib.hid (And.intro hc hn)
 clear hc hn hl
 go_enter Tryz.func32,Tryz.ntmps32
 go_wp2_with (fail)
 go_loopg [3,4] 10 (fun gk s3 s4 wr=> ∃(i N:Nat),s3= .int .i64 N∧s4= .int .i64 i∧i+gk=10∧i≤n∧N≤1000*i∧Hid (∀j o,j<i→os[j]? =some o→min o.2.2.size 1000≤N)∧w=wr)
 case atStart=>exact ⟨0,0,rfl,rfl,by omega,by omega,by omega,Lib.hid (fun j o h=>absurd h (by omega)),rfl⟩
 case round=>
  obtain ⟨i,N,rfl,rfl,hig,hin,hN,HI,rfl⟩:=hrel
  have i0:(0:Int)≤i:=by omega
  have N0:(0:Int)≤N:=by omega
  have N1:(N:Int)≤10000:=by omega
  by_cases hlt:i<n∧i<10
  ·obtain ⟨g',rfl⟩: ∃g',gk=g'+1:=⟨gk-1,by omega⟩
   have p1:(i:Int)<n:=by omega
   have p2:(i:Int)<10:=by omega
   obtain ⟨o,ho⟩: ∃o,os[i]? =some o:=⟨_,List.getElem?_eq_getElem (by have:=HH.out.2;omega)⟩
   obtain ⟨_,_,hs,b,f,rfl,_,_,_,c2⟩:=HH.out.1 i o ho
   obtain ⟨z,hz⟩: ∃z,o.2.2.size=z:=⟨_,rfl⟩
   have HO:=Lib.hid (And.intro ho hz)
   have hzr:=hz
   clear ho hs hlt hz
   by_cases hz:z≤1000
   ·have q1:(z:Int)≤1000:=by omega
    have q2: ¬((1000:Int)<z):=by omega
    have q3:min (z:Int) 1000=z:=by omega
    have HZ:=Lib.hid hz
    clear hz
    go_wp2
    go_roundg g'
    case measure=>omega
    case rel=>
     have hz:=HZ.out
     refine ⟨i+1,N+z,by congr 1,by congr 1,by omega,by omega,by omega,Lib.hid (fun j o' hj ho'=> ?_),rfl⟩
     by_cases e:j=i
     ·subst e
      rw [HO.out.1] at ho'
      cases ho'
      have:=HO.out.2
      omega
     ·have:=HI.out j o' (by omega) ho'
      omega
   ·have q1: ¬(z:Int)≤1000:=by omega
    have q2:((1000:Int)<z):=by omega
    have q3:min (z:Int) 1000=1000:=by omega
    have HZ:=Lib.hid hz
    clear hz
    go_wp2
    go_roundg g'
    case measure=>omega
    case rel=>
     have hz:=HZ.out
     refine ⟨i+1,N+1000,by congr 1,by congr 1,by omega,by omega,by omega,Lib.hid (fun j o' hj ho'=> ?_),rfl⟩
     by_cases e:j=i
     ·subst e
      rw [HO.out.1] at ho'
      cases ho'
      have:=HO.out.2
      omega
     ·have:=HI.out j o' (by omega) ho'
      omega
  ·have hend:(∀b:Bool,(b=true→n<10∧N<200)→(b=true→n<10∧∀o∈os,o.2.2.size<200)):=fun b hb h=>by
    obtain ⟨h1,h2⟩:=hb h
    refine ⟨h1,fun o ho=> ?_⟩
    obtain ⟨j,hj⟩:=List.getElem?_of_mem ho
    have hjl:=(List.getElem?_eq_some_iff.1 hj).1
    have:=HH.out.2
    have:=HI.out j o (by omega) hj
    omega
   have HE:=Lib.hid hend
   by_cases h1:n<10
   ·have q1:(n:Int)<10:=by omega
    obtain rfl:i=n:=by omega
    have q2: ¬(i:Int)<i:=by omega
    by_cases h2:N<200
    ·have q3:(N:Int)<200:=by omega
     have H2:=Lib.hid (And.intro h1 h2)
     clear h1 h2 hend hlt
     go_wp2
     go_returns
     exact ⟨⟨true,rfl,fun h=>by rw [HH.out.2];exact HE.out true (fun _=>H2.out) h⟩,rfl⟩
    ·have q3: ¬(N:Int)<200:=by omega
     clear h1 h2 hend hlt
     go_wp2
     go_returns
     exact ⟨⟨false,rfl,fun h=>by cases h⟩,rfl⟩
   ·have q1: ¬(n:Int)<10:=by omega
    obtain rfl:i=10:=by omega
    have q2: ¬(((10:Nat):Int)<10):=by decide
    have q3:((10:Nat):Int)<n∨¬((10:Nat):Int)<n:=by omega
    clear h1 hend hlt
    rcases q3 with q3|q3
    all_goals
     go_wp2
     go_returns
     exact ⟨⟨false,rfl,fun h=>by cases h⟩,rfl⟩
end Go.Proofs.YtfccjaboicpohaaGreatDoor
namespace Go.Proofs.YtfccjaboicpohaaGreatDoor
open Go.RowKit
open Ux (BAt bv)
theorem sizeBui:(Tryz.prog.info? 168).map (·.size)=some 2:=by kernel_rfl
theorem liesBui:liesAt Tryz.prog Tryz.prog.depth 168 (2/Tryz.prog.cellsOf 168) 0 168 1=true:=by kernel_rfl
theorem tPB:Tryz.prog.underlying 166=some (.pointer 168):=Tryz.underlying166
set_option maxHeartbeats 1000000 in
set_option maxRecDepth 100000 in
theorem check_used (b:Nat) (w:World) (h0:w.cell? ⟨b,0,none⟩=some (.pointer (some ⟨b,0,none⟩))):
 Calls Tryz.prog 136 #[.pointer (some ⟨b,0,none⟩)] w fun e w'=>e= .returned (.tuple #[])∧w'=w:=by
 obtain ⟨j,hj,_⟩:=Option.map_eq_some_iff.1 sizeBui
 go_enter Tryz.func136,Tryz.ntmps136
 go_wp2
 rw [Lib.run_neq_ptr_same w _ tPB hj]
 go_wp2
 go_end0
 exact ⟨rfl,rfl⟩
set_option maxHeartbeats 1000000 in
set_option maxRecDepth 100000 in
theorem check_fresh (b:Nat) (w:World) (h0:w.cell? ⟨b,0,none⟩=some (.pointer none)) (hsh:w.shape? b=some (168,2)) (hfz:w.frozen? ⟨b,0,none⟩=false):
 Calls Tryz.prog 136 #[.pointer (some ⟨b,0,none⟩)] w fun e w'=>e= .returned (.tuple #[])∧w'=w.setCell ⟨b,0,none⟩ (.pointer (some ⟨b,0,none⟩)):=by
 obtain ⟨j,hj,hjs⟩:=Option.map_eq_some_iff.1 sizeBui
 go_enter Tryz.func136,Tryz.ntmps136
 go_wp2
 rw [Lib.run_to_unsafe w ⟨b,0,none⟩ tPB Tryz.underlying270 hj (by rw [hjs];decide) hsh (Nat.zero_lt_succ 1)]
 simp only [Result.andThen]
 rw [Oper.upon_value]
 go_wp2
 rw [run_callFunc_extern Tryz.func179 (by kernel_rfl) (by kernel_rfl) (by kernel_rfl) (e:=Extern.AbiNoEscape.same) (by kernel_rfl)]
 rw [Lib.run_noEscape]
 simp only [Result.andThen]
 rw [Oper.upon_value]
 go_wp2
 rw [Lib.run_from_unsafe w ⟨b,0,none⟩ Tryz.underlying270 tPB hj hsh liesBui]
 simp only [Result.andThen]
 rw [Oper.upon_value]
 go_wp2
 go_end0
 exact ⟨rfl,rfl⟩
theorem infoB2:(Tryz.prog.info? 5).map (fun i=>(i.zero,i.size,i.bytes))=some (some (.int .u8 0),1,1):=by kernel_rfl
theorem bcheck_ (w:World) (b lo:Nat) (l:List UInt8) (h:BAt 168 5 w b lo l):Calls Tryz.prog 136 #[.pointer (some ⟨b,0,none⟩)] w fun e w'=>e= .returned (.tuple #[])∧
 (∃v,w'.heap[b]? =some (.cells #[.pointer (some ⟨b,0,none⟩),v] 168 (0,0))∧Ux.Grow w' lo 5 v (bv l))∧Ux.Touch (fun k=>k=b) w w':=by
 obtain ⟨hb,p,v,hh,hp,hG⟩:=h
 rcases hp with rfl|rfl
 ·refine (check_fresh b w (by rw [cell_of_row w b 0 _ _ (0,0) hh];rfl) (by simp [World.shape?,hh]) (Ux.frozen_row hh 0)).mono ?_
  rintro e w' ⟨rfl,rfl⟩
  have T:=(Ux.Touch.refl (fun k=>k=b) w).setCell (p:=⟨b,0,none⟩) (fun _=>rfl) (.pointer (some ⟨b,0,none⟩))
  exact ⟨rfl,⟨v,Ux.setCell_row hh 0 _,hG.touch T (fun k hk e=>by omega)⟩,T⟩
 ·refine (check_used b w (by rw [cell_of_row w b 0 _ _ (0,0) hh];rfl)).mono ?_
  rintro e w' ⟨rfl,rfl⟩
  exact ⟨rfl,⟨v,hh,hG⟩,Ux.Touch.refl _ _⟩
set_option maxHeartbeats 2000000 in
set_option maxRecDepth 100000 in
theorem writeStr_ (w:World) (b lo:Nat) (l:List UInt8) (s:ByteArray) (h:BAt 168 5 w b lo l) (hlo:lo≤w.heap.size) (hlen:l.length+s.size≤140737488355328):
 Calls Tryz.prog 93 #[.pointer (some ⟨b,0,none⟩),.string s] w fun e w'=>e= .returned (.tuple #[.int .i64 s.size,.nilIface])∧BAt 168 5 w' b lo (l++s.data.toList)∧Ux.Touch (fun k=>k=b∨lo≤k) w w':=by
 have hbl:=h.1
 have CK:=Lib.hid (bcheck_ w b lo l h)
 have HL:=Lib.hid (And.intro hbl (And.intro hlo hlen))
 clear h hbl hlo hlen
 go_enter Tryz.func93,Tryz.ntmps93
 go_wp2_with (go_at_call 136;fail)
 refine CK.out.mono ?_
 rintro e w1 ⟨rfl,⟨v,hh,hG⟩,T1⟩
 have hlo1:lo≤w1.heap.size:=Nat.le_trans HL.out.2.1 T1.size
 obtain ⟨r,w2,run2,hG2,t2⟩:=hG.appStr 160 9 Tryz.underlying160 Tryz.underlying9 infoB2 s hlo1 HL.out.2.2
 have hb2:w2.heap[b]? =some (.cells #[.pointer (some ⟨b,0,none⟩),v] 168 (0,0)):=t2.heap hh (fun h=>by have:=h.1;have:=HL.out.1;omega)
 have c1:w1.cell? ⟨b,1,none⟩=some v:=by rw [cell_of_row w1 b 1 _ _ (0,0) hh];rfl
 have d1:w2.cell? ⟨b,1,none⟩=some v:=by rw [cell_of_row w2 b 1 _ _ (0,0) hb2];rfl
 have f1:=Ux.frozen_row hb2 1
 obtain ⟨a,n,c,rfl,_⟩:=hG.is
 obtain ⟨a2,n2,c2,rfl,_⟩:=hG2.is
 have R2:=Lib.hid run2
 have HE:=Lib.hid (And.intro hb2 (And.intro hG2 (And.intro T1 t2)))
 clear run2 hb2 hG2 hG hh T1 t2 hlo1
 go_wp2_with (at_builtin;refine Ux.wpList_app (v1:= .slice a n c) (x1:= .string s) rfl _ _ _ _ rfl rfl rfl (R2.out _) ?_)
 go_returns
 obtain ⟨hb2,hG2,T1,t2⟩:=HE.out
 have T3:=(Ux.Touch.refl (fun k=>k=b) w2).setCell (p:=⟨b,1,none⟩) (fun _=>rfl) (.slice a2 n2 c2)
 refine ⟨rfl,⟨HL.out.1,_,_,Ux.setCell_row hb2 1 _,.inr rfl,hG2.touch T3 fun k hk e=>by have:=HL.out.1;omega⟩,?_⟩
 exact ((T1.mono (R':=fun k=>k=b∨lo≤k) fun _ _ h=> .inl h).trans t2 fun _ _ h=> .inr h.1).trans T3 fun _ _ h=> .inl h
end Go.Proofs.YtfccjaboicpohaaGreatDoor
namespace Go.Proofs.YtfccjaboicpohaaGreatDoor
open Go.RowKit
open Ux (Ent rootE rootT okT BAt)
structure PI where
 kd:Int
 LN:Nat
 sh:Bool
 bk:Bool
 tb:Option Addr
 ua:Option Addr
 un:Nat
 uc:Nat
 d:Bool
def kcells (p:PI):List Value:= [.int .i64 p.kd,.int .i64 (p.LN:Nat),.bool p.sh,.bool p.bk,.pointer p.tb,.bool p.d]
def rcells (p:PI):List Value:= [.int .i64 p.kd,.int .i64 (p.LN:Nat),.bool p.sh,.bool p.bk,.slice p.ua p.un p.uc,.bool p.d]
def PRow (w:World) (cells:PI→List Value) (v:Value) (ps:List PI):Prop:= ∃a c,v= .slice a ps.length c∧∀(i:Nat) p,ps[i]? =some p→∃b f,a=some ⟨b,f,none⟩∧b<w.heap.size∧∀k u,(cells p)[k]? =some u→w.cell? ⟨b,f+i*6+k,none⟩=some u
theorem PRow.touch {w w':World} {cells:PI→List Value} {v:Value} {ps:List PI} (h:PRow w cells v ps) (T:Ux.Touch (fun _=>False) w w'):PRow w' cells v ps:=by
 obtain ⟨a,c,rfl,h⟩:=h
 refine ⟨a,c,rfl,fun i p hp=> ?_⟩
 obtain ⟨b,f,rfl,hb,hc⟩:=h i p hp
 exact ⟨b,f,rfl,by have:=T.size;omega,fun k u hk=>T.cell (hc k u hk) (fun f=>f)⟩
theorem VView.touch {w w':World} {v:Value} {os:List (Int×Int×ByteArray)} (h:VView w v os) (T:Ux.Touch (fun _=>False) w w'):VView w' v os:=by
 obtain ⟨a,c,rfl,hl,h⟩:=h
 refine ⟨a,c,rfl,hl,fun i o ho=> ?_⟩
 obtain ⟨h1,h2,h3,b,f,rfl,hb,c0,c1,c2⟩:=h i o ho
 exact ⟨h1,h2,h3,b,f,rfl,by have:=T.size;omega,T.cell c0 (fun f=>f),T.cell c1 (fun f=>f),T.cell c2 (fun f=>f)⟩
def PIok (w:World) (lo:Nat) (p:PI):Prop:=MadeC w lo p.kd p.LN p.sh p.bk p.tb (.slice p.ua p.un p.uc) rootE (rootT 132)
theorem PIok.touch {w w':World} {lo:Nat} {p:PI} (h:PIok w lo p) (T:Ux.Touch (fun _=>False) w w'):PIok w' lo p:=MadeC.touch h T
def pK (p:PI):ByteArray→ByteArray:=keyP p.kd (p.LN:Nat) p.sh p.bk p.tb rootE
def rK (p:PI):ByteArray→ByteArray:=rkeyC p.kd (p.LN:Nat) p.sh p.bk (rootT 132)
theorem PIok.key {w:World} {lo:Nat} {p:PI} (h:PIok w lo p):rK p=pK p:=by
 funext a
 exact (MadeC.key h a).symm
theorem PIok.small {w:World} {lo:Nat} {p:PI} (h:PIok w lo p) (a:ByteArray) (ha:a.size≤200):(pK p a).size≤1000000:=by
 unfold pK keyP
 rw [MadeC.ok h,if_pos rfl]
 split
 ·rename_i h3
  have h1:=Ux.keyL_len p.sh p.bk (elB rootE a) p.LN
  have h2:=(elB_ok (MadeC.okE h) a).1
  have h4:=(MadeC.lv h h3).2
  show ((Ux.keyL p.sh p.bk (elB rootE a) (p.LN:Int).toNat).toArray).size≤_
  rw [List.size_toArray,Int.toNat_natCast]
  have h5:p.LN*(2+2*(elB rootE a).length)≤3*(2+2*(elB rootE a).length):=Nat.mul_le_mul_right _ h4
  omega
 ·split
  ·have:=ftB_size a
   omega
  ·omega
def pvB (p:PI) (o:Int×Int×ByteArray):ByteArray:=valP (pK p) p.d o.1 o.2.1 o.2.2
theorem valB_len (K:ByteArray→ByteArray) (k n:Int) (s:ByteArray) (h:(K s).size≤1000000):(valB K k n s).length≤2000010:=by
 have h1:=esc_sz (K s)
 have e:(⟨(Ux.esc (K s).data.toList).toArray⟩:ByteArray).size=(Ux.esc (K s).data.toList).length:=by show (Ux.esc (K s).data.toList).toArray.size=_;simp
 rw [e] at h1
 unfold valB
 split
 ·split
  ·simp
  ·split
   ·split<;>simp
   ·split
    ·rw [List.length_cons,num8_len];omega
    ·rw [List.length_cons];omega
 ·simp
theorem pvB_size {w:World} {lo:Nat} {p:PI} (h:PIok w lo p) (o:Int×Int×ByteArray) (ho:o.2.2.size<200):(pvB p o).size≤2000010:=by
 have:=valB_len (pK p) o.1 o.2.1 o.2.2 (h.small _ (by omega))
 unfold pvB valP
 show ((if p.d=true then Ux.turn (valB (pK p) o.1 o.2.1 o.2.2) else valB (pK p) o.1 o.2.1 o.2.2).toArray).size≤_
 rw [List.size_toArray]
 split
 ·unfold Ux.turn;rw [List.length_map];exact this
 ·exact this
def lowL (z:List ((Int×Int×ByteArray)×PI)):List UInt8:=z.flatMap fun x=>(pvB x.2 x.1).data.toList
theorem lowL_take {z:List ((Int×Int×ByteArray)×PI)} {i:Nat} {x:(Int×Int×ByteArray)×PI} (h:z[i]? =some x):lowL (z.take (i+1))=lowL (z.take i)++(pvB x.2 x.1).data.toList:=by
 unfold lowL
 rw [List.take_add_one,h,List.flatMap_append]
 simp
theorem lowL_len {z:List ((Int×Int×ByteArray)×PI)} (h: ∀x∈z,(pvB x.2 x.1).size≤2000010):(lowL z).length≤z.length*2000010:=by
 induction z with
 |nil=>simp [lowL]
 |cons x z ih=>
  have h1:=h x (by simp)
  have h2:=ih fun y hy=>h y (by simp [hy])
  have e:lowL (x::z)=(pvB x.2 x.1).data.toList++lowL z:=rfl
  rw [e,List.length_append,List.length_cons]
  have e2:(pvB x.2 x.1).data.toList.length=(pvB x.2 x.1).size:=by simp
  omega
theorem lowL_zip_len {os:List (Int×Int×ByteArray)} {ps:List PI} {w:World} {lo:Nat} (hl:ps.length≤4) (hs: ∀o∈os,o.2.2.size<200) (hM: ∀p∈ps,PIok w lo p) (i:Nat):(lowL ((os.zip ps).take i)).length≤8000040:=by
 have h1:=lowL_len (z:=(os.zip ps).take i) fun x hx=>by
  have hx:=List.mem_of_mem_take hx
  obtain ⟨a,b⟩:=x
  have:=List.of_mem_zip hx
  exact pvB_size (hM b this.2) a (hs a this.1)
 have h2:((os.zip ps).take i).length≤4:=by rw [List.length_take,List.length_zip];omega
 have h3:((os.zip ps).take i).length*2000010≤4*2000010:=Nat.mul_le_mul_right _ h2
 omega
theorem pval_ (p:PI) (o:Int×Int×ByteArray) (lo:Nat) (m:Int) (w:World) (h1: -9223372036854775808≤o.2.1∧o.2.1≤9223372036854775807) (h2:o.2.2.size<200) (h:PIok w lo p) (hT:Tabs w) (hm:w.cell? ⟨3,0,none⟩=some (.int .i64 m)):
 Calls Tryz.prog 36 #[.agg #[.int .i64 o.1,.int .i64 o.2.1,.string o.2.2],.agg #[.int .i64 p.kd,.int .i64 (p.LN:Nat),.bool p.sh,.bool p.bk,.pointer p.tb,.bool p.d]] w fun e w'=>e= .returned (.string (pvB p o))∧Ux.Touch (fun _=>False) w w':=
 value_ p.kd (p.LN:Nat) p.sh p.bk p.tb rootE o.1 o.2.1 o.2.2 p.d m w h1 (by omega) hm hT (MadeC.tab h) (h.small _ (by omega))
theorem rval_ (p:PI) (o:Int×Int×ByteArray) (lo:Nat) (w:World) (h1: -9223372036854775808≤o.2.1∧o.2.1≤9223372036854775807) (h2:o.2.2.size<200) (h:PIok w lo p):
 Calls Tryz.prog 37 #[.agg #[.int .i64 o.1,.int .i64 o.2.1,.string o.2.2],.agg #[.int .i64 p.kd,.int .i64 (p.LN:Nat),.bool p.sh,.bool p.bk,.slice p.ua p.un p.uc,.bool p.d]] w fun e w'=>e= .returned (.string (pvB p o))∧Ux.Touch (fun _=>False) w w':=by
 have hk:rkeyC p.kd (p.LN:Nat) p.sh p.bk (rootT 132)=pK p:=h.key
 have:=rvalue_ p.kd (p.LN:Nat) (fun e=>by have:=MadeC.lv h e;omega) p.sh p.bk p.ua p.un p.uc (rootT 132) (fun b=>lo≤b) o.1 o.2.1 o.2.2 p.d w h1 (by omega) (fun e=>⟨(MadeC.rows h e).1,(MadeC.same h).ok (MadeC.okE h),(MadeC.rows h e).2⟩) (by rw [hk];exact h.small _ (by omega))
 rw [hk] at this
 exact this
set_option maxHeartbeats 8000000 in
set_option maxRecDepth 100000 in
theorem klow_ (v vp:Value) (os:List (Int×Int×ByteArray)) (ps:List PI) (lo:Nat) (m:Int) (w:World) (hV:VView w v os) (hP:PRow w kcells vp ps) (ho:os.length<10) (hp:ps.length≤4) (hs: ∀o∈os,o.2.2.size<200) (hM: ∀p∈ps,PIok w lo p)
 (hT:Tabs w) (hm:w.cell? ⟨3,0,none⟩=some (.int .i64 m)):
 Calls Tryz.prog 40 #[v,vp] w fun e w'=>e= .returned (.string ⟨(lowL (os.zip ps)).toArray⟩)∧Ux.Touch (fun _=>False) w w':=by
 obtain ⟨a,c,rfl,hl,hc⟩:=hV
 obtain ⟨a',c',rfl,hc'⟩:=hP
 obtain ⟨n,hn⟩: ∃n,os.length=n:=⟨_,rfl⟩
 obtain ⟨n',hn'⟩: ∃n,ps.length=n:=⟨_,rfl⟩
 have HZ:=Lib.hid fun i=>lowL_zip_len hp hs hM i
 have HH:=Lib.hid (And.intro hc (And.intro hc' (And.intro hn (And.intro hn' (And.intro hs hM)))))
 have HT:=Lib.hid (And.intro hT hm)
 rw [hn] at ho⊢
 rw [hn'] at hp⊢
 have n0:(n:Int)<10:=by omega
 have n1:(n':Int)≤4:=by omega
 obtain ⟨k,hk⟩: ∃k,min n n'=k:=⟨_,rfl⟩
 have kI:min (n:Int) n'=k:=by omega
 have k0:(k:Int)≤4:=by omega
 obtain ⟨B,hB⟩: ∃B,w.heap.size=B:=⟨_,rfl⟩
 have hb1:(w.alloc (.cells #[.pointer none,.slice none 0 0] 168)).heap[B]? =some (.cells #[.pointer none,.slice none 0 0] 168 (0,0)):=by rw [←hB];exact heap_alloc_new w _
 have HB:=Lib.hid (And.intro hb1 (And.intro hB hk))
 clear hc hc' hn hn' hs hM hT hm hl hp ho hb1 hk
 go_enter Tryz.func40,Tryz.ntmps40
 go_wp2
 go_loopg [12] k (fun g s12 wr=> ∃i:Nat,s12= .int .i64 i∧i+g=k∧Hid (BAt 168 5 wr B (B+1) (lowL ((os.zip ps).take i))∧Ux.Touch (fun _=>False) w wr∧B+1≤wr.heap.size))
 case atStart=>
  exact ⟨0,rfl,by omega,Lib.hid ⟨⟨by omega,_,_,HB.out.1,.inl rfl,Ux.Grow.nil _ _ _⟩,(Ux.Touch.refl _ _).alloc _,by rw [World.size_alloc];have:=HB.out.2.1;omega⟩⟩
 case round=>
  obtain ⟨i,rfl,hig,HI⟩:=hrel
  have i0:(0:Int)≤i:=by omega
  by_cases hlt:i<k
  ·obtain ⟨g',rfl⟩: ∃g',gk=g'+1:=⟨gk-1,by omega⟩
   have i1:(i:Int)<k:=by omega
   have i2:(i:Int)<n:=by omega
   have i3:(i:Int)<n':=by omega
   have hlen:=HH.out.2.2.1
   have hlen':=HH.out.2.2.2.1
   obtain ⟨o,hoo⟩: ∃o,os[i]? =some o:=⟨_,List.getElem?_eq_getElem (by omega)⟩
   obtain ⟨p,hpp⟩: ∃p,ps[i]? =some p:=⟨_,List.getElem?_eq_getElem (by omega)⟩
   obtain ⟨o1,o2,_,b,f,rfl,hb,c0,c1,c2⟩:=HH.out.1 i o hoo
   obtain ⟨b',f',rfl,hb',cc⟩:=HH.out.2.1 i p hpp
   have hz:(os.zip ps)[i]? =some (o,p):=by rw [List.getElem?_zip_eq_some];exact ⟨hoo,hpp⟩
   have hom:=HH.out.2.2.2.2.1 o (List.mem_of_getElem? hoo)
   have hpm:=HH.out.2.2.2.2.2 p (List.mem_of_getElem? hpp)
   have HF:=Lib.hid fun W (T:Ux.Touch (fun _=>False) w W)=>show (W.cell? ⟨b,f+i*3,none⟩=some (.int .i64 o.1)∧W.cell? ⟨b,f+i*3+1,none⟩=some (.int .i64 o.2.1)∧W.cell? ⟨b,f+i*3+2,none⟩=some (.string o.2.2))∧
    (W.cell? ⟨b',f'+i*6,none⟩=some (.int .i64 p.kd)∧W.cell? ⟨b',f'+i*6+1,none⟩=some (.int .i64 (p.LN:Nat))∧W.cell? ⟨b',f'+i*6+2,none⟩=some (.bool p.sh)∧W.cell? ⟨b',f'+i*6+3,none⟩=some (.bool p.bk)∧W.cell? ⟨b',f'+i*6+4,none⟩=some (.pointer p.tb)∧W.cell? ⟨b',f'+i*6+5,none⟩=some (.bool p.d)) from
    ⟨⟨T.cell c0 (fun f=>f),T.cell c1 (fun f=>f),T.cell c2 (fun f=>f)⟩,T.cell (cc 0 _ rfl) (fun f=>f),T.cell (cc 1 _ rfl) (fun f=>f),T.cell (cc 2 _ rfl) (fun f=>f),T.cell (cc 3 _ rfl) (fun f=>f),T.cell (cc 4 _ rfl) (fun f=>f),T.cell (cc 5 _ rfl) (fun f=>f)⟩
   have HV:=Lib.hid fun W (T:Ux.Touch (fun _=>False) w W)=>pval_ p o lo m W o2 hom (hpm.touch T) (HT.out.1.touch T) (T.cell HT.out.2 (fun f=>f))
   have HQ:=Lib.hid (And.intro (lowL_take hz) (And.intro (pvB_size hpm o hom) (And.intro hlt hig)))
   obtain ⟨S,hS⟩: ∃S,pvB p o=S:=⟨_,rfl⟩
   dsimp only at HQ
   rw [hS] at HV HQ
   obtain ⟨v0,v1,v2⟩:=o
   obtain ⟨q0,q1,q2,q3,q4,q5,q6,q7,q8⟩:=p
   dsimp only at HF HV
   obtain ⟨⟨x0,x1,x2⟩,y0,y1,y2,y3,y4,y5⟩:=HF.out wr HI.out.2.1
   clear hlen hlen' hoo hpp o1 o2 hb c0 c1 c2 hb' cc hz hom hpm hS hlt hig
   go_upto_region 5 with (fail)
   refine Ux.wpr (fun _ w'=>(w'.cell? ⟨b,f+i*3,none⟩=some (.int .i64 v0)∧w'.cell? ⟨b,f+i*3+1,none⟩=some (.int .i64 v1)∧w'.cell? ⟨b,f+i*3+2,none⟩=some (.string v2))∧(w'.cell? ⟨b',f'+i*6,none⟩=some (.int .i64 q0)∧w'.cell? ⟨b',f'+i*6+1,none⟩=some (.int .i64 (q1:Nat))∧w'.cell? ⟨b',f'+i*6+2,none⟩=some (.bool q2)∧w'.cell? ⟨b',f'+i*6+3,none⟩=some (.bool q3)∧w'.cell? ⟨b',f'+i*6+4,none⟩=some (.pointer q4)∧w'.cell? ⟨b',f'+i*6+5,none⟩=some (.bool q8))) (.q [0,1,2,4,5,6] (.h false [3,7] (.e 8 false false (.e 9 true false (.line []))))) ?_;repeat ((with_reducible refine Ux.qg ?_);refine Ux.qu ?_)
   go_wp2_with (go_at_call 36;fail)
   refine (HV.out _ (HI.out.2.1.trans (Ux.Touch.refl _ wr).drew fun _ _ f=>f)).mono ?_
   rintro e w4 ⟨rfl,T4⟩
   have T4:=(Ux.Touch.refl (fun _=>False) wr).drew.trans T4 fun _ _ f=>f
   have H4:=Lib.hid (And.intro (HI.out.1.touch T4 fun _ _ f=>f) (And.intro (HI.out.2.1.trans T4 fun _ _ f=>f) (Nat.le_trans HI.out.2.2 T4.size)))
   clear T4 x0 x1 x2 y0 y1 y2 y3 y4 y5
   go_wp2_with (fail)
   go_wp2_with (go_at_call 93;fail)
   refine (writeStr_ w4 B (B+1) _ S H4.out.1 H4.out.2.2 (by have:=HZ.out i;have:=HQ.out.2.1;omega)).mono ?_
   rintro e w5 ⟨rfl,hb5,T5⟩
   have H5:=Lib.hid (And.intro hb5 (And.intro (H4.out.2.1.trans T5 fun b hb h=>by have:=HB.out.2.1;omega) (Nat.le_trans H4.out.2.2 T5.size)))
   clear hb5 T5
   go_wp2_with (fail)
   refine ⟨HF.out _ H5.out.2.1,?_⟩
   go_wp2
   go_roundg g'
   case measure=>have:=HQ.out.2.2;omega
   case rel=>
    refine ⟨i+1,rfl,by have:=HQ.out.2.2;omega,Lib.hid ⟨?_,H5.out.2⟩⟩
    rw [HQ.out.1]
    exact H5.out.1
  ·obtain rfl:i=k:=by omega
   have i1: ¬(i:Int)<i:=by omega
   have hb:=HI.out.1
   rw [List.take_of_length_le (by rw [List.length_zip,HH.out.2.2.1,HH.out.2.2.2.1];have:=HB.out.2.2;omega)] at hb
   have CB:=Lib.hid (Tryz.Builder_String_any B B _ wr hb.is (by have:=HI.out.2.2;omega))
   clear hb hlt
   go_wp2_with (go_at_call 94;fail)
   refine CB.out.mono ?_
   rintro e w7 ⟨rfl,hb7⟩
   have H7:=Lib.hid hb7
   clear hb7
   go_wp2
   go_returns
   exact ⟨rfl,HI.out.2.1.trans (Ux.Touch.of_belowB H7.out) fun k hk h=>by have:=HB.out.2.1;omega⟩
end Go.Proofs.YtfccjaboicpohaaGreatDoor
namespace Go.Proofs.YtfccjaboicpohaaGreatDoor
open Go.RowKit
open Ux (Ent rootE rootT okT)
def NumBlk (w:World) (b:Nat):Prop:= ∃cs t z,w.heap[b]? =some (.cells cs t (0,0))∧t≠56∧t≠141∧cs[0]? =some (Value.int .i64 z)
theorem TableAt.touchI {R:Nat→Prop} {w w':World} {B mb:Nat} {E:List Ent} (h:TableAt w B mb E) (ht:Ux.Touch R w w') (hR: ∀b,R b→b<w.heap.size→NumBlk w b):TableAt w' B mb E:=by
 obtain ⟨h1,t,ks,f,h2,⟨bb,c,am,G,g1,g2,g3,g4,g5⟩,h4⟩:=h
 have nm: ∀(b:Nat) (n:Nat) (F:Lit→Option Value) (k:TypeId),Ux.MapIs Tryz.prog k w b n F→¬R b:=fun b n F k hm hb=>by
  obtain ⟨D,⟨es,clock,h1,_⟩,_⟩:=hm
  obtain ⟨cs,t,z,e,_,_⟩:=hR b hb (Ux.lt_of_heap h1)
  rw [h1] at e
  cases e
 have nB: ¬R B:=fun hb=>by
  obtain ⟨cs,t,z,e,_,h3,_⟩:=hR B hb (Ux.lt_of_heap h2)
  rw [h2] at e
  cases e
  exact h3 rfl
 have nt: ¬R t:=fun hb=>by
  obtain ⟨cs,t',z,e,_,_,hs⟩:=hR t hb (block_lt_of_cell g1)
  rw [cell_of_row w t 0 _ _ (0,0) e,hs] at g1
  cases g1
 refine ⟨h1.touch ht ?_ ?_,t,ks,f,ht.heap h2 nB,⟨bb,c,am,G,ht.cell g1 nt,ht.cell g2 nt,fun j v hv=>ht.cell (g3 j v hv) ?_,g4.touch ht (nm _ _ _ _ g4),g5⟩,h4⟩
 ·obtain ⟨_,F,hm,_⟩:=h1
  exact nm _ _ _ _ hm
 ·intro g cs hg hb
  obtain ⟨cs',t',z,e,hne,_⟩:=hR g hb (Ux.lt_of_heap hg)
  rw [hg] at e
  cases e
  exact hne rfl
 ·intro hb
  obtain ⟨cs,t',z,e,_,_,hs⟩:=hR bb hb (block_lt_of_cell (g3 j v hv))
  have hl:=(List.getElem?_eq_some_iff.1 hv).1
  obtain ⟨v0,hv0⟩: ∃v0,(blCells (Ux.Trie.bls ks f))[0]? =some v0:=⟨_,List.getElem?_eq_getElem (by omega)⟩
  have h0:=g3 0 v0 hv0
  rw [cell_of_row w bb 0 _ _ (0,0) e,hs] at h0
  have hm:=List.mem_of_getElem? hv0
  unfold blCells at hm
  obtain ⟨x,_,hx⟩:=List.mem_flatMap.1 hm
  obtain ⟨z',_,rfl⟩:=List.mem_map.1 hx
  cases h0
structure PIm (w:World) (lo hi:Nat) (p:PI):Prop where
 kind:p.kd=1∨p.kd=2∨p.kd=3
 lv:p.kd=3→1≤p.LN∧p.LN≤3
 ok:okC p.kd p.LN p.tb=true
 tab:CTab w p.kd p.tb rootE
 rows:p.kd=3→RRows w (fun b=>lo≤b∧b<hi) (.slice p.ua p.un p.uc) (rootT 132)
 le:hi≤w.heap.size
theorem PIm.touch {R:Nat→Prop} {w w':World} {lo hi:Nat} {p:PI} (h:PIm w lo hi p) (T:Ux.Touch R w w') (hR: ∀b,R b→b<w.heap.size→(b<lo∨hi≤b)∧NumBlk w b):PIm w' lo hi p:=
 ⟨h.kind,h.lv,h.ok,fun hk q hq=>by
   obtain ⟨B,mb,h1,h2⟩:=h.tab hk q hq
   exact ⟨B,mb,h1,h2.touchI T fun b hb hl=>(hR b hb hl).2⟩,fun hk=>(h.rows hk).touchB T fun g hg hA hr=>by have:=(hR g hr hg).1;omega,Nat.le_trans h.le T.size⟩
theorem PIm.calm {w w':World} {lo hi:Nat} {p:PI} (h:PIm w lo hi p) (T:Ux.Touch (fun _=>False) w w'):PIm w' lo hi p:=h.touch T fun _ f=>f.elim
theorem PIm.of {w:World} {lo:Nat} {kd:Int} {LN:Nat} {sh bk:Bool} {tb ua:Option Addr} {un uc:Nat} (h:MadeC w lo kd LN sh bk tb (.slice ua un uc) rootE (rootT 132)) (d:Bool):PIm w lo w.heap.size ⟨kd,LN,sh,bk,tb,ua,un,uc,d⟩:=
 ⟨h.kind,h.lv,h.ok,h.tab,fun e=>(h.rows e).1.mono fun g hg ha=>⟨ha,hg⟩,Nat.le_refl _⟩
theorem PIm.is {w:World} {lo hi:Nat} {p:PI} (h:PIm w lo hi p):PIok w 0 p:=
 ⟨h.kind,h.lv,h.ok,h.tab,⟨_,_,_,rfl⟩,fun e=>⟨(h.rows e).mono fun g _ _=>Nat.zero_le _,by have:=Ux.rootT_len 132;omega⟩,rootE_okT,Ux.same_root⟩
def QView (w:World) (v:Value) (l:List (Int×Int×Bool)):Prop:= ∃a c,v= .slice a l.length c∧l.length≤maxLen∧∀(i:Nat) o,l[i]? =some o→(-9223372036854775808≤o.1∧o.1≤9223372036854775807)∧(-9223372036854775808≤o.2.1∧o.2.1≤9223372036854775807)∧∃b f,a=some ⟨b,f,none⟩∧b<w.heap.size∧
 w.cell? ⟨b,f+i*3,none⟩=some (.int .i64 o.1)∧w.cell? ⟨b,f+i*3+1,none⟩=some (.int .i64 o.2.1)∧w.cell? ⟨b,f+i*3+2,none⟩=some (.bool o.2.2)
theorem infoKP:(Tryz.prog.info? 91).map (fun i=>(i.zero,i.size,i.bytes))=some (some (.agg #[.int .i64 0,.int .i64 0,.bool false,.bool false,.pointer none,.bool false]),6,40):=by kernel_rfl
theorem infoRP:(Tryz.prog.info? 86).map (fun i=>(i.zero,i.size,i.bytes))=some (some (.agg #[.int .i64 0,.int .i64 0,.bool false,.bool false,.slice none 0 0,.bool false]),6,56):=by kernel_rfl
def PGrow (w:World) (lo:Nat) (t:TypeId) (cells:PI→List Value) (v:Value) (ps:List PI):Prop:=w.ownsRow 0 t 6 v ps.length (ps.flatMap cells)∧∀b,v.ownBlock=some b→lo≤b
theorem flat_get {cells:PI→List Value} (h6: ∀p,(cells p).length=6): ∀(ps:List PI) (i:Nat) (p:PI),ps[i]? =some p→∀k u,(cells p)[k]? =some u→(ps.flatMap cells)[i*6+k]? =some u
 | [],i,p,h,_,_,_=>by simp at h
 |q::ps,0,p,h,k,u,hu=>by
  cases h
  have hk:=(List.getElem?_eq_some_iff.1 hu).1
  rw [List.flatMap_cons,List.getElem?_append_left (by omega),Nat.zero_mul,Nat.zero_add]
  exact hu
 |q::ps,i+1,p,h,k,u,hu=>by
  have e:(i+1)*6+k=(cells q).length+(i*6+k):=by rw [h6 q];omega
  rw [List.flatMap_cons,e,List.getElem?_append_right (by omega),Nat.add_sub_cancel_left]
  exact flat_get h6 ps i p h k u hu
theorem PGrow.row {w:World} {lo:Nat} {t:TypeId} {cells:PI→List Value} {v:Value} {ps:List PI} (h6: ∀p,(cells p).length=6) (h:PGrow w lo t cells v ps):PRow w cells v ps:=by
 rcases h.1.2 with ⟨rfl,h0⟩|⟨g,cap,cur,rfl,_,hh,_,_,_,h4⟩
 ·have:ps= []:=List.eq_nil_of_length_eq_zero h0
  subst this
  exact ⟨none,0,rfl,fun i p hp=>by simp at hp⟩
 ·refine ⟨_,_,rfl,fun i p hp=>⟨g,0,rfl,Ux.lt_of_heap hh,fun k u hu=> ?_⟩⟩
  have:=flat_get h6 ps i p hp k u hu
  rw [←h4,List.getElem?_take] at this
  split at this
  ·rw [cell_of_row w g _ _ _ (0,0) hh,Nat.zero_add]
   simpa using this
  ·cases this
theorem PGrow.touch {R:Nat→Prop} {w w':World} {lo:Nat} {t:TypeId} {cells:PI→List Value} {v:Value} {ps:List PI} (h:PGrow w lo t cells v ps) (T:Ux.Touch R w w') (hR: ∀b,v.ownBlock=some b→¬R b):PGrow w' lo t cells v ps:=⟨Ux.own_touch h.1 T hR,h.2⟩
theorem PGrow.nil (w:World) (lo:Nat) (t:TypeId) (cells:PI→List Value):PGrow w lo t cells (.slice none 0 0) []:=⟨World.ownsRow_nil _ _ _ _,by simp [Value.ownBlock]⟩
theorem PGrow.is {w:World} {lo:Nat} {t:TypeId} {cells:PI→List Value} {v:Value} {ps:List PI} (h:PGrow w lo t cells v ps): ∃a c,v= .slice a ps.length c:=by
 rcases h.1.2 with ⟨hv,h0⟩|⟨g,cap,cur,hv,_⟩
 ·exact ⟨none,0,by rw [hv,h0]⟩
 ·exact ⟨_,_,hv⟩
theorem PGrow.kind {w:World} {lo:Nat} {t:TypeId} {cells:PI→List Value} {v:Value} {ps:List PI} (h:PGrow w lo t cells v ps) {b:Nat} (hb:v.ownBlock=some b):(∃cs,w.heap[b]? =some (.cells cs t (0,0))∧cs.toList.take (ps.length*6)=ps.flatMap cells):=by
 rcases h.1.2 with ⟨rfl,h0⟩|⟨g,cap,cur,rfl,_,hh,_,_,_,h4⟩
 ·cases hb
 ·cases hb
  exact ⟨cur,hh,h4⟩
theorem PGrow.num {w:World} {lo:Nat} {t:TypeId} {cells:PI→List Value} {v:Value} {ps:List PI} (h6: ∀p,(cells p).length=6) (h0: ∀p,(cells p)[0]? =some (.int .i64 p.kd)) (ht:t≠56∧t≠141) (h:PGrow w lo t cells v ps) (hn:ps≠[]) {b:Nat} (hb:v.ownBlock=some b):NumBlk w b:=by
 obtain ⟨cs,h1,h2⟩:=h.kind hb
 obtain ⟨p,ps,rfl⟩:=List.exists_cons_of_ne_nil hn
 refine ⟨cs,t,p.kd,h1,ht.1,ht.2,?_⟩
 have:=flat_get h6 (p::ps) 0 p rfl 0 _ (h0 p)
 rw [←h2,List.getElem?_take] at this
 split at this
 ·simpa using this
 ·cases this
theorem PGrow.cap {w:World} {lo:Nat} {t:TypeId} {cells:PI→List Value} {v:Value} {ps:List PI} (h:PGrow w lo t cells v ps):Ux.SCap v:=by
 rcases h.1.2 with ⟨rfl,_⟩|⟨g,cap,cur,rfl,_,_,h1,h2,_⟩
 ·exact .inl rfl
 ·exact .inr ⟨_,_,_,rfl,h1,h2⟩
end Go.Proofs.YtfccjaboicpohaaGreatDoor
namespace Go.Proofs.YtfccjaboicpohaaGreatDoor
open Go.RowKit
open Ux (Ent rootE rootT okT)
theorem appK {w:World} {lo:Nat} {v:Value} {ps:List PI} (h:PGrow w lo 91 kcells v ps) (hl:ps.length≤4) (hlo:lo≤w.heap.size) (p:PI):
 ∃r w',(∀ty,(Builtin.append_ #[77,77] ty #[v,.slice (some ⟨w.heap.size,0,none⟩) 1 1]).run Tryz.prog (w.alloc (.cells (kcells p).toArray 91))= .ok r w')∧PGrow w' lo 91 kcells r (ps++ [p])∧Ux.Touch (fun b=>v.ownBlock=some b) w w'∧(r.ownBlock=v.ownBlock∨∃g,r.ownBlock=some g∧w.heap.size≤g):=by
 obtain ⟨r,w',h1,h2,h3,h4⟩:=Ux.app_new 77 91 6 40 _ Tryz.underlying77 infoKP rfl (by omega) v ps.length _ w h.1 1 (kcells p) rfl (by intro u hu;unfold kcells at hu;simp only [List.mem_cons,List.not_mem_nil,or_false] at hu;rcases hu with rfl|rfl|rfl|rfl|rfl|rfl<;>rfl) (by unfold maxLen;omega) (by omega)
 refine ⟨r,w',h1,⟨?_,fun b hb=> ?_⟩,h3,h4⟩
 ·rw [List.length_append,List.flatMap_append]
  simpa using h2
 ·rcases h4 with e|⟨g,e,hg⟩
  ·exact h.2 b (by rw [←e];exact hb)
  ·rw [e] at hb;cases hb;omega
theorem appRP {w:World} {lo:Nat} {v:Value} {ps:List PI} (h:PGrow w lo 86 rcells v ps) (hl:ps.length≤4) (hlo:lo≤w.heap.size) (p:PI):
 ∃r w',(∀ty,(Builtin.append_ #[78,78] ty #[v,.slice (some ⟨w.heap.size,0,none⟩) 1 1]).run Tryz.prog (w.alloc (.cells (rcells p).toArray 86))= .ok r w')∧PGrow w' lo 86 rcells r (ps++ [p])∧Ux.Touch (fun b=>v.ownBlock=some b) w w'∧(r.ownBlock=v.ownBlock∨∃g,r.ownBlock=some g∧w.heap.size≤g):=by
 obtain ⟨r,w',h1,h2,h3,h4⟩:=Ux.app_new 78 86 6 56 _ Tryz.underlying78 infoRP rfl (by omega) v ps.length _ w h.1 1 (rcells p) rfl (by intro u hu;unfold rcells at hu;simp only [List.mem_cons,List.not_mem_nil,or_false] at hu;rcases hu with rfl|rfl|rfl|rfl|rfl|rfl<;>rfl) (by unfold maxLen;omega) (by omega)
 refine ⟨r,w',h1,⟨?_,fun b hb=> ?_⟩,h3,h4⟩
 ·rw [List.length_append,List.flatMap_append]
  simpa using h2
 ·rcases h4 with e|⟨g,e,hg⟩
  ·exact h.2 b (by rw [←e];exact hb)
  ·rw [e] at hb;cases hb;omega
structure PLoop (w0 wr:World) (va vb:Value) (ps:List PI):Prop where
 a:PGrow wr w0.heap.size 91 kcells va ps
 b:PGrow wr w0.heap.size 86 rcells vb ps
 m: ∀p∈ps,∃lo hi,PIm wr lo hi p∧(∀b,va.ownBlock=some b→b<lo∨hi≤b)∧(∀b,vb.ownBlock=some b→b<lo∨hi≤b)
 t:Ux.Touch (fun _=>False) w0 wr
 na:ps= []→va.ownBlock=none
 nb:ps= []→vb.ownBlock=none
theorem PLoop.calm {w0 w1 w2:World} {va vb:Value} {ps:List PI} (h:PLoop w0 w1 va vb ps) (T:Ux.Touch (fun _=>False) w1 w2):PLoop w0 w2 va vb ps:=
 ⟨h.a.touch T fun _ _ f=>f,h.b.touch T fun _ _ f=>f,fun p hp=>let ⟨lo,hi,h1,h2,h3⟩:=h.m p hp;⟨lo,hi,h1.calm T,h2,h3⟩,h.t.trans T fun _ _ f=>f,h.na,h.nb⟩
theorem PLoop.step {w0 w1 w2 w3:World} {va vb ra rb:Value} {ps:List PI} {p:PI} (h:PLoop w0 w1 va vb ps) {lo hi:Nat} (hp:PIm w1 lo hi p) (hlo: ∀b,va.ownBlock=some b→b<lo) (hlo2: ∀b,vb.ownBlock=some b→b<lo)
 (a2:PGrow w2 w0.heap.size 91 kcells ra (ps++ [p])) (t2:Ux.Touch (fun b=>va.ownBlock=some b) w1 w2) (o2:ra.ownBlock=va.ownBlock∨∃g,ra.ownBlock=some g∧w1.heap.size≤g)
 (a3:PGrow w3 w0.heap.size 86 rcells rb (ps++ [p])) (t3:Ux.Touch (fun b=>vb.ownBlock=some b) w2 w3) (o3:rb.ownBlock=vb.ownBlock∨∃g,rb.ownBlock=some g∧w2.heap.size≤g):PLoop w0 w3 ra rb (ps++ [p]):=by
 have k6: ∀p,(kcells p).length=6:=fun _=>rfl
 have r6: ∀p,(rcells p).length=6:=fun _=>rfl
 have hAv: ∀b,va.ownBlock=some b→vb.ownBlock≠some b:=fun b h1 h2=>by
  obtain ⟨c1,e1,_⟩:=h.a.kind h1
  obtain ⟨c2,e2,_⟩:=h.b.kind h2
  rw [e1] at e2
  cases e2
 have hva: ∀b,va.ownBlock=some b→b<w1.heap.size:=fun b hb=>by obtain ⟨c1,e1,_⟩:=h.a.kind hb;exact Ux.lt_of_heap e1
 have hvb: ∀b,vb.ownBlock=some b→b<w1.heap.size:=fun b hb=>by obtain ⟨c1,e1,_⟩:=h.b.kind hb;exact Ux.lt_of_heap e1
 have b2:PGrow w2 w0.heap.size 86 rcells vb ps:=h.b.touch t2 fun b hb hv=>hAv b hv hb
 have hrab: ∀b,ra.ownBlock=some b→vb.ownBlock≠some b:=fun b h1 h2=>by
  rcases o2 with e|⟨g,e,hg⟩
  ·rw [e] at h1;exact hAv b h1 h2
  ·rw [e] at h1;cases h1;have:=hvb _ h2;omega
 refine ⟨a2.touch t3 fun b hb hv=>hrab b hb hv,a3,?_,(h.t.trans t2 fun b hb hv=>by have:=h.a.2 b hv;omega).trans t3 fun b hb hv=>by have:=h.b.2 b hv;omega,fun e=>by simp at e,fun e=>by simp at e⟩
 have key: ∀q lo hi,PIm w1 lo hi q→(∀b,va.ownBlock=some b→b<lo∨hi≤b)→(∀b,vb.ownBlock=some b→b<lo∨hi≤b)→PIm w3 lo hi q∧(∀b,ra.ownBlock=some b→b<lo∨hi≤b)∧(∀b,rb.ownBlock=some b→b<lo∨hi≤b):=fun q lo hi h1 h2 h3=>by
  have n2:PIm w2 lo hi q:=h1.touch t2 fun b hb hl=>⟨h2 b hb,h.a.num k6 (fun _=>rfl) (by decide) (fun e=>by rw [h.na e] at hb;cases hb) hb⟩
  refine ⟨n2.touch t3 fun b hb hl=>⟨h3 b hb,b2.num r6 (fun _=>rfl) (by decide) (fun e=>by rw [h.nb e] at hb;cases hb) hb⟩,fun b hb=> ?_,fun b hb=> ?_⟩
  ·rcases o2 with e|⟨g,e,hg⟩
   ·exact h2 b (by rw [←e];exact hb)
   ·rw [e] at hb;cases hb;exact .inr (Nat.le_trans h1.le hg)
  ·rcases o3 with e|⟨g,e,hg⟩
   ·exact h3 b (by rw [←e];exact hb)
   ·rw [e] at hb;cases hb;exact .inr (Nat.le_trans h1.le (Nat.le_trans t2.size hg))
 intro q hq
 rcases List.mem_append.1 hq with hq|hq
 ·obtain ⟨lo',hi',h1,h2,h3⟩:=h.m q hq
  exact ⟨lo',hi',key q lo' hi' h1 h2 h3⟩
 ·rw [List.mem_singleton.1 hq]
  exact ⟨lo,hi,key p lo hi hp (fun b hb=> .inl (hlo b hb)) fun b hb=> .inl (hlo2 b hb)⟩
set_option maxHeartbeats 16000000 in
set_option maxRecDepth 100000 in
theorem parts_ (v:Value) (l:List (Int×Int×Bool)) (w:World) (hV:QView w v l) (hT:Tabs w):
 Calls Tryz.prog 31 #[v] w fun e w'=> ∃va vb ps,e= .returned (.tuple #[va,vb,.bool true])∧PRow w' kcells va ps∧PRow w' rcells vb ps∧ps.length≤4∧(∀p∈ps,PIok w' 0 p)∧Ux.Touch (fun _=>False) w w'∧Ux.SCap va∧Ux.SCap vb:=by
 obtain ⟨a,c,rfl,hl,hc⟩:=hV
 obtain ⟨n,hn⟩: ∃n,l.length=n:=⟨_,rfl⟩
 have HH:=Lib.hid (And.intro hc hn)
 have HT:=Lib.hid hT
 rw [hn] at hl⊢
 unfold maxLen at hl
 have n0:(n:Int)≤9223372036854775807:=by omega
 have HM:=Lib.hid fun (k lv:Int) W (T:Ux.Touch (fun _=>False) w W)=>madeC0_ k lv false false W (hT.touch T)
 clear hc hn hl hT
 go_enter Tryz.func31,Tryz.ntmps31
 go_wp2_with (fail)
 go_loopg [5,6,7] 4 (fun gk s5 s6 s7 wr=> ∃(i:Nat) (ps:List PI),s7= .int .i64 i∧i+gk=4∧i≤n∧(∃a c,s5= .slice a i c)∧(∃a c,s6= .slice a i c)∧Hid (ps.length=i∧PLoop w wr s5 s6 ps))
 case atStart=>exact ⟨0,[],rfl,rfl,by omega,⟨_,_,rfl⟩,⟨_,_,rfl⟩,Lib.hid ⟨rfl,⟨PGrow.nil _ _ _ _,PGrow.nil _ _ _ _,fun p hp=>by simp at hp,Ux.Touch.refl _ _,fun _=>rfl,fun _=>rfl⟩⟩⟩
 case round=>
  obtain ⟨i,ps,rfl,hig,hin,⟨a5,c5,rfl⟩,⟨a6,c6,rfl⟩,HI⟩:=hrel
  have i0:(0:Int)≤i:=by omega
  by_cases hlt:i<n∧i<4
  ·obtain ⟨g',rfl⟩: ∃g',gk=g'+1:=⟨gk-1,by omega⟩
   have i1:(i:Int)<n:=by omega
   have i2:(i:Int)<4:=by omega
   obtain ⟨o,ho⟩: ∃o,l[i]? =some o:=⟨_,List.getElem?_eq_getElem (by have:=HH.out.2;omega)⟩
   obtain ⟨_,_,b,f,rfl,hb,c0,c1,c2⟩:=HH.out.1 i o ho
   obtain ⟨o0,o1,o2⟩:=o
   have HC:=Lib.hid fun W (T:Ux.Touch (fun _=>False) w W)=>And.intro (T.cell c0 (fun f=>f)) (And.intro (T.cell c1 (fun f=>f)) (T.cell c2 (fun f=>f)))
   have HX:=Lib.hid (And.intro hlt hig)
   clear ho hb c0 c1 c2 hlt hig
   go_upto_region 6 with (fail)
   go_cut [8,9,10] (fun s8 s9 s10 wx=> ∃(q8 q9:Nat) (p:PI) (lo hi:Nat),s8= .pointer (some ⟨q8,0,none⟩)∧s9= .pointer (some ⟨q9,0,none⟩)∧s10= .bool true∧wx.heap[q8]? =some (.cells #[.int .i64 p.kd,.int .i64 (p.LN:Nat),.bool p.sh,.bool p.bk,.pointer p.tb] 66 (0,0))∧wx.heap[q9]? =some (.cells #[.int .i64 p.kd,.int .i64 (p.LN:Nat),.bool p.sh,.bool p.bk,.slice p.ua p.un p.uc] 68 (0,0))∧p.d=o2∧PIm wx lo hi p∧wr.heap.size≤lo∧Ux.Touch (fun _=>False) wr wx)
   case first=>
    obtain ⟨x0,x1,-⟩:=HC.out wr HI.out.2.t
    refine Ux.wp_region_plan3 (fun _ w'=>w'.cell? ⟨b,f+i*3,none⟩=some (.int .i64 o0)∧w'.cell? ⟨b,f+i*3+1,none⟩=some (.int .i64 o1)) (.q [0,1,2,3,5,6,7,8] (.h false [4,9] (.tr 10 (.q [11,12,13,14] (.br 15 (.e 16 true true (.e 17 true true (.e 18 true true (.line [19])))) 16 (.e 15 true true (.e 17 true true (.e 18 true true (.line [19])))))) 15 (.br 10 (.q [11,12,13,14] (.e 16 true true (.e 17 true true (.e 18 true true (.line [19]))))) 16 (.e 10 true true (.q [11,12,13,14] (.e 17 true true (.e 18 true true (.line [19])))))) 16 (.br 10 (.q [11,12,13,14] (.e 15 true true (.e 17 true true (.e 18 true true (.line [19]))))) 15 (.e 10 true true (.q [11,12,13,14] (.e 17 true true (.e 18 true true (.line [19])))))))))
     (by kernel_rfl) (by kernel_rfl) (by intro _ _ d _ _ h;cases d<;>exact h) ?hS ?_
    case hS=>(intro c;cases c<;>(simp only [World.cell?_drew];first|exact True.intro|(refine ⟨?_,?_⟩<;>assumption)|assumption|(repeat (first|assumption|(refine And.intro ?_ ?_)))))
    simp only [Ux.wpPlan3,Ux.wpPlan,Ux.pickOps,Ux.keeps,List.getElem?_toArray,List.getElem?_cons_succ,List.getElem?_cons_zero]
    repeat ((with_reducible refine Ux.qg ?_);refine Ux.qu ?_)
    clear x0 x1
    obtain ⟨wc,hwc⟩: ∃W,wr.drew=W:=⟨_,rfl⟩
    rw [hwc]
    have HU:=Lib.hid (show Ux.Touch (fun _=>False) wr wc by rw [←hwc];exact (Ux.Touch.refl _ _).drew)
    clear hwc
    refine ⟨?_,?_,?_⟩
    ·go_wp2_with (go_at_call 26;fail)
     have hmk:=HM.out o0 o1 wc (HI.out.2.t.trans HU.out fun _ _ f=>f)
     obtain ⟨lo,hlo⟩: ∃lo,wc.heap.size=lo:=⟨_,rfl⟩
     rw [hlo] at hmk
     refine hmk.mono ?_
     have HLO:=Lib.hid (show wr.heap.size≤lo by rw [←hlo];exact HU.out.size)
     try have O8:=Lib.hid (show q8<lo by rw [←hlo];exact Ux.lt_of_heap A8.out)
     try have O9:=Lib.hid (show q9<lo by rw [←hlo];exact Ux.lt_of_heap A9.out)
     clear hmk hlo
     rintro e wc ⟨kd,LN,sh,bk,tb,u,rfl,hM,T⟩
     obtain ⟨ua,un,uc,rfl⟩:=hM.shape
     unfold cV rcV
     have HP:=Lib.hid (PIm.of hM o2)
     have HU:=Lib.hid (HU.out.trans T fun _ _ f=>f)
     try have A8:=Lib.hid (T.heap A8.out fun f=>f)
     try have A9:=Lib.hid (T.heap A9.out fun f=>f)
     have HHI:=Lib.hid (Nat.le_refl wc.heap.size)
     obtain ⟨hi,hhi⟩: ∃hi,wc.heap.size=hi:=⟨_,rfl⟩
     rw [hhi] at HP HHI
     have HHI:=Lib.hid (show hi≤wc.heap.size by omega)
     clear hM T hhi
     go_wp2_with (fail)
     first|refine ⟨⟨(let h:=HC.out _ (HI.out.2.t.trans HU.out fun _ _ f=>f);⟨h.1,h.2.1⟩),(let h:=HC.out _ (HI.out.2.t.trans HU.out fun _ _ f=>f);⟨h.1,h.2.1⟩)⟩,?_⟩|refine ⟨(let h:=HC.out _ (HI.out.2.t.trans HU.out fun _ _ f=>f);⟨h.1,h.2.1⟩),?_⟩
     repeat ((with_reducible refine Ux.qg ?_);refine Ux.qu ?_)
     refine ⟨?_,?_⟩
     ·have T:=(Ux.Touch.refl (fun _=>False) wc).alloc (.cells #[.int .i64 0,.int .i64 0,.bool false,.bool false,.pointer none] 66)
      have GG:=heap_alloc_new wc (.cells #[.int .i64 0,.int .i64 0,.bool false,.bool false,.pointer none] 66)
      obtain ⟨q8,hq8⟩: ∃q,wc.heap.size=q:=⟨_,rfl⟩
      rw [hq8] at GG
      try have HNE:=Lib.hid (show q8≠q9 by have:=Ux.lt_of_heap A9.out;omega)
      try have O8:=Lib.hid (show hi≤q8 by have:=HHI.out;omega)
      have HQ8:=Lib.hid (show wr.heap.size≤q8 by rw [←hq8];exact HU.out.size)
      obtain ⟨wc,hwc⟩: ∃W,wc.alloc (.cells #[.int .i64 0,.int .i64 0,.bool false,.bool false,.pointer none] 66)=W:=⟨_,rfl⟩
      rw [hwc] at T GG
      have HU:=Lib.hid (HU.out.trans T fun _ _ f=>f)
      try have A9:=Lib.hid (T.heap A9.out fun f=>f)
      try have HP:=Lib.hid (HP.out.calm T)
      try have HHI:=Lib.hid (Nat.le_trans HHI.out T.size)
      have A8:=Lib.hid GG
      clear T GG
      go_wp2_with (fail)
      clear hwc hq8
      first|refine ⟨⟨(let h:=HC.out _ (HI.out.2.t.trans HU.out fun _ _ f=>f);⟨h.1,h.2.1⟩),(let h:=HC.out _ (HI.out.2.t.trans HU.out fun _ _ f=>f);⟨h.1,h.2.1⟩)⟩,?_⟩|refine ⟨(let h:=HC.out _ (HI.out.2.t.trans HU.out fun _ _ f=>f);⟨h.1,h.2.1⟩),?_⟩
      have T:=(Ux.Touch.refl (fun _=>False) wc).alloc (.cells #[.int .i64 0,.int .i64 0,.bool false,.bool false,.slice none 0 0] 68)
      have GG:=heap_alloc_new wc (.cells #[.int .i64 0,.int .i64 0,.bool false,.bool false,.slice none 0 0] 68)
      obtain ⟨q9,hq9⟩: ∃q,wc.heap.size=q:=⟨_,rfl⟩
      rw [hq9] at GG
      try have HNE:=Lib.hid (show q8≠q9 by have:=Ux.lt_of_heap A8.out;omega)
      try have O9:=Lib.hid (show hi≤q9 by have:=HHI.out;omega)
      have HQ9:=Lib.hid (show wr.heap.size≤q9 by rw [←hq9];exact HU.out.size)
      obtain ⟨wc,hwc⟩: ∃W,wc.alloc (.cells #[.int .i64 0,.int .i64 0,.bool false,.bool false,.slice none 0 0] 68)=W:=⟨_,rfl⟩
      rw [hwc] at T GG
      have HU:=Lib.hid (HU.out.trans T fun _ _ f=>f)
      try have A8:=Lib.hid (T.heap A8.out fun f=>f)
      try have HP:=Lib.hid (HP.out.calm T)
      try have HHI:=Lib.hid (Nat.le_trans HHI.out T.size)
      have A9:=Lib.hid GG
      clear T GG
      go_wp2_with (fail)
      clear hwc hq9
      first|refine ⟨⟨(let h:=HC.out _ (HI.out.2.t.trans HU.out fun _ _ f=>f);⟨h.1,h.2.1⟩),(let h:=HC.out _ (HI.out.2.t.trans HU.out fun _ _ f=>f);⟨h.1,h.2.1⟩)⟩,?_⟩|refine ⟨(let h:=HC.out _ (HI.out.2.t.trans HU.out fun _ _ f=>f);⟨h.1,h.2.1⟩),?_⟩
      refine wpList_store_mid rfl 66 _ _ rfl q8 0 #[.int .i64 kd,.int .i64 (LN:Nat),.bool sh,.bool bk,.pointer tb] rfl rfl (by have h:=there_row A8.out;exact h) (by kernel_rfl) (by simp [Value.oneCell']) ?_
      have T:=set5_touch wc q8 (.int .i64 kd) (.int .i64 (LN:Nat)) (.bool sh) (.bool bk) (.pointer tb)
      have GG:=set5_row A8.out (.int .i64 kd) (.int .i64 (LN:Nat)) (.bool sh) (.bool bk) (.pointer tb)
      have hN:NumBlk wc q8:=⟨_,_,_,A8.out,by decide,by decide,rfl⟩
      obtain ⟨wc,hwc⟩: ∃W,set5 wc q8 (.int .i64 kd) (.int .i64 (LN:Nat)) (.bool sh) (.bool bk) (.pointer tb)=W:=⟨_,rfl⟩
      rw [hwc] at T GG
      unfold set5 at hwc
      simp only [World.setCells] at hwc⊢
      rw [hwc]
      have HU:=Lib.hid (HU.out.trans T fun b hb e=>by have:=HQ8.out;omega)
      have A8:=Lib.hid GG
      have A9:=Lib.hid (T.heap A9.out fun e=>HNE.out e.symm)
      have HP:=Lib.hid (HP.out.touch T fun b hb _=>by subst hb;exact ⟨by have:=O8.out;omega,hN⟩)
      clear T GG hN hwc
      first|refine ⟨⟨(let h:=HC.out _ (HI.out.2.t.trans HU.out fun _ _ f=>f);⟨h.1,h.2.1⟩),(let h:=HC.out _ (HI.out.2.t.trans HU.out fun _ _ f=>f);⟨h.1,h.2.1⟩)⟩,?_⟩|refine ⟨(let h:=HC.out _ (HI.out.2.t.trans HU.out fun _ _ f=>f);⟨h.1,h.2.1⟩),?_⟩
      refine wpList_store_mid rfl 68 _ _ rfl q9 0 #[.int .i64 kd,.int .i64 (LN:Nat),.bool sh,.bool bk,.slice ua un uc] rfl rfl (by have h:=there_row A9.out;exact h) (by kernel_rfl) (by simp [Value.oneCell']) ?_
      have T:=set5_touch wc q9 (.int .i64 kd) (.int .i64 (LN:Nat)) (.bool sh) (.bool bk) (.slice ua un uc)
      have GG:=set5_row A9.out (.int .i64 kd) (.int .i64 (LN:Nat)) (.bool sh) (.bool bk) (.slice ua un uc)
      have hN:NumBlk wc q9:=⟨_,_,_,A9.out,by decide,by decide,rfl⟩
      obtain ⟨wc,hwc⟩: ∃W,set5 wc q9 (.int .i64 kd) (.int .i64 (LN:Nat)) (.bool sh) (.bool bk) (.slice ua un uc)=W:=⟨_,rfl⟩
      rw [hwc] at T GG
      unfold set5 at hwc
      simp only [World.setCells] at hwc⊢
      rw [hwc]
      have HU:=Lib.hid (HU.out.trans T fun b hb e=>by have:=HQ9.out;omega)
      have A9:=Lib.hid GG
      have A8:=Lib.hid (T.heap A8.out fun e=>HNE.out e)
      have HP:=Lib.hid (HP.out.touch T fun b hb _=>by subst hb;exact ⟨by have:=O9.out;omega,hN⟩)
      clear T GG hN hwc
      first|refine ⟨⟨(let h:=HC.out _ (HI.out.2.t.trans HU.out fun _ _ f=>f);⟨h.1,h.2.1⟩),(let h:=HC.out _ (HI.out.2.t.trans HU.out fun _ _ f=>f);⟨h.1,h.2.1⟩)⟩,?_⟩|refine ⟨(let h:=HC.out _ (HI.out.2.t.trans HU.out fun _ _ f=>f);⟨h.1,h.2.1⟩),?_⟩
      go_wp2_with (fail)
      go_meet
      exact ⟨q8,q9,⟨kd,LN,sh,bk,tb,ua,un,uc,o2⟩,lo,hi,rfl,rfl,rfl,A8.out,A9.out,rfl,HP.out,HLO.out,HU.out⟩
     ·have T:=(Ux.Touch.refl (fun _=>False) wc).alloc (.cells #[.int .i64 0,.int .i64 0,.bool false,.bool false,.slice none 0 0] 68)
      have GG:=heap_alloc_new wc (.cells #[.int .i64 0,.int .i64 0,.bool false,.bool false,.slice none 0 0] 68)
      obtain ⟨q9,hq9⟩: ∃q,wc.heap.size=q:=⟨_,rfl⟩
      rw [hq9] at GG
      try have HNE:=Lib.hid (show q8≠q9 by have:=Ux.lt_of_heap A8.out;omega)
      try have O9:=Lib.hid (show hi≤q9 by have:=HHI.out;omega)
      have HQ9:=Lib.hid (show wr.heap.size≤q9 by rw [←hq9];exact HU.out.size)
      obtain ⟨wc,hwc⟩: ∃W,wc.alloc (.cells #[.int .i64 0,.int .i64 0,.bool false,.bool false,.slice none 0 0] 68)=W:=⟨_,rfl⟩
      rw [hwc] at T GG
      have HU:=Lib.hid (HU.out.trans T fun _ _ f=>f)
      try have A8:=Lib.hid (T.heap A8.out fun f=>f)
      try have HP:=Lib.hid (HP.out.calm T)
      try have HHI:=Lib.hid (Nat.le_trans HHI.out T.size)
      have A9:=Lib.hid GG
      clear T GG
      go_wp2_with (fail)
      clear hwc hq9
      first|refine ⟨⟨(let h:=HC.out _ (HI.out.2.t.trans HU.out fun _ _ f=>f);⟨h.1,h.2.1⟩),(let h:=HC.out _ (HI.out.2.t.trans HU.out fun _ _ f=>f);⟨h.1,h.2.1⟩)⟩,?_⟩|refine ⟨(let h:=HC.out _ (HI.out.2.t.trans HU.out fun _ _ f=>f);⟨h.1,h.2.1⟩),?_⟩
      have T:=(Ux.Touch.refl (fun _=>False) wc).alloc (.cells #[.int .i64 0,.int .i64 0,.bool false,.bool false,.pointer none] 66)
      have GG:=heap_alloc_new wc (.cells #[.int .i64 0,.int .i64 0,.bool false,.bool false,.pointer none] 66)
      obtain ⟨q8,hq8⟩: ∃q,wc.heap.size=q:=⟨_,rfl⟩
      rw [hq8] at GG
      try have HNE:=Lib.hid (show q8≠q9 by have:=Ux.lt_of_heap A9.out;omega)
      try have O8:=Lib.hid (show hi≤q8 by have:=HHI.out;omega)
      have HQ8:=Lib.hid (show wr.heap.size≤q8 by rw [←hq8];exact HU.out.size)
      obtain ⟨wc,hwc⟩: ∃W,wc.alloc (.cells #[.int .i64 0,.int .i64 0,.bool false,.bool false,.pointer none] 66)=W:=⟨_,rfl⟩
      rw [hwc] at T GG
      have HU:=Lib.hid (HU.out.trans T fun _ _ f=>f)
      try have A9:=Lib.hid (T.heap A9.out fun f=>f)
      try have HP:=Lib.hid (HP.out.calm T)
      try have HHI:=Lib.hid (Nat.le_trans HHI.out T.size)
      have A8:=Lib.hid GG
      clear T GG
      go_wp2_with (fail)
      clear hwc hq8
      first|refine ⟨⟨(let h:=HC.out _ (HI.out.2.t.trans HU.out fun _ _ f=>f);⟨h.1,h.2.1⟩),(let h:=HC.out _ (HI.out.2.t.trans HU.out fun _ _ f=>f);⟨h.1,h.2.1⟩)⟩,?_⟩|refine ⟨(let h:=HC.out _ (HI.out.2.t.trans HU.out fun _ _ f=>f);⟨h.1,h.2.1⟩),?_⟩
      refine wpList_store_mid rfl 66 _ _ rfl q8 0 #[.int .i64 kd,.int .i64 (LN:Nat),.bool sh,.bool bk,.pointer tb] rfl rfl (by have h:=there_row A8.out;exact h) (by kernel_rfl) (by simp [Value.oneCell']) ?_
      have T:=set5_touch wc q8 (.int .i64 kd) (.int .i64 (LN:Nat)) (.bool sh) (.bool bk) (.pointer tb)
      have GG:=set5_row A8.out (.int .i64 kd) (.int .i64 (LN:Nat)) (.bool sh) (.bool bk) (.pointer tb)
      have hN:NumBlk wc q8:=⟨_,_,_,A8.out,by decide,by decide,rfl⟩
      obtain ⟨wc,hwc⟩: ∃W,set5 wc q8 (.int .i64 kd) (.int .i64 (LN:Nat)) (.bool sh) (.bool bk) (.pointer tb)=W:=⟨_,rfl⟩
      rw [hwc] at T GG
      unfold set5 at hwc
      simp only [World.setCells] at hwc⊢
      rw [hwc]
      have HU:=Lib.hid (HU.out.trans T fun b hb e=>by have:=HQ8.out;omega)
      have A8:=Lib.hid GG
      have A9:=Lib.hid (T.heap A9.out fun e=>HNE.out e.symm)
      have HP:=Lib.hid (HP.out.touch T fun b hb _=>by subst hb;exact ⟨by have:=O8.out;omega,hN⟩)
      clear T GG hN hwc
      first|refine ⟨⟨(let h:=HC.out _ (HI.out.2.t.trans HU.out fun _ _ f=>f);⟨h.1,h.2.1⟩),(let h:=HC.out _ (HI.out.2.t.trans HU.out fun _ _ f=>f);⟨h.1,h.2.1⟩)⟩,?_⟩|refine ⟨(let h:=HC.out _ (HI.out.2.t.trans HU.out fun _ _ f=>f);⟨h.1,h.2.1⟩),?_⟩
      refine wpList_store_mid rfl 68 _ _ rfl q9 0 #[.int .i64 kd,.int .i64 (LN:Nat),.bool sh,.bool bk,.slice ua un uc] rfl rfl (by have h:=there_row A9.out;exact h) (by kernel_rfl) (by simp [Value.oneCell']) ?_
      have T:=set5_touch wc q9 (.int .i64 kd) (.int .i64 (LN:Nat)) (.bool sh) (.bool bk) (.slice ua un uc)
      have GG:=set5_row A9.out (.int .i64 kd) (.int .i64 (LN:Nat)) (.bool sh) (.bool bk) (.slice ua un uc)
      have hN:NumBlk wc q9:=⟨_,_,_,A9.out,by decide,by decide,rfl⟩
      obtain ⟨wc,hwc⟩: ∃W,set5 wc q9 (.int .i64 kd) (.int .i64 (LN:Nat)) (.bool sh) (.bool bk) (.slice ua un uc)=W:=⟨_,rfl⟩
      rw [hwc] at T GG
      unfold set5 at hwc
      simp only [World.setCells] at hwc⊢
      rw [hwc]
      have HU:=Lib.hid (HU.out.trans T fun b hb e=>by have:=HQ9.out;omega)
      have A9:=Lib.hid GG
      have A8:=Lib.hid (T.heap A8.out fun e=>HNE.out e)
      have HP:=Lib.hid (HP.out.touch T fun b hb _=>by subst hb;exact ⟨by have:=O9.out;omega,hN⟩)
      clear T GG hN hwc
      first|refine ⟨⟨(let h:=HC.out _ (HI.out.2.t.trans HU.out fun _ _ f=>f);⟨h.1,h.2.1⟩),(let h:=HC.out _ (HI.out.2.t.trans HU.out fun _ _ f=>f);⟨h.1,h.2.1⟩)⟩,?_⟩|refine ⟨(let h:=HC.out _ (HI.out.2.t.trans HU.out fun _ _ f=>f);⟨h.1,h.2.1⟩),?_⟩
      go_wp2_with (fail)
      go_meet
      exact ⟨q8,q9,⟨kd,LN,sh,bk,tb,ua,un,uc,o2⟩,lo,hi,rfl,rfl,rfl,A8.out,A9.out,rfl,HP.out,HLO.out,HU.out⟩
    ·have T:=(Ux.Touch.refl (fun _=>False) wc).alloc (.cells #[.int .i64 0,.int .i64 0,.bool false,.bool false,.pointer none] 66)
     have GG:=heap_alloc_new wc (.cells #[.int .i64 0,.int .i64 0,.bool false,.bool false,.pointer none] 66)
     obtain ⟨q8,hq8⟩: ∃q,wc.heap.size=q:=⟨_,rfl⟩
     rw [hq8] at GG
     try have HNE:=Lib.hid (show q8≠q9 by have:=Ux.lt_of_heap A9.out;omega)
     try have O8:=Lib.hid (show hi≤q8 by have:=HHI.out;omega)
     have HQ8:=Lib.hid (show wr.heap.size≤q8 by rw [←hq8];exact HU.out.size)
     obtain ⟨wc,hwc⟩: ∃W,wc.alloc (.cells #[.int .i64 0,.int .i64 0,.bool false,.bool false,.pointer none] 66)=W:=⟨_,rfl⟩
     rw [hwc] at T GG
     have HU:=Lib.hid (HU.out.trans T fun _ _ f=>f)
     try have A9:=Lib.hid (T.heap A9.out fun f=>f)
     try have HP:=Lib.hid (HP.out.calm T)
     try have HHI:=Lib.hid (Nat.le_trans HHI.out T.size)
     have A8:=Lib.hid GG
     clear T GG
     go_wp2_with (fail)
     clear hwc hq8
     first|refine ⟨⟨(let h:=HC.out _ (HI.out.2.t.trans HU.out fun _ _ f=>f);⟨h.1,h.2.1⟩),(let h:=HC.out _ (HI.out.2.t.trans HU.out fun _ _ f=>f);⟨h.1,h.2.1⟩)⟩,?_⟩|refine ⟨(let h:=HC.out _ (HI.out.2.t.trans HU.out fun _ _ f=>f);⟨h.1,h.2.1⟩),?_⟩
     refine ⟨?_,?_⟩
     ·go_wp2_with (go_at_call 26;fail)
      have hmk:=HM.out o0 o1 wc (HI.out.2.t.trans HU.out fun _ _ f=>f)
      obtain ⟨lo,hlo⟩: ∃lo,wc.heap.size=lo:=⟨_,rfl⟩
      rw [hlo] at hmk
      refine hmk.mono ?_
      have HLO:=Lib.hid (show wr.heap.size≤lo by rw [←hlo];exact HU.out.size)
      try have O8:=Lib.hid (show q8<lo by rw [←hlo];exact Ux.lt_of_heap A8.out)
      try have O9:=Lib.hid (show q9<lo by rw [←hlo];exact Ux.lt_of_heap A9.out)
      clear hmk hlo
      rintro e wc ⟨kd,LN,sh,bk,tb,u,rfl,hM,T⟩
      obtain ⟨ua,un,uc,rfl⟩:=hM.shape
      unfold cV rcV
      have HP:=Lib.hid (PIm.of hM o2)
      have HU:=Lib.hid (HU.out.trans T fun _ _ f=>f)
      try have A8:=Lib.hid (T.heap A8.out fun f=>f)
      try have A9:=Lib.hid (T.heap A9.out fun f=>f)
      have HHI:=Lib.hid (Nat.le_refl wc.heap.size)
      obtain ⟨hi,hhi⟩: ∃hi,wc.heap.size=hi:=⟨_,rfl⟩
      rw [hhi] at HP HHI
      have HHI:=Lib.hid (show hi≤wc.heap.size by omega)
      clear hM T hhi
      go_wp2_with (fail)
      first|refine ⟨⟨(let h:=HC.out _ (HI.out.2.t.trans HU.out fun _ _ f=>f);⟨h.1,h.2.1⟩),(let h:=HC.out _ (HI.out.2.t.trans HU.out fun _ _ f=>f);⟨h.1,h.2.1⟩)⟩,?_⟩|refine ⟨(let h:=HC.out _ (HI.out.2.t.trans HU.out fun _ _ f=>f);⟨h.1,h.2.1⟩),?_⟩
      repeat ((with_reducible refine Ux.qg ?_);refine Ux.qu ?_)
      have T:=(Ux.Touch.refl (fun _=>False) wc).alloc (.cells #[.int .i64 0,.int .i64 0,.bool false,.bool false,.slice none 0 0] 68)
      have GG:=heap_alloc_new wc (.cells #[.int .i64 0,.int .i64 0,.bool false,.bool false,.slice none 0 0] 68)
      obtain ⟨q9,hq9⟩: ∃q,wc.heap.size=q:=⟨_,rfl⟩
      rw [hq9] at GG
      try have HNE:=Lib.hid (show q8≠q9 by have:=Ux.lt_of_heap A8.out;omega)
      try have O9:=Lib.hid (show hi≤q9 by have:=HHI.out;omega)
      have HQ9:=Lib.hid (show wr.heap.size≤q9 by rw [←hq9];exact HU.out.size)
      obtain ⟨wc,hwc⟩: ∃W,wc.alloc (.cells #[.int .i64 0,.int .i64 0,.bool false,.bool false,.slice none 0 0] 68)=W:=⟨_,rfl⟩
      rw [hwc] at T GG
      have HU:=Lib.hid (HU.out.trans T fun _ _ f=>f)
      try have A8:=Lib.hid (T.heap A8.out fun f=>f)
      try have HP:=Lib.hid (HP.out.calm T)
      try have HHI:=Lib.hid (Nat.le_trans HHI.out T.size)
      have A9:=Lib.hid GG
      clear T GG
      go_wp2_with (fail)
      clear hwc hq9
      first|refine ⟨⟨(let h:=HC.out _ (HI.out.2.t.trans HU.out fun _ _ f=>f);⟨h.1,h.2.1⟩),(let h:=HC.out _ (HI.out.2.t.trans HU.out fun _ _ f=>f);⟨h.1,h.2.1⟩)⟩,?_⟩|refine ⟨(let h:=HC.out _ (HI.out.2.t.trans HU.out fun _ _ f=>f);⟨h.1,h.2.1⟩),?_⟩
      refine wpList_store_mid rfl 66 _ _ rfl q8 0 #[.int .i64 kd,.int .i64 (LN:Nat),.bool sh,.bool bk,.pointer tb] rfl rfl (by have h:=there_row A8.out;exact h) (by kernel_rfl) (by simp [Value.oneCell']) ?_
      have T:=set5_touch wc q8 (.int .i64 kd) (.int .i64 (LN:Nat)) (.bool sh) (.bool bk) (.pointer tb)
      have GG:=set5_row A8.out (.int .i64 kd) (.int .i64 (LN:Nat)) (.bool sh) (.bool bk) (.pointer tb)
      have hN:NumBlk wc q8:=⟨_,_,_,A8.out,by decide,by decide,rfl⟩
      obtain ⟨wc,hwc⟩: ∃W,set5 wc q8 (.int .i64 kd) (.int .i64 (LN:Nat)) (.bool sh) (.bool bk) (.pointer tb)=W:=⟨_,rfl⟩
      rw [hwc] at T GG
      unfold set5 at hwc
      simp only [World.setCells] at hwc⊢
      rw [hwc]
      have HU:=Lib.hid (HU.out.trans T fun b hb e=>by have:=HQ8.out;omega)
      have A8:=Lib.hid GG
      have A9:=Lib.hid (T.heap A9.out fun e=>HNE.out e.symm)
      have HP:=Lib.hid (HP.out.touch T fun b hb _=>by subst hb;exact ⟨by have:=O8.out;omega,hN⟩)
      clear T GG hN hwc
      first|refine ⟨⟨(let h:=HC.out _ (HI.out.2.t.trans HU.out fun _ _ f=>f);⟨h.1,h.2.1⟩),(let h:=HC.out _ (HI.out.2.t.trans HU.out fun _ _ f=>f);⟨h.1,h.2.1⟩)⟩,?_⟩|refine ⟨(let h:=HC.out _ (HI.out.2.t.trans HU.out fun _ _ f=>f);⟨h.1,h.2.1⟩),?_⟩
      refine wpList_store_mid rfl 68 _ _ rfl q9 0 #[.int .i64 kd,.int .i64 (LN:Nat),.bool sh,.bool bk,.slice ua un uc] rfl rfl (by have h:=there_row A9.out;exact h) (by kernel_rfl) (by simp [Value.oneCell']) ?_
      have T:=set5_touch wc q9 (.int .i64 kd) (.int .i64 (LN:Nat)) (.bool sh) (.bool bk) (.slice ua un uc)
      have GG:=set5_row A9.out (.int .i64 kd) (.int .i64 (LN:Nat)) (.bool sh) (.bool bk) (.slice ua un uc)
      have hN:NumBlk wc q9:=⟨_,_,_,A9.out,by decide,by decide,rfl⟩
      obtain ⟨wc,hwc⟩: ∃W,set5 wc q9 (.int .i64 kd) (.int .i64 (LN:Nat)) (.bool sh) (.bool bk) (.slice ua un uc)=W:=⟨_,rfl⟩
      rw [hwc] at T GG
      unfold set5 at hwc
      simp only [World.setCells] at hwc⊢
      rw [hwc]
      have HU:=Lib.hid (HU.out.trans T fun b hb e=>by have:=HQ9.out;omega)
      have A9:=Lib.hid GG
      have A8:=Lib.hid (T.heap A8.out fun e=>HNE.out e)
      have HP:=Lib.hid (HP.out.touch T fun b hb _=>by subst hb;exact ⟨by have:=O9.out;omega,hN⟩)
      clear T GG hN hwc
      first|refine ⟨⟨(let h:=HC.out _ (HI.out.2.t.trans HU.out fun _ _ f=>f);⟨h.1,h.2.1⟩),(let h:=HC.out _ (HI.out.2.t.trans HU.out fun _ _ f=>f);⟨h.1,h.2.1⟩)⟩,?_⟩|refine ⟨(let h:=HC.out _ (HI.out.2.t.trans HU.out fun _ _ f=>f);⟨h.1,h.2.1⟩),?_⟩
      go_wp2_with (fail)
      go_meet
      exact ⟨q8,q9,⟨kd,LN,sh,bk,tb,ua,un,uc,o2⟩,lo,hi,rfl,rfl,rfl,A8.out,A9.out,rfl,HP.out,HLO.out,HU.out⟩
     ·have T:=(Ux.Touch.refl (fun _=>False) wc).alloc (.cells #[.int .i64 0,.int .i64 0,.bool false,.bool false,.slice none 0 0] 68)
      have GG:=heap_alloc_new wc (.cells #[.int .i64 0,.int .i64 0,.bool false,.bool false,.slice none 0 0] 68)
      obtain ⟨q9,hq9⟩: ∃q,wc.heap.size=q:=⟨_,rfl⟩
      rw [hq9] at GG
      try have HNE:=Lib.hid (show q8≠q9 by have:=Ux.lt_of_heap A8.out;omega)
      try have O9:=Lib.hid (show hi≤q9 by have:=HHI.out;omega)
      have HQ9:=Lib.hid (show wr.heap.size≤q9 by rw [←hq9];exact HU.out.size)
      obtain ⟨wc,hwc⟩: ∃W,wc.alloc (.cells #[.int .i64 0,.int .i64 0,.bool false,.bool false,.slice none 0 0] 68)=W:=⟨_,rfl⟩
      rw [hwc] at T GG
      have HU:=Lib.hid (HU.out.trans T fun _ _ f=>f)
      try have A8:=Lib.hid (T.heap A8.out fun f=>f)
      try have HP:=Lib.hid (HP.out.calm T)
      try have HHI:=Lib.hid (Nat.le_trans HHI.out T.size)
      have A9:=Lib.hid GG
      clear T GG
      go_wp2_with (fail)
      clear hwc hq9
      first|refine ⟨⟨(let h:=HC.out _ (HI.out.2.t.trans HU.out fun _ _ f=>f);⟨h.1,h.2.1⟩),(let h:=HC.out _ (HI.out.2.t.trans HU.out fun _ _ f=>f);⟨h.1,h.2.1⟩)⟩,?_⟩|refine ⟨(let h:=HC.out _ (HI.out.2.t.trans HU.out fun _ _ f=>f);⟨h.1,h.2.1⟩),?_⟩
      go_wp2_with (go_at_call 26;fail)
      have hmk:=HM.out o0 o1 wc (HI.out.2.t.trans HU.out fun _ _ f=>f)
      obtain ⟨lo,hlo⟩: ∃lo,wc.heap.size=lo:=⟨_,rfl⟩
      rw [hlo] at hmk
      refine hmk.mono ?_
      have HLO:=Lib.hid (show wr.heap.size≤lo by rw [←hlo];exact HU.out.size)
      try have O8:=Lib.hid (show q8<lo by rw [←hlo];exact Ux.lt_of_heap A8.out)
      try have O9:=Lib.hid (show q9<lo by rw [←hlo];exact Ux.lt_of_heap A9.out)
      clear hmk hlo
      rintro e wc ⟨kd,LN,sh,bk,tb,u,rfl,hM,T⟩
      obtain ⟨ua,un,uc,rfl⟩:=hM.shape
      unfold cV rcV
      have HP:=Lib.hid (PIm.of hM o2)
      have HU:=Lib.hid (HU.out.trans T fun _ _ f=>f)
      try have A8:=Lib.hid (T.heap A8.out fun f=>f)
      try have A9:=Lib.hid (T.heap A9.out fun f=>f)
      have HHI:=Lib.hid (Nat.le_refl wc.heap.size)
      obtain ⟨hi,hhi⟩: ∃hi,wc.heap.size=hi:=⟨_,rfl⟩
      rw [hhi] at HP HHI
      have HHI:=Lib.hid (show hi≤wc.heap.size by omega)
      clear hM T hhi
      go_wp2_with (fail)
      first|refine ⟨⟨(let h:=HC.out _ (HI.out.2.t.trans HU.out fun _ _ f=>f);⟨h.1,h.2.1⟩),(let h:=HC.out _ (HI.out.2.t.trans HU.out fun _ _ f=>f);⟨h.1,h.2.1⟩)⟩,?_⟩|refine ⟨(let h:=HC.out _ (HI.out.2.t.trans HU.out fun _ _ f=>f);⟨h.1,h.2.1⟩),?_⟩
      repeat ((with_reducible refine Ux.qg ?_);refine Ux.qu ?_)
      refine wpList_store_mid rfl 66 _ _ rfl q8 0 #[.int .i64 kd,.int .i64 (LN:Nat),.bool sh,.bool bk,.pointer tb] rfl rfl (by have h:=there_row A8.out;exact h) (by kernel_rfl) (by simp [Value.oneCell']) ?_
      have T:=set5_touch wc q8 (.int .i64 kd) (.int .i64 (LN:Nat)) (.bool sh) (.bool bk) (.pointer tb)
      have GG:=set5_row A8.out (.int .i64 kd) (.int .i64 (LN:Nat)) (.bool sh) (.bool bk) (.pointer tb)
      have hN:NumBlk wc q8:=⟨_,_,_,A8.out,by decide,by decide,rfl⟩
      obtain ⟨wc,hwc⟩: ∃W,set5 wc q8 (.int .i64 kd) (.int .i64 (LN:Nat)) (.bool sh) (.bool bk) (.pointer tb)=W:=⟨_,rfl⟩
      rw [hwc] at T GG
      unfold set5 at hwc
      simp only [World.setCells] at hwc⊢
      rw [hwc]
      have HU:=Lib.hid (HU.out.trans T fun b hb e=>by have:=HQ8.out;omega)
      have A8:=Lib.hid GG
      have A9:=Lib.hid (T.heap A9.out fun e=>HNE.out e.symm)
      have HP:=Lib.hid (HP.out.touch T fun b hb _=>by subst hb;exact ⟨by have:=O8.out;omega,hN⟩)
      clear T GG hN hwc
      first|refine ⟨⟨(let h:=HC.out _ (HI.out.2.t.trans HU.out fun _ _ f=>f);⟨h.1,h.2.1⟩),(let h:=HC.out _ (HI.out.2.t.trans HU.out fun _ _ f=>f);⟨h.1,h.2.1⟩)⟩,?_⟩|refine ⟨(let h:=HC.out _ (HI.out.2.t.trans HU.out fun _ _ f=>f);⟨h.1,h.2.1⟩),?_⟩
      refine wpList_store_mid rfl 68 _ _ rfl q9 0 #[.int .i64 kd,.int .i64 (LN:Nat),.bool sh,.bool bk,.slice ua un uc] rfl rfl (by have h:=there_row A9.out;exact h) (by kernel_rfl) (by simp [Value.oneCell']) ?_
      have T:=set5_touch wc q9 (.int .i64 kd) (.int .i64 (LN:Nat)) (.bool sh) (.bool bk) (.slice ua un uc)
      have GG:=set5_row A9.out (.int .i64 kd) (.int .i64 (LN:Nat)) (.bool sh) (.bool bk) (.slice ua un uc)
      have hN:NumBlk wc q9:=⟨_,_,_,A9.out,by decide,by decide,rfl⟩
      obtain ⟨wc,hwc⟩: ∃W,set5 wc q9 (.int .i64 kd) (.int .i64 (LN:Nat)) (.bool sh) (.bool bk) (.slice ua un uc)=W:=⟨_,rfl⟩
      rw [hwc] at T GG
      unfold set5 at hwc
      simp only [World.setCells] at hwc⊢
      rw [hwc]
      have HU:=Lib.hid (HU.out.trans T fun b hb e=>by have:=HQ9.out;omega)
      have A9:=Lib.hid GG
      have A8:=Lib.hid (T.heap A8.out fun e=>HNE.out e)
      have HP:=Lib.hid (HP.out.touch T fun b hb _=>by subst hb;exact ⟨by have:=O9.out;omega,hN⟩)
      clear T GG hN hwc
      first|refine ⟨⟨(let h:=HC.out _ (HI.out.2.t.trans HU.out fun _ _ f=>f);⟨h.1,h.2.1⟩),(let h:=HC.out _ (HI.out.2.t.trans HU.out fun _ _ f=>f);⟨h.1,h.2.1⟩)⟩,?_⟩|refine ⟨(let h:=HC.out _ (HI.out.2.t.trans HU.out fun _ _ f=>f);⟨h.1,h.2.1⟩),?_⟩
      go_wp2_with (fail)
      go_meet
      exact ⟨q8,q9,⟨kd,LN,sh,bk,tb,ua,un,uc,o2⟩,lo,hi,rfl,rfl,rfl,A8.out,A9.out,rfl,HP.out,HLO.out,HU.out⟩
    ·have T:=(Ux.Touch.refl (fun _=>False) wc).alloc (.cells #[.int .i64 0,.int .i64 0,.bool false,.bool false,.slice none 0 0] 68)
     have GG:=heap_alloc_new wc (.cells #[.int .i64 0,.int .i64 0,.bool false,.bool false,.slice none 0 0] 68)
     obtain ⟨q9,hq9⟩: ∃q,wc.heap.size=q:=⟨_,rfl⟩
     rw [hq9] at GG
     try have HNE:=Lib.hid (show q8≠q9 by have:=Ux.lt_of_heap A8.out;omega)
     try have O9:=Lib.hid (show hi≤q9 by have:=HHI.out;omega)
     have HQ9:=Lib.hid (show wr.heap.size≤q9 by rw [←hq9];exact HU.out.size)
     obtain ⟨wc,hwc⟩: ∃W,wc.alloc (.cells #[.int .i64 0,.int .i64 0,.bool false,.bool false,.slice none 0 0] 68)=W:=⟨_,rfl⟩
     rw [hwc] at T GG
     have HU:=Lib.hid (HU.out.trans T fun _ _ f=>f)
     try have A8:=Lib.hid (T.heap A8.out fun f=>f)
     try have HP:=Lib.hid (HP.out.calm T)
     try have HHI:=Lib.hid (Nat.le_trans HHI.out T.size)
     have A9:=Lib.hid GG
     clear T GG
     go_wp2_with (fail)
     clear hwc hq9
     first|refine ⟨⟨(let h:=HC.out _ (HI.out.2.t.trans HU.out fun _ _ f=>f);⟨h.1,h.2.1⟩),(let h:=HC.out _ (HI.out.2.t.trans HU.out fun _ _ f=>f);⟨h.1,h.2.1⟩)⟩,?_⟩|refine ⟨(let h:=HC.out _ (HI.out.2.t.trans HU.out fun _ _ f=>f);⟨h.1,h.2.1⟩),?_⟩
     refine ⟨?_,?_⟩
     ·go_wp2_with (go_at_call 26;fail)
      have hmk:=HM.out o0 o1 wc (HI.out.2.t.trans HU.out fun _ _ f=>f)
      obtain ⟨lo,hlo⟩: ∃lo,wc.heap.size=lo:=⟨_,rfl⟩
      rw [hlo] at hmk
      refine hmk.mono ?_
      have HLO:=Lib.hid (show wr.heap.size≤lo by rw [←hlo];exact HU.out.size)
      try have O8:=Lib.hid (show q8<lo by rw [←hlo];exact Ux.lt_of_heap A8.out)
      try have O9:=Lib.hid (show q9<lo by rw [←hlo];exact Ux.lt_of_heap A9.out)
      clear hmk hlo
      rintro e wc ⟨kd,LN,sh,bk,tb,u,rfl,hM,T⟩
      obtain ⟨ua,un,uc,rfl⟩:=hM.shape
      unfold cV rcV
      have HP:=Lib.hid (PIm.of hM o2)
      have HU:=Lib.hid (HU.out.trans T fun _ _ f=>f)
      try have A8:=Lib.hid (T.heap A8.out fun f=>f)
      try have A9:=Lib.hid (T.heap A9.out fun f=>f)
      have HHI:=Lib.hid (Nat.le_refl wc.heap.size)
      obtain ⟨hi,hhi⟩: ∃hi,wc.heap.size=hi:=⟨_,rfl⟩
      rw [hhi] at HP HHI
      have HHI:=Lib.hid (show hi≤wc.heap.size by omega)
      clear hM T hhi
      go_wp2_with (fail)
      first|refine ⟨⟨(let h:=HC.out _ (HI.out.2.t.trans HU.out fun _ _ f=>f);⟨h.1,h.2.1⟩),(let h:=HC.out _ (HI.out.2.t.trans HU.out fun _ _ f=>f);⟨h.1,h.2.1⟩)⟩,?_⟩|refine ⟨(let h:=HC.out _ (HI.out.2.t.trans HU.out fun _ _ f=>f);⟨h.1,h.2.1⟩),?_⟩
      repeat ((with_reducible refine Ux.qg ?_);refine Ux.qu ?_)
      have T:=(Ux.Touch.refl (fun _=>False) wc).alloc (.cells #[.int .i64 0,.int .i64 0,.bool false,.bool false,.pointer none] 66)
      have GG:=heap_alloc_new wc (.cells #[.int .i64 0,.int .i64 0,.bool false,.bool false,.pointer none] 66)
      obtain ⟨q8,hq8⟩: ∃q,wc.heap.size=q:=⟨_,rfl⟩
      rw [hq8] at GG
      try have HNE:=Lib.hid (show q8≠q9 by have:=Ux.lt_of_heap A9.out;omega)
      try have O8:=Lib.hid (show hi≤q8 by have:=HHI.out;omega)
      have HQ8:=Lib.hid (show wr.heap.size≤q8 by rw [←hq8];exact HU.out.size)
      obtain ⟨wc,hwc⟩: ∃W,wc.alloc (.cells #[.int .i64 0,.int .i64 0,.bool false,.bool false,.pointer none] 66)=W:=⟨_,rfl⟩
      rw [hwc] at T GG
      have HU:=Lib.hid (HU.out.trans T fun _ _ f=>f)
      try have A9:=Lib.hid (T.heap A9.out fun f=>f)
      try have HP:=Lib.hid (HP.out.calm T)
      try have HHI:=Lib.hid (Nat.le_trans HHI.out T.size)
      have A8:=Lib.hid GG
      clear T GG
      go_wp2_with (fail)
      clear hwc hq8
      first|refine ⟨⟨(let h:=HC.out _ (HI.out.2.t.trans HU.out fun _ _ f=>f);⟨h.1,h.2.1⟩),(let h:=HC.out _ (HI.out.2.t.trans HU.out fun _ _ f=>f);⟨h.1,h.2.1⟩)⟩,?_⟩|refine ⟨(let h:=HC.out _ (HI.out.2.t.trans HU.out fun _ _ f=>f);⟨h.1,h.2.1⟩),?_⟩
      refine wpList_store_mid rfl 66 _ _ rfl q8 0 #[.int .i64 kd,.int .i64 (LN:Nat),.bool sh,.bool bk,.pointer tb] rfl rfl (by have h:=there_row A8.out;exact h) (by kernel_rfl) (by simp [Value.oneCell']) ?_
      have T:=set5_touch wc q8 (.int .i64 kd) (.int .i64 (LN:Nat)) (.bool sh) (.bool bk) (.pointer tb)
      have GG:=set5_row A8.out (.int .i64 kd) (.int .i64 (LN:Nat)) (.bool sh) (.bool bk) (.pointer tb)
      have hN:NumBlk wc q8:=⟨_,_,_,A8.out,by decide,by decide,rfl⟩
      obtain ⟨wc,hwc⟩: ∃W,set5 wc q8 (.int .i64 kd) (.int .i64 (LN:Nat)) (.bool sh) (.bool bk) (.pointer tb)=W:=⟨_,rfl⟩
      rw [hwc] at T GG
      unfold set5 at hwc
      simp only [World.setCells] at hwc⊢
      rw [hwc]
      have HU:=Lib.hid (HU.out.trans T fun b hb e=>by have:=HQ8.out;omega)
      have A8:=Lib.hid GG
      have A9:=Lib.hid (T.heap A9.out fun e=>HNE.out e.symm)
      have HP:=Lib.hid (HP.out.touch T fun b hb _=>by subst hb;exact ⟨by have:=O8.out;omega,hN⟩)
      clear T GG hN hwc
      first|refine ⟨⟨(let h:=HC.out _ (HI.out.2.t.trans HU.out fun _ _ f=>f);⟨h.1,h.2.1⟩),(let h:=HC.out _ (HI.out.2.t.trans HU.out fun _ _ f=>f);⟨h.1,h.2.1⟩)⟩,?_⟩|refine ⟨(let h:=HC.out _ (HI.out.2.t.trans HU.out fun _ _ f=>f);⟨h.1,h.2.1⟩),?_⟩
      refine wpList_store_mid rfl 68 _ _ rfl q9 0 #[.int .i64 kd,.int .i64 (LN:Nat),.bool sh,.bool bk,.slice ua un uc] rfl rfl (by have h:=there_row A9.out;exact h) (by kernel_rfl) (by simp [Value.oneCell']) ?_
      have T:=set5_touch wc q9 (.int .i64 kd) (.int .i64 (LN:Nat)) (.bool sh) (.bool bk) (.slice ua un uc)
      have GG:=set5_row A9.out (.int .i64 kd) (.int .i64 (LN:Nat)) (.bool sh) (.bool bk) (.slice ua un uc)
      have hN:NumBlk wc q9:=⟨_,_,_,A9.out,by decide,by decide,rfl⟩
      obtain ⟨wc,hwc⟩: ∃W,set5 wc q9 (.int .i64 kd) (.int .i64 (LN:Nat)) (.bool sh) (.bool bk) (.slice ua un uc)=W:=⟨_,rfl⟩
      rw [hwc] at T GG
      unfold set5 at hwc
      simp only [World.setCells] at hwc⊢
      rw [hwc]
      have HU:=Lib.hid (HU.out.trans T fun b hb e=>by have:=HQ9.out;omega)
      have A9:=Lib.hid GG
      have A8:=Lib.hid (T.heap A8.out fun e=>HNE.out e)
      have HP:=Lib.hid (HP.out.touch T fun b hb _=>by subst hb;exact ⟨by have:=O9.out;omega,hN⟩)
      clear T GG hN hwc
      first|refine ⟨⟨(let h:=HC.out _ (HI.out.2.t.trans HU.out fun _ _ f=>f);⟨h.1,h.2.1⟩),(let h:=HC.out _ (HI.out.2.t.trans HU.out fun _ _ f=>f);⟨h.1,h.2.1⟩)⟩,?_⟩|refine ⟨(let h:=HC.out _ (HI.out.2.t.trans HU.out fun _ _ f=>f);⟨h.1,h.2.1⟩),?_⟩
      go_wp2_with (fail)
      go_meet
      exact ⟨q8,q9,⟨kd,LN,sh,bk,tb,ua,un,uc,o2⟩,lo,hi,rfl,rfl,rfl,A8.out,A9.out,rfl,HP.out,HLO.out,HU.out⟩
     ·have T:=(Ux.Touch.refl (fun _=>False) wc).alloc (.cells #[.int .i64 0,.int .i64 0,.bool false,.bool false,.pointer none] 66)
      have GG:=heap_alloc_new wc (.cells #[.int .i64 0,.int .i64 0,.bool false,.bool false,.pointer none] 66)
      obtain ⟨q8,hq8⟩: ∃q,wc.heap.size=q:=⟨_,rfl⟩
      rw [hq8] at GG
      try have HNE:=Lib.hid (show q8≠q9 by have:=Ux.lt_of_heap A9.out;omega)
      try have O8:=Lib.hid (show hi≤q8 by have:=HHI.out;omega)
      have HQ8:=Lib.hid (show wr.heap.size≤q8 by rw [←hq8];exact HU.out.size)
      obtain ⟨wc,hwc⟩: ∃W,wc.alloc (.cells #[.int .i64 0,.int .i64 0,.bool false,.bool false,.pointer none] 66)=W:=⟨_,rfl⟩
      rw [hwc] at T GG
      have HU:=Lib.hid (HU.out.trans T fun _ _ f=>f)
      try have A9:=Lib.hid (T.heap A9.out fun f=>f)
      try have HP:=Lib.hid (HP.out.calm T)
      try have HHI:=Lib.hid (Nat.le_trans HHI.out T.size)
      have A8:=Lib.hid GG
      clear T GG
      go_wp2_with (fail)
      clear hwc hq8
      first|refine ⟨⟨(let h:=HC.out _ (HI.out.2.t.trans HU.out fun _ _ f=>f);⟨h.1,h.2.1⟩),(let h:=HC.out _ (HI.out.2.t.trans HU.out fun _ _ f=>f);⟨h.1,h.2.1⟩)⟩,?_⟩|refine ⟨(let h:=HC.out _ (HI.out.2.t.trans HU.out fun _ _ f=>f);⟨h.1,h.2.1⟩),?_⟩
      go_wp2_with (go_at_call 26;fail)
      have hmk:=HM.out o0 o1 wc (HI.out.2.t.trans HU.out fun _ _ f=>f)
      obtain ⟨lo,hlo⟩: ∃lo,wc.heap.size=lo:=⟨_,rfl⟩
      rw [hlo] at hmk
      refine hmk.mono ?_
      have HLO:=Lib.hid (show wr.heap.size≤lo by rw [←hlo];exact HU.out.size)
      try have O8:=Lib.hid (show q8<lo by rw [←hlo];exact Ux.lt_of_heap A8.out)
      try have O9:=Lib.hid (show q9<lo by rw [←hlo];exact Ux.lt_of_heap A9.out)
      clear hmk hlo
      rintro e wc ⟨kd,LN,sh,bk,tb,u,rfl,hM,T⟩
      obtain ⟨ua,un,uc,rfl⟩:=hM.shape
      unfold cV rcV
      have HP:=Lib.hid (PIm.of hM o2)
      have HU:=Lib.hid (HU.out.trans T fun _ _ f=>f)
      try have A8:=Lib.hid (T.heap A8.out fun f=>f)
      try have A9:=Lib.hid (T.heap A9.out fun f=>f)
      have HHI:=Lib.hid (Nat.le_refl wc.heap.size)
      obtain ⟨hi,hhi⟩: ∃hi,wc.heap.size=hi:=⟨_,rfl⟩
      rw [hhi] at HP HHI
      have HHI:=Lib.hid (show hi≤wc.heap.size by omega)
      clear hM T hhi
      go_wp2_with (fail)
      first|refine ⟨⟨(let h:=HC.out _ (HI.out.2.t.trans HU.out fun _ _ f=>f);⟨h.1,h.2.1⟩),(let h:=HC.out _ (HI.out.2.t.trans HU.out fun _ _ f=>f);⟨h.1,h.2.1⟩)⟩,?_⟩|refine ⟨(let h:=HC.out _ (HI.out.2.t.trans HU.out fun _ _ f=>f);⟨h.1,h.2.1⟩),?_⟩
      repeat ((with_reducible refine Ux.qg ?_);refine Ux.qu ?_)
      refine wpList_store_mid rfl 66 _ _ rfl q8 0 #[.int .i64 kd,.int .i64 (LN:Nat),.bool sh,.bool bk,.pointer tb] rfl rfl (by have h:=there_row A8.out;exact h) (by kernel_rfl) (by simp [Value.oneCell']) ?_
      have T:=set5_touch wc q8 (.int .i64 kd) (.int .i64 (LN:Nat)) (.bool sh) (.bool bk) (.pointer tb)
      have GG:=set5_row A8.out (.int .i64 kd) (.int .i64 (LN:Nat)) (.bool sh) (.bool bk) (.pointer tb)
      have hN:NumBlk wc q8:=⟨_,_,_,A8.out,by decide,by decide,rfl⟩
      obtain ⟨wc,hwc⟩: ∃W,set5 wc q8 (.int .i64 kd) (.int .i64 (LN:Nat)) (.bool sh) (.bool bk) (.pointer tb)=W:=⟨_,rfl⟩
      rw [hwc] at T GG
      unfold set5 at hwc
      simp only [World.setCells] at hwc⊢
      rw [hwc]
      have HU:=Lib.hid (HU.out.trans T fun b hb e=>by have:=HQ8.out;omega)
      have A8:=Lib.hid GG
      have A9:=Lib.hid (T.heap A9.out fun e=>HNE.out e.symm)
      have HP:=Lib.hid (HP.out.touch T fun b hb _=>by subst hb;exact ⟨by have:=O8.out;omega,hN⟩)
      clear T GG hN hwc
      first|refine ⟨⟨(let h:=HC.out _ (HI.out.2.t.trans HU.out fun _ _ f=>f);⟨h.1,h.2.1⟩),(let h:=HC.out _ (HI.out.2.t.trans HU.out fun _ _ f=>f);⟨h.1,h.2.1⟩)⟩,?_⟩|refine ⟨(let h:=HC.out _ (HI.out.2.t.trans HU.out fun _ _ f=>f);⟨h.1,h.2.1⟩),?_⟩
      refine wpList_store_mid rfl 68 _ _ rfl q9 0 #[.int .i64 kd,.int .i64 (LN:Nat),.bool sh,.bool bk,.slice ua un uc] rfl rfl (by have h:=there_row A9.out;exact h) (by kernel_rfl) (by simp [Value.oneCell']) ?_
      have T:=set5_touch wc q9 (.int .i64 kd) (.int .i64 (LN:Nat)) (.bool sh) (.bool bk) (.slice ua un uc)
      have GG:=set5_row A9.out (.int .i64 kd) (.int .i64 (LN:Nat)) (.bool sh) (.bool bk) (.slice ua un uc)
      have hN:NumBlk wc q9:=⟨_,_,_,A9.out,by decide,by decide,rfl⟩
      obtain ⟨wc,hwc⟩: ∃W,set5 wc q9 (.int .i64 kd) (.int .i64 (LN:Nat)) (.bool sh) (.bool bk) (.slice ua un uc)=W:=⟨_,rfl⟩
      rw [hwc] at T GG
      unfold set5 at hwc
      simp only [World.setCells] at hwc⊢
      rw [hwc]
      have HU:=Lib.hid (HU.out.trans T fun b hb e=>by have:=HQ9.out;omega)
      have A9:=Lib.hid GG
      have A8:=Lib.hid (T.heap A8.out fun e=>HNE.out e)
      have HP:=Lib.hid (HP.out.touch T fun b hb _=>by subst hb;exact ⟨by have:=O9.out;omega,hN⟩)
      clear T GG hN hwc
      first|refine ⟨⟨(let h:=HC.out _ (HI.out.2.t.trans HU.out fun _ _ f=>f);⟨h.1,h.2.1⟩),(let h:=HC.out _ (HI.out.2.t.trans HU.out fun _ _ f=>f);⟨h.1,h.2.1⟩)⟩,?_⟩|refine ⟨(let h:=HC.out _ (HI.out.2.t.trans HU.out fun _ _ f=>f);⟨h.1,h.2.1⟩),?_⟩
      go_wp2_with (fail)
      go_meet
      exact ⟨q8,q9,⟨kd,LN,sh,bk,tb,ua,un,uc,o2⟩,lo,hi,rfl,rfl,rfl,A8.out,A9.out,rfl,HP.out,HLO.out,HU.out⟩
   obtain ⟨q8,q9,p,lo,hi,rfl,rfl,rfl,A8,A9,hd,hP,hlo,hU⟩:=hcut
   obtain ⟨kd,LN,sh,bk,tb,ua,un,uc,d⟩:=p
   dsimp only at A8 A9 hd
   subst hd
   obtain ⟨w1,hw1⟩: ∃W,wc.drew=W:=⟨_,rfl⟩
   have T1:Ux.Touch (fun _=>False) wc w1:=by rw [←hw1];exact (Ux.Touch.refl _ _).drew
   have hL:=HI.out.2.calm (hU.trans T1 fun _ _ f=>f)
   have hP:=hP.calm T1
   have A8:=T1.heap A8 fun f=>f
   have A9:=T1.heap A9 fun f=>f
   have hps:=HI.out.1
   have hva: ∀b,(Value.slice a5 i c5).ownBlock=some b→b<lo:=fun b hb=>by obtain ⟨c1,e1,_⟩:=HI.out.2.a.kind hb;have:=Ux.lt_of_heap e1;omega
   have hvb: ∀b,(Value.slice a6 i c6).ownBlock=some b→b<lo:=fun b hb=>by obtain ⟨c1,e1,_⟩:=HI.out.2.b.kind hb;have:=Ux.lt_of_heap e1;omega
   obtain ⟨r2,w2,run2,G2,t2,o2⟩:=appK hL.a (by have:=HX.out;omega) hL.t.size ⟨kd,LN,sh,bk,tb,ua,un,uc,d⟩
   have run2': ∀ty,(Builtin.append_ #[77,77] ty #[.slice a5 i c5,.slice (some ⟨w1.heap.size,0,none⟩) 1 1]).run Tryz.prog (w1.alloc (.cells #[.int .i64 kd,.int .i64 (LN:Nat),.bool sh,.bool bk,.pointer tb,.bool d] 91))= .ok r2 w2:=run2
   have hb2:PGrow w2 w.heap.size 86 rcells (.slice a6 i c6) ps:=hL.b.touch t2 fun b hb hv=>by
    obtain ⟨c1,e1,_⟩:=hL.a.kind hv
    obtain ⟨c2,e2,_⟩:=hL.b.kind hb
    rw [e1] at e2
    cases e2
   have A92:=t2.heap A9 fun hv=>by
    obtain ⟨c1,e1,_⟩:=hL.a.kind hv
    rw [e1] at A9
    cases A9
   have A82:=t2.heap A8 fun hv=>by
    obtain ⟨c1,e1,_⟩:=hL.a.kind hv
    rw [e1] at A8
    cases A8
   have hL2:Ux.Touch (fun _=>False) w w2:=hL.t.trans t2 fun b hb hv=>by have:=hL.a.2 b hv;omega
   obtain ⟨w3,hw3⟩: ∃W,w2.drew=W:=⟨_,rfl⟩
   have T3:Ux.Touch (fun _=>False) w2 w3:=by rw [←hw3];exact (Ux.Touch.refl _ _).drew
   have A93:=T3.heap A92 fun f=>f
   have hL3:=hL2.trans T3 fun _ _ f=>f
   obtain ⟨r4,w4,run4,G4,t4,o4⟩:=appRP (hb2.touch T3 fun _ _ f=>f) (by have:=HX.out;omega) (Nat.le_trans hL2.size T3.size) ⟨kd,LN,sh,bk,tb,ua,un,uc,d⟩
   have run4': ∀ty,(Builtin.append_ #[78,78] ty #[.slice a6 i c6,.slice (some ⟨w3.heap.size,0,none⟩) 1 1]).run Tryz.prog (w3.alloc (.cells #[.int .i64 kd,.int .i64 (LN:Nat),.bool sh,.bool bk,.slice ua un uc,.bool d] 86))= .ok r4 w4:=run4
   have hstep:=hL.step hP hva hvb G2 t2 o2 G4 ((T3.mono fun _ _ f=>f.elim).trans t4 fun _ _ h=>h) (o4.imp id fun ⟨g,e,hg⟩=>⟨g,e,Nat.le_trans T3.size hg⟩)
   obtain ⟨a2',c2',hr2⟩:=G2.is
   obtain ⟨a4',c4',hr4⟩:=G4.is
   have hl1:(ps++ [(⟨kd,LN,sh,bk,tb,ua,un,uc,d⟩:PI)]).length=i+1:=by rw [List.length_append];simp [hps]
   rw [hl1] at hr2 hr4
   subst hr2 hr4
   have HS:=Lib.hid (And.intro run2' (And.intro run4' (And.intro hstep hl1)))
   have HF8:=Lib.hid fun W (T:Ux.Touch (fun _=>False) w1 W)=>show (W.cell? ⟨q8,0,none⟩=some (.int .i64 kd)∧W.cell? ⟨q8,1,none⟩=some (.int .i64 (LN:Nat))∧W.cell? ⟨q8,2,none⟩=some (.bool sh)∧W.cell? ⟨q8,3,none⟩=some (.bool bk)∧W.cell? ⟨q8,4,none⟩=some (.pointer tb))∧W.cell? ⟨b,f+i*3+2,none⟩=some (.bool d) from
    ⟨CAt.of (T.heap A8 fun f=>f),(HC.out W (hL.t.trans T fun _ _ f=>f)).2.2⟩
   have HF9:=Lib.hid fun W (T:Ux.Touch (fun _=>False) w3 W)=>show (W.cell? ⟨q9,0,none⟩=some (.int .i64 kd)∧W.cell? ⟨q9,1,none⟩=some (.int .i64 (LN:Nat))∧W.cell? ⟨q9,2,none⟩=some (.bool sh)∧W.cell? ⟨q9,3,none⟩=some (.bool bk)∧W.cell? ⟨q9,4,none⟩=some (.slice ua un uc))∧W.cell? ⟨b,f+i*3+2,none⟩=some (.bool d) from
    ⟨RAtG.of (T.heap A93 fun f=>f),(HC.out W (hL3.trans T fun _ _ f=>f)).2.2⟩
   have HF82:Hid ((w2.cell? ⟨q8,0,none⟩=some (.int .i64 kd)∧w2.cell? ⟨q8,1,none⟩=some (.int .i64 (LN:Nat))∧w2.cell? ⟨q8,2,none⟩=some (.bool sh)∧w2.cell? ⟨q8,3,none⟩=some (.bool bk)∧w2.cell? ⟨q8,4,none⟩=some (.pointer tb))∧w2.cell? ⟨b,f+i*3+2,none⟩=some (.bool d)):=Lib.hid ⟨CAt.of A82,(HC.out w2 hL2).2.2⟩
   have HF94:Hid ((w4.cell? ⟨q9,0,none⟩=some (.int .i64 kd)∧w4.cell? ⟨q9,1,none⟩=some (.int .i64 (LN:Nat))∧w4.cell? ⟨q9,2,none⟩=some (.bool sh)∧w4.cell? ⟨q9,3,none⟩=some (.bool bk)∧w4.cell? ⟨q9,4,none⟩=some (.slice ua un uc))∧w4.cell? ⟨b,f+i*3+2,none⟩=some (.bool d)):=Lib.hid ⟨RAtG.of (t4.heap A93 fun hv=>by
    obtain ⟨c1,e1,_⟩:=(hb2.touch T3 fun _ _ f=>f).kind hv
    rw [e1] at A93
    cases A93),(HC.out w4 hstep.t).2.2⟩
   have HW:=Lib.hid (And.intro hw1 hw3)
   have hwcx:=(HF8.out w1 (Ux.Touch.refl _ _))
   have HQ8:Hid ((wc.cell? ⟨q8,0,none⟩=some (.int .i64 kd)∧wc.cell? ⟨q8,1,none⟩=some (.int .i64 (LN:Nat))∧wc.cell? ⟨q8,2,none⟩=some (.bool sh)∧wc.cell? ⟨q8,3,none⟩=some (.bool bk)∧wc.cell? ⟨q8,4,none⟩=some (.pointer tb))∧wc.cell? ⟨b,f+i*3+2,none⟩=some (.bool d)):=Lib.hid (by rw [←hw1] at hwcx;simpa only [World.cell?_drew] using hwcx)
   have hwcy:=(HF9.out w3 (Ux.Touch.refl _ _))
   have HQ9:Hid ((w2.cell? ⟨q9,0,none⟩=some (.int .i64 kd)∧w2.cell? ⟨q9,1,none⟩=some (.int .i64 (LN:Nat))∧w2.cell? ⟨q9,2,none⟩=some (.bool sh)∧w2.cell? ⟨q9,3,none⟩=some (.bool bk)∧w2.cell? ⟨q9,4,none⟩=some (.slice ua un uc))∧w2.cell? ⟨b,f+i*3+2,none⟩=some (.bool d)):=Lib.hid (by rw [←hw3] at hwcy;simpa only [World.cell?_drew] using hwcy)
   clear A8 A9 hP hlo hU T1 hL hps hva hvb run2 G2 t2 o2 run2' hb2 A92 hL2 T3 A93 hL3 run4 G4 t4 o4 run4' hstep hl1 hw1 hw3 hwcx hwcy
   go_wp2_with (fail)
   obtain ⟨⟨x0,x1,x2,x3,x4⟩,x5⟩:=HQ8.out
   refine Ux.wpr (fun _ w'=>(w'.cell? ⟨q8,0,none⟩=some (.int .i64 kd)∧w'.cell? ⟨q8,1,none⟩=some (.int .i64 (LN:Nat))∧w'.cell? ⟨q8,2,none⟩=some (.bool sh)∧w'.cell? ⟨q8,3,none⟩=some (.bool bk)∧w'.cell? ⟨q8,4,none⟩=some (.pointer tb))∧w'.cell? ⟨b,f+i*3+2,none⟩=some (.bool d)) (.q [0,2,3,4,5] (.h false [1,6] (.q [7] (.e 8 true false (.e 9 true false (.line [10])))))) ?_;repeat ((with_reducible refine Ux.qg ?_);refine Ux.qu ?_)
   clear x0 x1 x2 x3 x4 x5
   rw [HW.out.1]
   go_wp2_with (fail)
   refine ⟨HF8.out _ ((Ux.Touch.refl _ _).alloc _),?_⟩
   go_wp2_with (at_builtin;refine Ux.wpList_app (v1:= .slice a5 i c5) (x1:= .slice (some ⟨_,0,none⟩) 1 1) rfl _ _ _ _ rfl rfl rfl (HS.out.1 _) ?_)
   refine ⟨HF82.out,?_⟩
   go_wp2_with (fail)
   obtain ⟨⟨x0,x1,x2,x3,x4⟩,x5⟩:=HQ9.out
   refine Ux.wpr (fun _ w'=>(w'.cell? ⟨q9,0,none⟩=some (.int .i64 kd)∧w'.cell? ⟨q9,1,none⟩=some (.int .i64 (LN:Nat))∧w'.cell? ⟨q9,2,none⟩=some (.bool sh)∧w'.cell? ⟨q9,3,none⟩=some (.bool bk)∧w'.cell? ⟨q9,4,none⟩=some (.slice ua un uc))∧w'.cell? ⟨b,f+i*3+2,none⟩=some (.bool d)) (.q [0,2,3,4,5] (.h false [1,6] (.q [7] (.e 8 true false (.e 9 true false (.line [10])))))) ?_;repeat ((with_reducible refine Ux.qg ?_);refine Ux.qu ?_)
   clear x0 x1 x2 x3 x4 x5
   rw [HW.out.2]
   go_wp2_with (fail)
   refine ⟨HF9.out _ ((Ux.Touch.refl _ _).alloc _),?_⟩
   go_wp2_with (at_builtin;refine Ux.wpList_app (v1:= .slice a6 i c6) (x1:= .slice (some ⟨_,0,none⟩) 1 1) rfl _ _ _ _ rfl rfl rfl (HS.out.2.1 _) ?_)
   refine ⟨HF94.out,?_⟩
   go_wp2
   go_roundg g'
   case measure=>have:=HX.out.2;omega
   case rel=>exact ⟨i+1,ps++ [⟨kd,LN,sh,bk,tb,ua,un,uc,d⟩],rfl,by have:=HX.out;omega,by have:=HX.out;omega,⟨_,_,rfl⟩,⟨_,_,rfl⟩,Lib.hid ⟨HS.out.2.2.2,HS.out.2.2.1⟩⟩
  ·have HE:Hid (PRow wr kcells (.slice a5 i c5) ps∧PRow wr rcells (.slice a6 i c6) ps∧ps.length≤4∧(∀p∈ps,PIok wr 0 p)∧Ux.Touch (fun _=>False) w wr∧Ux.SCap (.slice a5 i c5)∧Ux.SCap (.slice a6 i c6)):=Lib.hid ⟨HI.out.2.a.row (fun _=>rfl),HI.out.2.b.row (fun _=>rfl),by have:=HI.out.1;omega,fun p hp=>let ⟨_,_,h,_⟩:=HI.out.2.m p hp;h.is,HI.out.2.t,HI.out.2.a.cap,HI.out.2.b.cap⟩
   have hcs:(¬(i:Int)<n)∨((i:Int)<n∧¬(i:Int)<4):=by omega
   clear hlt hig hin
   rcases hcs with q1|⟨q1,q2⟩
   all_goals
    go_wp2
    go_returns
    exact ⟨_,_,rfl,ps,HE.out⟩
end Go.Proofs.YtfccjaboicpohaaGreatDoor
namespace Go.Proofs.YtfccjaboicpohaaGreatDoor
open Go.RowKit
open Ux (Ent rootE rootT okT)
set_option maxHeartbeats 8000000 in
set_option maxRecDepth 100000 in
theorem rlow_ (v vp:Value) (os:List (Int×Int×ByteArray)) (ps:List PI) (lo:Nat) (w:World) (hV:VView w v os) (hP:PRow w rcells vp ps) (ho:os.length<10) (hp:ps.length≤4) (hs: ∀o∈os,o.2.2.size<200) (hM: ∀p∈ps,PIok w lo p):
 Calls Tryz.prog 41 #[v,vp] w fun e w'=>e= .returned (.string ⟨(lowL (os.zip ps)).toArray⟩)∧Ux.Touch (fun _=>False) w w':=by
 obtain ⟨a,c,rfl,hl,hc⟩:=hV
 obtain ⟨a',c',rfl,hc'⟩:=hP
 obtain ⟨n,hn⟩: ∃n,os.length=n:=⟨_,rfl⟩
 obtain ⟨n',hn'⟩: ∃n,ps.length=n:=⟨_,rfl⟩
 have HZ:=Lib.hid fun i=>lowL_zip_len hp hs hM i
 have HH:=Lib.hid (And.intro hc (And.intro hc' (And.intro hn (And.intro hn' (And.intro hs hM)))))
 rw [hn] at ho⊢
 rw [hn'] at hp⊢
 have n0:(n:Int)<10:=by omega
 have n1:(n':Int)≤4:=by omega
 obtain ⟨k,hk⟩: ∃k,min n n'=k:=⟨_,rfl⟩
 have HB:=Lib.hid hk
 clear hc hc' hn hn' hs hM hl hp ho hk
 go_enter Tryz.func41,Tryz.ntmps41
 go_wp2_with (fail)
 go_loopg [5,6] k (fun g s5 s6 wr=> ∃(i:Nat) (L:ByteArray),s5= .string L∧s6= .int .i64 i∧i+g=k∧Hid (L.data.toList=lowL ((os.zip ps).take i)∧Ux.Touch (fun _=>False) w wr))
 case atStart=>exact ⟨0,⟨#[]⟩,rfl,rfl,by omega,Lib.hid ⟨by simp [lowL],Ux.Touch.refl _ _⟩⟩
 case round=>
  obtain ⟨i,L,rfl,rfl,hig,HI⟩:=hrel
  have i0:(0:Int)≤i:=by omega
  have hk:=HB.out
  by_cases hlt:i<k
  ·obtain ⟨g',rfl⟩: ∃g',gk=g'+1:=⟨gk-1,by omega⟩
   have i2:(i:Int)<n:=by omega
   have i3:(i:Int)<n':=by omega
   have hlen:=HH.out.2.2.1
   have hlen':=HH.out.2.2.2.1
   obtain ⟨o,hoo⟩: ∃o,os[i]? =some o:=⟨_,List.getElem?_eq_getElem (by omega)⟩
   obtain ⟨p,hpp⟩: ∃p,ps[i]? =some p:=⟨_,List.getElem?_eq_getElem (by omega)⟩
   obtain ⟨o1,o2,_,b,f,rfl,hb,c0,c1,c2⟩:=HH.out.1 i o hoo
   obtain ⟨b',f',rfl,hb',cc⟩:=HH.out.2.1 i p hpp
   have hz:(os.zip ps)[i]? =some (o,p):=by rw [List.getElem?_zip_eq_some];exact ⟨hoo,hpp⟩
   have hom:=HH.out.2.2.2.2.1 o (List.mem_of_getElem? hoo)
   have hpm:=HH.out.2.2.2.2.2 p (List.mem_of_getElem? hpp)
   have HF:=Lib.hid fun W (T:Ux.Touch (fun _=>False) w W)=>show (W.cell? ⟨b,f+i*3,none⟩=some (.int .i64 o.1)∧W.cell? ⟨b,f+i*3+1,none⟩=some (.int .i64 o.2.1)∧W.cell? ⟨b,f+i*3+2,none⟩=some (.string o.2.2))∧
    (W.cell? ⟨b',f'+i*6,none⟩=some (.int .i64 p.kd)∧W.cell? ⟨b',f'+i*6+1,none⟩=some (.int .i64 (p.LN:Nat))∧W.cell? ⟨b',f'+i*6+2,none⟩=some (.bool p.sh)∧W.cell? ⟨b',f'+i*6+3,none⟩=some (.bool p.bk)∧W.cell? ⟨b',f'+i*6+4,none⟩=some (.slice p.ua p.un p.uc)∧W.cell? ⟨b',f'+i*6+5,none⟩=some (.bool p.d)) from
    ⟨⟨T.cell c0 (fun f=>f),T.cell c1 (fun f=>f),T.cell c2 (fun f=>f)⟩,T.cell (cc 0 _ rfl) (fun f=>f),T.cell (cc 1 _ rfl) (fun f=>f),T.cell (cc 2 _ rfl) (fun f=>f),T.cell (cc 3 _ rfl) (fun f=>f),T.cell (cc 4 _ rfl) (fun f=>f),T.cell (cc 5 _ rfl) (fun f=>f)⟩
   have HV:=Lib.hid fun W (T:Ux.Touch (fun _=>False) w W)=>rval_ p o lo W o2 hom (hpm.touch T)
   have hsz:=pvB_size hpm o hom
   have htk:=lowL_take hz
   have hll:=HZ.out i
   rw [←HI.out.1] at hll htk
   dsimp only at htk
   obtain ⟨S,hS⟩: ∃S,pvB p o=S:=⟨_,rfl⟩
   rw [hS] at HV hsz htk
   have hLs:L.data.toList.length=L.size:=by simp
   have q: ¬9223372036854775807<L.size+S.size:=by omega
   have HQ:=Lib.hid (And.intro htk (And.intro hlt hig))
   obtain ⟨v0,v1,v2⟩:=o
   obtain ⟨q0,q1,q2,q3,q4,q5,q6,q7,q8⟩:=p
   dsimp only at HF HV
   obtain ⟨⟨x0,x1,x2⟩,y0,y1,y2,y3,y4,y5⟩:=HF.out wr HI.out.2
   clear hlen hlen' hoo hpp o1 o2 hb c0 c1 c2 hb' cc hz hom hpm hS hlt hig hk hsz htk hll hLs
   go_upto_region 5 with (fail)
   refine Ux.wpr (fun _ w'=>(w'.cell? ⟨b,f+i*3,none⟩=some (.int .i64 v0)∧w'.cell? ⟨b,f+i*3+1,none⟩=some (.int .i64 v1)∧w'.cell? ⟨b,f+i*3+2,none⟩=some (.string v2))∧(w'.cell? ⟨b',f'+i*6,none⟩=some (.int .i64 q0)∧w'.cell? ⟨b',f'+i*6+1,none⟩=some (.int .i64 (q1:Nat))∧w'.cell? ⟨b',f'+i*6+2,none⟩=some (.bool q2)∧w'.cell? ⟨b',f'+i*6+3,none⟩=some (.bool q3)∧w'.cell? ⟨b',f'+i*6+4,none⟩=some (.slice q5 q6 q7)∧w'.cell? ⟨b',f'+i*6+5,none⟩=some (.bool q8))) (.q [0,1,2,3,5,6,7] (.h false [4,8] (.e 9 false false (.q [10] (.line [11]))))) ?_;repeat ((with_reducible refine Ux.qg ?_);refine Ux.qu ?_)
   go_wp2_with (go_at_call 37;fail)
   refine (HV.out _ (HI.out.2.trans (Ux.Touch.refl _ wr).drew fun _ _ f=>f)).mono ?_
   rintro e w4 ⟨rfl,T4⟩
   have H4:=Lib.hid (HI.out.2.trans ((Ux.Touch.refl (fun _=>False) wr).drew.trans T4 fun _ _ f=>f) fun _ _ f=>f)
   clear T4 x0 x1 x2 y0 y1 y2 y3 y4 y5
   go_wp2_with (fail)
   repeat ((with_reducible refine Ux.qg ?_);refine Ux.qu ?_)
   go_wp2
   go_roundg g'
   case measure=>have:=HQ.out.2.2;omega
   case rel=>
    refine ⟨i+1,_,rfl,rfl,by have:=HQ.out.2.2;omega,Lib.hid ⟨?_,H4.out⟩⟩
    rw [HQ.out.1]
    simp
  ·obtain rfl:i=k:=by omega
   have hb:=HI.out.1
   rw [List.take_of_length_le (by rw [List.length_zip,HH.out.2.2.1,HH.out.2.2.2.1];omega)] at hb
   have hb':L=⟨(lowL (os.zip ps)).toArray⟩:=Ux.txt_of hb
   have HE:=Lib.hid hb'
   have hcs:(¬(i:Int)<n)∨((i:Int)<n∧¬(i:Int)<n'):=by omega
   clear hb hb' hlt hk hig
   rcases hcs with q1|⟨q1,q2⟩
   all_goals
    go_wp2
    go_returns
    exact ⟨by rw [←HE.out];rfl,HI.out.2⟩
def keyRow (z:List ((Int×Int×ByteArray)×PI)) (row:Int):List UInt8:=lowL z++5::num8 (row+9223372036854775808).toNat
theorem key_cat (LB N:ByteArray) (hL:LB.size≤8000040) (hN:N.size=8):(¬9223372036854775807<LB.size+1)∧(¬9223372036854775807<LB.size+1+N.size)∧((LB++⟨#[5]⟩)++N)=⟨(LB.data.toList++5::N.data.toList).toArray⟩:=
 ⟨by omega,by omega,ByteArray.ext (by rw [←Array.toList_inj];simp)⟩
set_option maxHeartbeats 8000000 in
set_option maxRecDepth 100000 in
theorem rkey14_ (v vp:Value) (os:List (Int×Int×ByteArray)) (ps:List PI) (lo:Nat) (row:Int) (w:World) (hr: -9223372036854775808≤row∧row≤9223372036854775807) (hV:VView w v os) (hP:PRow w rcells vp ps) (ho:os.length<10) (hp:ps.length≤4) (hs: ∀o∈os,o.2.2.size<200) (hM: ∀p∈ps,PIok w lo p):
 Calls Tryz.prog 39 #[v,vp,.int .i64 row] w fun e w'=>e= .returned (.string ⟨(keyRow (os.zip ps) row).toArray⟩)∧Ux.Touch (fun _=>False) w w':=by
 have c1:=rlow_ v vp os ps lo w hV hP ho hp hs hM
 have hz:=lowL_zip_len hp hs hM 4
 rw [List.take_of_length_le (by rw [List.length_zip];omega)] at hz
 obtain ⟨LB,hLB⟩: ∃LB:ByteArray,(⟨(lowL (os.zip ps)).toArray⟩:ByteArray)=LB:=⟨_,rfl⟩
 have c2:=fun W=>eight_ row hr W
 obtain ⟨N,hN⟩: ∃N:ByteArray,(⟨(num8 (row+9223372036854775808).toNat).toArray⟩:ByteArray)=N:=⟨_,rfl⟩
 rw [hLB] at c1
 rw [hN] at c2
 obtain ⟨q1,q2,q3⟩:=key_cat LB N (by rw [←hLB];show (lowL (os.zip ps)).toArray.size≤_;rw [List.size_toArray];exact hz) (by rw [←hN];rfl)
 have HE:=Lib.hid (show (LB++⟨#[5]⟩)++N=⟨(keyRow (os.zip ps) row).toArray⟩ by rw [q3,←hLB,←hN];rfl)
 have C1:=Lib.hid c1
 have C2:=Lib.hid c2
 obtain ⟨a,c,rfl,-⟩:=hV
 obtain ⟨a',c',rfl,-⟩:=hP
 clear c1 c2 hz hLB hN q3 hr ho hp hs hM
 go_enter Tryz.func39,Tryz.ntmps39
 go_wp2_with (go_at_call 41;fail)
 refine C1.out.mono ?_
 rintro e w1 ⟨rfl,T1⟩
 have H1:=Lib.hid T1
 clear T1
 go_wp2_with (go_at_call 88;fail)
 refine (C2.out _).mono ?_
 rintro e w2 ⟨rfl,T2⟩
 have H2:=Lib.hid (H1.out.trans T2 fun _ _ f=>f)
 clear T2
 go_wp2
 go_returns
 exact ⟨by rw [←HE.out];rfl,H2.out⟩
set_option maxHeartbeats 8000000 in
set_option maxRecDepth 100000 in
theorem kkey14_ (v vp:Value) (os:List (Int×Int×ByteArray)) (ps:List PI) (lo:Nat) (m row:Int) (w:World) (hr: -9223372036854775808≤row∧row≤9223372036854775807) (hV:VView w v os) (hP:PRow w kcells vp ps) (ho:os.length<10) (hp:ps.length≤4) (hs: ∀o∈os,o.2.2.size<200) (hM: ∀p∈ps,PIok w lo p)
 (hT:Tabs w) (hm:w.cell? ⟨3,0,none⟩=some (.int .i64 m)):
 Calls Tryz.prog 35 #[v,vp,.int .i64 row] w fun e w'=>e= .returned (.string ⟨(keyRow (os.zip ps) row).toArray⟩)∧Ux.Touch (fun _=>False) w w':=by
 have C1:=Lib.hid fun W (T:Ux.Touch (fun _=>False) w W)=>klow_ v vp os ps lo m W (hV.touch T) (hP.touch T) ho hp hs (fun p h=>(hM p h).touch T) (hT.touch T) (T.cell hm fun f=>f)
 have HM:=Lib.hid hm
 have hz:=lowL_zip_len hp hs hM 4
 rw [List.take_of_length_le (by rw [List.length_zip];omega)] at hz
 obtain ⟨LB,hLB⟩: ∃LB:ByteArray,(⟨(lowL (os.zip ps)).toArray⟩:ByteArray)=LB:=⟨_,rfl⟩
 have C2:=Lib.hid fun W=>number_ row hr W
 obtain ⟨N,hN⟩: ∃N:ByteArray,(⟨(num8 (row+9223372036854775808).toNat).toArray⟩:ByteArray)=N:=⟨_,rfl⟩
 rw [hLB] at C1
 rw [hN] at C2
 obtain ⟨q1,q2,q3⟩:=key_cat LB N (by rw [←hLB];show (lowL (os.zip ps)).toArray.size≤_;rw [List.size_toArray];exact hz) (by rw [←hN];rfl)
 have HE:=Lib.hid (show (LB++⟨#[5]⟩)++N=⟨(keyRow (os.zip ps) row).toArray⟩ by rw [q3,←hLB,←hN];rfl)
 have cv:=Lib.hid (conv1_ 5)
 obtain ⟨a,c,rfl,-⟩:=hV
 obtain ⟨a',c',rfl,-⟩:=hP
 clear hz hLB hN q3 hr ho hp hs hM hT
 go_enter Tryz.func35,Tryz.ntmps35
 go_upto_region 1 with (fail)
 refine Ux.wpr (fun _ w'=>w'.cell? ⟨3,0,none⟩=some (.int .i64 m)) (.q [0,1,6] (.br 2 (.br 3 (.br 4 (.q [5] (.e 7 true true (.q [8] (.line [9])))) 7 (.e 4 true true (.q [5,8] (.line [9])))) 7 (.e 3 true true (.e 4 true true (.q [5,8] (.line [9]))))) 3 (.br 2 (.br 4 (.q [5] (.e 7 true true (.q [8] (.line [9])))) 7 (.e 4 true true (.q [5,8] (.line [9])))) 4 (.e 2 true true (.q [5] (.e 7 true true (.q [8] (.line [9])))))))) ?_;repeat ((with_reducible refine Ux.qg ?_);refine Ux.qu ?_)
 clear hm
 obtain ⟨wc,hwc⟩: ∃W,w.drew=W:=⟨_,rfl⟩
 rw [hwc]
 have HT:=Lib.hid (show Ux.Touch (fun _=>False) w wc by rw [←hwc];exact (Ux.Touch.refl _ _).drew)
 clear hwc
 refine ⟨?_,?_⟩
 ·go_wp2_with (go_at_call 40;fail)
  refine (C1.out _ HT.out).mono ?_
  rintro e wc ⟨rfl,T⟩
  have HT:=Lib.hid (HT.out.trans T fun _ _ f=>f)
  try have G:=Lib.hid (T.heap G.out fun f=>f)
  clear T
  go_wp2_with (fail)
  first|refine ⟨⟨HT.out.cell HM.out (fun f=>f),HT.out.cell HM.out (fun f=>f)⟩,?_⟩|refine ⟨HT.out.cell HM.out (fun f=>f),?_⟩
  refine ⟨?_,?_⟩
  ·have T:=(Ux.Touch.refl (fun _=>False) wc).alloc (.cells #[.int .u8 5] 5)
   have GG:=heap_alloc_new wc (.cells #[.int .u8 5] 5)
   obtain ⟨g,hg⟩: ∃g,wc.heap.size=g:=⟨_,rfl⟩
   rw [hg] at GG
   obtain ⟨wc,hwc⟩: ∃W,wc.alloc (.cells #[.int .u8 5] 5)=W:=⟨_,rfl⟩
   rw [hwc] at T GG
   have HT:=Lib.hid (HT.out.trans T fun _ _ f=>f)
   have G:=Lib.hid GG
   clear T GG
   go_wp2_with (fail)
   clear hwc hg
   first|refine ⟨⟨HT.out.cell HM.out (fun f=>f),HT.out.cell HM.out (fun f=>f)⟩,?_⟩|refine ⟨HT.out.cell HM.out (fun f=>f),?_⟩
   refine ⟨?_,?_⟩
   ·have hcv:=cv.out wc g G.out
    go_wp2_with (fail)
    clear hcv
    first|refine ⟨⟨HT.out.cell HM.out (fun f=>f),HT.out.cell HM.out (fun f=>f)⟩,?_⟩|refine ⟨HT.out.cell HM.out (fun f=>f),?_⟩
    repeat ((with_reducible refine Ux.qg ?_);refine Ux.qu ?_)
    go_wp2_with (go_at_call 84;fail)
    refine (C2.out _).mono ?_
    rintro e wc ⟨rfl,T⟩
    have HT:=Lib.hid (HT.out.trans T fun _ _ f=>f)
    try have G:=Lib.hid (T.heap G.out fun f=>f)
    clear T
    go_wp2_with (fail)
    first|refine ⟨⟨HT.out.cell HM.out (fun f=>f),HT.out.cell HM.out (fun f=>f)⟩,?_⟩|refine ⟨HT.out.cell HM.out (fun f=>f),?_⟩
    repeat ((with_reducible refine Ux.qg ?_);refine Ux.qu ?_)
    go_wp2
    go_returns
    exact ⟨by rw [←HE.out];rfl,HT.out⟩
   ·go_wp2_with (go_at_call 84;fail)
    refine (C2.out _).mono ?_
    rintro e wc ⟨rfl,T⟩
    have HT:=Lib.hid (HT.out.trans T fun _ _ f=>f)
    try have G:=Lib.hid (T.heap G.out fun f=>f)
    clear T
    go_wp2_with (fail)
    first|refine ⟨⟨HT.out.cell HM.out (fun f=>f),HT.out.cell HM.out (fun f=>f)⟩,?_⟩|refine ⟨HT.out.cell HM.out (fun f=>f),?_⟩
    have hcv:=cv.out wc g G.out
    go_wp2_with (fail)
    clear hcv
    first|refine ⟨⟨HT.out.cell HM.out (fun f=>f),HT.out.cell HM.out (fun f=>f)⟩,?_⟩|refine ⟨HT.out.cell HM.out (fun f=>f),?_⟩
    repeat ((with_reducible refine Ux.qg ?_);refine Ux.qu ?_)
    go_wp2
    go_returns
    exact ⟨by rw [←HE.out];rfl,HT.out⟩
  ·go_wp2_with (go_at_call 84;fail)
   refine (C2.out _).mono ?_
   rintro e wc ⟨rfl,T⟩
   have HT:=Lib.hid (HT.out.trans T fun _ _ f=>f)
   try have G:=Lib.hid (T.heap G.out fun f=>f)
   clear T
   go_wp2_with (fail)
   first|refine ⟨⟨HT.out.cell HM.out (fun f=>f),HT.out.cell HM.out (fun f=>f)⟩,?_⟩|refine ⟨HT.out.cell HM.out (fun f=>f),?_⟩
   have T:=(Ux.Touch.refl (fun _=>False) wc).alloc (.cells #[.int .u8 5] 5)
   have GG:=heap_alloc_new wc (.cells #[.int .u8 5] 5)
   obtain ⟨g,hg⟩: ∃g,wc.heap.size=g:=⟨_,rfl⟩
   rw [hg] at GG
   obtain ⟨wc,hwc⟩: ∃W,wc.alloc (.cells #[.int .u8 5] 5)=W:=⟨_,rfl⟩
   rw [hwc] at T GG
   have HT:=Lib.hid (HT.out.trans T fun _ _ f=>f)
   have G:=Lib.hid GG
   clear T GG
   go_wp2_with (fail)
   clear hwc hg
   first|refine ⟨⟨HT.out.cell HM.out (fun f=>f),HT.out.cell HM.out (fun f=>f)⟩,?_⟩|refine ⟨HT.out.cell HM.out (fun f=>f),?_⟩
   have hcv:=cv.out wc g G.out
   go_wp2_with (fail)
   clear hcv
   first|refine ⟨⟨HT.out.cell HM.out (fun f=>f),HT.out.cell HM.out (fun f=>f)⟩,?_⟩|refine ⟨HT.out.cell HM.out (fun f=>f),?_⟩
   repeat ((with_reducible refine Ux.qg ?_);refine Ux.qu ?_)
   go_wp2
   go_returns
   exact ⟨by rw [←HE.out];rfl,HT.out⟩
 ·have T:=(Ux.Touch.refl (fun _=>False) wc).alloc (.cells #[.int .u8 5] 5)
  have GG:=heap_alloc_new wc (.cells #[.int .u8 5] 5)
  obtain ⟨g,hg⟩: ∃g,wc.heap.size=g:=⟨_,rfl⟩
  rw [hg] at GG
  obtain ⟨wc,hwc⟩: ∃W,wc.alloc (.cells #[.int .u8 5] 5)=W:=⟨_,rfl⟩
  rw [hwc] at T GG
  have HT:=Lib.hid (HT.out.trans T fun _ _ f=>f)
  have G:=Lib.hid GG
  clear T GG
  go_wp2_with (fail)
  clear hwc hg
  first|refine ⟨⟨HT.out.cell HM.out (fun f=>f),HT.out.cell HM.out (fun f=>f)⟩,?_⟩|refine ⟨HT.out.cell HM.out (fun f=>f),?_⟩
  refine ⟨?_,?_⟩
  ·go_wp2_with (go_at_call 40;fail)
   refine (C1.out _ HT.out).mono ?_
   rintro e wc ⟨rfl,T⟩
   have HT:=Lib.hid (HT.out.trans T fun _ _ f=>f)
   try have G:=Lib.hid (T.heap G.out fun f=>f)
   clear T
   go_wp2_with (fail)
   first|refine ⟨⟨HT.out.cell HM.out (fun f=>f),HT.out.cell HM.out (fun f=>f)⟩,?_⟩|refine ⟨HT.out.cell HM.out (fun f=>f),?_⟩
   refine ⟨?_,?_⟩
   ·have hcv:=cv.out wc g G.out
    go_wp2_with (fail)
    clear hcv
    first|refine ⟨⟨HT.out.cell HM.out (fun f=>f),HT.out.cell HM.out (fun f=>f)⟩,?_⟩|refine ⟨HT.out.cell HM.out (fun f=>f),?_⟩
    repeat ((with_reducible refine Ux.qg ?_);refine Ux.qu ?_)
    go_wp2_with (go_at_call 84;fail)
    refine (C2.out _).mono ?_
    rintro e wc ⟨rfl,T⟩
    have HT:=Lib.hid (HT.out.trans T fun _ _ f=>f)
    try have G:=Lib.hid (T.heap G.out fun f=>f)
    clear T
    go_wp2_with (fail)
    first|refine ⟨⟨HT.out.cell HM.out (fun f=>f),HT.out.cell HM.out (fun f=>f)⟩,?_⟩|refine ⟨HT.out.cell HM.out (fun f=>f),?_⟩
    repeat ((with_reducible refine Ux.qg ?_);refine Ux.qu ?_)
    go_wp2
    go_returns
    exact ⟨by rw [←HE.out];rfl,HT.out⟩
   ·go_wp2_with (go_at_call 84;fail)
    refine (C2.out _).mono ?_
    rintro e wc ⟨rfl,T⟩
    have HT:=Lib.hid (HT.out.trans T fun _ _ f=>f)
    try have G:=Lib.hid (T.heap G.out fun f=>f)
    clear T
    go_wp2_with (fail)
    first|refine ⟨⟨HT.out.cell HM.out (fun f=>f),HT.out.cell HM.out (fun f=>f)⟩,?_⟩|refine ⟨HT.out.cell HM.out (fun f=>f),?_⟩
    have hcv:=cv.out wc g G.out
    go_wp2_with (fail)
    clear hcv
    first|refine ⟨⟨HT.out.cell HM.out (fun f=>f),HT.out.cell HM.out (fun f=>f)⟩,?_⟩|refine ⟨HT.out.cell HM.out (fun f=>f),?_⟩
    repeat ((with_reducible refine Ux.qg ?_);refine Ux.qu ?_)
    go_wp2
    go_returns
    exact ⟨by rw [←HE.out];rfl,HT.out⟩
  ·have hcv:=cv.out wc g G.out
   go_wp2_with (fail)
   clear hcv
   first|refine ⟨⟨HT.out.cell HM.out (fun f=>f),HT.out.cell HM.out (fun f=>f)⟩,?_⟩|refine ⟨HT.out.cell HM.out (fun f=>f),?_⟩
   go_wp2_with (go_at_call 40;fail)
   refine (C1.out _ HT.out).mono ?_
   rintro e wc ⟨rfl,T⟩
   have HT:=Lib.hid (HT.out.trans T fun _ _ f=>f)
   try have G:=Lib.hid (T.heap G.out fun f=>f)
   clear T
   go_wp2_with (fail)
   first|refine ⟨⟨HT.out.cell HM.out (fun f=>f),HT.out.cell HM.out (fun f=>f)⟩,?_⟩|refine ⟨HT.out.cell HM.out (fun f=>f),?_⟩
   repeat ((with_reducible refine Ux.qg ?_);refine Ux.qu ?_)
   go_wp2_with (go_at_call 84;fail)
   refine (C2.out _).mono ?_
   rintro e wc ⟨rfl,T⟩
   have HT:=Lib.hid (HT.out.trans T fun _ _ f=>f)
   try have G:=Lib.hid (T.heap G.out fun f=>f)
   clear T
   go_wp2_with (fail)
   first|refine ⟨⟨HT.out.cell HM.out (fun f=>f),HT.out.cell HM.out (fun f=>f)⟩,?_⟩|refine ⟨HT.out.cell HM.out (fun f=>f),?_⟩
   repeat ((with_reducible refine Ux.qg ?_);refine Ux.qu ?_)
   go_wp2
   go_returns
   exact ⟨by rw [←HE.out];rfl,HT.out⟩
theorem be8_num8 (x:Nat) (hx:x<18446744073709551616):be8 (num8 x)=x:=by
 have st: ∀k,x/256^(k+1)*256+x/256^k % 256=x/256^k:=fun k=>by
  rw [Nat.pow_succ,←Nat.div_div_eq_div_mul]
  generalize x/256^k=y
  omega
 have m: ∀k,x/256^k % 256 % 2^8=x/256^k % 256:=fun k=>Nat.mod_eq_of_lt (Nat.mod_lt _ (by decide))
 have h7:0*256+x/256^7 % 256=x/256^7:=by
  rw [Nat.zero_mul,Nat.zero_add,Nat.mod_eq_of_lt]
  rw [Nat.div_lt_iff_lt_mul (by decide)]
  exact hx
 have h0:x/256^0=x:=by rw [Nat.pow_zero,Nat.div_one]
 unfold be8 num8
 rw [show List.range 8= [0,1,2,3,4,5,6,7] from rfl]
 simp only [List.map_cons,List.map_nil,List.foldl_cons,List.foldl_nil,UInt8.toNat_ofNat',Nat.reduceSub,m]
 rw [h7,st 6,st 5,st 4,st 3,st 2,st 1,st 0,h0]
theorem row_key (L:List UInt8) (row:Int) (hr: -9223372036854775808≤row∧row≤9223372036854775807):rowIs (L++5::num8 (row+9223372036854775808).toNat)=(row,0):=by
 have hl:(L++5::num8 (row+9223372036854775808).toNat).length=L.length+9:=by rw [List.length_append,List.length_cons,num8_len]
 unfold rowIs
 rw [hl,if_neg (by omega)]
 have e1:(L++5::num8 (row+9223372036854775808).toNat)[L.length+9-9]? =some 5:=by rw [Nat.add_sub_cancel,List.getElem?_append_right (Nat.le_refl _),Nat.sub_self];rfl
 have e2:(L++5::num8 (row+9223372036854775808).toNat).drop (L.length+9-8)=num8 (row+9223372036854775808).toNat:=by
  rw [show L.length+9-8=L.length+1 by omega,←List.drop_drop,List.drop_left]
  rfl
 rw [e1,if_neg (by simp),e2,be8_num8 _ (by omega)]
 congr 1
 omega
theorem vz (K:ByteArray→ByteArray):valP K false 0 0 ⟨#[]⟩=⟨#[1]⟩:=by
 have h:okVB 0 0 ⟨#[]⟩=true:=by unfold okVB;rw [Lib.toList_data];rfl
 unfold valP valB
 rw [h]
 rfl
theorem vt (K:ByteArray→ByteArray):valP K true 1 1 ⟨#[]⟩=⟨#[253,254]⟩:=by
 have h:okVB 1 1 ⟨#[]⟩=true:=by unfold okVB;rw [Lib.toList_data];rfl
 unfold valP valB
 rw [h]
 show (⟨(Ux.turn [2,1]).toArray⟩:ByteArray)=_
 rw [show Ux.turn [2,1]= [253,254] by decide]
theorem keyP0 (s:ByteArray):keyP 0 0 false false none [] s=s:=by
 unfold keyP
 have:okC 0 0 none=false:=by decide
 rw [this]
 rfl
set_option maxHeartbeats 4000000 in
theorem rboolT_ (w:World):Calls Tryz.prog 79 #[.bool true] w fun e w'=>e= .returned (.agg #[.int .i64 1,.int .i64 1,.string ⟨#[]⟩])∧Ux.Touch (fun _=>False) w w':=by
 go_enter Tryz.func79,Tryz.ntmps79
 go_wp2
 go_returns
 exact ⟨rfl,by repeat (first|exact Ux.Touch.refl _ _|refine Ux.Touch.alloc ?_ _)⟩
set_option maxHeartbeats 8000000 in
set_option maxRecDepth 100000 in
theorem awake14_ (m:Int) (w:World) (hT:Tabs w) (hm:w.cell? ⟨3,0,none⟩=some (.int .i64 m)):Calls Tryz.prog 33 #[] w fun e w'=>e= .returned (.bool true)∧Ux.Touch (fun _=>False) w w':=by
 have c1:=fun (d:Bool) (k n:Int) (hn: -9223372036854775808≤n∧n≤9223372036854775807) W (T:Ux.Touch (fun _=>False) w W)=>value_ 0 0 false false none [] k n ⟨#[]⟩ d m W hn (by decide) (T.cell hm fun f=>f) (hT.touch T) (fun h=>by cases h) (by rw [keyP0];decide)
 have c2:=c1 false 0 0 (by decide)
 have c3:=c1 true 1 1 (by decide)
 rw [vz] at c2
 rw [vt] at c3
 unfold vV at c2 c3
 have c4:=fun W (T:Ux.Touch (fun _=>False) w W)=>escape9 ⟨#[97]⟩ m W (T.cell hm fun f=>f) (by decide)
 rw [show (⟨(Ux.esc (⟨#[97]⟩:ByteArray).data.toList).toArray⟩:ByteArray)=⟨#[97,0,1]⟩ from rfl] at c4
 have C2:=Lib.hid c2
 have C3:=Lib.hid c3
 have C4:=Lib.hid c4
 have CB:=Lib.hid rboolT_
 clear c1 c2 c3 c4 hT hm
 go_enter Tryz.func33,Tryz.ntmps33
 go_wp2_with (go_at_call 36;fail)
 refine (C2.out _ (Ux.Touch.refl _ _)).mono ?_
 rintro e w1 ⟨rfl,T1⟩
 have H1:=Lib.hid T1
 clear T1
 go_wp2_with (go_at_call 79;fail)
 refine (CB.out _).mono ?_
 rintro e w2 ⟨rfl,T2⟩
 have H2:=Lib.hid (H1.out.trans T2 fun _ _ f=>f)
 clear T2
 go_wp2_with (go_at_call 36;fail)
 refine (C3.out _ H2.out).mono ?_
 rintro e w3 ⟨rfl,T3⟩
 have H3:=Lib.hid (H2.out.trans T3 fun _ _ f=>f)
 clear T3
 go_wp2_with (go_at_call 80;fail)
 refine (C4.out _ H3.out).mono ?_
 rintro e w4 ⟨rfl,T4⟩
 have H4:=Lib.hid (H3.out.trans T4 fun _ _ f=>f)
 clear T4
 go_wp2
 go_returns
 exact ⟨rfl,H4.out⟩
end Go.Proofs.YtfccjaboicpohaaGreatDoor
