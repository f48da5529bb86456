/- A part of the proof that the statement holds for every input that it names. No other condition. -/
import Derived.Test.YtmnkinaaoifpeaaGreatDoorUxEndsZ
import Derived.Test.YtmnkinaaoifpeaaGreatDoorUxMemAZ
import Derived.Test.YtmnkinaaoifpeaaGreatDoorStoreEZ
set_option linter.unusedVariables false
set_option linter.unusedSimpArgs false
namespace Go.Proofs.YtmnkinaaoifpeaaGreatDoor
open Go.RowKit
open Ux (VRows Val3)
theorem TabR.ne {w:World} {tb mb N:Nat} {cols:Value} {last:Int} {g:Int→Option Value} {ks:List Int} (h:TabR w tb mb N cols last g ks):tb≠mb:=fun e=>by
 subst e
 obtain ⟨D,hD,_⟩:=h.map
 obtain ⟨es,clock,hh,_⟩:=hD
 rw [h.row] at hh
 cases hh
theorem own_ne {w:World} {e k:TypeId} {v:Value} {n mb N:Nat} {xs:List Value} {f:Lit→Option Value} (h:w.ownsRow 0 e 1 v n xs) (hm:Ux.MapIs Tryz.prog k w mb N f):v.ownBlock≠some mb:=by
 rcases h.2 with ⟨rfl,_⟩|⟨g,cap,cur,rfl,_,hh,_⟩
 ·simp [Value.ownBlock]
 ·intro e
  cases e
  obtain ⟨D,hD,_⟩:=hm
  obtain ⟨es,clock,hh2,_⟩:=hD
  rw [hh] at hh2
  cases hh2
theorem nums_two (last:Int):nums last 2= [last+1,last+2]:=by
 unfold nums
 simp [List.range_succ]
 omega
def csT:List (Int×Bool):= [(2,false),(3,false),(3,true)]
def rowT:List Val3:= [(2,1,⟨#[]⟩),(0,0,⟨#[]⟩),(3,0,⟨#[120]⟩)]
def nulT:List Val3:= [(0,0,⟨#[]⟩),(0,0,⟨#[]⟩),(0,0,⟨#[]⟩)]
def NumI (w0:World) (tb:Nat) (cols:Value) (i:Nat) (last:Int) (there:Value) (wr:World):Prop:=
 ∃mb N1 g ks,TabR wr tb mb N1 cols last g ks∧Shp g∧N1≤2*i∧(∀k∈ks,1≤k∧k≤last)∧0≤last∧last≤2*i∧ks.length≤2*i∧Ux.Grow wr w0.heap.size 3 there (Ux.iv ks)∧Ux.Touch (fun b=>b=tb∨w0.heap.size≤b) w0 wr
structure NumW (w w0:World) (db m1 m2 tb:Nat) (cols:Value) (rb:Nat) (a:Option Addr) (n:Nat) (acts:List Int):Prop where
 db1:Db1 w0 db m1 m2 1 5 tb
 cols: ∀(R:Nat→Prop) W,Ux.Touch R w0 W→(∀b,b<w0.heap.size→b≠tb→¬R b)→ColRows W cols csT
 apart:tb≠db∧tb≠m1∧tb≠m2
 ltb:tb<w0.heap.size
 row:w0.heap[rb]? =some (.cells #[.int .i64 2,.int .i64 1,.string ⟨#[]⟩,.int .i64 0,.int .i64 0,.string ⟨#[]⟩,.int .i64 3,.int .i64 0,.string ⟨#[120]⟩] 26 (0,0))
 rbt:rb≠tb
 len:acts.length=n
 acts: ∀(j:Nat) (x:Int),acts[j]? =some x→∃g o,a=some ⟨g,o,none⟩∧g<w.heap.size∧w0.cell? ⟨g,o+j,none⟩=some (.int .i64 x)
 tbw:w.heap.size≤tb
 tabs:Tabs w0
 touch:Ux.Touch (fun _=>False) w w0
set_option maxHeartbeats 8000000 in
set_option maxRecDepth 100000 in
theorem numbersLaw_ (v:Value) (acts:List Int) (w:World) (hv:Ux.NView .i64 w v acts) (hT:Tabs w):Calls Tryz.prog 3 #[v] w fun e w'=>e= .returned (.bool true)∧Ux.Touch (fun _=>False) w w':=by
 obtain ⟨a,c,rfl,hlen,hcell,-⟩:=hv
 obtain ⟨n,hn⟩: ∃n,acts.length=n:=⟨_,rfl⟩
 rw [hn] at hlen⊢
 have HA:=Lib.hid (And.intro hcell (And.intro hn hT))
 have n0:(n:Int)≤9223372036854775807:=by unfold maxLen at hlen;omega
 have n1:(0:Int)≤n:=by omega
 have HTB:=Lib.hid (table_ w hT)
 clear hcell hn hT hlen
 go_enter Tryz.func3,Tryz.ntmps3
 go_wp2_with (go_at_call 6;fail)
 refine HTB.out.mono ?_
 rintro e w1 ⟨db,m1,m2,tb,mb,cols,rfl,hd,ht,hcl,hdb,htb,hap,T1⟩
 have HI:=Lib.hid (intV_ 1 w1)
 have H1:=Lib.hid (And.intro hd (And.intro ht (And.intro hcl (And.intro htb (And.intro hap T1)))))
 clear hd ht hcl hdb htb hap T1
 go_wp2_with (go_at_call 7;fail)
 refine HI.out.mono ?_
 rintro e w2 ⟨rfl,T2⟩
 simp only [valS]
 have HX:=Lib.hid (txtV_ ⟨#[120]⟩ w2)
 have H2:=Lib.hid T2
 clear T2
 go_wp2_with (go_at_call 8;fail)
 refine HX.out.mono ?_
 rintro e w3 ⟨rfl,T3⟩
 simp only [valS]
 have H3:=Lib.hid (H2.out.trans T3 fun _ _ f=>f)
 clear T3
 obtain ⟨rb,hrb⟩: ∃b,w3.heap.size=b:=⟨_,rfl⟩
 obtain ⟨W4,hW4⟩: ∃W,w3.alloc (.cells #[.int .i64 2,.int .i64 1,.string ⟨#[]⟩,.int .i64 0,.int .i64 0,.string ⟨#[]⟩,.int .i64 3,.int .i64 0,.string ⟨#[120]⟩] 26)=W:=⟨_,rfl⟩
 have r4:W4.heap[rb]? =some (.cells #[.int .i64 2,.int .i64 1,.string ⟨#[]⟩,.int .i64 0,.int .i64 0,.string ⟨#[]⟩,.int .i64 3,.int .i64 0,.string ⟨#[120]⟩] 26 (0,0)):=by rw [←hW4,←hrb];exact heap_alloc_new w3 _
 have t4:Ux.Touch (fun _=>False) w3 W4:=by rw [←hW4];exact (Ux.Touch.refl _ _).alloc _
 have T14:=H3.out.trans t4 fun _ _ f=>f
 have T04:=H1.out.2.2.2.2.2.trans T14 fun _ _ f=>f
 obtain ⟨g1,g2,g3,g4,g5,-⟩:=H1.out
 have htl:tb<w1.heap.size:=Ux.lt_of_heap g2.row
 have hr3:w1.heap.size≤rb:=by rw [←hrb];exact H3.out.size
 have NW:NumW w W4 db m1 m2 tb cols rb a n acts:=⟨g1.touch T14 (fun f=>f) (fun f=>f) (fun f=>f),fun R W T hR=>g3 (fun b=>R b) W ((T14.mono fun _ _ f=>f.elim).trans T fun _ _ f=>f) (fun b hb hne=>hR b (by have:=T14.size;omega) hne),⟨g5.1,g5.2.1,g5.2.2.1⟩,by have:=T14.size;omega,r4,by omega,HA.out.2.1,fun j x hj=>by
  obtain ⟨g,o,e,h1,h2⟩:=HA.out.1 j x hj
  exact ⟨g,o,e,h1,T04.cell h2 (fun f=>f)⟩,g4,HA.out.2.2.touch T04,T04⟩
 have NI:NumI W4 tb cols 0 0 (.slice none 0 0) W4:=⟨mb,0,_,[],g2.touch T14 (fun f=>f) (fun f=>f),fun x v e=>(by cases e),by omega,fun k hk=>(by cases hk),by omega,by omega,by simp,Ux.Grow.nil _ _ _,Ux.Touch.refl _ _⟩
 have HW:=Lib.hid NW
 have HN:=Lib.hid NI
 clear r4 t4 T14 T04 g1 g2 g3 g4 g5 htl hr3 NW NI
 go_upto_region 7 with (fail)
 clear hW4 hrb
 go_wp2_with (fail)
 go_loopg [4,5,7] 40 (fun gk s4 s5 s7 wr=> ∃(i:Nat) (last:Int) (there:Value),s4= .int .i64 last∧s5=there∧s7= .int .i64 i∧i+gk=40∧Hid (NumI W4 tb cols i last there wr))
 case atStart=>exact ⟨0,0,.slice none 0 0,rfl,rfl,rfl,rfl,HN⟩
 case round=>
  obtain ⟨i,last,there,rfl,rfl,rfl,hig,HI⟩:=hrel
  have i0:(0:Int)≤i:=by omega
  have hcase:(i<n∧i<40)∨¬i<n∨(i<n∧¬i<40):=by omega
  rcases hcase with ⟨hlt,h40⟩|hend
  ·obtain ⟨g',rfl⟩: ∃g',gk=g'+1:=⟨gk-1,by omega⟩
   have i1:(i:Int)<n:=by omega
   have i2:(i:Int)<40:=by omega
   have d1:decide ((i:Int)<n)=true:=decide_eq_true i1
   have d2:decide ((i:Int)<40)=true:=decide_eq_true i2
   obtain ⟨x,hx⟩: ∃x,acts[i]? =some x:=⟨_,List.getElem?_eq_getElem (by have:=HW.out.len;omega)⟩
   obtain ⟨mb2,N1,g,ks,htr,hsh,hN1,hks,hl0,hl1,hkl,hgr,hT⟩:=HI.out
   obtain ⟨ga,off,rfl,hga,yc⟩:=HW.out.acts i x hx
   have yx:=hT.cell yc (by have:=HW.out.tbw;have:=HW.out.ltb;show¬(ga=tb∨W4.heap.size≤ga);omega)
   obtain ⟨z,hz⟩: ∃z,bits .and .i64 x 3=z:=⟨_,rfl⟩
   have hd:=HW.out.db1.touch hT (by have:=HW.out.apart;have:=Ux.lt_of_heap HW.out.db1.db.row;show¬(db=tb∨W4.heap.size≤db);omega) (by have:=HW.out.apart;have:=HW.out.db1.db.idx.lt;show¬(m2=tb∨W4.heap.size≤m2);omega) (by
    obtain ⟨_,f,hf,_⟩:=HW.out.db1
    have:=HW.out.apart
    have:=hf.lt
    show¬(m1=tb∨W4.heap.size≤m1);omega)
   have hap:tb≠db∧tb≠m1∧tb≠m2∧tb≠mb2:=⟨HW.out.apart.1,HW.out.apart.2.1,HW.out.apart.2.2,htr.ne⟩
   have hcols:ColRows wr cols csT:=HW.out.cols _ wr hT (fun b hb hne f=>by rcases f with f|f<;>omega)
   have hrow:=hT.heap HW.out.row (by have:=HW.out.rbt;have:=Ux.lt_of_heap HW.out.row;show¬(rb=tb∨W4.heap.size≤rb);omega)
   have l0:=hl0
   have l1:last≤80:=by omega
   obtain ⟨ta,tn,tc,rfl,htn⟩:=hgr.is
   rw [Ux.iv_length] at htn
   have tn0:(tn:Int)≤80:=by omega
   have HR:=Lib.hid (And.intro hd (And.intro hap (And.intro hcols (And.intro hrow (And.intro htr (And.intro hsh (And.intro hN1 (And.intro hks (And.intro hl1 (And.intro hkl (And.intro hgr (And.intro hT htn))))))))))))
   have HC:=Lib.hid (And.intro hlt (And.intro h40 hig))
   clear hx htr hsh hN1 hks hl0 hl1 hkl hgr hT yc hd hap hcols hrow hlt h40 hig hga
   by_cases z0:z=0
   ·subst z0
    rcases List.eq_nil_or_concat ks with hk0|⟨ks0,k,hk0⟩
    ·have htn0:tn=0:=by have:=HR.out.2.2.2.2.2.2.2.2.2.2.2.2;rw [hk0] at this;exact this.symm
     subst htn0
     have HE:=Lib.hid (show NumI W4 tb cols (i+1) last (.slice ta 0 tc) wr from by
      obtain ⟨k1,k2,k3,k4,k5,k6,k7,k8,k9,k10,k11,k12,k13⟩:=HR.out
      exact ⟨mb2,N1,g,ks,k5,k6,by omega,k8,l0,by omega,by omega,k11,k12⟩)
     go_wp2_with (fail)
     go_roundg g'
     case measure=>omega
     case rel=>exact ⟨i+1,last,_,rfl,rfl,rfl,by have:=HC.out.2.2;omega,HE⟩
    ·rw [List.concat_eq_append] at hk0
     subst hk0
     obtain ⟨k1,k2,k3,k4,k5,k6,k7,k8,k9,k10,k11,k12,k13⟩:=HR.out
     obtain ⟨m,hm⟩: ∃m,ks0.length=m:=⟨_,rfl⟩
     rw [List.length_append,hm] at k13
     have hget:(Ux.iv (ks0++ [k]))[m]? =some (.int .i64 k):=by
      rw [Ux.iv_append,List.getElem?_append_right (by rw [Ux.iv_length];omega),Ux.iv_length,hm,Nat.sub_self]
      rfl
     obtain ⟨qt,rfl,-,yk⟩:=k11.row.at hget
     have e1:(tn:Int)-1=m:=by simp at k13;omega
     have tz:((tn:Int)==0)=false:=beq_false_of_ne (by simp at k13;omega)
     have tp:(m:Int)<tn:=by omega
     have tm0:(0:Int)≤m:=by omega
     have hcap:tn≤tc:=by
      rcases k11.1.2 with ⟨hv,h0⟩|⟨g,cap,cur,hv,hb,hh,hcap,_⟩
      ·cases hv
      ·cases hv
       rw [Ux.iv_length,List.length_append,hm] at hcap
       simp at k13 hcap
       omega
     have tmc:(m:Int)≤tc:=by omega
     have kk:=k8 k (by simp)
     go_upto_region 19 with (fail)
     clear yx d1 d2 i1 hz
     obtain ⟨b6,hb6⟩: ∃b,wr.heap.size=b:=⟨_,rfl⟩
     obtain ⟨W6,hW6⟩: ∃W,wr.alloc (.cells #[.int .i64 k,.slice none 0 0] 34)=W:=⟨_,rfl⟩
     have r6:W6.heap[b6]? =some (.cells #[.int .i64 k,.slice none 0 0] 34 (0,0)):=by rw [←hW6,←hb6];exact heap_alloc_new wr _
     have t6:Ux.Touch (fun _=>False) wr W6:=by rw [←hW6];exact (Ux.Touch.refl _ _).alloc _
     have hCG:=changeD_ db m1 m2 1 5 tb mb2 N1 cols last g ks0 k (.slice (some ⟨b6,0,none⟩) 1 1) W6 (k1.touch t6 (fun f=>f) (fun f=>f) (fun f=>f)) (k5.touch t6 (fun f=>f) (fun f=>f)) k2 (SRows.one r6) (by have:=HC.out.2.1;omega) ⟨kk.1,by omega⟩ k6
     have HCG:=Lib.hid hCG
     have HT6:=Lib.hid t6
     have HKC:=Lib.hid (And.intro hcap (And.intro hm k13))
     clear hCG t6 r6 yk kk hcap hm k13 hget k1 k2 k3 k4 k5 k6 k7 k8 k9 k10 k11 k12
     go_wp2_with (go_at_call 9;fail)
     clear hb6 hW6
     refine HCG.out.mono ?_
     rintro e w7 ⟨qi,mb3,N3,g3,rfl,y0,htr3,hN3,hmb3,hsh3,T7⟩
     obtain ⟨k1,k2,k3,k4,k5,k6,k7,k8,k9,k10,k11,k12,k13⟩:=HR.out
     have hS:W4.heap.size≤wr.heap.size:=k12.size
     have hS6:=HT6.out.size
     have hlt4:=HW.out.ltb
     have hown:=Ux.own_lt k11.1
     have hgr7:w7.ownsRow 0 3 1 (.slice (some ⟨qt,0,none⟩) tn tc) tn (Ux.iv (ks0++ [k])):=by
      have h1:=Ux.own_touch (Ux.own_touch k11.1 HT6.out fun _ _ f=>f) T7 fun b hb f=>by
       have h1:=k11.2 b hb
       have h2:=hown b hb
       rcases f with f|f<;>omega
      rw [Ux.iv_length,k13] at h1
      exact h1
     have hgr8:Ux.Grow w7 W4.heap.size 3 (.slice (some ⟨qt,0,none⟩) m tc) (Ux.iv ks0):=by
      have h1:=Ux.own_take hgr7 (i:=m) (by omega)
      have h2:(Ux.iv (ks0++ [k])).take m=Ux.iv ks0:=by
       rw [Ux.iv_append,List.take_append_of_le_length (by rw [Ux.iv_length,HKC.out.2.1];exact Nat.le_refl _),List.take_of_length_le (by rw [Ux.iv_length,HKC.out.2.1];exact Nat.le_refl _)]
      rw [h2] at h1
      refine ⟨by rw [Ux.iv_length,HKC.out.2.1];exact h1,fun b hb=>k11.2 b hb⟩
     have TT:Ux.Touch (fun b=>b=tb∨W4.heap.size≤b) W4 w7:=(k12.trans HT6.out fun _ _ f=>f.elim).trans T7 fun b hb f=>by rcases f with f|f<;>omega
     have hd8:=HW.out.db1.touch TT (by have:=HW.out.apart;have:=Ux.lt_of_heap HW.out.db1.db.row;show¬(db=tb∨W4.heap.size≤db);omega) (by have:=HW.out.apart;have:=HW.out.db1.db.idx.lt;show¬(m2=tb∨W4.heap.size≤m2);omega) (by
      obtain ⟨_,f,hf,_⟩:=HW.out.db1
      have:=HW.out.apart
      have:=hf.lt
      show¬(m1=tb∨W4.heap.size≤m1);omega)
     have HLN:=Lib.hid (len_ db m1 m2 1 5 tb mb3 N3 cols last g3 ks0 w7 hd8 htr3)
     rw [HKC.out.2.1] at HLN
     have HE:=Lib.hid (show NumI W4 tb cols (i+1) last (.slice (some ⟨qt,0,none⟩) m tc) w7 from ⟨mb3,N3,g3,ks0,htr3,hsh3,by omega,fun j hj=>k8 j (List.mem_append_left _ hj),l0,by omega,by rw [List.length_append] at k10;omega,hgr8,TT⟩)
     clear htr3 hN3 hmb3 hsh3 T7 k1 k2 k3 k4 k5 k6 k7 k8 k9 k10 k11 k12 k13 hS hS6 hlt4 hown hgr7 hgr8 TT hd8
     go_wp2_with (go_at_call 10;fail)
     refine HLN.out.mono ?_
     rintro e w9 ⟨rfl,hw⟩
     obtain rfl:w7=w9:=hw.symm
     clear hw y0
     go_wp2_with (fail)
     go_roundg g'
     case measure=>omega
     case rel=>exact ⟨i+1,last,_,rfl,rfl,rfl,by have:=HC.out.2.2;omega,HE⟩
   ·have zz:(z==0)=false:=beq_false_of_ne z0
    by_cases z1:z=1
    ·subst z1
     go_upto_region 24 with (fail)
     clear yx d1 d2 i1 zz z0 hz
     obtain ⟨b6,hb6⟩: ∃b,wr.heap.size=b:=⟨_,rfl⟩
     obtain ⟨W6,hW6⟩: ∃W,wr.alloc (.cells #[.int .i64 0,.int .i64 0,.string ⟨#[]⟩,.int .i64 0,.int .i64 0,.string ⟨#[]⟩,.int .i64 0,.int .i64 0,.string ⟨#[]⟩] 26)=W:=⟨_,rfl⟩
     have r6:W6.heap[b6]? =some (.cells #[.int .i64 0,.int .i64 0,.string ⟨#[]⟩,.int .i64 0,.int .i64 0,.string ⟨#[]⟩,.int .i64 0,.int .i64 0,.string ⟨#[]⟩] 26 (0,0)):=by rw [←hW6,←hb6];exact heap_alloc_new wr _
     have t6:Ux.Touch (fun _=>False) wr W6:=by rw [←hW6];exact (Ux.Touch.refl _ _).alloc _
     obtain ⟨b7,hb7⟩: ∃b,W6.heap.size=b:=⟨_,rfl⟩
     obtain ⟨W7,hW7⟩: ∃W,W6.alloc (.cells #[.int .i64 0,.slice (some ⟨rb,0,none⟩) 3 3,.int .i64 0,.slice (some ⟨b6,0,none⟩) 3 3] 34)=W:=⟨_,rfl⟩
     have r7:W7.heap[b7]? =some (.cells #[.int .i64 0,.slice (some ⟨rb,0,none⟩) 3 3,.int .i64 0,.slice (some ⟨b6,0,none⟩) 3 3] 34 (0,0)):=by rw [←hW7,←hb7];exact heap_alloc_new W6 _
     have t7:Ux.Touch (fun _=>False) W6 W7:=by rw [←hW7];exact (Ux.Touch.refl _ _).alloc _
     have t67:=t6.trans t7 fun _ _ f=>f
     obtain ⟨k1,k2,k3,k4,k5,k6,k7,k8,k9,k10,k11,k12,k13⟩:=HR.out
     have hCG:=changeB_ db m1 m2 1 5 tb mb2 N1 cols last g ks csT rowT nulT (.slice (some ⟨rb,0,none⟩) 3 3) (.slice (some ⟨b6,0,none⟩) 3 3) (.slice (some ⟨b7,0,none⟩) 2 2) W7 (k1.touch t67 (fun f=>f) (fun f=>f) (fun f=>f)) (k5.touch t67 (fun f=>f) (fun f=>f)) k2 (k3.touch0 t67) (by decide) (SRows.two r7) (by have:=HC.out.2.1;omega) ⟨l0,by omega⟩
      (VRows.of_row (l:=rowT) (t67.heap k4 (fun f=>f)) rfl) (by decide) (by simp [rowT]) fitN ⟨VRows.of_row (l:=nulT) (t7.heap r6 (fun f=>f)) rfl,by decide,by simp [nulT],fitB⟩
     have HCG:=Lib.hid hCG
     have HT6:=Lib.hid t67
     clear hCG t6 t7 t67 r6 r7 k1 k2 k3 k4 k5 k6 k7 k8 k9 k10 k11 k12 k13
     go_wp2_with (go_at_call 9;fail)
     clear hb6 hW6 hb7 hW7
     refine HCG.out.mono ?_
     rintro e w8 ⟨rfl,T8⟩
     obtain ⟨k1,k2,k3,k4,k5,k6,k7,k8,k9,k10,k11,k12,k13⟩:=HR.out
     have T18:=HT6.out.trans T8 fun _ _ f=>f
     have htr8:=k5.touch T18 (fun f=>f) (fun f=>f)
     have HLN:=Lib.hid (len_ db m1 m2 1 5 tb mb2 N1 cols last g ks w8 (k1.touch T18 (fun f=>f) (fun f=>f) (fun f=>f)) htr8)
     rw [k13] at HLN
     have HE:=Lib.hid (show NumI W4 tb cols (i+1) last (.slice ta tn tc) w8 from ⟨mb2,N1,g,ks,htr8,k6,by omega,k8,l0,by omega,by omega,k11.touch0 T18,k12.trans T18 fun _ _ f=>f.elim⟩)
     clear T8 T18 htr8 k1 k2 k3 k4 k5 k6 k7 k8 k9 k10 k11 k12 k13
     go_wp2_with (go_at_call 10;fail)
     refine HLN.out.mono ?_
     rintro e w9 ⟨rfl,hw⟩
     obtain rfl:w8=w9:=hw.symm
     clear hw
     go_wp2_with (fail)
     go_roundg g'
     case measure=>omega
     case rel=>exact ⟨i+1,last,_,rfl,rfl,rfl,by have:=HC.out.2.2;omega,HE⟩
    ·have zo:(z==1)=false:=beq_false_of_ne z1
     go_upto_region 11 with (fail)
     clear yx d1 d2 i1 zz zo z0 z1 hz
     obtain ⟨b6,hb6⟩: ∃b,wr.heap.size=b:=⟨_,rfl⟩
     obtain ⟨W6,hW6⟩: ∃W,wr.alloc (.cells #[.int .i64 0,.slice (some ⟨rb,0,none⟩) 3 3,.int .i64 0,.slice (some ⟨rb,0,none⟩) 3 3] 34)=W:=⟨_,rfl⟩
     have r6:W6.heap[b6]? =some (.cells #[.int .i64 0,.slice (some ⟨rb,0,none⟩) 3 3,.int .i64 0,.slice (some ⟨rb,0,none⟩) 3 3] 34 (0,0)):=by rw [←hW6,←hb6];exact heap_alloc_new wr _
     have t6:Ux.Touch (fun _=>False) wr W6:=by rw [←hW6];exact (Ux.Touch.refl _ _).alloc _
     obtain ⟨k1,k2,k3,k4,k5,k6,k7,k8,k9,k10,k11,k12,k13⟩:=HR.out
     have hCG:=changeG_ db m1 m2 1 5 tb mb2 N1 cols last g ks csT rowT (.slice (some ⟨rb,0,none⟩) 3 3) [(0,.slice (some ⟨rb,0,none⟩) 3 3),(0,.slice (some ⟨rb,0,none⟩) 3 3)] (.slice (some ⟨b6,0,none⟩) 2 2) W6 (k1.touch t6 (fun f=>f) (fun f=>f) (fun f=>f)) (k5.touch t6 (fun f=>f) (fun f=>f)) k2 (k3.touch0 t6) (by decide) (SRows.two r6) (Nat.le_refl 2) (by have:=HC.out.2.1;omega) ⟨l0,by omega⟩
      (fun j y hy=>by
        match j,hy with
        |0,hy=>cases hy;rfl
        |1,hy=>cases hy;rfl) (VRows.of_row (l:=rowT) (t6.heap k4 (fun f=>f)) rfl) (by decide) (by simp [rowT]) fitN k6 (fun k hk=>(k8 k hk).2)
     have HCG:=Lib.hid hCG
     have HT6:=Lib.hid t6
     clear hCG t6 r6 k1 k2 k3 k4 k5 k6 k7 k8 k9 k10 k11 k12 k13
     go_wp2_with (go_at_call 9;fail)
     clear hb6 hW6
     refine HCG.out.mono ?_
     rintro e w7 ⟨ia,mb3,N3,g3,rfl,hrw,htr3,hN3,hmb3,hsh3,-,T7⟩
     change Ux.Row w7 W6.heap.size 3 (.slice ia 2 2) (Ux.iv (nums last 2)) at hrw
     change TabR w7 tb mb3 N3 cols (last+2) g3 (ks++nums last 2) at htr3
     change N3≤N1+2 at hN3
     rw [nums_two] at hrw
     obtain ⟨qi,rfl,-,y0⟩:=hrw.at (j:=0) (u:= .int .i64 (last+1)) rfl
     obtain ⟨qj,ej,-,y1⟩:=hrw.at (j:=1) (u:= .int .i64 (last+2)) rfl
     cases ej
     obtain ⟨k1,k2,k3,k4,k5,k6,k7,k8,k9,k10,k11,k12,k13⟩:=HR.out
     have hS:W4.heap.size≤wr.heap.size:=k12.size
     have hS6:=HT6.out.size
     have hS7:=T7.size
     have hlt4:=HW.out.ltb
     have hown:=Ux.own_lt k11.1
     have hgr7:Ux.Grow w7 W4.heap.size 3 (.slice ta tn tc) (Ux.iv ks):=⟨Ux.own_touch (Ux.own_touch k11.1 HT6.out fun _ _ f=>f) T7 fun b hb f=>by
      have h1:=k11.2 b hb
      have h2:=hown b hb
      rcases f with f|f<;>omega,k11.2⟩
     obtain ⟨ra,w8,hrun,hgr8,T8⟩:=hgr7.appRow (P:=Tryz.prog) 22 8 (.int .i64 0) Tryz.underlying22 infoInt rfl (.slice (some ⟨qi,0,none⟩) 2 2) (Ux.iv [last+1,last+2]) (hrw.mono (Nat.zero_le _)) (Ux.iv_one _) (by omega) (by rw [Ux.iv_length,Ux.iv_length];simp only [maxLen,List.length_cons,List.length_nil];have:=HC.out.2.1;omega) (by rw [Ux.iv_length,Ux.iv_length];simp only [List.length_cons,List.length_nil];have:=HC.out.2.1;omega)
     obtain ⟨ua,un,uc,rfl,hun⟩:=hgr8.is
     rw [←Ux.iv_append,Ux.iv_length] at hun
     rw [←Ux.iv_append,←nums_two] at hgr8
     rw [←nums_two] at hun
     have hne8:=own_ne hgr7.1 htr3.map
     have htr8:=htr3.touch T8 (show¬(W4.heap.size≤tb∧_) by omega) (fun f=>hne8 f.2)
     have TT:Ux.Touch (fun b=>b=tb∨W4.heap.size≤b) W4 w8:=((k12.trans HT6.out fun _ _ f=>f.elim).trans T7 fun b hb f=>by rcases f with f|f<;>omega).trans T8 fun _ _ f=> .inr f.1
     have hd8:=HW.out.db1.touch TT (by have:=HW.out.apart;have:=Ux.lt_of_heap HW.out.db1.db.row;show¬(db=tb∨W4.heap.size≤db);omega) (by have:=HW.out.apart;have:=HW.out.db1.db.idx.lt;show¬(m2=tb∨W4.heap.size≤m2);omega) (by
      obtain ⟨_,f,hf,_⟩:=HW.out.db1
      have:=HW.out.apart
      have:=hf.lt
      show¬(m1=tb∨W4.heap.size≤m1);omega)
     have HLN:=Lib.hid (len_ db m1 m2 1 5 tb mb3 N3 cols (last+2) g3 (ks++nums last 2) w8 hd8 htr8)
     rw [hun] at HLN
     have HE:=Lib.hid (show NumI W4 tb cols (i+1) (last+2) (.slice ua un uc) w8 from ⟨mb3,N3,g3,ks++nums last 2,htr8,hsh3,by omega,fun k hk=>by
      rcases List.mem_append.1 hk with hk|hk
      ·have:=k8 k hk;omega
      ·have:=mem_nums.1 hk;omega,by omega,by omega,by rw [List.length_append,nums_length];omega,hgr8,TT⟩)
     have HRN:=Lib.hid hrun
     clear hrw htr3 hN3 hmb3 hsh3 T7 k1 k2 k3 k4 k5 k6 k7 k8 k9 k10 k11 k12 k13 hS hS6 hS7 hlt4 hown hgr7 hrun hgr8 T8 hun hne8 htr8 TT hd8
     go_wp2_with (first
      |(at_builtin;refine Ux.wpList_app (v1:= .slice ta tn tc) (x1:= .slice (some ⟨qi,0,none⟩) 2 2) rfl _ _ _ _ rfl rfl rfl (HRN.out _) ?_;clear y0 y1)
      |(go_at_call 10;fail))
     refine HLN.out.mono ?_
     rintro e w9 ⟨rfl,hw⟩
     obtain rfl:w8=w9:=hw.symm
     clear hw
     go_wp2_with (fail)
     go_roundg g'
     case measure=>omega
     case rel=>exact ⟨i+1,last+2,_,rfl,rfl,rfl,by have:=HC.out.2.2;omega,HE⟩
  ·obtain ⟨mb2,N1,g,ks,htr,hsh,hN1,hks,hl0,hl1,hkl,hgr,hT⟩:=HI.out
   have hd:=HW.out.db1.touch hT (by have:=HW.out.apart;have:=Ux.lt_of_heap HW.out.db1.db.row;show¬(db=tb∨W4.heap.size≤db);omega) (by have:=HW.out.apart;have:=HW.out.db1.db.idx.lt;show¬(m2=tb∨W4.heap.size≤m2);omega) (by
         obtain ⟨_,f,hf,_⟩:=HW.out.db1
         have:=HW.out.apart
         have:=hf.lt
         show¬(m1=tb∨W4.heap.size≤m1);omega)
   have TW:Ux.Touch (fun _=>False) w wr:=HW.out.touch.trans hT fun b hb f=>by have:=HW.out.tbw;have:=HW.out.touch.size;rcases f with f|f<;>omega
   have HCK:=Lib.hid (check0_ db m1 m2 5 wr hd.db)
   have HTW:=Lib.hid TW
   clear htr hsh hN1 hks hl0 hl1 hkl hgr hT hd TW
   have hg:(decide ((i:Int)<n)=false∧¬(i:Int)<n)∨(decide ((i:Int)<n)=true∧decide ((i:Int)<40)=false∧¬(i:Int)<40∧(i:Int)<n):=by
    rcases hend with h|⟨h1,h2⟩
    ·exact .inl ⟨decide_eq_false (by omega),by omega⟩
    ·exact .inr ⟨decide_eq_true (by omega),decide_eq_false (by omega),by omega,by omega⟩
   clear hend hig
   rcases hg with ⟨hg,hg1⟩|⟨hg,hg2,hg3,hg4⟩
   all_goals
    go_wp2_with (go_at_call 11;fail)
    refine HCK.out.mono ?_
    rintro e w8 ⟨rfl,T8⟩
    have T08:=HTW.out.trans T8 fun _ _ f=>f
    have HAW:=Lib.hid (awake19_ w8 (HA.out.2.2.touch T08))
    have H8:=Lib.hid T08
    clear T8 T08
    go_wp2_with (go_at_call 12;fail)
    refine HAW.out.mono ?_
    rintro e w9 ⟨rfl,T9⟩
    have H9:=Lib.hid T9
    clear T9
    go_wp2_with (fail)
    go_returns
    exact ⟨rfl,H8.out.trans H9.out fun _ _ f=>f⟩
end Go.Proofs.YtmnkinaaoifpeaaGreatDoor
