/- A part of the proof that the statement holds for every input that it names. No other condition. -/
import Derived.Test.YtmnkinaaoifpeaaGreatDoorUxStoAZ
import Derived.Test.YtmnkinaaoifpeaaGreatDoorStoreBZ
set_option linter.unusedVariables false
set_option linter.unusedSimpArgs false
namespace Go.Proofs.YtmnkinaaoifpeaaGreatDoor
open Go.RowKit
def SRows (w:World) (v:Value) (l:List (Int×Value)):Prop:= ∃a c,v= .slice a l.length c∧l.length≤c∧∀(i:Nat) (x:Int×Value),l[i]? =some x→(∃b n k,x.2= .slice b n k)∧∃g off,a=some ⟨g,off,none⟩∧g<w.heap.size∧w.cell? ⟨g,off+i*2,none⟩=some (.int .i64 x.1)∧w.cell? ⟨g,off+i*2+1,none⟩=some x.2
theorem SRows.is {w:World} {v:Value} {l:List (Int×Value)} (h:SRows w v l): ∃a c,v= .slice a l.length c∧l.length≤c:=by
 obtain ⟨a,c,e,hc,_⟩:=h
 exact ⟨a,c,e,hc⟩
theorem SRows.at {w W:World} {a:Option Addr} {n c:Nat} {l:List (Int×Value)} (h:SRows w (.slice a n c) l) (T:Ux.Touch (fun b=>w.heap.size≤b) w W) {i:Nat} {x:Int×Value} (hx:l[i]? =some x):(∃b n k,x.2= .slice b n k)∧∃g off,a=some ⟨g,off,none⟩∧g<w.heap.size∧W.cell? ⟨g,off+i*2,none⟩=some (.int .i64 x.1)∧W.cell? ⟨g,off+i*2+1,none⟩=some x.2:=by
 obtain ⟨a',c',e,hc,hr⟩:=h
 cases e
 obtain ⟨h1,g,off,e,hg,c0,c1⟩:=hr i x hx
 exact ⟨h1,g,off,e,hg,T.cell c0 (by show¬_≤g;omega),T.cell c1 (by show¬_≤g;omega)⟩
def ChangeR (tb N1:Nat) (cols:Value) (g:Int→Option Value) (n:Nat) (E:Nat→Int) (Fin:World→Int→Nat→(Int→Option Value)→Option Addr→Nat→Nat→Prop) (w w':World) (e:Ending):Prop:=
 (∃i,i<n∧E i≠0∧(∀j,j<i→E j=0)∧e= .returned (.tuple #[.slice none 0 0,.int .i64 (E i)])∧Ux.Touch (fun b=>w.heap.size≤b) w w')∨
 ((∀j,j<n→E j=0)∧∃wz last' N2 N3 h a k c m,Fin wz last' N2 h a k c∧
   e= .returned (.tuple #[.slice a k k,.int .i64 0])∧w'.heap[tb]? =some (.cells #[cols,.map (some m),.int .i64 last'] 79 (0,0))∧w.heap.size≤m∧N3≤N1+N2∧Ux.MapIs Tryz.prog 3 w' m N3 (Ux.intF (merge g h))∧Ux.Touch (fun b=>b=tb∨w.heap.size≤b) w w'∧Ux.Touch (fun b=>b=tb) wz w')
set_option maxHeartbeats 8000000 in
set_option maxRecDepth 100000 in
theorem change_ (db m1 m2 N:Nat) (fan:Int) (tb mb N1:Nat) (cols:Value) (last:Int) (g:Int→Option Value) (ks:List Int) (l:List (Int×Value)) (v:Value) (E:Nat→Int) (St:Nat→World→Prop) (Fin:World→Int→Nat→(Int→Option Value)→Option Addr→Nat→Nat→Prop) (w:World)
 (hd:Db1 w db m1 m2 N fan tb) (ht:TabR w tb mb N1 cols last g ks) (hap:tb≠db∧tb≠m1∧tb≠m2∧tb≠mb) (hl:SRows w v l) (hn:l.length≤10) (hN1:N1≤1000)
 (h0: ∀W,Ux.Touch (fun _=>False) w W→W.heap[w.heap.size+1]? =some (.cells #[.pointer (some ⟨tb,0,none⟩),.map (some w.heap.size),.int .i64 last,.slice none 0 0] 81 (0,0))→Ux.MapIs Tryz.prog 3 W w.heap.size 0 (fun _=>none)→St 0 W)
 (hs: ∀i W W',St i W→Ux.Touch (fun _=>False) W W'→St i W')
 (hrow: ∀i x W,l[i]? =some x→St i W→Ux.Touch (fun b=>w.heap.size≤b) w W→Calls Tryz.prog 23 #[.pointer (some ⟨w.heap.size+1,0,none⟩),.agg #[.int .i64 x.1,x.2]] W fun e W'=>e= .returned (.int .i64 (E i))∧(E i=0→St (i+1) W')∧Ux.Touch (fun b=>w.heap.size≤b) W W')
 (hend: ∀W,St l.length W→∃last' N2 h a k c,Fin W last' N2 h a k c∧k≤c∧k≤10000∧N2≤1000∧W.heap[w.heap.size+1]? =some (.cells #[.pointer (some ⟨tb,0,none⟩),.map (some w.heap.size),.int .i64 last',.slice a k c] 81 (0,0))∧Ux.MapIs Tryz.prog 3 W w.heap.size N2 (Ux.intF h)∧(∀x v,h x=some v→∃a n c,v= .slice a n c)∧∀x v,h x=some v→-9223372036854775808≤x∧x≤9223372036854775807):
 Calls Tryz.prog 9 #[.pointer (some ⟨db,0,none⟩),.string ⟨#[116]⟩,v] w fun e w'=>ChangeR tb N1 cols g l.length E Fin w w' e:=by
 obtain ⟨a,c,rfl,hac⟩:=hl.is
 obtain ⟨n,hnn⟩: ∃n,l.length=n:=⟨_,rfl⟩
 rw [hnn] at hn hac hend⊢
 have c1:=cell_of_row w db 1 _ _ (0,0) hd.db.row
 have d2:=cell_of_row w tb 2 _ _ (0,0) ht.row
 simp at c1 d2
 have HL:=Lib.hid hd.look
 have HA:=Lib.hid (And.intro hd (And.intro ht (And.intro hap (And.intro hl (And.intro hnn (And.intro hN1 hn))))))
 have HQ:=Lib.hid (And.intro h0 (And.intro hs (And.intro hrow hend)))
 obtain ⟨bs,hbs⟩: ∃b,w.heap.size=b:=⟨_,rfl⟩
 rw [hbs] at HQ
 have HB:=Lib.hid hbs
 have hmm:= @run_makeMap Tryz.prog
 have n0:(n:Int)≤10:=by omega
 clear hd ht hap hl hnn h0 hs hrow hend hN1 hn hac
 go_enter Tryz.func9,Tryz.ntmps9
 go_upto_region 4 with (at_lookup;refine Ux.wpList_look rfl _ _ 70 rfl rfl rfl HL.out ?_)
 obtain ⟨W1,hW1⟩: ∃W,w.alloc (.map #[] 0)=W:=⟨_,rfl⟩
 have hM1:Ux.MapIs Tryz.prog 3 W1 bs 0 (fun _=>none):=by rw [←hW1,←hbs];exact Ux.MapIs.made w _ _
 have t1:Ux.Touch (fun _=>False) w W1:=by rw [←hW1];exact (Ux.Touch.refl _ _).alloc _
 have e2:=t1.cell d2 (fun f=>f)
 have hs1:W1.heap.size=bs+1:=by rw [←hW1,World.size_alloc,hbs]
 obtain ⟨W2,hW2⟩: ∃W,W1.alloc (.cells #[.pointer (some ⟨tb,0,none⟩),.map (some bs),.int .i64 last,.slice none 0 0] 81)=W:=⟨_,rfl⟩
 have t2:Ux.Touch (fun _=>False) W1 W2:=by rw [←hW2];exact (Ux.Touch.refl _ _).alloc _
 have r2:W2.heap[bs+1]? =some (.cells #[.pointer (some ⟨tb,0,none⟩),.map (some bs),.int .i64 last,.slice none 0 0] 81 (0,0)):=by rw [←hW2,←hs1];exact heap_alloc_new W1 _
 have T2:=t1.trans t2 fun _ _ f=>f.elim
 have H2:=Lib.hid (And.intro T2 (HQ.out.1 W2 T2 r2 (hM1.touch t2 (fun f=>f))))
 clear hM1 t1 t2 r2 T2 HL
 go_upto_region 5 with (fail)
 clear e2 d2 c1 hs1 hW1 hW2 hbs hmm
 go_wp2_with (fail)
 go_loopg [40] n (fun gk s40 wr=> ∃i:Nat,s40= .int .i64 i∧i+gk=n∧Hid (St i wr∧(∀j,j<i→E j=0)∧Ux.Touch (fun b=>bs≤b) w wr))
 case atStart=>exact ⟨0,rfl,by omega,Lib.hid ⟨H2.out.2,fun j hj=>absurd hj (Nat.not_lt_zero _),H2.out.1.mono fun _ _ f=>f.elim⟩⟩
 case round=>
  obtain ⟨i,rfl,hig,HI⟩:=hrel
  have i0:(0:Int)≤i:=by omega
  by_cases hlt:i<n
  ·obtain ⟨g',rfl⟩: ∃g',gk=g'+1:=⟨gk-1,by omega⟩
   have i1:(i:Int)<n:=by omega
   obtain ⟨x,hx⟩: ∃x,l[i]? =some x:=⟨_,List.getElem?_eq_getElem (by have:=HA.out.2.2.2.2.1;omega)⟩
   have hsl:=HA.out.2.2.2.1
   rw [HA.out.2.2.2.2.1] at hsl
   obtain ⟨⟨vb,vn,vk,hvx⟩,ge,off,rfl,_,y0,y1⟩:=hsl.at (W:=wr) (by rw [HB.out];exact HI.out.2.2) hx
   rw [hvx] at y1
   have HX:=Lib.hid (And.intro hlt (And.intro hig (And.intro hx hvx)))
   obtain ⟨b11,hb11⟩: ∃b,wr.heap.size=b:=⟨_,rfl⟩
   obtain ⟨W3,hW3⟩: ∃W,wr.alloc (.cells #[.int .i64 0,.slice none 0 0] 34)=W:=⟨_,rfl⟩
   have t3:Ux.Touch (fun _=>False) wr W3:=by rw [←hW3];exact (Ux.Touch.refl _ _).alloc _
   have r3:W3.heap[b11]? =some (.cells #[.int .i64 0,.slice none 0 0] 34 (0,0)):=by rw [←hW3,←hb11];exact heap_alloc_new wr _
   have H3:=Lib.hid (And.intro t3 (And.intro r3 hb11))
   clear hsl hx hlt hig hvx t3 r3
   go_wp2_with (refine Ux.is_store 34 rfl ?_;refine Ux.storeN rfl 34 _ _ rfl b11 _ rfl rfl 34 _ H3.out.2.1 (by kernel_rfl) rfl (by simp [Value.oneCell']) ?_)
   intro W4 r4 t4
   have z0:=cell_of_row W4 b11 0 _ _ (0,0) r4
   have z1:=cell_of_row W4 b11 1 _ _ (0,0) r4
   simp at z0 z1
   have t34:Ux.Touch (fun _=>False) wr W4:=H3.out.1.trans t4 fun b hb e=>by have:=H3.out.2.2;omega
   have hc:=HQ.out.2.2.1 i x W4 HX.out.2.2.1 (HQ.out.2.1 i _ _ HI.out.1 t34) (HI.out.2.2.trans t34 fun _ _ f=>f.elim)
   rw [HX.out.2.2.2] at hc
   have HC:=Lib.hid hc
   have H4:=Lib.hid t34
   clear hc t34 r4 t4 y0 y1 hW3 hb11
   go_wp2_with (go_at_call 23;fail)
   refine HC.out.mono ?_
   rintro e w5 ⟨rfl,hst,t5⟩
   clear z0 z1
   have H5:=Lib.hid (And.intro hst (HI.out.2.2.trans (H4.out.mono (R':=fun b=>bs≤b) fun _ _ f=>f.elim) (fun _ _ f=>f)|>.trans t5 fun _ _ f=>f))
   clear hst t5
   obtain ⟨ei,hei⟩: ∃z,E i=z:=⟨_,rfl⟩
   rw [hei]
   by_cases hz:ei=0
   ·subst hz
    go_wp2_with (fail)
    go_roundg g'
    case measure=>omega
    case rel=>
     refine ⟨i+1,rfl,by have:=HX.out.2.1;omega,Lib.hid ⟨H5.out.1 hei,fun j hj=> ?_,H5.out.2⟩⟩
     by_cases hji:j=i
     ·subst hji;exact hei
     ·exact HI.out.2.1 j (by omega)
   ·have z2:(ei==0)=false:=beq_false_of_ne hz
    have HE:=Lib.hid (And.intro hei hz)
    clear hei hz
    go_wp2_with (fail)
    go_returns
    refine .inl ⟨i,HX.out.1,by rw [HE.out.1];exact HE.out.2,HI.out.2.1,by rw [HE.out.1];rfl,?_⟩
    rw [HB.out]
    exact H5.out.2
  ·have i1: ¬(i:Int)<n:=by omega
   obtain rfl:i=n:=by omega
   clear hlt hig
   obtain ⟨last',N2,h,a2,k2,c2,hfin,hk1,hk2,hN2,hr2,hm2,hh2,hh3⟩:=HQ.out.2.2.2 wr HI.out.1
   have htb:tb<bs:=by rw [←HB.out];exact Ux.lt_of_heap HA.out.2.1.row
   have hmb:mb<bs:=by rw [←HB.out];exact HA.out.2.1.map.lt
   have hdb:db<bs:=by rw [←HB.out];exact Ux.lt_of_heap HA.out.1.db.row
   have hm2b:m2<bs:=by rw [←HB.out];exact HA.out.1.db.idx.lt
   have hrt:=HI.out.2.2.heap HA.out.2.1.row (show¬bs≤tb by omega)
   have hmo:=HA.out.2.1.map.touch HI.out.2.2 (show¬bs≤mb by omega)
   have hN1:=HA.out.2.2.2.2.2.1
   have HRW:=Lib.hid (rowsW_ (bs+1) tb bs mb N1 N2 (.int .i64 last') (.int .i64 last) (.slice a2 k2 c2) cols g h wr hr2 hrt hmo hm2 hh2 (by omega) hh3)
   have HD:=Lib.hid (HA.out.1.db.touch HI.out.2.2 (show¬bs≤db by omega) (show¬bs≤m2 by omega))
   have hbw:bs+1<wr.heap.size:=Ux.lt_of_heap hr2
   have HG:=Lib.hid (And.intro hr2 (And.intro hrt (And.intro hm2 (And.intro hk1 (And.intro hk2 (And.intro htb (And.intro hbw hfin)))))))
   clear hfin hk1 hk2 hN2 hr2 hm2 hh2 hh3 htb hmb hdb hm2b hrt hmo hN1 hbw
   go_wp2_with (go_at_call 24;fail)
   refine HRW.out.mono ?_
   rintro e w6 ⟨m,N3,rfl,hm,hN3,hmap,T6⟩
   have HO:=Lib.hid (of0_ db m1 m2 fan ⟨#[116]⟩ w6 (HD.out.touch0 T6))
   have H6:=Lib.hid (And.intro T6 (And.intro hm (And.intro hN3 hmap)))
   clear hm hN3 hmap T6
   go_wp2_with (go_at_call 25;fail)
   refine HO.out.mono ?_
   rintro e w7 ⟨rfl,T7⟩
   have HO7:=Lib.hid (of0_ db m1 m2 fan ⟨#[116]⟩ w7 (HD.out.touch0 (H6.out.1.trans T7 fun _ _ f=>f)))
   have H7:=Lib.hid T7
   clear T7
   go_wp2_with (fail)
   refine wp_loop_rounds 1 ?_
   rw [rounds_succ]
   go_wp2_with (go_at_call 25;fail)
   refine HO7.out.mono ?_
   rintro e w8 ⟨rfl,T8⟩
   have t68:Ux.Touch (fun _=>False) wr w8:=(H6.out.1.trans H7.out fun _ _ f=>f).trans T8 fun _ _ f=>f
   have rW:=t68.heap HG.out.1 (fun f=>f)
   have rT:=t68.heap HG.out.2.1 (fun f=>f)
   have e2:=cell_of_row w8 (bs+1) 2 _ _ (0,0) rW
   have e3:=cell_of_row w8 (bs+1) 3 _ _ (0,0) rW
   have f1:=cell_of_row w8 tb 1 _ _ (0,0) rT
   have f2:=cell_of_row w8 tb 2 _ _ (0,0) rT
   have z1:=Ux.frozen_row rT 1
   have z2:=Ux.frozen_row rT 2
   simp at e2 e3 f1 f2
   have hne:bs+1≠tb:=by have:=HG.out.2.2.2.2.2.1;omega
   have H8:=Lib.hid (And.intro t68 (And.intro rW (And.intro rT (H7.out.trans T8 fun _ _ f=>f))))
   clear T8 t68 rW rT
   go_wp2_with (fail)
   refine wp_loop_rounds 1 ?_
   rw [rounds_succ]
   go_upto_region 31 with (fail)
   go_upto_region 32 with (fail)
   obtain ⟨W9,hW9⟩: ∃W,(w8.setCell ⟨tb,1,none⟩ (.map (some m))).setCell ⟨tb,2,none⟩ (.int .i64 last')=W:=⟨_,rfl⟩
   rw [hW9]
   have t9:Ux.Touch (fun b=>b=tb) w8 W9:=by
    rw [←hW9]
    exact ((Ux.Touch.refl (fun b=>b=tb) _).setCell (p:=⟨tb,1,none⟩) (fun _=>rfl) _).setCell (p:=⟨tb,2,none⟩) (fun _=>rfl) _
   have r9:W9.heap[tb]? =some (.cells #[cols,.map (some m),.int .i64 last'] 79 (0,0)):=by
    rw [←hW9]
    exact Ux.setCell_row (Ux.setCell_row H8.out.2.2.1 1 _) 2 _
   have g3:=t9.cell e3 (show¬bs+1=tb from hne)
   have HC:=Lib.hid (clipI_ a2 k2 c2 W9 HG.out.2.2.2.2.1 HG.out.2.2.2.1)
   have H9:=Lib.hid (And.intro t9 r9)
   clear e2 e3 f1 f2 z1 z2 hne t9 r9 hW9
   go_wp2_with (go_at_call 30;fail)
   refine HC.out.mono ?_
   rintro e w10 ⟨rfl,hw⟩
   obtain rfl:W9=w10:=hw.symm
   clear hw
   go_wp2_with (fail)
   go_returns
   have hb:=HB.out
   have hw6:=HI.out.2.2.size
   refine .inr ⟨HI.out.2.1,wr,last',N2,N3,h,a2,k2,c2,m,HG.out.2.2.2.2.2.2.2,rfl,H9.out.2,?_,H6.out.2.2.1,?_,?_,(H8.out.1.mono (R':=fun b=>b=tb) fun _ _ f=>f.elim).trans H9.out.1 fun _ _ f=>f⟩
   ·have:=H6.out.2.1;omega
   ·refine (H6.out.2.2.2.touch H8.out.2.2.2 (fun f=>f)).touch H9.out.1 ?_
    have:=H6.out.2.1
    have:=HG.out.2.2.2.2.2.1
    have:=HG.out.2.2.2.2.2.2.1
    omega
   ·rw [hb]
    exact ((HI.out.2.2.mono (R':=fun b=>b=tb∨bs≤b) fun _ _ f=> .inr f).trans H8.out.1 fun _ _ f=>f.elim).trans H9.out.1 fun _ _ f=> .inl f
end Go.Proofs.YtmnkinaaoifpeaaGreatDoor
namespace Go.Proofs.YtmnkinaaoifpeaaGreatDoor
open Go.RowKit
open Ux (KGrow VRows Val3)
structure WkR (w:World) (wb tb mb nx:Nat) (cols lt:Value) (last:Int) (N N2:Nat) (g h:Int→Option Value) (ids:Value):Prop where
 row:w.heap[wb]? =some (.cells #[.pointer (some ⟨tb,0,none⟩),.map (some nx),.int .i64 last,ids] 81 (0,0))
 tab:w.heap[tb]? =some (.cells #[cols,.map (some mb),lt] 79 (0,0))
 old:Ux.MapIs Tryz.prog 3 w mb N (Ux.intF g)
 new:Ux.MapIs Tryz.prog 3 w nx N2 (Ux.intF h)
set_option maxHeartbeats 8000000 in
set_option maxRecDepth 100000 in
theorem rowBad_ (wb tb mb nx:Nat) (cols lt:Value) (last:Int) (N N2:Nat) (g h:Int→Option Value) (ids:Value) (cs:List (Int×Bool)) (l:List Ux.Val3) (v:Value) (w:World) (hw:WkR w wb tb mb nx cols lt last N N2 g h ids) (hc:ColRows w cols cs) (hv:VRows w v l) (hl:l.length≤100) (hcl:cs.length≤100) (hne:l≠[]) (hr:fitsT cs l≠0) (h0:h 0=none):
 Calls Tryz.prog 23 #[.pointer (some ⟨wb,0,none⟩),.agg #[.int .i64 0,v]] w fun e w'=>FitsR (fitsT cs l) w w' e:=by
 obtain ⟨a,c,rfl,hac⟩:=hv.is
 obtain ⟨n,hn⟩: ∃n,l.length=n:=⟨_,rfl⟩
 rw [hn]
 obtain ⟨b3,hb3⟩: ∃b,w.heap.size=b:=⟨_,rfl⟩
 obtain ⟨W1,hW1⟩: ∃W,w.alloc (.cells #[.int .i64 0,.slice a n c] 34)=W:=⟨_,rfl⟩
 have t1:Ux.Touch (fun _=>False) w W1:=by rw [←hW1];exact (Ux.Touch.refl _ _).alloc _
 have r1:W1.heap[b3]? =some (.cells #[.int .i64 0,.slice a n c] 34 (0,0)):=by rw [←hW1,←hb3];exact heap_alloc_new w _
 have x0:=cell_of_row W1 b3 0 _ _ (0,0) r1
 have x1:=cell_of_row W1 b3 1 _ _ (0,0) r1
 have c0:=t1.cell (a:=⟨wb,0,none⟩) (v:= .pointer (some ⟨tb,0,none⟩)) (by rw [cell_of_row w wb 0 _ _ (0,0) hw.row];rfl) (fun f=>f)
 have c1:=t1.cell (a:=⟨wb,1,none⟩) (v:= .map (some nx)) (by rw [cell_of_row w wb 1 _ _ (0,0) hw.row];rfl) (fun f=>f)
 simp at x0 x1
 have hk0:=keyRI (c:=0) (by decide) (by decide)
 have HLK:=Lib.hid fun W (T:Ux.Touch (fun _=>False) W1 W)=>(hw.new.touch (t1.trans T fun _ _ f=>f.elim) (fun f=>f)).lookOk keyedRI Tryz.underlying77 (zeroVS W) hk0
 have hf0:(Ux.intF h (.int .i64 0))=none:=h0
 rw [hf0] at HLK
 have HS:=Lib.hid fun W (T:Ux.Touch (fun _=>False) W1 W)=>And.intro (T.cell x0 (fun f=>f)) (And.intro (T.cell x1 (fun f=>f)) (And.intro (T.cell c0 (fun f=>f)) (T.cell c1 (fun f=>f))))
 have HF:=Lib.hid fun W (T:Ux.Touch (fun _=>False) W1 W)=>fits_ tb cols (.map (some mb)) lt cs l (.slice a n c) W ((t1.trans T fun _ _ f=>f.elim).heap hw.tab (fun f=>f)) (hc.touch0 (t1.trans T fun _ _ f=>f.elim)) (by rw [←hn] at*;exact hv.touch0 (t1.trans T fun _ _ f=>f.elim)) hl hcl
 have n0:(n:Int)≤100:=by omega
 have n1:((n:Int)==0)=false:=beq_false_of_ne (by have:=List.length_pos_iff.2 hne;omega)
 obtain ⟨r,hrr⟩: ∃r,fitsT cs l=r:=⟨_,rfl⟩
 rw [hrr] at HF hr⊢
 have r9:(r !=0)=true:=by simpa using hr
 have HT:=Lib.hid t1
 clear hw hc hv hl hcl hne hr h0 t1 r1 hk0 hf0 hac hn hrr
 go_enter Tryz.func23,Tryz.ntmps23
 go_upto_region 1 with (fail)
 go_cut [5,6] (fun s5 s6 wx=>s5= .slice none 0 0∧s6= .bool false∧Hid (Ux.Touch (fun _=>False) W1 wx))
 case first=>
  obtain ⟨wk,hwk⟩: ∃W,W1.drew=W:=⟨_,rfl⟩
  have Tk:=Lib.hid (show Ux.Touch (fun _=>False) W1 wk by rw [←hwk];exact (Ux.Touch.refl _ _).drew)
  refine Ux.wpr (fun _ w'=>w'.cell? ⟨b3,0,none⟩=some (.int .i64 0)∧w'.cell? ⟨b3,1,none⟩=some (.slice a n c)∧w'.cell? ⟨wb,0,none⟩=some (.pointer (some ⟨tb,0,none⟩))∧w'.cell? ⟨wb,1,none⟩=some (.map (some nx))) (.q [0,1,2,4] (.h false [3,5] (.e 6 true false (.q [7,8,9,10] (.line [11]))))) ?_;repeat ((with_reducible refine Ux.qg ?_);refine Ux.qu ?_)
  have hlk:(Instr.lookup 77 (.map (some nx)) (.int .i64 0) true).run Tryz.prog wk= .ok (.tuple #[.slice none 0 0,.bool false]) wk:=HLK.out wk Tk.out
  go_wp2_with (fail)
  clear hlk
  refine ⟨HS.out _ Tk.out,?_⟩
  repeat ((with_reducible refine Ux.qg ?_);refine Ux.qu ?_)
  go_wp2_with (fail)
  go_meet
  exact ⟨rfl,rfl,Tk⟩
 obtain ⟨rfl,rfl,HC1⟩:=hcut
 clear x0 x1 c0 c1 hW1 hb3
 obtain ⟨x0,x1,c0,c1⟩:=HS.out _ HC1.out
 go_upto_region 2 with (fail)
 go_cut [36] (fun s36 wx=>s36= .bool false∧Hid (Ux.Touch (fun _=>False) W1 wx))
 case first=>
  refine Ux.wpr (fun _ w'=>w'.cell? ⟨b3,0,none⟩=some (.int .i64 0)∧w'.cell? ⟨b3,1,none⟩=some (.slice a n c)∧w'.cell? ⟨wb,0,none⟩=some (.pointer (some ⟨tb,0,none⟩))∧w'.cell? ⟨wb,1,none⟩=some (.map (some nx))) (.q [0] (.h false [1] (.q [2,3,4,5,6,7,8,13] (.h false [9,14] (.q [10,11] (.h false [12] (.e 15 true false (.q [16,17,18] (.line []))))))))) ?_;repeat ((with_reducible refine Ux.qg ?_);refine Ux.qu ?_)
  go_wp2_with (fail)
  refine ⟨HS.out _ HC1.out.drew,?_⟩
  repeat ((with_reducible refine Ux.qg ?_);refine Ux.qu ?_)
  go_wp2_with (fail)
  go_meet
  exact ⟨rfl,Lib.hid HC1.out.drew⟩
 obtain ⟨rfl,HC2⟩:=hcut
 clear x0 x1 c0 c1
 obtain ⟨x0,x1,c0,c1⟩:=HS.out _ HC2.out
 go_upto_region 10 with (fail)
 go_cut [7] (fun s7 wx=>s7= .int .i64 r∧Hid (Ux.Touch (fun _=>False) W1 wx))
 case first=>
  refine Ux.wpr (fun _ w'=>w'.cell? ⟨b3,0,none⟩=some (.int .i64 0)∧w'.cell? ⟨b3,1,none⟩=some (.slice a n c)∧w'.cell? ⟨wb,0,none⟩=some (.pointer (some ⟨tb,0,none⟩))∧w'.cell? ⟨wb,1,none⟩=some (.map (some nx))) (.q [0,1,2,4] (.h false [3,5] (.e 6 false false (.line [7])))) ?_;repeat ((with_reducible refine Ux.qg ?_);refine Ux.qu ?_)
  have HFF:=Lib.hid (HF.out _ HC2.out.drew)
  go_wp2_with (go_at_call 55;fail)
  refine HFF.out.mono ?_
  rintro e w' ⟨rfl,T6⟩
  have H6:=Lib.hid T6
  clear T6
  go_wp2_with (fail)
  go_meet
  exact ⟨rfl,Lib.hid (HC2.out.drew.trans H6.out fun _ _ f=>f.elim)⟩
 obtain ⟨rfl,HC3⟩:=hcut
 clear x0 x1 c0 c1
 go_wp2_with (fail)
 go_returns
 exact ⟨rfl,HT.out.trans HC3.out fun _ _ f=>f.elim⟩
end Go.Proofs.YtmnkinaaoifpeaaGreatDoor
namespace Go.Proofs.YtmnkinaaoifpeaaGreatDoor
open Go.RowKit
open Ux (KGrow VRows Val3)
theorem infoInt:(Tryz.prog.info? 3).map (fun i=>(i.zero,i.size,i.bytes))=some (some (.int .i64 0),1,8):=by kernel_rfl
def RowGoodR (wb tb mb nx lo:Nat) (cols lt:Value) (last:Int) (N N2:Nat) (g h:Int→Option Value) (ids:Value) (ns:List Int) (l:List Ux.Val3) (w w':World) (e:Ending):Prop:=
 e= .returned (.int .i64 0)∧∃v' ids',(∃q c,v'= .slice (some ⟨q,0,none⟩) l.length c)∧VOwn w' w.heap.size v' l∧WkR w' wb tb mb nx cols lt (last+1) N (N2+1) g (fun x=>if x=last+1 then some v' else h x) ids'∧Ux.Grow w' lo 3 ids' (Ux.iv (ns++ [last+1]))∧Ux.Touch (fun b=>b=wb∨b=nx∨(lo≤b∧ids.ownBlock=some b)) w w'
set_option maxHeartbeats 8000000 in
set_option maxRecDepth 100000 in
theorem rowGood_ (wb tb mb nx lo:Nat) (cols lt:Value) (last:Int) (N N2:Nat) (g h:Int→Option Value) (ids:Value) (ns:List Int) (cs:List (Int×Bool)) (l:List Ux.Val3) (v:Value) (w0 w:World) (hw:WkR w wb tb mb nx cols lt last N N2 g h ids) (hc:ColRows w cols cs) (hv:VRows w0 v l) (T0:Ux.Touch (fun _=>False) w0 w) (h00:w0.heap.size≤nx) (hl:l.length≤100) (hcl:cs.length≤100) (hne:l≠[]) (hr:fitsT cs l=0) (h0:h 0=none)
 (hI:Ux.Grow w lo 3 ids (Ux.iv ns)) (ho:tb<nx∧mb<nx∧nx<wb∧wb<lo∧lo≤w.heap.size) (hla:0≤last∧last≤100000) (hN2:N2≤1000) (hns:ns.length≤1000):
 Calls Tryz.prog 23 #[.pointer (some ⟨wb,0,none⟩),.agg #[.int .i64 0,v]] w fun e w'=>RowGoodR wb tb mb nx lo cols lt last N N2 g h ids ns l w w' e:=by
 have HA:=Lib.hid (And.intro hw (And.intro hv (And.intro hI (And.intro ho (And.intro hla (And.intro hN2 (And.intro hns (And.intro hl (And.intro hne (And.intro T0 h00))))))))))
 obtain ⟨ai,ni,ci,rfl,_⟩:=hI.is
 obtain ⟨a,c,rfl,hac⟩:=hv.is
 obtain ⟨n,hn⟩: ∃n,l.length=n:=⟨_,rfl⟩
 rw [hn]
 obtain ⟨b3,hb3⟩: ∃b,w.heap.size=b:=⟨_,rfl⟩
 obtain ⟨W1,hW1⟩: ∃W,w.alloc (.cells #[.int .i64 0,.slice a n c] 34)=W:=⟨_,rfl⟩
 have t1:Ux.Touch (fun _=>False) w W1:=by rw [←hW1];exact (Ux.Touch.refl _ _).alloc _
 have r1:W1.heap[b3]? =some (.cells #[.int .i64 0,.slice a n c] 34 (0,0)):=by rw [←hW1,←hb3];exact heap_alloc_new w _
 have x0:=cell_of_row W1 b3 0 _ _ (0,0) r1
 have x1:=cell_of_row W1 b3 1 _ _ (0,0) r1
 have c0:=t1.cell (a:=⟨wb,0,none⟩) (v:= .pointer (some ⟨tb,0,none⟩)) (by rw [cell_of_row w wb 0 _ _ (0,0) hw.row];rfl) (fun f=>f)
 have c1:=t1.cell (a:=⟨wb,1,none⟩) (v:= .map (some nx)) (by rw [cell_of_row w wb 1 _ _ (0,0) hw.row];rfl) (fun f=>f)
 simp at x0 x1
 have hk0:=keyRI (c:=0) (by decide) (by decide)
 have HLK:=Lib.hid fun W (T:Ux.Touch (fun _=>False) W1 W)=>(hw.new.touch (t1.trans T fun _ _ f=>f.elim) (fun f=>f)).lookOk keyedRI Tryz.underlying77 (zeroVS W) hk0
 have hf0:(Ux.intF h (.int .i64 0))=none:=h0
 rw [hf0] at HLK
 have HS:=Lib.hid fun W (T:Ux.Touch (fun _=>False) W1 W)=>And.intro (T.cell x0 (fun f=>f)) (And.intro (T.cell x1 (fun f=>f)) (And.intro (T.cell c0 (fun f=>f)) (T.cell c1 (fun f=>f))))
 have HF:=Lib.hid fun W (T:Ux.Touch (fun _=>False) W1 W)=>fits_ tb cols (.map (some mb)) lt cs l (.slice a n c) W ((t1.trans T fun _ _ f=>f.elim).heap hw.tab (fun f=>f)) (hc.touch0 (t1.trans T fun _ _ f=>f.elim)) (by rw [←hn] at*;exact hv.touch0 (T0.trans (t1.trans T fun _ _ f=>f.elim) fun _ _ f=>f.elim)) hl hcl
 have n0:(n:Int)≤100:=by omega
 have n1:((n:Int)==0)=false:=beq_false_of_ne (by have:=List.length_pos_iff.2 hne;omega)
 obtain ⟨r,hrr⟩: ∃r,fitsT cs l=r:=⟨_,rfl⟩
 rw [hrr] at HF hr
 subst hr
 have HT:=Lib.hid t1
 have HR1:=Lib.hid (And.intro r1 hb3)
 have l0:=hla.1
 have l1:=hla.2
 have HN:=Lib.hid hn
 clear T0 h00 hw hc hv hl hcl hne h0 hI ho hla hN2 hns t1 r1 hk0 hf0 hac hn hrr
 go_enter Tryz.func23,Tryz.ntmps23
 go_upto_region 1 with (fail)
 go_cut [5,6] (fun s5 s6 wx=>s5= .slice none 0 0∧s6= .bool false∧Hid (Ux.Touch (fun _=>False) W1 wx))
 case first=>
  obtain ⟨wk,hwk⟩: ∃W,W1.drew=W:=⟨_,rfl⟩
  have Tk:=Lib.hid (show Ux.Touch (fun _=>False) W1 wk by rw [←hwk];exact (Ux.Touch.refl _ _).drew)
  refine Ux.wpr (fun _ w'=>w'.cell? ⟨b3,0,none⟩=some (.int .i64 0)∧w'.cell? ⟨b3,1,none⟩=some (.slice a n c)∧w'.cell? ⟨wb,0,none⟩=some (.pointer (some ⟨tb,0,none⟩))∧w'.cell? ⟨wb,1,none⟩=some (.map (some nx))) (.q [0,1,2,4] (.h false [3,5] (.e 6 true false (.q [7,8,9,10] (.line [11]))))) ?_;repeat ((with_reducible refine Ux.qg ?_);refine Ux.qu ?_)
  have hlk:(Instr.lookup 77 (.map (some nx)) (.int .i64 0) true).run Tryz.prog wk= .ok (.tuple #[.slice none 0 0,.bool false]) wk:=HLK.out wk Tk.out
  go_wp2_with (fail)
  clear hlk
  refine ⟨HS.out _ Tk.out,?_⟩
  repeat ((with_reducible refine Ux.qg ?_);refine Ux.qu ?_)
  go_wp2_with (fail)
  go_meet
  exact ⟨rfl,rfl,Tk⟩
 obtain ⟨rfl,rfl,HC1⟩:=hcut
 clear x0 x1 c0 c1 hW1 hb3
 obtain ⟨x0,x1,c0,c1⟩:=HS.out _ HC1.out
 go_upto_region 2 with (fail)
 go_cut [36] (fun s36 wx=>s36= .bool false∧Hid (Ux.Touch (fun _=>False) W1 wx))
 case first=>
  refine Ux.wpr (fun _ w'=>w'.cell? ⟨b3,0,none⟩=some (.int .i64 0)∧w'.cell? ⟨b3,1,none⟩=some (.slice a n c)∧w'.cell? ⟨wb,0,none⟩=some (.pointer (some ⟨tb,0,none⟩))∧w'.cell? ⟨wb,1,none⟩=some (.map (some nx))) (.q [0] (.h false [1] (.q [2,3,4,5,6,7,8,13] (.h false [9,14] (.q [10,11] (.h false [12] (.e 15 true false (.q [16,17,18] (.line []))))))))) ?_;repeat ((with_reducible refine Ux.qg ?_);refine Ux.qu ?_)
  go_wp2_with (fail)
  refine ⟨HS.out _ HC1.out.drew,?_⟩
  repeat ((with_reducible refine Ux.qg ?_);refine Ux.qu ?_)
  go_wp2_with (fail)
  go_meet
  exact ⟨rfl,Lib.hid HC1.out.drew⟩
 obtain ⟨rfl,HC2⟩:=hcut
 clear x0 x1 c0 c1
 obtain ⟨x0,x1,c0,c1⟩:=HS.out _ HC2.out
 go_upto_region 10 with (fail)
 go_cut [7] (fun s7 wx=>s7= .int .i64 0∧Hid (Ux.Touch (fun _=>False) W1 wx))
 case first=>
  refine Ux.wpr (fun _ w'=>w'.cell? ⟨b3,0,none⟩=some (.int .i64 0)∧w'.cell? ⟨b3,1,none⟩=some (.slice a n c)∧w'.cell? ⟨wb,0,none⟩=some (.pointer (some ⟨tb,0,none⟩))∧w'.cell? ⟨wb,1,none⟩=some (.map (some nx))) (.q [0,1,2,4] (.h false [3,5] (.e 6 false false (.line [7])))) ?_;repeat ((with_reducible refine Ux.qg ?_);refine Ux.qu ?_)
  have HFF:=Lib.hid (HF.out _ HC2.out.drew)
  go_wp2_with (go_at_call 55;fail)
  refine HFF.out.mono ?_
  rintro e w' ⟨rfl,T6⟩
  have H6:=Lib.hid T6
  clear T6
  go_wp2_with (fail)
  go_meet
  exact ⟨rfl,Lib.hid (HC2.out.drew.trans H6.out fun _ _ f=>f.elim)⟩
 obtain ⟨rfl,HC3⟩:=hcut
 clear x0 x1 c0 c1
 obtain ⟨x0,x1,c0,c1⟩:=HS.out _ HC3.out
 have TC:=HT.out.trans HC3.out fun _ _ f=>f.elim
 have rW:=TC.heap HA.out.1.row (fun f=>f)
 have rB:=HC3.out.heap HR1.out.1 (fun f=>f)
 have c2:=cell_of_row wc wb 2 _ _ (0,0) rW
 have z2:=Ux.frozen_row rW 2
 have zB:=Ux.frozen_row rB 0
 simp at c2
 have HX:=Lib.hid (And.intro TC (And.intro rW rB))
 clear TC rW rB
 go_upto_region 16 with (fail)
 obtain ⟨W5,hW5⟩: ∃W,(wc.setCell ⟨wb,2,none⟩ (.int .i64 (last+1))).setCell ⟨b3,0,none⟩ (.int .i64 (last+1))=W:=⟨_,rfl⟩
 rw [hW5]
 have hb3:wb<lo∧lo≤b3∧nx<wb∧tb<nx∧mb<nx:=by
  have h1:=HR1.out.2
  have h2:=HA.out.2.2.2.1
  omega
 have T5:Ux.Touch (fun b=>b=wb∨b=b3) wc W5:=by
  rw [←hW5]
  exact ((Ux.Touch.refl _ _).setCell (p:=⟨wb,2,none⟩) (fun _=> .inl rfl) _).setCell (p:=⟨b3,0,none⟩) (fun _=> .inr rfl) _
 have q1:W5.heap[wb]? =some (.cells #[.pointer (some ⟨tb,0,none⟩),.map (some nx),.int .i64 (last+1),.slice ai ni ci] 81 (0,0)):=by
  rw [←hW5,heap_setCell_other _ _ _ _ (show wb≠b3 by omega)]
  exact Ux.setCell_row HX.out.2.1 2 _
 have q3:W5.heap[b3]? =some (.cells #[.int .i64 (last+1),.slice a n c] 34 (0,0)):=by
  have h0:(wc.setCell ⟨wb,2,none⟩ (.int .i64 (last+1))).heap[b3]? =some (.cells #[.int .i64 0,.slice a n c] 34 (0,0)):=by
   rw [heap_setCell_other _ _ _ _ (show b3≠wb by omega)]
   exact HX.out.2.2
  rw [←hW5]
  exact Ux.setCell_row h0 0 _
 have T05:Ux.Touch (fun b=>b=wb∨b=b3) w W5:=(HX.out.1.mono fun _ _ f=>f.elim).trans T5 fun _ _ f=>f
 have hnew:=HA.out.1.new.touch T05 (by omega)
 have hvv:VRows W5 (.slice a n c) l:=by
  have h0:=HA.out.2.1
  rw [HN.out] at h0
  exact h0.touch0 ((HA.out.2.2.2.2.2.2.2.2.2.1.trans T05 fun b hb e=>by have:=HA.out.2.2.2.2.2.2.2.2.2.2;have:=HR1.out.2;have:=HA.out.2.2.2.2.2.2.2.2.2.1.size;omega))
 have y0:=cell_of_row W5 b3 0 _ _ (0,0) q3
 have y1:=cell_of_row W5 b3 1 _ _ (0,0) q3
 have y2:=cell_of_row W5 wb 1 _ _ (0,0) q1
 simp at y0 y1 y2
 have HS16:=Lib.hid fun W (T:Ux.Touch (fun _=>False) W5 W)=>And.intro (T.cell y0 (fun f=>f)) (And.intro (T.cell y1 (fun f=>f)) (T.cell y2 (fun f=>f)))
 have HX5:=Lib.hid (And.intro T05 (And.intro q1 (And.intro q3 (And.intro hb3 hnew))))
 have HC5:=Lib.hid fun W (T:Ux.Touch (fun _=>False) W5 W)=>cloneV_ l W (.slice a n c) (hvv.touch0 T) (by have:=HA.out.2.2.2.2.2.2.2.1;omega) HA.out.2.2.2.2.2.2.2.2.1
 have HKY:=Lib.hid (keyRI (c:=last+1) (by omega) (by omega))
 clear hW5 T5 q1 q3 T05 hnew hvv hb3 x0 x1 c0 c1 c2 z2 zB
 go_cut [] (fun wx=> ∃v' w8,(∃q c,v'= .slice (some ⟨q,0,none⟩) n c)∧Hid (VOwn w8 W5.heap.size v' l∧Ux.Touch (fun _=>False) W5 w8∧Ux.Touch (fun b=>b=nx) w8 wx∧Ux.MapIs Tryz.prog 3 wx nx (N2+1) (Ux.upd (Ux.intF h) (.int .i64 (last+1)) v')))
 case first=>
  refine Ux.wpr (fun _ w'=>w'.cell? ⟨b3,0,none⟩=some (.int .i64 (last+1))∧w'.cell? ⟨b3,1,none⟩=some (.slice a n c)∧w'.cell? ⟨wb,1,none⟩=some (.map (some nx))) (.q [0,1,2,4,6] (.h false [3,5,7] (.e 8 true false (.line [9])))) ?_;repeat ((with_reducible refine Ux.qg ?_);refine Ux.qu ?_)
  have T8:=(Ux.Touch.refl (fun _=>False) W5).drew
  have HCC:=Lib.hid (HC5.out _ T8)
  go_wp2_with (go_at_call 41;fail)
  refine HCC.out.mono ?_
  rintro e w8 ⟨v',rfl,hown,hsh,t8⟩
  obtain ⟨q8,c8,hv8⟩:=hsh HA.out.2.2.2.2.2.2.2.2.1
  rw [HN.out] at hv8
  subst hv8
  have T8:=T8.trans t8 fun _ _ f=>f.elim
  have H8:=Lib.hid (And.intro hown T8)
  go_wp2_with (fail)
  refine ⟨HS16.out _ T8,?_⟩
  go_wp2_with (at_mapUpdate;refine Ux.wpList_put (key:= .int .i64 (last+1)) (val:= .slice (some ⟨q8,0,none⟩) n c8) rfl _ _ _ 77 rfl rfl rfl rfl (HX5.out.2.2.2.2.touch T8 (fun f=>f)) keyedRI Tryz.underlying77 (by have:=HA.out.2.2.2.2.2.1;unfold maxLen;omega) HKY.out ?_;intro w9 hm9 ht9;have H9:=Lib.hid (And.intro hm9 ht9);clear hm9 ht9)
  go_meet
  exact ⟨_,w8,⟨q8,c8,rfl⟩,Lib.hid ⟨H8.out.1,H8.out.2,H9.out.2,H9.out.1⟩⟩
 obtain ⟨v',w8,⟨q8,c8,rfl⟩,H8⟩:=hcut
 clear y0 y1 y2
 clear HS HF HLK HS16 HC5 HKY HC1 HC2 HC3
 obtain ⟨h1,h2,h3,h4⟩:=H8.out
 have TB:Ux.Touch (fun b=>b=nx) W5 wc:=(h2.mono fun _ _ f=>f.elim).trans h3 fun _ _ f=>f
 obtain ⟨-,q1,q3,hb3,-⟩:=HX5.out
 have hwb:wb<W5.heap.size:=Ux.lt_of_heap q1
 have rW:=TB.heap q1 (by omega)
 have rB:=TB.heap q3 (by omega)
 have y0:=cell_of_row wc b3 0 _ _ (0,0) rB
 have y3:=cell_of_row wc wb 3 _ _ (0,0) rW
 simp at y0 y3
 have HS17:=Lib.hid fun W (T:Ux.Touch (fun _=>False) wc W)=>And.intro (T.cell y0 (fun f=>f)) (T.cell y3 (fun f=>f))
 have TW:Ux.Touch (fun b=>b=wb∨b=nx) w wc:=((HX5.out.1.mono (R':=fun b=>b=wb∨b=b3∨b=nx) fun _ _ f=>f.elim .inl fun f=> .inr (.inl f)).trans TB fun _ _ f=> .inr (.inr f)).mono fun b hb f=>by
  have:=HR1.out.2
  rcases f with f|f|f
  ·exact .inl f
  ·omega
  ·exact .inr f
 have hG:Ux.Grow wc.drew lo 3 (.slice ai ni ci) (Ux.iv ns):=(HA.out.2.2.1.touch TW fun b hb f=>by have:=HA.out.2.2.2.1;omega).touch0 (Ux.Touch.refl _ _).drew
 obtain ⟨ra,wa,hrun,hG9,t9⟩:=hG.app (P:=Tryz.prog) 22 8 (.int .i64 0) Tryz.underlying22 infoInt rfl 1 [.int .i64 (last+1)] rfl (by simp [Value.oneCell']) (by have:=TW.drew.size;have:=HA.out.2.2.2.1;omega) (by have:=HA.out.2.2.2.2.2.2.1;unfold Ux.iv;simp only [List.length_map,maxLen];omega) (by have:=HA.out.2.2.2.2.2.2.1;unfold Ux.iv;simp only [List.length_map];omega)
 obtain ⟨a9,n9,c9,rfl,-⟩:=hG9.is
 have t9':Ux.Touch (fun b=>lo≤b∧(Value.slice ai ni ci).ownBlock=some b) wc wa:=(Ux.Touch.refl _ _).drew.trans t9 fun _ _ f=>f
 have rW9:=t9'.heap rW (by omega)
 have d3:=cell_of_row wa wb 3 _ _ (0,0) rW9
 simp at d3
 have zW:=Ux.frozen_row rW9 3
 have e0:wa.cell? ⟨b3,0,none⟩=some (.int .i64 (last+1)):=t9'.cell y0 (by rintro ⟨_,e⟩;have h1:=Ux.own_lt HA.out.2.2.1.1 b3 e;have h2:=HR1.out.2;omega)
 have HR9:=Lib.hid (And.intro hrun (And.intro hG9 (And.intro t9' (And.intro rW9 (And.intro e0 d3)))))
 have H17:=Lib.hid (And.intro TB (And.intro rW TW))
 clear h1 h2 h3 h4 TB q1 q3 hwb rW rB TW hG hrun hG9 t9 t9' rW9 hb3
 obtain ⟨bn,hbn⟩: ∃b,wc.drew.heap.size=b:=⟨_,rfl⟩
 rw [hbn] at HR9
 go_upto_region 17 with (fail)
 go_cut [] (fun wx=>wx=wa.setCell ⟨wb,3,none⟩ (.slice a9 n9 c9))
 case first=>
  refine Ux.wpr (fun _ w'=>w'.cell? ⟨b3,0,none⟩=some (.int .i64 (last+1))∧w'.cell? ⟨wb,3,none⟩=some (.slice ai ni ci)) (.q [0,1,2,3,5] (.h false [4,6] (.e 7 true false (.e 8 true false (.line [9,10,11]))))) ?_;repeat ((with_reducible refine Ux.qg ?_);refine Ux.qu ?_)
  have TK:=HS17.out _ ((Ux.Touch.refl (fun _=>False) wc).drew)
  go_wp2_with (fail)
  have TK:=HS17.out _ (((Ux.Touch.refl (fun _=>False) wc).alloc (.cells #[.int .i64 (last+1)] 3)).drew)
  refine ⟨TK,?_⟩
  go_wp2_with (at_builtin;refine Ux.wpList_app (v1:= .slice ai ni ci) (x1:= .slice (some ⟨bn,0,none⟩) 1 1) rfl _ _ _ _ rfl rfl rfl (HR9.out.1 _) ?_)
  have TK:=HR9.out.2.2.2.2
  refine ⟨TK,?_⟩
  go_wp2_with (fail)
  go_meet
  rfl
 subst hcut
 go_wp2_with (fail)
 go_returns
 obtain ⟨h1,h2,h3,h4⟩:=H8.out
 obtain ⟨-,hG9,t9',rW9,-,-⟩:=HR9.out
 obtain ⟨ho1,ho2,ho3,ho4,ho5⟩:=HA.out.2.2.2.1
 have t10:Ux.Touch (fun b=>b=wb) wa (wa.setCell ⟨wb,3,none⟩ (.slice a9 n9 c9)):=(Ux.Touch.refl (fun b=>b=wb) _).setCell (p:=⟨wb,3,none⟩) (fun _=>rfl) _
 have hown:=Ux.own_lt HA.out.2.2.1.1
 have h5:w.heap.size≤W5.heap.size:=HX5.out.1.size
 have TA:Ux.Touch (fun b=>b=wb∨b=nx∨(lo≤b∧(Value.slice ai ni ci).ownBlock=some b)) w (wa.setCell ⟨wb,3,none⟩ (.slice a9 n9 c9)):=((H17.out.2.2.mono (R':=fun b=>b=wb∨b=nx∨(lo≤b∧(Value.slice ai ni ci).ownBlock=some b)) fun _ _ f=>f.elim .inl fun f=> .inr (.inl f)).trans t9' fun _ _ f=> .inr (.inr f)).trans t10 fun _ _ f=> .inl f
 have TC:Ux.Touch (fun b=>b=wb∨(lo≤b∧(Value.slice ai ni ci).ownBlock=some b)) wc (wa.setCell ⟨wb,3,none⟩ (.slice a9 n9 c9)):=(t9'.mono (R':=fun b=>b=wb∨(lo≤b∧(Value.slice ai ni ci).ownBlock=some b)) fun _ _ f=> .inr f).trans t10 fun _ _ f=> .inl f
 refine ⟨rfl,_,_,⟨q8,c8,by rw [HN.out]⟩,?_,⟨Ux.setCell_row rW9 3 _,TA.heap HA.out.1.tab (by omega),HA.out.1.old.touch TA (by omega),(h4.intF).touch TC (by omega)⟩,?_,TA⟩
 ·refine KGrow.mono (KGrow.touch (KGrow.touch h1 h3 fun b hb e=> ?_) TC fun b hb e=> ?_) h5
  ·omega
  ·rcases e with e|⟨_,e⟩
   ·omega
   ·have:=hown b e
    omega
 ·have:=hG9.touch t10 fun b hb e=>by omega
  unfold Ux.iv at this⊢
  rw [List.map_append]
  exact this
end Go.Proofs.YtmnkinaaoifpeaaGreatDoor
namespace Go.Proofs.YtmnkinaaoifpeaaGreatDoor
open Go.RowKit
open Ux (KGrow VRows Val3)
def RowGoneR (wb tb mb nx lo:Nat) (cols lt:Value) (last:Int) (N:Nat) (g:Int→Option Value) (k:Int) (w w':World) (e:Ending):Prop:=
 e= .returned (.int .i64 0)∧∃ids',WkR w' wb tb mb nx cols lt last N 1 g (fun x=>if x=k then some (.slice none 0 0) else none) ids'∧Ux.Grow w' lo 3 ids' (Ux.iv [k])∧Ux.Touch (fun b=>b=wb∨b=nx) w w'
set_option maxHeartbeats 8000000 in
set_option maxRecDepth 100000 in
theorem rowGone_ (wb tb mb nx lo:Nat) (cols lt:Value) (last:Int) (N:Nat) (g:Int→Option Value) (k:Int) (p:Addr) (pn pc:Nat) (w:World) (hw:WkR w wb tb mb nx cols lt last N 0 g (fun _=>none) (.slice none 0 0))
 (hg:g k=some (.slice (some p) pn pc)) (hk1:1≤k) (hk2:k≤100000) (ho:tb<nx∧mb<nx∧nx<wb∧wb<lo∧lo≤w.heap.size):
 Calls Tryz.prog 23 #[.pointer (some ⟨wb,0,none⟩),.agg #[.int .i64 k,.slice none 0 0]] w fun e w'=>RowGoneR wb tb mb nx lo cols lt last N g k w w' e:=by
 have HA:=Lib.hid (And.intro hw ho)
 obtain ⟨b3,hb3⟩: ∃b,w.heap.size=b:=⟨_,rfl⟩
 obtain ⟨W1,hW1⟩: ∃W,w.alloc (.cells #[.int .i64 k,.slice none 0 0] 34)=W:=⟨_,rfl⟩
 have t1:Ux.Touch (fun _=>False) w W1:=by rw [←hW1];exact (Ux.Touch.refl _ _).alloc _
 have r1:W1.heap[b3]? =some (.cells #[.int .i64 k,.slice none 0 0] 34 (0,0)):=by rw [←hW1,←hb3];exact heap_alloc_new w _
 have x0:=cell_of_row W1 b3 0 _ _ (0,0) r1
 have x1:=cell_of_row W1 b3 1 _ _ (0,0) r1
 have rW1:=t1.heap hw.row (fun f=>f)
 have c0:=cell_of_row W1 wb 0 _ _ (0,0) rW1
 have c1:=cell_of_row W1 wb 1 _ _ (0,0) rW1
 have c3:=cell_of_row W1 wb 3 _ _ (0,0) rW1
 have d1:=cell_of_row W1 tb 1 _ _ (0,0) (t1.heap hw.tab (fun f=>f))
 simp at x0 x1 c0 c1 c3 d1
 have hk0:=keyRI (c:=k) (by omega) (by omega)
 have HLK:=Lib.hid fun W (T:Ux.Touch (fun _=>False) W1 W)=>(hw.new.touch (t1.trans T fun _ _ f=>f.elim) (fun f=>f)).lookOk keyedRI Tryz.underlying77 (zeroVS W) hk0
 have HLO:=Lib.hid fun W (T:Ux.Touch (fun _=>False) W1 W)=>(hw.old.touch (t1.trans T fun _ _ f=>f.elim) (fun f=>f)).look keyedRI Tryz.underlying77 (zeroVS W) hk0
 have hf0:(Ux.intF (fun _=>none) (.int .i64 k))=none:=rfl
 have hf1:(Ux.intF g (.int .i64 k))=some (.slice (some p) pn pc):=hg
 rw [hf0] at HLK
 rw [hf1] at HLO
 have HS:=Lib.hid fun W (T:Ux.Touch (fun _=>False) W1 W)=>And.intro (T.cell x0 (fun f=>f)) (And.intro (T.cell c0 (fun f=>f)) (And.intro (T.cell c1 (fun f=>f)) (And.intro (T.cell c3 (fun f=>f)) (And.intro (T.cell d1 (fun f=>f)) (T.cell x1 (fun f=>f))))))
 have HT:=Lib.hid (And.intro t1 (And.intro hb3 (And.intro rW1 hk0)))
 have hkz:(k==0)=false:=beq_false_of_ne (by omega)
 have hkn:(k !=0)=true:=by simp;omega
 clear hw hg ho t1 r1 rW1 hk0 hf0 hf1
 go_enter Tryz.func23,Tryz.ntmps23
 go_upto_region 1 with (fail)
 go_cut [5,6] (fun s5 s6 wx=>s5= .slice none 0 0∧s6= .bool false∧Hid (Ux.Touch (fun _=>False) W1 wx))
 case first=>
  obtain ⟨wk,hwk⟩: ∃W,W1.drew=W:=⟨_,rfl⟩
  have Tk:=Lib.hid (show Ux.Touch (fun _=>False) W1 wk by rw [←hwk];exact (Ux.Touch.refl _ _).drew)
  refine Ux.wpr (fun _ w'=>w'.cell? ⟨b3,0,none⟩=some (.int .i64 k)∧w'.cell? ⟨wb,0,none⟩=some (.pointer (some ⟨tb,0,none⟩))∧w'.cell? ⟨wb,1,none⟩=some (.map (some nx))) (.q [0,1,2,4] (.h false [3,5] (.e 6 true false (.q [7,8,9,10] (.line [11]))))) ?_;repeat ((with_reducible refine Ux.qg ?_);refine Ux.qu ?_)
  have hlk:(Instr.lookup 77 (.map (some nx)) (.int .i64 k) true).run Tryz.prog wk= .ok (.tuple #[.slice none 0 0,.bool false]) wk:=HLK.out wk Tk.out
  go_wp2_with (fail)
  clear hlk
  refine ⟨⟨(HS.out _ Tk.out).1,(HS.out _ Tk.out).2.1,(HS.out _ Tk.out).2.2.1⟩,?_⟩
  repeat ((with_reducible refine Ux.qg ?_);refine Ux.qu ?_)
  go_wp2_with (fail)
  go_meet
  exact ⟨rfl,rfl,Tk⟩
 obtain ⟨rfl,rfl,HC1⟩:=hcut
 clear x0 x1 c0 c1 c3 d1 hW1 hb3
 obtain ⟨x0,c0,c1,c3,d1,x1⟩:=HS.out _ HC1.out
 go_upto_region 2 with (fail)
 go_cut [36] (fun s36 wx=>s36= .bool false∧Hid (Ux.Touch (fun _=>False) W1 wx))
 case first=>
  obtain ⟨wk,hwk⟩: ∃W,wc.drew=W:=⟨_,rfl⟩
  have Tk:=Lib.hid (show Ux.Touch (fun _=>False) W1 wk by rw [←hwk];exact HC1.out.drew)
  refine Ux.wpr (fun _ w'=>w'.cell? ⟨b3,0,none⟩=some (.int .i64 k)∧w'.cell? ⟨wb,0,none⟩=some (.pointer (some ⟨tb,0,none⟩))∧w'.cell? ⟨tb,1,none⟩=some (.map (some mb))) (.q [0] (.h false [1] (.q [2,3,4,5,6,7,8,13] (.h false [9,14] (.q [10,11] (.h false [12] (.e 15 true false (.q [16,17,18] (.line []))))))))) ?_;repeat ((with_reducible refine Ux.qg ?_);refine Ux.qu ?_)
  have hlk:(Instr.lookup 77 (.map (some mb)) (.int .i64 k) false).run Tryz.prog wk= .ok (.slice (some p) pn pc) wk:=HLO.out wk Tk.out
  go_wp2_with (fail)
  clear hlk
  refine ⟨⟨(HS.out _ Tk.out).1,(HS.out _ Tk.out).2.1,(HS.out _ Tk.out).2.2.2.2.1⟩,?_⟩
  repeat ((with_reducible refine Ux.qg ?_);refine Ux.qu ?_)
  go_wp2_with (fail)
  go_meet
  exact ⟨rfl,Tk⟩
 obtain ⟨rfl,HC2⟩:=hcut
 clear x0 x1 c0 c1 c3 d1
 obtain ⟨x0,c0,c1,c3,d1,x1⟩:=HS.out _ HC2.out
 go_upto_region 7 with (fail)
 obtain ⟨W5,hW5⟩: ∃W,wc=W:=⟨_,rfl⟩
 rw [hW5] at x0 c1⊢
 rw [hW5] at HC2
 have HM5:=Lib.hid ((HA.out.1.new.touch (HT.out.1.trans HC2.out fun _ _ f=>f) (fun f=>f)).touch ((Ux.Touch.refl (fun _=>False) W5).drew) (fun f=>f))
 have HS7:=Lib.hid (And.intro x0 c1)
 clear hW5 c0 c3 d1 x1
 go_cut [] (fun wx=>Hid (Ux.Touch (fun b=>b=nx) W5 wx∧Ux.MapIs Tryz.prog 3 wx nx 1 (Ux.upd (Ux.intF (fun _=>none)) (.int .i64 k) (.slice none 0 0))))
 case first=>
  refine Ux.wpr (fun _ w'=>w'.cell? ⟨b3,0,none⟩=some (.int .i64 k)∧w'.cell? ⟨wb,1,none⟩=some (.map (some nx))) (.q [0,1,2,4] (.h false [3,5] (.line [6]))) ?_;repeat ((with_reducible refine Ux.qg ?_);refine Ux.qu ?_)
  go_wp2_with (at_mapUpdate;refine Ux.wpList_put (key:= .int .i64 k) (val:= .slice none 0 0) rfl _ _ _ 77 rfl rfl rfl rfl HM5.out keyedRI Tryz.underlying77 (by unfold maxLen;omega) HT.out.2.2.2 ?_;intro w9 hm9 ht9;have H9:=Lib.hid (And.intro hm9 ht9);clear hm9 ht9)
  go_meet
  exact Lib.hid ⟨(Ux.Touch.refl (fun b=>b=nx) W5).drew.trans H9.out.2 fun _ _ f=>f,H9.out.1⟩
 have H7:=Lib.hid (And.intro hcut.out.1 hcut.out.2)
 clear hcut x0 c1 HLK HLO HM5 HS7
 have TB:=H7.out.1
 have hb3:wb<lo∧lo≤b3∧nx<wb∧tb<nx∧mb<nx:=by
  have h1:=HT.out.2.1
  have h2:=HA.out.2
  omega
 have TW:Ux.Touch (fun b=>b=nx) w wc:=((HT.out.1.trans HC2.out fun _ _ f=>f).mono (R':=fun b=>b=nx) fun _ _ f=>f.elim).trans TB fun _ _ f=>f
 have rW:=(HC2.out.heap HT.out.2.2.1 (fun f=>f))
 have rW:=TB.heap rW (by omega)
 obtain ⟨z0,-,-,-,-,-⟩:=HS.out _ HC2.out
 have y0:=TB.cell z0 (show¬b3=nx by omega)
 have y3:=cell_of_row wc wb 3 _ _ (0,0) rW
 simp at y3
 have HS17:=Lib.hid fun W (T:Ux.Touch (fun _=>False) wc W)=>And.intro (T.cell y0 (fun f=>f)) (T.cell y3 (fun f=>f))
 have hG:Ux.Grow wc.drew lo 3 (.slice none 0 0) (Ux.iv []):=Ux.Grow.nil _ _ _
 obtain ⟨ra,wa,hrun,hG9,t9⟩:=hG.app (P:=Tryz.prog) 22 8 (.int .i64 0) Tryz.underlying22 infoInt rfl 1 [.int .i64 k] rfl (by simp [Value.oneCell']) (by have:=TW.drew.size;have:=HA.out.2;omega) (by unfold Ux.iv;simp [maxLen]) (by unfold Ux.iv;simp)
 obtain ⟨a9,n9,c9,rfl,-⟩:=hG9.is
 have t9':Ux.Touch (fun _=>False) wc wa:=(Ux.Touch.refl _ _).drew.trans t9 fun _ _ f=>by cases f.2
 have rW9:=t9'.heap rW (fun f=>f)
 have e0:=t9'.cell y0 (fun f=>f)
 have d3:=cell_of_row wa wb 3 _ _ (0,0) rW9
 simp at d3
 have zW:=Ux.frozen_row rW9 3
 have HR9:=Lib.hid (And.intro hrun (And.intro hG9 (And.intro t9' (And.intro rW9 (And.intro e0 d3)))))
 have H17:=Lib.hid TW
 clear TB rW TW z0 hG hrun hG9 t9 t9' rW9 hb3 e0
 obtain ⟨bn,hbn⟩: ∃b,wc.drew.heap.size=b:=⟨_,rfl⟩
 rw [hbn] at HR9
 go_upto_region 8 with (fail)
 go_cut [] (fun wx=>wx=wa.setCell ⟨wb,3,none⟩ (.slice a9 n9 c9))
 case first=>
  refine Ux.wpr (fun _ w'=>w'.cell? ⟨b3,0,none⟩=some (.int .i64 k)∧w'.cell? ⟨wb,3,none⟩=some (.slice none 0 0)) (.q [0,1,2,3,5] (.h false [4,6] (.e 7 true false (.e 8 true false (.line [9,10,11]))))) ?_;repeat ((with_reducible refine Ux.qg ?_);refine Ux.qu ?_)
  have TK:=HS17.out _ ((Ux.Touch.refl (fun _=>False) wc).drew)
  go_wp2_with (fail)
  have TK:=HS17.out _ (((Ux.Touch.refl (fun _=>False) wc).alloc (.cells #[.int .i64 k] 3)).drew)
  refine ⟨TK,?_⟩
  go_wp2_with (at_builtin;refine Ux.wpList_app (v1:= .slice none 0 0) (x1:= .slice (some ⟨bn,0,none⟩) 1 1) rfl _ _ _ _ rfl rfl rfl (HR9.out.1 _) ?_)
  have TK:=HR9.out.2.2.2.2
  refine ⟨TK,?_⟩
  go_wp2_with (fail)
  go_meet
  rfl
 subst hcut
 go_wp2_with (fail)
 go_returns
 obtain ⟨-,hG9,t9',rW9,-,-⟩:=HR9.out
 obtain ⟨ho1,ho2,ho3,ho4,ho5⟩:=HA.out.2
 have t10:Ux.Touch (fun b=>b=wb) wa (wa.setCell ⟨wb,3,none⟩ (.slice a9 n9 c9)):=(Ux.Touch.refl (fun b=>b=wb) _).setCell (p:=⟨wb,3,none⟩) (fun _=>rfl) _
 have TC:Ux.Touch (fun b=>b=wb) wc (wa.setCell ⟨wb,3,none⟩ (.slice a9 n9 c9)):=(t9'.mono (R':=fun b=>b=wb) fun _ _ f=>f.elim).trans t10 fun _ _ f=>f
 have TA:Ux.Touch (fun b=>b=wb∨b=nx) w (wa.setCell ⟨wb,3,none⟩ (.slice a9 n9 c9)):=(H17.out.mono (R':=fun b=>b=wb∨b=nx) fun _ _ f=> .inr f).trans TC fun _ _ f=> .inl f
 refine ⟨rfl,_,⟨Ux.setCell_row rW9 3 _,TA.heap HA.out.1.tab (by omega),HA.out.1.old.touch TA (by omega),(H7.out.2.intF).touch TC (by omega)⟩,?_,TA⟩
 exact hG9.touch t10 fun b hb e=>by omega
end Go.Proofs.YtmnkinaaoifpeaaGreatDoor
