/- A part of the proof that the statement holds for every input that it names. No other condition. -/
import Derived.Test.YtmonfaepfbpdpaaRowAZ
set_option linter.unusedVariables false
set_option linter.unusedSimpArgs false
namespace Go.Proofs.Ytmonfaepfbpdpaa
open Go.RowKit
open Ux (i64B ND NRows nodV Nod KGrow SixAt)
def LConjR (A:Nat→Prop) (x:Nod) (w w':World) (e:Ending):Prop:= ∃v,e= .returned v∧NGs w' w.heap.size (fun b=>A b∧b<w.heap.size) v x.conj∧Ux.Touch (fun _=>False) w w'
def LConjC (x:Nod):Prop:= ∀(A:Nat→Prop) (w:World) (u:Value),ND w A x (nodV x u)→x.conj.length≤1000→Calls Try.prog 9 #[nodV x u] w fun e w'=>LConjR A x w w' e
theorem NGs.single {w:World} {A:Nat→Prop} {lo g:Nat} {x:Nod} {a:Option Addr} {c:Nat} (r:w.heap[g]? =some (.cells #[.int .i64 x.kind,.int .i64 x.op,.string x.s,.string x.t,.int .i64 x.n,.slice a x.l.length c] 24 (0,0))) (h:ND w A x (nodV x (.slice a x.l.length c))) (hlo:lo≤g):NGs w lo A (.slice (some ⟨g,0,none⟩) 1 1) [x]:=
 ⟨[.int .i64 x.kind,.int .i64 x.op,.string x.s,.string x.t,.int .i64 x.n,.slice a x.l.length c],⟨⟨rfl,.inr ⟨g,1,_,rfl,Nat.zero_le _,r,Nat.le_refl _,by decide,rfl,rfl⟩⟩,fun b hb=>by cases hb;exact hlo⟩,NLs.one h⟩
theorem NGs.src {w:World} {A:Nat→Prop} {lo:Nat} {a:Option Addr} {n c:Nat} {l:List Nod} (h:NGs w lo A (.slice a n c) l): ∃xs,NLs w A xs l∧Src Try.prog 6 22 (.slice a l.length c) l.length xs w:=by
 obtain ⟨xs,h1,h2⟩:=h
 obtain ⟨a',c',e,hc⟩:=h1.is
 cases e
 exact ⟨xs,h2,Ux.src_at Try.underlying22 6 l.length c a xs h1.len (h2.one_cells h1.len) (fun j u hj=>by
  obtain ⟨g,e,_,c0⟩:=hc j u hj
  exact ⟨g,0,e,by rw [Nat.zero_add];exact c0⟩) (by decide)⟩
set_option maxHeartbeats 8000000 in
set_option maxRecDepth 100000 in
theorem lconj_ (x:Nod):LConjC x:=by
 obtain ⟨m,hm⟩: ∃m,SizeOf.sizeOf x=m:=⟨_,rfl⟩
 induction m using Nat.strongRecOn generalizing x with
 |_ m ih0=>
  have ih: ∀z:Nod,SizeOf.sizeOf z<SizeOf.sizeOf x→LConjC z:=fun z hz=>ih0 _ (by omega) z rfl
  clear ih0 hm
  intro A w u h hlen
  have h':=h.mono (A':=fun g=>A g∧g<w.heap.size) fun g hg hA=>⟨hA,hg⟩
  obtain ⟨v,e,hf,hr⟩:=h'.open
  obtain ⟨a,c,rfl,hc⟩:=hr.is
  obtain rfl:u= .slice a x.l.length c:=by unfold nodV at e;simpa using e
  obtain ⟨n,hn⟩: ∃n,x.l.length=n:=⟨_,rfl⟩
  have n0:(n:Int)≤140737488355328:=by have:=hf.2.2.2.2.2;omega
  have n1:(n:Int)≤c:=by omega
  obtain ⟨W1,hW1⟩: ∃W,w.alloc (.cells #[.int .i64 x.kind,.int .i64 x.op,.string x.s,.string x.t,.int .i64 x.n,.slice a n c] 24)=W:=⟨_,rfl⟩
  obtain ⟨b1,hb1⟩: ∃b,w.heap.size=b:=⟨_,rfl⟩
  have t1:Ux.Touch (fun _=>False) w W1:=by rw [←hW1];exact (Ux.Touch.refl _ _).alloc _
  have r1:W1.heap[b1]? =some (.cells #[.int .i64 x.kind,.int .i64 x.op,.string x.s,.string x.t,.int .i64 x.n,.slice a n c] 24 (0,0)):=by rw [←hW1,←hb1];exact heap_alloc_new w _
  have c0:=cell_of_row W1 b1 0 _ _ (0,0) r1
  have c1:=cell_of_row W1 b1 1 _ _ (0,0) r1
  have c2:=cell_of_row W1 b1 2 _ _ (0,0) r1
  have c3:=cell_of_row W1 b1 3 _ _ (0,0) r1
  have c4:=cell_of_row W1 b1 4 _ _ (0,0) r1
  have c5:=cell_of_row W1 b1 5 _ _ (0,0) r1
  simp at c0 c1 c2 c3 c4 c5
  have hgoal:nodV x (.slice a x.l.length c)= .agg #[.int .i64 x.kind,.int .i64 x.op,.string x.s,.string x.t,.int .i64 x.n,.slice a n c]:=by rw [hn];rfl
  rw [hgoal]
  have hb1':b1<W1.heap.size:=Ux.lt_of_heap r1
  by_cases htwo:x.two
  ·obtain ⟨q1,q2,q3⟩:=(Nod.six_tests x).1 htwo
   obtain ⟨y0,hy0⟩: ∃y,x.l[0]? =some y:=⟨_,List.getElem?_eq_getElem (by have:=htwo.2.2;omega)⟩
   obtain ⟨y1,hy1⟩: ∃y,x.l[1]? =some y:=⟨_,List.getElem?_eq_getElem (by have:=htwo.2.2;omega)⟩
   have hr1:=hr.touch0 t1
   obtain ⟨g2,off2,ua0,uc0,rfl,_,_,d0,d1,d2,d3,d4,d5,hnd0⟩:=hr1.at hy0
   obtain ⟨g2',off2',ua1,uc1,e',_,_,f0,f1,f2,f3,f4,f5,hnd1⟩:=hr1.at hy1
   obtain ⟨rfl,rfl⟩:g2=g2'∧off2=off2':=by cases e';exact ⟨rfl,rfl⟩
   have hcj:=Nod.conj_two htwo hy0 hy1
   obtain rfl:n=2:=by have:=htwo.2.2;omega
   rw [hn] at q3
   have hl01:y0.conj.length≤1000∧y1.conj.length≤1000:=by rw [hcj,List.length_append] at hlen;omega
   have d0:W1.cell? ⟨g2,off2,none⟩=some (.int .i64 y0.kind):=by simpa using d0
   have d1:W1.cell? ⟨g2,off2+1,none⟩=some (.int .i64 y0.op):=by simpa using d1
   have d2:W1.cell? ⟨g2,off2+2,none⟩=some (.string y0.s):=by simpa using d2
   have d3:W1.cell? ⟨g2,off2+3,none⟩=some (.string y0.t):=by simpa using d3
   have d4:W1.cell? ⟨g2,off2+4,none⟩=some (.int .i64 y0.n):=by simpa using d4
   have d5:W1.cell? ⟨g2,off2+5,none⟩=some (.slice ua0 y0.l.length uc0):=by simpa using d5
   have f0:W1.cell? ⟨g2,off2+6,none⟩=some (.int .i64 y1.kind):=by simpa using f0
   have f1:W1.cell? ⟨g2,off2+6+1,none⟩=some (.int .i64 y1.op):=by simpa using f1
   have f2:W1.cell? ⟨g2,off2+6+2,none⟩=some (.string y1.s):=by simpa using f2
   have f3:W1.cell? ⟨g2,off2+6+3,none⟩=some (.string y1.t):=by simpa using f3
   have f4:W1.cell? ⟨g2,off2+6+4,none⟩=some (.int .i64 y1.n):=by simpa using f4
   have f5:W1.cell? ⟨g2,off2+6+5,none⟩=some (.slice ua1 y1.l.length uc1):=by simpa using f5
   have HC0:=Lib.hid fun W (T:Ux.Touch (fun _=>False) W1 W)=>ih y0 (Ux.Nod.lt_l (List.mem_of_getElem? hy0)) (fun g=>A g∧g<w.heap.size) W _ (hnd0.touch0 T) hl01.1
   have HC1:=Lib.hid fun W (T:Ux.Touch (fun _=>False) W1 W)=>ih y1 (Ux.Nod.lt_l (List.mem_of_getElem? hy1)) (fun g=>A g∧g<w.heap.size) W _ (hnd1.touch0 T) hl01.2
   have HK:=Lib.hid (And.intro hcj (And.intro hl01 (And.intro t1 (And.intro hb1 t1.size))))
   have HS:=Lib.hid fun W (T:Ux.Touch (fun _=>False) W1 W)=>And.intro (T.cell c5 (fun f=>f)) (And.intro (T.cell d0 (fun f=>f)) (And.intro (T.cell d1 (fun f=>f)) (And.intro (T.cell d2 (fun f=>f)) (And.intro (T.cell d3 (fun f=>f)) (And.intro (T.cell d4 (fun f=>f)) (And.intro (T.cell d5 (fun f=>f)) (And.intro (T.cell f0 (fun f=>f)) (And.intro (T.cell f1 (fun f=>f)) (And.intro (T.cell f2 (fun f=>f)) (And.intro (T.cell f3 (fun f=>f)) (And.intro (T.cell f4 (fun f=>f)) (T.cell f5 (fun f=>f)))))))))))))
   clear htwo hy0 hy1 e' hcj hlen hl01 hf hr hr1 e h h' ih n0 hnd0 hnd1 hgoal t1 r1 hb1' hn hc
   go_enter Try.func9,Try.ntmps9
   go_upto_region 3 with (fail)
   clear hb1 hW1
   obtain ⟨wk,hwk⟩: ∃W,W1.drew=W:=⟨_,rfl⟩
   have Tk:=Lib.hid (show Ux.Touch (fun _=>False) W1 wk by rw [←hwk];exact (Ux.Touch.refl _ _).drew)
   refine Ux.wpr (fun _ w'=>w'.cell? ⟨b1,5,none⟩=some (.slice (some ⟨g2,off2,none⟩) 2 c)∧w'.cell? ⟨g2,off2,none⟩=some (.int .i64 y0.kind)∧w'.cell? ⟨g2,off2+1,none⟩=some (.int .i64 y0.op)∧w'.cell? ⟨g2,off2+2,none⟩=some (.string y0.s)∧w'.cell? ⟨g2,off2+3,none⟩=some (.string y0.t)∧w'.cell? ⟨g2,off2+4,none⟩=some (.int .i64 y0.n)∧w'.cell? ⟨g2,off2+5,none⟩=some (.slice ua0 y0.l.length uc0)∧w'.cell? ⟨g2,off2+6,none⟩=some (.int .i64 y1.kind)∧w'.cell? ⟨g2,off2+6+1,none⟩=some (.int .i64 y1.op)∧w'.cell? ⟨g2,off2+6+2,none⟩=some (.string y1.s)∧w'.cell? ⟨g2,off2+6+3,none⟩=some (.string y1.t)∧w'.cell? ⟨g2,off2+6+4,none⟩=some (.int .i64 y1.n)∧w'.cell? ⟨g2,off2+6+5,none⟩=some (.slice ua1 y1.l.length uc1)) (.q [0,5] (.h false [1,6] (.q [2,7] (.h false [3,8] (.e 4 true false (.e 9 true false (.e 10 true false (.line [11])))))))) ?_;repeat ((with_reducible refine Ux.qg ?_);refine Ux.qu ?_)
   go_wp2_with (go_at_call 9;fail)
   have hcw:=HC0.out wk Tk.out
   unfold nodV at hcw
   refine hcw.mono ?_
   clear hcw
   rintro e wn ⟨v0,rfl,hv0,Tn⟩
   obtain ⟨a0,k0,rfl,hk0⟩:=hv0.is
   obtain ⟨m0,hm0⟩: ∃n,y0.conj.length=n:=⟨_,rfl⟩
   rw [hm0] at hv0 hk0⊢
   have hsz:=Tk.out.size
   have HV0:=Lib.hid (And.intro (hv0.mono (lo':=W1.heap.size) (A':=fun g=>A g∧g<w.heap.size) hsz fun g _ h=>h.1) hm0)
   have Tk:=Lib.hid (Tk.out.trans Tn fun _ _ f=>f.elim)
   clear hv0 hk0 Tn hsz hm0
   go_wp2_with (fail)
   obtain ⟨wk,rfl⟩: ∃W,W=wn:=⟨_,rfl⟩
   refine ⟨HS.out _ Tk.out,?_⟩
   go_wp2_with (go_at_call 9;fail)
   have hcw:=HC1.out wk Tk.out
   unfold nodV at hcw
   refine hcw.mono ?_
   clear hcw
   rintro e wn ⟨v1,rfl,hv1,Tn⟩
   obtain ⟨a1,k1,rfl,hk1⟩:=hv1.is
   obtain ⟨m1,hm1⟩: ∃n,y1.conj.length=n:=⟨_,rfl⟩
   rw [hm1] at hv1 hk1⊢
   have Tk:=Lib.hid (Tk.out.trans Tn fun _ _ f=>f.elim)
   have hsz:=Tk.out.size
   obtain ⟨ys,hyn,hsrc⟩:=hv1.src
   obtain ⟨r2,wz,hrun,hv2,Tz,_⟩:=(HV0.out.1.touch0 Tn).app _ y1.conj ys hsrc (hyn.mono fun g _ h=>h.1) (fun g hg hA e=>by
    obtain ⟨zs,hkg,_⟩:=HV0.out.1
    have h1:W1.heap.size≤g:=hkg.2 g e
    have h2:g<w.heap.size:=hA.2
    have h3:=HK.out.2.2.2.2
    omega) hsz (by have:=HK.out.2.1;omega) (by have:=HK.out.2.1;omega)
   obtain ⟨a2,k2,rfl,hk2⟩:=hv2.is
   have hTz:Ux.Touch (fun _=>False) W1 wz:=Tk.out.trans Tz fun b hb e=>by omega
   rw [hm1] at hrun
   have HV2:=Lib.hid (And.intro hrun (And.intro hv2 hTz))
   obtain ⟨m2,hm2⟩: ∃n,(y0.conj++y1.conj).length=n:=⟨_,rfl⟩
   rw [hm2] at HV2
   clear hv1 hk1 Tn hsz hm1 hsrc hyn hrun hv2 Tz hTz hm2 hk2
   go_wp2_with (fail)
   obtain ⟨wk,rfl⟩: ∃W,W=wn:=⟨_,rfl⟩
   refine ⟨HS.out _ Tk.out,?_⟩
   go_wp2_with (at_builtin;refine Ux.wpList_app (v1:= .slice a0 m0 k0) (x1:= .slice a1 m1 k1) rfl _ _ _ _ rfl rfl rfl (HV2.out.1 _) ?_)
   have Tk:=Lib.hid HV2.out.2.2
   obtain ⟨wk,rfl⟩: ∃W,W=wz:=⟨_,rfl⟩
   refine ⟨HS.out _ Tk.out,?_⟩
   go_wp2_with (fail)
   go_returns
   exact ⟨_,rfl,by rw [HK.out.1];exact HV2.out.2.1.mono (by have:=HK.out.2.2.2.2;omega) fun g _ h=>h.1,HK.out.2.2.1.trans HV2.out.2.2 fun _ _ f=>f.elim⟩
  ·have hcj:=Nod.conj_one htwo
   have HN:=Lib.hid (And.intro (h'.touch0 t1) (And.intro hn (And.intro hcj t1)))
   have HW:=Lib.hid htwo
   clear h h' e hf hr hcj ih hlen htwo hgoal hc
   obtain ⟨z0,hz0⟩: ∃b,(x.kind !=6)=b:=⟨_,rfl⟩
   cases z0 with
   |true=>
    obtain ⟨g9,hg9⟩: ∃X,W1.heap.size=X:=⟨_,rfl⟩
    obtain ⟨wn,hwn⟩: ∃W,W1.alloc (.cells #[.int .i64 x.kind,.int .i64 x.op,.string x.s,.string x.t,.int .i64 x.n,.slice a n c] 24)=W:=⟨_,rfl⟩
    have Tn:Ux.Touch (fun _=>False) W1 wn:=by rw [←hwn];exact (Ux.Touch.refl _ _).alloc _
    have r9:wn.heap[g9]? =some (.cells #[.int .i64 x.kind,.int .i64 x.op,.string x.s,.string x.t,.int .i64 x.n,.slice a x.l.length c] 24 (0,0)):=by rw [←hwn,←hg9,HN.out.2.1];exact heap_alloc_new W1 _
    have HR:=Lib.hid (And.intro (NGs.single (lo:=w.heap.size) r9 (HN.out.1.touch0 Tn) (by omega)) (HN.out.2.2.2.trans Tn fun _ _ f=>f.elim))
    clear Tn r9 r1 t1 hb1'
    go_enter Try.func9,Try.ntmps9
    go_wp2_with (fail)
    go_returns
    exact ⟨_,rfl,by rw [HN.out.2.2.1];exact HR.out.1,HR.out.2⟩
   |false=>
    obtain ⟨z1,hz1⟩: ∃b,(x.op !=18)=b:=⟨_,rfl⟩
    cases z1 with
    |true=>
     obtain ⟨g9,hg9⟩: ∃X,W1.heap.size=X:=⟨_,rfl⟩
     obtain ⟨wn,hwn⟩: ∃W,W1.alloc (.cells #[.int .i64 x.kind,.int .i64 x.op,.string x.s,.string x.t,.int .i64 x.n,.slice a n c] 24)=W:=⟨_,rfl⟩
     have Tn:Ux.Touch (fun _=>False) W1 wn:=by rw [←hwn];exact (Ux.Touch.refl _ _).alloc _
     have r9:wn.heap[g9]? =some (.cells #[.int .i64 x.kind,.int .i64 x.op,.string x.s,.string x.t,.int .i64 x.n,.slice a x.l.length c] 24 (0,0)):=by rw [←hwn,←hg9,HN.out.2.1];exact heap_alloc_new W1 _
     have HR:=Lib.hid (And.intro (NGs.single (lo:=w.heap.size) r9 (HN.out.1.touch0 Tn) (by omega)) (HN.out.2.2.2.trans Tn fun _ _ f=>f.elim))
     clear Tn r9 r1 t1 hb1'
     go_enter Try.func9,Try.ntmps9
     go_wp2_with (fail)
     go_returns
     exact ⟨_,rfl,by rw [HN.out.2.2.1];exact HR.out.1,HR.out.2⟩
    |false=>
     have hz2:((n:Int) !=2)=true:=by
      cases hb:((n:Int) !=2) with
      |true=>rfl
      |false=>exact absurd ((Nod.six_tests x).2 ⟨hz0,hz1,by rw [HN.out.2.1];exact hb⟩) HW.out
     obtain ⟨g9,hg9⟩: ∃X,W1.heap.size=X:=⟨_,rfl⟩
     obtain ⟨wn,hwn⟩: ∃W,W1.alloc (.cells #[.int .i64 x.kind,.int .i64 x.op,.string x.s,.string x.t,.int .i64 x.n,.slice a n c] 24)=W:=⟨_,rfl⟩
     have Tn:Ux.Touch (fun _=>False) W1 wn:=by rw [←hwn];exact (Ux.Touch.refl _ _).alloc _
     have r9:wn.heap[g9]? =some (.cells #[.int .i64 x.kind,.int .i64 x.op,.string x.s,.string x.t,.int .i64 x.n,.slice a x.l.length c] 24 (0,0)):=by rw [←hwn,←hg9,HN.out.2.1];exact heap_alloc_new W1 _
     have HR:=Lib.hid (And.intro (NGs.single (lo:=w.heap.size) r9 (HN.out.1.touch0 Tn) (by omega)) (HN.out.2.2.2.trans Tn fun _ _ f=>f.elim))
     clear Tn r9 r1 t1 hb1'
     go_enter Try.func9,Try.ntmps9
     go_wp2_with (fail)
     go_returns
     exact ⟨_,rfl,by rw [HN.out.2.2.1];exact HR.out.1,HR.out.2⟩
end Go.Proofs.Ytmonfaepfbpdpaa
namespace Go.Proofs.Ytmonfaepfbpdpaa
open Go.RowKit
open Ux (i64B ND NRows nodV Nod KGrow SixAt)
def JoinR (A:Nat→Prop) (x:Nod) (w w':World) (e:Ending):Prop:= ∃b,e= .returned (.pointer (some ⟨b,0,none⟩))∧NAt w' (fun g=>A g∨w.heap.size≤g) b 0 x∧Ux.Touch (fun _=>False) w w'
theorem ND.and2 {w:World} {A:Nat→Prop} {g:Nat} {x y:Nod} {a a':Option Addr} {c c':Nat} (r:w.heap[g]? =some (.cells #[.int .i64 x.kind,.int .i64 x.op,.string x.s,.string x.t,.int .i64 x.n,.slice a x.l.length c,.int .i64 y.kind,.int .i64 y.op,.string y.s,.string y.t,.int .i64 y.n,.slice a' y.l.length c'] 24 (0,0))) (hA:A g) (hx:ND w A x (nodV x (.slice a x.l.length c))) (hy:ND w A y (nodV y (.slice a' y.l.length c'))):ND w A (Nod.and2 x y) (nodV (Nod.and2 x y) (.slice (some ⟨g,0,none⟩) 2 2)):=by
 refine ND.of_rows ⟨(by decide: -9223372036854775808≤(6:Int)∧(6:Int)≤9223372036854775807),(by decide: -9223372036854775808≤(18:Int)∧(18:Int)≤9223372036854775807),(by decide: -9223372036854775808≤(0:Int)∧(0:Int)≤9223372036854775807),Nat.zero_le _,Nat.zero_le _,(by decide:2≤140737488355328)⟩ ⟨_,2,rfl,Nat.le_refl 2,fun i z hz=> ?_⟩
 match i with
 |0=>cases hz;exact ⟨_,six_row r hA 0 _ _ _ _ _ _ rfl rfl rfl rfl rfl rfl,hx⟩
 |1=>cases hz;exact ⟨_,six_row r hA 1 _ _ _ _ _ _ rfl rfl rfl rfl rfl rfl,hy⟩
 |i+2=>simp [Nod.and2,Nod.l] at hz
set_option maxHeartbeats 8000000 in
set_option maxRecDepth 100000 in
theorem join_ (x0:Nod) (t:List Nod) (A:Nat→Prop) (w:World) (v:Value) (hr:NRows w A (x0::t) v) (hl:(x0::t).length≤140737488355328):Calls Try.prog 10 #[v] w fun e w'=>JoinR A (Nod.joinT x0 t) w w' e:=by
 have hr:=hr.mono (A':=fun g=>A g∧g<w.heap.size) fun g hg hA=>⟨hA,hg⟩
 obtain ⟨a,c,rfl,hc⟩:=hr.is
 obtain ⟨k,hk⟩: ∃k,t.length=k:=⟨_,rfl⟩
 obtain ⟨n,hn⟩: ∃n,(x0::t).length=n:=⟨_,rfl⟩
 have hkn:n=k+1:=by rw [←hn,←hk];rfl
 rw [hn] at hl hc
 have n0:(n:Int)≤140737488355328:=by omega
 have n1:(n:Int)≤c:=by omega
 have n2:((n:Int)==0)=false:=beq_false_of_ne (by omega)
 have n3:(0:Int)<n:=by omega
 have n4:(1:Int)≤n:=by omega
 obtain ⟨g,off,ua,uc,rfl,_,_,d0,d1,d2,d3,d4,d5,hnd0⟩:=hr.at (i:=0) (y:=x0) rfl
 have HR:=Lib.hid (And.intro hr (And.intro hk (And.intro hn hkn)))
 have d0:w.cell? ⟨g,off,none⟩=some (.int .i64 x0.kind):=by simpa using d0
 have d1:w.cell? ⟨g,off+1,none⟩=some (.int .i64 x0.op):=by simpa using d1
 have d2:w.cell? ⟨g,off+2,none⟩=some (.string x0.s):=by simpa using d2
 have d3:w.cell? ⟨g,off+3,none⟩=some (.string x0.t):=by simpa using d3
 have d4:w.cell? ⟨g,off+4,none⟩=some (.int .i64 x0.n):=by simpa using d4
 have d5:w.cell? ⟨g,off+5,none⟩=some (.slice ua x0.l.length uc):=by simpa using d5
 obtain ⟨b3,hb3⟩: ∃b,w.heap.size=b:=⟨_,rfl⟩
 obtain ⟨W1,hW1⟩: ∃W,w.alloc (.cells #[.int .i64 0,.int .i64 0,.string ⟨#[]⟩,.string ⟨#[]⟩,.int .i64 0,.slice none 0 0] 24)=W:=⟨_,rfl⟩
 have r1:W1.heap[b3]? =some (.cells #[.int .i64 0,.int .i64 0,.string ⟨#[]⟩,.string ⟨#[]⟩,.int .i64 0,.slice none 0 0] 24 (0,0)):=by rw [←hW1,←hb3];exact heap_alloc_new w _
 have t1:Ux.Touch (fun _=>False) w W1:=by rw [←hW1];exact (Ux.Touch.refl _ _).alloc _
 rw [hn]
 have HB:=Lib.hid hb3
 clear hr hk hl hc hn
 by_cases hc1:c=1
 ·subst hc1
  obtain rfl:n=1:=by omega
  have hk0:k=0:=by omega
  have ht:t= []:=List.eq_nil_of_length_eq_zero (by have:=HR.out.2.1;omega)
  have HT0:=Lib.hid ht
  clear hk0 ht n0 n1 n2 n3 n4 hkn
  go_enter Try.func10,Try.ntmps10
  go_wp2_with (refine Ux.is_store 24 rfl ?_;refine Ux.store6 rfl 24 _ _ rfl b3 _ _ _ _ _ _ rfl rfl 24 _ _ _ _ _ _ r1 (by kernel_rfl) (Ux.six_one _ _ _ _ _ _ _ _) ?_)
  intro W2 r2 t2
  have T02:Ux.Touch (fun _=>False) w W2:=t1.trans (R:=fun _=>False) t2 fun b hb e=>by omega
  have H2:=Lib.hid (And.intro T02 (And.intro r2 hnd0))
  clear hW1 r1 t1 t2 T02 r2 hnd0 d0 d1 d2 d3 d4 d5 hb3
  go_wp2_with (fail)
  refine wp_loop_rounds 1 ?_
  rw [rounds_succ]
  go_wp2_with (fail)
  go_returns
  refine ⟨b3,rfl,?_,H2.out.1⟩
  rw [HT0.out]
  exact NAt.row H2.out.2.1 ((H2.out.2.2.touch0 H2.out.1).mono fun b _ hb=> .inl hb.1) (.inr (by have:=HB.out;omega))
 have hc2: ¬c=1:=hc1
 have hc3: ¬(c:Int)=1:=by omega
 clear hc1
 go_enter Try.func10,Try.ntmps10
 go_wp2_with (refine Ux.is_store 24 rfl ?_;refine Ux.store6 rfl 24 _ _ rfl b3 _ _ _ _ _ _ rfl rfl 24 _ _ _ _ _ _ r1 (by kernel_rfl) (Ux.six_one _ _ _ _ _ _ _ _) ?_)
 intro W2 r2 t2
 have T02:Ux.Touch (fun _=>False) w W2:=t1.trans (R:=fun _=>False) t2 fun b hb e=>by omega
 have H2:=Lib.hid (And.intro T02 (And.intro r2 (And.intro hnd0 HR.out)))
 clear hW1 r1 t1 t2 T02 r2 hnd0 d0 d1 d2 d3 d4 d5 hb3
 go_wp2_with (fail)
 go_loopg [15] k (fun gk s15 wr=> ∃i:Nat,s15= .int .i64 i∧i+gk=k∧Hid (∃z ua uc,wr.heap[b3]? =some (.cells #[.int .i64 z.kind,.int .i64 z.op,.string z.s,.string z.t,.int .i64 z.n,.slice ua z.l.length uc] 24 (0,0))∧ND wr (fun g=>(A g∧g<w.heap.size)∨b3<g) z (nodV z (.slice ua z.l.length uc))∧z=Nod.joinT x0 (t.take i)∧Ux.Touch (fun b=>b=b3) W2 wr))
 case atStart=>exact ⟨0,rfl,by omega,Lib.hid ⟨x0,ua,uc,H2.out.2.1,(H2.out.2.2.1.touch0 H2.out.1).mono fun _ _ h=> .inl h,by rw [List.take_zero];rfl,Ux.Touch.refl _ _⟩⟩
 case round=>
  obtain ⟨i,rfl,hig,HI⟩:=hrel
  obtain ⟨z,za,zc,rz,hz,hzj,TI⟩:=HI.out
  have i0:(0:Int)≤i:=by omega
  by_cases hlt:i<k
  ·obtain ⟨g',rfl⟩: ∃g',gk=g'+1:=⟨gk-1,by omega⟩
   have i1:(i:Int)<k:=by omega
   obtain ⟨y,hy⟩: ∃y,t[i]? =some y:=⟨_,List.getElem?_eq_getElem (by have:=HR.out.2.1;omega)⟩
   have hrw:=(HR.out.1.touch0 H2.out.1).touch TI fun g' _ hg' e=>by have:=hg'.2;have:=HB.out;omega
   obtain ⟨g',off',va,vc,e',hAg,_,f0,f1,f2,f3,f4,f5,hny⟩:=hrw.at (i:=i+1) (y:=y) hy
   obtain ⟨rfl,rfl⟩:g=g'∧off=off':=by cases e';exact ⟨rfl,rfl⟩
   have eo:off+(i+1)*6=off+6+i*6:=by omega
   rw [eo] at f0 f1 f2 f3 f4 f5
   obtain ⟨b5,hb5⟩: ∃b,wr.heap.size=b:=⟨_,rfl⟩
   obtain ⟨Z5,hZ5⟩: ∃W,wr.alloc (.cells #[.int .i64 0,.int .i64 0,.string ⟨#[]⟩,.string ⟨#[]⟩,.int .i64 0,.slice none 0 0] 24)=W:=⟨_,rfl⟩
   have rz5:Z5.heap[b5]? =some (.cells #[.int .i64 0,.int .i64 0,.string ⟨#[]⟩,.string ⟨#[]⟩,.int .i64 0,.slice none 0 0] 24 (0,0)):=by rw [←hZ5,←hb5];exact heap_alloc_new wr _
   have tz5:Ux.Touch (fun _=>False) wr Z5:=by rw [←hZ5];exact (Ux.Touch.refl _ _).alloc _
   have hb35:b3<b5:=by have:=Ux.lt_of_heap rz;omega
   have HY:=Lib.hid (And.intro hy (And.intro hny (And.intro hz (And.intro hzj (And.intro TI (And.intro hlt hig))))))
   have HB5:=Lib.hid (And.intro hb35 (And.intro hb5 rz))
   clear hy hny hz hzj TI hlt hig hrw e' hAg eo hb35 HI rz
   go_wp2_with (refine Ux.is_store 24 rfl ?_;refine Ux.store6 rfl 24 _ _ rfl b5 _ _ _ _ _ _ rfl rfl 24 _ _ _ _ _ _ rz5 (by kernel_rfl) (Ux.six_one _ _ _ _ _ _ _ _) ?_)
   intro W5 r5 t5
   have u5':Ux.Touch (fun _=>False) wr W5:=tz5.trans (R:=fun _=>False) t5 fun b hb e=>by have:=HB5.out.2.1;omega
   have rz3:=u5'.heap HB5.out.2.2 (fun f=>f)
   have HU:=Lib.hid (And.intro u5' rz3)
   clear hZ5 hb5 rz5 tz5 t5 u5' f0 f1 f2 f3 f4 f5
   have p0:=row6 r5 0
   have p1:=row6 r5 1
   have p2:=row6 r5 2
   have p3:=row6 r5 3
   have p4:=row6 r5 4
   have p5:=row6 r5 5
   have q0:=row6 rz3 0
   have q1:=row6 rz3 1
   have q2:=row6 rz3 2
   have q3:=row6 rz3 3
   have q4:=row6 rz3 4
   have q5:=row6 rz3 5
   simp at p0 p1 p2 p3 p4 p5 q0 q1 q2 q3 q4 q5
   clear r5 rz3
   obtain ⟨g9,hg9⟩: ∃X,W5.heap.size=X:=⟨_,rfl⟩
   obtain ⟨wn,hwn⟩: ∃W,W5.alloc (.cells #[.int .i64 z.kind,.int .i64 z.op,.string z.s,.string z.t,.int .i64 z.n,.slice za z.l.length zc,.int .i64 y.kind,.int .i64 y.op,.string y.s,.string y.t,.int .i64 y.n,.slice va y.l.length vc] 24)=W:=⟨_,rfl⟩
   have Tn:Ux.Touch (fun _=>False) W5 wn:=by rw [←hwn];exact (Ux.Touch.refl _ _).alloc _
   have r9:wn.heap[g9]? =some (.cells #[.int .i64 z.kind,.int .i64 z.op,.string z.s,.string z.t,.int .i64 z.n,.slice za z.l.length zc,.int .i64 y.kind,.int .i64 y.op,.string y.s,.string y.t,.int .i64 y.n,.slice va y.l.length vc] 24 (0,0)):=by rw [←hwn,←hg9];exact heap_alloc_new W5 _
   have hb9:b3<g9:=by have:=HB5.out.1;have:=HU.out.1.size;have:=HB5.out.2.1;omega
   have r3n:=Tn.heap HU.out.2 (fun f=>f)
   have Twn:Ux.Touch (fun _=>False) wr wn:=HU.out.1.trans Tn fun _ _ f=>f.elim
   have hnew:=ND.and2 (A:=fun g=>(A g∧g<w.heap.size)∨b3<g) r9 (.inr hb9) (HY.out.2.2.1.touch0 Twn) ((HY.out.2.1.touch0 Twn).mono fun _ _ h=> .inl h)
   have H9:=Lib.hid (And.intro hnew (And.intro Twn hb9))
   clear Tn r9 hb9 Twn hnew
   go_wp2_with (refine Ux.is_store 24 rfl ?_;refine Ux.store6 rfl 24 _ _ rfl b3 _ _ _ _ _ _ rfl rfl 24 _ _ _ _ _ _ r3n (by kernel_rfl) (Ux.six_one _ _ _ _ _ _ _ _) ?_)
   intro W6 r6 t6
   have H6:=Lib.hid (And.intro r6 t6)
   clear hwn hg9 r3n r6 t6
   go_wp2_with (fail)
   go_roundg g'
   case measure=>omega
   case rel=>
    refine ⟨i+1,rfl,by have:=HY.out.2.2.2.2.2;omega,Lib.hid ⟨Nod.and2 z y,some ⟨g9,0,none⟩,2,H6.out.1,H9.out.1.touch H6.out.2 fun g hg h e=> ?_,?_,(HY.out.2.2.2.2.1.trans H9.out.2.1 fun _ _ f=>f.elim).trans H6.out.2 fun _ _ e=>e⟩⟩
    ·rcases h with h|h
     ·have:=h.2;have:=HB.out;omega
     ·omega
    ·rw [Nod.joinT_take HY.out.1,←HY.out.2.2.2.1]
  ·have i1: ¬(i:Int)<k:=by omega
   have hfin:Nod.joinT x0 (t.take i)=Nod.joinT x0 t:=by rw [List.take_of_length_le (by have:=HR.out.2.1;omega)]
   have HZ:=Lib.hid (And.intro rz (And.intro hz (And.intro (hzj.trans hfin) TI)))
   clear hlt rz hz hzj TI HI hfin
   go_wp2_with (fail)
   go_returns
   refine ⟨b3,rfl,?_,H2.out.1.trans (R:=fun _=>False) HZ.out.2.2.2 fun b hb e=>by have:=HB.out;omega⟩
   rw [←HZ.out.2.2.1]
   exact NAt.row HZ.out.1 (HZ.out.2.1.mono fun b _ hb=>by rcases hb with hb|hb;exact .inl hb.1;exact .inr (by have:=HB.out;omega)) (.inr (by have:=HB.out;omega))
end Go.Proofs.Ytmonfaepfbpdpaa
