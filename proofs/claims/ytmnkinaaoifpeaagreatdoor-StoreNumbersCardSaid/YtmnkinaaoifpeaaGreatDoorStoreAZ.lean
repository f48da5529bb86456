/- A part of the proof that the statement holds for every input that it names. No other condition. -/
import Derived.Test.YtmnkinaaoifpeaaGreatDoorUxMemAZ
import Derived.Test.YtmnkinaaoifpeaaGreatDoorUxStoAZ
import Derived.Test.YtmnkinaaoifpeaaGreatDoorRows
import Derived.Handy
import Derived.Laws.EntriesVeiled
import Derived.WalkSpells
import Derived.WalkLawsBesides
import Derived.BigQuiet
import Derived.Deep.Cut
import Derived.Deep.DeepCutAuto
import Derived.Lib.Overlaps
import Derived.Lib.Hide
import Derived.Test.YtmnkinaaoifpeaaGreatDoorUxCollAZ
import Derived.Test.YtmnkinaaoifpeaaGreatDoorUxFewZ
set_option linter.unusedVariables false
set_option linter.unusedSimpArgs false
namespace Go.Proofs.YtmnkinaaoifpeaaGreatDoor
open Go.RowKit
def cS (kd lv:Int) (sh bk:Bool) (tb:Option Addr):Value:= .agg #[.int .i64 kd,.int .i64 lv,.bool sh,.bool bk,.pointer tb]
def okS (kd lv:Int) (tb:Option Addr):Bool:=decide (kd=1∨kd=2)||(decide (kd=3)&&tb.isSome&&decide (1≤lv∧lv≤3))
def boolS (b:Bool) (w w':World) (e:Ending):Prop:=e= .returned (.bool b)∧Ux.Touch (fun _=>False) w w'
set_option maxHeartbeats 8000000 in
set_option maxRecDepth 100000 in
theorem cokS_ (kd lv:Int) (sh bk:Bool) (tb:Option Addr) (w:World) (hok:okS kd lv tb=true):Calls Tryz.prog 34 #[cS kd lv sh bk tb] w fun e w'=>boolS true w w' e:=by
 unfold cS
 have HT:=Lib.hid (Ux.Touch.refl (fun _=>False) w)
 by_cases k1:kd=1
 ·subst k1
  clear hok
  go_enter Tryz.func34,Tryz.ntmps34
  go_wp2_with (fail)
  go_returns
  exact ⟨rfl,HT.out.alloc _⟩
 ·by_cases k2:kd=2
  ·subst k2
   clear hok
   go_enter Tryz.func34,Tryz.ntmps34
   go_wp2_with (fail)
   go_returns
   exact ⟨rfl,HT.out.alloc _⟩
  ·unfold okS at hok
   have hd:decide (kd=1∨kd=2)=false:=by simp [k1,k2]
   rw [hd] at hok
   simp only [Bool.false_or,Bool.and_eq_true,decide_eq_true_eq] at hok
   obtain ⟨⟨rfl,h2⟩,h3,h4⟩:=hok
   cases tb with
   |none=>cases h2
   |some p=>
    have h3:lv≥1:=h3
    clear k1 k2 hd h2
    go_enter Tryz.func34,Tryz.ntmps34
    go_wp2_with (fail)
    go_returns
    exact ⟨rfl,HT.out.alloc _⟩
def colS (nm cn:ByteArray) (ty kd lv:Int) (sh bk:Bool) (tb:Option Addr) (nn:Bool):Array Value:= #[.string nm,.string cn,.int .i64 ty,.int .i64 kd,.int .i64 lv,.bool sh,.bool bk,.pointer tb,.bool nn]
set_option maxHeartbeats 8000000 in
set_option maxRecDepth 100000 in
theorem good_ (nm cn:ByteArray) (ty kd lv:Int) (sh bk:Bool) (tb:Option Addr) (nn:Bool) (w:World) (h1:1≤ty) (h3:ty≤3) (hok:okS kd lv tb=true):Calls Tryz.prog 45 #[.agg (colS nm cn ty kd lv sh bk tb nn)] w fun e w'=>boolS true w w' e:=by
 have HC:=Lib.hid fun w=>cokS_ kd lv sh bk tb w hok
 have h1:ty≥1:=h1
 have HT:=Lib.hid (Ux.Touch.refl (fun _=>False) w)
 clear hok
 unfold colS
 obtain ⟨b1,hb1⟩: ∃b,w.heap.size=b:=⟨_,rfl⟩
 obtain ⟨W1,hW1⟩: ∃W,w.alloc (.cells #[.string nm,.string cn,.int .i64 ty,.int .i64 kd,.int .i64 lv,.bool sh,.bool bk,.pointer tb,.bool nn] 45)=W:=⟨_,rfl⟩
 have r1:W1.heap[b1]? =some (.cells #[.string nm,.string cn,.int .i64 ty,.int .i64 kd,.int .i64 lv,.bool sh,.bool bk,.pointer tb,.bool nn] 45 (0,0)):=by rw [←hW1,←hb1];exact heap_alloc_new w _
 have t1:Ux.Touch (fun _=>False) w W1:=by rw [←hW1];exact (Ux.Touch.refl _ _).alloc _
 have c0:=cell_of_row W1 b1 0 _ _ (0,0) r1
 have c1:=cell_of_row W1 b1 1 _ _ (0,0) r1
 have c2:=cell_of_row W1 b1 2 _ _ (0,0) r1
 have c3:=cell_of_row W1 b1 3 _ _ (0,0) r1
 have c4:=cell_of_row W1 b1 4 _ _ (0,0) r1
 have c5:=cell_of_row W1 b1 5 _ _ (0,0) r1
 have c6:=cell_of_row W1 b1 6 _ _ (0,0) r1
 have c7:=cell_of_row W1 b1 7 _ _ (0,0) r1
 have c8:=cell_of_row W1 b1 8 _ _ (0,0) r1
 simp at c0 c1 c2 c3 c4 c5 c6 c7 c8
 have H1:=Lib.hid t1
 clear t1 r1
 go_enter Tryz.func45,Tryz.ntmps45
 go_wp2_with (go_at_call 34;fail)
 have hcw:=HC.out W1
 unfold cS at hcw
 refine hcw.mono ?_
 clear hcw
 rintro e wn ⟨rfl,Tn⟩
 have HN:=Lib.hid (H1.out.trans Tn fun _ _ f=>f.elim)
 clear Tn
 go_wp2_with (fail)
 go_returns
 exact ⟨rfl,HN.out⟩
set_option maxHeartbeats 8000000 in
set_option maxRecDepth 100000 in
theorem bad1_ (nm cn:ByteArray) (ty kd lv:Int) (sh bk:Bool) (tb:Option Addr) (nn:Bool) (w:World) (h1:1≤ty) (h3:ty≤3) (hok:okS kd lv tb=true):Calls Tryz.prog 44 #[.agg (colS nm cn ty kd lv sh bk tb nn)] w fun e w'=>boolS false w w' e:=by
 have HC:=Lib.hid fun w=>good_ nm cn ty kd lv sh bk tb nn w h1 h3 hok
 clear hok h1 h3
 unfold colS at HC⊢
 obtain ⟨b1,hb1⟩: ∃b,w.heap.size=b:=⟨_,rfl⟩
 obtain ⟨W1,hW1⟩: ∃W,w.alloc (.cells #[.string nm,.string cn,.int .i64 ty,.int .i64 kd,.int .i64 lv,.bool sh,.bool bk,.pointer tb,.bool nn] 45)=W:=⟨_,rfl⟩
 have r1:W1.heap[b1]? =some (.cells #[.string nm,.string cn,.int .i64 ty,.int .i64 kd,.int .i64 lv,.bool sh,.bool bk,.pointer tb,.bool nn] 45 (0,0)):=by rw [←hW1,←hb1];exact heap_alloc_new w _
 have t1:Ux.Touch (fun _=>False) w W1:=by rw [←hW1];exact (Ux.Touch.refl _ _).alloc _
 have c0:=cell_of_row W1 b1 0 _ _ (0,0) r1
 have c1:=cell_of_row W1 b1 1 _ _ (0,0) r1
 have c2:=cell_of_row W1 b1 2 _ _ (0,0) r1
 have c3:=cell_of_row W1 b1 3 _ _ (0,0) r1
 have c4:=cell_of_row W1 b1 4 _ _ (0,0) r1
 have c5:=cell_of_row W1 b1 5 _ _ (0,0) r1
 have c6:=cell_of_row W1 b1 6 _ _ (0,0) r1
 have c7:=cell_of_row W1 b1 7 _ _ (0,0) r1
 have c8:=cell_of_row W1 b1 8 _ _ (0,0) r1
 simp at c0 c1 c2 c3 c4 c5 c6 c7 c8
 have H1:=Lib.hid t1
 clear t1 r1
 go_enter Tryz.func44,Tryz.ntmps44
 go_wp2_with (go_at_call 45;fail)
 refine (HC.out W1).mono ?_
 rintro e wn ⟨rfl,Tn⟩
 have HN:=Lib.hid (H1.out.trans Tn fun _ _ f=>f.elim)
 clear Tn
 go_wp2_with (fail)
 go_returns
 exact ⟨rfl,HN.out⟩
theorem clipI_ (a:Option Addr) (n c:Nat) (w:World) (hn:n≤10000) (hc:n≤c):Calls Tryz.prog 30 #[.slice a n c] w fun e w'=>e= .returned (.slice a n n)∧w'=w:=by
 have k1:(n:Int)≤10000:=by omega
 have k2:(n:Int)≤c:=by omega
 go_enter Tryz.func30,Tryz.ntmps30
 go_wp2_with (fail)
 go_returns
 exact ⟨rfl,rfl⟩
def valS (k n:Int) (s:ByteArray):Array Value:= #[.int .i64 k,.int .i64 n,.string s]
set_option maxHeartbeats 8000000 in
set_option maxRecDepth 100000 in
theorem intV_ (n:Int) (w:World):Calls Tryz.prog 7 #[.int .i64 n] w fun e w'=>e= .returned (.agg (valS 2 n ⟨#[]⟩))∧Ux.Touch (fun _=>False) w w':=by
 obtain ⟨W2,hW2⟩: ∃W,w.alloc (.cells #[.int .i64 0,.int .i64 0,.string ⟨#[]⟩] 26)=W:=⟨_,rfl⟩
 obtain ⟨b2,hb2⟩: ∃b,w.heap.size=b:=⟨_,rfl⟩
 have t2:Ux.Touch (fun _=>False) w W2:=by rw [←hW2];exact (Ux.Touch.refl _ _).alloc _
 have r2:W2.heap[b2]? =some (.cells #[.int .i64 0,.int .i64 0,.string ⟨#[]⟩] 26 (0,0)):=by rw [←hW2,←hb2];exact heap_alloc_new w _
 have HT:=Lib.hid (And.intro t2 hb2)
 clear t2
 go_enter Tryz.func7,Tryz.ntmps7
 go_wp2_with (refine Ux.is_store 26 rfl ?_;refine Ux.storeN rfl 26 _ _ rfl b2 _ rfl rfl 26 _ r2 (by kernel_rfl) rfl (by simp [Value.oneCell']) ?_)
 intro W4 r4 t4
 clear r2
 go_wp2_with (fail)
 refine bodyPost_ret (results_cell_row Tryz.results7 _ _ b2 26 _ (0,0) _ rfl r4 Tryz.underlying26 rfl (by kernel_rfl)) rfl ?_
 exact ⟨rfl,HT.out.1.trans (R:=fun _=>False) t4 fun b hb e=>by have:=HT.out.2;omega⟩
set_option maxHeartbeats 8000000 in
set_option maxRecDepth 100000 in
theorem txtV_ (s:ByteArray) (w:World):Calls Tryz.prog 8 #[.string s] w fun e w'=>e= .returned (.agg (valS 3 0 s))∧Ux.Touch (fun _=>False) w w':=by
 obtain ⟨W2,hW2⟩: ∃W,w.alloc (.cells #[.int .i64 0,.int .i64 0,.string ⟨#[]⟩] 26)=W:=⟨_,rfl⟩
 obtain ⟨b2,hb2⟩: ∃b,w.heap.size=b:=⟨_,rfl⟩
 have t2:Ux.Touch (fun _=>False) w W2:=by rw [←hW2];exact (Ux.Touch.refl _ _).alloc _
 have r2:W2.heap[b2]? =some (.cells #[.int .i64 0,.int .i64 0,.string ⟨#[]⟩] 26 (0,0)):=by rw [←hW2,←hb2];exact heap_alloc_new w _
 have HT:=Lib.hid (And.intro t2 hb2)
 clear t2
 go_enter Tryz.func8,Tryz.ntmps8
 go_wp2_with (refine Ux.is_store 26 rfl ?_;refine Ux.storeN rfl 26 _ _ rfl b2 _ rfl rfl 26 _ r2 (by kernel_rfl) rfl (by simp [Value.oneCell']) ?_)
 intro W4 r4 t4
 clear r2
 go_wp2_with (fail)
 refine bodyPost_ret (results_cell_row Tryz.results8 _ _ b2 26 _ (0,0) _ rfl r4 Tryz.underlying26 rfl (by kernel_rfl)) rfl ?_
 exact ⟨rfl,HT.out.1.trans (R:=fun _=>False) t4 fun b hb e=>by have:=HT.out.2;omega⟩
end Go.Proofs.YtmnkinaaoifpeaaGreatDoor
namespace Go.Proofs.YtmnkinaaoifpeaaGreatDoor
open Go.RowKit
open Ux (KGrow VRows Val3 valCells)
theorem infoV:(Tryz.prog.info? 26).map (fun i=>(i.zero,i.size,i.bytes))=some (some (.agg #[.int .i64 0,.int .i64 0,.string ⟨#[]⟩]),3,32):=by kernel_rfl
def VOwn (w:World) (lo:Nat) (v:Value) (l:List Val3):Prop:=KGrow w lo 26 3 v l.length (valCells l)
theorem VOwn.rows {w:World} {lo:Nat} {v:Value} {l:List Val3} (h:VOwn w lo v l):VRows w v l:=by
 obtain ⟨a,c,rfl,hc⟩:=h.is
 refine ⟨a,c,rfl,h.cap,fun i x hx=> ?_⟩
 obtain ⟨e0,e1,e2⟩:=Ux.valCells_get hx
 obtain ⟨g,rfl,hg,_⟩:=hc _ _ e0
 have key: ∀j y,(valCells l)[j]? =some y→w.cell? ⟨g,0+j,none⟩=some y:=fun j y hj=>by
  obtain ⟨g',e',_,c⟩:=hc _ _ hj
  cases e'
  rw [Nat.zero_add]
  exact c
 exact ⟨g,0,rfl,Ux.own_lt h.1 g rfl,key _ _ e0,key _ _ e1,key _ _ e2⟩
def CloneR (l:List Val3) (w w':World) (e:Ending):Prop:= ∃v,e= .returned v∧VOwn w' w.heap.size v l∧(l≠[]→∃g c,v= .slice (some ⟨g,0,none⟩) l.length c)∧Ux.Touch (fun _=>False) w w'
set_option maxHeartbeats 8000000 in
set_option maxRecDepth 100000 in
theorem cloneV_ (l:List Val3) (w:World) (v:Value) (h:VRows w v l) (hl:l.length≤1000) (hne:l≠[]):Calls Tryz.prog 41 #[v] w fun e w'=>CloneR l w w' e:=by
 obtain ⟨a,c,rfl,hc⟩:=h.is
 obtain ⟨x,hx⟩: ∃x,l[0]? =some x:=⟨_,List.getElem?_eq_getElem (List.length_pos_iff.2 hne)⟩
 obtain ⟨g,off,rfl,_⟩:=h.at hx
 obtain ⟨n,hn⟩: ∃n,l.length=n:=⟨_,rfl⟩
 obtain ⟨b5,hb5⟩: ∃b,w.heap.size=b:=⟨_,rfl⟩
 obtain ⟨W1,hW1⟩: ∃W,w.alloc (.cells #[] 26)=W:=⟨_,rfl⟩
 have t1:Ux.Touch (fun _=>False) w W1:=by rw [←hW1];exact (Ux.Touch.refl _ _).alloc _
 have hg:KGrow W1 w.heap.size 26 3 (.slice (some ⟨w.heap.size,0,none⟩) 0 0) 0 []:=by rw [←hW1];exact KGrow.empty w w.heap.size 26 3 (Nat.le_refl _)
 have hs:=(h.touch0 t1).src (P:=Tryz.prog) Tryz.underlying29
 obtain ⟨r,W2,hrun,hg2,t2⟩:=hg.app (P:=Tryz.prog) 29 32 _ Tryz.underlying29 infoV rfl (by omega) _ l.length _ hs t1.size (by simp only [maxLen];omega) (by omega)
 rw [Nat.zero_add,List.nil_append] at hg2
 obtain ⟨ra,rc,rfl,hrc⟩:=hg2.is
 obtain ⟨e0,_⟩:=Ux.valCells_get hx
 obtain ⟨g2,rfl,hg2lo,_⟩:=hrc _ _ e0
 have tt:Ux.Touch (fun _=>False) w W2:=t1.trans t2 fun b hb e=>by have:=e;omega
 rw [hb5] at hrun
 rw [hn] at hrun
 have HR:=Lib.hid (And.intro hrun (And.intro (show VOwn W2 w.heap.size _ l from hg2) tt))
 rw [hn] at HR⊢
 have n0:(n:Int)≤1000:=by omega
 have n1:(n:Int)≤c:=by omega
 have HN:=Lib.hid hn
 clear h hc hx t1 hg hs hrun hg2 t2 hrc e0 tt hg2lo hn hl
 go_enter Tryz.func41,Tryz.ntmps41
 go_wp2_with (at_builtin;refine Ux.wpList_app (v1:= .slice (some ⟨b5,0,none⟩) 0 0) (x1:= .slice (some ⟨g,off,none⟩) n c) rfl _ _ _ _ rfl rfl rfl (HR.out.1 _) ?_)
 go_returns
 exact ⟨_,rfl,HR.out.2.1,fun _=>⟨g2,rc,by rw [HN.out];rfl⟩,HR.out.2.2⟩
set_option maxHeartbeats 8000000 in
set_option maxRecDepth 100000 in
theorem bnew_ (fan:Int) (w:World) (h1:4≤fan) (h2:fan≤64):Calls Tryz.prog 36 #[.int .i64 fan] w fun e w'=>(∃p,e= .returned (.tuple #[.pointer p,.int .i64 0]))∧Ux.Touch (fun _=>False) w w':=by
 have k1: ¬fan<4:=by omega
 have k2: ¬fan>64:=by omega
 have HT:=Lib.hid (Ux.Touch.refl (fun _=>False) w)
 clear h1 h2
 go_enter Tryz.func36,Tryz.ntmps36
 go_wp2_with (fail)
 go_returns
 exact ⟨⟨_,rfl⟩,(HT.out.alloc _).alloc _⟩
def NewR (w w':World) (fan:Int) (e:Ending):Prop:= ∃db m1 m2,e= .returned (.tuple #[.pointer (some ⟨db,0,none⟩),.int .i64 0])∧w'.heap[db]? =some (.cells #[.int .i64 fan,.map (some m1),.map (some m2)] 73 (0,0))∧Ux.MapIs Tryz.prog 75 w' m1 0 (fun _=>none)∧Ux.MapIs Tryz.prog 75 w' m2 0 (fun _=>none)∧w.heap.size≤m1∧w.heap.size≤m2∧w.heap.size≤db∧m1≠m2∧Ux.Touch (fun _=>False) w w'
set_option maxHeartbeats 8000000 in
set_option maxRecDepth 100000 in
theorem snew_ (fan:Int) (w:World) (h1:4≤fan) (h2:fan≤64):Calls Tryz.prog 16 #[.int .i64 fan] w fun e w'=>NewR w w' fan e:=by
 have HC:=Lib.hid (bnew_ fan w h1 h2)
 clear h1 h2
 go_enter Tryz.func16,Tryz.ntmps16
 go_wp2_with (go_at_call 36;fail)
 refine HC.out.mono ?_
 rintro e w2 ⟨⟨p,rfl⟩,T2⟩
 obtain ⟨m1,hm1⟩: ∃b,w2.heap.size=b:=⟨_,rfl⟩
 obtain ⟨W3,hW3⟩: ∃W,w2.alloc (.map #[] 0)=W:=⟨_,rfl⟩
 obtain ⟨m2,hm2⟩: ∃b,W3.heap.size=b:=⟨_,rfl⟩
 obtain ⟨W4,hW4⟩: ∃W,W3.alloc (.map #[] 0)=W:=⟨_,rfl⟩
 obtain ⟨db,hdb⟩: ∃b,W4.heap.size=b:=⟨_,rfl⟩
 obtain ⟨W5,hW5⟩: ∃W,W4.alloc (.cells #[.int .i64 fan,.map (some m1),.map (some m2)] 73)=W:=⟨_,rfl⟩
 have i1:Ux.MapIs Tryz.prog 75 W3 m1 0 (fun _=>none):=by rw [←hW3,←hm1];exact Ux.MapIs.made _ _ _
 have i2:Ux.MapIs Tryz.prog 75 W4 m2 0 (fun _=>none):=by rw [←hW4,←hm2];exact Ux.MapIs.made _ _ _
 have t3:Ux.Touch (fun _=>False) w2 W3:=by rw [←hW3];exact (Ux.Touch.refl _ _).alloc _
 have t4:Ux.Touch (fun _=>False) W3 W4:=by rw [←hW4];exact (Ux.Touch.refl _ _).alloc _
 have t5:Ux.Touch (fun _=>False) W4 W5:=by rw [←hW5];exact (Ux.Touch.refl _ _).alloc _
 have r5:W5.heap[db]? =some (.cells #[.int .i64 fan,.map (some m1),.map (some m2)] 73 (0,0)):=by rw [←hW5,←hdb];exact heap_alloc_new W4 _
 have l1:=i1.lt
 have l2:=i2.lt
 have s2:=T2.size
 have s3:=t3.size
 have s4:=t4.size
 have H:=Lib.hid (show NewR w W5 fan (.returned (.tuple #[.pointer (some ⟨db,0,none⟩),.int .i64 0])) from ⟨db,m1,m2,rfl,r5,(i1.same (t4.block m1 l1 (fun f=>f))).same (t5.block m1 (by omega) (fun f=>f)),i2.same (t5.block m2 l2 (fun f=>f)),by omega,by omega,by omega,by omega,((T2.trans t3 fun _ _ f=>f.elim).trans t4 fun _ _ f=>f.elim).trans t5 fun _ _ f=>f.elim⟩)
 clear i1 i2 t3 t4 t5 r5 l1 l2 s2 s3 s4 T2 HC
 have hmm:= @run_makeMap Tryz.prog
 go_wp2_with (fail)
 go_returns
 exact H.out
end Go.Proofs.YtmnkinaaoifpeaaGreatDoor
namespace Go.Proofs.YtmnkinaaoifpeaaGreatDoor
open Go.RowKit
theorem laidN:laidOutB Tryz.prog=true:=by kernel_rfl
theorem rowN:75<Tryz.prog.types.size:=of_decide_eq_true (by kernel_rfl)
theorem wideN:(match Tryz.prog.underlying 75 with|some (.array _ _)|some (.struct _)=>true|_=>false)=true:=by rw [Tryz.underlying75]
set_option maxRecDepth 100000 in
theorem keyedN:Go.Maps.Keyed Tryz.prog 75:=Go.Maps.Keyed.of_law (deep_law_laid laidN (m:=3) (by omega) rowN (by kernel_rfl) wideN)
theorem key_t: ∃kl,Go.keyOf Tryz.prog 75 (.agg #[.string ⟨#[116]⟩])=some kl:=Option.isSome_iff_exists.1 (by kernel_rfl)
def IntE (e:Ending):Prop:= ∃n,e= .returned (.int .i64 n)
set_option maxHeartbeats 4000000 in
set_option maxRecDepth 100000 in
theorem blen640_ (w:World):Calls Tryz.prog 133 #[.int .u64 0] w fun e w'=>IntE e∧w'=w:=by
 go_enter Tryz.func133,Tryz.ntmps133
 go_wp2_with (fail)
 go_returns
 exact ⟨⟨_,rfl⟩,rfl⟩
theorem blen0_ (w:World):Calls Tryz.prog 89 #[.int .u64 0] w fun e w'=>IntE e∧w'=w:=by
 go_enter Tryz.func89,Tryz.ntmps89
 go_wp2_with (go_at_call 133;fail)
 refine (blen640_ w).mono ?_
 rintro e w2 ⟨⟨n,rfl⟩,rfl⟩
 go_wp2_with (fail)
 go_returns
 exact ⟨⟨_,rfl⟩,rfl⟩
theorem inss0_ (w:World):Calls Tryz.prog 124 #[.slice none 0 0,.int .i64 0,.int .i64 0] w fun e w'=>e= .returned (.tuple #[])∧w'=w:=by
 go_enter Tryz.func124,Tryz.ntmps124
 go_wp2_with (fail)
 refine wp_loop_rounds 1 ?_
 rw [rounds_succ]
 go_wp2_with (fail)
 go_returns
 exact ⟨rfl,rfl⟩
set_option maxRecDepth 100000 in
theorem pdqs0_ (n:Int) (w:World):Calls Tryz.prog 88 #[.slice none 0 0,.int .i64 0,.int .i64 0,.int .i64 n] w fun e w'=>e= .returned (.tuple #[])∧w'=w:=by
 go_enter Tryz.func88,Tryz.ntmps88
 go_wp2_with (fail)
 refine wp_loop_rounds 1 ?_
 rw [rounds_succ]
 go_wp2_with (go_at_call 124;fail)
 refine (inss0_ w).mono ?_
 rintro e w2 ⟨rfl,rfl⟩
 go_wp2_with (fail)
 go_returns
 exact ⟨rfl,rfl⟩
theorem sorts0_ (w:World):Calls Tryz.prog 47 #[.slice none 0 0] w fun e w'=>e= .returned (.tuple #[])∧w'=w:=by
 go_enter Tryz.func47,Tryz.ntmps47
 go_wp2_with (go_at_call 89;fail)
 refine (blen0_ w).mono ?_
 rintro e w2 ⟨⟨n,rfl⟩,rfl⟩
 go_wp2_with (go_at_call 88;fail)
 refine (pdqs0_ _ _).mono ?_
 rintro e w2 ⟨rfl,rfl⟩
 go_wp2_with (fail)
 go_returns
 exact ⟨rfl,rfl⟩
structure DbAt (w:World) (db m1 m2:Nat) (fan:Int):Prop where
 row:w.heap[db]? =some (.cells #[.int .i64 fan,.map (some m1),.map (some m2)] 73 (0,0))
 idx:Ux.MapIs Tryz.prog 75 w m2 0 (fun _=>none)
theorem DbAt.touch {R:Nat→Prop} {w w':World} {db m1 m2:Nat} {fan:Int} (h:DbAt w db m1 m2 fan) (T:Ux.Touch R w w') (h1: ¬R db) (h2: ¬R m2):DbAt w' db m1 m2 fan:=⟨T.heap h.row h1,h.idx.same (T.block m2 h.idx.lt h2)⟩
theorem DbAt.touch0 {w w':World} {db m1 m2:Nat} {fan:Int} (h:DbAt w db m1 m2 fan) (T:Ux.Touch (fun _=>False) w w'):DbAt w' db m1 m2 fan:=h.touch T (fun f=>f) (fun f=>f)
set_option maxHeartbeats 4000000 in
set_option maxRecDepth 100000 in
theorem names0_ (db m1 m2:Nat) (fan:Int) (w:World) (h:DbAt w db m1 m2 fan):Calls Tryz.prog 57 #[.pointer (some ⟨db,0,none⟩)] w fun e w'=>e= .returned (.slice none 0 0)∧Ux.Touch (fun _=>False) w w':=by
 have c2:=cell_of_row w db 2 _ _ (0,0) h.row
 simp at c2
 have HI:=Lib.hid h.idx
 obtain ⟨r,hr⟩: ∃r,w.heap.size=r:=⟨_,rfl⟩
 clear h
 go_enter Tryz.func57,Tryz.ntmps57
 go_wp2_with (at_range;refine Ux.wpList_rangeM rfl _ 71 rfl 75 86 keyedN Tryz.underlying71 m2 0 (fun _=>none) rfl HI.out ?_;rw [hr];intro w2 cnt hr2 ht hs;have HR:=Lib.hid (And.intro hr2 (And.intro ht hs));clear hr2 ht hs)
 clear hr c2
 have hc0:=HR.out.1.cnt_le
 obtain rfl:cnt=0:=by omega
 clear hc0
 refine wp_loop_rounds 1 ?_
 rw [rounds_succ]
 have HS:=Lib.hid (sorts0_ w2)
 go_wp2_with (first|(at_next;refine Ux.wpList_nextM rfl _ rfl 75 keyedN m2 r 0 (fun _=>none) (fun kl=>((none:Option Value)).isSome) 0 rfl HR.out.1 ?_ ?_;rotate_left;(intro _ _ _ _ c4 _ _ _ _ h4;exact absurd h4 (Nat.not_lt_zero _));intro _ hleft;clear hleft)|(go_at_call 47;fail))
 refine HS.out.mono ?_
 rintro e w3 ⟨rfl,hw⟩
 obtain rfl:w2=w3:=hw.symm
 clear hw
 go_wp2_with (fail)
 go_returns
 exact ⟨rfl,HR.out.2.1⟩
set_option maxHeartbeats 4000000 in
set_option maxRecDepth 100000 in
theorem of0_ (db m1 m2:Nat) (fan:Int) (s:ByteArray) (w:World) (h:DbAt w db m1 m2 fan):Calls Tryz.prog 25 #[.pointer (some ⟨db,0,none⟩),.string s] w fun e w'=>e= .returned (.slice none 0 0)∧Ux.Touch (fun _=>False) w w':=by
 have HC:=Lib.hid (names0_ db m1 m2 fan w h)
 clear h
 go_enter Tryz.func25,Tryz.ntmps25
 go_wp2_with (go_at_call 57;fail)
 refine HC.out.mono ?_
 rintro e w2 ⟨rfl,T2⟩
 have HT:=Lib.hid T2
 clear T2
 go_wp2_with (fail)
 refine wp_loop_rounds 1 ?_
 rw [rounds_succ]
 go_wp2_with (fail)
 go_returns
 exact ⟨rfl,HT.out⟩
set_option maxHeartbeats 4000000 in
set_option maxRecDepth 100000 in
theorem check0_ (db m1 m2:Nat) (fan:Int) (w:World) (h:DbAt w db m1 m2 fan):Calls Tryz.prog 11 #[.pointer (some ⟨db,0,none⟩)] w fun e w'=>e= .returned (.int .i64 0)∧Ux.Touch (fun _=>False) w w':=by
 have c2:=cell_of_row w db 2 _ _ (0,0) h.row
 simp at c2
 have HI:=Lib.hid h.idx
 obtain ⟨r,hr⟩: ∃r,w.heap.size=r:=⟨_,rfl⟩
 clear h
 go_enter Tryz.func11,Tryz.ntmps11
 go_wp2_with (at_range;refine Ux.wpList_rangeM rfl _ 71 rfl 75 86 keyedN Tryz.underlying71 m2 0 (fun _=>none) rfl HI.out ?_;rw [hr];intro w2 cnt hr2 ht hs;have HR:=Lib.hid (And.intro hr2 (And.intro ht hs));clear hr2 ht hs)
 clear hr c2
 have hc0:=HR.out.1.cnt_le
 obtain rfl:cnt=0:=by omega
 clear hc0
 refine wp_loop_rounds 1 ?_
 rw [rounds_succ]
 go_wp2_with (at_next;refine Ux.wpList_nextM rfl _ rfl 75 keyedN m2 r 0 (fun _=>none) (fun kl=>((none:Option Value)).isSome) 0 rfl HR.out.1 ?_ ?_;rotate_left;(intro _ _ _ _ c4 _ _ _ _ h4;exact absurd h4 (Nat.not_lt_zero _));intro _ hleft;clear hleft)
 go_returns
 exact ⟨rfl,HR.out.2.1⟩
end Go.Proofs.YtmnkinaaoifpeaaGreatDoor
namespace Go.Proofs.YtmnkinaaoifpeaaGreatDoor
open Go.RowKit
open Ux (KGrow VRows Val3 valCells)
theorem keyedRI:Go.Maps.Keyed Tryz.prog 3:=Go.Maps.int_keyed Tryz.underlying3
theorem keyRI {c:Int} (h1: -9223372036854775808≤c) (h2:c≤9223372036854775807):Go.keyOf Tryz.prog 3 (.int .i64 c)=some (.int .i64 c):=Go.Maps.keyOf_int_mk Tryz.underlying3 (by
 have e1:IntKind.i64.min= -9223372036854775808:=rfl
 have e2:IntKind.i64.max=9223372036854775807:=rfl
 simp [Lit.wf,e1,e2,h1,h2])
theorem zeroPT: ∀w,(zeroValue 69).run Tryz.prog w= .ok (.pointer none) w:=(zero_of_info (P:=Tryz.prog) (t:=69) (n:=1) (by kernel_rfl)).1
theorem zeroVS: ∀w,(zeroValue 29).run Tryz.prog w= .ok (.slice none 0 0) w:=(zero_of_info (P:=Tryz.prog) (t:=29) (n:=1) (by kernel_rfl)).1
structure TabR (w:World) (tb mb N:Nat) (cols:Value) (last:Int) (g:Int→Option Value) (ks:List Int):Prop where
 row:w.heap[tb]? =some (.cells #[cols,.map (some mb),.int .i64 last] 79 (0,0))
 map:Ux.MapIs Tryz.prog 3 w mb N (Ux.intF g)
 nd:ks.Nodup
 mem: ∀x,x∈ks↔(g x).isSome=true
theorem TabR.touch {R:Nat→Prop} {w w':World} {tb mb N:Nat} {cols:Value} {last:Int} {g:Int→Option Value} {ks:List Int} (h:TabR w tb mb N cols last g ks) (T:Ux.Touch R w w') (h1: ¬R tb) (h2: ¬R mb):TabR w' tb mb N cols last g ks:=⟨T.heap h.row h1,h.map.same (T.block mb h.map.lt h2),h.nd,h.mem⟩
structure Db1 (w:World) (db m1 m2 N:Nat) (fan:Int) (tb:Nat):Prop where
 db:DbAt w db m1 m2 fan
 tabs: ∃f,Ux.MapIs Tryz.prog 75 w m1 N f∧∀kl,Go.keyOf Tryz.prog 75 (.agg #[.string ⟨#[116]⟩])=some kl→f kl=some (.pointer (some ⟨tb,0,none⟩))
theorem Db1.touch {R:Nat→Prop} {w w':World} {db m1 m2 N:Nat} {fan:Int} {tb:Nat} (h:Db1 w db m1 m2 N fan tb) (T:Ux.Touch R w w') (h1: ¬R db) (h2: ¬R m2) (h3: ¬R m1):Db1 w' db m1 m2 N fan tb:=by
 obtain ⟨hd,f,hm,hf⟩:=h
 exact ⟨hd.touch T h1 h2,f,hm.same (T.block m1 hm.lt h3),hf⟩
theorem Db1.look {w:World} {db m1 m2 N:Nat} {fan:Int} {tb:Nat} (h:Db1 w db m1 m2 N fan tb):(Instr.lookup 70 (.map (some m1)) (.agg #[.string ⟨#[116]⟩]) false).run Tryz.prog w= .ok (.pointer (some ⟨tb,0,none⟩)) w:=by
 obtain ⟨kl,hk⟩:=key_t
 obtain ⟨_,f,hm,hf⟩:=h
 rw [hm.look keyedN Tryz.underlying70 (zeroPT w) hk,hf kl hk]
 rfl
set_option maxHeartbeats 4000000 in
set_option maxRecDepth 100000 in
theorem len_ (db m1 m2 N:Nat) (fan:Int) (tb mb N2:Nat) (cols:Value) (last:Int) (g:Int→Option Value) (ks:List Int) (w:World) (h:Db1 w db m1 m2 N fan tb) (ht:TabR w tb mb N2 cols last g ks):Calls Tryz.prog 10 #[.pointer (some ⟨db,0,none⟩),.string ⟨#[116]⟩] w fun e w'=>e= .returned (.int .i64 ks.length)∧w'=w:=by
 have c1:=cell_of_row w db 1 _ _ (0,0) h.db.row
 simp at c1
 have d1:=cell_of_row w tb 1 _ _ (0,0) ht.row
 simp at d1
 have HL:=Lib.hid h.look
 have hlen:=ht.map.len (t:=77) keyedRI Tryz.underlying3 ht.nd (fun x=>ht.mem x) Tryz.underlying77
 have hlen3:=hlen 3
 clear h ht hlen
 go_enter Tryz.func10,Tryz.ntmps10
 go_wp2_with (at_lookup;refine Ux.wpList_look rfl _ _ 70 rfl rfl rfl HL.out ?_)
 go_returns
 exact ⟨rfl,rfl⟩
end Go.Proofs.YtmnkinaaoifpeaaGreatDoor
namespace Go.Proofs.YtmnkinaaoifpeaaGreatDoor
open Go.RowKit
open Ux (KGrow VRows Val3 valCells)
def vS (k n:Int) (s:ByteArray):Value:= .agg #[.int .i64 k,.int .i64 n,.string s]
def okVS (k n:Int) (s:ByteArray):Bool:=if k=0 then decide (n=0)&&s.toList.isEmpty else if k=1 then (decide (n=0)||decide (n=1))&&s.toList.isEmpty else if k=2 then s.toList.isEmpty else decide (k=3)&&decide (n=0)
set_option maxHeartbeats 4000000 in
set_option maxRecDepth 100000 in
theorem vokS_ (k n:Int) (s:ByteArray) (w:World):Calls Tryz.prog 92 #[vS k n s] w fun e w'=>e= .returned (.bool (okVS k n s))∧w'=w.alloc (.cells #[.int .i64 k,.int .i64 n,.string s] 26):=by
 unfold vS
 obtain ⟨E,hE⟩: ∃E,s.toList.isEmpty=E:=⟨_,rfl⟩
 obtain ⟨R,hR⟩: ∃R,okVS k n s=R:=⟨_,rfl⟩
 rw [hR]
 unfold okVS at hR
 rw [hE] at hR
 have HR:=Lib.hid hR
 clear hR
 by_cases h0:k=0
 ·subst h0
  go_enter Tryz.func92,Tryz.ntmps92
  by_cases h1:n=0
  ·subst h1
   go_wp2
   go_returns
   exact ⟨by rw [←HR.out];simp,rfl⟩
  ·have k1:(n==0)=false:=beq_false_of_ne h1
   have H1:=Lib.hid h1
   clear h1
   go_wp2
   go_returns
   exact ⟨by rw [←HR.out];simp [H1.out],rfl⟩
 ·have q0:(k==0)=false:=beq_false_of_ne h0
  by_cases h1:k=1
  ·subst h1
   clear h0 q0
   go_enter Tryz.func92,Tryz.ntmps92
   by_cases h2:n=0
   ·subst h2
    go_wp2
    go_returns
    exact ⟨by rw [←HR.out];simp,rfl⟩
   ·have k1:(n==0)=false:=beq_false_of_ne h2
    by_cases h3:n=1
    ·subst h3
     clear h2 k1
     go_wp2
     go_returns
     exact ⟨by rw [←HR.out];simp,rfl⟩
    ·have k2:(n==1)=false:=beq_false_of_ne h3
     have H2:=Lib.hid (And.intro h2 h3)
     clear h2 h3
     go_wp2
     go_returns
     exact ⟨by rw [←HR.out];simp [H2.out.1,H2.out.2],rfl⟩
  ·have q1:(k==1)=false:=beq_false_of_ne h1
   by_cases h2:k=2
   ·subst h2
    clear h0 h1 q0 q1
    go_enter Tryz.func92,Tryz.ntmps92
    go_wp2
    go_returns
    exact ⟨by rw [←HR.out];simp,rfl⟩
   ·have q2:(k==2)=false:=beq_false_of_ne h2
    have HK:=Lib.hid (And.intro h0 (And.intro h1 h2))
    clear h0 h1 h2
    go_enter Tryz.func92,Tryz.ntmps92
    by_cases h3:k=3
    ·subst h3
     by_cases h4:n=0
     ·subst h4
      go_wp2
      go_returns
      exact ⟨by rw [←HR.out];simp,rfl⟩
     ·have k4:(n==0)=false:=beq_false_of_ne h4
      have H4:=Lib.hid h4
      clear h4
      go_wp2
      go_returns
      exact ⟨by rw [←HR.out];simp [H4.out],rfl⟩
    ·have q3:(k==3)=false:=beq_false_of_ne h3
     have H3:=Lib.hid h3
     clear h3
     go_wp2
     go_returns
     exact ⟨by rw [←HR.out,if_neg HK.out.1,if_neg HK.out.2.1,if_neg HK.out.2.2,decide_eq_false H3.out];rfl,rfl⟩
def ColRows (w:World) (v:Value) (cs:List (Int×Bool)):Prop:= ∃a c,v= .slice a cs.length c∧cs.length≤c∧∀(i:Nat) (x:Int×Bool),cs[i]? =some x→∃g off,a=some ⟨g,off,none⟩∧w.cell? ⟨g,off+i*9+2,none⟩=some (.int .i64 x.1)∧w.cell? ⟨g,off+i*9+8,none⟩=some (.bool x.2)
theorem ColRows.touch0 {w w':World} {v:Value} {cs:List (Int×Bool)} (h:ColRows w v cs) (T:Ux.Touch (fun _=>False) w w'):ColRows w' v cs:=by
 obtain ⟨a,c,e,hc,hr⟩:=h
 refine ⟨a,c,e,hc,fun i x hx=> ?_⟩
 obtain ⟨g,off,e,c0,c1⟩:=hr i x hx
 exact ⟨g,off,e,T.cell c0 (fun f=>f),T.cell c1 (fun f=>f)⟩
def badV (x:Val3) (c:Int×Bool):Bool:= !(okVS x.1 x.2.1 x.2.2)||(x.1 !=0&&x.1 !=c.1)
def nulV (x:Val3) (c:Int×Bool):Bool:=x.1==0&&c.2
def fitsT (cs:List (Int×Bool)) (l:List Val3):Int:=if l.length=cs.length then (if (l.zip cs).any (fun p=>badV p.1 p.2) then 1 else if (l.zip cs).any (fun p=>nulV p.1 p.2) then 16 else 0) else 1
theorem zip_get {l:List Val3} {cs:List (Int×Bool)} {i:Nat} {x:Val3} {c:Int×Bool} (hx:l[i]? =some x) (hc:cs[i]? =some c):(l.zip cs)[i]? =some (x,c):=by rw [List.getElem?_zip_eq_some];exact ⟨hx,hc⟩
theorem any_hit {l:List Val3} {cs:List (Int×Bool)} {f:Val3→Int×Bool→Bool} {i:Nat} {x:Val3} {c:Int×Bool} (hx:l[i]? =some x) (hc:cs[i]? =some c) (h:f x c=true):(l.zip cs).any (fun p=>f p.1 p.2)=true:=List.any_eq_true.2 ⟨(x,c),List.mem_of_getElem? (zip_get hx hc),h⟩
theorem any_none {l:List Val3} {cs:List (Int×Bool)} {f:Val3→Int×Bool→Bool} (h: ∀(i:Nat) (x:Val3) (c:Int×Bool),l[i]? =some x→cs[i]? =some c→f x c=false):(l.zip cs).any (fun p=>f p.1 p.2)=false:=by
 rw [List.any_eq_false]
 rintro ⟨x,c⟩ hp
 obtain ⟨i,hi⟩:=List.mem_iff_getElem?.1 hp
 rw [List.getElem?_zip_eq_some] at hi
 rw [h i x c hi.1 hi.2]
 exact Bool.false_ne_true
def FitsR (r:Int) (w w':World) (e:Ending):Prop:=e= .returned (.int .i64 r)∧Ux.Touch (fun _=>False) w w'
set_option maxHeartbeats 8000000 in
set_option maxRecDepth 100000 in
theorem fits_ (tb:Nat) (cols m la:Value) (cs:List (Int×Bool)) (l:List Val3) (v:Value) (w:World) (ht:w.heap[tb]? =some (.cells #[cols,m,la] 79 (0,0))) (hcs:ColRows w cols cs) (hv:VRows w v l) (hl:l.length≤100) (hcl:cs.length≤100):Calls Tryz.prog 55 #[.pointer (some ⟨tb,0,none⟩),v] w fun e w'=>FitsR (fitsT cs l) w w' e:=by
 obtain ⟨a,c,rfl,hc⟩:=hv.is
 obtain ⟨ca,cc,rfl,hcc,hcr⟩:=hcs
 have c0:=cell_of_row w tb 0 _ _ (0,0) ht
 simp at c0
 obtain ⟨n,hn⟩: ∃n,l.length=n:=⟨_,rfl⟩
 obtain ⟨k,hk⟩: ∃k,cs.length=k:=⟨_,rfl⟩
 rw [hk] at c0
 have HH:=Lib.hid (And.intro hv (And.intro hcr (And.intro hn (And.intro hk c0))))
 obtain ⟨r,hr⟩: ∃r,fitsT cs l=r:=⟨_,rfl⟩
 rw [hn,hr]
 have HR:=Lib.hid hr
 have n0:(n:Int)≤100:=by omega
 have n1:(n:Int)≤c:=by omega
 have n2:(k:Int)≤100:=by omega
 have n3:(k:Int)≤cc:=by omega
 clear hv hcr hl hcl hc hcc ht hr
 by_cases hnk:n=k
 ·subst hnk
  have q0:((n:Int) !=n)=false:=by simp
  clear hn hk
  go_enter Tryz.func55,Tryz.ntmps55
  go_wp2_with (fail)
  go_loopg [19] n (fun gk s19 wr=> ∃i:Nat,s19= .int .i64 i∧i+gk=n∧Hid ((∀(j:Nat) (x:Val3) (c:Int×Bool),j<i→l[j]? =some x→cs[j]? =some c→badV x c=false)∧Ux.Touch (fun _=>False) w wr))
  case atStart=>exact ⟨0,rfl,by omega,Lib.hid ⟨fun j x c hj=>by omega,Ux.Touch.refl _ _⟩⟩
  case round=>
   obtain ⟨i,rfl,hig,HI⟩:=hrel
   have i0:(0:Int)≤i:=by omega
   by_cases hlt:i<n
   ·obtain ⟨g',rfl⟩: ∃g',gk=g'+1:=⟨gk-1,by omega⟩
    have i1:(i:Int)<n:=by omega
    obtain ⟨x,hx⟩: ∃x,l[i]? =some x:=⟨_,List.getElem?_eq_getElem (by have:=HH.out.2.2.1;omega)⟩
    obtain ⟨y,hy⟩: ∃x,cs[i]? =some x:=⟨_,List.getElem?_eq_getElem (by have:=HH.out.2.2.2.1;omega)⟩
    obtain ⟨g,off,rfl,_,y0,y1,y2⟩:=(HH.out.1.touch0 HI.out.2).at hx
    obtain ⟨g2,off2,rfl,z2,z8⟩:=HH.out.2.1 i y hy
    have z2:=HI.out.2.cell z2 (fun f=>f)
    have c0:=HI.out.2.cell HH.out.2.2.2.2 (fun f=>f)
    have HX:=Lib.hid (And.intro hx (And.intro hy (And.intro hlt hig)))
    clear hx hy hlt hig z8
    obtain ⟨b6,hb6⟩: ∃b,wr.heap.size=b:=⟨_,rfl⟩
    obtain ⟨Z6,hZ6⟩: ∃W,wr.alloc (.cells #[.int .i64 0,.int .i64 0,.string ⟨#[]⟩] 26)=W:=⟨_,rfl⟩
    have rz6:Z6.heap[b6]? =some (.cells #[.int .i64 0,.int .i64 0,.string ⟨#[]⟩] 26 (0,0)):=by rw [←hZ6,←hb6];exact heap_alloc_new wr _
    have tz6:Ux.Touch (fun _=>False) wr Z6:=by rw [←hZ6];exact (Ux.Touch.refl _ _).alloc _
    go_wp2_with (refine Ux.is_store 26 rfl ?_;refine Ux.storeN rfl 26 _ _ rfl b6 _ rfl rfl 26 _ rz6 (by kernel_rfl) rfl (by simp [Value.oneCell']) ?_)
    intro W4 r4 t4
    have u4:Ux.Touch (fun _=>False) wr W4:=tz6.trans (R:=fun _=>False) t4 fun b hb e=>by omega
    have c0:=u4.cell c0 (fun f=>f)
    have z2:=u4.cell z2 (fun f=>f)
    have x0:=cell_of_row W4 b6 0 _ _ (0,0) r4
    have x1:=cell_of_row W4 b6 1 _ _ (0,0) r4
    have x2:=cell_of_row W4 b6 2 _ _ (0,0) r4
    simp at x0 x1 x2
    have HU:=Lib.hid (HI.out.2.trans u4 fun _ _ f=>f.elim)
    have HS:=Lib.hid fun W (T:Ux.Touch (fun _=>False) W4 W)=>And.intro (T.cell x0 (fun f=>f)) (And.intro (T.cell x1 (fun f=>f)) (And.intro (T.cell x2 (fun f=>f)) (And.intro (T.cell c0 (fun f=>f)) (T.cell z2 (fun f=>f)))))
    clear hZ6 rz6 tz6 t4 u4 hb6 y0 y1 y2 r4
    obtain ⟨ok,hok⟩: ∃b,okVS x.1 x.2.1 x.2.2=b:=⟨_,rfl⟩
    obtain ⟨za,hza⟩: ∃b,(x.1 !=0)=b:=⟨_,rfl⟩
    obtain ⟨zb,hzb⟩: ∃b,(x.1 !=y.1)=b:=⟨_,rfl⟩
    have HOK:=Lib.hid hok
    have hbad:badV x y=(!ok||(za&&zb)):=by unfold badV;rw [hok,hza,hzb]
    have HB:=Lib.hid hbad
    clear hbad hok
    cases ok with
    |false=>
     clear hza hzb
     go_upto_region 6 with (fail)
     obtain ⟨wk,hwk⟩: ∃W,W4.drew=W:=⟨_,rfl⟩
     have Tk:=Lib.hid (show Ux.Touch (fun _=>False) W4 wk by rw [←hwk];exact (Ux.Touch.refl _ _).drew)
     refine Ux.wpr (fun _ w'=>w'.cell? ⟨b6,0,none⟩=some (.int .i64 x.1)∧w'.cell? ⟨b6,1,none⟩=some (.int .i64 x.2.1)∧w'.cell? ⟨b6,2,none⟩=some (.string x.2.2)∧w'.cell? ⟨tb,0,none⟩=some (.slice (some ⟨g2,off2,none⟩) n cc)∧w'.cell? ⟨g2,off2+i*9+2,none⟩=some (.int .i64 y.1)) (.h false [0] (.e 1 true false (.q [2,3,4] (.h false [5] (.q [6,7,8,10,11,12,14] (.h false [9,13] (.q [15,16] (.h false [17] (.q [18,19,20] (.line [])))))))))) ?_;repeat ((with_reducible refine Ux.qg ?_);refine Ux.qu ?_)
     go_wp2_with (go_at_call 92;fail)
     have hcw:=vokS_ x.1 x.2.1 x.2.2 wk
     rw [HOK.out] at hcw
     unfold vS at hcw
     refine hcw.mono ?_
     clear hcw
     rintro e wn ⟨rfl,hw⟩
     have Tk:=Lib.hid (Tk.out.trans (show Ux.Touch (fun _=>False) wk wn by rw [hw];exact (Ux.Touch.refl _ _).alloc _) fun _ _ f=>f.elim)
     clear hw
     go_wp2_with (fail)
     obtain ⟨wk,rfl⟩: ∃W,W=wn:=⟨_,rfl⟩
     refine ⟨HS.out _ Tk.out,?_⟩
     repeat ((with_reducible refine Ux.qg ?_);refine Ux.qu ?_)
     repeat ((with_reducible refine Ux.qg ?_);refine Ux.qu ?_)
     repeat ((with_reducible refine Ux.qg ?_);refine Ux.qu ?_)
     repeat ((with_reducible refine Ux.qg ?_);refine Ux.qu ?_)
     repeat ((with_reducible refine Ux.qg ?_);refine Ux.qu ?_)
     repeat ((with_reducible refine Ux.qg ?_);refine Ux.qu ?_)
     repeat ((with_reducible refine Ux.qg ?_);refine Ux.qu ?_)
     go_wp2_with (fail)
     go_returns
     exact ⟨by have h1:=any_hit (f:=badV) HX.out.1 HX.out.2.1 HB.out;rw [←HR.out];unfold fitsT;rw [if_pos (by have:=HH.out;omega),if_pos h1];rfl,HU.out.trans Tk.out fun _ _ f=>f.elim⟩
    |true=>
     cases za with
     |false=>
      clear hzb
      go_upto_region 6 with (fail)
      obtain ⟨wk,hwk⟩: ∃W,W4.drew=W:=⟨_,rfl⟩
      have Tk:=Lib.hid (show Ux.Touch (fun _=>False) W4 wk by rw [←hwk];exact (Ux.Touch.refl _ _).drew)
      refine Ux.wpr (fun _ w'=>w'.cell? ⟨b6,0,none⟩=some (.int .i64 x.1)∧w'.cell? ⟨b6,1,none⟩=some (.int .i64 x.2.1)∧w'.cell? ⟨b6,2,none⟩=some (.string x.2.2)∧w'.cell? ⟨tb,0,none⟩=some (.slice (some ⟨g2,off2,none⟩) n cc)∧w'.cell? ⟨g2,off2+i*9+2,none⟩=some (.int .i64 y.1)) (.h false [0] (.e 1 true false (.q [2,3,4] (.h false [5] (.q [6,7,8,10,11,12,14] (.h false [9,13] (.q [15,16] (.h false [17] (.q [18,19,20] (.line [])))))))))) ?_;repeat ((with_reducible refine Ux.qg ?_);refine Ux.qu ?_)
      go_wp2_with (go_at_call 92;fail)
      have hcw:=vokS_ x.1 x.2.1 x.2.2 wk
      rw [HOK.out] at hcw
      unfold vS at hcw
      refine hcw.mono ?_
      clear hcw
      rintro e wn ⟨rfl,hw⟩
      have Tk:=Lib.hid (Tk.out.trans (show Ux.Touch (fun _=>False) wk wn by rw [hw];exact (Ux.Touch.refl _ _).alloc _) fun _ _ f=>f.elim)
      clear hw
      go_wp2_with (fail)
      obtain ⟨wk,rfl⟩: ∃W,W=wn:=⟨_,rfl⟩
      refine ⟨HS.out _ Tk.out,?_⟩
      repeat ((with_reducible refine Ux.qg ?_);refine Ux.qu ?_)
      repeat ((with_reducible refine Ux.qg ?_);refine Ux.qu ?_)
      repeat ((with_reducible refine Ux.qg ?_);refine Ux.qu ?_)
      repeat ((with_reducible refine Ux.qg ?_);refine Ux.qu ?_)
      repeat ((with_reducible refine Ux.qg ?_);refine Ux.qu ?_)
      repeat ((with_reducible refine Ux.qg ?_);refine Ux.qu ?_)
      repeat ((with_reducible refine Ux.qg ?_);refine Ux.qu ?_)
      go_wp2_with (fail)
      go_roundg g'
      case measure=>omega
      case rel=>
       refine ⟨i+1,rfl,by have:=HX.out;omega,Lib.hid ⟨fun j x' c' hj hx' hc'=> ?_,HU.out.trans Tk.out fun _ _ f=>f.elim⟩⟩
       by_cases e:j=i
       ·subst e
        have h1:=HX.out.1
        have h2:=HX.out.2.1
        rw [hx'] at h1
        rw [hc'] at h2
        cases h1
        cases h2
        exact HB.out
       ·exact HI.out.1 j x' c' (by omega) hx' hc'
     |true=>
      cases zb with
      |true=>
       go_upto_region 6 with (fail)
       obtain ⟨wk,hwk⟩: ∃W,W4.drew=W:=⟨_,rfl⟩
       have Tk:=Lib.hid (show Ux.Touch (fun _=>False) W4 wk by rw [←hwk];exact (Ux.Touch.refl _ _).drew)
       refine Ux.wpr (fun _ w'=>w'.cell? ⟨b6,0,none⟩=some (.int .i64 x.1)∧w'.cell? ⟨b6,1,none⟩=some (.int .i64 x.2.1)∧w'.cell? ⟨b6,2,none⟩=some (.string x.2.2)∧w'.cell? ⟨tb,0,none⟩=some (.slice (some ⟨g2,off2,none⟩) n cc)∧w'.cell? ⟨g2,off2+i*9+2,none⟩=some (.int .i64 y.1)) (.h false [0] (.e 1 true false (.q [2,3,4] (.h false [5] (.q [6,7,8,10,11,12,14] (.h false [9,13] (.q [15,16] (.h false [17] (.q [18,19,20] (.line [])))))))))) ?_;repeat ((with_reducible refine Ux.qg ?_);refine Ux.qu ?_)
       go_wp2_with (go_at_call 92;fail)
       have hcw:=vokS_ x.1 x.2.1 x.2.2 wk
       rw [HOK.out] at hcw
       unfold vS at hcw
       refine hcw.mono ?_
       clear hcw
       rintro e wn ⟨rfl,hw⟩
       have Tk:=Lib.hid (Tk.out.trans (show Ux.Touch (fun _=>False) wk wn by rw [hw];exact (Ux.Touch.refl _ _).alloc _) fun _ _ f=>f.elim)
       clear hw
       go_wp2_with (fail)
       obtain ⟨wk,rfl⟩: ∃W,W=wn:=⟨_,rfl⟩
       refine ⟨HS.out _ Tk.out,?_⟩
       repeat ((with_reducible refine Ux.qg ?_);refine Ux.qu ?_)
       repeat ((with_reducible refine Ux.qg ?_);refine Ux.qu ?_)
       repeat ((with_reducible refine Ux.qg ?_);refine Ux.qu ?_)
       repeat ((with_reducible refine Ux.qg ?_);refine Ux.qu ?_)
       repeat ((with_reducible refine Ux.qg ?_);refine Ux.qu ?_)
       repeat ((with_reducible refine Ux.qg ?_);refine Ux.qu ?_)
       repeat ((with_reducible refine Ux.qg ?_);refine Ux.qu ?_)
       go_wp2_with (fail)
       go_returns
       exact ⟨by have h1:=any_hit (f:=badV) HX.out.1 HX.out.2.1 HB.out;rw [←HR.out];unfold fitsT;rw [if_pos (by have:=HH.out;omega),if_pos h1];rfl,HU.out.trans Tk.out fun _ _ f=>f.elim⟩
      |false=>
       go_upto_region 6 with (fail)
       obtain ⟨wk,hwk⟩: ∃W,W4.drew=W:=⟨_,rfl⟩
       have Tk:=Lib.hid (show Ux.Touch (fun _=>False) W4 wk by rw [←hwk];exact (Ux.Touch.refl _ _).drew)
       refine Ux.wpr (fun _ w'=>w'.cell? ⟨b6,0,none⟩=some (.int .i64 x.1)∧w'.cell? ⟨b6,1,none⟩=some (.int .i64 x.2.1)∧w'.cell? ⟨b6,2,none⟩=some (.string x.2.2)∧w'.cell? ⟨tb,0,none⟩=some (.slice (some ⟨g2,off2,none⟩) n cc)∧w'.cell? ⟨g2,off2+i*9+2,none⟩=some (.int .i64 y.1)) (.h false [0] (.e 1 true false (.q [2,3,4] (.h false [5] (.q [6,7,8,10,11,12,14] (.h false [9,13] (.q [15,16] (.h false [17] (.q [18,19,20] (.line [])))))))))) ?_;repeat ((with_reducible refine Ux.qg ?_);refine Ux.qu ?_)
       go_wp2_with (go_at_call 92;fail)
       have hcw:=vokS_ x.1 x.2.1 x.2.2 wk
       rw [HOK.out] at hcw
       unfold vS at hcw
       refine hcw.mono ?_
       clear hcw
       rintro e wn ⟨rfl,hw⟩
       have Tk:=Lib.hid (Tk.out.trans (show Ux.Touch (fun _=>False) wk wn by rw [hw];exact (Ux.Touch.refl _ _).alloc _) fun _ _ f=>f.elim)
       clear hw
       go_wp2_with (fail)
       obtain ⟨wk,rfl⟩: ∃W,W=wn:=⟨_,rfl⟩
       refine ⟨HS.out _ Tk.out,?_⟩
       repeat ((with_reducible refine Ux.qg ?_);refine Ux.qu ?_)
       repeat ((with_reducible refine Ux.qg ?_);refine Ux.qu ?_)
       repeat ((with_reducible refine Ux.qg ?_);refine Ux.qu ?_)
       repeat ((with_reducible refine Ux.qg ?_);refine Ux.qu ?_)
       repeat ((with_reducible refine Ux.qg ?_);refine Ux.qu ?_)
       repeat ((with_reducible refine Ux.qg ?_);refine Ux.qu ?_)
       repeat ((with_reducible refine Ux.qg ?_);refine Ux.qu ?_)
       go_wp2_with (fail)
       go_roundg g'
       case measure=>omega
       case rel=>
        refine ⟨i+1,rfl,by have:=HX.out;omega,Lib.hid ⟨fun j x' c' hj hx' hc'=> ?_,HU.out.trans Tk.out fun _ _ f=>f.elim⟩⟩
        by_cases e:j=i
        ·subst e
         have h1:=HX.out.1
         have h2:=HX.out.2.1
         rw [hx'] at h1
         rw [hc'] at h2
         cases h1
         cases h2
         exact HB.out
        ·exact HI.out.1 j x' c' (by omega) hx' hc'
   ·have i1: ¬(i:Int)<n:=by omega
    have hin:i=n:=by omega
    have hnone:(l.zip cs).any (fun p=>badV p.1 p.2)=false:=any_none fun j x c hx hc=>HI.out.1 j x c (by have:=(List.getElem?_eq_some_iff.1 hx).1;have:=HH.out.2.2.1;omega) hx hc
    have HNO:=Lib.hid (And.intro hnone HI.out.2)
    clear hlt HI hnone hig hin
    go_wp2_with (fail)
    clear i1 i0
    go_loopg [48] n (fun gk s48 wz=> ∃j:Nat,s48= .int .i64 j∧j+gk=n∧Hid ((∀(q:Nat) (x:Val3) (c:Int×Bool),q<j→l[q]? =some x→cs[q]? =some c→nulV x c=false)∧Ux.Touch (fun _=>False) w wz))
    case atStart=>exact ⟨0,rfl,by omega,Lib.hid ⟨fun j x c hj=>by omega,HNO.out.2⟩⟩
    case round=>
     obtain ⟨j,rfl,hjg,HJ⟩:=hrel
     have i0:(0:Int)≤j:=by omega
     by_cases hlt:j<n
     ·obtain ⟨g',rfl⟩: ∃g',gk=g'+1:=⟨gk-1,by omega⟩
      have i1:(j:Int)<n:=by omega
      obtain ⟨x,hx⟩: ∃x,l[j]? =some x:=⟨_,List.getElem?_eq_getElem (by have:=HH.out.2.2.1;omega)⟩
      obtain ⟨y,hy⟩: ∃x,cs[j]? =some x:=⟨_,List.getElem?_eq_getElem (by have:=HH.out.2.2.2.1;omega)⟩
      obtain ⟨g,off,rfl,_,y0,y1,y2⟩:=(HH.out.1.touch0 HJ.out.2).at hx
      obtain ⟨g2,off2,rfl,_,z8⟩:=HH.out.2.1 j y hy
      have z8:=HJ.out.2.cell z8 (fun f=>f)
      have c0:=HJ.out.2.cell HH.out.2.2.2.2 (fun f=>f)
      have HX:=Lib.hid (And.intro hx (And.intro hy (And.intro hlt hjg)))
      clear hx hy hlt hjg
      obtain ⟨b6,hb6⟩: ∃b,wr.heap.size=b:=⟨_,rfl⟩
      obtain ⟨Z6,hZ6⟩: ∃W,wr.alloc (.cells #[.int .i64 0,.int .i64 0,.string ⟨#[]⟩] 26)=W:=⟨_,rfl⟩
      have rz6:Z6.heap[b6]? =some (.cells #[.int .i64 0,.int .i64 0,.string ⟨#[]⟩] 26 (0,0)):=by rw [←hZ6,←hb6];exact heap_alloc_new wr _
      have tz6:Ux.Touch (fun _=>False) wr Z6:=by rw [←hZ6];exact (Ux.Touch.refl _ _).alloc _
      go_wp2_with (refine Ux.is_store 26 rfl ?_;refine Ux.storeN rfl 26 _ _ rfl b6 _ rfl rfl 26 _ rz6 (by kernel_rfl) rfl (by simp [Value.oneCell']) ?_)
      intro W4 r4 t4
      have u4:Ux.Touch (fun _=>False) wr W4:=tz6.trans (R:=fun _=>False) t4 fun b hb e=>by omega
      have c0:=u4.cell c0 (fun f=>f)
      have z8:=u4.cell z8 (fun f=>f)
      have x0:=cell_of_row W4 b6 0 _ _ (0,0) r4
      simp at x0
      have HU:=Lib.hid (HJ.out.2.trans u4 fun _ _ f=>f.elim)
      clear hZ6 rz6 tz6 t4 u4 hb6 y0 y1 y2 r4
      obtain ⟨za,hza⟩: ∃b,(x.1==0)=b:=⟨_,rfl⟩
      obtain ⟨zb,hzb⟩: ∃b,y.2=b:=⟨_,rfl⟩
      have HB:=Lib.hid (show nulV x y=(za&&zb) by unfold nulV;rw [hza,hzb])
      rw [hzb] at z8
      clear hzb
      cases za with
      |false=>
       clear z8
       go_wp2_with (fail)
       go_roundg g'
       case measure=>omega
       case rel=>
        refine ⟨j+1,rfl,by have:=HX.out;omega,Lib.hid ⟨fun q x' c' hj hx' hc'=> ?_,HU.out⟩⟩
        by_cases e:q=j
        ·subst e
         have h1:=HX.out.1
         have h2:=HX.out.2.1
         rw [hx'] at h1
         rw [hc'] at h2
         cases h1
         cases h2
         exact HB.out
        ·exact HJ.out.1 q x' c' (by omega) hx' hc'
      |true=>
       cases zb with
       |true=>
        go_wp2_with (fail)
        go_returns
        exact ⟨by have h1:=any_hit (f:=nulV) HX.out.1 HX.out.2.1 HB.out;rw [←HR.out];unfold fitsT;rw [if_pos (by have:=HH.out;omega),HNO.out.1,if_pos h1];rfl,HU.out⟩
       |false=>
        go_wp2_with (fail)
        go_roundg g'
        case measure=>omega
        case rel=>
         refine ⟨j+1,rfl,by have:=HX.out;omega,Lib.hid ⟨fun q x' c' hj hx' hc'=> ?_,HU.out⟩⟩
         by_cases e:q=j
         ·subst e
          have h1:=HX.out.1
          have h2:=HX.out.2.1
          rw [hx'] at h1
          rw [hc'] at h2
          cases h1
          cases h2
          exact HB.out
         ·exact HJ.out.1 q x' c' (by omega) hx' hc'
     ·have i1: ¬(j:Int)<n:=by omega
      have hnul:(l.zip cs).any (fun p=>nulV p.1 p.2)=false:=any_none fun q x c hx hc=>HJ.out.1 q x c (by have:=(List.getElem?_eq_some_iff.1 hx).1;have:=HH.out.2.2.1;omega) hx hc
      have HNU:=Lib.hid hnul
      clear hlt hnul hjg
      go_wp2_with (fail)
      go_returns
      exact ⟨by rw [←HR.out];unfold fitsT;rw [if_pos (by have:=HH.out;omega),HNO.out.1,HNU.out];rfl,HJ.out.2⟩
 ·have q0:((n:Int) !=k)=true:=by simp;omega
  have hf:r=1:=by rw [←HR.out];unfold fitsT;rw [if_neg (by omega)]
  subst hf
  clear hn hk hnk
  go_enter Tryz.func55,Tryz.ntmps55
  go_wp2_with (fail)
  go_returns
  exact ⟨rfl,Ux.Touch.refl _ _⟩
end Go.Proofs.YtmnkinaaoifpeaaGreatDoor
