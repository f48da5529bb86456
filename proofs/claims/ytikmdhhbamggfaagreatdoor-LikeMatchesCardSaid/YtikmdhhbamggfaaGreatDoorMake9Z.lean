/- A part of the proof that the statement holds for every input that it names. No other condition. -/
import Derived.Test.YtikmdhhbamggfaaGreatDoorMadeAZ
import Derived.Test.YtikmdhhbamggfaaGreatDoorRtailCZ
set_option linter.unusedVariables false
set_option linter.unusedSimpArgs false
namespace Go.Proofs.YtikmdhhbamggfaaGreatDoor
open Go.RowKit
open Ux (Ent rootE rootT SameE okT)
open Ux.Sign (cp raw signs)
open Ux.Rules (okRuls parseS posB)
structure Reads (s:ByteArray) (C:Nat) (T:List Ent):Prop where
 len:T.length≤1000
 prog: ∀w,Tabs w→Calls Tryz.prog 42 #[.string s] w fun e w'=>(∃(P:Option Addr) (pos:Nat),e= .returned (.tuple #[.pointer P,.int .i64 (pos:Int),.int .i64 (C:Int)])∧(C≠0∧P=none∨C=0∧∃B mb E,P=some ⟨B,0,none⟩∧TableAt w' B mb E∧SameE E T))∧Ux.Touch (fun _=>False) w w'
 doc: ∀w,Calls Tryz.prog 43 #[.string s] w fun e w'=>(∃(x:Option Addr) (m c pos:Nat),e= .returned (.tuple #[.agg #[.slice x m c],.int .i64 (pos:Int),.int .i64 (C:Int)])∧(C=0→RRows w' (fun b=>w.heap.size≤b) (.slice x m c) T))∧Ux.Touch (fun _=>False) w w'
def readCT (s:ByteArray):Nat×List Ent:=match parseS (signs s.data.toList) with
 |(_,some _)=>(10,[])
 |(rs,none)=>if 40<rs.length then (65,[]) else if (applyT (rootT 132) [] rs).1=0 then (0,(applyT (rootT 132) [] rs).2) else ((applyT (rootT 132) [] rs).1,[])
def tabOf (ru:ByteArray):List Ent:=if (readCT (if 200<ru.size then ⟨#[]⟩ else ru)).1=0 then (readCT (if 200<ru.size then ⟨#[]⟩ else ru)).2 else rootT 132
theorem reads_ (s:ByteArray) (hs:s.size≤1000000):Reads s (readCT s).1 (readCT s).2:=by
 have HP:=fun w hT=>readR_ s w hs hT
 have HD:=fun w=>rread_ s w hs
 have hok:=Ux.Rules.parseS_ok (P:=fun c=>cp c∨raw c) (l:=signs s.data.toList) (fun c hc=>Ux.Sign.good_all (Ux.Sign.good_signs s.data.toList) c hc)
 unfold ReadR at HP
 unfold RReadR at HD
 unfold readCT
 obtain ⟨⟨rs,o⟩,hp⟩: ∃p,parseS (signs s.data.toList)=p:=⟨_,rfl⟩
 simp only [hp] at HP HD hok⊢
 cases o with
 |some r=>
  exact ⟨by simp,fun w hT=>(HP w hT).mono fun e w' ⟨h,t⟩=>⟨⟨none,posB s.size r,h,.inl ⟨show (10:Nat)≠0 by decide,rfl⟩⟩,t⟩,fun w=>(HD w).mono fun e w' ⟨h,t⟩=>⟨⟨none,0,0,posB s.size r,h,fun h0=>by cases h0⟩,t⟩⟩
 |none=>
  by_cases h40:40<rs.length
  ·simp only [if_pos h40] at HP HD⊢
   exact ⟨by simp,fun w hT=>(HP w hT).mono fun e w' ⟨h,t⟩=>⟨⟨none,0,h,.inl ⟨show (65:Nat)≠0 by decide,rfl⟩⟩,t⟩,fun w=>(HD w).mono fun e w' ⟨h,t⟩=>⟨⟨none,0,0,0,h,fun h0=>by cases h0⟩,t⟩⟩
  ·simp only [if_neg h40] at HP HD⊢
   by_cases h0:(applyT (rootT 132) [] rs).1=0
   ·have hin:=applyT_ok rs InvT.root hok.1 h0
    simp only [if_pos h0]
    refine ⟨by have:=hin.1.len;show (applyT (rootT 132) [] rs).2.length≤1000;omega,fun w hT=>(HP w hT).mono fun e w' ⟨h,t⟩=>⟨?_,t⟩,fun w=>(HD w).mono fun e w' ⟨⟨x,m,c,h,hr⟩,t⟩=>⟨⟨x,m,c,0,?_,fun _=>hr h0⟩,t⟩⟩
    ·rcases h with ⟨h1,_⟩|⟨_,B,mb,E,h1,h2,h3⟩
     ·exact absurd h0 h1
     ·exact ⟨some ⟨B,0,none⟩,0,h1,.inr ⟨rfl,B,mb,E,rfl,h2,h3⟩⟩
    ·rw [h0] at h
     exact h
   ·simp only [if_neg h0]
    refine ⟨by simp,fun w hT=>(HP w hT).mono fun e w' ⟨h,t⟩=>⟨?_,t⟩,fun w=>(HD w).mono fun e w' ⟨⟨x,m,c,h,hr⟩,t⟩=>⟨⟨x,m,c,0,h,fun hh=>absurd hh h0⟩,t⟩⟩
    rcases h with ⟨h1,h2⟩|⟨h1,_⟩
    ·exact ⟨none,0,h2,.inl ⟨h0,rfl⟩⟩
    ·exact absurd h1 h0
set_option maxHeartbeats 16000000 in
set_option maxRecDepth 100000 in
theorem make9_ (k lv:Int) (hk:k≠1∧k≠2) (sh bk:Bool) (rules:ByteArray) (w:World) (hT:Tabs w):
 Calls Tryz.prog 16 #[.int .i64 k,.int .i64 lv,.bool sh,.bool bk,.string rules] w fun e w'=> ∃B mb u E,e= .returned (.tuple #[cV 3 (lvN lv:Nat) sh bk (some ⟨B,0,none⟩),rcV 3 (lvN lv:Nat) sh bk u,.bool true])∧TableAt w' B mb E∧SameE E (tabOf rules)∧(tabOf rules).length≤1000∧RRows w' (fun b=>w.heap.size≤b) u (tabOf rules)∧Ux.Touch (fun _=>False) w w':=by
 obtain ⟨m,hm,hm2⟩:=and16 lv
 have hlv:(((m:Int) % 3)+1:Int)=(lvN lv:Nat):=by
  unfold lvN
  rw [hm,Int.toNat_natCast]
  omega
 obtain ⟨LI,hLI⟩: ∃LI:Int,((lvN lv:Nat):Int)=LI:=⟨_,rfl⟩
 rw [hLI] at hlv⊢
 have q1:(k==1)=false:=by simpa using hk.1
 have q2:(k==2)=false:=by simpa using hk.2
 have m0:(0:Int)≤m:=by omega
 have m1:(m:Int)≤70000:=by omega
 obtain ⟨q,hq⟩: ∃q,w.heap.size=q:=⟨_,rfl⟩
 have hb1:(w.alloc (.cells #[.int .i64 0,.int .i64 0,.bool false,.bool false,.pointer none] 25)).heap[q]? =some (.cells #[.int .i64 0,.int .i64 0,.bool false,.bool false,.pointer none] 25 (0,0)):=by rw [←hq];exact heap_alloc_new w _
 have T1:Ux.Touch (fun _=>False) w (w.alloc (.cells #[.int .i64 0,.int .i64 0,.bool false,.bool false,.pointer none] 25)):=(Ux.Touch.refl _ _).alloc _
 have hs1:(w.alloc (.cells #[.int .i64 0,.int .i64 0,.bool false,.bool false,.pointer none] 25)).heap.size=q+1:=by rw [World.size_alloc,hq]
 obtain ⟨W1,hW1⟩: ∃W,w.alloc (.cells #[.int .i64 0,.int .i64 0,.bool false,.bool false,.pointer none] 25)=W:=⟨_,rfl⟩
 rw [hW1] at hb1 T1 hs1
 have hb2:(W1.alloc (.cells #[.int .i64 0,.int .i64 0,.bool false,.bool false,.slice none 0 0] 30)).heap[q+1]? =some (.cells #[.int .i64 0,.int .i64 0,.bool false,.bool false,.slice none 0 0] 30 (0,0)):=by rw [←hs1];exact heap_alloc_new W1 _
 have T2:Ux.Touch (fun _=>False) W1 (W1.alloc (.cells #[.int .i64 0,.int .i64 0,.bool false,.bool false,.slice none 0 0] 30)):=(Ux.Touch.refl _ _).alloc _
 have hs2:(W1.alloc (.cells #[.int .i64 0,.int .i64 0,.bool false,.bool false,.slice none 0 0] 30)).heap.size=q+2:=by rw [World.size_alloc,hs1]
 have hb1':=T2.heap hb1 (fun f=>f)
 obtain ⟨W2,hW2⟩: ∃W,W1.alloc (.cells #[.int .i64 0,.int .i64 0,.bool false,.bool false,.slice none 0 0] 30)=W:=⟨_,rfl⟩
 rw [hW2] at hb2 T2 hs2 hb1'
 have HW:=Lib.hid (And.intro hW1 (And.intro hW2 (And.intro hq hs2)))
 have H2:=Lib.hid (And.intro (T1.trans T2 fun _ _ f=>f) (And.intro hb1' hb2))
 have HT:=Lib.hid hT
 obtain ⟨rn,hrn⟩: ∃n,rules.size=n:=⟨_,rfl⟩
 clear hb1 T1 hs1 hb2 T2 hs2 hb1' hW1 hW2 hq hk hm2 hT hLI
 go_enter Tryz.func16,Tryz.ntmps16
 go_upto_if 35 with (fail)
 rw [HW.out.1,HW.out.2.1,HW.out.2.2.1]
 go_cut [4] (fun s4 wx=> ∃s':ByteArray,s4= .string s'∧s'.size≤200∧s'=(if 200<rules.size then ⟨#[]⟩ else rules)∧W2=wx)
 case first=>
  by_cases h2:200<rn
  ·have k2:(rn:Int)>200:=by omega
   go_wp2_with (fail)
   go_meet
   exact ⟨⟨#[]⟩,rfl,by decide,by rw [if_pos (by omega)],rfl⟩
  ·have k2: ¬((rn:Int)>200):=by omega
   go_wp2_with (fail)
   go_meet
   exact ⟨rules,rfl,by omega,by rw [if_neg (by omega)],rfl⟩
 obtain ⟨s',rfl,hs',hsr,rfl⟩:=hcut
 have hRD:=reads_ s' (by omega)
 have htab:tabOf rules=if (readCT s').1=0 then (readCT s').2 else rootT 132:=by unfold tabOf;rw [←hsr]
 obtain ⟨C,hC⟩: ∃c,(readCT s').1=c:=⟨_,rfl⟩
 obtain ⟨T,hT'⟩: ∃c,(readCT s').2=c:=⟨_,rfl⟩
 rw [hC,hT'] at hRD htab
 have HRD:=Lib.hid hRD
 have HTB:=Lib.hid htab
 clear hs' hRD hrn hsr htab hC hT'
 go_wp2_with (go_at_call 42;fail)
 refine (HRD.out.prog W2 (HT.out.touch H2.out.1)).mono ?_
 rintro e w3 ⟨⟨P,pos,rfl,hP⟩,T3⟩
 have H3:=Lib.hid (And.intro hP T3)
 clear hP T3
 go_wp2_with (go_at_call 43;fail)
 refine (HRD.out.doc w3).mono ?_
 rintro e w4 ⟨⟨a4,n4,c4,pos4,rfl,hR⟩,T4⟩
 obtain ⟨q6,hq6⟩: ∃q6,w4.heap.size=q6:=⟨_,rfl⟩
 have hb6:(w4.alloc (.cells #[.slice a4 n4 c4] 28)).heap[q6]? =some (.cells #[.slice a4 n4 c4] 28 (0,0)):=by rw [←hq6];exact heap_alloc_new w4 _
 have T5:Ux.Touch (fun _=>False) w4 (w4.alloc (.cells #[.slice a4 n4 c4] 28)):=(Ux.Touch.refl _ _).alloc _
 obtain ⟨W5,hW5⟩: ∃W,w4.alloc (.cells #[.slice a4 n4 c4] 28)=W:=⟨_,rfl⟩
 rw [hW5] at hb6 T5
 have HW5:=Lib.hid (And.intro hW5 hq6)
 have c6:W5.cell? ⟨q6,0,none⟩=some (.slice a4 n4 c4):=by rw [cell_of_row _ q6 0 _ _ (0,0) hb6];rfl
 have f6:=Ux.frozen_row hb6 0
 have H5:=Lib.hid (And.intro (fun h0=>(hR h0).touch0 T5) (And.intro (T4.trans T5 fun _ _ f=>f) (And.intro (show q+2≤q6 by have h1:=HW.out.2.2.2;have h2:=H3.out.2.size;have h3:=T4.size;omega) (And.intro hb6 (show q+2≤w3.heap.size by have h1:=HW.out.2.2.2;have h2:=H3.out.2.size;omega)))))
 clear hR hb6 T4 T5 hW5 hq6
 go_upto_region 8 with (fail)
 rw [HW5.out.1,HW5.out.2]
 obtain ⟨FL,hFL⟩: ∃b,decide (C≠0)=b:=⟨_,rfl⟩
 have HFL:=Lib.hid hFL
 clear hFL
 go_cut [57] (fun s57 wx=>s57= .bool FL∧W5=wx)
 case first=>
  have hfl:=HFL.out
  rcases H3.out.1 with ⟨h0,rfl⟩|⟨h0,B,mb,E,rfl,_⟩
  ·have e0:FL=true:=by rw [←hfl];exact decide_eq_true h0
   have k0:((C:Int) !=0)=true:=by
    have:((C:Int)==0)=false:=beq_false_of_ne (by omega)
    show (!((C:Int)==0))=true
    rw [this]
    rfl
   have k9:((C:Int)==0)=false:=beq_false_of_ne (by omega)
   subst e0
   clear hfl h0
   go_wp2_with (fail)
   go_meet
   exact ⟨rfl,rfl⟩
  ·have e0:FL=false:=by rw [←hfl];exact decide_eq_false (fun h=>h h0)
   subst e0
   subst h0
   clear hfl
   go_wp2_with (fail)
   go_meet
   exact ⟨rfl,rfl⟩
 obtain ⟨rfl,rfl⟩:=hcut
 go_upto_if 57 with (fail)
 go_cut [13] (fun s13 wx=> ∃(B mb:Nat) (E:List Ent) (a4:Option Addr) (n4 c4:Nat),s13= .pointer (some ⟨B,0,none⟩)∧wx.cell? ⟨q6,0,none⟩=some (.slice a4 n4 c4)∧Hid (TableAt wx B mb E∧SameE E (tabOf rules)∧(tabOf rules).length≤1000∧RRows wx (fun b=>q+2≤b) (.slice a4 n4 c4) (tabOf rules)∧Ux.Touch (fun _=>False) W2 wx))
 case first=>
  have hfl:=HFL.out
  cases FL with
  |false=>
   have h0:C=0:=Classical.byContradiction fun h=>of_decide_eq_false hfl h
   rcases H3.out.1 with ⟨h1,_⟩|⟨_,B,mb,E,rfl,hTA,hS⟩
   ·exact absurd h0 h1
   ·have hte:tabOf rules=T:=by rw [HTB.out,if_pos h0]
    have HF:=Lib.hid (And.intro (hTA.touch0 H5.out.2.1) (And.intro hS (And.intro HRD.out.len (And.intro ((H5.out.1 h0).mono (A':=fun b=>q+2≤b) fun g _ h=>by have:=H5.out.2.2.2.2;omega) (H3.out.2.trans H5.out.2.1 fun _ _ f=>f)))))
    rw [←hte] at HF
    clear hTA hS h0 hfl hte
    go_wp2_with (fail)
    go_meet
    exact ⟨B,mb,E,a4,n4,c4,rfl,c6,HF⟩
  |true=>
   have hte:tabOf rules=rootT 132:=by rw [HTB.out,if_neg (of_decide_eq_true hfl)]
   have HTE:=Lib.hid hte
   clear hfl hte
   go_wp2_with (go_at_call 46;fail)
   refine (rootT_ _).mono ?_
   rintro e w7 ⟨B,mb,rfl,hTA,_,T7⟩
   have H7:=Lib.hid (And.intro hTA T7)
   have b7:=T7.heap H5.out.2.2.2.1 (fun f=>f)
   clear hTA T7 c6 f6
   go_wp2_with (go_at_call 49;fail)
   refine (rroot_ w7).mono ?_
   rintro e w8 ⟨u,rfl,hR8,T8⟩
   have hR8':=hR8
   obtain ⟨_,x8,c8,rfl,_⟩:=hR8
   obtain ⟨n8,hn8⟩: ∃n,(rootT 132).length=n:=⟨_,rfl⟩
   rw [hn8] at hR8'⊢
   have b8:=T8.heap b7 (fun f=>f)
   have c6:w8.cell? ⟨q6,0,none⟩=some (.slice a4 n4 c4):=by rw [cell_of_row _ q6 0 _ _ (0,0) b8];rfl
   have f6:=Ux.frozen_row b8 0
   have t9:Ux.Touch (fun b=>b=q6) w8 (w8.setCell ⟨q6,0,none⟩ (.slice x8 n8 c8)):=(Ux.Touch.refl (fun b=>b=q6) w8).setCell (p:=⟨q6,0,none⟩) (fun _=>rfl) _
   have b9:=Ux.setCell_row b8 0 (.slice x8 n8 c8)
   have hq67:=Ux.lt_of_heap b7
   have T28:Ux.Touch (fun _=>False) W2 w8:=(H3.out.2.trans H5.out.2.1 fun _ _ f=>f).trans (H7.out.2.trans T8 fun _ _ f=>f) fun _ _ f=>f
   have HF:Hid (TableAt (w8.setCell ⟨q6,0,none⟩ (.slice x8 n8 c8)) B mb rootE∧SameE rootE (rootT 132)∧(rootT 132).length≤1000∧RRows (w8.setCell ⟨q6,0,none⟩ (.slice x8 n8 c8)) (fun b=>q+2≤b) (.slice x8 n8 c8) (rootT 132)∧Ux.Touch (fun _=>False) W2 (w8.setCell ⟨q6,0,none⟩ (.slice x8 n8 c8))):=Lib.hid ⟨(H7.out.1.touch0 T8).touchK t9 (fun b hb=>by
    subst hb
    exact ⟨_,_,b8,by decide,by decide,fun y hy=>by simp at hy;subst hy;exact ⟨fun _ h=>(by cases h),fun _ h=>(by cases h)⟩⟩),Ux.same_root,by have:=Ux.rootT_len 132;omega,(hR8'.touchB t9 fun g _ h e=>by omega).mono fun g _ h=>by have:=H5.out.2.2.1;omega,T28.trans (R:=fun _=>False) t9 fun b hb e=>by have h1:=HW.out.2.2.2;have h2:=H5.out.2.2.1;omega⟩
   have HB9:=Lib.hid b9
   clear T8 hR8' hn8 b7 b8 t9 b9 hq67 T28
   go_wp2_with (fail)
   go_meet
   rw [←HTE.out] at HF
   exact ⟨B,mb,rootE,x8,n8,c8,rfl,by rw [cell_of_row _ q6 0 _ _ (0,0) HB9.out];rfl,HF⟩
 obtain ⟨W6,rfl⟩: ∃W,W=wc:=⟨_,rfl⟩
 obtain ⟨B,mb,E,a4,n4,c4,rfl,c6,hcut⟩:=hcut
 obtain ⟨hTA,hSE,hTL,hR,T26⟩:=hcut.out
 have H6:=Lib.hid (And.intro hTA (And.intro hSE (And.intro hTL (And.intro hR T26))))
 have HQ:=Lib.hid (And.intro (T26.heap H2.out.2.1 (fun f=>f)) (T26.heap H2.out.2.2 (fun f=>f)))
 have HQ6:=Lib.hid H5.out.2.2.1
 clear hTA hSE hTL hR T26 f6
 go_upto_region 11 with (fail)
 refine Ux.wpr (fun _ w'=>w'.cell? ⟨q6,0,none⟩=some (.slice a4 n4 c4)) (.q [0,1,2,3,4,5,6,7,10,11] (.h true [8] (.q [9] (.e 12 false true (.e 13 false false (.line [14])))))) ?_;repeat ((with_reducible refine Ux.qg ?_);refine Ux.qu ?_)
 refine wpList_store_mid rfl 25 _ _ rfl q 0 #[.int .i64 3,.int .i64 LI,.bool sh,.bool bk,.pointer (some ⟨B,0,none⟩)] rfl rfl (by have h:=there_row (w:=W6.drew) HQ.out.1;exact h) (by kernel_rfl) (by simp [Value.oneCell']) ?_
 obtain ⟨W7,hW7⟩: ∃W,set5 W6.drew q (.int .i64 3) (.int .i64 LI) (.bool sh) (.bool bk) (.pointer (some ⟨B,0,none⟩))=W:=⟨_,rfl⟩
 have T7:Ux.Touch (fun b=>b=q) W6 W7:=by rw [←hW7];exact Ux.Touch.of_drew (set5_touch W6.drew q _ _ _ _ _)
 have hr7:W7.heap[q]? =some (.cells #[.int .i64 3,.int .i64 LI,.bool sh,.bool bk,.pointer (some ⟨B,0,none⟩)] 25 (0,0)):=by rw [←hW7];exact set5_row (w:=W6.drew) HQ.out.1 _ _ _ _ _
 have hq17:=T7.heap HQ.out.2 (by omega)
 have c7:=T7.cell c6 (fun h=>by have h:q6=q:=h;have:=HQ6.out;omega)
 clear c6
 have c6:=c7
 clear c7
 unfold set5 at hW7
 simp only [World.setCells] at hW7⊢
 rw [hW7]
 have HW7:=Lib.hid (And.intro T7 (And.intro hr7 hq17))
 clear hW7 T7 hr7 hq17
 refine ⟨c6,?_⟩
 repeat ((with_reducible refine Ux.qg ?_);refine Ux.qu ?_)
 refine wpList_store_mid rfl 30 _ _ rfl (q+1) 0 #[.int .i64 3,.int .i64 LI,.bool sh,.bool bk,.slice a4 n4 c4] rfl rfl (by have h:=there_row HW7.out.2.2;exact h) (by kernel_rfl) (by simp [Value.oneCell']) ?_
 clear c6
 obtain ⟨W8,hW8⟩: ∃W,set5 W7 (q+1) (.int .i64 3) (.int .i64 LI) (.bool sh) (.bool bk) (.slice a4 n4 c4)=W:=⟨_,rfl⟩
 have T8:Ux.Touch (fun b=>b=q+1) W7 W8:=by rw [←hW8];exact set5_touch W7 (q+1) _ _ _ _ _
 have hr8:W8.heap[q+1]? =some (.cells #[.int .i64 3,.int .i64 LI,.bool sh,.bool bk,.slice a4 n4 c4] 30 (0,0)):=by rw [←hW8];exact set5_row HW7.out.2.2 _ _ _ _ _
 have hr78:=T8.heap HW7.out.2.1 (by omega)
 unfold set5 at hW8
 simp only [World.setCells] at hW8⊢
 rw [hW8]
 have HW8:=Lib.hid (And.intro T8 (And.intro hr8 hr78))
 clear hW8 T8 hr8 hr78
 go_wp2
 have x0:=cell_of_row W8 q 0 _ _ (0,0) HW8.out.2.2
 have y0:=cell_of_row W8 (q+1) 0 _ _ (0,0) HW8.out.2.1
 have x1:=cell_of_row W8 q 1 _ _ (0,0) HW8.out.2.2
 have y1:=cell_of_row W8 (q+1) 1 _ _ (0,0) HW8.out.2.1
 have x2:=cell_of_row W8 q 2 _ _ (0,0) HW8.out.2.2
 have y2:=cell_of_row W8 (q+1) 2 _ _ (0,0) HW8.out.2.1
 have x3:=cell_of_row W8 q 3 _ _ (0,0) HW8.out.2.2
 have y3:=cell_of_row W8 (q+1) 3 _ _ (0,0) HW8.out.2.1
 have x4:=cell_of_row W8 q 4 _ _ (0,0) HW8.out.2.2
 have y4:=cell_of_row W8 (q+1) 4 _ _ (0,0) HW8.out.2.1
 simp at x0 x1 x2 x3 x4 y0 y1 y2 y3 y4
 refine bodyPost_ret (by simp [results,Tryz.results16,go_sem,x0,x1,x2,x3,x4,y0,y1,y2,y3,y4];try rfl) rfl ?_
 have hq:=HW.out.2.2.1
 refine ⟨B,mb,_,E,rfl,?_,H6.out.2.1,H6.out.2.2.1,?_,?_⟩
 ·refine ((H6.out.1.touchK HW7.out.1 ?_).touchK HW8.out.1 ?_)
  ·rintro b rfl
   exact ⟨_,_,HQ.out.1,by decide,by decide,fun u hu=>by simp at hu;rcases hu with rfl|rfl|rfl<;>exact ⟨fun _ h=>(by cases h),fun _ h=>(by cases h)⟩⟩
  ·rintro b rfl
   exact ⟨_,_,HW7.out.2.2,by decide,by decide,fun u hu=>by simp at hu;rcases hu with rfl|rfl|rfl<;>exact ⟨fun _ h=>(by cases h),fun _ h=>(by cases h)⟩⟩
 ·exact ((H6.out.2.2.2.1.touchB HW7.out.1 fun g _ h e=>by omega).touchB HW8.out.1 fun g _ h e=>by omega).mono fun g _ h=>by omega
 ·exact ((H2.out.1.trans H6.out.2.2.2.2 fun _ _ f=>f).trans (R:=fun _=>False) HW7.out.1 fun b hb h=>by omega).trans (R:=fun _=>False) HW8.out.1 fun b hb h=>by omega
theorem madeC_ (k lv:Int) (sh bk:Bool) (rules:ByteArray) (w:World) (hT:Tabs w):Calls Tryz.prog 16 #[.int .i64 k,.int .i64 lv,.bool sh,.bool bk,.string rules] w fun e w'=> ∃kd LN sh' bk' tb u E T,
 e= .returned (.tuple #[cV kd (LN:Nat) sh' bk' tb,rcV kd (LN:Nat) sh' bk' u,.bool true])∧MadeC w' w.heap.size kd LN sh' bk' tb u E T∧Ux.Touch (fun _=>False) w w':=by
 by_cases hk:k=1∨k=2
 ·refine (make12_ k lv hk sh bk rules w).mono ?_
  rintro e w' ⟨rfl,T⟩
  refine ⟨k,0,false,false,none,.slice none 0 0,rootE,rootT 132,rfl,?_,T⟩
  rcases hk with rfl|rfl
  ·exact ⟨.inl rfl,fun h=>(by cases h),rfl,fun h=>(by cases h),⟨_,_,_,rfl⟩,fun h=>(by cases h),rootE_okT,Ux.same_root⟩
  ·exact ⟨.inr (.inl rfl),fun h=>(by cases h),rfl,fun h=>(by cases h),⟨_,_,_,rfl⟩,fun h=>(by cases h),rootE_okT,Ux.same_root⟩
 ·have h1:k≠1∧k≠2:=⟨fun e=>hk (.inl e),fun e=>hk (.inr e)⟩
  refine (make9_ k lv h1 sh bk rules w hT).mono ?_
  rintro e w' ⟨B,mb,u,E,rfl,hTA,hSE,hTL,hR,TT⟩
  have hR':=hR
  obtain ⟨_,a,c,hu,_⟩:=hR
  exact ⟨3,lvN lv,sh,bk,some ⟨B,0,none⟩,u,E,tabOf rules,rfl,⟨.inr (.inr rfl),fun _=>lvN_le lv,ok3 _ (lvN_le lv) _,fun _ p hp=>by cases hp;exact ⟨B,mb,rfl,hTA⟩,⟨a,_,c,hu⟩,fun _=>⟨hR',hTL⟩,hTA.1.1,hSE⟩,TT⟩
end Go.Proofs.YtikmdhhbamggfaaGreatDoor
