/- A part of the proof that the statement holds for every input that it names. No other condition. -/
import Derived.Test.YtfccjaboicpohaaGreatDoorUxCollAZ
import Derived.Test.YtfccjaboicpohaaGreatDoorElemAZ
import Derived.Test.YtfccjaboicpohaaGreatDoorTableAZ
import Derived.Test.YtfccjaboicpohaaGreatDoorEntsAZ
set_option linter.unusedVariables false
set_option linter.unusedSimpArgs false
namespace Go.Proofs.YtfccjaboicpohaaGreatDoor
open Go.RowKit
open Go.RowKit Go.Lib
open Ux (Row iv sv ev Grow wts wF keepW wt8 eV)
def cV (kd lv:Int) (sh bk:Bool) (tb:Option Addr):Value:= .agg #[.int .i64 kd,.int .i64 lv,.bool sh,.bool bk,.pointer tb]
theorem revRow_ (v:Value) (zs:List Int) (lo:Nat) (w:World) (h:Row w lo 3 v (iv zs)) (hn:zs.length≤1000000000):
 Calls Tryz.prog 211 #[v] w fun e w'=>e= .returned (.tuple #[])∧Row w' lo 3 v (iv zs.reverse)∧Ux.Touch (fun b=>v.ownBlock=some b) w w':=by
 rcases h with ⟨rfl,h0⟩|⟨g,c,cur,rfl,hg,hh,h1,h2,h3⟩
 ·have hz:zs= []:=by
   unfold iv at h0
   exact List.map_eq_nil_iff.1 h0
  subst hz
  refine (Tryz.slices_Reverse_int_empty none 0 w).mono ?_
  rintro e w' ⟨rfl,rfl⟩
  exact ⟨rfl,Row.nil _ _ _,Ux.Touch.refl _ _⟩
 ·have hr:Row w lo 3 (.slice (some ⟨g,0,none⟩) (iv zs).length c) (iv zs):= .inr ⟨g,c,cur,rfl,hg,hh,h1,h2,h3⟩
  rw [Ux.iv_length] at hr⊢
  have hcon:=Tryz.slices_Reverse_int_cells g 0 zs.length c zs w (Nat.le_refl _) (by omega) (fun j hj=>by
   rw [Nat.zero_add]
   refine Ux.row_cell hh h3 j _ (Ux.iv_get ?_)
   rw [List.getD_eq_getElem?_getD,List.getElem?_eq_getElem hj]
   rfl) (fun j hj=>hr.frozen _)
  refine hcon.mono ?_
  rintro e w' ⟨rfl,q,rfl⟩
  rw [List.take_length]
  refine ⟨rfl,?_,Ux.Touch.setCells (R:=fun b=>(Value.slice (some ⟨g,0,none⟩) zs.length c).ownBlock=some b) (b:=g) (fun _=>rfl) _ 0 _ ((Ux.Touch.refl _ w).drewN q)⟩
  have h5:=Ux.Row.setAll (zs.reverse.map (Value.int .i64)) 0 (w.drewN q) _ (Ux.Row.drewN hr q)
  rw [Ux.setL_eq _ _ 0 (by rw [Ux.iv_length];simp),List.take_zero,List.nil_append] at h5
  exact h5
set_option maxHeartbeats 8000000 in
set_option maxRecDepth 100000 in
theorem cof_ (kd lv:Int) (sh bk:Bool) (tb:Option Addr) (v:Value) (l:List Nat) (L:Nat) (hL:L=1∨L=2∨L=3) (w:World) (hr:Row w 0 56 v (ev l)) (hl:l.length≤100000000) (hx: ∀x∈l,x<4294967296):
 Calls Tryz.prog 171 #[cV kd lv sh bk tb,v,.int .i64 (L:Int)] w fun e w'=> ∃u,e= .returned u∧Row w' w.heap.size 3 u (iv (sv (wts sh bk L l)))∧Ux.Touch (fun _=>False) w w':=by
 obtain ⟨a,cap,hv,hcell⟩:=hr.is
 rw [Ux.ev_length] at hv
 obtain ⟨n,hn⟩: ∃n,l.length=n:=⟨_,rfl⟩
 rw [hn] at hv hl
 subst hv
 have n0:(n:Int)≤100000000:=by omega
 have HW:=Lib.hid fun (x:Nat) (hx:x<4294967296) W=>weight_ L x (L:Int) rfl hL hx W
 have HH:=Lib.hid (And.intro hn (And.intro hcell (And.intro hx hL)))
 have l1:(1:Int)≤L:=by omega
 have l3:(L:Int)≤3:=by omega
 obtain ⟨LI,hLI⟩: ∃LI:Int,(L:Int)=LI:=⟨_,rfl⟩
 rw [hLI] at HW l1 l3⊢
 have HLI:=Lib.hid hLI
 have T0:Ux.Touch (fun _=>False) w (w.alloc (.cells #[.int .i64 kd,.int .i64 lv,.bool sh,.bool bk,.pointer tb] 66)):=(Ux.Touch.refl _ _).alloc _
 have hbx:(w.alloc (.cells #[.int .i64 kd,.int .i64 lv,.bool sh,.bool bk,.pointer tb] 66)).heap[w.heap.size]? =some (.cells #[.int .i64 kd,.int .i64 lv,.bool sh,.bool bk,.pointer tb] 66 (0,0)):=heap_alloc_new w _
 have H0:=Lib.hid (And.intro T0 (And.intro hbx (show (w.alloc (.cells #[.int .i64 kd,.int .i64 lv,.bool sh,.bool bk,.pointer tb] 66)).heap.size=w.heap.size+1 by rw [World.size_alloc])))
 clear hr hcell hn hl hx hL hLI T0 hbx
 unfold cV
 go_enter Tryz.func171,Tryz.ntmps171
 go_wp2_with (fail)
 generalize hW1:w.alloc (.cells #[.int .i64 kd,.int .i64 lv,.bool sh,.bool bk,.pointer tb] 66)=W1 at H0⊢
 clear hW1
 go_loopg [7,13] n (fun gk s7 s13 wr=> ∃i:Nat,s13= .int .i64 i∧i+gk=n∧Hid (Grow wr (w.heap.size+1) 3 s7 (iv (sv (wF sh L (l.take i))))∧Ux.Touch (fun _=>False) W1 wr))
 case atStart=>exact ⟨0,rfl,by omega,Lib.hid ⟨Grow.nil _ _ _,Ux.Touch.refl _ _⟩⟩
 case round=>
  obtain ⟨i,rfl,hig,HI⟩:=hrel
  have i0:(0:Int)≤i:=by omega
  have hbw:=HI.out.2.heap H0.out.2.1 (fun f=>f)
  have f2:wr.cell? ⟨w.heap.size,2,none⟩=some (.bool sh):=by rw [cell_of_row _ w.heap.size 2 _ _ (0,0) hbw];rfl
  have f3:wr.cell? ⟨w.heap.size,3,none⟩=some (.bool bk):=by rw [cell_of_row _ w.heap.size 3 _ _ (0,0) hbw];rfl
  have HBW:=Lib.hid hbw
  clear hbw
  by_cases hlt:i<n
  ·obtain ⟨g',rfl⟩: ∃g',gk=g'+1:=⟨gk-1,by omega⟩
   have i1:(i:Int)<n:=by omega
   obtain ⟨x,hx⟩: ∃x,l[i]? =some x:=⟨_,List.getElem?_eq_getElem (by have:=HH.out.1;omega)⟩
   obtain ⟨g,rfl,_,hc⟩:=HH.out.2.1 i _ (Ux.ev_get hx)
   have hxl:=HH.out.2.2.1 x (List.mem_of_getElem? hx)
   have hc:=HI.out.2.cell (H0.out.1.cell hc (fun f=>f)) (fun f=>f)
   have HWX:=Lib.hid fun W=>HW.out x hxl W
   have HVX:=Lib.hid fun W=>vari_ x hxl W
   have htk:l.take (i+1)=l.take i++ [x]:=by rw [List.take_add_one,hx];rfl
   have HX:=Lib.hid (And.intro htk hxl)
   obtain ⟨y,hy⟩: ∃y,wt L x=y:=⟨_,rfl⟩
   rw [hy] at HWX
   obtain ⟨V,hV⟩: ∃V,eV x=V:=⟨_,rfl⟩
   rw [hV] at HVX
   obtain ⟨Y,hY⟩: ∃Y,decide ((0:Int)<y)=Y:=⟨_,rfl⟩
   have hY2:decide (0<y)=Y:=by rw [←hY,decide_eq_decide];omega
   have hY3:Y=false→y=0:=fun h=>by rw [h] at hY2;simpa using hY2
   have hkeep:keepW sh L x=(Y&& !(sh&&V)):=by
    unfold keepW
    have e:wt8 L x=wt L x:=rfl
    rw [e,hy,hV,←hY]
    congr 1
    rw [decide_eq_decide]
    omega
   have HK:=Lib.hid (And.intro hkeep hy)
   clear hx hxl htk hy hV hlt hkeep
   go_upto_region 6 with (go_at_call 44;refine (HWX.out _).mono ?_;rintro e w' ⟨rfl,hw⟩;obtain rfl:wr=w':=hw.symm)
   go_cut [30] (fun s30 wx=>s30= .bool (Y&& !(sh&&V))∧Ux.Touch (fun _=>False) wr wx)
   case first=>
    cases Y<;>cases sh<;>cases V
    all_goals
     (try obtain rfl:=hY3 rfl)
     clear hY3
     go_wp2_with (go_at_call 115;refine (HVX.out _).mono ?_;rintro e w' ⟨rfl,hw⟩;obtain rfl:wr=w':=hw.symm)
     go_meet
     first
      |exact ⟨rfl,Ux.Touch.refl _ _⟩
      |(exfalso;simp at hY;omega)
   obtain ⟨rfl,Tc⟩:=hcut
   cases hK:(Y&& !(sh&&V)) with
   |false=>
    have HTc:=Lib.hid Tc
    clear Tc f2 f3 hc hY hY2 hY3
    go_wp2
    go_roundg g'
    case measure=>omega
    case rel=>
     refine ⟨i+1,by congr 1,by omega,Lib.hid ⟨?_,HI.out.2.trans HTc.out fun _ _ f=>f⟩⟩
     rw [HX.out.1,Ux.wF_snoc,HK.out.1,hK,if_neg (by simp),List.append_nil]
     exact HI.out.1.touch0 HTc.out
   |true=>
    have hsz:(wF sh L (l.take i)).length≤i:=Nat.le_trans (Ux.wF_len _ _ _) (by simp;omega)
    obtain ⟨r,w3,hrun,hG2,hT3⟩:=appI (HI.out.1.touch0 Tc) 1 [Value.int .i64 (y:Int)] rfl (fun u hu=>by rw [List.mem_singleton.1 hu];rfl) (by
     have h1:=HI.out.2.size
     have h2:=Ux.lt_of_heap H0.out.2.1
     have h3:=Tc.size
     omega) (by rw [Ux.iv_length,Ux.sv_length];omega)
    have HR:=Lib.hid (And.intro hrun (And.intro hG2 (And.intro hT3 Tc)))
    clear hsz hrun hG2 hT3 Tc f2 f3 hc hY hY2 hY3
    go_wp2_with (at_builtin;refine Ux.wpList_app (v1:=u7) (x1:= .slice (some ⟨wc.heap.size,0,none⟩) 1 1) rfl _ _ _ _ rfl rfl rfl (HR.out.1 _) ?_)
    go_roundg g'
    case measure=>omega
    case rel=>
     refine ⟨i+1,by congr 1,by omega,Lib.hid ⟨?_,?_⟩⟩
     ·rw [HX.out.1,Ux.wF_snoc,HK.out.1,hK,if_pos rfl,Ux.sv_append,show∀a b,iv (a++b)=iv a++iv b from fun a b=>List.map_append]
      rw [show wt8 L x=y from HK.out.2]
      exact HR.out.2.1
     ·exact Ux.Touch.own (HI.out.2.trans HR.out.2.2.2 fun _ _ f=>f) (Nat.le_of_eq H0.out.2.2) HR.out.2.2.1
  ·obtain rfl:n=i:=by omega
   have hwl:wF sh L (l.take n)=wF sh L l:=by rw [List.take_of_length_le (by have:=HH.out.1;omega)]
   rw [hwl] at HI
   have hlen:(sv (wF sh L l)).length≤1000000000:=by rw [Ux.sv_length];have:=Ux.wF_len sh L l;have:=HH.out.1;omega
   have HE:=Lib.hid hlen
   have hT0:=H0.out.1.trans HI.out.2 fun _ _ f=>f
   clear hlt hwl hlen
   obtain ⟨D,hD⟩: ∃D,(decide (L=2)&&bk)=D:=⟨_,rfl⟩
   have hwts:wts sh bk L l=if D=true then (wF sh L l).reverse else wF sh L l:=by
    unfold wts
    rw [←hD]
    cases bk<;>by_cases h:L=2<;>simp [h]
   have HD:=Lib.hid (And.intro hwts hT0)
   obtain ⟨a7,n7,c7,rfl,_⟩:=HI.out.1.is
   clear hwts hT0
   cases D with
   |true=>
    obtain ⟨hL2,rfl⟩:L=2∧bk=true:=by simpa using hD
    have q2:LI=2:=by rw [←HLI.out,hL2];rfl
    subst q2
    have HR:=Lib.hid (revRow_ _ (sv (wF sh L l)) (w.heap.size+1) wr HI.out.1.row HE.out)
    clear hD hL2
    go_wp2_with (go_at_call 211;fail)
    refine HR.out.mono ?_
    rintro e w2 ⟨rfl,hr2,T2⟩
    obtain ⟨v',hr3,hb3,hc3⟩:=clip_row hr2
    have H2:=Lib.hid (And.intro hr3 T2)
    have HC:=Lib.hid hc3
    have hown: ∀b,(Value.slice a7 n7 c7).ownBlock=some b→w.heap.size+1≤b:=HI.out.1.2
    have HO:=Lib.hid hown
    clear hr2 hr3 hb3 hc3 T2 f2 f3 hown
    go_wp2_with (go_at_call 144;refine HC.out.mono ?_;rintro e w' ⟨rfl,rfl⟩)
    go_returns
    rw [HD.out.1]
    first|rw [if_pos rfl]|rw [if_pos trivial]
    have hsr:sv (wF sh L l).reverse=(sv (wF sh L l)).reverse:=List.map_reverse
    rw [hsr]
    exact ⟨_,rfl,H2.out.1.mono (Nat.le_succ _),HD.out.2.trans (R:=fun _=>False) H2.out.2 fun b hb h=>by have:=HO.out b h;omega⟩
   |false=>
    have q2:(decide (LI=2)&&bk)=false:=by
     rw [←hD,←HLI.out]
     congr 1
     rw [decide_eq_decide]
     omega
    obtain ⟨v',hr3,hb3,hc3⟩:=clip_row HI.out.1.row
    have H2:=Lib.hid hr3
    have HC:=Lib.hid hc3
    clear hr3 hb3 hc3 hD
    cases hq:decide (LI=2) with
    |true=>
     rw [hq] at q2
     simp only [Bool.true_and] at q2
     subst q2
     have hq:=of_decide_eq_true hq
     subst hq
     go_wp2_with (go_at_call 144;refine HC.out.mono ?_;rintro e w' ⟨rfl,rfl⟩)
     go_returns
     rw [HD.out.1,if_neg (by simp)]
     exact ⟨_,rfl,H2.out.mono (Nat.le_succ _),HD.out.2⟩
    |false=>
     have q3:(LI==2)=false:=by have:=of_decide_eq_false hq;simpa using this
     clear q2 hq
     go_wp2_with (go_at_call 144;refine HC.out.mono ?_;rintro e w' ⟨rfl,rfl⟩)
     go_returns
     rw [HD.out.1,if_neg (by simp)]
     exact ⟨_,rfl,H2.out.mono (Nat.le_succ _),HD.out.2⟩
end Go.Proofs.YtfccjaboicpohaaGreatDoor
namespace Go.Proofs.YtfccjaboicpohaaGreatDoor
open Go.RowKit
open Go.RowKit Go.Lib
open Ux (Row iv sv ev Ent slt wts wghC cmpL elemsE okT)
open Ux.Sign (signs foldText)
set_option maxHeartbeats 2000000 in
theorem nanS_ (x:ByteArray) (w:World):Calls Tryz.prog 169 #[.string x] w fun e w'=>e= .returned (.bool false)∧w'=w:=by
 go_enter Tryz.func169,Tryz.ntmps169
 go_wp2
 go_ret
 exact ⟨by simp,rfl⟩
def cmpStr (a b:ByteArray):Int:=if slt a b then-1 else if slt b a then 1 else 0
set_option maxHeartbeats 4000000 in
theorem cmpStr_ (a b:ByteArray) (w:World):Calls Tryz.prog 122 #[.string a,.string b] w fun e w'=>e= .returned (.int .i64 (cmpStr a b))∧w'=w:=by
 unfold cmpStr
 cases h1:slt a b with
 |true=>
  have q1:Op.bytesLess a.toList b.toList=true:=h1
  clear h1
  rw [if_pos rfl]
  go_enter Tryz.func122,Tryz.ntmps122
  go_wp2_with (go_at_call 169;refine (nanS_ _ _).mono ?_;rintro e w' ⟨rfl,rfl⟩)
  go_ret
  exact ⟨rfl,rfl⟩
 |false=>
  have q1:Op.bytesLess a.toList b.toList=false:=h1
  rw [if_neg (by simp)]
  cases h2:slt b a with
  |true=>
   have q2:(a.toList==b.toList)=false:=by
    cases h:a.toList==b.toList with
    |false=>rfl
    |true=>
     have e:=Ux.ba_ext (eq_of_beq h)
     subst e
     rw [Ux.slt_irrefl] at h2
     cases h2
   clear h1 h2
   rw [if_pos rfl]
   go_enter Tryz.func122,Tryz.ntmps122
   go_wp2_with (go_at_call 169;refine (nanS_ _ _).mono ?_;rintro e w' ⟨rfl,rfl⟩)
   go_ret
   exact ⟨rfl,rfl⟩
  |false=>
   obtain rfl:=Ux.slt_conn h1 h2
   have q2:(a.toList==a.toList)=true:=by simp
   clear h1 h2
   rw [if_neg (by simp)]
   go_enter Tryz.func122,Tryz.ntmps122
   go_wp2_with (go_at_call 169;refine (nanS_ _ _).mono ?_;rintro e w' ⟨rfl,rfl⟩)
   go_ret
   exact ⟨rfl,rfl⟩
def okC (kd lv:Int) (tb:Option Addr):Bool:=decide (kd=1∨kd=2)||(decide (kd=3)&&tb.isSome&&decide (1≤lv∧lv≤3))
set_option maxHeartbeats 8000000 in
theorem cok_ (kd lv:Int) (sh bk:Bool) (tb:Option Addr) (w:World):Calls Tryz.prog 73 #[cV kd lv sh bk tb] w fun e w'=>e= .returned (.bool (okC kd lv tb))∧Ux.Touch (fun _=>False) w w':=by
 unfold cV okC
 by_cases k1:kd=1
 ·subst k1
  go_enter Tryz.func73,Tryz.ntmps73
  go_wp2
  go_ret
  exact ⟨rfl,(Ux.Touch.refl _ _).alloc _⟩
 ·by_cases k2:kd=2
  ·subst k2
   go_enter Tryz.func73,Tryz.ntmps73
   go_wp2
   go_ret
   exact ⟨rfl,(Ux.Touch.refl _ _).alloc _⟩
  ·have q1:(kd==1)=false:=by simpa using k1
   have q2:(kd==2)=false:=by simpa using k2
   have hd:decide (kd=1∨kd=2)=false:=by simp [k1,k2]
   rw [hd]
   by_cases k3:kd=3
   ·subst k3
    cases tb with
    |none=>
     clear k1 k2 q1 q2 hd
     go_enter Tryz.func73,Tryz.ntmps73
     go_wp2
     go_ret
     exact ⟨rfl,(Ux.Touch.refl _ _).alloc _⟩
    |some p=>
     clear k1 k2 q1 q2 hd
     cases h1:decide (1≤lv)<;>cases h2:decide (lv≤3)
     all_goals
      have hd:decide (1≤lv∧lv≤3)=(decide (1≤lv)&&decide (lv≤3)):=by rw [Bool.eq_iff_iff];simp
      rw [hd,h1,h2]
      clear hd
      go_enter Tryz.func73,Tryz.ntmps73
      go_wp2
      go_ret
      exact ⟨rfl,(Ux.Touch.refl _ _).alloc _⟩
   ·have q3:(kd==3)=false:=by simpa using k3
    have hd3:decide (kd=3)=false:=by simpa using k3
    rw [hd3]
    clear k1 k2 k3 hd hd3
    go_enter Tryz.func73,Tryz.ntmps73
    go_wp2
    go_ret
    exact ⟨rfl,(Ux.Touch.refl _ _).alloc _⟩
set_option maxHeartbeats 4000000 in
theorem binary_ (c:Value) (hc: ∃kd lv sh bk tb,c=cV kd lv sh bk tb) (a b:ByteArray) (w:World):Calls Tryz.prog 77 #[c,.string a,.string b] w fun e w'=>e= .returned (.int .i64 (cmpStr a b))∧Ux.Touch (fun _=>False) w w':=by
 obtain ⟨kd,lv,sh,bk,tb,rfl⟩:=hc
 unfold cV
 go_enter Tryz.func77,Tryz.ntmps77
 go_wp2_with (go_at_call 122;refine (cmpStr_ _ _ _).mono ?_;rintro e w' ⟨rfl,rfl⟩)
 go_ret
 exact ⟨rfl,(Ux.Touch.refl _ _).alloc _⟩
def ftB (a:ByteArray):ByteArray:=⟨(foldText a.data.toList).toArray⟩
set_option maxHeartbeats 4000000 in
theorem cfold_ (c:Value) (hc: ∃kd lv sh bk tb,c=cV kd lv sh bk tb) (a b:ByteArray) (w:World) (hT:Tabs w) (ha:a.size≤1000000000) (hb:b.size≤1000000000):Calls Tryz.prog 123 #[c,.string a,.string b] w fun e w'=>e= .returned (.int .i64 (cmpStr (ftB a) (ftB b)))∧Ux.Touch (fun _=>False) w w':=by
 obtain ⟨kd,lv,sh,bk,tb,rfl⟩:=hc
 unfold cV ftB
 have HT:=Lib.hid hT
 clear hT
 go_enter Tryz.func123,Tryz.ntmps123
 have T0:Ux.Touch (fun _=>False) w (w.alloc (.cells #[.int .i64 kd,.int .i64 lv,.bool sh,.bool bk,.pointer tb] 66)):=(Ux.Touch.refl _ _).alloc _
 have H0:=Lib.hid T0
 have HA:=Lib.hid (ft_ a _ ha (HT.out.touch T0))
 have HB:=Lib.hid fun W (T:Ux.Touch (fun _=>False) w W)=>ft_ b W hb (HT.out.touch T)
 clear ha hb T0
 go_wp2_with (go_at_call 170;fail)
 refine HA.out.mono ?_
 rintro e w1 ⟨rfl,T1⟩
 have H1:=Lib.hid (H0.out.trans T1 fun _ _ f=>f)
 clear T1
 go_wp2_with (go_at_call 170;fail)
 refine (HB.out w1 H1.out).mono ?_
 rintro e w2 ⟨rfl,T2⟩
 have H2:=Lib.hid (H1.out.trans T2 fun _ _ f=>f)
 clear T2
 go_wp2_with (go_at_call 122;refine (cmpStr_ _ _ _).mono ?_;rintro e w' ⟨rfl,rfl⟩)
 go_ret
 exact ⟨rfl,H2.out⟩
end Go.Proofs.YtfccjaboicpohaaGreatDoor
namespace Go.Proofs.YtfccjaboicpohaaGreatDoor
open Go.RowKit
open Go.RowKit Go.Lib
open Ux (Row iv sv ev Ent slt wts wghC cmpL elemsE okT)
open Ux.Sign (signs foldText cp raw)
def CAt (w:World) (q:Nat) (kd lv:Int) (sh bk:Bool) (tb:Option Addr):Prop:=w.cell? ⟨q,0,none⟩=some (.int .i64 kd)∧w.cell? ⟨q,1,none⟩=some (.int .i64 lv)∧w.cell? ⟨q,2,none⟩=some (.bool sh)∧w.cell? ⟨q,3,none⟩=some (.bool bk)∧w.cell? ⟨q,4,none⟩=some (.pointer tb)
theorem CAt.of {w:World} {q:Nat} {kd lv:Int} {sh bk:Bool} {tb:Option Addr} (h:w.heap[q]? =some (.cells #[.int .i64 kd,.int .i64 lv,.bool sh,.bool bk,.pointer tb] 66 (0,0))):CAt w q kd lv sh bk tb:=by
 refine ⟨?_,?_,?_,?_,?_⟩
 ·rw [cell_of_row w q 0 _ _ (0,0) h];rfl
 ·rw [cell_of_row w q 1 _ _ (0,0) h];rfl
 ·rw [cell_of_row w q 2 _ _ (0,0) h];rfl
 ·rw [cell_of_row w q 3 _ _ (0,0) h];rfl
 ·rw [cell_of_row w q 4 _ _ (0,0) h];rfl
theorem CAt.touch {w w':World} {q:Nat} {kd lv:Int} {sh bk:Bool} {tb:Option Addr} (h:CAt w q kd lv sh bk tb) (T:Ux.Touch (fun _=>False) w w'):CAt w' q kd lv sh bk tb:=
 ⟨T.cell h.1 (fun f=>f),T.cell h.2.1 (fun f=>f),T.cell h.2.2.1 (fun f=>f),T.cell h.2.2.2.1 (fun f=>f),T.cell h.2.2.2.2 (fun f=>f)⟩
def elB (E:List Ent) (a:ByteArray):List Nat:=elemsE E (signs a.data.toList)
theorem elB_ok {E:List Ent} (h:okT E) (a:ByteArray):(elB E a).length≤8*a.size∧∀x∈elB E a,x<4294967296:=by
 have h1:=Ux.elems_ok h (s:=signs a.data.toList) fun c hc=>signs_lt _ c hc
 have h2:=signs_le a.data.toList
 have e:a.data.toList.length=a.size:=rfl
 exact ⟨by unfold elB;omega,h1.2⟩
theorem wgh_step {sh bk:Bool} {a b:List Nat} {k n:Nat} (h:k≤n):wghC sh bk a b k (n+1-k)=if cmpL (sv (wts sh bk k a)) (sv (wts sh bk k b))≠0 then cmpL (sv (wts sh bk k a)) (sv (wts sh bk k b)) else wghC sh bk a b (k+1) (n+1-(k+1)):=by
 rw [show n+1-k=(n+1-(k+1))+1 by omega]
 rfl
set_option maxHeartbeats 8000000 in
set_option maxRecDepth 100000 in
theorem weigh_ (B mb:Nat) (E:List Ent) (lv:Nat) (hlv:1≤lv∧lv≤3) (sh bk:Bool) (a b:ByteArray) (w:World) (hE:TableAt w B mb E) (hT:Tabs w) (ha:a.size≤1000000) (hb:b.size≤1000000):
 Calls Tryz.prog 124 #[cV 3 lv sh bk (some ⟨B,0,none⟩),.string a,.string b] w fun e w'=>e= .returned (.int .i64 (wghC sh bk (elB E a) (elB E b) 1 lv))∧Ux.Touch (fun _=>False) w w':=by
 have hok:=hE.1.1
 have HE:=Lib.hid fun W (T:Ux.Touch (fun _=>False) w W) (s:ByteArray) (hs:s.size≤1000000)=>elements_ B mb E s W (hE.touch0 T) (hT.touch T) (by omega)
 have HO:=Lib.hid fun (x:Nat) (hx:x=1∨x=2∨x=3) W (u:Value) (s:ByteArray) (hs:s.size≤1000000) (hu:Row W 0 56 u (ev (elB E s)))=>cof_ 3 lv sh bk (some ⟨B,0,none⟩) u (elB E s) x hx W hu (by have:=(elB_ok hok s).1;omega) (elB_ok hok s).2
 have HL:Hid (∀(x:Nat) (s:ByteArray),s.size≤1000000→(sv (wts sh bk x (elB E s))).length≤1000000000):=Lib.hid fun x s hs=>by
  rw [Ux.sv_length]
  have:=Ux.wts_len sh bk x (elB E s)
  have:=(elB_ok hok s).1
  omega
 have HS:=Lib.hid (And.intro ha (And.intro hb hlv))
 obtain ⟨LI,hLI⟩: ∃LI:Int,(lv:Int)=LI:=⟨_,rfl⟩
 rw [hLI] at HO⊢
 have l1:(1:Int)≤LI:=by omega
 have l3:LI≤3:=by omega
 have HLI:=Lib.hid hLI
 obtain ⟨R,hR⟩: ∃R,wghC sh bk (elB E a) (elB E b) 1 lv=R:=⟨_,rfl⟩
 rw [hR]
 have HR:=Lib.hid hR
 have T0:Ux.Touch (fun _=>False) w (w.alloc (.cells #[.int .i64 3,.int .i64 LI,.bool sh,.bool bk,.pointer (some ⟨B,0,none⟩)] 66)):=(Ux.Touch.refl _ _).alloc _
 have hC:CAt (w.alloc (.cells #[.int .i64 3,.int .i64 LI,.bool sh,.bool bk,.pointer (some ⟨B,0,none⟩)] 66)) w.heap.size 3 LI sh bk (some ⟨B,0,none⟩):=CAt.of (heap_alloc_new w _)
 have HC:=Lib.hid fun W (T:Ux.Touch (fun _=>False) (w.alloc (.cells #[.int .i64 3,.int .i64 LI,.bool sh,.bool bk,.pointer (some ⟨B,0,none⟩)] 66)) W)=>hC.touch T
 have H0:=Lib.hid T0
 have c4:=hC.2.2.2.2
 clear hE hT ha hb hlv hok hLI hR T0 hC
 unfold cV at HO⊢
 go_enter Tryz.func124,Tryz.ntmps124
 go_upto_region 1 with (fail)
 refine Ux.wpr (fun _ w'=>w'.cell? ⟨w.heap.size,4,none⟩=some (.pointer (some ⟨B,0,none⟩))) (.q [0,2,4,6] (.h false [1,5] (.e 3 true false (.e 7 true false (.q [8] (.line [9])))))) ?_;repeat ((with_reducible refine Ux.qg ?_);refine Ux.qu ?_)
 clear c4
 go_wp2_with (go_at_call 43;fail)
 refine (HE.out _ H0.out.drew a HS.out.1).mono ?_
 rintro e w2 ⟨u2,rfl,hu2,T2⟩
 have H2:=Lib.hid (And.intro (hu2.mono (Nat.zero_le _)) (And.intro (H0.out.drew.trans T2 fun _ _ f=>f) ((Ux.Touch.refl (fun _=>False) _).drew.trans T2 fun _ _ f=>f)))
 have c4:=(HC.out _ H2.out.2.2).2.2.2.2
 clear hu2 T2
 go_wp2_with (fail)
 refine ⟨c4,?_⟩
 repeat ((with_reducible refine Ux.qg ?_);refine Ux.qu ?_)
 go_wp2_with (go_at_call 43;fail)
 refine (HE.out _ H2.out.2.1 b HS.out.2.1).mono ?_
 rintro e w3 ⟨u3,rfl,hu3,T3⟩
 have H3:=Lib.hid (And.intro (hu3.mono (Nat.zero_le _)) (And.intro (H2.out.2.1.trans T3 fun _ _ f=>f) (And.intro (H2.out.2.2.trans T3 fun _ _ f=>f) (H2.out.1.touch0 T3))))
 have c4:=(HC.out _ H3.out.2.2.1).2.2.2.2
 clear hu3 T3
 go_wp2_with (fail)
 refine ⟨c4,?_⟩
 repeat ((with_reducible refine Ux.qg ?_);refine Ux.qu ?_)
 clear c4
 go_wp2_with (fail)
 have c1:=(HC.out _ H3.out.2.2.1).2.1
 go_loopg [9] lv (fun gk s9 wr=> ∃k:Nat,s9= .int .i64 k∧1≤k∧k+gk=lv+1∧wr.cell? ⟨w.heap.size,1,none⟩=some (.int .i64 LI)∧Hid (wghC sh bk (elB E a) (elB E b) k (lv+1-k)=R∧Ux.Touch (fun _=>False) w3 wr))
 case atStart=>exact ⟨1,rfl,Nat.le_refl _,by omega,c1,Lib.hid ⟨by rw [Nat.add_sub_cancel];exact HR.out,Ux.Touch.refl _ _⟩⟩
 case round=>
  clear c1
  obtain ⟨k,rfl,hk1,hkg,c1,HI⟩:=hrel
  have k0:(1:Int)≤k:=by omega
  by_cases hle:k≤lv
  ·obtain ⟨g',rfl⟩: ∃g',gk=g'+1:=⟨gk-1,by omega⟩
   have k1:(k:Int)≤LI:=by have:=HLI.out;omega
   have hk3:k=1∨k=2∨k=3:=by have:=HS.out.2.2;omega
   have HK:=Lib.hid (And.intro hk3 hle)
   have hst:=wgh_step (sh:=sh) (bk:=bk) (a:=elB E a) (b:=elB E b) hle
   obtain ⟨c0,c1,c2,c3,c4⟩:=HC.out _ (H3.out.2.2.1.trans HI.out.2 fun _ _ f=>f)
   have HST:=Lib.hid hst
   clear hle hk3 hst
   go_upto_region 5 with (fail)
   refine Ux.wpr (fun _ w'=>w'.cell? ⟨w.heap.size,0,none⟩=some (.int .i64 3)∧w'.cell? ⟨w.heap.size,1,none⟩=some (.int .i64 LI)∧w'.cell? ⟨w.heap.size,2,none⟩=some (.bool sh)∧w'.cell? ⟨w.heap.size,3,none⟩=some (.bool bk)∧w'.cell? ⟨w.heap.size,4,none⟩=some (.pointer (some ⟨B,0,none⟩))) (.h false [0,4] (.q [1,2,5,6] (.e 3 true false (.e 7 true false (.e 8 true false (.line [9])))))) ?_;repeat ((with_reducible refine Ux.qg ?_);refine Ux.qu ?_)
   clear c0 c1 c2 c3 c4
   go_wp2_with (go_at_call 171;fail)
   refine (HO.out k HK.out.1 wr.drew u2 a HS.out.1 ((H3.out.2.2.2.touch0 HI.out.2).touch0 (Ux.Touch.refl _ _).drew)).mono ?_
   rintro e w4 ⟨v4,rfl,hv4,T4⟩
   have H4:=Lib.hid (And.intro hv4 (And.intro (HI.out.2.drew.trans T4 fun _ _ f=>f) T4))
   obtain ⟨c0,c1,c2,c3,c4⟩:=HC.out _ (H3.out.2.2.1.trans H4.out.2.1 fun _ _ f=>f)
   clear hv4 T4
   go_wp2_with (fail)
   refine ⟨⟨c0,c1,c2,c3,c4⟩,?_⟩
   repeat ((with_reducible refine Ux.qg ?_);refine Ux.qu ?_)
   clear c0 c1 c2 c3 c4
   go_wp2_with (go_at_call 171;fail)
   refine (HO.out k HK.out.1 w4 u3 b HS.out.2.1 (H3.out.1.touch0 H4.out.2.1)).mono ?_
   rintro e w5 ⟨v5,rfl,hv5,T5⟩
   have H5:=Lib.hid (And.intro hv5 (And.intro (H4.out.2.1.trans T5 fun _ _ f=>f) (H4.out.1.touch0 T5)))
   obtain ⟨c0,c1,c2,c3,c4⟩:=HC.out _ (H3.out.2.2.1.trans H5.out.2.1 fun _ _ f=>f)
   clear hv5 T5
   go_wp2_with (fail)
   refine ⟨⟨c0,c1,c2,c3,c4⟩,?_⟩
   repeat ((with_reducible refine Ux.qg ?_);refine Ux.qu ?_)
   have HCM:=Lib.hid (cmpS_ v4 v5 _ _ w5 (IView.row H5.out.2.2) (IView.row H5.out.1) (HL.out k a HS.out.1) (HL.out k b HS.out.2.1))
   obtain ⟨X,hX⟩: ∃X,cmpL (sv (wts sh bk k (elB E a))) (sv (wts sh bk k (elB E b)))=X:=⟨_,rfl⟩
   rw [hX] at HCM HST
   clear c0 c1 c2 c3 c4 hX
   go_wp2_with (go_at_call 113;fail)
   refine HCM.out.mono ?_
   rintro e w6 ⟨rfl,hw⟩
   obtain rfl:w5=w6:=hw.symm
   obtain ⟨c0,c1,c2,c3,c4⟩:=HC.out _ (H3.out.2.2.1.trans H5.out.2.1 fun _ _ f=>f)
   go_wp2_with (fail)
   refine ⟨⟨c0,c1,c2,c3,c4⟩,?_⟩
   repeat ((with_reducible refine Ux.qg ?_);refine Ux.qu ?_)
   clear c0 c2 c3 c4
   by_cases hx:X=0
   ·subst hx
    go_wp2
    go_roundg g'
    case measure=>omega
    case rel=>
     refine ⟨k+1,by congr 1,by omega,by omega,c1,Lib.hid ⟨?_,H5.out.2.1⟩⟩
     rw [←HI.out.1,HST.out,if_neg (by simp)]
   ·have q:(X !=0)=true:=by simpa using hx
    have HX:=Lib.hid hx
    clear hx c1
    go_wp2
    go_returns
    refine ⟨?_,H3.out.2.1.trans H5.out.2.1 fun _ _ f=>f⟩
    rw [←HI.out.1,HST.out,if_pos HX.out]
    rfl
  ·have k1: ¬(k:Int)≤LI:=by have:=HLI.out;omega
   have hz:lv+1-k=0:=by omega
   have hr0:R=0:=by
    rw [←HI.out.1,hz]
    rfl
   subst hr0
   clear hle hz
   go_wp2
   go_returns
   exact ⟨rfl,H3.out.2.1.trans HI.out.2 fun _ _ f=>f⟩
end Go.Proofs.YtfccjaboicpohaaGreatDoor
namespace Go.Proofs.YtfccjaboicpohaaGreatDoor
open Go.RowKit
open Go.RowKit Go.Lib
open Ux (Row iv sv ev Ent wghC elemsE okT)
def fnV (f:FuncId):Value:= .func (.func f) #[] #[]
def waysV:Value:= .agg #[fnV 77,fnV 77,fnV 123,fnV 124]
set_option maxHeartbeats 4000000 in
theorem ways_ (w:World):Calls Tryz.prog 78 #[] w fun e w'=>e= .returned waysV∧Ux.Touch (fun _=>False) w w':=by
 unfold waysV fnV
 have hb:(w.alloc (.cells #[.func (.func 77) #[] #[],.func (.func 77) #[] #[],.func (.func 123) #[] #[],.func (.func 124) #[] #[]] 152)).heap[w.heap.size]? =some (.cells #[.func (.func 77) #[] #[],.func (.func 77) #[] #[],.func (.func 123) #[] #[],.func (.func 124) #[] #[]] 152 (0,0)):=heap_alloc_new w _
 have c0:=cell_of_row _ w.heap.size 0 _ _ (0,0) hb
 have c1:=cell_of_row _ w.heap.size 1 _ _ (0,0) hb
 have c2:=cell_of_row _ w.heap.size 2 _ _ (0,0) hb
 have c3:=cell_of_row _ w.heap.size 3 _ _ (0,0) hb
 have HC:=Lib.hid (And.intro c0 (And.intro c1 (And.intro c2 c3)))
 clear hb c0 c1 c2 c3
 go_enter Tryz.func78,Tryz.ntmps78
 go_wp2
 obtain ⟨c0,c1,c2,c3⟩:=HC.out
 have T0:Ux.Touch (fun _=>False) w (w.alloc (.cells #[.func (.func 77) #[] #[],.func (.func 77) #[] #[],.func (.func 123) #[] #[],.func (.func 124) #[] #[]] 152)):=(Ux.Touch.refl _ _).alloc _
 refine bodyPost_ret (by simp [results,Tryz.results78,go_sem,c0,c1,c2,c3];try rfl) rfl ?_
 exact ⟨rfl,T0⟩
def cmpC (kd lv:Int) (sh bk:Bool) (tb:Option Addr) (E:List Ent) (a b:ByteArray):Int:=
 if okC kd lv tb=true then (if kd=3 then wghC sh bk (elB E a) (elB E b) 1 lv.toNat else if kd=2 then cmpStr (ftB a) (ftB b) else cmpStr a b) else cmpStr a b
def CTab (w:World) (kd:Int) (tb:Option Addr) (E:List Ent):Prop:=kd=3→∀p,tb=some p→∃B mb,p=⟨B,0,none⟩∧TableAt w B mb E
theorem CTab.touch {w w':World} {kd:Int} {tb:Option Addr} {E:List Ent} (h:CTab w kd tb E) (T:Ux.Touch (fun _=>False) w w'):CTab w' kd tb E:=fun hk p hp=>by
 obtain ⟨B,mb,h1,h2⟩:=h hk p hp
 exact ⟨B,mb,h1,h2.touch0 T⟩
theorem egBin: ∀args w,(callFunc 77 args).run Tryz.prog w= .ok (.enter 77 args) w:=enters_of Tryz.func77 (by kernel_rfl) rfl
theorem egFold: ∀args w,(callFunc 123 args).run Tryz.prog w= .ok (.enter 123 args) w:=enters_of Tryz.func123 (by kernel_rfl) rfl
theorem egWeigh: ∀args w,(callFunc 124 args).run Tryz.prog w= .ok (.enter 124 args) w:=enters_of Tryz.func124 (by kernel_rfl) rfl
set_option maxHeartbeats 8000000 in
set_option maxRecDepth 100000 in
theorem ccmpG_ (kd lv:Int) (sh bk:Bool) (tb:Option Addr) (a b:ByteArray) (w:World) (G:FuncId) (K:Nat) (hK:kd=K) (hG:(#[fnV 77,fnV 77,fnV 123,fnV 124]:Array Value)[K]? =some (fnV G)) (eG: ∀args w,(callFunc G args).run Tryz.prog w= .ok (.enter G args) w)
 (R:Int) (hok:okC kd lv tb=true) (hcall: ∀W,Ux.Touch (fun _=>False) w W→Calls Tryz.prog G #[cV kd lv sh bk tb,.string a,.string b] W fun e w'=>e= .returned (.int .i64 R)∧Ux.Touch (fun _=>False) W w'):
 Calls Tryz.prog 29 #[cV kd lv sh bk tb,.string a,.string b] w fun e w'=>e= .returned (.int .i64 R)∧Ux.Touch (fun _=>False) w w':=by
 subst hK
 have hk4:K<4:=by
  rcases Nat.lt_or_ge K 4 with h|h
  ·exact h
  ·rw [Array.getElem?_eq_none (by simpa using h)] at hG
   cases hG
 have HK:=Lib.hid hcall
 have HO:=Lib.hid fun W=>cok_ K lv sh bk tb W
 rw [hok] at HO
 have HWY:=Lib.hid fun W=>ways_ W
 have hidx: ∀W,(Instr.index 152 waysV (.int .i64 (K:Int))).run Tryz.prog W= .ok (fnV G) W:=fun W=>by
  unfold waysV
  have hb:(0:Int)≤K∧(K:Int)<((4:Nat):Int):=by omega
  have hG': [fnV 77,fnV 77,fnV 123,fnV 124][K]? =some (fnV G):=by simpa using hG
  simp [Instr.index,asIntOf,run_underlying Tryz.underlying152,Tryz.sizeOf151 W,Tryz.isAgg151 W,hb,part,hG',hk4]
  rw [List.getElem?_eq_getElem (by simpa using hk4)] at hG'
  exact Option.some.inj hG'
 have T0:Ux.Touch (fun _=>False) w (w.alloc (.cells #[.int .i64 K,.int .i64 lv,.bool sh,.bool bk,.pointer tb] 66)):=(Ux.Touch.refl _ _).alloc _
 have hC:CAt (w.alloc (.cells #[.int .i64 K,.int .i64 lv,.bool sh,.bool bk,.pointer tb] 66)) w.heap.size K lv sh bk tb:=CAt.of (heap_alloc_new w _)
 have HC:=Lib.hid fun W (T:Ux.Touch (fun _=>False) (w.alloc (.cells #[.int .i64 K,.int .i64 lv,.bool sh,.bool bk,.pointer tb] 66)) W)=>hC.touch T
 have H0:=Lib.hid T0
 have HX:=Lib.hid hidx
 have kb:(0:Int)≤K:=by omega
 have kb4:(K:Int)<4:=by omega
 obtain ⟨c0,c1,c2,c3,c4⟩:=hC
 clear hcall hok hidx T0 hG hk4
 unfold cV at HO HK⊢
 go_enter Tryz.func29,Tryz.ntmps29
 go_wp2_with (go_at_call 73;fail)
 refine (HO.out _).mono ?_
 rintro e w2 ⟨rfl,T2⟩
 have H2:=Lib.hid (And.intro (H0.out.trans T2 fun _ _ f=>f) T2)
 clear c0 c1 c2 c3 c4 T2
 obtain ⟨c0,c1,c2,c3,c4⟩:=HC.out _ H2.out.2
 go_upto_region 3 with (fail)
 refine Ux.wpr (fun _ w'=>w'.cell? ⟨w.heap.size,0,none⟩=some (.int .i64 (K:Int))∧w'.cell? ⟨w.heap.size,1,none⟩=some (.int .i64 lv)∧w'.cell? ⟨w.heap.size,2,none⟩=some (.bool sh)∧w'.cell? ⟨w.heap.size,3,none⟩=some (.bool bk)∧w'.cell? ⟨w.heap.size,4,none⟩=some (.pointer tb)) (.q [1,5,6] (.h false [2,4] (.e 0 true false (.q [3] (.e 7 true false (.line [8])))))) ?_;repeat ((with_reducible refine Ux.qg ?_);refine Ux.qu ?_)
 clear c0 c1 c2 c3 c4
 go_wp2_with (go_at_call 78;fail)
 refine (HWY.out _).mono ?_
 rintro e w3 ⟨rfl,T3⟩
 have H3:=Lib.hid (And.intro (H2.out.1.drew.trans T3 fun _ _ f=>f) (H2.out.2.drew.trans T3 fun _ _ f=>f))
 clear T3
 obtain ⟨c0,c1,c2,c3,c4⟩:=HC.out _ H3.out.2
 have hidx:=HX.out
 go_wp2_with (fail)
 refine ⟨⟨c0,c1,c2,c3,c4⟩,?_⟩
 repeat ((with_reducible refine Ux.qg ?_);refine Ux.qu ?_)
 clear c0 c1 c2 c3 c4
 clear hidx
 unfold fnV
 go_wp2_with (go_at_fn G;fail)
 refine (HK.out _ H3.out.1).mono ?_
 rintro e w4 ⟨rfl,T4⟩
 have H4:=Lib.hid (And.intro (H3.out.1.trans T4 fun _ _ f=>f) (H3.out.2.trans T4 fun _ _ f=>f))
 clear T4
 obtain ⟨c0,c1,c2,c3,c4⟩:=HC.out _ H4.out.2
 go_wp2_with (fail)
 refine ⟨⟨c0,c1,c2,c3,c4⟩,?_⟩
 repeat ((with_reducible refine Ux.qg ?_);refine Ux.qu ?_)
 clear c0 c1 c2 c3 c4
 go_wp2
 go_returns
 exact ⟨rfl,H4.out.1⟩
set_option maxHeartbeats 4000000 in
theorem ccmpNo_ (kd lv:Int) (sh bk:Bool) (tb:Option Addr) (a b:ByteArray) (w:World) (hok:okC kd lv tb=false):
 Calls Tryz.prog 29 #[cV kd lv sh bk tb,.string a,.string b] w fun e w'=>e= .returned (.int .i64 (cmpStr a b))∧Ux.Touch (fun _=>False) w w':=by
 have HO:=Lib.hid fun W=>cok_ kd lv sh bk tb W
 rw [hok] at HO
 have HB:=Lib.hid fun W=>binary_ (cV kd lv sh bk tb) ⟨_,_,_,_,_,rfl⟩ a b W
 have T0:Ux.Touch (fun _=>False) w (w.alloc (.cells #[.int .i64 kd,.int .i64 lv,.bool sh,.bool bk,.pointer tb] 66)):=(Ux.Touch.refl _ _).alloc _
 have hC:CAt (w.alloc (.cells #[.int .i64 kd,.int .i64 lv,.bool sh,.bool bk,.pointer tb] 66)) w.heap.size kd lv sh bk tb:=CAt.of (heap_alloc_new w _)
 have HC:=Lib.hid fun W (T:Ux.Touch (fun _=>False) (w.alloc (.cells #[.int .i64 kd,.int .i64 lv,.bool sh,.bool bk,.pointer tb] 66)) W)=>hC.touch T
 have H0:=Lib.hid T0
 obtain ⟨c0,c1,c2,c3,c4⟩:=hC
 clear hok T0
 unfold cV at HO HB⊢
 go_enter Tryz.func29,Tryz.ntmps29
 go_wp2_with (go_at_call 73;fail)
 refine (HO.out _).mono ?_
 rintro e w2 ⟨rfl,T2⟩
 have H2:=Lib.hid (And.intro (H0.out.trans T2 fun _ _ f=>f) T2)
 clear c0 c1 c2 c3 c4 T2
 obtain ⟨c0,c1,c2,c3,c4⟩:=HC.out _ H2.out.2
 go_wp2_with (go_at_call 77;fail)
 refine (HB.out _).mono ?_
 rintro e w3 ⟨rfl,T3⟩
 have H3:=Lib.hid (H2.out.1.trans T3 fun _ _ f=>f)
 clear T3 c0 c1 c2 c3 c4
 go_wp2
 go_returns
 exact ⟨rfl,H3.out⟩
theorem ccmp_ (kd lv:Int) (sh bk:Bool) (tb:Option Addr) (E:List Ent) (a b:ByteArray) (w:World) (hE:CTab w kd tb E) (hT:Tabs w) (ha:a.size≤1000000) (hb:b.size≤1000000):
 Calls Tryz.prog 29 #[cV kd lv sh bk tb,.string a,.string b] w fun e w'=>e= .returned (.int .i64 (cmpC kd lv sh bk tb E a b))∧Ux.Touch (fun _=>False) w w':=by
 unfold cmpC
 cases hok:okC kd lv tb with
 |false=>
  rw [if_neg (by simp)]
  exact ccmpNo_ kd lv sh bk tb a b w hok
 |true=>
  rw [if_pos rfl]
  by_cases h3:kd=3
  ·subst h3
   rw [if_pos rfl]
   have h:=hok
   unfold okC at h
   simp at h
   obtain ⟨h1,h2⟩:=h
   cases tb with
   |none=>cases h1
   |some p=>
    obtain ⟨B,mb,rfl,hTA⟩:=hE rfl p rfl
    obtain ⟨n,hn⟩: ∃n:Nat,lv=n:=⟨lv.toNat,by omega⟩
    subst hn
    rw [Int.toNat_natCast]
    exact ccmpG_ 3 n sh bk _ a b w 124 3 rfl rfl egWeigh _ hok fun W T=>weigh_ B mb E n (by omega) sh bk a b W (hTA.touch0 T) (hT.touch T) ha hb
  ·rw [if_neg h3]
   by_cases h2:kd=2
   ·subst h2
    rw [if_pos rfl]
    exact ccmpG_ 2 lv sh bk _ a b w 123 2 rfl rfl egFold _ hok fun W T=>cfold_ _ ⟨_,_,_,_,_,rfl⟩ a b W (hT.touch T) (by omega) (by omega)
   ·rw [if_neg h2]
    have h1:kd=1:=by
     unfold okC at hok
     simp at hok
     omega
    subst h1
    exact ccmpG_ 1 lv sh bk _ a b w 77 1 rfl rfl egBin _ hok fun W T=>binary_ _ ⟨_,_,_,_,_,rfl⟩ a b W
set_option maxHeartbeats 4000000 in
theorem csame_ (kd lv:Int) (sh bk:Bool) (tb:Option Addr) (E:List Ent) (a b:ByteArray) (w:World) (hE:CTab w kd tb E) (hT:Tabs w) (ha:a.size≤1000000) (hb:b.size≤1000000):
 Calls Tryz.prog 30 #[cV kd lv sh bk tb,.string a,.string b] w fun e w'=>e= .returned (.bool (cmpC kd lv sh bk tb E a b==0))∧Ux.Touch (fun _=>False) w w':=by
 have HB:=Lib.hid fun W (T:Ux.Touch (fun _=>False) w W)=>ccmp_ kd lv sh bk tb E a b W (hE.touch T) (hT.touch T) ha hb
 obtain ⟨R,hR⟩: ∃R,cmpC kd lv sh bk tb E a b=R:=⟨_,rfl⟩
 rw [hR] at HB⊢
 have T0:Ux.Touch (fun _=>False) w (w.alloc (.cells #[.int .i64 kd,.int .i64 lv,.bool sh,.bool bk,.pointer tb] 66)):=(Ux.Touch.refl _ _).alloc _
 have hC:CAt (w.alloc (.cells #[.int .i64 kd,.int .i64 lv,.bool sh,.bool bk,.pointer tb] 66)) w.heap.size kd lv sh bk tb:=CAt.of (heap_alloc_new w _)
 have H0:=Lib.hid T0
 obtain ⟨c0,c1,c2,c3,c4⟩:=hC
 clear hE hT ha hb hR T0
 unfold cV at HB⊢
 go_enter Tryz.func30,Tryz.ntmps30
 go_wp2_with (go_at_call 29;fail)
 refine (HB.out _ H0.out).mono ?_
 rintro e w2 ⟨rfl,T2⟩
 have H2:=Lib.hid (H0.out.trans T2 fun _ _ f=>f)
 clear T2 c0 c1 c2 c3 c4
 go_wp2
 go_returns
 exact ⟨rfl,H2.out⟩
end Go.Proofs.YtfccjaboicpohaaGreatDoor
