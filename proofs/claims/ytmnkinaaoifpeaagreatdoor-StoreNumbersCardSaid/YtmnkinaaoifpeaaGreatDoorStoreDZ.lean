/- A part of the proof that the statement holds for every input that it names. No other condition. -/
import Derived.Test.YtmnkinaaoifpeaaGreatDoorUxStoAZ
import Derived.Test.YtmnkinaaoifpeaaGreatDoorStoreBZ
import Derived.Test.YtmnkinaaoifpeaaGreatDoorStoreCZ
set_option linter.unusedVariables false
set_option linter.unusedSimpArgs false
namespace Go.Proofs.YtmnkinaaoifpeaaGreatDoor
open Go.RowKit
theorem keyedStr:Go.Maps.Keyed Tryz.prog 9:=Go.Maps.string_keyed Tryz.underlying9
theorem keyStr {s:ByteArray} (h:s.size≤1000):Go.keyOf Tryz.prog 9 (.string s)=some (.string s.data.toList):=Go.WideMaps.keyOf_string_mk Tryz.underlying9 (by unfold maxLen;omega)
theorem zeroBo: ∀w,(zeroValue 4).run Tryz.prog w= .ok (.bool false) w:=(zero_of_info (P:=Tryz.prog) (t:=4) (n:=1) (by kernel_rfl)).1
theorem len0 {k t e:TypeId} {w:World} {b:Nat} {f:Lit→Option Value} (h:Ux.MapIs Tryz.prog k w b 0 f) (ht:Tryz.prog.underlying t=some (.map k e)) (ty:TypeId):(Builtin.len_ #[t] ty #[.map (some b)]).run Tryz.prog w= .ok (.int .i64 0) w:=by
 obtain ⟨D,hD,_⟩:=h
 have h1:=hD.size_le
 have h2:=hD.len ht ty
 rw [h2,show (Maps.size D:Int)=0 by omega]
theorem take_ne {l:List ColX} (h:(l.map ColX.nm).Nodup) {i:Nat} {x:ColX} (hx:l[i]? =some x): ∀y∈l.take i,y.nm≠x.nm:=by
 intro y hy e
 obtain ⟨j,hj⟩:=List.mem_iff_getElem?.1 hy
 rw [List.getElem?_take] at hj
 split at hj
 ·rename_i hji
  have hi:i<l.length:=(List.getElem?_eq_some_iff.1 hx).1
  obtain ⟨h1,h2⟩:=List.getElem?_eq_some_iff.1 hj
  obtain ⟨_,h3⟩:=List.getElem?_eq_some_iff.1 hx
  have:=(List.pairwise_iff_getElem.1 h) j i (by simpa using h1) (by simpa using hi) hji
  simp only [List.getElem_map,h2,h3] at this
  exact this e
 ·cases hj
def CreateR (db m1 m2:Nat) (fan:Int) (l:List ColX) (w w':World) (e:Ending):Prop:=
 e= .returned (.int .i64 0)∧∃tb mb v,Db1 w' db m1 m2 1 fan tb∧TabR w' tb mb 0 v 0 (fun _=>none) []∧COwn w' w.heap.size v l∧w.heap.size≤tb∧w.heap.size≤mb∧tb≠mb∧(∀b,v.ownBlock=some b→b<tb)∧Ux.Touch (fun b=>b=m1) w w'
set_option maxHeartbeats 8000000 in
set_option maxRecDepth 100000 in
theorem create_ (db m1 m2:Nat) (fan:Int) (l:List ColX) (v:Value) (w:World) (hd:DbAt w db m1 m2 fan) (hm:Ux.MapIs Tryz.prog 75 w m1 0 (fun _=>none)) (hap:db≠m1∧m1≠m2) (h:ColXs w v l) (hl:l.length≤8) (hne:l≠[]) (hnd:(l.map ColX.nm).Nodup) (hg: ∀x∈l,x.good) (hnm: ∀x∈l,x.nm.size≤1000):
 Calls Tryz.prog 17 #[.pointer (some ⟨db,0,none⟩),.string ⟨#[116]⟩,v] w fun e w'=>CreateR db m1 m2 fan l w w' e:=by
 obtain ⟨a,c,rfl,hc⟩:=h.is
 obtain ⟨n,hn⟩: ∃n,l.length=n:=⟨_,rfl⟩
 obtain ⟨klt,hkt⟩:=key_t
 have c1:=cell_of_row w db 1 _ _ (0,0) hd.row
 simp at c1
 have hlk:=hm.look keyedN Tryz.underlying70 (zeroPT w) hkt
 have HLK:=Lib.hid (show (Instr.lookup 70 (.map (some m1)) (.agg #[.string ⟨#[116]⟩]) false).run Tryz.prog w= .ok (.pointer none) w from hlk)
 have hlen3:=len0 (t:=70) hm Tryz.underlying70 3
 have HH:=Lib.hid (And.intro h (And.intro hn (And.intro hg (And.intro hnd (And.intro hnm (And.intro hd (And.intro hm (And.intro hap hkt))))))))
 have n0:(n:Int)≤8:=by omega
 have n1:(n:Int)≤c:=by omega
 have n2:((n:Int)==0)=false:=beq_false_of_ne (by have:=List.length_pos_iff.2 hne;omega)
 have n3: ¬(8:Int)<n:=by omega
 have hmm:= @run_makeMap Tryz.prog
 have HNE:=Lib.hid hne
 rw [hn]
 clear h hl hc hn hg hnd hnm hd hm hap hkt hlk hne
 obtain ⟨W1,hW1⟩: ∃W,w.alloc (.map #[] 0)=W:=⟨_,rfl⟩
 obtain ⟨sm,hsm⟩: ∃b,w.heap.size=b:=⟨_,rfl⟩
 have hM1:Ux.MapIs Tryz.prog 9 W1 sm 0 (fun _=>none):=by rw [←hW1,←hsm];exact Ux.MapIs.made w _ _
 have t1:Ux.Touch (fun _=>False) w W1:=by rw [←hW1];exact (Ux.Touch.refl _ _).alloc _
 have H1:=Lib.hid (And.intro hM1 (And.intro t1 hsm))
 clear hM1 t1
 go_enter Tryz.func17,Tryz.ntmps17
 go_upto_region 10 with (at_lookup;refine Ux.wpList_look rfl _ _ 70 rfl rfl rfl HLK.out ?_)
 clear hW1 hsm hmm hlen3 n2 n3 c1
 go_wp2_with (fail)
 go_loopg [36] n (fun gk s36 wr=> ∃i:Nat,s36= .int .i64 i∧i+gk=n∧Hid (∃f,Ux.MapIs Tryz.prog 9 wr sm i f∧(∀(nm:ByteArray) (kl:Lit),(∀x∈l.take i,x.nm≠nm)→Go.keyOf Tryz.prog 9 (.string nm)=some kl→f kl=none)∧Ux.Touch (fun _=>False) w wr))
 case atStart=>exact ⟨0,rfl,by omega,Lib.hid ⟨_,H1.out.1,fun _ _ _ _=>rfl,H1.out.2.1⟩⟩
 case round=>
  obtain ⟨i,rfl,hig,HI⟩:=hrel
  have i0:(0:Int)≤i:=by omega
  by_cases hlt:i<n
  ·obtain ⟨g',rfl⟩: ∃g',gk=g'+1:=⟨gk-1,by omega⟩
   have i1:(i:Int)<n:=by omega
   obtain ⟨x,hx⟩: ∃x,l[i]? =some x:=⟨_,List.getElem?_eq_getElem (by have:=HH.out.2.1;omega)⟩
   obtain ⟨f,hf1,hf2,hfT⟩:=HI.out
   have hsl:=HH.out.1.touch0 hfT
   obtain ⟨g,off,rfl,_,c0,c1,c2,c3,c4,c5,c6,c7,c8⟩:=hsl.at hx
   have hxm:=List.mem_of_getElem? hx
   have hkx:=keyStr (HH.out.2.2.2.2.1 x hxm)
   have hfn:f (.string x.nm.data.toList)=none:=hf2 x.nm _ (take_ne HH.out.2.2.2.1 hx) hkx
   obtain ⟨b11,hb11⟩: ∃b,wr.heap.size=b:=⟨_,rfl⟩
   obtain ⟨W3,hW3⟩: ∃W,wr.alloc (.cells #[.string ⟨#[]⟩,.string ⟨#[]⟩,.int .i64 0,.int .i64 0,.int .i64 0,.bool false,.bool false,.pointer none,.bool false] 45)=W:=⟨_,rfl⟩
   have t3:Ux.Touch (fun _=>False) wr W3:=by rw [←hW3];exact (Ux.Touch.refl _ _).alloc _
   have r3:W3.heap[b11]? =some (.cells #[.string ⟨#[]⟩,.string ⟨#[]⟩,.int .i64 0,.int .i64 0,.int .i64 0,.bool false,.bool false,.pointer none,.bool false] 45 (0,0)):=by rw [←hW3,←hb11];exact heap_alloc_new wr _
   have H3:=Lib.hid (And.intro t3 (And.intro r3 hb11))
   have HX:=Lib.hid (And.intro hlt (And.intro hig (And.intro hx (And.intro hkx (And.intro hfn (And.intro hf1 (And.intro hf2 hfT)))))))
   clear hsl hx hlt hig t3 r3 hkx hfn hf1 hf2 hfT hxm
   go_wp2_with (refine Ux.is_store 45 rfl ?_;refine Ux.storeN rfl 45 _ _ rfl b11 _ rfl rfl 45 _ H3.out.2.1 (by kernel_rfl) rfl (by simp [Value.oneCell']) ?_)
   intro W4 r4 t4
   have z0:=cell_of_row W4 b11 0 _ _ (0,0) r4
   simp at z0
   have t34:Ux.Touch (fun _=>False) wr W4:=H3.out.1.trans t4 fun b hb e=>by have:=H3.out.2.2;omega
   have hm4:=HX.out.2.2.2.2.2.1.touch t34 (fun f=>f)
   have hlk:=hm4.look keyedStr Tryz.underlying114 (zeroBo W4) HX.out.2.2.2.1
   rw [HX.out.2.2.2.2.1] at hlk
   have HLK4:=Lib.hid (show (Instr.lookup 114 (.map (some sm)) (.string x.nm) false).run Tryz.prog W4= .ok (.bool false) W4 from hlk)
   have H4:=Lib.hid (And.intro hm4 t34)
   clear hm4 hlk t34 r4 t4 c0 c1 c2 c3 c4 c5 c6 c7 c8 hW3 hb11
   go_wp2_with (first
    |(at_lookup;refine Ux.wpList_look rfl _ _ 114 rfl rfl rfl HLK4.out ?_)
    |(at_mapUpdate;refine Ux.wpList_put (key:= .string x.nm) (val:= .bool true) rfl _ _ _ 114 rfl rfl rfl rfl H4.out.1 keyedStr Tryz.underlying114 (by unfold maxLen;omega) HX.out.2.2.2.1 ?_;intro w9 hm9 ht9;have H9:=Lib.hid (And.intro hm9 ht9);clear hm9 ht9))
   go_roundg g'
   case measure=>omega
   case rel=>
    refine ⟨i+1,rfl,by have:=HX.out.2.1;omega,Lib.hid ⟨_,H9.out.1,fun nm kl hnm hk=> ?_,(HX.out.2.2.2.2.2.2.2.trans H4.out.2 fun _ _ f=>f).trans H9.out.2 fun b hb e=>by have:=H1.out.2.2;omega⟩⟩
    have hmem:x∈l.take (i+1):=by
     rw [List.take_add_one,HX.out.2.2.1]
     simp
    have hne: ¬kl.sameKey (.string x.nm.data.toList)=true:=fun e=>by
     have e1:=WideAt.sameKey_eq e
     subst e1
     have:=keyedStr.inj hk HX.out.2.2.2.1
     injection this with e2
     exact hnm x hmem e2.symm
    unfold Ux.upd
    rw [if_neg hne]
    refine HX.out.2.2.2.2.2.2.1 nm kl (fun y hy=>hnm y ?_) hk
    rw [List.take_add_one]
    exact List.mem_append_left _ hy
  ·have i1: ¬(i:Int)<n:=by omega
   obtain ⟨f,-,-,hfT⟩:=HI.out
   have HCO:=Lib.hid (cont_ l HH.out.2.2.1 (.slice a l.length c) wr (HH.out.1.touch0 hfT) (by have:=HH.out.2.1;omega))
   rw [HH.out.2.1] at HCO
   have HT:=Lib.hid hfT
   clear hlt hfT hig
   go_wp2_with (go_at_call 43;fail)
   refine HCO.out.mono ?_
   rintro e wc ⟨rfl,Tc⟩
   have HTC:=Lib.hid (HT.out.trans Tc fun _ _ f=>f)
   clear Tc
   have c1:=HTC.out.cell (a:=⟨db,1,none⟩) (v:= .map (some m1)) (by rw [cell_of_row w db 1 _ _ (0,0) HH.out.2.2.2.2.2.1.row];rfl) (fun f=>f)
   go_upto_region 19 with (fail)
   go_cut [] (fun wx=> ∃tb mb v' wb,Hid (COwn wb w.heap.size v' l∧Ux.MapIs Tryz.prog 3 wb mb 0 (fun _=>none)∧wb.heap[tb]? =some (.cells #[v',.map (some mb),.int .i64 0] 79 (0,0))∧w.heap.size≤tb∧w.heap.size≤mb∧tb≠mb∧(∀b,v'.ownBlock=some b→b<tb)∧Ux.Touch (fun _=>False) w wb∧Ux.Touch (fun b=>b=m1) wb wx∧Ux.MapIs Tryz.prog 75 wx m1 1 (Ux.upd (fun _=>none) klt (.pointer (some ⟨tb,0,none⟩)))))
   case first=>
    obtain ⟨wk,hwk⟩: ∃W,wc.drew=W:=⟨_,rfl⟩
    have TK:=Lib.hid (show Ux.Touch (fun _=>False) w wk by rw [←hwk];exact HTC.out.drew)
    refine Ux.wpr (fun _ w'=>w'.cell? ⟨db,1,none⟩=some (.map (some m1))) (.q [0,1,2,4,5,6] (.h false [3] (.br 7 (.e 8 true false (.q [9] (.e 10 true false (.line [11])))) 8 (.e 7 true true (.q [9] (.e 10 true false (.line [11]))))))) ?_;repeat ((with_reducible refine Ux.qg ?_);refine Ux.qu ?_)
    have TM:=Ux.Touch.refl (fun _=>False) wk
    have TC:=Ux.Touch.refl (fun _=>False) wk
    refine ⟨?_,?_⟩
    ·have HCC:=Lib.hid (cloneC_ l wk (.slice a l.length c) (HH.out.1.touch0 TK.out) (by have:=HH.out.2.1;omega) HNE.out)
     rw [HH.out.2.1] at HCC
     go_wp2_with (go_at_call 46;fail)
     refine HCC.out.mono ?_
     rintro e w8 ⟨v',rfl,hown,t8⟩
     obtain ⟨va,vc,hv',-⟩:=hown.is
     rw [HH.out.2.1] at hv'
     subst hv'
     have HOW:=Lib.hid (hown.mono TK.out.size)
     have TM:=TM.trans t8 fun _ _ f=>f
     have TC:=Ux.Touch.refl (fun _=>False) w8
     have TK:=Lib.hid (TK.out.trans t8 fun _ _ f=>f)
     clear hown t8
     obtain ⟨wk,hwk⟩: ∃W,W=w8:=⟨_,rfl⟩
     subst hwk
     go_wp2_with (fail)
     first|refine ⟨⟨(TK.out.cell (a:=⟨db,1,none⟩) (v:= .map (some m1)) (by rw [cell_of_row w db 1 _ _ (0,0) HH.out.2.2.2.2.2.1.row];rfl) (fun f=>f)),(TK.out.cell (a:=⟨db,1,none⟩) (v:= .map (some m1)) (by rw [cell_of_row w db 1 _ _ (0,0) HH.out.2.2.2.2.2.1.row];rfl) (fun f=>f))⟩,?_⟩|refine ⟨(TK.out.cell (a:=⟨db,1,none⟩) (v:= .map (some m1)) (by rw [cell_of_row w db 1 _ _ (0,0) HH.out.2.2.2.2.2.1.row];rfl) (fun f=>f)),?_⟩
     obtain ⟨wm,hwm⟩: ∃W,wk.alloc (.map #[] 0)=W:=⟨_,rfl⟩
     obtain ⟨mb,hmb⟩: ∃b,wk.heap.size=b:=⟨_,rfl⟩
     have tm:Ux.Touch (fun _=>False) wk wm:=by rw [←hwm];exact (Ux.Touch.refl _ _).alloc _
     have HM:=Lib.hid (And.intro (show Ux.MapIs Tryz.prog 3 wm mb 0 (fun _=>none) by rw [←hwm,←hmb];exact Ux.MapIs.made wk _ _) (show w.heap.size≤mb by rw [←hmb];exact TK.out.size))
     have TC:=TC.trans tm fun _ _ f=>f
     have TM:=Ux.Touch.refl (fun _=>False) wm
     have TK:=Lib.hid (TK.out.trans tm fun _ _ f=>f)
     have hmm:= @run_makeMap Tryz.prog
     go_wp2_with (fail)
     clear hmm hmb tm
     obtain ⟨wk,hwk⟩: ∃W,W=wm:=⟨_,rfl⟩
     subst hwk
     refine ⟨(TK.out.cell (a:=⟨db,1,none⟩) (v:= .map (some m1)) (by rw [cell_of_row w db 1 _ _ (0,0) HH.out.2.2.2.2.2.1.row];rfl) (fun f=>f)),?_⟩
     repeat ((with_reducible refine Ux.qg ?_);refine Ux.qu ?_)
     have TC0:=TC
     obtain ⟨wm,hwm⟩: ∃W,wk.alloc (.cells #[.slice va n vc,.map (some mb),.int .i64 0] 79)=W:=⟨_,rfl⟩
     obtain ⟨tb,htb⟩: ∃b,wk.heap.size=b:=⟨_,rfl⟩
     have tm:Ux.Touch (fun _=>False) wk wm:=by rw [←hwm];exact (Ux.Touch.refl _ _).alloc _
     have HB:=Lib.hid (And.intro (show wm.heap[tb]? =some (.cells #[.slice va n vc,.map (some mb),.int .i64 0] 79 (0,0)) by rw [←hwm,←htb];exact heap_alloc_new wk _) (And.intro (show w.heap.size≤tb by rw [←htb];exact TK.out.size) (And.intro (show tb≠mb by have:=(HM.out.1.touch TM (fun f=>f)).lt;omega) (show∀b,(Value.slice va n vc).ownBlock=some b→b<tb from fun b hb=>by rw [←htb];exact Ux.own_lt (HOW.out.touch0 TC0).1 b hb))))
     have TC:=TC.trans tm fun _ _ f=>f
     have TM:=TM.trans tm fun _ _ f=>f
     have TK:=Lib.hid (TK.out.trans tm fun _ _ f=>f)
     go_wp2_with (fail)
     clear htb tm TC0
     obtain ⟨wk,hwk⟩: ∃W,W=wm:=⟨_,rfl⟩
     subst hwk
     refine ⟨(TK.out.cell (a:=⟨db,1,none⟩) (v:= .map (some m1)) (by rw [cell_of_row w db 1 _ _ (0,0) HH.out.2.2.2.2.2.1.row];rfl) (fun f=>f)),?_⟩
     go_wp2_with (at_mapUpdate;refine Ux.wpList_put (key:= .agg #[.string ⟨#[116]⟩]) (val:= .pointer (some ⟨tb,0,none⟩)) rfl _ _ _ 70 rfl rfl rfl rfl (HH.out.2.2.2.2.2.2.1.touch TK.out (fun f=>f)) keyedN Tryz.underlying70 (by unfold maxLen;omega) HH.out.2.2.2.2.2.2.2.2 ?_;intro w9 hm9 ht9;have H9:=Lib.hid (And.intro hm9 ht9);clear hm9 ht9)
     go_meet
     exact ⟨tb,mb,_,wk,Lib.hid ⟨HOW.out.touch0 TC,HM.out.1.touch TM (fun f=>f),HB.out.1,HB.out.2.1,HM.out.2,HB.out.2.2.1,HB.out.2.2.2,TK.out,H9.out.2,H9.out.1⟩⟩
    ·obtain ⟨wm,hwm⟩: ∃W,wk.alloc (.map #[] 0)=W:=⟨_,rfl⟩
     obtain ⟨mb,hmb⟩: ∃b,wk.heap.size=b:=⟨_,rfl⟩
     have tm:Ux.Touch (fun _=>False) wk wm:=by rw [←hwm];exact (Ux.Touch.refl _ _).alloc _
     have HM:=Lib.hid (And.intro (show Ux.MapIs Tryz.prog 3 wm mb 0 (fun _=>none) by rw [←hwm,←hmb];exact Ux.MapIs.made wk _ _) (show w.heap.size≤mb by rw [←hmb];exact TK.out.size))
     have TC:=TC.trans tm fun _ _ f=>f
     have TM:=Ux.Touch.refl (fun _=>False) wm
     have TK:=Lib.hid (TK.out.trans tm fun _ _ f=>f)
     have hmm:= @run_makeMap Tryz.prog
     go_wp2_with (fail)
     clear hmm hmb tm
     obtain ⟨wk,hwk⟩: ∃W,W=wm:=⟨_,rfl⟩
     subst hwk
     first|refine ⟨⟨(TK.out.cell (a:=⟨db,1,none⟩) (v:= .map (some m1)) (by rw [cell_of_row w db 1 _ _ (0,0) HH.out.2.2.2.2.2.1.row];rfl) (fun f=>f)),(TK.out.cell (a:=⟨db,1,none⟩) (v:= .map (some m1)) (by rw [cell_of_row w db 1 _ _ (0,0) HH.out.2.2.2.2.2.1.row];rfl) (fun f=>f))⟩,?_⟩|refine ⟨(TK.out.cell (a:=⟨db,1,none⟩) (v:= .map (some m1)) (by rw [cell_of_row w db 1 _ _ (0,0) HH.out.2.2.2.2.2.1.row];rfl) (fun f=>f)),?_⟩
     have HCC:=Lib.hid (cloneC_ l wk (.slice a l.length c) (HH.out.1.touch0 TK.out) (by have:=HH.out.2.1;omega) HNE.out)
     rw [HH.out.2.1] at HCC
     go_wp2_with (go_at_call 46;fail)
     refine HCC.out.mono ?_
     rintro e w8 ⟨v',rfl,hown,t8⟩
     obtain ⟨va,vc,hv',-⟩:=hown.is
     rw [HH.out.2.1] at hv'
     subst hv'
     have HOW:=Lib.hid (hown.mono TK.out.size)
     have TM:=TM.trans t8 fun _ _ f=>f
     have TC:=Ux.Touch.refl (fun _=>False) w8
     have TK:=Lib.hid (TK.out.trans t8 fun _ _ f=>f)
     clear hown t8
     obtain ⟨wk,hwk⟩: ∃W,W=w8:=⟨_,rfl⟩
     subst hwk
     go_wp2_with (fail)
     first|refine ⟨⟨(TK.out.cell (a:=⟨db,1,none⟩) (v:= .map (some m1)) (by rw [cell_of_row w db 1 _ _ (0,0) HH.out.2.2.2.2.2.1.row];rfl) (fun f=>f)),(TK.out.cell (a:=⟨db,1,none⟩) (v:= .map (some m1)) (by rw [cell_of_row w db 1 _ _ (0,0) HH.out.2.2.2.2.2.1.row];rfl) (fun f=>f))⟩,?_⟩|refine ⟨(TK.out.cell (a:=⟨db,1,none⟩) (v:= .map (some m1)) (by rw [cell_of_row w db 1 _ _ (0,0) HH.out.2.2.2.2.2.1.row];rfl) (fun f=>f)),?_⟩
     repeat ((with_reducible refine Ux.qg ?_);refine Ux.qu ?_)
     have TC0:=TC
     obtain ⟨wm,hwm⟩: ∃W,wk.alloc (.cells #[.slice va n vc,.map (some mb),.int .i64 0] 79)=W:=⟨_,rfl⟩
     obtain ⟨tb,htb⟩: ∃b,wk.heap.size=b:=⟨_,rfl⟩
     have tm:Ux.Touch (fun _=>False) wk wm:=by rw [←hwm];exact (Ux.Touch.refl _ _).alloc _
     have HB:=Lib.hid (And.intro (show wm.heap[tb]? =some (.cells #[.slice va n vc,.map (some mb),.int .i64 0] 79 (0,0)) by rw [←hwm,←htb];exact heap_alloc_new wk _) (And.intro (show w.heap.size≤tb by rw [←htb];exact TK.out.size) (And.intro (show tb≠mb by have:=(HM.out.1.touch TM (fun f=>f)).lt;omega) (show∀b,(Value.slice va n vc).ownBlock=some b→b<tb from fun b hb=>by rw [←htb];exact Ux.own_lt (HOW.out.touch0 TC0).1 b hb))))
     have TC:=TC.trans tm fun _ _ f=>f
     have TM:=TM.trans tm fun _ _ f=>f
     have TK:=Lib.hid (TK.out.trans tm fun _ _ f=>f)
     go_wp2_with (fail)
     clear htb tm TC0
     obtain ⟨wk,hwk⟩: ∃W,W=wm:=⟨_,rfl⟩
     subst hwk
     refine ⟨(TK.out.cell (a:=⟨db,1,none⟩) (v:= .map (some m1)) (by rw [cell_of_row w db 1 _ _ (0,0) HH.out.2.2.2.2.2.1.row];rfl) (fun f=>f)),?_⟩
     go_wp2_with (at_mapUpdate;refine Ux.wpList_put (key:= .agg #[.string ⟨#[116]⟩]) (val:= .pointer (some ⟨tb,0,none⟩)) rfl _ _ _ 70 rfl rfl rfl rfl (HH.out.2.2.2.2.2.2.1.touch TK.out (fun f=>f)) keyedN Tryz.underlying70 (by unfold maxLen;omega) HH.out.2.2.2.2.2.2.2.2 ?_;intro w9 hm9 ht9;have H9:=Lib.hid (And.intro hm9 ht9);clear hm9 ht9)
     go_meet
     exact ⟨tb,mb,_,wk,Lib.hid ⟨HOW.out.touch0 TC,HM.out.1.touch TM (fun f=>f),HB.out.1,HB.out.2.1,HM.out.2,HB.out.2.2.1,HB.out.2.2.2,TK.out,H9.out.2,H9.out.1⟩⟩
   obtain ⟨tb,mb,v',wb,HE⟩:=hcut
   go_wp2_with (fail)
   go_returns
   obtain ⟨h1,h2,h3,h4,h5,h6,hbl,h7,h8,h9⟩:=HE.out
   obtain ⟨hap1,hap2⟩:=HH.out.2.2.2.2.2.2.2.1
   have hm1:m1<w.heap.size:=HH.out.2.2.2.2.2.2.1.lt
   have TT:Ux.Touch (fun b=>b=m1) w wc:=(h7.mono (R':=fun b=>b=m1) fun _ _ f=>f.elim).trans h8 fun _ _ f=>f
   refine ⟨rfl,tb,mb,v',⟨HH.out.2.2.2.2.2.1.touch TT hap1 (fun e=>hap2 e.symm),_,h9,fun kl hk=> ?_⟩,⟨h8.heap h3 (by omega),(h2.touch h8 (by omega)).ext fun kl=> ?_,List.nodup_nil,fun x=>by simp⟩,Ux.KGrow.touch h1 h8 fun b hb e=>by omega,h4,h5,h6,hbl,TT⟩
   ·rw [HH.out.2.2.2.2.2.2.2.2] at hk
    cases hk
    unfold Ux.upd
    rw [if_pos (WideAt.sameKey_self (keyedN.key HH.out.2.2.2.2.2.2.2.2))]
   ·unfold Ux.intF
    split<;>rfl
end Go.Proofs.YtmnkinaaoifpeaaGreatDoor
namespace Go.Proofs.YtmnkinaaoifpeaaGreatDoor
open Go.RowKit
open Ux (KGrow VRows Val3)
theorem WkR.touch0 {w w':World} {wb tb mb nx:Nat} {cols lt:Value} {last:Int} {N N2:Nat} {g h:Int→Option Value} {ids:Value} (k:WkR w wb tb mb nx cols lt last N N2 g h ids) (T:Ux.Touch (fun _=>False) w w'):WkR w' wb tb mb nx cols lt last N N2 g h ids:=
 ⟨T.heap k.row (fun f=>f),T.heap k.tab (fun f=>f),k.old.touch T (fun f=>f),k.new.touch T (fun f=>f)⟩
def nums (last:Int) (n:Nat):List Int:=(List.range n).map fun j:Nat=>last+1+(j:Int)
theorem nums_succ (last:Int) (n:Nat):nums last (n+1)=nums last n++ [last+n+1]:=by
 unfold nums
 rw [List.range_succ,List.map_append]
 simp
 omega
theorem nums_length (last:Int) (n:Nat):(nums last n).length=n:=by simp [nums]
theorem mem_nums {last:Int} {n:Nat} {x:Int}:x∈nums last n↔last<x∧x≤last+n:=by
 unfold nums
 rw [List.mem_map]
 constructor
 ·rintro ⟨j,hj,rfl⟩
  have:=List.mem_range.1 hj
  omega
 ·rintro ⟨h1,h2⟩
  exact ⟨(x-last-1).toNat,List.mem_range.2 (by omega),by omega⟩
theorem nums_nodup (last:Int): ∀n,(nums last n).Nodup
 |0=>by simp [nums]
 |n+1=>by
  rw [nums_succ]
  refine List.nodup_append.2 ⟨nums_nodup last n,by simp,?_⟩
  intro a ha b hb e
  have h1:=mem_nums.1 ha
  rw [List.mem_singleton] at hb
  omega
def StG (base tb mb:Nat) (cols lt:Value) (last:Int) (N1:Nat) (g:Int→Option Value) (l:List Val3) (i:Nat) (W:World):Prop:=
 ∃h ids,WkR W (base+1) tb mb base cols lt (last+i) N1 i g h ids∧Ux.Grow W (base+2) 3 ids (Ux.iv (nums last i))∧base+2≤W.heap.size∧(∀x,(h x).isSome=true↔last<x∧x≤last+i)∧
  (∀x v,h x=some v→∃q c,v= .slice (some ⟨q,0,none⟩) l.length c)∧(i=1→∃v,h (last+1)=some v∧VOwn W (base+2) v l)
theorem StG.touch0 {base tb mb:Nat} {cols lt:Value} {last:Int} {N1:Nat} {g:Int→Option Value} {l:List Val3} {i:Nat} {W W':World} (s:StG base tb mb cols lt last N1 g l i W) (T:Ux.Touch (fun _=>False) W W'):StG base tb mb cols lt last N1 g l i W':=by
 obtain ⟨h,ids,h1,h2,h3,h4,h5,h6⟩:=s
 refine ⟨h,ids,h1.touch0 T,h2.touch0 T,by have:=T.size;omega,h4,h5,fun e=> ?_⟩
 obtain ⟨v,a,b⟩:=h6 e
 exact ⟨v,a,b.touch0 T⟩
def FinG (base tb mb:Nat) (cols lt:Value) (last:Int) (N1:Nat) (g:Int→Option Value) (l:List Val3) (n:Nat) (W:World) (last':Int) (N2:Nat) (h:Int→Option Value) (a:Option Addr) (k c:Nat):Prop:=
 last'=last+n∧N2=n∧k=n∧k≤c∧Ux.Grow W (base+2) 3 (.slice a k c) (Ux.iv (nums last n))∧(∀x,(h x).isSome=true↔last<x∧x≤last+n)∧
  (∀x v,h x=some v→∃q c,v= .slice (some ⟨q,0,none⟩) l.length c)∧(n=1→∃v,h (last+1)=some v∧VOwn W (base+2) v l)
theorem changeG0_ (db m1 m2 N:Nat) (fan:Int) (tb mb N1:Nat) (cols:Value) (last:Int) (g:Int→Option Value) (ks:List Int) (cs:List (Int×Bool)) (l l2:List Val3) (v v2:Value) (m:Nat) (rows:List (Int×Value)) (V:Value) (w:World)
 (hd:Db1 w db m1 m2 N fan tb) (ht:TabR w tb mb N1 cols last g ks) (hap:tb≠db∧tb≠m1∧tb≠m2∧tb≠mb) (hc:ColRows w cols cs) (hcl:cs.length≤100)
 (hl:SRows w V rows) (hn:rows.length≤2) (hN1:N1≤1000) (hla:0≤last∧last≤1000) (hrows: ∀i x,rows[i]? =some x→x=(0,if i<m then v else v2))
 (hv:VRows w v l) (hlen:l.length≤100) (hne:l≠[]) (hfit:fitsT cs l=0) (hv2:m<rows.length→VRows w v2 l2∧l2.length≤100∧l2≠[]∧fitsT cs l2=16):
 Calls Tryz.prog 9 #[.pointer (some ⟨db,0,none⟩),.string ⟨#[116]⟩,V] w fun e w'=>ChangeR tb N1 cols g rows.length (fun i=>if i<m then 0 else 16) (FinG w.heap.size tb mb cols (.int .i64 last) last N1 g l rows.length) w w' e:=by
 have htb:tb<w.heap.size:=Ux.lt_of_heap ht.row
 have hmb:mb<w.heap.size:=ht.map.lt
 refine change_ db m1 m2 N fan tb mb N1 cols last g ks rows V (fun i=>if i<m then 0 else 16) (StG w.heap.size tb mb cols (.int .i64 last) last N1 g l) _ w hd ht hap hl (by omega) hN1 ?_ (fun i W W' s T=>s.touch0 T) ?_ ?_
 ·intro W T hr hm
  have h1:w.heap.size+1<W.heap.size:=Ux.lt_of_heap hr
  refine ⟨fun _=>none,.slice none 0 0,⟨by rw [show last+((0:Nat):Int)=last by omega];exact hr,T.heap ht.row (fun f=>f),ht.map.touch T (fun f=>f),hm.ext fun kl=>by unfold Ux.intF;split<;>rfl⟩,Ux.Grow.nil _ _ _,by omega,fun x=>⟨fun e=>(by cases e),fun e=>(by omega)⟩,fun x v e=>(by cases e),fun e=>(by cases e)⟩
 ·intro i x W hx hs T
  obtain rfl:=hrows i x hx
  have hi:i<rows.length:=(List.getElem?_eq_some_iff.1 hx).1
  have T0:Ux.Touch (fun _=>False) w W:=T.mono fun b hb f=>by have:=f;omega
  obtain ⟨h,ids,h1,h2,h3,h4,h5,h6⟩:=hs
  have h0:h 0=none:=by
   have:=h4 0
   cases e:h 0 with
   |none=>rfl
   |some y=>
    rw [e] at this
    have:=this.1 rfl
    omega
  by_cases him:i<m
  ·simp only [if_pos him]
   refine (rowGood_ (w.heap.size+1) tb mb w.heap.size (w.heap.size+2) cols (.int .i64 last) (last+i) N1 i g h ids (nums last i) cs l v w W h1 (hc.touch0 T0) hv T0 (Nat.le_refl _) hlen hcl hne hfit h0 h2 ⟨htb,hmb,by omega,by omega,h3⟩ (by omega) (by omega) (by rw [nums_length];omega)).mono ?_
   rintro e w' ⟨rfl,v',ids',hsh,hown,hwk,hgr,ht'⟩
   refine ⟨rfl,fun _=> ?_,ht'.mono fun b _ f=> ?_⟩
   ·rw [←nums_succ] at hgr
    have e1:last+(i:Int)+1=last+((i+1:Nat):Int):=by omega
    rw [e1] at hwk
    refine ⟨_,ids',hwk,hgr,by have:=ht'.size;omega,fun x=> ?_,fun x y hy=> ?_,fun e=> ?_⟩
    ·show ((if x=last+((i+1:Nat):Int) then some v' else h x).isSome=true)↔_
     split
     ·exact ⟨fun _=>by omega,fun _=>rfl⟩
     ·rw [h4]
      omega
    ·split at hy
     ·cases hy
      exact hsh
     ·exact h5 x y hy
    ·have e2:i=0:=by omega
     subst e2
     refine ⟨v',?_,hown.mono h3⟩
     show (if last+1=last+((0+1:Nat):Int) then some v' else h (last+1))=some v'
     rw [if_pos (by omega)]
   ·rcases f with f|f|f
    ·omega
    ·omega
    ·have:=f.1
     omega
  ·simp only [if_neg him]
   obtain ⟨g1,g2,g3,g4⟩:=hv2 (by omega)
   refine (rowBad_ (w.heap.size+1) tb mb w.heap.size cols (.int .i64 last) (last+i) N1 i g h ids cs l2 v2 W h1 (hc.touch0 T0) (g1.touch0 T0) g2 hcl g3 (by rw [g4];decide) h0).mono ?_
   rintro e w' ⟨rfl,T'⟩
   rw [g4]
   exact ⟨rfl,fun e=>absurd e (by decide),T'.mono fun _ _ f=>f.elim⟩
 ·rintro W ⟨h,ids,h1,h2,h3,h4,h5,h6⟩
  obtain ⟨a,k,c,rfl,hk⟩:=h2.is
  have hkn:k=rows.length:=by rw [Ux.iv_length,nums_length] at hk;exact hk.symm
  have hkc:k≤c:=by
   rcases h2.1.2 with ⟨hv,h0⟩|⟨g,cap,cur,hv,hb,hh,hcap,_⟩
   ·cases hv;omega
   ·cases hv;rw [Ux.iv_length,nums_length] at hcap;omega
  refine ⟨_,_,h,a,k,c,⟨rfl,rfl,hkn,hkc,h2,h4,h5,h6⟩,hkc,by omega,by omega,h1.row,h1.new,fun x v e=> ?_,fun x v e=> ?_⟩
  ·obtain ⟨q,c,rfl⟩:=h5 x v e
   exact ⟨_,_,_,rfl⟩
  ·have:=(h4 x).1 (by rw [e];rfl)
   omega
end Go.Proofs.YtmnkinaaoifpeaaGreatDoor
namespace Go.Proofs.YtmnkinaaoifpeaaGreatDoor
open Go.RowKit
open Ux (KGrow VRows Val3)
def Shp (g:Int→Option Value):Prop:= ∀x v,g x=some v→∃q n c,v= .slice (some ⟨q,0,none⟩) n c
def GoodCR (tb N1:Nat) (cols:Value) (last:Int) (g:Int→Option Value) (ks:List Int) (l:List Val3) (n:Nat) (w w':World) (e:Ending):Prop:=
 ∃a mb' N3 g',e= .returned (.tuple #[.slice a n n,.int .i64 0])∧Ux.Row w' w.heap.size 3 (.slice a n n) (Ux.iv (nums last n))∧TabR w' tb mb' N3 cols (last+n) g' (ks++nums last n)∧N3≤N1+n∧w.heap.size≤mb'∧Shp g'∧
  (n=1→∃v,g' (last+1)=some v∧VOwn w' w.heap.size v l)∧Ux.Touch (fun b=>b=tb∨w.heap.size≤b) w w'
theorem changeG_ (db m1 m2 N:Nat) (fan:Int) (tb mb N1:Nat) (cols:Value) (last:Int) (g:Int→Option Value) (ks:List Int) (cs:List (Int×Bool)) (l:List Val3) (v:Value) (rows:List (Int×Value)) (V:Value) (w:World)
 (hd:Db1 w db m1 m2 N fan tb) (ht:TabR w tb mb N1 cols last g ks) (hap:tb≠db∧tb≠m1∧tb≠m2∧tb≠mb) (hc:ColRows w cols cs) (hcl:cs.length≤100)
 (hl:SRows w V rows) (hn:rows.length≤2) (hN1:N1≤1000) (hla:0≤last∧last≤1000) (hrows: ∀(i:Nat) (x:Int×Value),rows[i]? =some x→x=(0,v))
 (hv:VRows w v l) (hlen:l.length≤100) (hne:l≠[]) (hfit:fitsT cs l=0) (hg:Shp g) (hks: ∀k∈ks,k≤last):
 Calls Tryz.prog 9 #[.pointer (some ⟨db,0,none⟩),.string ⟨#[116]⟩,V] w fun e w'=>GoodCR tb N1 cols last g ks l rows.length w w' e:=by
 obtain ⟨n,hnn⟩: ∃n,rows.length=n:=⟨_,rfl⟩
 have hC:=changeG0_ db m1 m2 N fan tb mb N1 cols last g ks cs l [] v v rows.length rows V w hd ht hap hc hcl hl hn hN1 hla (fun i x hx=>by rw [hrows i x hx,ite_self]) hv hlen hne hfit (fun h=>absurd h (Nat.lt_irrefl _))
 rw [hnn] at hC hn⊢
 refine hC.mono ?_
 rintro e w' (⟨i,hi,hE,_⟩|⟨_,wz,last',N2,N3,h,a,k,c,m,⟨f1,f2,f3,f4,f5,f6,f7,f8⟩,rfl,hr,hm,hN3,hmap,hT,hz⟩)
 ·simp only [if_pos hi] at hE
  exact absurd rfl hE
 ·subst f1;subst f2;subst f3
  have htb:tb<w.heap.size:=Ux.lt_of_heap ht.row
  refine ⟨a,m,N3,_,rfl,?_,⟨hr,hmap,?_,fun x=> ?_⟩,hN3,hm,fun x y hy=> ?_,fun e1=> ?_,hT⟩
  ·have h1:=(f5.touch hz fun b hb e=>by omega).row.mono (lo':=w.heap.size) (by omega)
   have hlen2:(Ux.iv (nums last k)).length=k:=by rw [Ux.iv_length,nums_length]
   rcases h1 with ⟨e,e2⟩|⟨q,c',cur,e,hq,hh,h2,h3,h4⟩
   ·cases e
    exact .inl ⟨rfl,e2⟩
   ·rw [hlen2] at e h2
    cases e
    refine .inr ⟨q,k,cur,by rw [hlen2],hq,hh,by rw [hlen2];exact Nat.le_refl _,by omega,h4⟩
  ·refine List.nodup_append.2 ⟨ht.nd,nums_nodup _ _,fun x hx y hy e=> ?_⟩
   have h1:=hks x hx
   have h2:=mem_nums.1 hy
   omega
  ·rw [List.mem_append,mem_nums,←f6]
   unfold merge
   cases e:h x with
   |none=>
    simp only [Option.isSome_none,Bool.false_eq_true,or_false]
    exact ht.mem x
   |some y=>
    obtain ⟨q,c2,rfl⟩:=f7 x y e
    simp [nilS]
  ·unfold merge at hy
   cases e:h x with
   |none=>
    rw [e] at hy
    exact hg x y hy
   |some y2=>
    obtain ⟨q,c2,rfl⟩:=f7 x y2 e
    rw [e] at hy
    simp [nilS] at hy
    exact ⟨_,_,_,hy.symm⟩
  ·obtain ⟨y,h1,h2⟩:=f8 e1
   obtain ⟨q,c2,rfl⟩:=f7 _ y h1
   refine ⟨_,?_,(KGrow.touch h2 hz fun b hb e=>by omega).mono (by omega)⟩
   unfold merge
   rw [h1]
   rfl
theorem changeB_ (db m1 m2 N:Nat) (fan:Int) (tb mb N1:Nat) (cols:Value) (last:Int) (g:Int→Option Value) (ks:List Int) (cs:List (Int×Bool)) (l l2:List Val3) (v v2:Value) (V:Value) (w:World)
 (hd:Db1 w db m1 m2 N fan tb) (ht:TabR w tb mb N1 cols last g ks) (hap:tb≠db∧tb≠m1∧tb≠m2∧tb≠mb) (hc:ColRows w cols cs) (hcl:cs.length≤100)
 (hl:SRows w V [(0,v),(0,v2)]) (hN1:N1≤1000) (hla:0≤last∧last≤1000)
 (hv:VRows w v l) (hlen:l.length≤100) (hne:l≠[]) (hfit:fitsT cs l=0) (hv2:VRows w v2 l2∧l2.length≤100∧l2≠[]∧fitsT cs l2=16):
 Calls Tryz.prog 9 #[.pointer (some ⟨db,0,none⟩),.string ⟨#[116]⟩,V] w fun e w'=>e= .returned (.tuple #[.slice none 0 0,.int .i64 16])∧Ux.Touch (fun _=>False) w w':=by
 refine (changeG0_ db m1 m2 N fan tb mb N1 cols last g ks cs l l2 v v2 1 [(0,v),(0,v2)] V w hd ht hap hc hcl hl (Nat.le_refl _) hN1 hla (fun i x hx=> ?_) hv hlen hne hfit (fun _=>hv2)).mono ?_
 ·match i,hx with
  |0,hx=>cases hx;rfl
  |1,hx=>cases hx;rfl
 ·rintro e w' (⟨i,hi,hE,_,rfl,hT⟩|⟨hE,_⟩)
  ·have h1: ¬i<1:=fun h=>hE (if_pos h)
   simp only [if_neg h1]
   exact ⟨trivial,hT.mono fun b hb f=>by omega⟩
  ·exact absurd (hE 1 (Nat.lt_succ_self 1)) (by decide)
def StD (base tb mb:Nat) (cols lt:Value) (last:Int) (N1:Nat) (g:Int→Option Value) (k:Int) (i:Nat) (W:World):Prop:=
 base+2≤W.heap.size∧((i=0∧WkR W (base+1) tb mb base cols lt last N1 0 g (fun _=>none) (.slice none 0 0))∨
 (i=1∧∃ids,WkR W (base+1) tb mb base cols lt last N1 1 g (fun x=>if x=k then some (.slice none 0 0) else none) ids∧Ux.Grow W (base+2) 3 ids (Ux.iv [k])))
theorem StD.touch0 {base tb mb:Nat} {cols lt:Value} {last:Int} {N1:Nat} {g:Int→Option Value} {k:Int} {i:Nat} {W W':World} (s:StD base tb mb cols lt last N1 g k i W) (T:Ux.Touch (fun _=>False) W W'):StD base tb mb cols lt last N1 g k i W':=by
 obtain ⟨h0,⟨rfl,h⟩|⟨rfl,ids,h1,h2⟩⟩:=s
 ·exact ⟨by have:=T.size;omega,.inl ⟨rfl,h.touch0 T⟩⟩
 ·exact ⟨by have:=T.size;omega,.inr ⟨rfl,ids,h1.touch0 T,h2.touch0 T⟩⟩
def GoneCR (tb N1:Nat) (cols:Value) (last:Int) (g:Int→Option Value) (ks:List Int) (k:Int) (w w':World) (e:Ending):Prop:=
 ∃q mb' N3 g',e= .returned (.tuple #[.slice (some ⟨q,0,none⟩) 1 1,.int .i64 0])∧w'.cell? ⟨q,0,none⟩=some (.int .i64 k)∧TabR w' tb mb' N3 cols last g' ks∧N3≤N1+1∧w.heap.size≤mb'∧Shp g'∧Ux.Touch (fun b=>b=tb∨w.heap.size≤b) w w'
theorem changeD_ (db m1 m2 N:Nat) (fan:Int) (tb mb N1:Nat) (cols:Value) (last:Int) (g:Int→Option Value) (ks:List Int) (k:Int) (V:Value) (w:World)
 (hd:Db1 w db m1 m2 N fan tb) (ht:TabR w tb mb N1 cols last g (ks++ [k])) (hap:tb≠db∧tb≠m1∧tb≠m2∧tb≠mb)
 (hl:SRows w V [(k,.slice none 0 0)]) (hN1:N1≤1000) (hk:1≤k∧k≤1000) (hg:Shp g):
 Calls Tryz.prog 9 #[.pointer (some ⟨db,0,none⟩),.string ⟨#[116]⟩,V] w fun e w'=>GoneCR tb N1 cols last g ks k w w' e:=by
 have htb:tb<w.heap.size:=Ux.lt_of_heap ht.row
 have hmb:mb<w.heap.size:=ht.map.lt
 obtain ⟨p,hp⟩:=Option.isSome_iff_exists.1 ((ht.mem k).1 (by simp))
 obtain ⟨q,n,c,rfl⟩:=hg k p hp
 refine (change_ db m1 m2 N fan tb mb N1 cols last g (ks++ [k]) [(k,.slice none 0 0)] V (fun _=>0) (StD w.heap.size tb mb cols (.int .i64 last) last N1 g k)
  (fun W last' N2 h a k1 c=>last'=last∧N2=1∧h=(fun x=>if x=k then some (.slice none 0 0) else none)∧k1=1∧Ux.Grow W (w.heap.size+2) 3 (.slice a k1 c) (Ux.iv [k])) w hd ht hap hl (Nat.le_of_ble_eq_true rfl) hN1 ?_ (fun i W W' s T=>s.touch0 T) ?_ ?_).mono ?_
 ·intro W T hr hm
  have h1:w.heap.size+1<W.heap.size:=Ux.lt_of_heap hr
  exact ⟨by omega,.inl ⟨rfl,⟨hr,T.heap ht.row (fun f=>f),ht.map.touch T (fun f=>f),hm.ext fun kl=>by unfold Ux.intF;split<;>rfl⟩⟩⟩
 ·intro i x W hx hs T
  have hi:i< [(k,Value.slice none 0 0)].length:=(List.getElem?_eq_some_iff.1 hx).1
  obtain rfl:i=0:=by simpa using hi
  cases hx
  obtain ⟨h0,⟨_,h⟩|⟨e,_⟩⟩:=hs
  ·refine (rowGone_ (w.heap.size+1) tb mb w.heap.size (w.heap.size+2) cols (.int .i64 last) last N1 g k _ n c W h hp hk.1 (by omega) ⟨htb,hmb,by omega,by omega,h0⟩).mono ?_
   rintro e w' ⟨rfl,ids,h1,h2,h3⟩
   exact ⟨rfl,fun _=>⟨by have:=h3.size;omega,.inr ⟨rfl,ids,h1,h2⟩⟩,h3.mono fun b _ f=>by omega⟩
  ·cases e
 ·rintro W ⟨h0,⟨e,_⟩|⟨_,ids,h1,h2⟩⟩
  ·cases e
  ·obtain ⟨a,n1,c1,rfl,hk1⟩:=h2.is
   have hn1:n1=1:=by rw [←hk1];rfl
   subst hn1
   have hcap:1≤c1:=by
    rcases h2.1.2 with ⟨hv,h0⟩|⟨g,cap,cur,hv,hb,hh,hcap,_⟩
    ·cases hv
    ·cases hv;exact hcap
   refine ⟨last,1,_,a,1,c1,⟨rfl,rfl,rfl,rfl,h2⟩,hcap,by omega,by omega,h1.row,h1.new,fun x v e=> ?_,fun x v e=> ?_⟩
   ·split at e
    ·cases e;exact ⟨_,_,_,rfl⟩
    ·cases e
   ·split at e
    ·omega
    ·cases e
 ·rintro e w' (⟨i,hi,hE,_⟩|⟨_,wz,last',N2,N3,h,a,k1,c,m,⟨rfl,rfl,rfl,rfl,hgr⟩,rfl,hr,hm,hN3,hmap,hT,hz⟩)
  ·exact absurd rfl hE
  ·obtain ⟨q1,rfl,hq1,hcell⟩:=(hgr.touch hz fun b hb e=>by omega).row.at (j:=0) (u:= .int .i64 k) rfl
   refine ⟨q1,m,N3,_,rfl,hcell,⟨hr,hmap,(List.nodup_append.1 ht.nd).1,fun x=> ?_⟩,hN3,hm,fun x y hy=> ?_,hT⟩
   ·have h1:=ht.mem x
    rw [List.mem_append,List.mem_singleton] at h1
    unfold merge
    by_cases e:x=k
    ·subst e
     simp only [if_pos rfl,nilS,if_true]
     refine ⟨fun hx=>absurd rfl ((List.nodup_append.1 ht.nd).2.2 x hx x (by simp)),fun hx=>by cases hx⟩
    ·simp only [if_neg e]
     rw [←h1]
     simp [e]
   ·unfold merge at hy
    by_cases e:x=k
    ·subst e
     simp [nilS] at hy
    ·simp only [if_neg e] at hy
     exact hg x y hy
end Go.Proofs.YtmnkinaaoifpeaaGreatDoor
