/- A part of the proof that the statement holds for every input that it names. No other condition. -/
import Derived.Test.YtfccjaboicpohaaGreatDoorKencBZ
set_option linter.unusedVariables false
set_option linter.unusedSimpArgs false
namespace Go.Proofs.YtfccjaboicpohaaGreatDoor
open Go.RowKit
theorem str_self (S:ByteArray):(S.toList==S.toList)=true:=by simp
set_option maxHeartbeats 16000000 in
set_option maxRecDepth 100000 in
theorem kisLaw_ (v:Value) (os:List (Int×Int×ByteArray)) (vq:Value) (l:List (Int×Int×Bool)) (row m:Int) (w:World) (hV:VView w v os) (hQ:QView w vq l) (hr: -9223372036854775808≤row∧row≤9223372036854775807) (hT:Tabs w) (hm:w.cell? ⟨3,0,none⟩=some (.int .i64 m)):
 Calls Tryz.prog 8 #[v,vq,.int .i64 row] w fun e w'=>e= .returned (.bool true)∧Ux.Touch (fun _=>False) w w':=by
 have CP:=Lib.hid (parts_ vq l w hQ hT)
 have CF:=Lib.hid fun W (T:Ux.Touch (fun _=>False) w W)=>few_ v os W (hV.touch T)
 have AW:=Lib.hid fun W (T:Ux.Touch (fun _=>False) w W)=>awake14_ m W (hT.touch T) (T.cell hm fun f=>f)
 have HH:=Lib.hid (And.intro hV (And.intro hT (And.intro hm hr)))
 obtain ⟨a,c,rfl,-⟩:=hV
 obtain ⟨a',c',rfl,-⟩:=hQ
 clear hr hT hm
 go_enter Tryz.func8,Tryz.ntmps8
 go_wp2_with (go_at_call 31;fail)
 refine CP.out.mono ?_
 rintro e w1 ⟨va,vb,ps,rfl,hA,hB,hp,hM,T1,-⟩
 have H1:=Lib.hid T1
 have HP:=Lib.hid (And.intro hA (And.intro hB (And.intro hp hM)))
 obtain ⟨a2,c2,rfl,-⟩:=hA
 obtain ⟨a3,c3,rfl,-⟩:=hB
 clear hp hM T1
 go_wp2_with (go_at_call 32;fail)
 refine (CF.out w1 H1.out).mono ?_
 rintro e w2 ⟨⟨b,rfl,hb⟩,hw2⟩
 obtain rfl:w1=w2:=hw2.symm
 cases b with
 |false=>
  clear hb
  go_wp2_with (go_at_call 33;fail)
  refine (AW.out _ H1.out).mono ?_
  rintro e w7 ⟨rfl,T7⟩
  have H7:=Lib.hid (H1.out.trans T7 fun _ _ f=>f)
  clear T7
  go_wp2
  go_returns
  exact ⟨rfl,H7.out⟩
 |true=>
  obtain ⟨hn,hs⟩:=hb rfl
  clear hb
  obtain ⟨n,hn1⟩: ∃n,os.length=n:=⟨_,rfl⟩
  obtain ⟨n',hn2⟩: ∃n,ps.length=n:=⟨_,rfl⟩
  have HN:=Lib.hid (And.intro hn1 (And.intro hn2 (And.intro hn hs)))
  have g1:(n:Int)<10:=by omega
  have g2:(n':Int)≤4:=by have:=HP.out.2.2.1;omega
  rw [hn1,hn2]
  have CK:=Lib.hid fun W (T:Ux.Touch (fun _=>False) w1 W)=>kkey14_ (.slice a os.length c) (.slice a2 ps.length c2) os ps 0 m row W HH.out.2.2.2 (HH.out.1.touch (H1.out.trans T fun _ _ f=>f)) (HP.out.1.touch T) hn HP.out.2.2.1 hs (fun p h=>(HP.out.2.2.2 p h).touch T) (HH.out.2.1.touch (H1.out.trans T fun _ _ f=>f)) ((H1.out.trans T fun _ _ f=>f).cell HH.out.2.2.1 fun f=>f)
  have CR:=Lib.hid fun W (T:Ux.Touch (fun _=>False) w1 W)=>rkey14_ (.slice a os.length c) (.slice a3 ps.length c3) os ps 0 row W HH.out.2.2.2 (HH.out.1.touch (H1.out.trans T fun _ _ f=>f)) (HP.out.2.1.touch T) hn HP.out.2.2.1 hs (fun p h=>(HP.out.2.2.2 p h).touch T)
  have CL:=Lib.hid fun W (T:Ux.Touch (fun _=>False) w1 W)=>klow_ (.slice a os.length c) (.slice a2 ps.length c2) os ps 0 m W (HH.out.1.touch (H1.out.trans T fun _ _ f=>f)) (HP.out.1.touch T) hn HP.out.2.2.1 hs (fun p h=>(HP.out.2.2.2 p h).touch T) (HH.out.2.1.touch (H1.out.trans T fun _ _ f=>f)) ((H1.out.trans T fun _ _ f=>f).cell HH.out.2.2.1 fun f=>f)
  have CM:=Lib.hid fun W (T:Ux.Touch (fun _=>False) w1 W)=>rlow_ (.slice a os.length c) (.slice a3 ps.length c3) os ps 0 W (HH.out.1.touch (H1.out.trans T fun _ _ f=>f)) (HP.out.2.1.touch T) hn HP.out.2.2.1 hs (fun p h=>(HP.out.2.2.2 p h).touch T)
  have hrow:=row_key (lowL (os.zip ps)) row HH.out.2.2.2
  have hz:=lowL_zip_len HP.out.2.2.1 hs HP.out.2.2.2 4
  rw [List.take_of_length_le (by rw [List.length_zip];have:=HP.out.2.2.1;omega)] at hz
  obtain ⟨KS,hKS⟩: ∃S:ByteArray,(⟨(keyRow (os.zip ps) row).toArray⟩:ByteArray)=S:=⟨_,rfl⟩
  obtain ⟨LS,hLS⟩: ∃S:ByteArray,(⟨(lowL (os.zip ps)).toArray⟩:ByteArray)=S:=⟨_,rfl⟩
  have CW:=Lib.hid fun W=>row6 KS W (by rw [←hKS];show (keyRow (os.zip ps) row).toArray.size≤_;unfold keyRow;rw [List.size_toArray,List.length_append,List.length_cons,num8_len];omega)
  rw [show rowIs KS.data.toList=(row,0) by rw [←hKS];exact hrow] at CW
  dsimp only at CW
  rw [hKS,hn1,hn2] at CK CR
  rw [hLS,hn1,hn2] at CL CM
  have s1:=str_self KS
  have s2:=str_self LS
  clear hn1 hn2 hn hs hrow hKS hLS hz CP CF
  go_wp2_with (fail)
  obtain ⟨k,hk⟩: ∃k,min n n'=k:=⟨_,rfl⟩
  have HK:=Lib.hid hk
  clear hk
  go_loopg [10] k (fun gk s10 wr=> ∃i:Nat,s10= .int .i64 i∧i+gk=k∧Hid (Ux.Touch (fun _=>False) w1 wr))
  case atStart=>exact ⟨0,rfl,by omega,Lib.hid (Ux.Touch.refl _ _)⟩
  case round=>
   obtain ⟨i,rfl,hig,HI⟩:=hrel
   have i0:(0:Int)≤i:=by omega
   have hk:=HK.out
   by_cases hlt:i<k
   ·obtain ⟨g',rfl⟩: ∃g',gk=g'+1:=⟨gk-1,by omega⟩
    have i2:(i:Int)<n:=by omega
    have i3:(i:Int)<n':=by omega
    obtain ⟨o,hoo⟩: ∃o,os[i]? =some o:=⟨_,List.getElem?_eq_getElem (by have:=HN.out.1;omega)⟩
    obtain ⟨p,hpp⟩: ∃p,ps[i]? =some p:=⟨_,List.getElem?_eq_getElem (by have:=HN.out.2.1;omega)⟩
    obtain ⟨xa,xc,hxe,_,hc⟩:=HH.out.1
    cases hxe
    obtain ⟨o1,o2,_,b,f,rfl,hb,c0,c1,c2'⟩:=hc i o hoo
    obtain ⟨xa2,xc2,hxe,hc2⟩:=HP.out.1
    cases hxe
    obtain ⟨b',f',rfl,hb',cc⟩:=hc2 i p hpp
    obtain ⟨xa3,xc3,hxe,hc3⟩:=HP.out.2.1
    cases hxe
    obtain ⟨b'',f'',rfl,hb'',cd⟩:=hc3 i p hpp
    have hom:=HN.out.2.2.2 o (List.mem_of_getElem? hoo)
    have hpm:=HP.out.2.2.2 p (List.mem_of_getElem? hpp)
    have HF:=Lib.hid fun W (T:Ux.Touch (fun _=>False) w1 W)=>show (W.cell? ⟨b,f+i*3,none⟩=some (.int .i64 o.1)∧W.cell? ⟨b,f+i*3+1,none⟩=some (.int .i64 o.2.1)∧W.cell? ⟨b,f+i*3+2,none⟩=some (.string o.2.2))∧
     (W.cell? ⟨b',f'+i*6,none⟩=some (.int .i64 p.kd)∧W.cell? ⟨b',f'+i*6+1,none⟩=some (.int .i64 (p.LN:Nat))∧W.cell? ⟨b',f'+i*6+2,none⟩=some (.bool p.sh)∧W.cell? ⟨b',f'+i*6+3,none⟩=some (.bool p.bk)∧W.cell? ⟨b',f'+i*6+4,none⟩=some (.pointer p.tb)∧W.cell? ⟨b',f'+i*6+5,none⟩=some (.bool p.d))∧
     (W.cell? ⟨b'',f''+i*6,none⟩=some (.int .i64 p.kd)∧W.cell? ⟨b'',f''+i*6+1,none⟩=some (.int .i64 (p.LN:Nat))∧W.cell? ⟨b'',f''+i*6+2,none⟩=some (.bool p.sh)∧W.cell? ⟨b'',f''+i*6+3,none⟩=some (.bool p.bk)∧W.cell? ⟨b'',f''+i*6+4,none⟩=some (.slice p.ua p.un p.uc)∧W.cell? ⟨b'',f''+i*6+5,none⟩=some (.bool p.d)) from
     let U:=H1.out.trans T fun _ _ f=>f
     ⟨⟨U.cell c0 (fun f=>f),U.cell c1 (fun f=>f),U.cell c2' (fun f=>f)⟩,⟨T.cell (cc 0 _ rfl) (fun f=>f),T.cell (cc 1 _ rfl) (fun f=>f),T.cell (cc 2 _ rfl) (fun f=>f),T.cell (cc 3 _ rfl) (fun f=>f),T.cell (cc 4 _ rfl) (fun f=>f),T.cell (cc 5 _ rfl) (fun f=>f)⟩,
       T.cell (cd 0 _ rfl) (fun f=>f),T.cell (cd 1 _ rfl) (fun f=>f),T.cell (cd 2 _ rfl) (fun f=>f),T.cell (cd 3 _ rfl) (fun f=>f),T.cell (cd 4 _ rfl) (fun f=>f),T.cell (cd 5 _ rfl) (fun f=>f)⟩
    have HV:=Lib.hid fun W (T:Ux.Touch (fun _=>False) w1 W)=>pval_ p o 0 m W o2 hom (hpm.touch T) (HH.out.2.1.touch (H1.out.trans T fun _ _ f=>f)) ((H1.out.trans T fun _ _ f=>f).cell HH.out.2.2.1 fun f=>f)
    have HR:=Lib.hid fun W (T:Ux.Touch (fun _=>False) w1 W)=>rval_ p o 0 W o2 hom (hpm.touch T)
    obtain ⟨S,hS⟩: ∃S,pvB p o=S:=⟨_,rfl⟩
    rw [hS] at HV HR
    have s3:=str_self S
    have HX:=Lib.hid (And.intro hlt hig)
    obtain ⟨v0,v1,v2⟩:=o
    obtain ⟨q0,q1,q2,q3,q4,q5,q6,q7,q8⟩:=p
    dsimp only at HF HV HR
    obtain ⟨⟨x0,x1,x2⟩,⟨y0,y1,y2,y3,y4,y5⟩,z0,z1,z2,z3,z4,z5⟩:=HF.out wr HI.out
    clear hoo hpp o1 o2 hb c0 c1 c2' hb' cc hb'' cd hom hpm hS hlt hig hk hc hc2 hc3
    go_upto_region 7 with (fail)
    refine Ux.wpr (fun _ w'=>(w'.cell? ⟨b,f+i*3,none⟩=some (.int .i64 v0)∧w'.cell? ⟨b,f+i*3+1,none⟩=some (.int .i64 v1)∧w'.cell? ⟨b,f+i*3+2,none⟩=some (.string v2))∧(w'.cell? ⟨b',f'+i*6,none⟩=some (.int .i64 q0)∧w'.cell? ⟨b',f'+i*6+1,none⟩=some (.int .i64 (q1:Nat))∧w'.cell? ⟨b',f'+i*6+2,none⟩=some (.bool q2)∧w'.cell? ⟨b',f'+i*6+3,none⟩=some (.bool q3)∧w'.cell? ⟨b',f'+i*6+4,none⟩=some (.pointer q4)∧w'.cell? ⟨b',f'+i*6+5,none⟩=some (.bool q8))∧(w'.cell? ⟨b'',f''+i*6,none⟩=some (.int .i64 q0)∧w'.cell? ⟨b'',f''+i*6+1,none⟩=some (.int .i64 (q1:Nat))∧w'.cell? ⟨b'',f''+i*6+2,none⟩=some (.bool q2)∧w'.cell? ⟨b'',f''+i*6+3,none⟩=some (.bool q3)∧w'.cell? ⟨b'',f''+i*6+4,none⟩=some (.slice q5 q6 q7)∧w'.cell? ⟨b'',f''+i*6+5,none⟩=some (.bool q8))) (.q [0,1,2,4,5,6,9,10,11,13,14,15] (.h false [3,7,12,16] (.e 8 true false (.e 17 true false (.q [18] (.line [])))))) ?_;repeat ((with_reducible refine Ux.qg ?_);refine Ux.qu ?_)
    clear x0 x1 x2 y0 y1 y2 y3 y4 y5 z0 z1 z2 z3 z4 z5
    have HU:=Lib.hid (HI.out.trans (Ux.Touch.refl (fun _=>False) wr).drew fun _ _ f=>f)
    go_wp2_with (go_at_call 36;fail)
    refine (HV.out _ HU.out).mono ?_
    rintro e w4 ⟨rfl,T4⟩
    have HU:=Lib.hid (HU.out.trans T4 fun _ _ f=>f)
    clear T4
    go_wp2_with (fail)
    refine ⟨HF.out _ HU.out,?_⟩
    go_wp2_with (go_at_call 37;fail)
    refine (HR.out _ HU.out).mono ?_
    rintro e w5 ⟨rfl,T5⟩
    have HU:=Lib.hid (HU.out.trans T5 fun _ _ f=>f)
    clear T5
    go_wp2_with (fail)
    refine ⟨HF.out _ HU.out,?_⟩
    repeat ((with_reducible refine Ux.qg ?_);refine Ux.qu ?_)
    go_wp2
    go_roundg g'
    case measure=>have:=HX.out;omega
    case rel=>exact ⟨i+1,rfl,by have:=HX.out;omega,HU⟩
   ·have hcs:(¬(i:Int)<n)∨((i:Int)<n∧¬(i:Int)<n'):=by omega
    clear hlt hk hig
    rcases hcs with q1|⟨q1,q2⟩
    all_goals
     go_wp2_with (go_at_call 35;fail)
     refine (CK.out _ HI.out).mono ?_
     rintro e w4 ⟨rfl,T4⟩
     have H4:=Lib.hid (HI.out.trans T4 fun _ _ f=>f)
     clear T4
     go_wp2_with (go_at_call 38;fail)
     refine (CW.out _).mono ?_
     rintro e w5 ⟨rfl,hw5⟩
     obtain rfl:w4=w5:=hw5.symm
     go_wp2_with (go_at_call 39;fail)
     refine (CR.out _ H4.out).mono ?_
     rintro e w6 ⟨rfl,T6⟩
     have H6:=Lib.hid (H4.out.trans T6 fun _ _ f=>f)
     clear T6
     go_wp2_with (go_at_call 40;fail)
     refine (CL.out _ H6.out).mono ?_
     rintro e w7 ⟨rfl,T7⟩
     have H7:=Lib.hid (H6.out.trans T7 fun _ _ f=>f)
     clear T7
     go_wp2_with (go_at_call 41;fail)
     refine (CM.out _ H7.out).mono ?_
     rintro e w8 ⟨rfl,T8⟩
     have H8:=Lib.hid (H1.out.trans (H7.out.trans T8 fun _ _ f=>f) fun _ _ f=>f)
     clear T8
     go_wp2_with (go_at_call 33;fail)
     refine (AW.out _ H8.out).mono ?_
     rintro e w9 ⟨rfl,T9⟩
     have H9:=Lib.hid (H8.out.trans T9 fun _ _ f=>f)
     clear T9
     go_wp2
     go_returns
     exact ⟨rfl,H9.out⟩
theorem kisEnd_ (v:Value) (os:List (Int×Int×ByteArray)) (vq:Value) (l:List (Int×Int×Bool)) (row m:Int) (w:World) (hV:VView w v os) (hQ:QView w vq l) (hT:Tabs w) (hm:w.cell? ⟨3,0,none⟩=some (.int .i64 m)) (hr: -9223372036854775808≤row∧row≤9223372036854775807):
 Calls Tryz.prog 8 #[v,vq,.int .i64 row] w fun e w'=>e= .returned (.bool true)∧Ux.Touch (fun _=>False) w w':=kisLaw_ v os vq l row m w hV hQ hr hT hm
end Go.Proofs.YtfccjaboicpohaaGreatDoor
