/- A part of the proof that the statement holds for every input that it names. No other condition. -/
import Derived.Test.YtfccjaboicpohaaGreatDoorKorderZ
set_option linter.unusedVariables false
set_option linter.unusedSimpArgs false
namespace Go.Proofs.YtfccjaboicpohaaGreatDoor
open Go.RowKit
open Ux (cmpI cmpB SCap slt)
theorem VView.take {w:World} {a:Option Addr} {n c:Nat} {os:List (Int×Int×ByteArray)} (h:VView w (.slice a n c) os) (k:Nat) (hk:k≤os.length):VView w (.slice a k c) (os.take k):=by
 obtain ⟨xa,xc,e,hl,hc⟩:=h
 cases e
 have hkl:(os.take k).length=k:=by rw [List.length_take];omega
 refine ⟨a,c,by rw [hkl],by omega,fun i o ho=>hc i o ?_⟩
 rw [List.getElem?_take] at ho
 split at ho
 ·exact ho
 ·cases ho
theorem PRow.take {w:World} {cells:PI→List Value} {a:Option Addr} {n c:Nat} {ps:List PI} (h:PRow w cells (.slice a n c) ps) (k:Nat) (hk:k≤ps.length):PRow w cells (.slice a k c) (ps.take k):=by
 obtain ⟨xa,xc,e,hc⟩:=h
 cases e
 have hkl:(ps.take k).length=k:=by rw [List.length_take];omega
 refine ⟨a,c,by rw [hkl],fun i o ho=>hc i o ?_⟩
 rw [List.getElem?_take] at ho
 split at ho
 ·exact ho
 ·cases ho
theorem zip3_l {α β γ:Type}: ∀(A:List α) (B:List β) (C:List γ),A.length=B.length→(((A.zip B).zip C).map fun x=>(x.1.1,x.2))=A.zip C
 | [],[],_,_=>rfl
 |_::_,_::_,[],_=>rfl
 |a::A,b::B,c::C,h=>by
  have:=zip3_l A B C (by simpa using h)
  simp [this]
 | [],_::_,_,h=>by simp at h
 |_::_,[],_,h=>by simp at h
theorem zip3_r {α β γ:Type}: ∀(A:List α) (B:List β) (C:List γ),A.length=B.length→(((A.zip B).zip C).map fun x=>(x.1.2,x.2))=B.zip C
 | [],[],_,_=>rfl
 |_::_,_::_,[],_=>rfl
 |a::A,b::B,c::C,h=>by
  have:=zip3_r A B C (by simpa using h)
  simp [this]
 | [],_::_,_,h=>by simp at h
 |_::_,[],_,h=>by simp at h
theorem cmpI_vals (x y:Int): -1≤cmpI x y∧cmpI x y≤1:=by
 unfold cmpI
 split
 ·omega
 ·split<;>omega
theorem cmpStr_rng (x y:ByteArray): -1≤cmpStr x y∧cmpStr x y≤1:=by
 unfold cmpStr
 cases slt x y<;>cases slt y x<;>decide
theorem ordN_vals (K:ByteArray→ByteArray) (a b:Int×Int×ByteArray): -1≤ordN K a b∧ordN K a b≤1:=by
 unfold ordN
 split
 ·exact cmpI_vals _ _
 ·split
  ·exact cmpStr_rng _ _
  ·exact cmpI_vals _ _
theorem wantK_drop {m n:Int} {q:List (((Int×Int×ByteArray)×(Int×Int×ByteArray))×PI)} {i:Nat} {x} (h:q[i]? =some x):wantK m n (q.drop i)=if ordP x.2 x.1.1 x.1.2≠0 then ordP x.2 x.1.1 x.1.2 else wantK m n (q.drop (i+1)):=by
 rw [Ux.drop_get h]
 rfl
theorem key_less (S T:ByteArray) (W:Int) (h:cmpB S.data.toList T.data.toList=W):(W= -1∧Op.bytesLess S.toList T.toList=true∧(S.toList==T.toList)=false)∨(W=0∧Op.bytesLess S.toList T.toList=false∧(S.toList==T.toList)=true)∨(W=1∧Op.bytesLess S.toList T.toList=false∧(S.toList==T.toList)=false):=by
 have irr: ∀x:List UInt8,Op.bytesLess x x=false:=fun x=>by
  have:=Ux.slt_irrefl ⟨x.toArray⟩
  unfold slt at this
  rw [Lib.toList_data] at this
  exact this
 rw [Lib.toList_data,Lib.toList_data]
 have h':=h
 rw [Ux.cmpB_less] at h
 cases h1:Op.bytesLess S.data.toList T.data.toList with
 |true=>
  rw [h1,if_pos rfl] at h
  refine .inl ⟨h.symm,rfl,beq_false_of_ne fun e=> ?_⟩
  rw [e,irr] at h1
  cases h1
 |false=>
  cases h2:Op.bytesLess T.data.toList S.data.toList with
  |true=>
   rw [h1,h2,if_neg (by simp),if_pos rfl] at h
   refine .inr (.inr ⟨h.symm,rfl,beq_false_of_ne fun e=> ?_⟩)
   rw [e,irr] at h2
   cases h2
  |false=>
   rw [h1,h2,if_neg (by simp),if_neg (by simp)] at h
   rw [←h] at h'
   exact .inr (.inl ⟨h.symm,rfl,by rw [cmpB_eq h'];simp⟩)
set_option maxHeartbeats 16000000 in
set_option maxRecDepth 100000 in
theorem kordsLaw_ (vx:Value) (ox:List (Int×Int×ByteArray)) (vy:Value) (oy:List (Int×Int×ByteArray)) (vq:Value) (l:List (Int×Int×Bool)) (m n ml:Int) (w:World) (hX:VView w vx ox) (hY:VView w vy oy) (hQ:QView w vq l) (sX:SCap vx) (sY:SCap vy)
 (hT:Tabs w) (hm:w.cell? ⟨3,0,none⟩=some (.int .i64 ml)) (hrm: -9223372036854775808≤m∧m≤9223372036854775807) (hrn: -9223372036854775808≤n∧n≤9223372036854775807):
 Calls Tryz.prog 7 #[vx,vy,vq,.int .i64 m,.int .i64 n] w fun e w'=>e= .returned (.bool true)∧Ux.Touch (fun _=>False) w w':=by
 have CP:=Lib.hid (parts_ vq l w hQ hT)
 have CF:=Lib.hid fun W (T:Ux.Touch (fun _=>False) w W)=>few_ vx ox W (hX.touch T)
 have CG:=Lib.hid fun W (T:Ux.Touch (fun _=>False) w W)=>few_ vy oy W (hY.touch T)
 have AW:=Lib.hid fun W (T:Ux.Touch (fun _=>False) w W)=>awake14_ ml W (hT.touch T) (T.cell hm fun f=>f)
 have HH:=Lib.hid (And.intro hX (And.intro hY (And.intro hT (And.intro hm (And.intro hrm hrn)))))
 obtain ⟨a,c,rfl,-⟩:=hX
 obtain ⟨ay,cy,rfl,-⟩:=hY
 obtain ⟨a',c',rfl,-⟩:=hQ
 have HSX:=Lib.hid (And.intro sX sY)
 clear hrm hrn hT hm sX sY
 go_enter Tryz.func7,Tryz.ntmps7
 go_wp2_with (go_at_call 31;fail)
 refine CP.out.mono ?_
 rintro e w1 ⟨va,vb,ps,rfl,hA,hB,hp,hM,T1,sA,-⟩
 have H1:=Lib.hid T1
 have HP:=Lib.hid (And.intro hA (And.intro hB (And.intro hp (And.intro hM sA))))
 obtain ⟨a2,c2,rfl,-⟩:=hA
 obtain ⟨a3,c3,rfl,-⟩:=hB
 clear hp hM T1 sA
 go_wp2_with (go_at_call 32;fail)
 refine (CF.out w1 H1.out).mono ?_
 rintro e w2 ⟨⟨b,rfl,hb⟩,hw2⟩
 obtain rfl:w1=w2:=hw2.symm
 cases b with
 |false=>
  clear hb
  go_wp2_with (go_at_call 33;fail)
  refine (AW.out _ H1.out).mono ?_
  rintro e w7 ⟨rfl,T7⟩
  have H7:=Lib.hid (H1.out.trans T7 fun _ _ f=>f)
  clear T7
  go_wp2
  go_returns
  exact ⟨rfl,H7.out⟩
 |true=>
 obtain ⟨hnx,hsx⟩:=hb rfl
 clear hb
 have HNX:=Lib.hid (And.intro hnx hsx)
 clear hnx hsx
 go_wp2_with (go_at_call 32;fail)
 refine (CG.out w1 H1.out).mono ?_
 rintro e w2 ⟨⟨b,rfl,hb⟩,hw2⟩
 obtain rfl:w1=w2:=hw2.symm
 cases b with
 |false=>
  clear hb
  go_wp2_with (go_at_call 33;fail)
  refine (AW.out _ H1.out).mono ?_
  rintro e w7 ⟨rfl,T7⟩
  have H7:=Lib.hid (H1.out.trans T7 fun _ _ f=>f)
  clear T7
  go_wp2
  go_returns
  exact ⟨rfl,H7.out⟩
 |true=>
 obtain ⟨hny,hsy⟩:=hb rfl
 clear hb
 obtain ⟨nx,hn1⟩: ∃n,ox.length=n:=⟨_,rfl⟩
 obtain ⟨ny,hn3⟩: ∃n,oy.length=n:=⟨_,rfl⟩
 obtain ⟨np,hn2⟩: ∃n,ps.length=n:=⟨_,rfl⟩
 obtain ⟨k,hk⟩: ∃k,min np (min nx ny)=k:=⟨_,rfl⟩
 have HNY:=Lib.hid (And.intro hny hsy)
 have HN:=Lib.hid (And.intro hn1 (And.intro hn3 (And.intro hn2 hk)))
 have g1:(nx:Int)<10:=by have:=HNX.out.1;omega
 have g2:(np:Int)≤4:=by have:=HP.out.2.2.1;omega
 have g3:(ny:Int)<10:=by omega
 have kI:min (np:Int) (min (nx:Int) ny)=k:=by omega
 have kx:k≤ox.length:=by omega
 have ky:k≤oy.length:=by omega
 have kp:k≤ps.length:=by omega
 have CK:=Lib.hid fun W (T:Ux.Touch (fun _=>False) w1 W)=>kkey14_ (.slice a k c) (.slice a2 k c2) (ox.take k) (ps.take k) 0 ml m W HH.out.2.2.2.2.1 ((HH.out.1.touch (H1.out.trans T fun _ _ f=>f)).take k kx) ((HP.out.1.touch T).take k kp) (by rw [List.length_take];have:=HNX.out.1;omega) (by rw [List.length_take];have:=HP.out.2.2.1;omega) (fun o ho=>HNX.out.2 o (List.mem_of_mem_take ho)) (fun p h=>(HP.out.2.2.2.1 p (List.mem_of_mem_take h)).touch T) (HH.out.2.2.1.touch (H1.out.trans T fun _ _ f=>f)) ((H1.out.trans T fun _ _ f=>f).cell HH.out.2.2.2.1 fun f=>f)
 have CY:=Lib.hid fun W (T:Ux.Touch (fun _=>False) w1 W)=>kkey14_ (.slice ay k cy) (.slice a2 k c2) (oy.take k) (ps.take k) 0 ml n W HH.out.2.2.2.2.2 ((HH.out.2.1.touch (H1.out.trans T fun _ _ f=>f)).take k ky) ((HP.out.1.touch T).take k kp) (by rw [List.length_take];have:=HNY.out.1;omega) (by rw [List.length_take];have:=HP.out.2.2.1;omega) (fun o ho=>HNY.out.2 o (List.mem_of_mem_take ho)) (fun p h=>(HP.out.2.2.2.1 p (List.mem_of_mem_take h)).touch T) (HH.out.2.2.1.touch (H1.out.trans T fun _ _ f=>f)) ((H1.out.trans T fun _ _ f=>f).cell HH.out.2.2.2.1 fun f=>f)
 obtain ⟨q,hq⟩: ∃q,((ox.take k).zip (oy.take k)).zip (ps.take k)=q:=⟨_,rfl⟩
 have hzl:=zip3_l (ox.take k) (oy.take k) (ps.take k) (by rw [List.length_take,List.length_take];omega)
 have hzr:=zip3_r (ox.take k) (oy.take k) (ps.take k) (by rw [List.length_take,List.length_take];omega)
 rw [hq] at hzl hzr
 have hkey:=key_order m n HH.out.2.2.2.2.1 HH.out.2.2.2.2.2 q (fun x hx=>by
  rw [←hq] at hx
  obtain ⟨⟨o1,o2⟩,p⟩:=x
  have h1:=List.of_mem_zip hx
  have h2:=List.of_mem_zip h1.1
  obtain ⟨xa,xc,_,_,h3⟩:=HH.out.1
  obtain ⟨ya,yc,_,_,h4⟩:=HH.out.2.1
  obtain ⟨i,hi⟩:=List.getElem?_of_mem (List.mem_of_mem_take h2.1)
  obtain ⟨j,hj⟩:=List.getElem?_of_mem (List.mem_of_mem_take h2.2)
  exact ⟨(h3 i o1 hi).2.1,(h4 j o2 hj).2.1⟩)
 rw [hzl,hzr] at hkey
 have hqg: ∀i,i<k→∃o1 o2 p,ox[i]? =some o1∧oy[i]? =some o2∧ps[i]? =some p∧q[i]? =some ((o1,o2),p):=fun i hi=>by
  obtain ⟨o1,h1⟩: ∃o,ox[i]? =some o:=⟨_,List.getElem?_eq_getElem (by omega)⟩
  obtain ⟨o2,h2⟩: ∃o,oy[i]? =some o:=⟨_,List.getElem?_eq_getElem (by omega)⟩
  obtain ⟨p,h3⟩: ∃o,ps[i]? =some o:=⟨_,List.getElem?_eq_getElem (by omega)⟩
  refine ⟨o1,o2,p,h1,h2,h3,?_⟩
  rw [←hq,List.getElem?_zip_eq_some,List.getElem?_zip_eq_some,List.getElem?_take,List.getElem?_take,List.getElem?_take,if_pos hi,if_pos hi,if_pos hi]
  exact ⟨⟨h1,h2⟩,h3⟩
 have hql:q.length=k:=by rw [←hq,List.length_zip,List.length_zip,List.length_take,List.length_take,List.length_take];omega
 obtain ⟨KX,hKX⟩: ∃S:ByteArray,(⟨(keyRow ((ox.take k).zip (ps.take k)) m).toArray⟩:ByteArray)=S:=⟨_,rfl⟩
 obtain ⟨KY,hKY⟩: ∃S:ByteArray,(⟨(keyRow ((oy.take k).zip (ps.take k)) n).toArray⟩:ByteArray)=S:=⟨_,rfl⟩
 obtain ⟨W0,hW0⟩: ∃W0,wantK m n q=W0:=⟨_,rfl⟩
 have hkc:cmpB KX.data.toList KY.data.toList=W0:=by rw [←hKX,←hKY,←hW0];exact hkey
 have HKL:=Lib.hid (key_less KX KY W0 hkc)
 rw [hKX] at CK
 rw [hKY] at CY
 have HQ:=Lib.hid (And.intro hqg (And.intro hql hW0))
 rw [hn1,hn2,hn3]
 clear hn1 hn2 hn3 hk hny hsy CP CF CG kx ky kp hq hzl hzr hkey hqg hql hKX hKY hW0 hkc
 go_wp2_with (fail)
 go_loopg [15,16] k (fun gk s15 s16 wr=> ∃(i:Nat) (wt:Int),s15= .int .i64 wt∧s16= .int .i64 i∧i+gk=k∧(-1≤wt∧wt≤1)∧Hid (W0=if wt≠0 then wt else wantK m n (q.drop i))∧Hid (Ux.Touch (fun _=>False) w1 wr))
 case atStart=>exact ⟨0,0,rfl,rfl,by omega,by omega,Lib.hid (by rw [if_neg (fun k=>k rfl)];exact HQ.out.2.2.symm),Lib.hid (Ux.Touch.refl _ _)⟩
 case round=>
  obtain ⟨i,wt,rfl,rfl,hig,hwt,HWT,HI⟩:=hrel
  have i0:(0:Int)≤i:=by omega
  by_cases hgo:i<k∧wt=0
  ·obtain ⟨hlt,rfl⟩:=hgo
   obtain ⟨g',rfl⟩: ∃g',gk=g'+1:=⟨gk-1,by omega⟩
   have i1:(i:Int)<k:=by omega
   have i2:(i:Int)<nx:=by omega
   have i3:(i:Int)<ny:=by omega
   have i4:(i:Int)<np:=by omega
   obtain ⟨o1,o2,p,ho1,ho2,hpp,hqi⟩:=HQ.out.1 i hlt
   obtain ⟨xa,xc,hxe,_,hc⟩:=HH.out.1
   cases hxe
   obtain ⟨p1,p2,_,b,f,rfl,hb,c0,c1,c2'⟩:=hc i o1 ho1
   obtain ⟨xay,xcy,hxe,_,hcy⟩:=HH.out.2.1
   cases hxe
   obtain ⟨p1',p2',_,b',f',rfl,hb',d0,d1,d2⟩:=hcy i o2 ho2
   obtain ⟨xa3,xc3,hxe,hc3⟩:=HP.out.2.1
   cases hxe
   obtain ⟨b'',f'',rfl,hb'',cd⟩:=hc3 i p hpp
   have HF:=Lib.hid fun W (T:Ux.Touch (fun _=>False) w1 W)=>show ((W.cell? ⟨b,f+i*3,none⟩=some (.int .i64 o1.1)∧W.cell? ⟨b,f+i*3+1,none⟩=some (.int .i64 o1.2.1)∧W.cell? ⟨b,f+i*3+2,none⟩=some (.string o1.2.2))∧
    (W.cell? ⟨b',f'+i*3,none⟩=some (.int .i64 o2.1)∧W.cell? ⟨b',f'+i*3+1,none⟩=some (.int .i64 o2.2.1)∧W.cell? ⟨b',f'+i*3+2,none⟩=some (.string o2.2.2))∧
    (W.cell? ⟨b'',f''+i*6,none⟩=some (.int .i64 p.kd)∧W.cell? ⟨b'',f''+i*6+1,none⟩=some (.int .i64 (p.LN:Nat))∧W.cell? ⟨b'',f''+i*6+2,none⟩=some (.bool p.sh)∧W.cell? ⟨b'',f''+i*6+3,none⟩=some (.bool p.bk)∧W.cell? ⟨b'',f''+i*6+4,none⟩=some (.slice p.ua p.un p.uc)))∧W.cell? ⟨b'',f''+i*6+5,none⟩=some (.bool p.d) from
    let U:=H1.out.trans T fun _ _ f=>f
    ⟨⟨⟨U.cell c0 (fun f=>f),U.cell c1 (fun f=>f),U.cell c2' (fun f=>f)⟩,⟨U.cell d0 (fun f=>f),U.cell d1 (fun f=>f),U.cell d2 (fun f=>f)⟩,
      T.cell (cd 0 _ rfl) (fun f=>f),T.cell (cd 1 _ rfl) (fun f=>f),T.cell (cd 2 _ rfl) (fun f=>f),T.cell (cd 3 _ rfl) (fun f=>f),T.cell (cd 4 _ rfl) (fun f=>f)⟩,T.cell (cd 5 _ rfl) (fun f=>f)⟩
   have CO:=Lib.hid fun W (T:Ux.Touch (fun _=>False) w1 W)=>rorder_ p o1 o2 0 W (HNX.out.2 o1 (List.mem_of_getElem? ho1)) (HNY.out.2 o2 (List.mem_of_getElem? ho2)) ((HP.out.2.2.2.1 p (List.mem_of_getElem? hpp)).touch T)
   have hov:=ordN_vals (pK p) (nmV o1.1 o1.2.1 o1.2.2) (nmV o2.1 o2.2.1 o2.2.2)
   have hst:=wantK_drop (m:=m) (n:=n) hqi
   have hw:=HWT.out
   rw [if_neg (fun k=>k rfl),hst] at hw
   unfold ordP at hw
   dsimp only at hw
   obtain ⟨R,hR⟩: ∃R,ordN (pK p) (nmV o1.1 o1.2.1 o1.2.2) (nmV o2.1 o2.2.1 o2.2.2)=R:=⟨_,rfl⟩
   rw [hR] at CO hov hw
   obtain ⟨v0,v1,v2⟩:=o1
   obtain ⟨u0,u1,u2⟩:=o2
   obtain ⟨q0,q1,q2,q3,q4,q5,q6,q7,q8⟩:=p
   dsimp only at HF CO hw
   have HX:=Lib.hid (And.intro hlt (And.intro hig hw))
   have r0: -1≤R:=hov.1
   have r1:R≤1:=hov.2
   obtain ⟨⟨⟨x0,x1,x2⟩,⟨y0,y1,y2⟩,z0,z1,z2,z3,z4⟩,z5⟩:=HF.out wr HI.out
   clear ho1 ho2 hpp hqi p1 p2 hb c0 c1 c2' p1' p2' hb' d0 d1 d2 hb'' cd hov hst hw hR hlt hig hc hcy hc3 hwt
   go_upto_region 9 with (fail)
   refine Ux.wpr (fun _ w'=>(w'.cell? ⟨b,f+i*3,none⟩=some (.int .i64 v0)∧w'.cell? ⟨b,f+i*3+1,none⟩=some (.int .i64 v1)∧w'.cell? ⟨b,f+i*3+2,none⟩=some (.string v2))∧(w'.cell? ⟨b',f'+i*3,none⟩=some (.int .i64 u0)∧w'.cell? ⟨b',f'+i*3+1,none⟩=some (.int .i64 u1)∧w'.cell? ⟨b',f'+i*3+2,none⟩=some (.string u2))∧w'.cell? ⟨b'',f''+i*6,none⟩=some (.int .i64 q0)∧w'.cell? ⟨b'',f''+i*6+1,none⟩=some (.int .i64 (q1:Nat))∧w'.cell? ⟨b'',f''+i*6+2,none⟩=some (.bool q2)∧w'.cell? ⟨b'',f''+i*6+3,none⟩=some (.bool q3)∧w'.cell? ⟨b'',f''+i*6+4,none⟩=some (.slice q5 q6 q7)) (.q [0,1,2,4,5,6,8,9,10,11] (.h false [3,7,12] (.e 13 false false (.line [14])))) ?_;repeat ((with_reducible refine Ux.qg ?_);refine Ux.qu ?_)
   clear x0 x1 x2 y0 y1 y2 z0 z1 z2 z3 z4 z5
   have HU:=Lib.hid (HI.out.trans (Ux.Touch.refl (fun _=>False) wr).drew fun _ _ f=>f)
   go_wp2_with (go_at_call 34;fail)
   refine (CO.out _ HU.out).mono ?_
   rintro e w4 ⟨rfl,T4⟩
   have HU:=Lib.hid (HU.out.trans T4 fun _ _ f=>f)
   clear T4
   cases q8 with
   |false=>
    obtain ⟨-,z5⟩:=HF.out w4 HU.out
    go_wp2
    go_roundg g'
    case measure=>have:=HX.out;omega
    case rel=>exact ⟨i+1,R,rfl,rfl,by have:=HX.out.2.1;omega,⟨r0,r1⟩,Lib.hid (by have:=HX.out.2.2;simpa using this),HU⟩
   |true=>
    obtain ⟨-,z5⟩:=HF.out w4 HU.out
    go_wp2
    go_roundg g'
    case measure=>have:=HX.out;omega
    case rel=>exact ⟨i+1,-R,by congr 1,rfl,by have:=HX.out.2.1;omega,by omega,Lib.hid (by have:=HX.out.2.2;simpa using this),HU⟩
  ·have hW:W0=if wt≠0 then wt else cmpI m n:=by
    have hw:=HWT.out
    by_cases e:wt=0
    ·rw [if_neg (fun k=>k e)] at hw⊢
     rw [hw,List.drop_eq_nil_of_le (by have:=HQ.out.2.1;omega)]
     rfl
    ·rw [if_pos e] at hw⊢
     exact hw
   have hcs:((i:Int)<k∧(wt==0)=false)∨(¬(i:Int)<k∧(wt==0)=false)∨(¬(i:Int)<k∧wt=0):=by
    by_cases e:wt=0
    ·exact .inr (.inr ⟨by omega,e⟩)
    ·by_cases e2:i<k
     ·exact .inl ⟨by omega,beq_false_of_ne e⟩
     ·exact .inr (.inl ⟨by omega,beq_false_of_ne e⟩)
   have HWW:=Lib.hid hW
   have HTR:=Lib.hid HI.out
   have hwt1:(-1:Int)≤wt:=hwt.1
   have hwt2:wt≤1:=hwt.2
   clear hW hgo hig HWT hwt HI
   rcases hcs with ⟨q1,q2⟩|⟨q1,q2⟩|⟨q1,rfl⟩
   case' inl|inr.inl=>
    have e0:wt=W0:=by
     rw [HWW.out,if_pos (fun k=>by rw [k] at q2;simp at q2)]
    subst e0
    go_wp2_with (fail)
   case' inr.inr=>
    have e0:W0=cmpI m n:=by rw [HWW.out,if_neg (fun k=>k rfl)]
    go_upto_if 80 with (fail)
    go_cut [15] (fun s15 wx=>s15= .int .i64 W0∧wx=wr)
    case first=>
     unfold cmpI at e0
     by_cases h1:m<n
     ·rw [if_pos h1] at e0
      subst e0
      go_wp2_with (fail)
      go_meet
      exact ⟨rfl,rfl⟩
     ·rw [if_neg h1] at e0
      by_cases h2:n<m
      ·rw [if_pos h2] at e0
       subst e0
       have h3:m>n:=h2
       go_wp2_with (fail)
       go_meet
       exact ⟨rfl,rfl⟩
      ·rw [if_neg h2] at e0
       subst e0
       have h3: ¬m>n:=h2
       go_wp2_with (fail)
       go_meet
       exact ⟨rfl,rfl⟩
    clear e0
    obtain ⟨rfl,hwx⟩:=hcut
    subst hwx
    go_wp2_with (fail)
   all_goals
    have hn:=HN.out
    rcases HSX.out.1 with hx|⟨ad,nn,cc,hx,hle,hcm⟩<;>rcases HSX.out.2 with hy|⟨ady,nny,ccy,hy,hley,hcmy⟩<;>rcases HP.out.2.2.2.2 with hz|⟨adz,nnz,ccz,hz,hlez,hcmz⟩
    all_goals
     injection hx with a1 a2 a3
     injection hy with b1 b2 b3
     injection hz with d1 d2 d3
     subst a1 a3 b1 b3 d1 d3
     have k1:(k:Int)≤nx:=by omega
     have k2:(k:Int)≤ny:=by omega
     have k3:(k:Int)≤np:=by omega
     try have k4:(k:Int)≤c:=by omega
     try have k5:(k:Int)≤cy:=by omega
     try have k6:(k:Int)≤c2:=by omega
     try have k7:(c:Int)≤9223372036854775807:=by unfold maxLen at hcm;omega
     try have k8:(cy:Int)≤9223372036854775807:=by unfold maxLen at hcmy;omega
     try have k9:(c2:Int)≤9223372036854775807:=by unfold maxLen at hcmz;omega
     have k0:(0:Int)≤k:=by omega
     first
     |(have e:k=0:=by omega
       subst e)
     |skip
     first
     |(have e:nx=0:=by omega
       subst e)
     |skip
     first
     |(have e:ny=0:=by omega
       subst e)
     |skip
     first
     |(have e:np=0:=by omega
       subst e)
     |skip
     clear a2 b2 d2 hn
     try clear hle hcm
     try clear hley hcmy
     try clear hlez hcmz
     have hml:=(H1.out.trans HTR.out fun _ _ f=>f).cell HH.out.2.2.2.1 (fun f=>f)
     refine Ux.wpr (fun _ w'=>w'.cell? ⟨3,0,none⟩=some (.int .i64 ml)) (.q [0,1,2,3,4,5,6,8,9,10,11,12,13,14] (.e 7 false false (.e 15 false false (.q [16] (.line [17]))))) ?_;repeat ((with_reducible refine Ux.qg ?_);refine Ux.qu ?_)
     clear hml
     have HU:=Lib.hid (HTR.out.trans (Ux.Touch.refl (fun _=>False) _).drew fun _ _ f=>f)
     go_wp2_with (go_at_call 35;fail)
     refine (CK.out _ HU.out).mono ?_
     rintro e w4 ⟨rfl,T4⟩
     have HU:=Lib.hid (HU.out.trans T4 fun _ _ f=>f)
     clear T4
     go_wp2_with (fail)
     go_wp2_with (go_at_call 35;fail)
     refine (CY.out _ HU.out).mono ?_
     rintro e w5 ⟨rfl,T5⟩
     have HU:=Lib.hid (HU.out.trans T5 fun _ _ f=>f)
     clear T5
     go_wp2_with (fail)
     repeat ((with_reducible refine Ux.qg ?_);refine Ux.qu ?_)
     rcases HKL.out with ⟨hw,b1,b2⟩|⟨hw,b1,b2⟩|⟨hw,b1,b2⟩
     all_goals
      subst hw
      go_wp2_with (go_at_call 33;fail)
      refine (AW.out _ (H1.out.trans HU.out fun _ _ f=>f)).mono ?_
      rintro e w9 ⟨rfl,T9⟩
      have H9:=Lib.hid ((H1.out.trans HU.out fun _ _ f=>f).trans T9 fun _ _ f=>f)
      clear T9
      go_wp2
      go_returns
      exact ⟨rfl,H9.out⟩
theorem kordsEnd_ (vx:Value) (ox:List (Int×Int×ByteArray)) (vy:Value) (oy:List (Int×Int×ByteArray)) (vq:Value) (l:List (Int×Int×Bool)) (m n ml:Int) (w:World) (hX:SCap vx∧VView w vx ox) (hY:SCap vy∧VView w vy oy) (hQ:QView w vq l)
 (hT:Tabs w) (hm:w.cell? ⟨3,0,none⟩=some (.int .i64 ml)) (hrm: -9223372036854775808≤m∧m≤9223372036854775807) (hrn: -9223372036854775808≤n∧n≤9223372036854775807):
 Calls Tryz.prog 7 #[vx,vy,vq,.int .i64 m,.int .i64 n] w fun e w'=>e= .returned (.bool true)∧Ux.Touch (fun _=>False) w w':=kordsLaw_ vx ox vy oy vq l m n ml w hX.2 hY.2 hQ hX.1 hY.1 hT hm hrm hrn
end Go.Proofs.YtfccjaboicpohaaGreatDoor
