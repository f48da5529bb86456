/- A part of the proof that the statement holds for every input that it names. No other condition. -/
import Derived.Test.YtikmdhhbamggfaaGreatDoorMadeAZ
import Derived.Test.YtikmdhhbamggfaaGreatDoorLikeBZ
import Derived.Test.YtikmdhhbamggfaaGreatDoorLikeCZ
import Derived.Test.YtikmdhhbamggfaaGreatDoorPatbZ
set_option linter.unusedVariables false
set_option linter.unusedSimpArgs false
namespace Go.Proofs.YtikmdhhbamggfaaGreatDoor
open Go.RowKit
open Ux (Ent SameE okT Row iv sv rootE rootT nextL TView)
open Ux.Sign (signs put foldN cp raw)
open Ux.Like (pat elt mat)
theorem kind_of_fold {a b:Nat} (h:foldN a=foldN b) (ha:cp a∨raw a):cp b∨raw b:=by
 unfold foldN at h
 unfold cp raw at*
 split at h<;>split at h<;>(try split at h)<;>(try split at h)<;>omega
theorem key_begins (kd:Int) (LN:Nat) (sh bk:Bool) (tb:Option Addr) (E:List Ent) (hk:kd=1∨kd=2∨kd=3) (hok:okC kd LN tb=true) (l:List Nat) (rs:List Int) (pt:ByteArray) (hpt:(⟨(put l).toArray⟩:ByteArray)=pt) (x:ByteArray) (hb:begB kd pt=true)
 (hm:mat (eqvM kd (LN:Nat) sh bk tb E) (sv l++rs) (sv (signs x.data.toList))=true): ∃r,(keyP kd (LN:Nat) sh bk tb E x).data.toList=(begS kd pt).data.toList++r:=by
 subst hpt
 obtain ⟨S1,S2,hS,hl1,hh⟩:=Ux.Like.mat_begins (l:=l) (r:=rs) hm
 unfold sv at hS
 rw [List.map_eq_append_iff] at hS
 obtain ⟨N1,N2,hN,rfl,rfl⟩:=hS
 rw [List.length_map] at hl1
 have hh2: ∀(i a b:Nat),l[i]? =some a→N1[i]? =some b→eqvM kd (LN:Nat) sh bk tb E a b=true:=fun i a b ha hb=>hh i a b ha (by rw [List.getElem?_map,hb];rfl)
 unfold keyP
 rw [hok,if_pos rfl]
 rcases hk with rfl|rfl|rfl
 ·rw [if_neg (by decide),if_neg (by decide)]
  have e:N1=l:=by
   apply List.ext_getElem? fun i=> ?_
   cases h1:N1[i]? with
   |none=>
    rw [List.getElem?_eq_none_iff] at h1
    exact (List.getElem?_eq_none_iff.2 (by omega)).symm
   |some b=>
    have hi:=(List.getElem?_eq_some_iff.1 h1).1
    have ha:l[i]? =some l[i]:=List.getElem?_eq_getElem (by omega)
    have h3:=hh2 i _ b ha h1
    rw [ha]
    unfold eqvM at h3
    rw [if_neg (by decide),if_neg (by decide)] at h3
    have h4:((l[i]:Nat):Int)=b:=eq_of_beq h3
    exact congrArg some (by omega)
  subst e
  refine ⟨put N2,?_⟩
  have h5:=Ux.Sign.put_signs x.data.toList
  rw [←h5,hN,Ux.Sign.put_append]
  rfl
 ·rw [if_neg (by decide),if_pos rfl]
  have e:N1.map foldN=l.map foldN:=by
   apply List.ext_getElem? fun i=> ?_
   rw [List.getElem?_map,List.getElem?_map]
   cases h1:N1[i]? with
   |none=>
    rw [List.getElem?_eq_none_iff] at h1
    rw [List.getElem?_eq_none_iff.2 (show l.length≤i by omega)]
   |some b=>
    have hi:=(List.getElem?_eq_some_iff.1 h1).1
    have ha:l[i]? =some l[i]:=List.getElem?_eq_getElem (by omega)
    have h3:=hh2 i _ b ha h1
    rw [ha]
    unfold eqvM at h3
    rw [if_pos rfl,Ux.Sign.foldI_nat,Ux.Sign.foldI_nat] at h3
    have h4:((foldN l[i]:Nat):Int)=(foldN b:Nat):=eq_of_beq h3
    exact congrArg some (by omega)
  have hg: ∀c∈l,cp c∨raw c:=fun c hc=>by
   obtain ⟨i,hi,rfl⟩:=List.mem_iff_getElem.1 hc
   have h1:N1[i]? =some (N1[i]'(by omega)):=List.getElem?_eq_getElem _
   have ha:l[i]? =some l[i]:=List.getElem?_eq_getElem (by omega)
   have h3:(N1.map foldN)[i]? =(l.map foldN)[i]? :=by rw [e]
   rw [List.getElem?_map,List.getElem?_map,h1,ha] at h3
   refine kind_of_fold (Option.some.inj h3) (Ux.Sign.good_all (Ux.Sign.good_signs x.data.toList) _ ?_)
   rw [hN]
   exact List.mem_append_left _ (List.getElem_mem _)
  obtain ⟨r,hr⟩:=Ux.Sign.foldText_begins hN e hg
  refine ⟨r,?_⟩
  unfold begS
  rw [if_neg (by decide),hb,if_pos rfl]
  exact hr
 ·cases hb
theorem begS_size (kd:Int) (p:ByteArray) (h:p.size≤1000000):(begS kd p).size≤1000000000:=by
 unfold begS
 split
 ·omega
 ·split
  ·have:=ftB_size p
   omega
  ·exact Nat.zero_le _
set_option maxHeartbeats 4000000 in
set_option maxRecDepth 100000 in
theorem ranges_big (p esc:ByteArray) (tv:Value) (ts:List ByteArray) (k lv:Int) (w:World) (hT:Tabs w) (hv:TView w tv ts) (h1:p.size≤140737488355328) (h2:esc.size≤140737488355328) (h:60<p.size∨4<esc.size∨20<ts.length):
 Calls Tryz.prog 9 #[.string p,.string esc,tv,.int .i64 k,.int .i64 lv] w fun e w'=>e= .returned (.bool true)∧Ux.Touch (fun _=>False) w w':=by
 have AW:=Lib.hid (awake_ w hT)
 obtain ⟨a,c,rfl,hn,_⟩:=hv
 obtain ⟨n1,e1⟩: ∃n,p.size=n:=⟨_,rfl⟩
 obtain ⟨n2,e2⟩: ∃n,esc.size=n:=⟨_,rfl⟩
 obtain ⟨n3,e3⟩: ∃n,ts.length=n:=⟨_,rfl⟩
 rw [e1,e2,e3] at h
 rw [e1] at h1
 rw [e2] at h2
 rw [e3] at hn⊢
 unfold maxLen at hn
 have g1:(n1:Int)≤140737488355328:=by omega
 have g2:(n2:Int)≤140737488355328:=by omega
 have g3:(n3:Int)≤9223372036854775807:=by omega
 have hc:((n1:Int)>60)∨(¬((n1:Int)>60)∧((n2:Int)>4))∨(¬((n1:Int)>60)∧¬((n2:Int)>4)∧((n3:Int)>20)):=by omega
 clear hT h1 h2 h hn
 rcases hc with g4|⟨g4,g5⟩|⟨g4,g5,g6⟩
 all_goals
  go_enter Tryz.func9,Tryz.ntmps9
  go_wp2_with (go_at_call 31;fail)
  refine AW.out.mono ?_
  rintro e w7 ⟨rfl,T7⟩
  have H7:=Lib.hid T7
  clear T7
  go_wp2
  go_returns
  exact ⟨rfl,H7.out⟩
set_option maxHeartbeats 16000000 in
set_option maxRecDepth 100000 in
theorem ranges_ (p esc:ByteArray) (tv:Value) (ts:List ByteArray) (k lv:Int) (w:World) (hT:Tabs w) (htv:TView w tv ts) (h1:p.size≤60) (h2:esc.size≤4) (h3:ts.length≤20):
 Calls Tryz.prog 9 #[.string p,.string esc,tv,.int .i64 k,.int .i64 lv] w fun e w'=>e= .returned (.bool true)∧Ux.Touch (fun _=>False) w w':=by
 have AW:=Lib.hid fun W (T:Ux.Touch (fun _=>False) w W)=>awake_ W (hT.touch T)
 have HM:=Lib.hid (madeC0_ k lv false false w hT)
 obtain ⟨oe,hoe⟩: ∃oe,only esc.data.toList=oe:=⟨_,rfl⟩
 obtain ⟨r,hr⟩: ∃r,pat oe (signs p.data.toList)=r:=⟨_,rfl⟩
 have hpb:=fun P (hP:r=some P)=>pat_bound oe (signs p.data.toList).length (signs p.data.toList) (Nat.le_refl _) (fun c hc=>signs_lt _ c hc) P (by rw [hr];exact hP)
 have hpl:(signs p.data.toList).length≤60:=by have:=signs_len p.data.toList;have e:p.data.toList.length=p.size:=by simp
                                              omega
 have HMK:=Lib.hid fun W (T:Ux.Touch (fun _=>False) w W)=>make_ p esc W (by omega) (hT.touch T) (by omega) oe hoe r hr
 have HRP:=Lib.hid fun W=>rpat_ p esc W (by omega) (by omega) oe hoe r hr
 have HT:=Lib.hid hT
 obtain ⟨ta,tc,rfl,_,htx⟩:=htv
 obtain ⟨n1,e1⟩: ∃n,p.size=n:=⟨_,rfl⟩
 obtain ⟨n2,e2⟩: ∃n,esc.size=n:=⟨_,rfl⟩
 obtain ⟨n3,e3⟩: ∃n,ts.length=n:=⟨_,rfl⟩
 rw [e3] at h3⊢
 have g1: ¬((n1:Int)>60):=by omega
 have g2: ¬((n2:Int)>4):=by omega
 have g3: ¬((n3:Int)>20):=by omega
 have HPB:=Lib.hid (And.intro hpb hpl)
 have HTX:=Lib.hid (And.intro htx e3)
 clear hT h1 h2 h3 hoe hr hpb hpl htx e3
 go_enter Tryz.func9,Tryz.ntmps9
 go_wp2_with (go_at_call 16;fail)
 refine HM.out.mono ?_
 rintro e w1 ⟨kd,LN,sh,bk,tb,u,rfl,hM,T1⟩
 have hsh:=hM.shape
 obtain ⟨xa,xm,xc,rfl⟩:=hsh
 unfold cV rcV
 obtain ⟨W1,hW1⟩: ∃W,(w1.alloc (.cells #[.int .i64 kd,.int .i64 (LN:Nat),.bool sh,.bool bk,.pointer tb] 25)).alloc (.cells #[.int .i64 kd,.int .i64 (LN:Nat),.bool sh,.bool bk,.slice xa xm xc] 30)=W:=⟨_,rfl⟩
 have t1:Ux.Touch (fun _=>False) w1 W1:=by rw [←hW1];exact ((Ux.Touch.refl _ _).alloc _).alloc _
 obtain ⟨q1,hq1⟩: ∃q,w1.heap.size=q:=⟨_,rfl⟩
 have r1:W1.heap[q1]? =some (.cells #[.int .i64 kd,.int .i64 (LN:Nat),.bool sh,.bool bk,.pointer tb] 25 (0,0)):=by rw [←hW1,←hq1];exact ((Ux.Touch.refl (fun _=>False) _).alloc _).heap (heap_alloc_new w1 _) (fun f=>f)
 have r2:W1.heap[q1+1]? =some (.cells #[.int .i64 kd,.int .i64 (LN:Nat),.bool sh,.bool bk,.slice xa xm xc] 30 (0,0)):=by
  rw [←hW1,←hq1]
  have:=heap_alloc_new (w1.alloc (.cells #[.int .i64 kd,.int .i64 (LN:Nat),.bool sh,.bool bk,.pointer tb] 25)) (.cells #[.int .i64 kd,.int .i64 (LN:Nat),.bool sh,.bool bk,.slice xa xm xc] 30)
  rwa [World.size_alloc] at this
 have TW1:=T1.trans t1 fun _ _ f=>f
 have HCA:=Lib.hid fun W (T:Ux.Touch (fun _=>False) W1 W)=>And.intro ((CAt.of r1).touch T) ((RAtG.of r2).touch T)
 have hM1:=hM.touch t1
 have H1:=Lib.hid (And.intro TW1 hM1)
 have HW1:=Lib.hid (And.intro hW1 hq1)
 have HTW:Hid (∀W,Ux.Touch (fun _=>False) W1 W→Tabs W):=Lib.hid fun W t=>HT.out.touch (TW1.trans t fun _ _ f=>f)
 clear hM T1 t1 r1 r2 TW1 hW1 hq1 hM1
 go_upto_region 6 with (fail)
 rw [HW1.out.1,HW1.out.2]
 go_wp2_with (go_at_call 32;fail)
 refine (HMK.out W1 H1.out.1).mono ?_
 rintro e w2 ⟨x2,rfl,hx2,T2⟩
 have HX2:=Lib.hid (And.intro hx2 T2)
 clear hx2 T2
 have hc:(∃C:Nat,C≠0∧x2= .tuple #[.agg #[.slice none 0 0],.int .i64 (C:Int)])∨(∃P v,r=some P∧x2= .tuple #[.agg #[v],.int .i64 0]∧Row w2 W1.heap.size 3 v (iv P)∧∀W lo y,RPatSays W lo esc.size oe r y→∃v',y= .tuple #[v',.int .i64 0]∧SigAt W lo v' P):=by
  have h:=HX2.out.1
  unfold MakeSays at h
  by_cases hn:esc.size≠0∧oe=none
  ·rw [if_pos hn] at h
   exact .inl ⟨1,by decide,h.1⟩
  ·rw [if_neg hn] at h
   cases r with
   |none=>exact .inl ⟨3,by decide,h.1⟩
   |some P=>
    obtain ⟨v,h1,h2⟩:=h
    refine .inr ⟨P,v,rfl,h1,h2,fun W lo y hy=> ?_⟩
    unfold RPatSays at hy
    rw [if_neg hn] at hy
    exact hy
 rcases hc with ⟨C,hC,rfl⟩|⟨P,v,hrP,rfl,hv,hy⟩
 ·obtain ⟨W2,hW2⟩: ∃W,w2.alloc (.cells #[.slice none 0 0] 51)=W:=⟨_,rfl⟩
  have t2:Ux.Touch (fun _=>False) w2 W2:=by rw [←hW2];exact (Ux.Touch.refl _ _).alloc _
  have HW2:=Lib.hid hW2
  have H2:=Lib.hid (HX2.out.2.trans t2 fun _ _ f=>f)
  have k9:((C:Int)==0)=false:=beq_false_of_ne (by omega)
  have k0:((C:Int) !=0)=true:=by show (!((C:Int)==0))=true;rw [k9];rfl
  clear t2 hW2 hC
  go_upto_region 7 with (fail)
  rw [HW2.out]
  go_wp2_with (go_at_call 31;fail)
  refine (AW.out W2 (H1.out.1.trans H2.out fun _ _ f=>f)).mono ?_
  rintro e w7 ⟨rfl,T7⟩
  have H7:=Lib.hid (H1.out.1.trans (H2.out.trans T7 fun _ _ f=>f) fun _ _ f=>f)
  clear T7
  go_wp2
  go_returns
  exact ⟨rfl,H7.out⟩
 ·obtain ⟨hP1,hP2⟩:=HPB.out.1 P hrP
  have hP60:P.length≤60:=by have:=HPB.out.2;omega
  obtain ⟨l,rs,hls,hrs,hl⟩:=pre_split P hP2
  obtain ⟨av,cv,hv1,_⟩:=hv.is
  obtain ⟨nP,hnP⟩: ∃n,(iv P).length=n:=⟨_,rfl⟩
  rw [hnP] at hv1
  subst hv1
  obtain ⟨W2,hW2⟩: ∃W,w2.alloc (.cells #[.slice av nP cv] 51)=W:=⟨_,rfl⟩
  have t2:Ux.Touch (fun _=>False) w2 W2:=by rw [←hW2];exact (Ux.Touch.refl _ _).alloc _
  obtain ⟨q2,hq2⟩: ∃q,w2.heap.size=q:=⟨_,rfl⟩
  have r2:W2.heap[q2]? =some (.cells #[.slice av nP cv] 51 (0,0)):=by rw [←hW2,←hq2];exact heap_alloc_new w2 _
  have HW2:=Lib.hid (And.intro hW2 hq2)
  have hv2:=hv.touch0 t2
  have H2:=Lib.hid (And.intro (HX2.out.2.trans t2 fun _ _ f=>f) (And.intro hv2 hP60))
  have HY:=Lib.hid hy
  have HLS:=Lib.hid (And.intro hls (And.intro hrs (And.intro hl hP2)))
  have HPC:=Lib.hid fun W (T:Ux.Touch (fun _=>False) W2 W)=>show W.cell? ⟨q2,0,none⟩=some (.slice av nP cv) from T.cell (by rw [cell_of_row W2 q2 0 _ _ (0,0) r2];rfl) (fun f=>f)
  clear t2 hW2 hq2 r2 hy hv hv2 hls hrs hl hP1 hP2 hP60 hrP hnP
  go_upto_region 7 with (fail)
  rw [HW2.out.1,HW2.out.2]
  go_wp2_with (go_at_call 33;fail)
  refine (HRP.out W2).mono ?_
  rintro e w3 ⟨x3,rfl,hx3,T3⟩
  obtain ⟨v3,rfl,hv3⟩:=HY.out _ _ _ hx3
  have H3:=Lib.hid (And.intro T3 hv3)
  have cp:=HPC.out w3 T3
  clear hx3 T3 hv3
  obtain ⟨PT,hPT⟩: ∃t:ByteArray,(⟨(put l).toArray⟩:ByteArray)=t:=⟨_,rfl⟩
  have hPs:PT.size≤1000000:=by
   have e:PT.data.toList.length=PT.size:=by simp
   have h1:(put l).length≤4*l.length:=put_len l
   have h2:P.length=l.length+rs.length:=by rw [HLS.out.1,List.length_append,Ux.sv_length]
   have h3:=H2.out.2.2
   rw [←e,←hPT]
   show (put l).length≤_
   omega
  obtain ⟨S,hS⟩: ∃S,begS kd PT=S:=⟨_,rfl⟩
  have hSs:S.size≤1000000000:=by rw [←hS];exact begS_size kd PT hPs
  have HRA:=Lib.hid fun W (T:Ux.Touch (fun _=>False) W2 W)=>prange_ kd LN sh bk tb H1.out.2.kind H1.out.2.ok (.slice av nP cv) l rs HLS.out.2.1 HLS.out.2.2.1 W1.heap.size W (HTW.out W (H2.out.1.trans T fun _ _ f=>f)) (by rw [←HLS.out.1];exact H2.out.2.1.touch0 T) (by rw [←HLS.out.1];have:=H2.out.2.2;omega) PT hPT hPs S hS hSs
  have HBG:=Lib.hid fun W (T:Ux.Touch (fun _=>False) W1 W)=>begin_ kd LN sh bk tb H1.out.2.kind H1.out.2.ok PT W (HTW.out W T) hPs
  have HNX:=Lib.hid fun W=>rnext_ S W hSs
  rw [nextV_eq] at HNX
  rw [hS] at HBG
  obtain ⟨HI,hHI⟩: ∃x,hiN S.data.toList=x:=⟨_,rfl⟩
  obtain ⟨N,hN⟩: ∃N,nextL S.data.toList=N:=⟨_,rfl⟩
  obtain ⟨OP,hOP⟩: ∃b,N.isNone=b:=⟨_,rfl⟩
  have hNN:N.isSome= !OP:=by rw [←hOP];cases N<;>rfl
  obtain ⟨B,hB⟩: ∃B,begB kd PT=B:=⟨_,rfl⟩
  obtain ⟨EM,hEM⟩: ∃e,S.toList.isEmpty=e:=⟨_,rfl⟩
  have hrk:rOk kd PT=(B&& !EM):=by unfold rOk;rw [hB,hS,hEM]
  rw [hHI,hN,hOP,hrk] at HRA
  rw [hHI,hN,hNN] at HNX
  rw [hB] at HBG
  have HEM:=Lib.hid hEM
  have hF:(B&& !EM)=false→S=⟨#[]⟩∧HI=⟨#[]⟩:=fun h=>by
   have h1:S=⟨#[]⟩:=by rw [←hS];exact rOk_false (by rw [hrk,h])
   exact ⟨h1,by rw [←hHI,h1];rfl⟩
  have hK:B=true→∀x:ByteArray,mat (eqvM kd (LN:Nat) sh bk tb rootE) P (sv (signs x.data.toList))=true→Op.bytesLess (keyP kd (LN:Nat) sh bk tb rootE x).toList S.toList=false∧(OP=false→Op.bytesLess (keyP kd (LN:Nat) sh bk tb rootE x).toList HI.toList=true):=fun hb x hm=>by
   rw [HLS.out.1] at hm
   obtain ⟨t,ht⟩:=key_begins kd LN sh bk tb rootE H1.out.2.kind H1.out.2.ok l rs PT hPT x (by rw [hB,hb]) hm
   rw [hS] at ht
   rw [Lib.toList_data,ht,Lib.toList_data,Lib.toList_data]
   refine ⟨Ux.less_self_app _ _,fun ho=> ?_⟩
   obtain ⟨hx,hhx⟩: ∃h,N=some h:=by
    rw [ho] at hOP
    cases N with
    |none=>cases hOP
    |some h=>exact ⟨h,rfl⟩
   rw [←hHI]
   unfold hiN
   rw [hN,hhx]
   exact Ux.next_less (by rw [hN,hhx]) t
  have HFK:=Lib.hid (And.intro hF hK)
  clear hS hSs hHI hN hOP hNN hB hEM hrk hF hK hPs
  unfold cV at HRA HBG
  obtain ⟨⟨x0,x1,x2,x3,x4⟩,y0,y1,y2,y3,y4⟩:=HCA.out w3 (H2.out.1.trans H3.out.1 fun _ _ f=>f)
  go_wp2_with (go_at_call 38;fail)
  refine (HRA.out w3 H3.out.1).mono ?_
  rintro e w4 ⟨rfl,T4⟩
  have H4:=Lib.hid (And.intro (H3.out.1.trans T4 fun _ _ f=>f) (SigAt.touch H3.out.2 (R:=fun _=>False) T4 fun _ _ f=>f))
  clear T4 cp x0 x1 x2 x3 x4 y0 y1 y2 y3 y4
  obtain ⟨PW,hPW⟩: ∃b,rs.isEmpty=b:=⟨_,rfl⟩
  have HRX:=Lib.hid (rpre_ v3 l rs HLS.out.2.1 HLS.out.2.2.1 _ w4 (by rw [←HLS.out.1];exact H4.out.2) (by rw [←HLS.out.1];exact HLS.out.2.2.2) (by rw [←HLS.out.1];have:=H2.out.2.2;omega))
  rw [hPT,hPW] at HRX
  clear hPT hPW
  go_wp2_with (go_at_call 35;fail)
  refine HRX.out.mono ?_
  rintro e w5 ⟨rfl,T5⟩
  have H5:=Lib.hid (And.intro (H4.out.1.trans T5 fun _ _ f=>f) (SigAt.touch H4.out.2 (R:=fun _=>False) T5 fun _ _ f=>f))
  clear T5
  obtain ⟨⟨x0,x1,x2,x3,x4⟩,y0,y1,y2,y3,y4⟩:=HCA.out w5 (H2.out.1.trans H5.out.1 fun _ _ f=>f)
  clear y0 y1 y2 y3 y4
  go_wp2_with (go_at_call 39;fail)
  refine (HBG.out w5 (H2.out.1.trans H5.out.1 fun _ _ f=>f)).mono ?_
  rintro e w6 ⟨rfl,T6⟩
  have H6:=Lib.hid (And.intro (H5.out.1.trans T6 fun _ _ f=>f) (SigAt.touch H5.out.2 (R:=fun _=>False) T6 fun _ _ f=>f))
  clear T6 x0 x1 x2 x3 x4
  have k1:=HEM.out
  cases B with
  |false=>
   obtain ⟨rfl,rfl⟩:=HFK.out.1 rfl
   obtain rfl:EM=true:=by rw [←k1,toList_emp];rfl
   clear k1
   go_wp2_with (go_at_call 31;fail)
   refine (AW.out w6 (H1.out.1.trans (H2.out.1.trans H6.out.1 fun _ _ f=>f) fun _ _ f=>f)).mono ?_
   rintro e w7 ⟨rfl,T7⟩
   have H7:=Lib.hid (H1.out.1.trans (H2.out.1.trans (H6.out.1.trans T7 fun _ _ f=>f) fun _ _ f=>f) fun _ _ f=>f)
   clear T7
   go_wp2
   go_returns
   exact ⟨rfl,H7.out⟩
  |true=>
   cases EM with
   |true=>
    obtain ⟨rfl,rfl⟩:=HFK.out.1 rfl
    clear k1
    go_wp2_with (go_at_call 31;fail)
    refine (AW.out w6 (H1.out.1.trans (H2.out.1.trans H6.out.1 fun _ _ f=>f) fun _ _ f=>f)).mono ?_
    rintro e w7 ⟨rfl,T7⟩
    have H7:=Lib.hid (H1.out.1.trans (H2.out.1.trans (H6.out.1.trans T7 fun _ _ f=>f) fun _ _ f=>f) fun _ _ f=>f)
    clear T7
    go_wp2
    go_returns
    exact ⟨rfl,H7.out⟩
   |false=>
    have q9:(S.toList==S.toList)=true:=by simp
    have q8:(HI.toList==HI.toList)=true:=by simp
    go_wp2_with (go_at_call 40;fail)
    refine (HNX.out w6).mono ?_
    rintro e w7 ⟨rfl,T7⟩
    have H7:=Lib.hid (And.intro (H6.out.1.trans T7 fun _ _ f=>f) (SigAt.touch H6.out.2 (R:=fun _=>False) T7 fun _ _ f=>f))
    have hkb:=HFK.out.2 (by first|rfl|trivial)
    have HKB:=Lib.hid hkb
    clear T7 hkb
    go_upto_region 18 with (fail)
    go_wp2_with (fail)
    go_loopg [28] n3 (fun gk s28 wr=> ∃i:Nat,s28= .int .i64 i∧i+gk=n3∧Hid (Ux.Touch (fun _=>False) w7 wr))
    case atStart=>exact ⟨0,rfl,by omega,Lib.hid (Ux.Touch.refl _ _)⟩
    case round=>
     obtain ⟨i,rfl,hig,HR⟩:=hrel
     have p0:(0:Int)≤i:=by omega
     by_cases hlt:i<n3
     ·obtain ⟨g',rfl⟩: ∃g',gk=g'+1:=⟨gk-1,by omega⟩
      have p1:(i:Int)<n3:=by omega
      have p2:(n3:Int)≤20:=by omega
      obtain ⟨x,hx⟩: ∃x,ts[i]? =some x:=⟨_,List.getElem?_eq_getElem (by have:=HTX.out.2;omega)⟩
      obtain ⟨hxs,tb0,tf0,rfl,htl,htc⟩:=HTX.out.1 i x hx
      obtain ⟨m,hm⟩: ∃m,x.size=m:=⟨_,rfl⟩
      rw [hm] at hxs
      unfold maxLen at hxs
      have p3:(m:Int)≤9223372036854775807:=by omega
      have H8:=Lib.hid (And.intro (H7.out.1.trans HR.out fun _ _ f=>f) (SigAt.touch H7.out.2 (R:=fun _=>False) HR.out fun _ _ f=>f))
      have HW8:=Lib.hid fun W (T:Ux.Touch (fun _=>False) wr W)=>H1.out.1.trans (H2.out.1.trans (H8.out.1.trans T fun _ _ f=>f) fun _ _ f=>f) fun _ _ f=>f
      have HXC:=Lib.hid fun W (T:Ux.Touch (fun _=>False) w W)=>show W.cell? ⟨tb0,tf0+i,none⟩=some (.string x) from T.cell htc fun f=>f
      clear hx hlt htc htl
      by_cases hm60:m≤60
      ·have p4: ¬((m:Int)>60):=by omega
       have hkl:=H1.out.2.keylen x (by omega)
       have HKY:=Lib.hid fun W (T:Ux.Touch (fun _=>False) wr W)=>skey_ kd (LN:Nat) sh bk tb rootE x W (by omega) (HTW.out W (H2.out.1.trans (H8.out.1.trans T fun _ _ f=>f) fun _ _ f=>f)) (H1.out.2.tab.touch (H2.out.1.trans (H8.out.1.trans T fun _ _ f=>f) fun _ _ f=>f)) hkl
       have HRM:=Lib.hid fun W (T:Ux.Touch (fun _=>False) wr W)=>rmatch_ H1.out.2 P HLS.out.2.2.2 (by have:=H2.out.2.2;omega) v3 _ x (by omega) W (H2.out.1.trans (H8.out.1.trans T fun _ _ f=>f) fun _ _ f=>f) (SigAt.touch H8.out.2 (R:=fun _=>False) T fun _ _ f=>f)
       have hkx:=HKB.out x
       obtain ⟨R,hR⟩: ∃R,mat (eqvM kd (LN:Nat) sh bk tb rootE) P (sv (signs x.data.toList))=R:=⟨_,rfl⟩
       obtain ⟨K,hKd⟩: ∃K,keyP kd (LN:Nat) sh bk tb rootE x=K:=⟨_,rfl⟩
       rw [hR] at HRM hkx
       rw [hKd] at HKY hkx
       unfold rcV at HRM
       unfold cV at HKY
       have HKX:=Lib.hid hkx
       clear hR hKd hkl hkx hm60
       have cX:=HXC.out wr (HW8.out wr (Ux.Touch.refl _ _))
       obtain ⟨⟨x0,x1,x2,x3,x4⟩,y0,y1,y2,y3,y4⟩:=HCA.out wr (H2.out.1.trans H8.out.1 fun _ _ f=>f)
       go_upto_region 25 with (fail)
       refine Ux.wpr (fun _ w'=>(w'.cell? ⟨tb0,tf0+i,none⟩=some (.string x))∧(w'.cell? ⟨q1,0,none⟩=some (.int .i64 kd)∧w'.cell? ⟨q1,1,none⟩=some (.int .i64 (LN:Nat))∧w'.cell? ⟨q1,2,none⟩=some (.bool sh)∧w'.cell? ⟨q1,3,none⟩=some (.bool bk)∧w'.cell? ⟨q1,4,none⟩=some (.pointer tb))∧w'.cell? ⟨q1+1,0,none⟩=some (.int .i64 kd)∧w'.cell? ⟨q1+1,1,none⟩=some (.int .i64 (LN:Nat))∧w'.cell? ⟨q1+1,2,none⟩=some (.bool sh)∧w'.cell? ⟨q1+1,3,none⟩=some (.bool bk)∧w'.cell? ⟨q1+1,4,none⟩=some (.slice xa xm xc)) (.h false [0] (.q [1,2,3] (.h false [4] (.e 5 false false (.line [6]))))) ?_;repeat ((with_reducible refine Ux.qg ?_);refine Ux.qu ?_)
       clear x0 x1 x2 x3 x4 y0 y1 y2 y3 y4 cX
       go_wp2_with (go_at_call 26;fail)
       refine (HKY.out _ ((Ux.Touch.refl (fun _=>False) wr).drew)).mono ?_
       rintro e w8 ⟨rfl,T8⟩
       have H9:=Lib.hid (((Ux.Touch.refl (fun _=>False) wr).drew).trans T8 fun _ _ f=>f)
       clear T8
       have cX:=HXC.out w8 (HW8.out w8 H9.out)
       obtain ⟨x,y0,y1,y2,y3,y4⟩:=HCA.out w8 (H2.out.1.trans (H8.out.1.trans H9.out fun _ _ f=>f) fun _ _ f=>f)
       clear x
       go_wp2_with (fail)
       refine Ux.wpr (fun _ w'=>(w'.cell? ⟨tb0,tf0+i,none⟩=some (.string x))∧w'.cell? ⟨q1+1,0,none⟩=some (.int .i64 kd)∧w'.cell? ⟨q1+1,1,none⟩=some (.int .i64 (LN:Nat))∧w'.cell? ⟨q1+1,2,none⟩=some (.bool sh)∧w'.cell? ⟨q1+1,3,none⟩=some (.bool bk)∧w'.cell? ⟨q1+1,4,none⟩=some (.slice xa xm xc)) (.h false [0] (.q [1,2,3,4] (.h false [5] (.e 6 false false (.q [7,8,9,10,11,12,13,14,15,16,17,18,19,20] (.line [])))))) ?_;repeat ((with_reducible refine Ux.qg ?_);refine Ux.qu ?_)
       clear y0 y1 y2 y3 y4 cX
       go_wp2_with (go_at_call 37;fail)
       refine (HRM.out _ (H9.out.drew)).mono ?_
       rintro e w10 ⟨rfl,T10⟩
       have H10:=Lib.hid (H9.out.drew.trans T10 fun _ _ f=>f)
       clear T10
       cases R with
       |false=>
        go_wp2_with (fail)
        repeat ((with_reducible refine Ux.qg ?_);refine Ux.qu ?_)
        go_wp2
        go_roundg g'
        case measure=>omega
        case rel=>exact ⟨i+1,rfl,by omega,Lib.hid (HR.out.trans H10.out fun _ _ f=>f)⟩
       |true=>
        obtain ⟨k5,k6⟩:=HKX.out (by first|rfl|trivial)
        cases OP with
        |true=>
         clear k6
         go_wp2_with (fail)
         repeat ((with_reducible refine Ux.qg ?_);refine Ux.qu ?_)
         go_wp2
         go_roundg g'
         case measure=>omega
         case rel=>exact ⟨i+1,rfl,by omega,Lib.hid (HR.out.trans H10.out fun _ _ f=>f)⟩
        |false=>
         have k7:=k6 (by first|rfl|trivial)
         clear k6
         go_wp2_with (fail)
         repeat ((with_reducible refine Ux.qg ?_);refine Ux.qu ?_)
         go_wp2
         go_roundg g'
         case measure=>omega
         case rel=>exact ⟨i+1,rfl,by omega,Lib.hid (HR.out.trans H10.out fun _ _ f=>f)⟩
      ·have p4:((m:Int)>60):=by omega
       have cX:=HXC.out wr (HW8.out wr (Ux.Touch.refl _ _))
       go_wp2_with (go_at_call 31;fail)
       refine (AW.out wr (HW8.out wr (Ux.Touch.refl _ _))).mono ?_
       rintro e w9 ⟨rfl,T9⟩
       have H9:=Lib.hid (HW8.out w9 T9)
       clear T9
       go_wp2
       go_returns
       exact ⟨rfl,H9.out⟩
     ·obtain rfl:i=n3:=by omega
      have p1: ¬(i:Int)<i:=by omega
      have HW8:=Lib.hid (H1.out.1.trans (H2.out.1.trans (H7.out.1.trans HR.out fun _ _ f=>f) fun _ _ f=>f) fun _ _ f=>f)
      clear hlt
      go_wp2_with (go_at_call 31;fail)
      refine (AW.out wr HW8.out).mono ?_
      rintro e w9 ⟨rfl,T9⟩
      have H9:=Lib.hid (HW8.out.trans T9 fun _ _ f=>f)
      clear T9
      go_wp2
      go_returns
      exact ⟨rfl,H9.out⟩
theorem rangesLaw_ (p esc:ByteArray) (tv:Value) (ts:List ByteArray) (k lv:Int) (w:World) (hv:TView w tv ts) (hT:Tabs w) (h1:p.size≤140737488355328) (h2:esc.size≤140737488355328):
 Calls Tryz.prog 9 #[.string p,.string esc,tv,.int .i64 k,.int .i64 lv] w fun e w'=>e= .returned (.bool true)∧Ux.Touch (fun _=>False) w w':=by
 by_cases h:60<p.size∨4<esc.size∨20<ts.length
 ·exact ranges_big p esc tv ts k lv w hT hv h1 h2 h
 ·exact ranges_ p esc tv ts k lv w hT hv (by omega) (by omega) (by omega)
end Go.Proofs.YtikmdhhbamggfaaGreatDoor
