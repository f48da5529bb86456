/- A part of the proof that the statement holds for every input that it names. No other condition. -/
import Derived.Test.YtikmdhhbamggfaaGreatDoorLikeAZ
import Derived.Test.YtikmdhhbamggfaaGreatDoorCollAZ
import Derived.Test.YtikmdhhbamggfaaGreatDoorMadeAZ
set_option linter.unusedVariables false
set_option linter.unusedSimpArgs false
namespace Go.Proofs.YtikmdhhbamggfaaGreatDoor
open Go.RowKit
open Ux (Row iv sv bv Ent)
open Ux.Sign (foldI enc put signs)
def oneB (c:Nat):ByteArray:=⟨(enc c).toArray⟩
def eqvM (kd LN:Int) (sh bk:Bool) (tb:Option Addr) (E:List Ent) (a b:Int):Bool:=if kd=2 then foldI a==foldI b else if kd=3 then cmpC 3 LN sh bk tb E (oneB a.toNat) (oneB b.toNat)==0 else a==b
theorem enc_four: ∀c,(enc c).length≤4:=fun c=>by
 unfold enc
 rw [List.length_map]
 unfold Ux.Sign.encN
 split
 ·simp
 ·split
  ·simp
  ·split
   ·simp
   ·split<;>simp
theorem oneB_size (c:Nat):(oneB c).size≤4:=enc_four c
end Go.Proofs.YtikmdhhbamggfaaGreatDoor
namespace Go.Proofs.YtikmdhhbamggfaaGreatDoor
open Go.RowKit
open Ux (Row iv sv bv Ent SameE okT)
open Ux.Sign (foldI enc put signs)
set_option maxHeartbeats 8000000 in
set_option maxRecDepth 100000 in
theorem ralike_ {w0:World} {lo:Nat} {kd:Int} {LN:Nat} {sh bk:Bool} {tb:Option Addr} {u:Value} {E T:List Ent} (hM:MadeC w0 lo kd LN sh bk tb u E T) (a b:Nat) (ha:a<1114368) (hb:b<1114368) (w:World) (t:Ux.Touch (fun _=>False) w0 w):
 Calls Tryz.prog 80 #[rcV kd (LN:Nat) sh bk u,.int .i64 (a:Int),.int .i64 (b:Int)] w fun e w'=>e= .returned (.bool (eqvM kd (LN:Nat) sh bk tb E a b))∧Ux.Touch (fun _=>False) w w':=by
 have CA:=Lib.hid fun w'=>rfold_ (a:Int) w' (by omega) (by omega)
 have CB:=Lib.hid fun w'=>rfold_ (b:Int) w' (by omega) (by omega)
 have OA:=Lib.hid fun W=>one_ a ha W
 have OB:=Lib.hid fun W=>one_ b hb W
 have hk:=hM.kind
 obtain ⟨xa,xn,xc,rfl⟩:=hM.shape
 have HRC:=Lib.hid fun W (t2:Ux.Touch (fun _=>False) w W)=>rcmp_ kd (LN:Nat) (fun e=>by have:=hM.lv e;omega) sh bk (.slice xa xn xc) T _ (oneB a) (oneB b) W ⟨_,_,_,rfl⟩ (fun e=>⟨((hM.rows e).1).touch0 (t.trans t2 fun _ _ f=>f),hM.same.ok hM.okE,(hM.rows e).2⟩) (by have:=oneB_size a;omega) (by have:=oneB_size b;omega)
 rw [←hM.cmp (oneB a) (oneB b)] at HRC
 obtain ⟨R,hR⟩: ∃R,eqvM kd (LN:Nat) sh bk tb E a b=R:=⟨_,rfl⟩
 rw [hR]
 unfold rcV at HRC⊢
 obtain ⟨B,hB⟩: ∃B,w.heap.size=B:=⟨_,rfl⟩
 have h1:(w.alloc (.cells #[.int .i64 kd,.int .i64 (LN:Nat),.bool sh,.bool bk,.slice xa xn xc] 30)).heap[B]? =some (.cells #[.int .i64 kd,.int .i64 (LN:Nat),.bool sh,.bool bk,.slice xa xn xc] 30 (0,0)):=by rw [←hB];exact heap_alloc_new w _
 have T0:=(Ux.Touch.refl (fun _=>False) w).alloc (.cells #[.int .i64 kd,.int .i64 (LN:Nat),.bool sh,.bool bk,.slice xa xn xc] 30)
 obtain ⟨w1,hw1⟩: ∃w1,w.alloc (.cells #[.int .i64 kd,.int .i64 (LN:Nat),.bool sh,.bool bk,.slice xa xn xc] 30)=w1:=⟨_,rfl⟩
 rw [hw1] at T0 h1
 have HC:=Lib.hid fun W (T:Ux.Touch (fun _=>False) w1 W)=>(RAtG.of h1).touch T
 have HT:=Lib.hid T0
 obtain ⟨c0,c1,c2,c3,c4⟩:=RAtG.of h1
 clear T0 h1 hM t ha hb
 rcases hk with rfl|rfl|rfl
 ·have e:((a:Int)==(b:Int))=R:=by rw [←hR];unfold eqvM;rw [if_neg (by decide),if_neg (by decide)]
  have HE:=Lib.hid e
  clear hR e c1 c2 c3 c4
  go_enter Tryz.func80,Tryz.ntmps80
  go_wp2
  go_returns
  exact ⟨by rw [←HE.out];rfl,HT.out⟩
 ·have e:(foldI (a:Int)==foldI (b:Int))=R:=by rw [←hR];unfold eqvM;rw [if_pos rfl]
  have HE:=Lib.hid e
  clear hR e c1 c2 c3 c4
  go_enter Tryz.func80,Tryz.ntmps80
  go_wp2_with (go_at_call 115;fail)
  refine (CA.out _).mono ?_
  rintro e w3 ⟨rfl,hw⟩
  obtain rfl:w1=w3:=hw.symm
  go_wp2_with (go_at_call 115;fail)
  refine (CB.out _).mono ?_
  rintro e w3 ⟨rfl,hw⟩
  obtain rfl:w1=w3:=hw.symm
  go_wp2
  go_returns
  exact ⟨by rw [←HE.out];rfl,HT.out⟩
 ·have e:(cmpC 3 (LN:Nat) sh bk tb E (oneB a) (oneB b)==0)=R:=by rw [←hR];unfold eqvM;rw [if_neg (by decide),if_pos rfl,Int.toNat_natCast,Int.toNat_natCast]
  obtain ⟨K,hK⟩: ∃K,cmpC 3 (LN:Nat) sh bk tb E (oneB a) (oneB b)=K:=⟨_,rfl⟩
  rw [hK] at HRC e
  have HE:=Lib.hid e
  clear hR e hK
  go_enter Tryz.func80,Tryz.ntmps80
  go_upto_region 5 with (fail)
  refine Ux.wpr (fun _ w'=>w'.cell? ⟨B,0,none⟩=some (.int .i64 3)∧w'.cell? ⟨B,1,none⟩=some (.int .i64 (LN:Nat))∧w'.cell? ⟨B,2,none⟩=some (.bool sh)∧w'.cell? ⟨B,3,none⟩=some (.bool bk)∧w'.cell? ⟨B,4,none⟩=some (.slice xa xn xc)) (.h false [0] (.q [1,3] (.e 2 true false (.e 4 true false (.e 5 false false (.q [6] (.line [7]))))))) ?_;repeat ((with_reducible refine Ux.qg ?_);refine Ux.qu ?_)
  clear c0 c1 c2 c3 c4
  go_wp2_with (go_at_call 77;fail)
  refine (OA.out _).mono ?_
  rintro e w2 ⟨rfl,T2⟩
  have H2:=Lib.hid (((Ux.Touch.refl (fun _=>False) w1).drew).trans T2 fun _ _ f=>f)
  clear T2
  have S2:=HC.out w2 H2.out
  go_wp2_with (fail)
  refine ⟨S2,?_⟩
  clear S2
  repeat ((with_reducible refine Ux.qg ?_);refine Ux.qu ?_)
  go_wp2_with (go_at_call 77;fail)
  refine (OB.out _).mono ?_
  rintro e w3 ⟨rfl,T3⟩
  have H3:=Lib.hid (H2.out.trans T3 fun _ _ f=>f)
  clear T3
  have S3:=HC.out w3 H3.out
  go_wp2_with (fail)
  refine ⟨S3,?_⟩
  clear S3
  repeat ((with_reducible refine Ux.qg ?_);refine Ux.qu ?_)
  go_wp2_with (go_at_call 18;fail)
  refine (HRC.out w3 (HT.out.trans H3.out fun _ _ f=>f)).mono ?_
  rintro e w4 ⟨rfl,T4⟩
  have H4:=Lib.hid ((HT.out.trans H3.out fun _ _ f=>f).trans T4 fun _ _ f=>f)
  clear T4
  go_wp2_with (fail)
  repeat ((with_reducible refine Ux.qg ?_);refine Ux.qu ?_)
  go_wp2
  go_returns
  exact ⟨by rw [←HE.out];rfl,H4.out⟩
end Go.Proofs.YtikmdhhbamggfaaGreatDoor
namespace Go.Proofs.YtikmdhhbamggfaaGreatDoor
open Go.RowKit
open Ux (Row iv sv bv Ent SameE okT KGrow)
open Ux.Sign (foldI enc put signs)
open Ux.Like (mat hit bl closeN closeUp stepUp stepN kindI valI sgV Closed Goes)
def SigAt (w:World) (lo:Nat) (v:Value) (P:List Int):Prop:=KGrow w lo 128 2 v P.length (sgV P)
theorem SigAt.cells {w:World} {lo:Nat} {v:Value} {P:List Int} (h:SigAt w lo v P): ∃a c,v= .slice a P.length c∧∀(i:Nat) (x:Int),P[i]? =some x→∃g,a=some ⟨g,0,none⟩∧w.cell? ⟨g,i*2,none⟩=some (.int .i64 (kindI x))∧w.cell? ⟨g,i*2+1,none⟩=some (.int .i64 (valI x)):=by
 obtain ⟨a,c,hv,hc⟩:=Ux.KGrow.is h
 refine ⟨a,c,hv,fun i x hx=> ?_⟩
 obtain ⟨h1,h2⟩:=Ux.Like.sgV_get hx
 obtain ⟨g,hg,_,c1⟩:=hc _ _ h1
 obtain ⟨g',hg',_,c2⟩:=hc _ _ h2
 rw [hg] at hg'
 cases hg'
 exact ⟨g,hg,c1,c2⟩
theorem mkB (n:Nat) (hn:n≤1000000) (w:World):(Instr.makeSlice 134 (.int .i64 ((n:Int)+1)) (.int .i64 ((n:Int)+1))).run Tryz.prog w= .ok (.slice (some ⟨w.heap.size,0,none⟩) (n+1) (n+1)) (w.alloc (.cells (bl n fun _=>false).toArray 4)):=by
 obtain ⟨i,hi,hz,hs,hb⟩: ∃i,Tryz.prog.info? 4=some i∧i.zero=some (.bool false)∧i.size=1∧i.bytes=1:=by
  have h:(Tryz.prog.info? 4).map (fun i=>(i.zero,i.size,i.bytes))=some (some (.bool false),1,1):=by kernel_rfl
  cases hx:Tryz.prog.info? 4 with
  |none=>rw [hx] at h;cases h
  |some i=>
   rw [hx] at h
   simp only [Option.map_some,Option.some.injEq,Prod.mk.injEq] at h
   exact ⟨i,rfl,h.1,h.2.1,h.2.2⟩
 have h:=run_make (P:=Tryz.prog) w 134 4 i (.bool false) Tryz.underlying134 hi hz .i64 .i64 ((n:Int)+1) ((n:Int)+1) (by omega) (Int.le_refl _) (by rw [hb];omega) (by omega)
 have e:((n:Int)+1).toNat=n+1:=by omega
 have hc:madeCells (Value.bool false).cells (n+1)=(bl n fun _=>false).toArray:=by
  show madeCells #[.bool false] (n+1)=_
  rw [Ux.Like.bl_start]
  apply Array.ext
  ·rw [size_madeCells,List.size_toArray,List.length_replicate]
  ·intro j h1 h2
   simp [madeCells,Nat.mod_one]
 rw [e,hs,Nat.mul_one,hc] at h
 exact h
theorem bl_row (w:World) (n:Nat) (f:Nat→Bool):Row (w.alloc (.cells (bl n f).toArray 4)) w.heap.size 4 (.slice (some ⟨w.heap.size,0,none⟩) (n+1) (n+1)) (bl n f):=by
 refine .inr ⟨w.heap.size,n+1,_,by rw [Ux.Like.bl_len],Nat.le_refl _,heap_alloc_new w _,by rw [Ux.Like.bl_len];exact Nat.le_refl _,by rw [List.size_toArray,Ux.Like.bl_len];exact Nat.le_refl _,?_⟩
 simp
theorem SigAt.touch {R:Nat→Prop} {w w':World} {lo:Nat} {v:Value} {P:List Int} (h:SigAt w lo v P) (ht:Ux.Touch R w w') (hR: ∀b,v.ownBlock=some b→¬R b):SigAt w' lo v P:=⟨Ux.own_touch h.1 ht hR,h.2⟩
theorem bl_at {w:World} {lo g n cap:Nat} {f:Nat→Bool} (h:Row w lo 4 (.slice (some ⟨g,0,none⟩) (n+1) cap) (bl n f)) {k:Nat} (hk:k≤n):w.cell? ⟨g,k,none⟩=some (.bool (f k))∧w.frozen? ⟨g,k,none⟩=false:=by
 obtain ⟨g',e,_,c⟩:=h.at (Ux.Like.bl_get (f:=f) hk)
 cases e
 exact ⟨c,h.frozen k⟩
theorem bl_put {w:World} {lo g n cap:Nat} {f f':Nat→Bool} (h:Row w lo 4 (.slice (some ⟨g,0,none⟩) (n+1) cap) (bl n f)) {k:Nat} (hk:k≤n) (b:Bool) (hf: ∀j,(if j=k then b else f j)=f' j):Row (w.setCell ⟨g,k,none⟩ (.bool b)) lo 4 (.slice (some ⟨g,0,none⟩) (n+1) cap) (bl n f'):=by
 have h2:=h.set k (.bool b)
 rw [Ux.Like.bl_set b hk,Ux.Like.bl_congr fun j _=>hf j] at h2
 exact h2
set_option maxHeartbeats 8000000 in
set_option maxRecDepth 100000 in
theorem spread_ (g n cap lo lp:Nat) (P:List Int) (hP:P.length=n) (hn:n≤1000000) (f:Nat→Bool) (pv:Value) (w:World) (hp:SigAt w lp pv P) (hR:Row w lo 4 (.slice (some ⟨g,0,none⟩) (n+1) cap) (bl n f)) (hne: ∀b,pv.ownBlock=some b→¬b=g):
 Calls Tryz.prog 79 #[.slice (some ⟨g,0,none⟩) (n+1) cap,pv] w fun e w'=>e= .returned (.tuple #[])∧Row w' lo 4 (.slice (some ⟨g,0,none⟩) (n+1) cap) (bl n (closeN P f))∧Ux.Touch (fun b=>b=g) w w':=by
 obtain ⟨a,c,rfl,_⟩:=hp.cells
 rw [hP] at hp hne⊢
 have HP:Hid (∀W,Ux.Touch (fun b=>b=g) w W→∀(i:Nat) (x:Int),P[i]? =some x→∃gp,a=some ⟨gp,0,none⟩∧W.cell? ⟨gp,i*2,none⟩=some (.int .i64 (kindI x))∧W.cell? ⟨gp,i*2+1,none⟩=some (.int .i64 (valI x))):=Lib.hid fun W t i x hx=>by
  obtain ⟨a',c',e,h⟩:=(hp.touch t hne).cells
  cases e
  exact h i x hx
 have H0:=Lib.hid (And.intro hR (And.intro hP hn))
 have n1:(n:Int)≤1000000:=by omega
 clear hp hR hne hP hn
 go_enter Tryz.func79,Tryz.ntmps79
 go_wp2_with (fail)
 go_loopg [4] n (fun gk s4 wr=> ∃k:Nat,s4= .int .i64 k∧k+gk=n∧Hid (Row wr lo 4 (.slice (some ⟨g,0,none⟩) (n+1) cap) (bl n (closeUp P f k))∧Ux.Touch (fun b=>b=g) w wr))
 case atStart=>exact ⟨0,rfl,by omega,Lib.hid ⟨by rw [Ux.Like.bl_congr fun j _=>Ux.Like.closeUp_0 P f j];exact H0.out.1,Ux.Touch.refl _ _⟩⟩
 case round=>
  obtain ⟨k,rfl,hkg,HI⟩:=hrel
  have k0:(0:Int)≤k:=by omega
  by_cases hlt:k<n
  ·obtain ⟨g',rfl⟩: ∃g',gk=g'+1:=⟨gk-1,by omega⟩
   have k1:(k:Int)<n:=by omega
   have k2:(k:Int)<(n:Int)+1:=by omega
   have k3:(k:Int)+1<(n:Int)+1:=by omega
   have k4:(0:Int)≤(k:Int)+1:=by omega
   obtain ⟨x,hx⟩: ∃x,P[k]? =some x:=⟨_,List.getElem?_eq_getElem (by have:=H0.out.2.1;omega)⟩
   obtain ⟨gp,rfl,p0,p1⟩:=HP.out wr HI.out.2 k x hx
   obtain ⟨b0,z0⟩:=bl_at HI.out.1 (k:=k) (by omega)
   obtain ⟨b1,z1⟩:=bl_at HI.out.1 (k:=k+1) (by omega)
   rw [Ux.Like.closeUp_at] at b0
   have HX:=Lib.hid hx
   clear hx hlt p1
   obtain ⟨F,hF⟩: ∃F,closeN P f k=F:=⟨_,rfl⟩
   rw [hF] at b0
   cases F with
   |false=>
    have HF:=Lib.hid hF
    clear hF b1 z1 z0 p0
    go_wp2_with (fail)
    go_roundg g'
    case measure=>omega
    case rel=>exact ⟨k+1,by congr 1,by omega,Lib.hid ⟨by rw [←Ux.Like.bl_congr fun j _=>Ux.Like.closeUp_no (P:=P) (f:=f) (k:=k) (fun h=>by rw [HF.out] at h;cases h.1) j];exact HI.out.1,HI.out.2⟩⟩
   |true=>
    by_cases hs:x= -1
    ·subst hs
     have e2:kindI (-1)=2:=rfl
     rw [e2] at p0
     have hput:=bl_put HI.out.1 (k:=k+1) (by omega) true (Ux.Like.closeUp_yes hF HX.out)
     have HQ:=Lib.hid hput
     have b1':wr.cell? ⟨g,k+1,none⟩=some (.bool (closeUp P f k (k+1))):=b1
     clear hF hput b1 e2
     go_wp2_with (fail)
     go_roundg g'
     case measure=>omega
     case rel=>exact ⟨k+1,by congr 1,by omega,Lib.hid ⟨HQ.out,HI.out.2.setCell (p:=⟨g,k+1,none⟩) (fun _=>rfl) _⟩⟩
    ·have e2:(kindI x==2)=false:=by
      unfold kindI
      rw [if_neg hs]
      split<;>rfl
     obtain ⟨K,hK⟩: ∃K,kindI x=K:=⟨_,rfl⟩
     rw [hK] at p0 e2
     have HS:=Lib.hid hs
     clear hF b1 z1 z0 hK hs
     go_wp2_with (fail)
     go_roundg g'
     case measure=>omega
     case rel=>exact ⟨k+1,by congr 1,by omega,Lib.hid ⟨by rw [←Ux.Like.bl_congr fun j _=>Ux.Like.closeUp_no (P:=P) (f:=f) (k:=k) (fun h=>by rw [HX.out] at h;exact HS.out (Option.some.inj h.2)) j];exact HI.out.1,HI.out.2⟩⟩
  ·obtain rfl:k=n:=by omega
   have k1: ¬((k:Int)<k):=by omega
   clear hlt
   go_wp2_with (fail)
   go_returns
   refine ⟨rfl,?_,HI.out.2⟩
   rw [Ux.Like.bl_congr (g:=closeUp P f k) fun j hj=>by unfold closeUp;rw [if_pos hj]]
   exact HI.out.1
theorem SigAt.lt {w:World} {lo:Nat} {v:Value} {P:List Int} (h:SigAt w lo v P) {b:Nat} (hb:v.ownBlock=some b):b<w.heap.size:=by
 rcases h.1.2 with ⟨hv,_⟩|⟨g,cap,cur,hv,_,hh,_⟩
 ·rw [hv] at hb;cases hb
 ·rw [hv] at hb;cases hb;exact Ux.lt_of_heap hh
theorem drop_at {l:List Int} {i:Nat} {x:Int} (h:l[i]? =some x):l.drop i=x::l.drop (i+1):=Ux.Like.drop_cons h
set_option maxHeartbeats 16000000 in
set_option maxRecDepth 100000 in
theorem rmatch_ {w0:World} {lo:Nat} {kd:Int} {LN:Nat} {sh bk:Bool} {tb:Option Addr} {u:Value} {E T:List Ent} (hM:MadeC w0 lo kd LN sh bk tb u E T) (P:List Int) (hPs: ∀c∈P,c= -1∨c= -2∨(0≤c∧c<1114368)) (hPl:P.length≤1000000) (pv:Value) (lp:Nat) (s:ByteArray) (hs:s.size≤1000000) (w:World) (t:Ux.Touch (fun _=>False) w0 w) (hp:SigAt w lp pv P):
 Calls Tryz.prog 37 #[rcV kd (LN:Nat) sh bk u,pv,.string s] w fun e w'=>e= .returned (.bool (mat (eqvM kd (LN:Nat) sh bk tb E) P (sv (signs s.data.toList))))∧Ux.Touch (fun _=>False) w w':=by
 obtain ⟨xa,xm,xc,rfl⟩:=hM.shape
 obtain ⟨n,hn⟩: ∃n,P.length=n:=⟨_,rfl⟩
 obtain ⟨ap,cp,rfl,_⟩:=hp.cells
 rw [hn] at hp hPl⊢
 obtain ⟨L,hL⟩: ∃L,sv (signs s.data.toList)=L:=⟨_,rfl⟩
 have hLb: ∀y∈L,∃yn:Nat,y=yn∧yn<1114368:=fun y hy=>by
  rw [←hL] at hy
  unfold sv at hy
  obtain ⟨c,hc,rfl⟩:=List.mem_map.1 hy
  exact ⟨c,rfl,signs_lt _ c hc⟩
 have hLn:L.length≤1000000:=by rw [←hL,Ux.sv_length];have:=signs_len s.data.toList;have e:s.data.toList.length=s.size:=by simp
                               omega
 obtain ⟨nl,hnl⟩: ∃nl,L.length=nl:=⟨_,rfl⟩
 obtain ⟨eqv,heqv⟩: ∃eqv,eqvM kd (LN:Nat) sh bk tb E=eqv:=⟨_,rfl⟩
 obtain ⟨RES,hRES⟩: ∃R,mat eqv P L=R:=⟨_,rfl⟩
 have HRS:=Lib.hid fun W=>rsigns_ s W (by omega)
 have HAL:=Lib.hid fun (a b:Nat) (ha:a<1114368) (hb:b<1114368) W (t2:Ux.Touch (fun _=>False) w W)=>ralike_ hM a b ha hb W (t.trans t2 fun _ _ f=>f)
 rw [hL] at HRS
 rw [hL,heqv,hRES]
 rw [heqv] at HAL
 unfold rcV at HAL⊢
 obtain ⟨B,hB⟩: ∃B,w.heap.size=B:=⟨_,rfl⟩
 have h1:(w.alloc (.cells #[.int .i64 kd,.int .i64 (LN:Nat),.bool sh,.bool bk,.slice xa xm xc] 30)).heap[B]? =some (.cells #[.int .i64 kd,.int .i64 (LN:Nat),.bool sh,.bool bk,.slice xa xm xc] 30 (0,0)):=by rw [←hB];exact heap_alloc_new w _
 have T0:=(Ux.Touch.refl (fun _=>False) w).alloc (.cells #[.int .i64 kd,.int .i64 (LN:Nat),.bool sh,.bool bk,.slice xa xm xc] 30)
 obtain ⟨w1,hw1⟩: ∃w1,w.alloc (.cells #[.int .i64 kd,.int .i64 (LN:Nat),.bool sh,.bool bk,.slice xa xm xc] 30)=w1:=⟨_,rfl⟩
 rw [hw1] at T0 h1
 have HC:=Lib.hid fun W (T:Ux.Touch (fun _=>False) w1 W)=>(RAtG.of h1).touch T
 have HT:=Lib.hid T0
 have HPT:=Lib.hid fun W (t2:Ux.Touch (fun _=>False) w1 W)=>SigAt.touch hp (R:=fun _=>False) (T0.trans t2 fun _ _ f=>f) (fun _ _ f=>f)
 have HPL:=Lib.hid fun b (hb:(Value.slice ap n cp).ownBlock=some b)=>hp.lt hb
 have HH:=Lib.hid (And.intro hPs (And.intro hPl (And.intro hn (And.intro hLb (And.intro hnl hRES)))))
 have n1:(n:Int)≤1000000:=by omega
 have l1:(nl:Int)≤1000000:=by omega
 have hmk:=mkB n (by omega)
 clear T0 h1 hM t hp hPs hPl hn hLb hLn hnl hL heqv hRES hs
 go_enter Tryz.func37,Tryz.ntmps37
 go_wp2_with (go_at_call 73;fail)
 refine (HRS.out w1).mono ?_
 rintro e w2 ⟨lv,rfl,hlr,T2⟩
 obtain ⟨al,cl,rfl,_⟩:=hlr.is
 rw [Ux.iv_length,HH.out.2.2.2.2.1] at hlr⊢
 obtain ⟨q,hq⟩: ∃q,w2.heap.size=q:=⟨_,rfl⟩
 have H2:=Lib.hid (And.intro (hlr.mono (Nat.zero_le _)) (And.intro T2 hq))
 have r3:=bl_row w2 n fun _=>false
 have T3:Ux.Touch (fun _=>False) w2 (w2.alloc (.cells (bl n fun _=>false).toArray 4)):=(Ux.Touch.refl _ _).alloc _
 have s3:(w2.alloc (.cells (bl n fun _=>false).toArray 4)).heap.size=q+1:=by rw [World.size_alloc,hq]
 obtain ⟨W3,hW3⟩: ∃W,w2.alloc (.cells (bl n fun _=>false).toArray 4)=W:=⟨_,rfl⟩
 rw [hW3] at r3 T3 s3
 rw [hq] at r3
 obtain ⟨b0,z0⟩:=bl_at r3 (Nat.zero_le n)
 have rp:=bl_put r3 (k:=0) (Nat.zero_le n) true (f':=fun k=>decide (k=0)) (fun j=>by by_cases h:j=0<;>simp [h])
 have T4:Ux.Touch (fun b=>b=q) W3 (W3.setCell ⟨q,0,none⟩ (.bool true)):=(Ux.Touch.refl (fun b=>b=q) W3).setCell (p:=⟨q,0,none⟩) (fun _=>rfl) _
 have HW3:=Lib.hid (And.intro hW3 hq)
 have H3:=Lib.hid (And.intro T3 (And.intro s3 (And.intro rp T4)))
 clear hlr T2 r3 T3 s3 hW3 rp T4 hq
 go_upto_region 3 with (fail)
 rw [HW3.out.1,HW3.out.2]
 go_upto_region 4 with (fail)
 obtain ⟨W4,hW4⟩: ∃W,W3.setCell ⟨q,0,none⟩ (.bool true)=W:=⟨_,rfl⟩
 have T24:Ux.Touch (fun _=>False) w2 W4:=by
  rw [←hW4]
  exact H3.out.1.trans (R:=fun _=>False) H3.out.2.2.2 fun b hb e=>by have:=HW3.out.2;omega
 have r4:=H3.out.2.2.1
 rw [hW4] at r4⊢
 have HSP:=Lib.hid (spread_ q n (n+1) q lp P HH.out.2.2.1 HH.out.2.1 _ (.slice ap n cp) W4 (HPT.out W4 (H2.out.2.1.trans T24 fun _ _ f=>f)) r4 (fun b hb e=>by have h1:=HPL.out b hb;have h2:=HT.out.size;have h3:=H2.out.2.1.size;have h4:=HW3.out.2;omega))
 have H4:=Lib.hid T24
 clear b0 z0 hW4 T24 r4
 go_wp2_with (go_at_call 79;fail)
 refine HSP.out.mono ?_
 rintro e w5 ⟨rfl,r5,T5⟩
 have T25:Ux.Touch (fun _=>False) w2 w5:=H4.out.trans (R:=fun _=>False) T5 fun b hb e=>by have:=HW3.out.2;omega
 have H5:=Lib.hid (And.intro r5 T25)
 clear r5 T5 T25 HSP
 go_wp2_with (fail)
 go_loopg [8,9,10,11] nl (fun gk s8 s9 s10 s11 wr=> ∃(i g:Nat) (f:Nat→Bool),s9= .int .i64 i∧s8= .slice (some ⟨g,0,none⟩) (n+1) (n+1)∧i+gk=nl∧Hid (q≤g∧Row wr q 4 (.slice (some ⟨g,0,none⟩) (n+1) (n+1)) (bl n f)∧Closed P f∧(Goes eqv P f (L.drop i)↔RES=true)∧Ux.Touch (fun _=>False) w2 wr))
 case atStart=>exact ⟨0,q,_,rfl,rfl,by omega,Lib.hid ⟨Nat.le_refl _,H5.out.1,Ux.Like.closeN_closed _ _,by rw [Ux.Like.close_goes,List.drop_zero,Ux.Like.start_goes,HH.out.2.2.2.2.2],H5.out.2⟩⟩
 case round=>
  obtain ⟨i,g,f,rfl,rfl,hig,HI⟩:=hrel
  have i0:(0:Int)≤i:=by omega
  by_cases hlt:i<nl
  ·obtain ⟨g',rfl⟩: ∃g',gk=g'+1:=⟨gk-1,by omega⟩
   have i1:(i:Int)<nl:=by omega
   obtain ⟨y,hy⟩: ∃y,L[i]? =some y:=⟨_,List.getElem?_eq_getElem (by have:=HH.out.2.2.2.2.1;omega)⟩
   obtain ⟨yn,rfl,hyn⟩:=HH.out.2.2.2.1 y (List.mem_of_getElem? hy)
   obtain ⟨gl,rfl,_,cl0⟩:=H2.out.1.at (Ux.iv_get hy)
   obtain ⟨qn,hqn⟩: ∃q,wr.heap.size=q:=⟨_,rfl⟩
   have r6:=bl_row wr n fun _=>false
   have T6:Ux.Touch (fun _=>False) wr (wr.alloc (.cells (bl n fun _=>false).toArray 4)):=(Ux.Touch.refl _ _).alloc _
   obtain ⟨W6,hW6⟩: ∃W,wr.alloc (.cells (bl n fun _=>false).toArray 4)=W:=⟨_,rfl⟩
   rw [hW6] at r6 T6
   rw [hqn] at r6
   have HW6:=Lib.hid (And.intro hW6 hqn)
   have hqq:q≤qn:=by have h1:=HI.out.2.2.2.2.size;have h2:=HW3.out.2;omega
   have hgq:g<qn:=by
    obtain ⟨cs,hcs⟩:=Ux.Row.kind HI.out.2.1 (b:=g) rfl
    have:=Ux.lt_of_heap hcs
    omega
   have H6:=Lib.hid (And.intro r6 (And.intro T6 (And.intro hqq (And.intro hgq (And.intro hy hyn)))))
   have HCL:=Lib.hid fun W (T:Ux.Touch (fun _=>False) w2 W)=>T.cell cl0 (fun f=>f)
   clear r6 T6 hW6 hqn hqq hgq hy hyn cl0 hlt
   go_upto_region 9 with (fail)
   rw [HW6.out.1,HW6.out.2]
   go_wp2_with (fail)
   go_loopg [11] n (fun gk s11 wi=> ∃k:Nat,s11= .int .i64 k∧k+gk=n∧Hid (Row wi qn 4 (.slice (some ⟨qn,0,none⟩) (n+1) (n+1)) (bl n (stepUp eqv P f yn k))∧Row wi q 4 (.slice (some ⟨g,0,none⟩) (n+1) (n+1)) (bl n f)∧Ux.Touch (fun _=>False) w2 wi))
   case atStart=>exact ⟨0,rfl,by omega,Lib.hid ⟨by rw [Ux.Like.bl_congr fun j _=>Ux.Like.stepUp_0 P f yn j];exact H6.out.1,HI.out.2.1.touch0 H6.out.2.1,HI.out.2.2.2.2.trans H6.out.2.1 fun _ _ f=>f⟩⟩
   case round=>
    obtain ⟨k,rfl,hkg,HJ⟩:=hrel
    have k0:(0:Int)≤k:=by omega
    by_cases hkn:k<n
    ·obtain ⟨g2',rfl⟩: ∃g',gk=g'+1:=⟨gk-1,by omega⟩
     have k1:(k:Int)<n:=by omega
     have k2:(k:Int)<(n:Int)+1:=by omega
     have k3:(k:Int)+1<(n:Int)+1:=by omega
     have k4:(0:Int)≤(k:Int)+1:=by omega
     obtain ⟨x,hx⟩: ∃x,P[k]? =some x:=⟨_,List.getElem?_eq_getElem (by have:=HH.out.2.2.1;omega)⟩
     have hxb:=HH.out.1 x (List.mem_of_getElem? hx)
     obtain ⟨b0,_⟩:=bl_at HJ.out.2.1 (k:=k) (by omega)
     obtain ⟨c0,z0⟩:=bl_at HJ.out.1 (k:=k) (by omega)
     obtain ⟨c1,z1⟩:=bl_at HJ.out.1 (k:=k+1) (by omega)
     obtain ⟨F,hF⟩: ∃F,f k=F:=⟨_,rfl⟩
     rw [hF] at b0
     have HX:=Lib.hid (And.intro hx (And.intro hF hkn))
     cases F with
     |false=>
      clear hx hF hxb c0 c1 z0 z1 hkn
      go_wp2_with (fail)
      go_roundg g2'
      case measure=>omega
      case rel=>exact ⟨k+1,by congr 1,by omega,Lib.hid ⟨by rw [←Ux.Like.bl_congr fun j _=>Ux.Like.stepUp_off HX.out.2.1 j];exact HJ.out.1,HJ.out.2⟩⟩
     |true=>
      obtain ⟨a',c',e,hcp⟩:=(HPT.out wr (H2.out.2.1.trans HJ.out.2.2 fun _ _ f=>f)).cells
      cases e
      obtain ⟨gp,rfl,p0,p1⟩:=hcp k x hx
      clear hcp hx hF hkn
      rcases hxb with rfl|rfl|hxb
      ·have e2:kindI (-1)=2:=rfl
       rw [e2] at p0
       have hput:=bl_put HJ.out.1 (k:=k) (by have:=HX.out.2.2;omega) true (Ux.Like.stepUp_star (eqv:=eqv) (x:=(yn:Int)) HX.out.2.1 HX.out.1)
       have HQ:=Lib.hid hput
       have hpg:gp≠qn:=by
        have h1:=HPL.out gp rfl
        have h2:=HT.out.size
        have h3:=H2.out.2.1.size
        have h4:=HW3.out.2
        have h5:=H6.out.2.2.1
        omega
       have p0':(wr.setCell ⟨qn,k,none⟩ (.bool true)).cell? ⟨gp,k*2,none⟩=some (.int .i64 2):=((Ux.Touch.refl (fun b=>b=qn) wr).setCell (p:=⟨qn,k,none⟩) (fun _=>rfl) (.bool true)).cell p0 hpg
       have HQ2:=Lib.hid (show Ux.Touch (fun b=>b=qn) wr (wr.setCell ⟨qn,k,none⟩ (.bool true)) from (Ux.Touch.refl (fun b=>b=qn) wr).setCell (p:=⟨qn,k,none⟩) (fun _=>rfl) _)
       clear hput c1 z1 p1 e2 hpg
       go_upto_region 15 with (fail)
       refine Ux.wpr (fun _ w'=>w'.cell? ⟨gp,k*2,none⟩=some (.int .i64 2)) (.q [0,1,2,3] (.h false [4] (.q [5,6,7,8,9,10] (.h false [11] (.q [12,13,15,16,17,18,20,21,22] (.h false [14,19,23] (.e 24 true false (.q [25,26] (.line []))))))))) ?_;repeat ((with_reducible refine Ux.qg ?_);refine Ux.qu ?_)
       go_wp2_with (fail)
       repeat ((with_reducible refine Ux.qg ?_);refine Ux.qu ?_)
       go_wp2_with (fail)
       go_roundg g2'
       case measure=>omega
       case rel=>exact ⟨k+1,by congr 1,by omega,Lib.hid ⟨HQ.out,HJ.out.2.1.touch (R:=fun b=>b=qn) HQ2.out.drew (fun b _ hb e=>by cases hb;have e:g=qn:=e;have:=H6.out.2.2.2.1;omega),HJ.out.2.2.trans (R:=fun _=>False) HQ2.out.drew fun b hb e=>by have h4:=HW3.out.2;have h5:=H6.out.2.2.1;omega⟩⟩
      ·have e2:kindI (-2)=1:=rfl
       rw [e2] at p0
       have hput:=bl_put HJ.out.1 (k:=k+1) (by have:=HX.out.2.2;omega) true (Ux.Like.stepUp_hit (eqv:=eqv) (x:=(yn:Int)) HX.out.2.1 HX.out.1 (by decide) (by unfold hit;simp))
       have HQ:=Lib.hid hput
       have HQ2:=Lib.hid (show Ux.Touch (fun b=>b=qn) wr (wr.setCell ⟨qn,k+1,none⟩ (.bool true)) from (Ux.Touch.refl (fun b=>b=qn) wr).setCell (p:=⟨qn,k+1,none⟩) (fun _=>rfl) _)
       clear hput c0 z0 p1 e2
       go_upto_region 15 with (fail)
       refine Ux.wpr (fun _ w'=>w'.cell? ⟨gp,k*2,none⟩=some (.int .i64 1)) (.q [0,1,2,3] (.h false [4] (.q [5,6,7,8,9,10] (.h false [11] (.q [12,13,15,16,17,18,20,21,22] (.h false [14,19,23] (.e 24 true false (.q [25,26] (.line []))))))))) ?_;repeat ((with_reducible refine Ux.qg ?_);refine Ux.qu ?_)
       go_wp2_with (fail)
       repeat ((with_reducible refine Ux.qg ?_);refine Ux.qu ?_)
       go_wp2_with (fail)
       go_roundg g2'
       case measure=>omega
       case rel=>exact ⟨k+1,by congr 1,by omega,Lib.hid ⟨HQ.out,HJ.out.2.1.touch (R:=fun b=>b=qn) HQ2.out.drew (fun b _ hb e=>by cases hb;have e:g=qn:=e;have:=H6.out.2.2.2.1;omega),HJ.out.2.2.trans (R:=fun _=>False) HQ2.out.drew fun b hb e=>by have h4:=HW3.out.2;have h5:=H6.out.2.2.1;omega⟩⟩
      ·obtain ⟨xn,rfl⟩: ∃xn:Nat,x=xn:=⟨x.toNat,by omega⟩
       have e2:kindI (xn:Int)=0:=by unfold kindI;rw [if_neg (by omega),if_neg (by omega)]
       have e3:valI (xn:Int)=xn:=by unfold valI;rw [if_neg (by omega)]
       rw [e2] at p0
       rw [e3] at p1
       have hxn:xn<1114368:=by omega
       have CA:=Lib.hid (HAL.out xn yn hxn H6.out.2.2.2.2.2 wr.drew ((HT.out.trans (H2.out.2.1.trans HJ.out.2.2 fun _ _ f=>f) fun _ _ f=>f).drew))
       have cl:=HCL.out wr HJ.out.2.2
       have HCX:=Lib.hid fun W (T:Ux.Touch (fun _=>False) wr W)=>And.intro (T.cell p0 (fun f=>f)) (And.intro (T.cell p1 (fun f=>f)) (And.intro (T.cell cl (fun f=>f)) (HC.out W (H2.out.2.1.trans (HJ.out.2.2.trans T fun _ _ f=>f) fun _ _ f=>f))))
       obtain ⟨c0',c1',c2',c3',c4'⟩:=HC.out wr (H2.out.2.1.trans HJ.out.2.2 fun _ _ f=>f)
       have HC1:=Lib.hid (And.intro c1 z1)
       clear c0 z0 c1 z1 e2 e3 hxb hxn
       cases hev:eqv xn yn with
       |true=>
        rw [hev] at CA
        have HEV:=Lib.hid hev
        clear hev
        go_upto_region 15 with (fail)
        refine Ux.wpr (fun _ w'=>w'.cell? ⟨gp,k*2,none⟩=some (.int .i64 0)∧w'.cell? ⟨gp,k*2+1,none⟩=some (.int .i64 (xn:Int))∧w'.cell? ⟨gl,i,none⟩=some (.int .i64 (yn:Int))∧w'.cell? ⟨B,0,none⟩=some (.int .i64 kd)∧w'.cell? ⟨B,1,none⟩=some (.int .i64 (LN:Nat))∧w'.cell? ⟨B,2,none⟩=some (.bool sh)∧w'.cell? ⟨B,3,none⟩=some (.bool bk)∧w'.cell? ⟨B,4,none⟩=some (.slice xa xm xc)) (.q [0,1,2,3] (.h false [4] (.q [5,6,7,8,9,10] (.h false [11] (.q [12,13,15,16,17,18,20,21,22] (.h false [14,19,23] (.e 24 true false (.q [25,26] (.line []))))))))) ?_;repeat ((with_reducible refine Ux.qg ?_);refine Ux.qu ?_)
        clear c0' c1' c2' c3' c4' p0 p1 cl b0
        go_wp2_with (go_at_call 80;fail)
        refine CA.out.mono ?_
        rintro e w7 ⟨rfl,T7⟩
        have T7':=Ux.Touch.of_drew T7
        have r7:=HJ.out.1.touch0 T7'
        obtain ⟨c1,z1⟩:=bl_at r7 (k:=k+1) (by have:=HX.out.2.2;omega)
        have hput:=bl_put r7 (k:=k+1) (by have:=HX.out.2.2;omega) true (Ux.Like.stepUp_hit (eqv:=eqv) (x:=(yn:Int)) HX.out.2.1 HX.out.1 (by omega) (by unfold hit;rw [HEV.out];simp))
        have S7:=HCX.out w7 T7'
        have HQ:=Lib.hid (And.intro hput (And.intro T7' ((Ux.Touch.refl (fun b=>b=qn) w7).setCell (p:=⟨qn,k+1,none⟩) (fun _=>rfl) (.bool true))))
        clear hput T7 T7' r7
        go_wp2_with (fail)
        refine ⟨S7,?_⟩
        clear S7
        repeat ((with_reducible refine Ux.qg ?_);refine Ux.qu ?_)
        go_wp2_with (fail)
        go_roundg g2'
        case measure=>omega
        case rel=>exact ⟨k+1,by congr 1,by omega,Lib.hid ⟨HQ.out.1,(HJ.out.2.1.touch0 HQ.out.2.1).touch (R:=fun b=>b=qn) HQ.out.2.2 (fun b _ hb e=>by cases hb;have e:g=qn:=e;have:=H6.out.2.2.2.1;omega),(HJ.out.2.2.trans HQ.out.2.1 fun _ _ f=>f).trans (R:=fun _=>False) HQ.out.2.2 fun b hb e=>by have h4:=HW3.out.2;have h5:=H6.out.2.2.1;omega⟩⟩
       |false=>
        rw [hev] at CA
        have HEV:=Lib.hid hev
        clear hev
        go_upto_region 15 with (fail)
        refine Ux.wpr (fun _ w'=>w'.cell? ⟨gp,k*2,none⟩=some (.int .i64 0)∧w'.cell? ⟨gp,k*2+1,none⟩=some (.int .i64 (xn:Int))∧w'.cell? ⟨gl,i,none⟩=some (.int .i64 (yn:Int))∧w'.cell? ⟨B,0,none⟩=some (.int .i64 kd)∧w'.cell? ⟨B,1,none⟩=some (.int .i64 (LN:Nat))∧w'.cell? ⟨B,2,none⟩=some (.bool sh)∧w'.cell? ⟨B,3,none⟩=some (.bool bk)∧w'.cell? ⟨B,4,none⟩=some (.slice xa xm xc)) (.q [0,1,2,3] (.h false [4] (.q [5,6,7,8,9,10] (.h false [11] (.q [12,13,15,16,17,18,20,21,22] (.h false [14,19,23] (.e 24 true false (.q [25,26] (.line []))))))))) ?_;repeat ((with_reducible refine Ux.qg ?_);refine Ux.qu ?_)
        clear c0' c1' c2' c3' c4' p0 p1 cl b0
        go_wp2_with (go_at_call 80;fail)
        refine CA.out.mono ?_
        rintro e w7 ⟨rfl,T7⟩
        have T7':=Ux.Touch.of_drew T7
        have r7:=HJ.out.1.touch0 T7'
        have S7:=HCX.out w7 T7'
        have HQ:=Lib.hid (And.intro r7 T7')
        clear T7 T7' r7
        go_wp2_with (fail)
        refine ⟨S7,?_⟩
        clear S7
        repeat ((with_reducible refine Ux.qg ?_);refine Ux.qu ?_)
        go_wp2_with (fail)
        go_roundg g2'
        case measure=>omega
        case rel=>exact ⟨k+1,by congr 1,by omega,Lib.hid ⟨by rw [←Ux.Like.bl_congr fun j _=>Ux.Like.stepUp_miss (eqv:=eqv) (f:=f) (x:=(yn:Int)) HX.out.1 (by omega) (by unfold hit;rw [HEV.out,decide_eq_false (by omega)];rfl) j];exact HQ.out.1,HJ.out.2.1.touch0 HQ.out.2,HJ.out.2.2.trans HQ.out.2 fun _ _ f=>f⟩⟩
    ·obtain rfl:k=n:=by omega
     have k1: ¬((k:Int)<k):=by omega
     have T8:=H2.out.2.1.trans HJ.out.2.2 fun _ _ f=>f
     have r8:=HJ.out.1
     rw [Ux.Like.bl_congr (g:=stepN eqv P f yn) fun j hj=>by rw [←HH.out.2.2.1] at hj⊢;exact Ux.Like.stepUp_end hj] at r8
     have HSP:=Lib.hid (spread_ qn k (k+1) qn lp P HH.out.2.2.1 HH.out.2.1 _ (.slice ap k cp) wr (HPT.out wr T8) r8 (fun b hb e=>by have h1:=HPL.out b hb;have h2:=HT.out.size;have h3:=H2.out.2.1.size;have h4:=HW3.out.2;have h5:=H6.out.2.2.1;omega))
     clear hkn T8 r8
     go_wp2_with (go_at_call 79;fail)
     refine HSP.out.mono ?_
     rintro e w8 ⟨rfl,r8,T8⟩
     have T28:Ux.Touch (fun _=>False) w2 w8:=HJ.out.2.2.trans (R:=fun _=>False) T8 fun b hb e=>by have h4:=HW3.out.2;have h5:=H6.out.2.2.1;omega
     have H8:=Lib.hid (And.intro (r8.mono H6.out.2.2.1) T28)
     clear r8 T8 T28 HSP
     go_wp2_with (fail)
     go_roundg g'
     case measure=>omega
     case rel=>
      refine ⟨i+1,qn,closeN P (stepN eqv P f yn),by congr 1,rfl,by omega,Lib.hid ⟨H6.out.2.2.1,H8.out.1,Ux.Like.closeN_closed _ _,?_,H8.out.2⟩⟩
      have h:=HI.out.2.2.2.1
      rw [drop_at H6.out.2.2.2.2.1] at h
      rw [Ux.Like.close_goes,Ux.Like.step_goes HI.out.2.2.1,h]
  ·obtain rfl:i=nl:=by omega
   have i1: ¬((i:Int)<i):=by omega
   have hrs:RES=f n:=by
    have h:=HI.out.2.2.2.1
    rw [←HH.out.2.2.2.2.1,List.drop_length,Ux.Like.end_goes HI.out.2.2.1,HH.out.2.2.1] at h
    rw [Bool.eq_iff_iff]
    exact h.symm
   obtain ⟨b0,_⟩:=bl_at HI.out.2.1 (k:=n) (Nat.le_refl _)
   rw [←hrs] at b0
   have n2:(n:Int)<(n:Int)+1:=by omega
   clear hlt hrs
   go_wp2_with (fail)
   go_returns
   exact ⟨rfl,HT.out.trans (H2.out.2.1.trans HI.out.2.2.2.2 fun _ _ f=>f) fun _ _ f=>f⟩
end Go.Proofs.YtikmdhhbamggfaaGreatDoor
namespace Go.Proofs.YtikmdhhbamggfaaGreatDoor
open Go.RowKit
open Ux (Row iv sv bv KGrow)
open Ux.Sign (signs)
open Ux.Like (pat elt kindI valI sgV)
theorem infoSg:(Tryz.prog.info? 128).map (fun i=>(i.zero,i.size,i.bytes))=some (some (.agg #[.int .i64 0,.int .i64 0]),2,16):=by kernel_rfl
theorem appSg {W:World} {lo:Nat} {a:Option Addr} {k c:Nat} {xs:List Value} (h:KGrow W lo 128 2 (.slice a k c) k xs) (hlo:lo≤W.heap.size) (hk:k≤1000000) (y z:Int):
 ∃r W' c',(∀ty,(Builtin.append_ #[55,55] ty #[.slice a k c,.slice (some ⟨W.heap.size,0,none⟩) 1 1]).run Tryz.prog (W.alloc (.cells #[.int .i64 y,.int .i64 z] 128))= .ok (.slice r (k+1:Nat) c') W')∧
  KGrow W' lo 128 2 (.slice r (k+1:Nat) c') (k+1) (xs++ [.int .i64 y,.int .i64 z])∧Ux.Touch (fun b=>lo≤b) W W':=by
 have hk1:KGrow (W.alloc (.cells #[.int .i64 y,.int .i64 z] 128)) lo 128 2 (.slice a k c) k xs:=h.touch0 ((Ux.Touch.refl _ W).alloc _)
 obtain ⟨r,W',h1,h2,h3⟩:=hk1.app 55 16 _ Tryz.underlying55 infoSg rfl (by omega) (.slice (some ⟨W.heap.size,0,none⟩) 1 1) 1 [.int .i64 y,.int .i64 z] (Ux.src_new Tryz.underlying55 W 2 1 _ rfl (by simp [Value.oneCell'])) (by rw [World.size_alloc];omega) (by simp only [maxLen];omega) (by omega)
 obtain ⟨ra,rc,rfl,_⟩:=h2.is
 exact ⟨ra,W',rc,h1,h2,((Ux.Touch.refl (fun b=>lo≤b) W).alloc _).trans h3 fun b _ hh=>hh.1⟩
def RPatV (w:World) (lo:Nat) (r:Option (List Int)) (code:Int) (x:Value):Prop:=match r with
 |some P=> ∃v,x= .tuple #[v,.int .i64 0]∧SigAt w lo v P
 |none=>x= .tuple #[.slice none 0 0,.int .i64 code]
def RPatSays (w:World) (lo:Nat) (n:Nat) (oe:Option Nat) (r:Option (List Int)) (x:Value):Prop:=if n≠0∧oe=none then RPatV w lo none 1 x else RPatV w lo r 3 x
theorem only_cases (l:List Nat) (oe:Option Nat) (h:onlyS l=oe):(oe=none∧l= [])∨(∃c,c<1114112∧oe=some c∧l= [c])∨(oe=none∧∃c,l= [c]∧1114112≤c)∨(oe=none∧1<l.length):=by
 match l,h with
 | [],h=>exact .inl ⟨h.symm,rfl⟩
 | [c],h=>
   unfold onlyS at h
   dsimp only at h
   by_cases hc:c<1114112
   ·rw [if_pos hc] at h;exact .inr (.inl ⟨c,hc,h.symm,rfl⟩)
   ·rw [if_neg hc] at h;exact .inr (.inr (.inl ⟨h.symm,c,rfl,by omega⟩))
 |c::d::l,h=>exact .inr (.inr (.inr ⟨h.symm,by simp⟩))
theorem rpat_nil {s:ByteArray} (h:signs s.data.toList= []):s.size=0:=by
 have:=Ux.Sign.put_signs s.data.toList
 rw [h] at this
 have e:s.data.toList.length=s.size:=by simp
 rw [←e,←this]
 rfl
set_option maxHeartbeats 16000000 in
set_option maxRecDepth 100000 in
theorem rpat_ (p:ByteArray) (esc:ByteArray) (w:World) (hp:p.size≤1000000) (he:esc.size≤1000000) (oe:Option Nat) (hoe:only esc.data.toList=oe) (r:Option (List Int)) (hr:pat oe (signs p.data.toList)=r):
 Calls Tryz.prog 33 #[.string p,.string esc] w fun e w'=> ∃x,e= .returned x∧RPatSays w' w.heap.size esc.size oe r x∧Ux.Touch (fun _=>False) w w':=by
 have CE:=Lib.hid fun w'=>rsigns_ esc w' (by omega)
 have CS:=Lib.hid fun w'=>rsigns_ p w' (by omega)
 obtain ⟨l,hl⟩: ∃l,signs p.data.toList=l:=⟨_,rfl⟩
 have hlen:l.length≤1000000:=by rw [←hl];have:=signs_len p.data.toList;have e:p.data.toList.length=p.size:=by simp
                                omega
 rw [hl] at CS hr
 obtain ⟨le,hle⟩: ∃l,signs esc.data.toList=l:=⟨_,rfl⟩
 have hlel:le.length≤1000000:=by rw [←hle];have:=signs_len esc.data.toList;have e:esc.data.toList.length=esc.size:=by simp
                                 omega
 have hec:=only_cases le oe (by rw [←hle];exact hoe)
 have hz:=fun h=>rpat_nil (s:=esc) (by rw [hle];exact h)
 have hnz:le≠[]→esc.size≠0:=fun h h0=>h (by
  rw [←hle]
  have e:esc.data.toList= []:=List.eq_nil_of_length_eq_zero (by have e:esc.data.toList.length=esc.size:=by simp
                                                                omega)
  rw [e]
  unfold signs
  rfl)
 rw [hle] at CE
 obtain ⟨ne,hne⟩: ∃n,le.length=n:=⟨_,rfl⟩
 obtain ⟨zs,hzs⟩: ∃n,esc.size=n:=⟨_,rfl⟩
 rw [hzs] at hz hnz⊢
 have HL:=Lib.hid (And.intro hr (And.intro hlen (And.intro hz (And.intro hnz hne))))
 have ne1:(ne:Int)≤1000000:=by omega
 clear hp he hr hl hlen hoe hle hlel hz hnz hzs
 go_enter Tryz.func33,Tryz.ntmps33
 go_wp2_with (go_at_call 73;fail)
 refine (CE.out w).mono ?_
 rintro e w1 ⟨ve,rfl,hre,T1⟩
 obtain ⟨ae,ce,rfl,_⟩:=hre.is
 rw [Ux.iv_length,Ux.sv_length,HL.out.2.2.2.2] at hre⊢
 have H1:=Lib.hid (And.intro (hre.mono (Nat.zero_le _)) T1)
 clear hre T1
 rcases hec with ⟨ho,hl0⟩|⟨c,hc,ho,hl1⟩|⟨ho,c,hl1,hc⟩|⟨ho,hl2⟩
 rotate_left 2
 ·have hn1:ne=1:=by rw [←HL.out.2.2.2.2,hl1];rfl
  obtain ⟨ge,rfl,_,c0⟩:=H1.out.1.at (j:=0) (u:= .int .i64 (c:Int)) (by rw [hl1];rfl)
  subst hn1
  have c1:(c:Int)>1114111:=by omega
  have HN:=Lib.hid (show zs≠0∧oe=none from ⟨HL.out.2.2.2.1 (by rw [hl1];simp),ho⟩)
  clear hl1 hc ho
  go_wp2
  go_returns
  refine ⟨_,rfl,?_,H1.out.2⟩
  unfold RPatSays
  rw [if_pos HN.out]
  rfl
 ·have hn1:(ne:Int)>1:=by rw [←HL.out.2.2.2.2];omega
  have HN:=Lib.hid (show zs≠0∧oe=none from ⟨HL.out.2.2.2.1 (by intro h;rw [h] at hl2;simp at hl2),ho⟩)
  clear hl2 ho
  go_wp2
  go_returns
  refine ⟨_,rfl,?_,H1.out.2⟩
  unfold RPatSays
  rw [if_pos HN.out]
  rfl
 ·have HN:Hid (∀w' lo x,RPatSays w' lo zs oe r x=RPatV w' lo r 3 x):=Lib.hid fun _ _ _=>if_neg fun h=>h.1 (HL.out.2.2.1 hl0)
  have hn0:ne=0:=by rw [←HL.out.2.2.2.2,hl0];rfl
  subst hn0
  have HO:=Lib.hid ho
  clear hl0 ho
  go_wp2_with (go_at_call 73;fail)
  refine (CS.out w1).mono ?_
  rintro e w2 ⟨sv2,rfl,hR2,T2⟩
  obtain ⟨al,cl,rfl,_⟩:=hR2.is
  obtain ⟨n,hn⟩: ∃n,l.length=n:=⟨_,rfl⟩
  rw [Ux.iv_length,Ux.sv_length,hn] at hR2⊢
  have g1:(n:Int)≤1000000:=by have:=HL.out.2.1;omega
  have H2:=Lib.hid (And.intro (hR2.mono (Nat.zero_le _)) (And.intro T2 hn))
  clear hR2 T2 hn
  go_wp2_with (fail)
  go_loopg [8,9] n (fun g s8 s9 wr=> ∃(i:Nat) (acc:List Int),s9= .int .i64 i∧i≤n∧n≤i+g∧Hid (((pat oe (l.drop i)).map (acc++ ·))=r∧KGrow wr w2.heap.size 128 2 s8 acc.length (sgV acc)∧Ux.Touch (fun _=>False) w2 wr∧acc.length≤i))
  case atStart=>
   exact ⟨0,[],rfl,by omega,by omega,Lib.hid ⟨by rw [List.drop_zero,HL.out.1];cases r<;>rfl,Ux.KGrow.nil _ _ _ _,Ux.Touch.refl _ _,Nat.le_refl _⟩⟩
  case round=>
   obtain ⟨i,acc,rfl,hin,hig,HI⟩:=hrel
   have p0:(0:Int)≤i:=by omega
   by_cases hlt:i<n
   ·obtain ⟨g',rfl⟩: ∃g',gk=g'+1:=⟨gk-1,by omega⟩
    have j1:(i:Int)<n:=by omega
    obtain ⟨d,hd⟩: ∃d,l[i]? =some d:=⟨l[i]'(by have:=H2.out.2.2;omega),List.getElem?_eq_getElem _⟩
    obtain ⟨gl,rfl,_,cl0⟩:=H2.out.1.at (Ux.iv_get (Ux.sv_get hd))
    have hRR:=HI.out.1
    rw [Ux.drop_get hd,Ux.Like.pat_cons] at hRR
    have cl1:wr.cell? ⟨gl,i,none⟩=some (.int .i64 (d:Int)):=HI.out.2.2.1.cell cl0 (fun f=>f)
    ·rw [if_neg (by rw [HO.out];simp)] at hRR
     have HRR:=Lib.hid hRR
     clear hRR hd cl0
     by_cases h37:(d:Int)=37
     ·have q37:((d:Int)==37)=true:=by simpa using h37
      have hel:elt d= -1:=by rw [eltI,if_pos h37]
      go_upto_region 10 with (fail)
      refine Ux.wpr (fun _ w'=>w'.cell? ⟨gl,i,none⟩=some (.int .i64 (d:Int))) (.q [0,1,2,3,4,5,6,8,9] (.h false [7,10] (.q [11,12,13] (.line [])))) ?_;repeat ((with_reducible refine Ux.qg ?_);refine Ux.qu ?_)
      have HE:=Lib.hid hel
      clear hel h37
      obtain ⟨a,cc,rfl,_⟩:=Ux.KGrow.is HI.out.2.1
      obtain ⟨m,hm⟩: ∃m,acc.length=m:=⟨_,rfl⟩
      have hG:=HI.out.2.1
      rw [hm] at hG
      obtain ⟨r2,w4,c4,run2,hG2,t2⟩:=appSg (W:=wr.drew) (hG.touch0 (Ux.Touch.refl _ _).drew) (by show w2.heap.size≤wr.heap.size;have:=HI.out.2.2.1.size;omega) (by have:=HI.out.2.2.2;have:=H2.out.2.2;have:=HL.out.2.1;omega) 2 0
      have R2:=Lib.hid run2
      have HG2:=Lib.hid (And.intro hG2 (show Ux.Touch (fun _=>False) w2 w4 from HI.out.2.2.1.drew.trans (R:=fun _=>False) t2 fun b hb e=>by have e:w2.heap.size≤b:=e;omega))
      have HM:=Lib.hid hm
      clear run2 hG2 t2 hG
      rw [hm]
      clear hm
      go_wp2_with (at_builtin;refine Ux.wpList_app (v1:= .slice a m cc) (x1:= .slice (some ⟨wr.heap.size,0,none⟩) 1 1) rfl _ _ _ _ rfl rfl rfl (R2.out _) ?_)
      go_roundg g'
      case measure=>omega
      case rel=>
       refine ⟨i+1,acc++ [(-1:Int)],by congr 1,by omega,by omega,Lib.hid ⟨by rw [←HRR.out];cases pat oe (l.drop (i+1))<;>simp [HE.out],?_,HG2.out.2,by rw [List.length_append];have:=HI.out.2.2.2;simp;omega⟩⟩
       rw [List.length_append,HM.out,Ux.Like.sgV_snoc]
       have h:=HG2.out.1
       rw [show Ux.Like.kindI (-1:Int)=2 from by unfold Ux.Like.kindI;first|rfl|(rw [if_neg (by omega),if_neg (by omega)]),show Ux.Like.valI (-1:Int)=0 from by unfold Ux.Like.valI;first|rfl|(rw [if_neg (by omega)])]
       exact h
     ·have q37:((d:Int)==37)=false:=by simpa using h37
      by_cases h95:(d:Int)=95
      ·have q95:((d:Int)==95)=true:=by simpa using h95
       have hel:elt d= -2:=by rw [eltI,if_neg h37,if_pos h95]
       go_upto_region 10 with (fail)
       refine Ux.wpr (fun _ w'=>w'.cell? ⟨gl,i,none⟩=some (.int .i64 (d:Int))) (.q [0,1,2,3,4,5,6,8,9] (.h false [7,10] (.q [11,12,13] (.line [])))) ?_;repeat ((with_reducible refine Ux.qg ?_);refine Ux.qu ?_)
       have HE:=Lib.hid hel
       clear hel h37 h95
       obtain ⟨a,cc,rfl,_⟩:=Ux.KGrow.is HI.out.2.1
       obtain ⟨m,hm⟩: ∃m,acc.length=m:=⟨_,rfl⟩
       have hG:=HI.out.2.1
       rw [hm] at hG
       obtain ⟨r2,w4,c4,run2,hG2,t2⟩:=appSg (W:=wr.drew) (hG.touch0 (Ux.Touch.refl _ _).drew) (by show w2.heap.size≤wr.heap.size;have:=HI.out.2.2.1.size;omega) (by have:=HI.out.2.2.2;have:=H2.out.2.2;have:=HL.out.2.1;omega) 1 0
       have R2:=Lib.hid run2
       have HG2:=Lib.hid (And.intro hG2 (show Ux.Touch (fun _=>False) w2 w4 from HI.out.2.2.1.drew.trans (R:=fun _=>False) t2 fun b hb e=>by have e:w2.heap.size≤b:=e;omega))
       have HM:=Lib.hid hm
       clear run2 hG2 t2 hG
       rw [hm]
       clear hm
       go_wp2_with (at_builtin;refine Ux.wpList_app (v1:= .slice a m cc) (x1:= .slice (some ⟨wr.heap.size,0,none⟩) 1 1) rfl _ _ _ _ rfl rfl rfl (R2.out _) ?_)
       go_roundg g'
       case measure=>omega
       case rel=>
        refine ⟨i+1,acc++ [(-2:Int)],by congr 1,by omega,by omega,Lib.hid ⟨by rw [←HRR.out];cases pat oe (l.drop (i+1))<;>simp [HE.out],?_,HG2.out.2,by rw [List.length_append];have:=HI.out.2.2.2;simp;omega⟩⟩
        rw [List.length_append,HM.out,Ux.Like.sgV_snoc]
        have h:=HG2.out.1
        rw [show Ux.Like.kindI (-2:Int)=1 from by unfold Ux.Like.kindI;first|rfl|(rw [if_neg (by omega),if_neg (by omega)]),show Ux.Like.valI (-2:Int)=0 from by unfold Ux.Like.valI;first|rfl|(rw [if_neg (by omega)])]
        exact h
      ·have q95:((d:Int)==95)=false:=by simpa using h95
       have hel:elt d=(d:Int):=by rw [eltI,if_neg h37,if_neg h95]
       go_upto_region 10 with (fail)
       refine Ux.wpr (fun _ w'=>w'.cell? ⟨gl,i,none⟩=some (.int .i64 (d:Int))) (.q [0,1,2,3,4,5,6,8,9] (.h false [7,10] (.q [11,12,13] (.line [])))) ?_;repeat ((with_reducible refine Ux.qg ?_);refine Ux.qu ?_)
       have HE:=Lib.hid hel
       clear hel h37 h95
       obtain ⟨a,cc,rfl,_⟩:=Ux.KGrow.is HI.out.2.1
       obtain ⟨m,hm⟩: ∃m,acc.length=m:=⟨_,rfl⟩
       have hG:=HI.out.2.1
       rw [hm] at hG
       obtain ⟨r2,w4,c4,run2,hG2,t2⟩:=appSg (W:=wr.drew) (hG.touch0 (Ux.Touch.refl _ _).drew) (by show w2.heap.size≤wr.heap.size;have:=HI.out.2.2.1.size;omega) (by have:=HI.out.2.2.2;have:=H2.out.2.2;have:=HL.out.2.1;omega) 0 (d:Int)
       have R2:=Lib.hid run2
       have HG2:=Lib.hid (And.intro hG2 (show Ux.Touch (fun _=>False) w2 w4 from HI.out.2.2.1.drew.trans (R:=fun _=>False) t2 fun b hb e=>by have e:w2.heap.size≤b:=e;omega))
       have HM:=Lib.hid hm
       clear run2 hG2 t2 hG
       rw [hm]
       clear hm
       go_wp2_with (at_builtin;refine Ux.wpList_app (v1:= .slice a m cc) (x1:= .slice (some ⟨wr.heap.size,0,none⟩) 1 1) rfl _ _ _ _ rfl rfl rfl (R2.out _) ?_)
       go_roundg g'
       case measure=>omega
       case rel=>
        refine ⟨i+1,acc++ [(d:Int)],by congr 1,by omega,by omega,Lib.hid ⟨by rw [←HRR.out];cases pat oe (l.drop (i+1))<;>simp [HE.out],?_,HG2.out.2,by rw [List.length_append];have:=HI.out.2.2.2;simp;omega⟩⟩
        rw [List.length_append,HM.out,Ux.Like.sgV_snoc]
        have h:=HG2.out.1
        rw [show Ux.Like.kindI (d:Int)=0 from by unfold Ux.Like.kindI;first|rfl|(rw [if_neg (by omega),if_neg (by omega)]),show Ux.Like.valI (d:Int)=(d:Int) from by unfold Ux.Like.valI;first|rfl|(rw [if_neg (by omega)])]
        exact h
   ·obtain rfl:i=n:=by omega
    have j1: ¬((i:Int)<i):=by omega
    have hRR:=HI.out.1
    rw [List.drop_eq_nil_of_le (by have:=H2.out.2.2;omega)] at hRR
    have HRR:=Lib.hid (show some (acc++ [])=r from hRR)
    clear hRR hlt
    obtain ⟨a,cc,rfl,_⟩:=Ux.KGrow.is HI.out.2.1
    obtain ⟨m,hm⟩: ∃m,acc.length=m:=⟨_,rfl⟩
    have HM:=Lib.hid hm
    rw [hm]
    clear hm
    go_wp2
    go_returns
    refine ⟨_,rfl,?_,H1.out.2.trans (H2.out.2.1.trans HI.out.2.2.1 fun _ _ f=>f) fun _ _ f=>f⟩
    rw [HN.out,←HRR.out,List.append_nil]
    have hG:=HI.out.2.1
    rw [HM.out] at hG
    have hsz:w.heap.size≤w2.heap.size:=by have h1:=H1.out.2.size;have h2:=H2.out.2.1.size;omega
    refine ⟨_,rfl,?_⟩
    unfold SigAt
    rw [HM.out]
    exact hG.mono hsz
 ·have HN:Hid (∀w' lo x,RPatSays w' lo zs oe r x=RPatV w' lo r 3 x):=Lib.hid fun _ _ _=>if_neg fun h=>by rw [ho] at h;cases h.2
  have hn1:ne=1:=by rw [←HL.out.2.2.2.2,hl1];rfl
  obtain ⟨ge,rfl,_,ce0⟩:=H1.out.1.at (j:=0) (u:= .int .i64 (c:Int)) (by rw [hl1];rfl)
  subst hn1
  have c1: ¬((c:Int)>1114111):=by omega
  have HC:=Lib.hid fun W (T:Ux.Touch (fun _=>False) w1 W)=>T.cell ce0 (fun f=>f)
  have HO:=Lib.hid ho
  clear hl1 ho
  go_wp2_with (go_at_call 73;fail)
  refine (CS.out w1).mono ?_
  rintro e w2 ⟨sv2,rfl,hR2,T2⟩
  obtain ⟨al,cl,rfl,_⟩:=hR2.is
  obtain ⟨n,hn⟩: ∃n,l.length=n:=⟨_,rfl⟩
  rw [Ux.iv_length,Ux.sv_length,hn] at hR2⊢
  have g1:(n:Int)≤1000000:=by have:=HL.out.2.1;omega
  have H2:=Lib.hid (And.intro (hR2.mono (Nat.zero_le _)) (And.intro T2 hn))
  clear hR2 T2 hn ce0
  go_wp2_with (fail)
  go_loopg [8,9] n (fun g s8 s9 wr=> ∃(i:Nat) (acc:List Int),s9= .int .i64 i∧i≤n∧n≤i+g∧Hid (((pat oe (l.drop i)).map (acc++ ·))=r∧KGrow wr w2.heap.size 128 2 s8 acc.length (sgV acc)∧Ux.Touch (fun _=>False) w2 wr∧acc.length≤i))
  case atStart=>
   exact ⟨0,[],rfl,by omega,by omega,Lib.hid ⟨by rw [List.drop_zero,HL.out.1];cases r<;>rfl,Ux.KGrow.nil _ _ _ _,Ux.Touch.refl _ _,Nat.le_refl _⟩⟩
  case round=>
   obtain ⟨i,acc,rfl,hin,hig,HI⟩:=hrel
   have p0:(0:Int)≤i:=by omega
   by_cases hlt:i<n
   ·obtain ⟨g',rfl⟩: ∃g',gk=g'+1:=⟨gk-1,by omega⟩
    have j1:(i:Int)<n:=by omega
    obtain ⟨d,hd⟩: ∃d,l[i]? =some d:=⟨l[i]'(by have:=H2.out.2.2;omega),List.getElem?_eq_getElem _⟩
    obtain ⟨gl,rfl,_,cl0⟩:=H2.out.1.at (Ux.iv_get (Ux.sv_get hd))
    have hRR:=HI.out.1
    rw [Ux.drop_get hd,Ux.Like.pat_cons] at hRR
    have cl1:wr.cell? ⟨gl,i,none⟩=some (.int .i64 (d:Int)):=HI.out.2.2.1.cell cl0 (fun f=>f)
    have ce1:wr.cell? ⟨ge,0,none⟩=some (.int .i64 (c:Int)):=HC.out wr (H2.out.2.1.trans HI.out.2.2.1 fun _ _ f=>f)
    by_cases hesc:d=c
    ·subst hesc
     rw [if_pos HO.out] at hRR
     by_cases hend:i+1=n
     ·have z1:((i:Int)+1==n)=true:=by simp;omega
      have hnil:l.drop (i+1)= []:=List.drop_eq_nil_of_le (by have:=H2.out.2.2;omega)
      rw [hnil] at hRR
      have HRR:=Lib.hid (show none=r from hRR)
      clear hRR hnil hd cl0
      go_upto_region 10 with (fail)
      refine Ux.wpr (fun _ w'=>w'.cell? ⟨gl,i,none⟩=some (.int .i64 (d:Int))∧w'.cell? ⟨ge,0,none⟩=some (.int .i64 (d:Int))) (.q [0,1,2,3,4,5,6,8,9] (.h false [7,10] (.q [11,12,13] (.line [])))) ?_;repeat ((with_reducible refine Ux.qg ?_);refine Ux.qu ?_)
      go_wp2
      go_returns
      refine ⟨_,rfl,?_,H1.out.2.trans (H2.out.2.1.trans HI.out.2.2.1.drew fun _ _ f=>f) fun _ _ f=>f⟩
      rw [HN.out,←HRR.out]
      rfl
     ·have z1:((i:Int)+1==n)=false:=by simp;omega
      have j2:(i:Int)+1<n:=by omega
      obtain ⟨d2,hd2⟩: ∃d,l[i+1]? =some d:=⟨l[i+1]'(by have:=H2.out.2.2;omega),List.getElem?_eq_getElem _⟩
      obtain ⟨gl2,hgl2,_,cl2⟩:=H2.out.1.at (Ux.iv_get (Ux.sv_get hd2))
      cases hgl2
      have cl3:wr.cell? ⟨gl,i+1,none⟩=some (.int .i64 (d2:Int)):=HI.out.2.2.1.cell cl2 (fun f=>f)
      rw [Ux.drop_get hd2] at hRR
      have HRR:=Lib.hid hRR
      clear hRR hd cl0 cl2 hd2
      go_upto_region 10 with (fail)
      refine Ux.wpr (fun _ w'=>w'.cell? ⟨gl,i,none⟩=some (.int .i64 (d:Int))∧w'.cell? ⟨ge,0,none⟩=some (.int .i64 (d:Int))) (.q [0,1,2,3,4,5,6,8,9] (.h false [7,10] (.q [11,12,13] (.line [])))) ?_;repeat ((with_reducible refine Ux.qg ?_);refine Ux.qu ?_)
      obtain ⟨a,cc,rfl,_⟩:=Ux.KGrow.is HI.out.2.1
      obtain ⟨m,hm⟩: ∃m,acc.length=m:=⟨_,rfl⟩
      have hG:=HI.out.2.1
      rw [hm] at hG
      obtain ⟨r2,w4,c4,run2,hG2,t2⟩:=appSg (W:=wr.drew) (hG.touch0 (Ux.Touch.refl _ _).drew) (by show w2.heap.size≤wr.heap.size;have:=HI.out.2.2.1.size;omega) (by have:=HI.out.2.2.2;have:=H2.out.2.2;have:=HL.out.2.1;omega) 0 (d2:Int)
      have R2:=Lib.hid run2
      have HG2:=Lib.hid (And.intro hG2 (show Ux.Touch (fun _=>False) w2 w4 from HI.out.2.2.1.drew.trans (R:=fun _=>False) t2 fun b hb e=>by have e:w2.heap.size≤b:=e;omega))
      have HM:=Lib.hid hm
      clear run2 hG2 t2 hG
      rw [hm]
      clear hm
      go_wp2_with (at_builtin;refine Ux.wpList_app (v1:= .slice a m cc) (x1:= .slice (some ⟨wr.heap.size,0,none⟩) 1 1) rfl _ _ _ _ rfl rfl rfl (R2.out _) ?_)
      go_roundg g'
      case measure=>omega
      case rel=>
       refine ⟨i+1+1,acc++ [(d2:Int)],rfl,by omega,by omega,Lib.hid ⟨by rw [←HRR.out];cases pat oe (l.drop (i+1+1))<;>simp,?_,HG2.out.2,by rw [List.length_append];have:=HI.out.2.2.2;simp;omega⟩⟩
       rw [List.length_append,HM.out,Ux.Like.sgV_snoc]
       have h:=HG2.out.1
       rw [show Ux.Like.kindI (d2:Int)=0 from by unfold Ux.Like.kindI;first|rfl|(rw [if_neg (by omega),if_neg (by omega)]),show Ux.Like.valI (d2:Int)=(d2:Int) from by unfold Ux.Like.valI;first|rfl|(rw [if_neg (by omega)])]
       exact h
    ·have he1:((d:Int)==(c:Int))=false:=beq_false_of_ne (by omega)
     rw [if_neg (by rw [HO.out];intro h;exact hesc (Option.some.inj h).symm)] at hRR
     clear hesc
     have HRR:=Lib.hid hRR
     clear hRR hd cl0
     by_cases h37:(d:Int)=37
     ·have q37:((d:Int)==37)=true:=by simpa using h37
      have hel:elt d= -1:=by rw [eltI,if_pos h37]
      go_upto_region 10 with (fail)
      refine Ux.wpr (fun _ w'=>w'.cell? ⟨gl,i,none⟩=some (.int .i64 (d:Int))∧w'.cell? ⟨ge,0,none⟩=some (.int .i64 (c:Int))) (.q [0,1,2,3,4,5,6,8,9] (.h false [7,10] (.q [11,12,13] (.line [])))) ?_;repeat ((with_reducible refine Ux.qg ?_);refine Ux.qu ?_)
      have HE:=Lib.hid hel
      clear hel h37
      obtain ⟨a,cc,rfl,_⟩:=Ux.KGrow.is HI.out.2.1
      obtain ⟨m,hm⟩: ∃m,acc.length=m:=⟨_,rfl⟩
      have hG:=HI.out.2.1
      rw [hm] at hG
      obtain ⟨r2,w4,c4,run2,hG2,t2⟩:=appSg (W:=wr.drew) (hG.touch0 (Ux.Touch.refl _ _).drew) (by show w2.heap.size≤wr.heap.size;have:=HI.out.2.2.1.size;omega) (by have:=HI.out.2.2.2;have:=H2.out.2.2;have:=HL.out.2.1;omega) 2 0
      have R2:=Lib.hid run2
      have HG2:=Lib.hid (And.intro hG2 (show Ux.Touch (fun _=>False) w2 w4 from HI.out.2.2.1.drew.trans (R:=fun _=>False) t2 fun b hb e=>by have e:w2.heap.size≤b:=e;omega))
      have HM:=Lib.hid hm
      clear run2 hG2 t2 hG
      rw [hm]
      clear hm
      go_wp2_with (at_builtin;refine Ux.wpList_app (v1:= .slice a m cc) (x1:= .slice (some ⟨wr.heap.size,0,none⟩) 1 1) rfl _ _ _ _ rfl rfl rfl (R2.out _) ?_)
      go_roundg g'
      case measure=>omega
      case rel=>
       refine ⟨i+1,acc++ [(-1:Int)],by congr 1,by omega,by omega,Lib.hid ⟨by rw [←HRR.out];cases pat oe (l.drop (i+1))<;>simp [HE.out],?_,HG2.out.2,by rw [List.length_append];have:=HI.out.2.2.2;simp;omega⟩⟩
       rw [List.length_append,HM.out,Ux.Like.sgV_snoc]
       have h:=HG2.out.1
       rw [show Ux.Like.kindI (-1:Int)=2 from by unfold Ux.Like.kindI;first|rfl|(rw [if_neg (by omega),if_neg (by omega)]),show Ux.Like.valI (-1:Int)=0 from by unfold Ux.Like.valI;first|rfl|(rw [if_neg (by omega)])]
       exact h
     ·have q37:((d:Int)==37)=false:=by simpa using h37
      by_cases h95:(d:Int)=95
      ·have q95:((d:Int)==95)=true:=by simpa using h95
       have hel:elt d= -2:=by rw [eltI,if_neg h37,if_pos h95]
       go_upto_region 10 with (fail)
       refine Ux.wpr (fun _ w'=>w'.cell? ⟨gl,i,none⟩=some (.int .i64 (d:Int))∧w'.cell? ⟨ge,0,none⟩=some (.int .i64 (c:Int))) (.q [0,1,2,3,4,5,6,8,9] (.h false [7,10] (.q [11,12,13] (.line [])))) ?_;repeat ((with_reducible refine Ux.qg ?_);refine Ux.qu ?_)
       have HE:=Lib.hid hel
       clear hel h37 h95
       obtain ⟨a,cc,rfl,_⟩:=Ux.KGrow.is HI.out.2.1
       obtain ⟨m,hm⟩: ∃m,acc.length=m:=⟨_,rfl⟩
       have hG:=HI.out.2.1
       rw [hm] at hG
       obtain ⟨r2,w4,c4,run2,hG2,t2⟩:=appSg (W:=wr.drew) (hG.touch0 (Ux.Touch.refl _ _).drew) (by show w2.heap.size≤wr.heap.size;have:=HI.out.2.2.1.size;omega) (by have:=HI.out.2.2.2;have:=H2.out.2.2;have:=HL.out.2.1;omega) 1 0
       have R2:=Lib.hid run2
       have HG2:=Lib.hid (And.intro hG2 (show Ux.Touch (fun _=>False) w2 w4 from HI.out.2.2.1.drew.trans (R:=fun _=>False) t2 fun b hb e=>by have e:w2.heap.size≤b:=e;omega))
       have HM:=Lib.hid hm
       clear run2 hG2 t2 hG
       rw [hm]
       clear hm
       go_wp2_with (at_builtin;refine Ux.wpList_app (v1:= .slice a m cc) (x1:= .slice (some ⟨wr.heap.size,0,none⟩) 1 1) rfl _ _ _ _ rfl rfl rfl (R2.out _) ?_)
       go_roundg g'
       case measure=>omega
       case rel=>
        refine ⟨i+1,acc++ [(-2:Int)],by congr 1,by omega,by omega,Lib.hid ⟨by rw [←HRR.out];cases pat oe (l.drop (i+1))<;>simp [HE.out],?_,HG2.out.2,by rw [List.length_append];have:=HI.out.2.2.2;simp;omega⟩⟩
        rw [List.length_append,HM.out,Ux.Like.sgV_snoc]
        have h:=HG2.out.1
        rw [show Ux.Like.kindI (-2:Int)=1 from by unfold Ux.Like.kindI;first|rfl|(rw [if_neg (by omega),if_neg (by omega)]),show Ux.Like.valI (-2:Int)=0 from by unfold Ux.Like.valI;first|rfl|(rw [if_neg (by omega)])]
        exact h
      ·have q95:((d:Int)==95)=false:=by simpa using h95
       have hel:elt d=(d:Int):=by rw [eltI,if_neg h37,if_neg h95]
       go_upto_region 10 with (fail)
       refine Ux.wpr (fun _ w'=>w'.cell? ⟨gl,i,none⟩=some (.int .i64 (d:Int))∧w'.cell? ⟨ge,0,none⟩=some (.int .i64 (c:Int))) (.q [0,1,2,3,4,5,6,8,9] (.h false [7,10] (.q [11,12,13] (.line [])))) ?_;repeat ((with_reducible refine Ux.qg ?_);refine Ux.qu ?_)
       have HE:=Lib.hid hel
       clear hel h37 h95
       obtain ⟨a,cc,rfl,_⟩:=Ux.KGrow.is HI.out.2.1
       obtain ⟨m,hm⟩: ∃m,acc.length=m:=⟨_,rfl⟩
       have hG:=HI.out.2.1
       rw [hm] at hG
       obtain ⟨r2,w4,c4,run2,hG2,t2⟩:=appSg (W:=wr.drew) (hG.touch0 (Ux.Touch.refl _ _).drew) (by show w2.heap.size≤wr.heap.size;have:=HI.out.2.2.1.size;omega) (by have:=HI.out.2.2.2;have:=H2.out.2.2;have:=HL.out.2.1;omega) 0 (d:Int)
       have R2:=Lib.hid run2
       have HG2:=Lib.hid (And.intro hG2 (show Ux.Touch (fun _=>False) w2 w4 from HI.out.2.2.1.drew.trans (R:=fun _=>False) t2 fun b hb e=>by have e:w2.heap.size≤b:=e;omega))
       have HM:=Lib.hid hm
       clear run2 hG2 t2 hG
       rw [hm]
       clear hm
       go_wp2_with (at_builtin;refine Ux.wpList_app (v1:= .slice a m cc) (x1:= .slice (some ⟨wr.heap.size,0,none⟩) 1 1) rfl _ _ _ _ rfl rfl rfl (R2.out _) ?_)
       go_roundg g'
       case measure=>omega
       case rel=>
        refine ⟨i+1,acc++ [(d:Int)],by congr 1,by omega,by omega,Lib.hid ⟨by rw [←HRR.out];cases pat oe (l.drop (i+1))<;>simp [HE.out],?_,HG2.out.2,by rw [List.length_append];have:=HI.out.2.2.2;simp;omega⟩⟩
        rw [List.length_append,HM.out,Ux.Like.sgV_snoc]
        have h:=HG2.out.1
        rw [show Ux.Like.kindI (d:Int)=0 from by unfold Ux.Like.kindI;first|rfl|(rw [if_neg (by omega),if_neg (by omega)]),show Ux.Like.valI (d:Int)=(d:Int) from by unfold Ux.Like.valI;first|rfl|(rw [if_neg (by omega)])]
        exact h
   ·obtain rfl:i=n:=by omega
    have j1: ¬((i:Int)<i):=by omega
    have hRR:=HI.out.1
    rw [List.drop_eq_nil_of_le (by have:=H2.out.2.2;omega)] at hRR
    have HRR:=Lib.hid (show some (acc++ [])=r from hRR)
    clear hRR hlt
    obtain ⟨a,cc,rfl,_⟩:=Ux.KGrow.is HI.out.2.1
    obtain ⟨m,hm⟩: ∃m,acc.length=m:=⟨_,rfl⟩
    have HM:=Lib.hid hm
    rw [hm]
    clear hm
    go_wp2
    go_returns
    refine ⟨_,rfl,?_,H1.out.2.trans (H2.out.2.1.trans HI.out.2.2.1 fun _ _ f=>f) fun _ _ f=>f⟩
    rw [HN.out,←HRR.out,List.append_nil]
    have hG:=HI.out.2.1
    rw [HM.out] at hG
    have hsz:w.heap.size≤w2.heap.size:=by have h1:=H1.out.2.size;have h2:=H2.out.2.1.size;omega
    refine ⟨_,rfl,?_⟩
    unfold SigAt
    rw [HM.out]
    exact hG.mono hsz
end Go.Proofs.YtikmdhhbamggfaaGreatDoor
namespace Go.Proofs.YtikmdhhbamggfaaGreatDoor
open Go.RowKit
open Ux (Row iv sv bv KGrow)
open Ux.Sign (signs put enc)
open Ux.Like (pat elt kindI valI sgV)
theorem pre_split: ∀(P:List Int),(∀c∈P,c= -1∨c= -2∨(0≤c∧c<1114368))→∃(l:List Nat) (r:List Int),P=sv l++r∧(r= []∨∃x r',r=x::r'∧x<0)∧∀c∈l,c<1114368
 | [],_=>⟨[],[],rfl,.inl rfl,fun _ h=>by cases h⟩
 |x::P,h=>by
  by_cases hx:x<0
  ·exact ⟨[],x::P,rfl,.inr ⟨x,P,rfl,hx⟩,fun _ h=>by cases h⟩
  ·obtain ⟨l,r,rfl,hr,hl⟩:=pre_split P fun c hc=>h c (List.mem_cons_of_mem _ hc)
   have hb:=h x List.mem_cons_self
   refine ⟨x.toNat::l,r,?_,hr,fun c hc=> ?_⟩
   ·show x::(sv l++r)=((x.toNat:Nat):Int)::(sv l++r)
    rw [show ((x.toNat:Nat):Int)=x by omega]
   ·rcases List.mem_cons.1 hc with rfl|hc
    ·omega
    ·exact hl c hc
def preB (l:List Nat) (i:Nat):ByteArray:=⟨(put (l.take i)).toArray⟩
theorem put_four: ∀l:List Nat,(put l).length≤4*l.length
 | []=>by simp [put]
 |c::l=>by
  rw [Ux.Sign.put_cons,List.length_append,List.length_cons]
  have:=enc_four c
  have:=put_four l
  omega
theorem preB_size (l:List Nat) (i:Nat):(preB l i).size≤4*l.length:=by
 have h1:=put_four (l.take i)
 have h2:(l.take i).length≤l.length:=by rw [List.length_take];omega
 show ((put (l.take i)).toArray).size≤_
 rw [List.size_toArray]
 omega
theorem preB_next {l:List Nat} {i c:Nat} (h:l[i]? =some c):preB l i++oneB c=preB l (i+1):=by
 apply ByteArray.ext
 rw [ByteArray.data_append]
 apply Array.toList_inj.1
 rw [Array.toList_append]
 show put (l.take i)++enc c=put (l.take (i+1))
 rw [List.take_add_one,h]
 simp [put]
set_option maxHeartbeats 8000000 in
set_option maxRecDepth 100000 in
theorem rpre_ (v:Value) (l:List Nat) (r:List Int) (hr:r= []∨∃x r',r=x::r'∧x<0) (hl: ∀c∈l,c<1114368) (lo:Nat) (w:World) (hR:SigAt w lo v (sv l++r)) (hPs: ∀c∈sv l++r,c= -1∨c= -2∨(0≤c∧c<1114368)) (hn:(sv l++r).length≤1000000):
 Calls Tryz.prog 35 #[v] w fun e w'=>e= .returned (.tuple #[.string ⟨(put l).toArray⟩,.bool r.isEmpty])∧Ux.Touch (fun _=>False) w w':=by
 obtain ⟨a,c,rfl,_⟩:=hR.cells
 have HP:Hid (∀W,Ux.Touch (fun _=>False) w W→∀(i:Nat) (x:Int),(sv l++r)[i]? =some x→∃gp,a=some ⟨gp,0,none⟩∧W.cell? ⟨gp,i*2,none⟩=some (.int .i64 (kindI x))∧W.cell? ⟨gp,i*2+1,none⟩=some (.int .i64 (valI x))):=Lib.hid fun W t i x hx=>by
  obtain ⟨a',c',e,h⟩:=(SigAt.touch hR (R:=fun _=>False) t (fun _ _ f=>f)).cells
  cases e
  exact h i x hx
 obtain ⟨n,hnn⟩: ∃n,(sv l++r).length=n:=⟨_,rfl⟩
 obtain ⟨m,hm⟩: ∃m,l.length=m:=⟨_,rfl⟩
 have hmn:m≤n:=by rw [←hnn,List.length_append,Ux.sv_length];omega
 rw [hnn]
 obtain ⟨RS,hRS⟩: ∃R:ByteArray,(⟨(put l).toArray⟩:ByteArray)=R:=⟨_,rfl⟩
 have hRS2:preB l m=RS:=by rw [←hRS,←hm];unfold preB;rw [List.take_length]
 rw [hRS]
 have n1:(n:Int)≤1000000:=by omega
 have HH:=Lib.hid (And.intro hr (And.intro hl (And.intro hPs (And.intro hnn (And.intro hm (And.intro hmn hRS2))))))
 clear hR hr hl hPs hn hnn hm hmn hRS hRS2
 go_enter Tryz.func35,Tryz.ntmps35
 go_wp2_with (fail)
 go_loopg [4,5] n (fun gk s4 s5 wr=> ∃i:Nat,s5= .int .i64 i∧s4= .string (preB l i)∧i≤m∧i+gk=n∧Hid (Ux.Touch (fun _=>False) w wr))
 case atStart=>exact ⟨0,rfl,rfl,Nat.zero_le _,by omega,Lib.hid (Ux.Touch.refl _ _)⟩
 case round=>
  obtain ⟨i,rfl,rfl,him,hig,HI⟩:=hrel
  have i0:(0:Int)≤i:=by omega
  by_cases hlt:i<n
  ·obtain ⟨g',rfl⟩: ∃g',gk=g'+1:=⟨gk-1,by omega⟩
   have i1:(i:Int)<n:=by omega
   by_cases hil:i<m
   ·obtain ⟨x,hx⟩: ∃x,l[i]? =some x:=⟨_,List.getElem?_eq_getElem (by have:=HH.out.2.2.2.2.1;have:=HH.out.2.2.2.2.2.1;omega)⟩
    have hxP:(sv l++r)[i]? =some (x:Int):=by rw [List.getElem?_append_left (by rw [Ux.sv_length];have:=HH.out.2.2.2.2.1;omega)];exact Ux.sv_get hx
    obtain ⟨gp,rfl,p0,p1⟩:=HP.out wr HI.out i _ hxP
    have e2:kindI (x:Int)=0:=by unfold kindI;rw [if_neg (by omega),if_neg (by omega)]
    have e3:valI (x:Int)=x:=by unfold valI;rw [if_neg (by omega)]
    rw [e2] at p0
    rw [e3] at p1
    have HO:=Lib.hid (one_ x (HH.out.2.1 x (List.mem_of_getElem? hx)) wr)
    have hnx:=preB_next hx
    have hs1:=preB_size l i
    have hs2:=oneB_size x
    obtain ⟨S,hS⟩: ∃S,preB l i=S:=⟨_,rfl⟩
    obtain ⟨O,hO⟩: ∃S:ByteArray,(⟨(enc x).toArray⟩:ByteArray)=S:=⟨_,rfl⟩
    obtain ⟨S',hS'⟩: ∃S,preB l (i+1)=S:=⟨_,rfl⟩
    have hnx:S++O=S':=by rw [←hS,←hO,←hS'];exact hnx
    have hs2:O.size≤4:=by rw [←hO];exact hs2
    rw [hS] at hs1⊢
    rw [hO] at HO
    have j1: ¬((9223372036854775807:Int)<(S.size:Int)+O.size):=by have:=HH.out.2.2.2.2.1;have:=HH.out.2.2.2.2.2.1;omega
    have j2: ¬(9223372036854775807<S.size+O.size):=by have:=HH.out.2.2.2.2.1;have:=HH.out.2.2.2.2.2.1;omega
    have HS:=Lib.hid (And.intro hS' hil)
    clear hx hxP e2 e3 hs1 hs2 hS hO hS' hlt hil
    go_wp2_with (go_at_call 77;fail)
    refine HO.out.mono ?_
    rintro e w3 ⟨rfl,T3⟩
    have H3:=Lib.hid (HI.out.trans T3 fun _ _ f=>f)
    clear T3 p0 p1
    go_wp2_with (fail)
    go_roundg g'
    case measure=>omega
    case rel=>exact ⟨i+1,by congr 1,by rw [HS.out.1],by have:=HS.out.2;omega,by omega,Lib.hid H3.out⟩
   ·obtain rfl:i=m:=by omega
    obtain ⟨x,r',hr,hx⟩: ∃x r',r=x::r'∧x<0:=by
     rcases HH.out.1 with h|h
     ·have h1:=HH.out.2.2.2.1
      rw [h,List.append_nil,Ux.sv_length,HH.out.2.2.2.2.1] at h1
      omega
     ·exact h
    have hxP:(sv l++r)[i]? =some x:=by rw [List.getElem?_append_right (by rw [Ux.sv_length,HH.out.2.2.2.2.1];exact Nat.le_refl _),Ux.sv_length,HH.out.2.2.2.2.1,Nat.sub_self,hr];rfl
    obtain ⟨gp,rfl,p0,p1⟩:=HP.out wr HI.out i _ hxP
    have hb:=HH.out.2.2.1 x (List.mem_of_getElem? hxP)
    have e2:(kindI x !=0)=true:=by
     rcases hb with rfl|rfl|hb
     ·rfl
     ·rfl
     ·omega
    have e4:(kindI x==0)=false:=by
     rcases hb with rfl|rfl|hb
     ·rfl
     ·rfl
     ·omega
    obtain ⟨K,hK⟩: ∃K,kindI x=K:=⟨_,rfl⟩
    rw [hK] at p0 e2 e4
    have HR:=Lib.hid (show r.isEmpty=false by rw [hr];rfl)
    have HQ:=Lib.hid HH.out.2.2.2.2.2.2
    rw [HH.out.2.2.2.2.2.2]
    clear hr hx hxP hb hK p1 hlt hil him
    go_wp2_with (fail)
    go_returns
    rw [HR.out]
    exact ⟨rfl,HI.out⟩
  ·have hin:i=n:=by omega
   have hmn:i=m:=by have:=HH.out.2.2.2.2.2.1;omega
   have i1: ¬((i:Int)<n):=by omega
   have hre:r.isEmpty=true:=by
    have h1:=HH.out.2.2.2.1
    rw [List.length_append,Ux.sv_length,HH.out.2.2.2.2.1] at h1
    have:r.length=0:=by omega
    rw [List.eq_nil_of_length_eq_zero this]
    rfl
   have HR:=Lib.hid hre
   have hpp:preB l i=RS:=by rw [hmn];exact HH.out.2.2.2.2.2.2
   rw [hpp]
   clear hlt hre hin hmn hpp him
   go_wp2_with (fail)
   go_returns
   rw [HR.out]
   exact ⟨rfl,HI.out⟩
end Go.Proofs.YtikmdhhbamggfaaGreatDoor
