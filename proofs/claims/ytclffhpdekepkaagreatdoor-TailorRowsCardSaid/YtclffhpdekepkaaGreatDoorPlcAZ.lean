/- A part of the proof that the statement holds for every input that it names. No other condition. -/
import Derived.Test.YtclffhpdekepkaaGreatDoorTsAZ
import Derived.Test.YtclffhpdekepkaaGreatDoorTailBZ
set_option linter.unusedVariables false
set_option linter.unusedSimpArgs false
namespace Go.Proofs.YtclffhpdekepkaaGreatDoor
open Go.RowKit
open Ux (Ent sv findE putE okE okT SameE SortedE elemsE rootT eLetter eMk stepA raise mapE newK lastN fullT wF keepW wt8 eP cmpL)
open Ux.Rules (Rul)
def placeT (i j L:Nat):List Ent:=putE (mapE (raise L (wt8 L (eLetter i 2))) (rootT 132)) [97+j] [newK L (eLetter i 2)]
theorem lev3 {L:Nat} (h:L=1∨L=2∨L=3):L<4:=by omega
theorem place_lets: ∀L,L<4→∀i,i<26→lastN L [eLetter i 2] 1=(if L=0 then lastN 0 [eLetter i 2] 1 else some 0)∧¬(64256≤eP (eLetter i 2))∧newK L (eLetter i 2)<4294967296∧(L≠0→[newK L (eLetter i 2)].any badW=false):=by decide+kernel
theorem place_full: ∀L,L<4→L≠0→fullT L (rootT 132)=false:=by decide+kernel
theorem step_place {i L:Nat} (hi:i<26) (hL:L=1∨L=2∨L=3):stepA (rootT 132) [eLetter i 2] L=(0,mapE (raise L (wt8 L (eLetter i 2))) (rootT 132),[newK L (eLetter i 2)]):=by
 obtain ⟨h1,h2,_⟩:=place_lets L (lev3 hL) i hi
 rw [if_neg (by omega)] at h1
 unfold stepA
 have h1:lastN L [eLetter i 2] [eLetter i 2].length=some 0:=h1
 rw [h1]
 dsimp only
 have e: [eLetter i 2].getD 0 0=eLetter i 2:=rfl
 rw [e,if_neg (fun h=>h2 h.2),place_full L (lev3 hL) (by omega),if_neg (by simp)]
 rfl
theorem rule_step (T T':List Ent) (a a' s:List Nat) (L:Nat) (hL:L=1∨L=2∨L=3) (hs:stepA T a L=(0,T',a')) (hc:codeE T' (sv s) a'=0):ruleT T a ⟨1+L,s,[]⟩=(0,putE T' s a',a'):=by
 have h1: ¬(1+L=1):=by omega
 have h5:1+L<5:=by omega
 have h2:1+L-1=L:=by omega
 unfold ruleT
 dsimp only
 rw [if_neg h1,if_pos h5,h2,hs]
 dsimp only
 rw [if_neg (by simp),show elemsE T' []= [] from rfl,List.append_nil,hc,if_neg (by simp)]
theorem mapL_sorted (i L:Nat):SortedE (mapE (raise L (wt8 L (eLetter i 2))) (rootT 132)):=Ux.mapE_sorted _ (Ux.rootT_sorted 132)
theorem mapL_ok (i L:Nat):okT (mapE (raise L (wt8 L (eLetter i 2))) (rootT 132)):=Ux.mapE_ok (fun x hx=>Ux.raise_lt _ _ x hx) rootT_okT
theorem mapL_bad: ∀L,L<4→∀i,i<26→L=0∨((mapE (raise L (wt8 L (eLetter i 2))) (rootT 132)).all fun e=> !(e.2.any badW))=true:=by decide+kernel
theorem placeT_find {i j L:Nat} (hi:i<26) (hj:j<26) (hL:L=1∨L=2∨L=3) (t:List Nat):findE (placeT i j L) t=if t= [97+j] then some [newK L (eLetter i 2)] else (findE (rootT 132) t).map (List.map (raise L (wt8 L (eLetter i 2)))):=by
 unfold placeT
 rw [Ux.findE_put (mapL_sorted i L) (mapL_ok i L) (okE_one (by omega) (by simp) fun x hx=>by simp at hx;rw [hx];exact (place_lets L (lev3 hL) i hi).2.2.1) t,findE_map]
theorem placeT_at {i j L:Nat} (hi:i<26) (hj:j<26) (hL:L=1∨L=2∨L=3):elemsE (placeT i j L) [97+j]= [newK L (eLetter i 2)]:=elems_one (by rw [placeT_find hi hj hL,if_pos rfl])
theorem placeT_let {i j L m:Nat} (hi:i<26) (hj:j<26) (hL:L=1∨L=2∨L=3) (hm:m<26) (h:m≠j):elemsE (placeT i j L) [97+m]= [raise L (wt8 L (eLetter i 2)) (eLetter m 2)]:=elems_one (by
 rw [placeT_find hi hj hL,if_neg (by simp;omega),Ux.findT_letter hm]
 rfl)
theorem placeT_check {i j L:Nat} (hi:i<26) (hL:L=1∨L=2∨L=3):checkE (placeT i j L)=true:=by
 have hm: ∀e∈placeT i j L,e=([97+j],[newK L (eLetter i 2)])∨e∈mapE (raise L (wt8 L (eLetter i 2))) (rootT 132):=fun e he=>by
  unfold placeT at he
  rcases (Ux.putE_mem (mapL_sorted i L) e).1 he with h|⟨h,_⟩
  ·exact .inl h
  ·exact .inr h
 refine checkE_single (fun e he=> ?_) fun e he=> ?_
 ·rcases hm e he with rfl|h
  ·rfl
  ·obtain ⟨d,hd,rfl⟩:=List.mem_map.1 h
   exact Ux.rootT_one d hd
 ·rcases hm e he with rfl|h
  ·exact (place_lets L (lev3 hL) i hi).2.2.2 (by omega)
  ·rcases mapL_bad L (lev3 hL) i hi with h0|h0
   ·omega
   ·have:=List.all_eq_true.1 h0 e h
    simpa using this
theorem apply_place {i j L:Nat} (hi:i<26) (hj:j<26) (hL:L=1∨L=2∨L=3):applyT (rootT 132) [] [⟨1,[97+i],[]⟩,⟨1+L,[97+j],[]⟩]=(0,placeT i j L):=by
 have h1:ruleT (rootT 132) [] ⟨1,[97+i],[]⟩=(0,rootT 132,[eLetter i 2]):=rule_reset _ _ _ _ (elT_let hi) (by simp)
 have hc:codeE (mapE (raise L (wt8 L (eLetter i 2))) (rootT 132)) (sv [97+j]) [newK L (eLetter i 2)]=0:=by
  unfold codeE
  rw [keyOk_let j hj,if_neg (by simp),if_neg (fun h=>by have:=Ux.rootT_len 132;have h:=h.2;rw [Ux.mapE_len] at h;omega)]
 exact apply_two _ _ _ _ _ _ _ _ h1 (rule_step _ _ _ _ _ L hL (step_place hi hL) hc) (placeT_check hi hL)
def cmp1 (q x y:Nat):Int:=cmpL (sv (wF false q [x])) (sv (wF false q [y]))
theorem place_ab: ∀L,L<4→∀i,i<26→∀q,q<4→L=0∨q=0∨L<q∨cmp1 q (raise L (wt8 L (eLetter i 2)) (eLetter i 2)) (newK L (eLetter i 2))=if q<L then 0 else-1:=by decide+kernel
theorem place_ca: ∀L,L<4→∀i,i<26→∀m,m<26→L=0∨m=i∨(cmp1 1 (raise L (wt8 L (eLetter i 2)) (eLetter m 2)) (raise L (wt8 L (eLetter i 2)) (eLetter i 2))=cmp1 1 (eLetter m 2) (eLetter i 2)∧decide (cmp1 1 (eLetter m 2) (eLetter i 2)<0)=decide (cmp1 1 (raise L (wt8 L (eLetter i 2)) (eLetter m 2)) (newK L (eLetter i 2))<0)):=by decide+kernel
theorem place_lt: ∀L,L<4→∀i,i<26→∀m,m<26→raise L (wt8 L (eLetter i 2)) (eLetter m 2)<4294967296∧newK L (eLetter i 2)<4294967296:=by decide+kernel
end Go.Proofs.YtclffhpdekepkaaGreatDoor
namespace Go.Proofs.YtclffhpdekepkaaGreatDoor
open Go.RowKit
theorem conv1 (W:World) (b k:Nat) (Z:ByteArray) (z:Int) (hz:z=k) (hk:k<256) (hZ:(⟨#[UInt8.ofNat k]⟩:ByteArray)=Z) (hb:W.heap[b]? =some (.cells #[.int .u8 z] 5 (0,0))):(convert 24 9 (.slice (some ⟨b,0,none⟩) 1 1)).run Tryz.prog W= .ok (.string Z) W:=by
 rw [←hZ]
 refine run_convert_bytes_back (P:=Tryz.prog) W 24 9 5 ⟨b,0,none⟩ 1 [UInt8.ofNat k] Tryz.underlying24 Tryz.underlying5 Tryz.underlying9 fun j hj=> ?_
 obtain rfl:j=0:=by simp at hj;exact hj
 have e:(⟨b,0,none⟩:Addr).add 0=⟨b,0,none⟩:=by rw [Addr.add_mid]
 rw [e,cell_of_row W b 0 _ _ _ hb,hz]
 show some _=some (Value.int .u8 ((UInt8.ofNat k).toNat:Int))
 rw [UInt8.toNat_ofNat',show k % 2^8=k by omega]
 rfl
def lt1 (i:Nat):ByteArray:=⟨#[UInt8.ofNat (97+i)]⟩
theorem lt1_nat {i:Nat} (hi:i<26):(UInt8.ofNat (97+i)).toNat=97+i:=by rw [UInt8.toNat_ofNat'];omega
theorem lt1_data (i:Nat):(lt1 i).data.toList= [UInt8.ofNat (97+i)]:=rfl
theorem lt1_eq {i j:Nat} (hi:i<26) (hj:j<26):((lt1 i).toList==(lt1 j).toList)=decide (i=j):=by
 rw [Lib.toList_data,Lib.toList_data,lt1_data,lt1_data]
 have h1:=lt1_nat hi
 have h2:=lt1_nat hj
 by_cases h:i=j
 ·subst h;simp
 ·have: ¬UInt8.ofNat (97+i)=UInt8.ofNat (97+j):=fun e=>h (by rw [e,h2] at h1;omega)
  rw [decide_eq_false h]
  exact beq_false_of_ne fun e=>this (List.cons.inj e).1
theorem byte26 (a:Int) (h:0≤a∧a≤255): ∃m i:Nat,a=m∧i<26∧(m:Int) % 26=i∧(m:Int)≤255:=⟨a.toNat,a.toNat % 26,by omega,by omega,by omega,by omega⟩
end Go.Proofs.YtclffhpdekepkaaGreatDoor
namespace Go.Proofs.YtclffhpdekepkaaGreatDoor
open Go.RowKit
open Ux (Row Ent sv ev iv Grow KGrow Tri)
open Ux.Rules (Rul)
theorem copyI (W:World) (b:Nat) (hb:W.heap[b]? =some (.cells #[] 3 (0,0))) (u:Value) (ys:List Int) (hu:Row W 0 3 u (iv ys)) (hy:ys.length≤1000000):
 ∃r w',(∀ty,(Builtin.append_ #[22,22] ty #[.slice (some ⟨b,0,none⟩) 0 0,u]).run Tryz.prog W= .ok r w')∧Row w' 0 3 r (iv ys)∧Ux.Touch (fun x=>x=b) W w'∧∀x,r.ownBlock=some x→x=b∨W.heap.size≤x:=by
 have hlt:b<W.heap.size:=by
  rcases Nat.lt_or_ge b W.heap.size with h|h
  ·exact h
  ·rw [Array.getElem?_eq_none h] at hb;cases hb
 have hG:KGrow W 0 3 1 (.slice (some ⟨b,0,none⟩) 0 0) 0 []:=⟨⟨rfl,.inr ⟨b,0,#[],rfl,Nat.zero_le _,hb,Nat.le_refl _,Nat.zero_le _,rfl,rfl⟩⟩,fun x hx=>Nat.zero_le _⟩
 obtain ⟨r,w',h1,h2,h3,h4⟩:=hG.app' 22 8 (.int .i64 0) Tryz.underlying22 infoI rfl (by omega) u _ (iv ys) (hu.src Tryz.underlying22 (Ux.iv_one _)) (Nat.zero_le _) (by rw [Ux.iv_length];simp only [maxLen];omega) (by rw [Ux.iv_length];omega)
 refine ⟨r,w',h1,?_,?_,?_⟩
 ·have:=(Row.own h2.1 h2.2).1
  rwa [List.nil_append] at this
 ·exact h3.mono fun x _ hx=>by
   have:=hx.2
   simp [Value.ownBlock] at this
   exact this.symm
 ·intro x hx
  rcases h4 with e|⟨g,e,hg⟩
  ·rw [e] at hx
   simp [Value.ownBlock] at hx
   exact .inl hx.symm
  ·rw [e] at hx
   cases hx
   exact .inr hg
theorem KGrow.mono0 {w:World} {lo:Nat} {t:TypeId} {k:Nat} {v:Value} {n:Nat} {xs:List Value} (h:KGrow w lo t k v n xs):KGrow w 0 t k v n xs:=⟨h.1,fun _ _=>Nat.zero_le _⟩
def BunO (w:World) (lo:Nat) (v:Value) (k:Nat) (xs:List Value) (out:List Rul):Prop:=KGrow w lo 108 3 v k xs∧TriQ w 0 xs out
set_option maxHeartbeats 8000000 in
set_option maxRecDepth 100000 in
theorem of6_ (l:List Rul) (v:Value) (w:World) (hl:RulesAt w 0 v l) (hlen:l.length≤1000) (hs: ∀x∈l,x.seq.length≤1000000∧x.exp.length≤1000000):
 Calls Tryz.prog 15 #[v] w fun e w'=> ∃u,e= .returned u∧RulesAt w' 0 u l∧Ux.Touch (fun _=>False) w w':=by
 obtain ⟨al,cl,rfl,hcel⟩:=hl
 obtain ⟨n,hn⟩: ∃n,l.length=n:=⟨_,rfl⟩
 rw [hn]
 have HH:=Lib.hid (And.intro hcel (And.intro hs (And.intro hn hlen)))
 have n0:(n:Int)≤1000:=by omega
 clear hcel hs hn hlen
 go_enter Tryz.func15,Tryz.ntmps15
 go_wp2_with (fail)
 go_loopg [3,4] n (fun gk s3 s4 wr=> ∃(i:Nat) (xs:List Value),s4= .int .i64 i∧i+gk=n∧Hid (BunO wr w.heap.size s3 i xs (l.take i)∧Ux.Touch (fun _=>False) w wr))
 case atStart=>exact ⟨0,[],rfl,by omega,Lib.hid ⟨⟨KGrow.nil _ _ _ _,Tri.nil _⟩,Ux.Touch.refl _ _⟩⟩
 case round=>
  obtain ⟨i,xs,rfl,hig,HI⟩:=hrel
  have i0:(0:Int)≤i:=by omega
  by_cases hlt:i<n
  ·obtain ⟨g',rfl⟩: ∃g',gk=g'+1:=⟨gk-1,by omega⟩
   have i1:(i:Int)<n:=by omega
   obtain ⟨x,hx⟩: ∃x,l[i]? =some x:=⟨_,List.getElem?_eq_getElem (by have:=HH.out.2.2.1;omega)⟩
   obtain ⟨g,v1,v2,rfl,c0,c1,c2,p1,p2⟩:=HH.out.1 i x hx
   have hxs:=HH.out.2.1 x (List.mem_of_getElem? hx)
   have T:=HI.out.2
   have HC0:=Lib.hid fun W (T:Ux.Touch (fun _=>False) w W)=>And.intro (T.cell c0 (fun f=>f)) (And.intro (T.cell c1 (fun f=>f)) (T.cell c2 (fun f=>f)))
   have c0:=T.cell c0 (fun f=>f)
   have c1:=T.cell c1 (fun f=>f)
   have c2:=T.cell c2 (fun f=>f)
   have p1:=p1.touch0 T
   have p2:=p2.touch0 T
   obtain ⟨b1,e1,hv1,_⟩:=p1.is
   obtain ⟨b2,e2,hv2,_⟩:=p2.is
   obtain ⟨m1,hm1⟩: ∃m,(iv (sv x.seq)).length=m:=⟨_,rfl⟩
   obtain ⟨m2,hm2⟩: ∃m,(iv (sv x.exp)).length=m:=⟨_,rfl⟩
   rw [hm1] at hv1
   rw [hm2] at hv2
   subst hv1
   subst hv2
   obtain ⟨⟨hk,htq⟩,_⟩:=HI.out
   obtain ⟨a3,c3,hv3,_⟩:=hk.is
   subst hv3
   have HC:=Lib.hid fun W (T:Ux.Touch (fun _=>False) wr W)=>And.intro (T.cell c0 (fun f=>f)) (And.intro (T.cell c1 (fun f=>f)) (T.cell c2 (fun f=>f)))
   have HP:=Lib.hid (And.intro p1 (And.intro p2 (And.intro hk (And.intro htq (And.intro hxs hx)))))
   have HM:=Lib.hid (And.intro hm1 hm2)
   clear p1 p2 hk htq hxs hx T hm1 hm2 hlt
   go_upto_region 5 with (fail)
   refine Ux.wpr (fun _ w'=>w'.cell? ⟨g,i*3,none⟩=some (.int .i64 (x.rel:Int))∧w'.cell? ⟨g,i*3+1,none⟩=some (.slice b1 m1 e1)∧w'.cell? ⟨g,i*3+2,none⟩=some (.slice b2 m2 e2)) (.q [0,1,2,3,4,7,8,9,10,14,15,16,17] (.h false [5,11,18] (.br 6 (.br 12 (.e 13 true false (.e 19 true false (.q [20] (.e 21 true false (.e 22 true false (.line [23])))))) 13 (.e 12 true true (.e 19 true false (.q [20] (.e 21 true false (.e 22 true false (.line [23]))))))) 13 (.e 6 true true (.e 12 true true (.e 19 true false (.q [20] (.e 21 true false (.e 22 true false (.line [23])))))))))) ?_;repeat ((with_reducible refine Ux.qg ?_);refine Ux.qu ?_)
   refine ⟨?_,?_⟩
   ·obtain ⟨q1,hq⟩: ∃q,wr.heap.size=q:=⟨_,rfl⟩
    have r:((wr.alloc (.cells #[] 3)).drew).heap[q1]? =some (.cells #[] 3 (0,0)):=by rw [←hq];exact heap_alloc_new _ _
    have t:Ux.Touch (fun _=>False) wr ((wr.alloc (.cells #[] 3)).drew):=((Ux.Touch.refl _ _).alloc _).drew
    have hz:((wr.alloc (.cells #[] 3)).drew).heap.size=q1+1:=by rw [←hq];exact World.size_alloc _ _
    obtain ⟨wr1,hW⟩: ∃W,(wr.alloc (.cells #[] 3)).drew=W:=⟨_,rfl⟩
    rw [hW] at r t hz
    have HQ1:=Lib.hid (And.intro hW (And.intro hq (And.intro r (And.intro t hz))))
    have HTwr1:=Lib.hid (t)
    clear hW hq r t hz
    go_wp2_with (fail)
    rw [HQ1.out.1,HQ1.out.2.1]
    refine ⟨⟨HC.out _ HTwr1.out,HC.out _ HTwr1.out⟩,?_⟩
    refine ⟨?_,?_⟩
    ·obtain ⟨y1,wr1c1,hrun,hrow,hT,hown⟩:=copyI wr1 q1 (HQ1.out.2.2.1) _ _ (HP.out.1.touch0 HTwr1.out) (by rw [Ux.sv_length];exact HP.out.2.2.2.2.1.1)
     obtain ⟨ya1,yc1,hy,_⟩:=hrow.is
     rw [HM.out.1] at hy
     subst hy
     have HY1:=Lib.hid (And.intro hrun (And.intro hrow (And.intro hT hown)))
     have HTwr1c1:=Lib.hid (HTwr1.out.trans hT fun b hb e=>by have:=HQ1.out.2.1;omega)
     clear hrun hrow hT hown
     go_wp2_with (at_builtin;refine Ux.wpList_app (v1:= .slice (some ⟨q1,0,none⟩) 0 0) (x1:= .slice b1 m1 e1) rfl _ _ _ _ rfl rfl rfl (HY1.out.1 _) ?_)
     refine ⟨⟨HC.out _ HTwr1c1.out,HC.out _ HTwr1c1.out⟩,?_⟩
     obtain ⟨q2,hq⟩: ∃q,wr1c1.heap.size=q:=⟨_,rfl⟩
     have r:(wr1c1.alloc (.cells #[] 3)).heap[q2]? =some (.cells #[] 3 (0,0)):=by rw [←hq];exact heap_alloc_new _ _
     have t:Ux.Touch (fun _=>False) wr1c1 (wr1c1.alloc (.cells #[] 3)):=(Ux.Touch.refl _ _).alloc _
     have hz:(wr1c1.alloc (.cells #[] 3)).heap.size=q2+1:=by rw [←hq];exact World.size_alloc _ _
     obtain ⟨wr1c12,hW⟩: ∃W,wr1c1.alloc (.cells #[] 3)=W:=⟨_,rfl⟩
     rw [hW] at r t hz
     have HQ2:=Lib.hid (And.intro hW (And.intro hq (And.intro r (And.intro t hz))))
     have HTwr1c12:=Lib.hid (HTwr1c1.out.trans t fun _ _ f=>f)
     clear hW hq r t hz
     go_wp2_with (fail)
     rw [HQ2.out.1,HQ2.out.2.1]
     refine ⟨HC.out _ HTwr1c12.out,?_⟩
     obtain ⟨y2,wr1c12c2,hrun,hrow,hT,hown⟩:=copyI wr1c12 q2 (HQ2.out.2.2.1) _ _ (HP.out.2.1.touch0 HTwr1c12.out) (by rw [Ux.sv_length];exact HP.out.2.2.2.2.1.2)
     obtain ⟨ya2,yc2,hy,_⟩:=hrow.is
     rw [HM.out.2] at hy
     subst hy
     have HY2:=Lib.hid (And.intro hrun (And.intro hrow (And.intro hT hown)))
     have HTwr1c12c2:=Lib.hid (HTwr1c12.out.trans hT fun b hb e=>by have:=HQ2.out.2.1;have:=HTwr1c1.out.size;omega)
     clear hrun hrow hT hown
     go_wp2_with (at_builtin;refine Ux.wpList_app (v1:= .slice (some ⟨q2,0,none⟩) 0 0) (x1:= .slice b2 m2 e2) rfl _ _ _ _ rfl rfl rfl (HY2.out.1 _) ?_)
     refine ⟨HC.out _ HTwr1c12c2.out,?_⟩
     have hr1:Row wr1c12c2 0 3 (.slice ya1 m1 yc1) (iv (sv x.seq)):=(HY1.out.2.1.touch0 HQ2.out.2.2.2.1).touch HY2.out.2.2.1 fun b _ hb e=>by obtain ⟨cs,hk⟩:=HY1.out.2.1.kind hb;have h1:=(Array.getElem?_eq_some_iff.1 hk).1;have:=HQ2.out.2.1;omega
     have hr2:=HY2.out.2.1
     obtain ⟨ra,WF,rc,hrun,hG,hTT⟩:=appR (HP.out.2.2.1.touch0 HTwr1c12c2.out) (Nat.le_trans HI.out.2.size HTwr1c12c2.out.size) (by have:=HH.out.2.2.2;have:=HH.out.2.2.1;omega) (x.rel:Int) ya1 m1 yc1 ya2 m2 yc2
     have hTF:Ux.Touch (fun _=>False) w WF:=(HI.out.2.trans HTwr1c12c2.out fun _ _ f=>f).trans hTT fun b hb e=>by have:=e.1;omega
     have hR: ∀g cs,(wr1c12c2).heap[g]? =some (.cells cs 3 (0,0))→¬(w.heap.size≤g∧∃cs,(wr1c12c2).heap[g]? =some (Obj.cells cs 108 (0,0))):=fun g cs h1 h2=>by
      obtain ⟨_,cs2,h2⟩:=h2
      rw [h1] at h2
      cases h2
     have hq1:QV WF 0 (.slice ya1 m1 yc1) x.seq:=Row.touch hr1 hTT fun b _ hb=>let ⟨cs,hk⟩:=hr1.kind hb;hR b cs hk
     have hq2:QV WF 0 (.slice ya2 m2 yc2) x.exp:=Row.touch hr2 hTT fun b _ hb=>let ⟨cs,hk⟩:=hr2.kind hb;hR b cs hk
     have htq:=Ux.Tri.snoc (TriQ.touch (TriQ.touch HP.out.2.2.2.1 HTwr1c12c2.out fun _ _ _ f=>f) hTT hR) (e:=x) ⟨rfl,hq1,hq2⟩
     have hsz:=HTwr1c12c2.out.alloc (.cells #[.int .i64 (x.rel:Int),.slice ya1 m1 yc1,.slice ya2 m2 yc2] 108)
     have HF:=Lib.hid (And.intro hrun (And.intro hG (And.intro hTF (And.intro htq hsz))))
     clear hr1 hr2 hrun hG hTT hTF hR hq1 hq2 htq hsz
     repeat ((with_reducible refine Ux.qg ?_);refine Ux.qu ?_)
     go_wp2_with (fail)
     refine ⟨HC.out _ HF.out.2.2.2.2,?_⟩
     go_wp2_with (at_builtin;refine Ux.wpList_app (v1:= .slice a3 i c3) (x1:= .slice (some ⟨_,0,none⟩) 1 1) rfl _ _ _ _ rfl rfl rfl (HF.out.1 _) ?_)
     refine ⟨HC0.out _ HF.out.2.2.1,?_⟩
     go_wp2
     go_roundg g'
     case measure=>omega
     case rel=>
      refine ⟨i+1,_,by congr 1,by omega,Lib.hid ⟨⟨HF.out.2.1,?_⟩,HF.out.2.2.1⟩⟩
      rw [List.take_add_one,HP.out.2.2.2.2.2]
      exact HF.out.2.2.2.1
    ·obtain ⟨q2,hq⟩: ∃q,wr1.heap.size=q:=⟨_,rfl⟩
     have r:(wr1.alloc (.cells #[] 3)).heap[q2]? =some (.cells #[] 3 (0,0)):=by rw [←hq];exact heap_alloc_new _ _
     have t:Ux.Touch (fun _=>False) wr1 (wr1.alloc (.cells #[] 3)):=(Ux.Touch.refl _ _).alloc _
     have hz:(wr1.alloc (.cells #[] 3)).heap.size=q2+1:=by rw [←hq];exact World.size_alloc _ _
     obtain ⟨wr12,hW⟩: ∃W,wr1.alloc (.cells #[] 3)=W:=⟨_,rfl⟩
     rw [hW] at r t hz
     have HQ2:=Lib.hid (And.intro hW (And.intro hq (And.intro r (And.intro t hz))))
     have HTwr12:=Lib.hid (HTwr1.out.trans t fun _ _ f=>f)
     clear hW hq r t hz
     go_wp2_with (fail)
     rw [HQ2.out.1,HQ2.out.2.1]
     refine ⟨⟨HC.out _ HTwr12.out,HC.out _ HTwr12.out⟩,?_⟩
     obtain ⟨y1,wr12c1,hrun,hrow,hT,hown⟩:=copyI wr12 q1 (HQ2.out.2.2.2.1.heap HQ1.out.2.2.1 fun f=>f) _ _ (HP.out.1.touch0 HTwr12.out) (by rw [Ux.sv_length];exact HP.out.2.2.2.2.1.1)
     obtain ⟨ya1,yc1,hy,_⟩:=hrow.is
     rw [HM.out.1] at hy
     subst hy
     have HY1:=Lib.hid (And.intro hrun (And.intro hrow (And.intro hT hown)))
     have HTwr12c1:=Lib.hid (HTwr12.out.trans hT fun b hb e=>by have:=HQ1.out.2.1;omega)
     clear hrun hrow hT hown
     go_wp2_with (at_builtin;refine Ux.wpList_app (v1:= .slice (some ⟨q1,0,none⟩) 0 0) (x1:= .slice b1 m1 e1) rfl _ _ _ _ rfl rfl rfl (HY1.out.1 _) ?_)
     refine ⟨⟨HC.out _ HTwr12c1.out,HC.out _ HTwr12c1.out⟩,?_⟩
     obtain ⟨y2,wr12c1c2,hrun,hrow,hT,hown⟩:=copyI wr12c1 q2 (HY1.out.2.2.1.heap HQ2.out.2.2.1 (by have:=HQ2.out.2.1;have:=HQ1.out.2.2.2.2;omega)) _ _ (HP.out.2.1.touch0 HTwr12c1.out) (by rw [Ux.sv_length];exact HP.out.2.2.2.2.1.2)
     obtain ⟨ya2,yc2,hy,_⟩:=hrow.is
     rw [HM.out.2] at hy
     subst hy
     have HY2:=Lib.hid (And.intro hrun (And.intro hrow (And.intro hT hown)))
     have HTwr12c1c2:=Lib.hid (HTwr12c1.out.trans hT fun b hb e=>by have:=HQ2.out.2.1;have:=HTwr1.out.size;omega)
     clear hrun hrow hT hown
     go_wp2_with (at_builtin;refine Ux.wpList_app (v1:= .slice (some ⟨q2,0,none⟩) 0 0) (x1:= .slice b2 m2 e2) rfl _ _ _ _ rfl rfl rfl (HY2.out.1 _) ?_)
     refine ⟨HC.out _ HTwr12c1c2.out,?_⟩
     have hr1:Row wr12c1c2 0 3 (.slice ya1 m1 yc1) (iv (sv x.seq)):=HY1.out.2.1.touch HY2.out.2.2.1 fun b _ hb e=>by have h1:=HY1.out.2.2.2 b hb;have h2:=HQ2.out.2.2.2.2;have h3:=HQ2.out.2.1;have h4:=HQ1.out.2.2.2.2;omega
     have hr2:=HY2.out.2.1
     obtain ⟨ra,WF,rc,hrun,hG,hTT⟩:=appR (HP.out.2.2.1.touch0 HTwr12c1c2.out) (Nat.le_trans HI.out.2.size HTwr12c1c2.out.size) (by have:=HH.out.2.2.2;have:=HH.out.2.2.1;omega) (x.rel:Int) ya1 m1 yc1 ya2 m2 yc2
     have hTF:Ux.Touch (fun _=>False) w WF:=(HI.out.2.trans HTwr12c1c2.out fun _ _ f=>f).trans hTT fun b hb e=>by have:=e.1;omega
     have hR: ∀g cs,(wr12c1c2).heap[g]? =some (.cells cs 3 (0,0))→¬(w.heap.size≤g∧∃cs,(wr12c1c2).heap[g]? =some (Obj.cells cs 108 (0,0))):=fun g cs h1 h2=>by
      obtain ⟨_,cs2,h2⟩:=h2
      rw [h1] at h2
      cases h2
     have hq1:QV WF 0 (.slice ya1 m1 yc1) x.seq:=Row.touch hr1 hTT fun b _ hb=>let ⟨cs,hk⟩:=hr1.kind hb;hR b cs hk
     have hq2:QV WF 0 (.slice ya2 m2 yc2) x.exp:=Row.touch hr2 hTT fun b _ hb=>let ⟨cs,hk⟩:=hr2.kind hb;hR b cs hk
     have htq:=Ux.Tri.snoc (TriQ.touch (TriQ.touch HP.out.2.2.2.1 HTwr12c1c2.out fun _ _ _ f=>f) hTT hR) (e:=x) ⟨rfl,hq1,hq2⟩
     have hsz:=HTwr12c1c2.out.alloc (.cells #[.int .i64 (x.rel:Int),.slice ya1 m1 yc1,.slice ya2 m2 yc2] 108)
     have HF:=Lib.hid (And.intro hrun (And.intro hG (And.intro hTF (And.intro htq hsz))))
     clear hr1 hr2 hrun hG hTT hTF hR hq1 hq2 htq hsz
     repeat ((with_reducible refine Ux.qg ?_);refine Ux.qu ?_)
     go_wp2_with (fail)
     refine ⟨HC.out _ HF.out.2.2.2.2,?_⟩
     go_wp2_with (at_builtin;refine Ux.wpList_app (v1:= .slice a3 i c3) (x1:= .slice (some ⟨_,0,none⟩) 1 1) rfl _ _ _ _ rfl rfl rfl (HF.out.1 _) ?_)
     refine ⟨HC0.out _ HF.out.2.2.1,?_⟩
     go_wp2
     go_roundg g'
     case measure=>omega
     case rel=>
      refine ⟨i+1,_,by congr 1,by omega,Lib.hid ⟨⟨HF.out.2.1,?_⟩,HF.out.2.2.1⟩⟩
      rw [List.take_add_one,HP.out.2.2.2.2.2]
      exact HF.out.2.2.2.1
   ·obtain ⟨q2,hq⟩: ∃q,wr.heap.size=q:=⟨_,rfl⟩
    have r:((wr.alloc (.cells #[] 3)).drew).heap[q2]? =some (.cells #[] 3 (0,0)):=by rw [←hq];exact heap_alloc_new _ _
    have t:Ux.Touch (fun _=>False) wr ((wr.alloc (.cells #[] 3)).drew):=((Ux.Touch.refl _ _).alloc _).drew
    have hz:((wr.alloc (.cells #[] 3)).drew).heap.size=q2+1:=by rw [←hq];exact World.size_alloc _ _
    obtain ⟨wr2,hW⟩: ∃W,(wr.alloc (.cells #[] 3)).drew=W:=⟨_,rfl⟩
    rw [hW] at r t hz
    have HQ2:=Lib.hid (And.intro hW (And.intro hq (And.intro r (And.intro t hz))))
    have HTwr2:=Lib.hid (t)
    clear hW hq r t hz
    go_wp2_with (fail)
    rw [HQ2.out.1,HQ2.out.2.1]
    refine ⟨⟨HC.out _ HTwr2.out,HC.out _ HTwr2.out⟩,?_⟩
    obtain ⟨q1,hq⟩: ∃q,wr2.heap.size=q:=⟨_,rfl⟩
    have r:(wr2.alloc (.cells #[] 3)).heap[q1]? =some (.cells #[] 3 (0,0)):=by rw [←hq];exact heap_alloc_new _ _
    have t:Ux.Touch (fun _=>False) wr2 (wr2.alloc (.cells #[] 3)):=(Ux.Touch.refl _ _).alloc _
    have hz:(wr2.alloc (.cells #[] 3)).heap.size=q1+1:=by rw [←hq];exact World.size_alloc _ _
    obtain ⟨wr21,hW⟩: ∃W,wr2.alloc (.cells #[] 3)=W:=⟨_,rfl⟩
    rw [hW] at r t hz
    have HQ1:=Lib.hid (And.intro hW (And.intro hq (And.intro r (And.intro t hz))))
    have HTwr21:=Lib.hid (HTwr2.out.trans t fun _ _ f=>f)
    clear hW hq r t hz
    go_wp2_with (fail)
    rw [HQ1.out.1,HQ1.out.2.1]
    refine ⟨⟨HC.out _ HTwr21.out,HC.out _ HTwr21.out⟩,?_⟩
    obtain ⟨y1,wr21c1,hrun,hrow,hT,hown⟩:=copyI wr21 q1 (HQ1.out.2.2.1) _ _ (HP.out.1.touch0 HTwr21.out) (by rw [Ux.sv_length];exact HP.out.2.2.2.2.1.1)
    obtain ⟨ya1,yc1,hy,_⟩:=hrow.is
    rw [HM.out.1] at hy
    subst hy
    have HY1:=Lib.hid (And.intro hrun (And.intro hrow (And.intro hT hown)))
    have HTwr21c1:=Lib.hid (HTwr21.out.trans hT fun b hb e=>by have:=HQ1.out.2.1;have:=HTwr2.out.size;omega)
    clear hrun hrow hT hown
    go_wp2_with (at_builtin;refine Ux.wpList_app (v1:= .slice (some ⟨q1,0,none⟩) 0 0) (x1:= .slice b1 m1 e1) rfl _ _ _ _ rfl rfl rfl (HY1.out.1 _) ?_)
    refine ⟨⟨HC.out _ HTwr21c1.out,HC.out _ HTwr21c1.out⟩,?_⟩
    obtain ⟨y2,wr21c1c2,hrun,hrow,hT,hown⟩:=copyI wr21c1 q2 (HY1.out.2.2.1.heap (HQ1.out.2.2.2.1.heap HQ2.out.2.2.1 fun f=>f) (by have:=HQ1.out.2.1;have:=HQ2.out.2.2.2.2;omega)) _ _ (HP.out.2.1.touch0 HTwr21c1.out) (by rw [Ux.sv_length];exact HP.out.2.2.2.2.1.2)
    obtain ⟨ya2,yc2,hy,_⟩:=hrow.is
    rw [HM.out.2] at hy
    subst hy
    have HY2:=Lib.hid (And.intro hrun (And.intro hrow (And.intro hT hown)))
    have HTwr21c1c2:=Lib.hid (HTwr21c1.out.trans hT fun b hb e=>by have:=HQ2.out.2.1;omega)
    clear hrun hrow hT hown
    go_wp2_with (at_builtin;refine Ux.wpList_app (v1:= .slice (some ⟨q2,0,none⟩) 0 0) (x1:= .slice b2 m2 e2) rfl _ _ _ _ rfl rfl rfl (HY2.out.1 _) ?_)
    refine ⟨HC.out _ HTwr21c1c2.out,?_⟩
    have hr1:Row wr21c1c2 0 3 (.slice ya1 m1 yc1) (iv (sv x.seq)):=HY1.out.2.1.touch HY2.out.2.2.1 fun b _ hb e=>by have h1:=HY1.out.2.2.2 b hb;have h2:=HQ2.out.2.2.2.2;have h3:=HQ1.out.2.1;have h4:=HQ1.out.2.2.2.2;omega
    have hr2:=HY2.out.2.1
    obtain ⟨ra,WF,rc,hrun,hG,hTT⟩:=appR (HP.out.2.2.1.touch0 HTwr21c1c2.out) (Nat.le_trans HI.out.2.size HTwr21c1c2.out.size) (by have:=HH.out.2.2.2;have:=HH.out.2.2.1;omega) (x.rel:Int) ya1 m1 yc1 ya2 m2 yc2
    have hTF:Ux.Touch (fun _=>False) w WF:=(HI.out.2.trans HTwr21c1c2.out fun _ _ f=>f).trans hTT fun b hb e=>by have:=e.1;omega
    have hR: ∀g cs,(wr21c1c2).heap[g]? =some (.cells cs 3 (0,0))→¬(w.heap.size≤g∧∃cs,(wr21c1c2).heap[g]? =some (Obj.cells cs 108 (0,0))):=fun g cs h1 h2=>by
     obtain ⟨_,cs2,h2⟩:=h2
     rw [h1] at h2
     cases h2
    have hq1:QV WF 0 (.slice ya1 m1 yc1) x.seq:=Row.touch hr1 hTT fun b _ hb=>let ⟨cs,hk⟩:=hr1.kind hb;hR b cs hk
    have hq2:QV WF 0 (.slice ya2 m2 yc2) x.exp:=Row.touch hr2 hTT fun b _ hb=>let ⟨cs,hk⟩:=hr2.kind hb;hR b cs hk
    have htq:=Ux.Tri.snoc (TriQ.touch (TriQ.touch HP.out.2.2.2.1 HTwr21c1c2.out fun _ _ _ f=>f) hTT hR) (e:=x) ⟨rfl,hq1,hq2⟩
    have hsz:=HTwr21c1c2.out.alloc (.cells #[.int .i64 (x.rel:Int),.slice ya1 m1 yc1,.slice ya2 m2 yc2] 108)
    have HF:=Lib.hid (And.intro hrun (And.intro hG (And.intro hTF (And.intro htq hsz))))
    clear hr1 hr2 hrun hG hTT hTF hR hq1 hq2 htq hsz
    repeat ((with_reducible refine Ux.qg ?_);refine Ux.qu ?_)
    go_wp2_with (fail)
    refine ⟨HC.out _ HF.out.2.2.2.2,?_⟩
    go_wp2_with (at_builtin;refine Ux.wpList_app (v1:= .slice a3 i c3) (x1:= .slice (some ⟨_,0,none⟩) 1 1) rfl _ _ _ _ rfl rfl rfl (HF.out.1 _) ?_)
    refine ⟨HC0.out _ HF.out.2.2.1,?_⟩
    go_wp2
    go_roundg g'
    case measure=>omega
    case rel=>
     refine ⟨i+1,_,by congr 1,by omega,Lib.hid ⟨⟨HF.out.2.1,?_⟩,HF.out.2.2.1⟩⟩
     rw [List.take_add_one,HP.out.2.2.2.2.2]
     exact HF.out.2.2.2.1
  ·obtain rfl:i=n:=by omega
   have i1: ¬(i:Int)<i:=by omega
   obtain ⟨hk,htq⟩:=HI.out.1
   obtain ⟨a3,c3,hv3,_⟩:=hk.is
   subst hv3
   have hla:l.take i=l:=List.take_of_length_le (by have:=HH.out.2.2.1;omega)
   rw [hla] at htq
   have HF:=Lib.hid (And.intro hk htq)
   clear hk htq hla hlt
   go_wp2
   go_returns
   exact ⟨_,rfl,rulesAt_of (Nat.zero_le _) (KGrow.mono0 HF.out.1) HH.out.2.2.1 HF.out.2,HI.out.2⟩
end Go.Proofs.YtclffhpdekepkaaGreatDoor
namespace Go.Proofs.YtclffhpdekepkaaGreatDoor
open Go.RowKit
open Ux (Row Grow Ent sv ev iv elemsE wF wt8 keepW cmpL cmpI cmpL_drop cmpL_over cmpL_end)
open Ux.Sign (signs)
theorem keepF (lv x:Nat):keepW false lv x=decide (0<wt8 lv x):=by unfold keepW;simp
theorem wt_is8 (lv x:Nat):wt lv x=wt8 lv x:=rfl
set_option maxHeartbeats 16000000 in
set_option maxRecDepth 100000 in
theorem cmp7_ (B mb:Nat) (E:List Ent) (a b:ByteArray) (q:Nat) (hq:q=1∨q=2∨q=3) (Q:Int) (hQ:Q=q) (l1 l2:List Nat) (w:World) (hT:TableAt w B mb E) (hU:Tabs w) (ha:a.size≤1000000) (hb:b.size≤1000000) (h1:elemsE E (signs a.data.toList)=l1) (h2:elemsE E (signs b.data.toList)=l2)
 (hx1: ∀x∈l1,x<4294967296) (hx2: ∀x∈l2,x<4294967296) (hn1:l1.length≤10000000) (hn2:l2.length≤10000000):
 Calls Tryz.prog 10 #[.pointer (some ⟨B,0,none⟩),.string a,.string b,.int .i64 Q] w fun e w'=>e= .returned (.int .i64 (cmpL (sv (wF false q l1)) (sv (wF false q l2))))∧Ux.Touch (fun _=>False) w w':=by
 have HE1:=Lib.hid fun W (T:Ux.Touch (fun _=>False) w W)=>elements_ B mb E a W (hT.touch0 T) (hU.touch T) (by omega)
 have HE2:=Lib.hid fun W (T:Ux.Touch (fun _=>False) w W)=>elements_ B mb E b W (hT.touch0 T) (hU.touch T) (by omega)
 rw [h1] at HE1
 rw [h2] at HE2
 obtain ⟨n1,e1⟩: ∃n,l1.length=n:=⟨_,rfl⟩
 obtain ⟨n2,e2⟩: ∃n,l2.length=n:=⟨_,rfl⟩
 have b1:(n1:Int)≤10000000:=by omega
 have b2:(n2:Int)≤10000000:=by omega
 have HH:=Lib.hid (And.intro hx1 (And.intro hx2 (And.intro e1 e2)))
 have HW:=Lib.hid fun (x:Nat) (hx:x<4294967296) W=>weight_ q x Q hQ hq hx W
 obtain ⟨R,hR⟩: ∃R,cmpL (sv (wF false q l1)) (sv (wF false q l2))=R:=⟨_,rfl⟩
 rw [hR]
 have HR:=Lib.hid hR
 clear hT hU ha hb h1 h2 hx1 hx2 hn1 hn2 e1 e2 hQ hq hR
 go_enter Tryz.func10,Tryz.ntmps10
 go_wp2_with (go_at_call 30;fail)
 refine (HE1.out w (Ux.Touch.refl _ _)).mono ?_
 rintro e w1 ⟨u1,rfl,hu1,T1⟩
 have H1:=Lib.hid (And.intro hu1 T1)
 obtain ⟨a1,c1,rfl,_⟩:=hu1.is
 rw [Ux.ev_length,HH.out.2.2.1] at H1⊢
 clear hu1 T1
 go_wp2_with (go_at_call 30;fail)
 refine (HE2.out w1 H1.out.2).mono ?_
 rintro e w2 ⟨u2,rfl,hu2,T2⟩
 have H2:=Lib.hid (And.intro hu2 (And.intro (H1.out.1.touch0 T2) (H1.out.2.trans T2 fun _ _ f=>f)))
 obtain ⟨a2,c2,rfl,_⟩:=hu2.is
 rw [Ux.ev_length,HH.out.2.2.2] at H2⊢
 clear hu2 T2
 go_wp2_with (fail)
 go_loopg [11,13] n1 (fun gk s11 s13 wr=> ∃i:Nat,s13= .int .i64 i∧i+gk=n1∧Hid (Grow wr w2.heap.size 3 s11 (iv (sv (wF false q (l1.take i))))∧Ux.Touch (fun _=>False) w2 wr))
 case atStart=>exact ⟨0,rfl,by omega,Lib.hid ⟨Grow.nil _ _ _,Ux.Touch.refl _ _⟩⟩
 case round=>
  obtain ⟨i,rfl,hig,HI⟩:=hrel
  have i0:(0:Int)≤i:=by omega
  by_cases hlt:i<n1
  ·obtain ⟨g',rfl⟩: ∃g',gk=g'+1:=⟨gk-1,by omega⟩
   have i1:(i:Int)<n1:=by omega
   obtain ⟨x,hx⟩: ∃x,l1[i]? =some x:=⟨_,List.getElem?_eq_getElem (by have:=HH.out.2.2.1;omega)⟩
   obtain ⟨g,rfl,_,hc⟩:=(H2.out.2.1.touch0 HI.out.2).at (Ux.ev_get hx)
   have htk:l1.take (i+1)=l1.take i++ [x]:=by rw [List.take_add_one,hx];rfl
   have HWX:=Lib.hid fun W=>HW.out x (HH.out.1 x (List.mem_of_getElem? hx)) W
   rw [wt_is8] at HWX
   obtain ⟨y,hy⟩: ∃y,wt8 q x=y:=⟨_,rfl⟩
   have hkeep:keepW false q x=decide (0<y):=by rw [keepF,hy]
   rw [hy] at HWX
   have HX:=Lib.hid (And.intro htk (And.intro hkeep hy))
   clear hx htk hlt hkeep hy
   go_wp2_with (go_at_call 17;fail)
   refine (HWX.out wr).mono ?_
   rintro e w' ⟨rfl,hw⟩
   obtain rfl:wr=w':=hw.symm
   clear hc
   by_cases hy0:y=0
   ·subst hy0
    go_wp2
    go_roundg g'
    case measure=>omega
    case rel=>
     refine ⟨i+1,by congr 1,by omega,Lib.hid ⟨?_,HI.out.2⟩⟩
     rw [HX.out.1,Ux.wF_snoc,HX.out.2.1,if_neg (by decide),List.append_nil]
     exact HI.out.1
   ·have q0:((y:Int)==0)=false:=by simpa using hy0
    have q1:decide (0<y)=true:=by simp;omega
    have HQ1:=Lib.hid q1
    have hsz:(wF false q (l1.take i)).length≤i:=Nat.le_trans (Ux.wF_len _ _ _) (by simp;omega)
    obtain ⟨r,w3,hrun,hG2,hT3⟩:=appI HI.out.1 1 [Value.int .i64 (y:Int)] rfl (fun u hu=>by rw [List.mem_singleton.1 hu];rfl) HI.out.2.size (by rw [Ux.iv_length,Ux.sv_length];omega)
    have HR2:=Lib.hid (And.intro hrun (And.intro hG2 hT3))
    clear hsz hrun hG2 hT3 q1 hy0
    go_wp2_with (at_builtin;refine Ux.wpList_app (v1:=u11) (x1:= .slice (some ⟨_,0,none⟩) 1 1) rfl _ _ _ _ rfl rfl rfl (HR2.out.1 _) ?_)
    go_roundg g'
    case measure=>omega
    case rel=>
     refine ⟨i+1,by congr 1,by omega,Lib.hid ⟨?_,?_⟩⟩
     ·rw [HX.out.1,Ux.wF_snoc,HX.out.2.1,HQ1.out,if_pos rfl,Ux.sv_append,show∀a b,iv (a++b)=iv a++iv b from fun a b=>List.map_append,HX.out.2.2]
      exact HR2.out.2.1
     ·exact Ux.Touch.own HI.out.2 (Nat.le_refl _) HR2.out.2.2
  ·obtain rfl:i=n1:=by omega
   have i1: ¬(i:Int)<i:=by omega
   have hwl:wF false q (l1.take i)=wF false q l1:=by rw [List.take_of_length_le (by have:=HH.out.2.2.1;omega)]
   rw [hwl] at HI
   obtain ⟨X1,hX1⟩: ∃X,sv (wF false q l1)=X:=⟨_,rfl⟩
   obtain ⟨X2,hX2⟩: ∃X,sv (wF false q l2)=X:=⟨_,rfl⟩
   have hm1:X1.length≤10000000:=by rw [←hX1,Ux.sv_length];have:=Ux.wF_len false q l1;have:=HH.out.2.2.1;omega
   have hm2:X2.length≤10000000:=by rw [←hX2,Ux.sv_length];have:=Ux.wF_len false q l2;have:=HH.out.2.2.2;omega
   have hRR:=HR.out
   rw [hX1,hX2] at hRR
   rw [hX1] at HI
   have HG1:=HI.out.1.row
   obtain ⟨a3,c3,rfl,_⟩:=HG1.is
   rw [Ux.iv_length] at HI HG1⊢
   obtain ⟨m1,e3⟩: ∃n,X1.length=n:=⟨_,rfl⟩
   obtain ⟨m2,e4⟩: ∃n,X2.length=n:=⟨_,rfl⟩
   rw [e3] at HI hm1 HG1⊢
   have H3:=Lib.hid (And.intro HG1 (And.intro (H2.out.1.touch0 HI.out.2) (H2.out.2.2.trans HI.out.2 fun _ _ f=>f)))
   have HX:=Lib.hid (And.intro hX2 (And.intro e3 (And.intro e4 hRR)))
   have b3:(m1:Int)≤10000000:=by omega
   have b4:(m2:Int)≤10000000:=by omega
   clear hwl hX1 hX2 hm1 hm2 hRR HG1 e3 e4 HI hlt
   go_wp2_with (fail)
   obtain ⟨w3,hw3⟩: ∃w,wr=w:=⟨_,rfl⟩
   rw [hw3] at H3
   go_loopg [12,15] n2 (fun gk s12 s15 wr=> ∃j:Nat,s15= .int .i64 j∧j+gk=n2∧Hid (Grow wr w3.heap.size 3 s12 (iv (sv (wF false q (l2.take j))))∧Ux.Touch (fun _=>False) w3 wr))
   case atStart=>
    subst hw3
    exact ⟨0,rfl,by omega,Lib.hid ⟨Grow.nil _ _ _,Ux.Touch.refl _ _⟩⟩
   case round=>
    clear hw3
    obtain ⟨j,rfl,hjg,HI⟩:=hrel
    have j0:(0:Int)≤j:=by omega
    by_cases hlt:j<n2
    ·obtain ⟨g',rfl⟩: ∃g',gk=g'+1:=⟨gk-1,by omega⟩
     have j1:(j:Int)<n2:=by omega
     obtain ⟨x,hx⟩: ∃x,l2[j]? =some x:=⟨_,List.getElem?_eq_getElem (by have:=HH.out.2.2.2;omega)⟩
     obtain ⟨g,rfl,_,hc⟩:=(H3.out.2.1.touch0 HI.out.2).at (Ux.ev_get hx)
     have htk:l2.take (j+1)=l2.take j++ [x]:=by rw [List.take_add_one,hx];rfl
     have HWX:=Lib.hid fun W=>HW.out x (HH.out.2.1 x (List.mem_of_getElem? hx)) W
     rw [wt_is8] at HWX
     obtain ⟨y,hy⟩: ∃y,wt8 q x=y:=⟨_,rfl⟩
     have hkeep:keepW false q x=decide (0<y):=by rw [keepF,hy]
     rw [hy] at HWX
     have HX2:=Lib.hid (And.intro htk (And.intro hkeep hy))
     clear hx htk hlt hkeep hy
     go_wp2_with (go_at_call 17;fail)
     refine (HWX.out wr).mono ?_
     rintro e w' ⟨rfl,hw⟩
     obtain rfl:wr=w':=hw.symm
     clear hc
     by_cases hy0:y=0
     ·subst hy0
      go_wp2
      go_roundg g'
      case measure=>omega
      case rel=>
       refine ⟨j+1,by congr 1,by omega,Lib.hid ⟨?_,HI.out.2⟩⟩
       rw [HX2.out.1,Ux.wF_snoc,HX2.out.2.1,if_neg (by decide),List.append_nil]
       exact HI.out.1
     ·have q0:((y:Int)==0)=false:=by simpa using hy0
      have q1:decide (0<y)=true:=by simp;omega
      have HQ1:=Lib.hid q1
      have hsz:(wF false q (l2.take j)).length≤j:=Nat.le_trans (Ux.wF_len _ _ _) (by simp;omega)
      obtain ⟨r,w4,hrun,hG2,hT3⟩:=appI HI.out.1 1 [Value.int .i64 (y:Int)] rfl (fun u hu=>by rw [List.mem_singleton.1 hu];rfl) HI.out.2.size (by rw [Ux.iv_length,Ux.sv_length];omega)
      have HR2:=Lib.hid (And.intro hrun (And.intro hG2 hT3))
      clear hsz hrun hG2 hT3 q1 hy0
      go_wp2_with (at_builtin;refine Ux.wpList_app (v1:=u12) (x1:= .slice (some ⟨_,0,none⟩) 1 1) rfl _ _ _ _ rfl rfl rfl (HR2.out.1 _) ?_)
      go_roundg g'
      case measure=>omega
      case rel=>
       refine ⟨j+1,by congr 1,by omega,Lib.hid ⟨?_,?_⟩⟩
       ·rw [HX2.out.1,Ux.wF_snoc,HX2.out.2.1,HQ1.out,if_pos rfl,Ux.sv_append,show∀a b,iv (a++b)=iv a++iv b from fun a b=>List.map_append,HX2.out.2.2]
        exact HR2.out.2.1
       ·exact Ux.Touch.own HI.out.2 (Nat.le_refl _) HR2.out.2.2
    ·obtain rfl:j=n2:=by omega
     have j1: ¬(j:Int)<j:=by omega
     have hwl:wF false q (l2.take j)=wF false q l2:=by rw [List.take_of_length_le (by have:=HH.out.2.2.2;omega)]
     rw [hwl,HX.out.1] at HI
     have HG2:=HI.out.1.row
     obtain ⟨a4,c4,rfl,hc4⟩:=HG2.is
     obtain ⟨_,_,e5,hc3⟩:=(H3.out.1.touch0 HI.out.2).is
     rw [Ux.iv_length,HX.out.2.1] at e5
     cases e5
     rw [Ux.iv_length,HX.out.2.2.1] at HI⊢
     have HC:=Lib.hid (And.intro hc3 (And.intro hc4 (H3.out.2.2.trans HI.out.2 fun _ _ f=>f)))
     clear hwl HG2 hc3 hc4 HI hlt
     go_wp2_with (fail)
     obtain ⟨w4,hw4⟩: ∃w,wr=w:=⟨_,rfl⟩
     rw [hw4] at HC
     go_loopg [17] (min m1 m2) (fun gk s17 wr=> ∃k:Nat,s17= .int .i64 k∧k+gk=min m1 m2∧Hid (cmpL (X1.drop k) (X2.drop k)=R∧Ux.Touch (fun _=>False) w4 wr))
     case atStart=>
      subst hw4
      exact ⟨0,rfl,by omega,Lib.hid ⟨HX.out.2.2.2,Ux.Touch.refl _ _⟩⟩
     case round=>
      clear hw4
      obtain ⟨k,rfl,hkg,HI⟩:=hrel
      have k0:(0:Int)≤k:=by omega
      by_cases hlt:k<m1∧k<m2
      ·obtain ⟨g',rfl⟩: ∃g',gk=g'+1:=⟨gk-1,by omega⟩
       have p1:(k:Int)<m1:=by omega
       have p2:(k:Int)<m2:=by omega
       have p3:decide ((k:Int)<m1)=true:=by simp;omega
       have p4:decide ((k:Int)<m2)=true:=by simp;omega
       have p5:decide (k<m1)=true:=by simp;omega
       have p6:decide (k<m2)=true:=by simp;omega
       obtain ⟨x,hx⟩: ∃x,X1[k]? =some x:=⟨_,List.getElem?_eq_getElem (by have:=HX.out.2.1;omega)⟩
       obtain ⟨y,hy⟩: ∃y,X2[k]? =some y:=⟨_,List.getElem?_eq_getElem (by have:=HX.out.2.2.1;omega)⟩
       obtain ⟨ga,rfl,_,d0⟩:=HC.out.1 k _ (Ux.iv_get hx)
       obtain ⟨gb,rfl,_,d1⟩:=HC.out.2.1 k _ (Ux.iv_get hy)
       have HCC:=Lib.hid fun W (T2:Ux.Touch (fun _=>False) w4 W)=>And.intro (T2.cell d0 (fun f=>f)) (T2.cell d1 (fun f=>f))
       have HD:=Lib.hid (cmpL_drop hx hy)
       clear hx hy hlt d0 d1
       obtain ⟨d0,d1⟩:=HCC.out wr HI.out.2
       go_upto_region 18 with (fail)
       refine Ux.wpr (fun _ w'=>w'.cell? ⟨ga,k,none⟩=some (.int .i64 x)∧w'.cell? ⟨gb,k,none⟩=some (.int .i64 y)) (.q [0,1,2,4,5,6] (.h false [3,7] (.q [8] (.line [])))) ?_;repeat ((with_reducible refine Ux.qg ?_);refine Ux.qu ?_)
       clear d0 d1
       have hxy:x<y∨y<x∨x=y:=by omega
       rcases hxy with h|h|rfl
       ·have hc:cmpI x y= -1:=by unfold cmpI;rw [if_pos h]
        have HXC:=Lib.hid hc
        have h2:(x !=y)=true:=by simp;omega
        clear hc
        repeat ((with_reducible refine Ux.qg ?_);refine Ux.qu ?_)
        go_upto_region 19 with (fail)
        obtain ⟨d0,d1⟩:=HCC.out wr.drew HI.out.2.drew
        refine Ux.wpr (fun _ w'=>w'.cell? ⟨ga,k,none⟩=some (.int .i64 x)∧w'.cell? ⟨gb,k,none⟩=some (.int .i64 y)) (.q [0,1,2,4,5,6] (.h false [3,7] (.q [8] (.line [])))) ?_;repeat ((with_reducible refine Ux.qg ?_);refine Ux.qu ?_)
        clear d0 d1
        repeat ((with_reducible refine Ux.qg ?_);refine Ux.qu ?_)
        go_wp2
        go_returns
        refine ⟨?_,HC.out.2.2.trans HI.out.2.drew.drew fun _ _ f=>f⟩
        rw [←HI.out.1,HD.out,HXC.out,if_neg (by decide)]
        rfl
       ·have hc:cmpI x y=1:=by unfold cmpI;rw [if_neg (by omega),if_pos h]
        have HXC:=Lib.hid hc
        have h2:(x !=y)=true:=by simp;omega
        have h3: ¬x<y:=by omega
        clear hc
        repeat ((with_reducible refine Ux.qg ?_);refine Ux.qu ?_)
        go_upto_region 19 with (fail)
        obtain ⟨d0,d1⟩:=HCC.out wr.drew HI.out.2.drew
        refine Ux.wpr (fun _ w'=>w'.cell? ⟨ga,k,none⟩=some (.int .i64 x)∧w'.cell? ⟨gb,k,none⟩=some (.int .i64 y)) (.q [0,1,2,4,5,6] (.h false [3,7] (.q [8] (.line [])))) ?_;repeat ((with_reducible refine Ux.qg ?_);refine Ux.qu ?_)
        clear d0 d1
        repeat ((with_reducible refine Ux.qg ?_);refine Ux.qu ?_)
        go_wp2
        go_returns
        refine ⟨?_,HC.out.2.2.trans HI.out.2.drew.drew fun _ _ f=>f⟩
        rw [←HI.out.1,HD.out,HXC.out,if_neg (by decide)]
        rfl
       ·have h2:(x !=x)=false:=by simp
        repeat ((with_reducible refine Ux.qg ?_);refine Ux.qu ?_)
        go_wp2
        go_roundg g'
        case measure=>omega
        case rel=>
         refine ⟨k+1,by congr 1,by omega,Lib.hid ⟨?_,HI.out.2.drew⟩⟩
         rw [←HI.out.1,HD.out,if_pos (Ux.cmpI_zero.2 rfl)]
      ·have hk:k=min m1 m2:=by omega
       have h3:m1<m2∨m2<m1∨m1=m2:=by omega
       rcases h3 with h|h|h
       ·obtain rfl:k=m1:=by omega
        have p1: ¬(k:Int)<k:=by omega
        have p2:(k:Int)<m2:=by omega
        have hR:R= -1:=by
         rw [←HI.out.1,cmpL_end HX.out.2.1 (by have:=HX.out.2.2.1;omega),if_pos (by have:=HX.out.2.2.1;omega)]
        subst hR
        clear hlt hk
        go_wp2
        go_returns
        exact ⟨rfl,HC.out.2.2.trans HI.out.2 fun _ _ f=>f⟩
       ·obtain rfl:k=m2:=by omega
        have p1:(k:Int)<m1:=by omega
        have p2: ¬(k:Int)<k:=by omega
        have p3: ¬(m1:Int)<k:=by omega
        have p4:(m1:Int)>k:=by omega
        obtain ⟨x,hx⟩: ∃x,X1[k]? =some x:=⟨_,List.getElem?_eq_getElem (by have:=HX.out.2.1;omega)⟩
        have hR:R=1:=by rw [←HI.out.1,cmpL_over hx (by have:=HX.out.2.2.1;omega)]
        subst hR
        clear hlt hk hx
        go_wp2
        go_returns
        exact ⟨rfl,HC.out.2.2.trans HI.out.2 fun _ _ f=>f⟩
       ·subst h
        obtain rfl:k=m1:=by omega
        have p1: ¬(k:Int)<k:=by omega
        have p3: ¬(k:Int)>k:=by omega
        have hR:R=0:=by
         rw [←HI.out.1,cmpL_end HX.out.2.1 (by have:=HX.out.2.2.1;omega),if_neg (by have:=HX.out.2.2.1;omega)]
        subst hR
        clear hlt hk
        go_wp2
        go_returns
        exact ⟨rfl,HC.out.2.2.trans HI.out.2 fun _ _ f=>f⟩
end Go.Proofs.YtclffhpdekepkaaGreatDoor
namespace Go.Proofs.YtclffhpdekepkaaGreatDoor
open Go.RowKit
open Ux (Row Ent sv ev SameE rootT elemsE)
open Ux.Sign (cp raw signs)
open Ux.Rules (Rul parseS)
def aw7T:List Ent:=(applyT (rootT 132) [] [⟨1,[99],[]⟩,⟨2,[99,104],[]⟩]).2
theorem aw7_lit:signs (⟨#[38,32,99,32,60,32,99,104]⟩:ByteArray).data.toList= [38,32,99,32,60,32,99,104]:=Ux.Sign.signs_ascii _ (by decide)
theorem aw7_ch:signs (⟨#[99,104]⟩:ByteArray).data.toList= [99,104]:=Ux.Sign.signs_ascii _ (by decide)
theorem aw7_d:signs (⟨#[100]⟩:ByteArray).data.toList= [100]:=Ux.Sign.signs_ascii _ (by decide)
theorem aw7_parse:parseS [38,32,99,32,60,32,99,104]=([⟨1,[99],[]⟩,⟨2,[99,104],[]⟩],none):=Ux.parse_pair (by unfold Ux.letC;omega) (by unfold Ux.letC;omega) (by unfold Ux.letC;omega)
theorem aw7_ok:(applyT (rootT 132) [] [⟨1,[99],[]⟩,⟨2,[99,104],[]⟩]).1=0:=by decide+kernel
theorem aw7_e1:elemsE aw7T [99,104]= [17899524]:=by decide+kernel
theorem aw7_e2:elemsE aw7T [100]= [18423812]:=by decide+kernel
set_option maxHeartbeats 8000000 in
set_option maxRecDepth 100000 in
theorem awake7_ (w:World) (hT:Tabs w):Calls Tryz.prog 12 #[] w fun e w'=>e= .returned (.bool true)∧Ux.Touch (fun _=>False) w w':=by
 have hR:=readR_ ⟨#[38,32,99,32,60,32,99,104]⟩ w (by decide) hT
 rw [aw7_lit] at hR
 unfold ReadR at hR
 simp only [aw7_parse,aw7_ok] at hR
 have HR:=Lib.hid hR
 have HT:=Lib.hid hT
 clear hR hT
 go_enter Tryz.func12,Tryz.ntmps12
 go_wp2_with (go_at_call 9;fail)
 refine HR.out.mono ?_
 rintro e w1 ⟨h,T1⟩
 rw [if_neg (by decide)] at h
 rcases h with ⟨h,_⟩|⟨_,B,mb,E,rfl,hTA,hS⟩
 ·exact absurd rfl h
 have hel: ∀s,elemsE E s=elemsE aw7T s:=fun s=>Ux.elemsE_congr (Ux.findE_perm hTA.1.1.1 hS.1) _
 have HE1:=Lib.hid fun W (T:Ux.Touch (fun _=>False) w1 W)=>elements_ B mb E ⟨#[99,104]⟩ W (hTA.touch0 T) (HT.out.touch (T1.trans T fun _ _ f=>f)) (by decide)
 have HE2:=Lib.hid fun W (T:Ux.Touch (fun _=>False) w1 W)=>elements_ B mb E ⟨#[100]⟩ W (hTA.touch0 T) (HT.out.touch (T1.trans T fun _ _ f=>f)) (by decide)
 rw [aw7_ch,hel,aw7_e1] at HE1
 rw [aw7_d,hel,aw7_e2] at HE2
 have H1:=Lib.hid T1
 clear T1 hTA hS hel
 go_wp2_with (go_at_call 30;fail)
 refine (HE1.out w1 (Ux.Touch.refl _ _)).mono ?_
 rintro e w2 ⟨u,rfl,hu,T2⟩
 obtain ⟨a1,c1,hu1,hc1⟩:=hu.is
 have hu1:u= .slice a1 1 c1:=hu1
 subst hu1
 obtain ⟨g1,rfl,_,ha⟩:=hc1 0 _ rfl
 have H2:=Lib.hid (And.intro T2 ha)
 clear T2 ha hc1 hu
 go_wp2_with (go_at_call 30;fail)
 refine (HE2.out w2 H2.out.1).mono ?_
 rintro e w3 ⟨u,rfl,hu,T3⟩
 obtain ⟨a2,c2,hu1,hc2⟩:=hu.is
 have hu1:u= .slice a2 1 c2:=hu1
 subst hu1
 obtain ⟨g2,rfl,_,hb⟩:=hc2 0 _ rfl
 have ha:=T3.cell H2.out.2 (fun f=>f)
 have H3:=Lib.hid (H1.out.trans (H2.out.1.trans T3 fun _ _ f=>f) fun _ _ f=>f)
 clear T3 hc2 hu
 go_wp2_with (go_at_call 17;fail)
 refine (weight_ 1 17899524 1 rfl (.inl rfl) (by decide) w3).mono ?_
 rintro e w4 ⟨rfl,hw4⟩
 obtain rfl:w3=w4:=hw4.symm
 rw [show wt 1 17899524=273 by decide+kernel]
 clear ha
 go_wp2_with (go_at_call 17;fail)
 refine (weight_ 1 18423812 1 rfl (.inl rfl) (by decide) w3).mono ?_
 rintro e w4 ⟨rfl,hw4⟩
 obtain rfl:w3=w4:=hw4.symm
 rw [show wt 1 18423812=281 by decide+kernel]
 clear hb
 go_wp2
 go_returns
 exact ⟨rfl,H3.out⟩
end Go.Proofs.YtclffhpdekepkaaGreatDoor
