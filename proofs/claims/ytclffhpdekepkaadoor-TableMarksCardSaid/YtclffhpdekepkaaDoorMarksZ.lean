/- A part of the proof that the statement holds for every input that it names. No other condition. -/
import Derived.Test.YtclffhpdekepkaaDoorTableAZ
import Derived.Test.YtclffhpdekepkaaDoorUxKeyAZ
set_option linter.unusedVariables false
set_option linter.unusedSimpArgs false
namespace Go.Proofs.YtclffhpdekepkaaDoor
open Go.RowKit
open Ux (Row Ent ev sv iv elemsE rootE)
open Ux.Sign (signs)
def mkC (m:Nat):Nat:= [768,769,770,771,776,778,807].getD m 0
def mkL (m:Nat):List (Nat×Nat):= [[(65,192),(69,200),(73,204),(79,210),(85,217)],[(65,193),(69,201),(73,205),(79,211),(85,218),(89,221)],[(65,194),(69,202),(73,206),(79,212),(85,219)],[(65,195),(78,209),(79,213)],[(65,196),(69,203),(73,207),(79,214),(85,220)],[(65,197)],[(67,199)]].getD m []
def mkM (m:Nat):List UInt8:= [204,UInt8.ofNat ([128,129,130,131,136,138,167].getD m 0)]
def mkB (l m:Nat):List UInt8:=UInt8.ofNat l::mkM m
def mkD (c:Nat):List UInt8:= [UInt8.ofNat (192+c/64),UInt8.ofNat (128+c % 64)]
open Ux.Sign (put cp) in
theorem signs_cps {l:List Nat} (h: ∀c∈l,c<55296):signs (put l)=l:=by
 have h1:=Ux.Sign.signs_put_cp (fun c hc=>Or.inl (h c hc): ∀c∈l,cp c) []
 rw [List.append_nil] at h1
 rw [h1]
 unfold signs
 rw [List.append_nil]
theorem marks_put: ∀m,m<7→∀i,i<(mkL m).length→∀b,b<2→(Ux.Sign.put [((mkL m).getD i (0,0)).1+32*b,mkC m]==mkB (((mkL m).getD i (0,0)).1+32*b) m)=true∧(Ux.Sign.put [((mkL m).getD i (0,0)).2+32*b]==mkD (((mkL m).getD i (0,0)).2+32*b))=true:=by decide+kernel
theorem marks_num: ∀m,m<7→∀i,i<(mkL m).length→65≤((mkL m).getD i (0,0)).1∧((mkL m).getD i (0,0)).1≤90∧192≤((mkL m).getD i (0,0)).2∧((mkL m).getD i (0,0)).2≤222:=by decide+kernel
theorem marks_one: ∀m,m<7→∀i,i<(mkL m).length→∀b,b<2→elemsE rootE [((mkL m).getD i (0,0)).1+32*b,mkC m]=elemsE rootE [((mkL m).getD i (0,0)).2+32*b]∧(elemsE rootE [((mkL m).getD i (0,0)).2+32*b]).length=2∧wt 1 ((elemsE rootE [((mkL m).getD i (0,0)).2+32*b]).getD 1 0)=0∧32<wt 2 ((elemsE rootE [((mkL m).getD i (0,0)).2+32*b]).getD 1 0)∧((elemsE rootE [((mkL m).getD i (0,0)).2+32*b]).all fun x=>decide (x<4294967296))=true:=by decide+kernel
set_option maxHeartbeats 4000000 in
set_option maxRecDepth 100000 in
theorem one2_ (c:Nat) (h1:128≤c) (h2:c<256) (S:ByteArray) (hS:(⟨(mkD c).toArray⟩:ByteArray)=S) (w:World):
 Calls Tryd.prog 6 #[.int .i64 (c:Int)] w fun e w'=>e= .returned (.string S)∧Ux.Touch (fun _=>False) w w':=by
 have hv:(convert 27 9 (.slice (some ⟨w.heap.size,0,none⟩) 2 2)).run Tryd.prog (w.alloc (.cells #[.int .u8 (192+(c:Int)/64),.int .u8 (128+(c:Int) % 64)] 5))= .ok (.string S) (w.alloc (.cells #[.int .u8 (192+(c:Int)/64),.int .u8 (128+(c:Int) % 64)] 5)):=by
  rw [←hS]
  refine run_convert_bytes_back (P:=Tryd.prog) _ 27 9 5 ⟨w.heap.size,0,none⟩ 2 (mkD c) Tryd.underlying27 Tryd.underlying5 Tryd.underlying9 fun j hj=> ?_
  have hr:=heap_alloc_new w (.cells #[.int .u8 (192+(c:Int)/64),.int .u8 (128+(c:Int) % 64)] 5)
  have hj2:j<2:=hj
  have e:(⟨w.heap.size,0,none⟩:Addr).add j=⟨w.heap.size,j,none⟩:=by rw [Addr.add_mid];simp
  rw [e,cell_of_row _ w.heap.size j _ _ _ hr]
  have n1:(UInt8.ofNat (192+c/64)).toNat=192+c/64:=by rw [UInt8.toNat_ofNat'];omega
  have n2:(UInt8.ofNat (128+c % 64)).toNat=128+c % 64:=by rw [UInt8.toNat_ofNat'];omega
  match j,hj2 with
  |0,_=>
   show some (Value.int .u8 (192+(c:Int)/64))=some (Value.int .u8 ((UInt8.ofNat (192+c/64)).toNat:Int))
   rw [n1]
   congr 2
  |1,_=>
   show some (Value.int .u8 (128+(c:Int) % 64))=some (Value.int .u8 ((UInt8.ofNat (128+c % 64)).toNat:Int))
   rw [n2]
   congr 2
 have HV:=Lib.hid hv
 have p0:(0:Int)≤c:=by omega
 have j1: ¬((c:Int)≥1114112):=by omega
 have j2: ¬((c:Int)<128):=by omega
 have j3:(c:Int)<2048:=by omega
 clear hv hS h1 h2
 go_enter Tryd.func6,Tryd.ntmps6
 go_wp2_with (fail)
 rw [HV.out]
 go_wp2
 go_ret
 exact ⟨rfl,(Ux.Touch.refl _ w).alloc _⟩
def mkS (m:Nat):ByteArray:=⟨(mkM m).toArray⟩
def ltB (m:Nat):ByteArray:=⟨((mkL m).map fun x=>UInt8.ofNat x.1).toArray⟩
def mkObjs (q:Nat):List Obj:= [.cells #[.string ⟨#[204,128]⟩,.string ⟨#[204,129]⟩,.string ⟨#[204,130]⟩,.string ⟨#[204,131]⟩,.string ⟨#[204,136]⟩,.string ⟨#[204,138]⟩,.string ⟨#[204,167]⟩] 9,.cells #[.string ⟨#[65,69,73,79,85]⟩,.string ⟨#[65,69,73,79,85,89]⟩,.string ⟨#[65,69,73,79,85]⟩,.string ⟨#[65,78,79]⟩,.string ⟨#[65,69,73,79,85]⟩,.string ⟨#[65]⟩,.string ⟨#[67]⟩] 9,.cells #[.int .i64 192,.int .i64 200,.int .i64 204,.int .i64 210,.int .i64 217] 3,.cells #[.int .i64 193,.int .i64 201,.int .i64 205,.int .i64 211,.int .i64 218,.int .i64 221] 3,.cells #[.int .i64 194,.int .i64 202,.int .i64 206,.int .i64 212,.int .i64 219] 3,.cells #[.int .i64 195,.int .i64 209,.int .i64 213] 3,.cells #[.int .i64 196,.int .i64 203,.int .i64 207,.int .i64 214,.int .i64 220] 3,.cells #[.int .i64 197] 3,.cells #[.int .i64 199] 3,.cells #[.slice (some ⟨q+1+1,0,none⟩) 5 5,.slice (some ⟨q+1+1+1,0,none⟩) 6 6,.slice (some ⟨q+1+1+1+1,0,none⟩) 5 5,.slice (some ⟨q+1+1+1+1+1,0,none⟩) 3 3,.slice (some ⟨q+1+1+1+1+1+1,0,none⟩) 5 5,.slice (some ⟨q+1+1+1+1+1+1+1,0,none⟩) 1 1,.slice (some ⟨q+1+1+1+1+1+1+1+1,0,none⟩) 1 1] 25]
def allocL (w:World):List Obj→World
 | []=>w
 |o::l=>allocL (w.alloc o) l
theorem allocL_touch (l:List Obj): ∀w:World,Ux.Touch (fun _=>False) w (allocL w l):=by
 induction l with
 |nil=>exact fun w=>Ux.Touch.refl _ _
 |cons o l ih=>exact fun w=>((Ux.Touch.refl _ w).alloc o).trans (ih _) fun _ _ f=>f
theorem allocL_at (l:List Obj): ∀(w:World) (k:Nat) (o:Obj),l[k]? =some o→(allocL w l).heap[w.heap.size+k]? =some o:=by
 induction l with
 |nil=>exact fun w k o h=>by simp at h
 |cons x l ih=>
  intro w k o h
  show (allocL (w.alloc x) l).heap[w.heap.size+k]? =some o
  cases k with
  |zero=>
   cases h
   have hlt:w.heap.size<(w.alloc x).heap.size:=by rw [World.size_alloc];omega
   rw [Nat.add_zero,(allocL_touch l (w.alloc x)).block _ hlt (fun f=>f)]
   exact heap_alloc_new w x
  |succ k=>
   have h2:=ih (w.alloc x) k o (by simpa using h)
   rw [World.size_alloc] at h2
   rw [show w.heap.size+(k+1)=w.heap.size+1+k by omega]
   exact h2
theorem marks_ext: ∀m,m<7→∀i,i<(mkL m).length→((ltB m).data.extract i (i+1)== #[UInt8.ofNat ((mkL m).getD i (0,0)).1])=true:=by decide+kernel
theorem marks_ext' {m:Nat} (hm:m<7) {i:Nat} (hi:i<(mkL m).length):(ltB m).extract i (i+1)=⟨#[UInt8.ofNat ((mkL m).getD i (0,0)).1]⟩:=by
 apply ByteArray.ext
 rw [ByteArray.data_extract]
 exact eq_of_beq (marks_ext m hm i hi)
theorem marks_mem (W:World) (q:Nat) (h: ∀k o,(mkObjs q)[k]? =some o→W.heap[q+k]? =some o) (m:Nat) (hm:m<7):
 W.cell? ⟨q,m,none⟩=some (.string (mkS m))∧W.cell? ⟨q+1,m,none⟩=some (.string (ltB m))∧∃gm,W.cell? ⟨q+1+1+1+1+1+1+1+1+1,m,none⟩=some (.slice (some ⟨gm,0,none⟩) (mkL m).length (mkL m).length)∧∀i,i<(mkL m).length→W.cell? ⟨gm,i,none⟩=some (.int .i64 (((mkL m).getD i (0,0)).2:Nat)):=by
 have c: ∀k xs t,(mkObjs q)[k]? =some (.cells xs t)→∀j,W.cell? ⟨q+k,j,none⟩=xs[j]? :=fun k xs t hk j=>by rw [cell_of_row W (q+k) j _ _ (0,0) (h k _ hk)]
 have hlist: ∀k (t:TypeId),(mkObjs q)[k+2]? =some (.cells ((mkL k).map fun x=>Value.int .i64 (x.2:Nat)).toArray t)→∀i,i<(mkL k).length→W.cell? ⟨q+(k+2),i,none⟩=some (.int .i64 (((mkL k).getD i (0,0)).2:Nat)):=fun k t hk i hi=>by
  rw [c (k+2) _ t hk i,List.getElem?_toArray,List.getElem?_map,List.getElem?_eq_getElem hi,List.getD_eq_getElem?_getD,List.getElem?_eq_getElem hi]
  rfl
 match m,hm with
 |0,_=>exact ⟨c 0 _ _ rfl 0,c 1 _ _ rfl 0,q+(0+2),c 9 _ _ rfl 0,hlist 0 3 rfl⟩
 |1,_=>exact ⟨c 0 _ _ rfl 1,c 1 _ _ rfl 1,q+(1+2),c 9 _ _ rfl 1,hlist 1 3 rfl⟩
 |2,_=>exact ⟨c 0 _ _ rfl 2,c 1 _ _ rfl 2,q+(2+2),c 9 _ _ rfl 2,hlist 2 3 rfl⟩
 |3,_=>exact ⟨c 0 _ _ rfl 3,c 1 _ _ rfl 3,q+(3+2),c 9 _ _ rfl 3,hlist 3 3 rfl⟩
 |4,_=>exact ⟨c 0 _ _ rfl 4,c 1 _ _ rfl 4,q+(4+2),c 9 _ _ rfl 4,hlist 4 3 rfl⟩
 |5,_=>exact ⟨c 0 _ _ rfl 5,c 1 _ _ rfl 5,q+(5+2),c 9 _ _ rfl 5,hlist 5 3 rfl⟩
 |6,_=>exact ⟨c 0 _ _ rfl 6,c 1 _ _ rfl 6,q+(6+2),c 9 _ _ rfl 6,hlist 6 3 rfl⟩
 |n+7,h=>exact absurd h (by omega)
theorem and16m (a:Int): ∃m:Nat,bits .and .i64 a 65535=(m:Int)∧m<65536:=by
 have h:(BitVec.ofInt 64 a&&&BitVec.ofInt 64 65535).toNat<65536:=by
  rw [BitVec.toNat_and,show (BitVec.ofInt 64 65535).toNat=2^16-1 from rfl,Nat.and_two_pow_sub_one_eq_mod]
  exact Nat.mod_lt _ (by decide)
 refine ⟨(BitVec.ofInt 64 a&&&BitVec.ofInt 64 65535).toNat,?_,h⟩
 show IntKind.i64.wrap ((BitVec.ofInt 64 a&&&BitVec.ofInt 64 (65535:Int)).toNat:Nat)=_
 rw [IntKind.wrap_i64]
 omega
theorem marks_len: ∀m,m<7→1≤(mkL m).length∧(mkL m).length≤6:=by decide
theorem ltB_size (m:Nat):(ltB m).size=(mkL m).length:=by
 show (((mkL m).map fun x=>UInt8.ofNat x.1).toArray).size=_
 simp
theorem mkC_lt (m:Nat):mkC m<55296:=by
 have key: ∀m,m<7→mkC m<55296:=by decide
 rcases Nat.lt_or_ge m 7 with h|h
 ·exact key m h
 ·unfold mkC
  rw [List.getD_eq_getElem?_getD,List.getElem?_eq_none (by simpa using h)]
  decide
theorem conv1m (W:World) (b k:Nat) (Z:ByteArray) (z:Int) (hz:z=k) (hk:k<256) (hZ:(⟨#[UInt8.ofNat k]⟩:ByteArray)=Z) (hb:W.heap[b]? =some (.cells #[.int .u8 z] 5 (0,0))):(convert 27 9 (.slice (some ⟨b,0,none⟩) 1 1)).run Tryd.prog W= .ok (.string Z) W:=by
 rw [←hZ]
 refine run_convert_bytes_back (P:=Tryd.prog) W 27 9 5 ⟨b,0,none⟩ 1 [UInt8.ofNat k] Tryd.underlying27 Tryd.underlying5 Tryd.underlying9 fun j hj=> ?_
 obtain rfl:j=0:=by simp at hj;exact hj
 have e:(⟨b,0,none⟩:Addr).add 0=⟨b,0,none⟩:=by rw [Addr.add_mid]
 rw [e,cell_of_row W b 0 _ _ _ hb,hz]
 show some _=some (Value.int .u8 ((UInt8.ofNat k).toNat:Int))
 rw [UInt8.toNat_ofNat',show k % 2^8=k by omega]
 rfl
set_option maxHeartbeats 16000000 in
set_option maxRecDepth 100000 in
theorem marksLaw_ (a k:Int) (w:World) (hT:Tabs w) (hD:TabD w) (ha:0≤a∧a≤255) (_hk: -9223372036854775808≤k∧k≤9223372036854775807):
 Calls Tryd.prog 3 #[.int .u8 a,.int .i64 k] w fun e w'=>e= .returned (.bool true)∧Ux.Touch (fun _=>False) w w':=by
 have HT:=Lib.hid (And.intro hT hD)
 clear hT hD
 go_enter Tryd.func3,Tryd.ntmps3
 go_wp2_with (go_at_call 4;fail)
 refine (rootT_ w).mono ?_
 rintro e w1 ⟨B,mb,rfl,hB,_,T1⟩
 have H1:=Lib.hid (And.intro hB T1)
 clear hB T1
 obtain ⟨ma,hma⟩: ∃m:Nat,a=m:=⟨a.toNat,by omega⟩
 subst hma
 have a0:(0:Int)≤ma:=by omega
 have a1:(ma:Int)≤255:=by omega
 obtain ⟨m,hrm,hm⟩: ∃m:Nat,(bits .and .i64 k 65535).tmod 7=(m:Nat)∧m<7:=by
  obtain ⟨x,hx,_⟩:=and16m k
  rw [hx,Int.tmod_eq_emod_of_nonneg (by omega)]
  exact ⟨x % 7,by omega,by omega⟩
 have hlen:=marks_len m hm
 obtain ⟨n,hn⟩: ∃n,(mkL m).length=n:=⟨_,rfl⟩
 rw [hn] at hlen
 obtain ⟨i,hin,hi⟩: ∃i:Nat,(ma:Int).tmod n=(i:Nat)∧i<n:=by
  rw [Int.tmod_eq_emod_of_nonneg (by omega)]
  exact ⟨ma % n,by omega,Nat.mod_lt _ (by omega)⟩
 obtain ⟨bb,hbb⟩: ∃b,((bits .and .u8 (ma:Int) 128)==128)=b:=⟨_,rfl⟩
 obtain ⟨l,hl⟩: ∃l,((mkL m).getD i (0,0)).1=l:=⟨_,rfl⟩
 obtain ⟨c,hc⟩: ∃c,((mkL m).getD i (0,0)).2=c:=⟨_,rfl⟩
 obtain ⟨SL,hSL⟩: ∃S,ltB m=S:=⟨_,rfl⟩
 obtain ⟨MK,hMK⟩: ∃S,mkS m=S:=⟨_,rfl⟩
 obtain ⟨L1,hL1⟩: ∃S:ByteArray,(⟨#[UInt8.ofNat l]⟩:ByteArray)=S:=⟨_,rfl⟩
 have hi':i<(mkL m).length:=by rw [hn];exact hi
 have hext:=marks_ext' hm hi'
 rw [hSL,hl,hL1] at hext
 have hnum:=marks_num m hm i hi'
 rw [hl,hc] at hnum
 have zSL:SL.size=n:=by rw [←hSL,←hn];exact ltB_size m
 have zMK:MK.size=2:=by rw [←hMK];rfl
 have zL1:L1.size=1:=by rw [←hL1];rfl
 obtain ⟨q,hq⟩: ∃q,w1.heap.size=q:=⟨_,rfl⟩
 obtain ⟨W,hW⟩: ∃W,allocL w1 (mkObjs q)=W:=⟨_,rfl⟩
 have tW:Ux.Touch (fun _=>False) w1 W:=by rw [←hW];exact allocL_touch _ _
 obtain ⟨d0,d1,gm,d2,d3⟩:=marks_mem W q (fun k o h=>by rw [←hW,←hq];rw [←hq] at h;exact allocL_at _ w1 k o h) m hm
 have d3:=d3 i hi'
 rw [hn] at d2
 rw [hSL] at d1
 rw [hMK] at d0
 rw [hc] at d3
 have HW:=Lib.hid (And.intro hW (And.intro hq tW))
 have HM:=Lib.hid (And.intro hm (And.intro hi' (And.intro hl (And.intro hc (And.intro hMK (And.intro hL1 hnum))))))
 have HD:=Lib.hid fun W' (T:Ux.Touch (fun _=>False) W W')=>And.intro (T.cell d0 (fun f=>f)) (And.intro (T.cell d1 (fun f=>f)) (And.intro (T.cell d2 (fun f=>f)) (T.cell d3 (fun f=>f))))
 have i0:(0:Int)≤i:=by omega
 have i1:(i:Int)<n:=by omega
 have i2:(i:Int)+1≤n:=by omega
 have n0:((n:Int)==0)=false:=beq_false_of_ne (by omega)
 have n1:(n:Int)≤6:=by omega
 have m0:(0:Int)≤m:=by omega
 have m1:(m:Int)<7:=by omega
 clear ha _hk hlen hn hl hc hSL hMK hL1 hi' hnum hW tW hq hi hm
 go_upto_region 7 with (fail)
 rw [HW.out.2.1]
 show Code.wp _ _ _ _ (allocL w1 (mkObjs q))
 rw [HW.out.1]
 go_upto_region 10 with (fail)
 obtain ⟨d0,d1,d2,d3⟩:=HD.out W (Ux.Touch.refl _ _)
 refine Ux.wpr (fun _ w'=>w'.cell? ⟨q+1,m,none⟩=some (.string SL)∧w'.cell? ⟨q+1+1+1+1+1+1+1+1+1,m,none⟩=some (.slice (some ⟨gm,0,none⟩) n n)∧w'.cell? ⟨gm,i,none⟩=some (.int .i64 (c:Int))) (.q [0,1,2,4,5,6,8,9,10,12] (.h false [3,11] (.q [7,13,15] (.h false [14] (.line [16]))))) ?_;repeat ((with_reducible refine Ux.qg ?_);refine Ux.qu ?_)
 clear d0 d1 d2 d3
 obtain ⟨b,hb⟩: ∃b:Nat,b=(if bb=true then 1 else 0):=⟨_,rfl⟩
 have hb2:b<2:=by rw [hb];split<;>omega
 obtain ⟨hm,hi',hl,hc,hMK,hL1,hl1,hl2,hc1,hc2⟩:=HM.out
 obtain ⟨l2,hl3⟩: ∃x,l+32*b=x:=⟨_,rfl⟩
 obtain ⟨c3,hc3⟩: ∃x,c+32*b=x:=⟨_,rfl⟩
 obtain ⟨L2,hL2⟩: ∃S:ByteArray,(⟨#[UInt8.ofNat l2]⟩:ByteArray)=S:=⟨_,rfl⟩
 obtain ⟨S2,hS2⟩: ∃S:ByteArray,(⟨(mkD c3).toArray⟩:ByteArray)=S:=⟨_,rfl⟩
 obtain ⟨JT,hJT⟩: ∃S:ByteArray,L2++MK=S:=⟨_,rfl⟩
 have hput:=marks_put m hm i hi' b hb2
 have hone:=marks_one m hm i hi' b hb2
 rw [hl,hc,hl3,hc3] at hput
 rw [hl,hc,hl3,hc3] at hone
 obtain ⟨o1,o2,o3,o4,o5⟩:=hone
 obtain ⟨x,y,hxy⟩: ∃x y,elemsE rootE [c3]= [x,y]:=by
  match h:elemsE rootE [c3],o2 with
  | [x,y],_=>exact ⟨x,y,rfl⟩
 rw [hxy] at o1 o3 o4 o5
 have sJ:elemsE rootE (signs JT.data.toList)= [x,y]:=by
  have h1:JT.data.toList=mkB l2 m:=by rw [←hJT,←hL2,←hMK,ByteArray.data_append,Array.toList_append];rfl
  rw [h1,←eq_of_beq hput.1,signs_cps,o1]
  intro d hd
  rcases List.mem_cons.1 hd with rfl|hd
  ·omega
  ·rw [List.mem_singleton.1 hd]
   exact mkC_lt m
 have sS:elemsE rootE (signs S2.data.toList)= [x,y]:=by
  have h1:S2.data.toList=mkD c3:=by rw [←hS2]
  rw [h1,←eq_of_beq hput.2,signs_cps,hxy]
  intro d hd
  rw [List.mem_singleton.1 hd]
  omega
 have hx32:x<4294967296∧y<4294967296:=by
  simp only [List.all_cons,List.all_nil,Bool.and_true,Bool.and_eq_true,decide_eq_true_eq] at o5
  exact o5
 have hw1:wt 1 y=0:=o3
 have hw2:32<wt 2 y:=o4
 have zL2:L2.size=1:=by rw [←hL2];rfl
 have zJ:JT.size≤10:=by rw [←hJT,ByteArray.size_append,zL2,zMK];omega
 obtain ⟨W2,hW2⟩: ∃X,W.drew=X:=⟨_,rfl⟩
 have tW2:Ux.Touch (fun _=>False) w1 W2:=by rw [←hW2];exact HW.out.2.2.drew
 have HD2:=Lib.hid fun W' (T:Ux.Touch (fun _=>False) W2 W')=>(HD.out W' (by rw [←hW2] at T;exact (Ux.Touch.refl _ W).trans (Ux.Touch.of_drew T) fun _ _ f=>f)).1
 have HE1:=Lib.hid fun W' (T:Ux.Touch (fun _=>False) W2 W')=>elements_ B mb rootE JT W' (H1.out.1.touch0 (tW2.trans T fun _ _ f=>f)) (HT.out.1.touch (H1.out.2.trans (tW2.trans T fun _ _ f=>f) fun _ _ f=>f)) (by omega)
 have HE2:=Lib.hid fun W' (T:Ux.Touch (fun _=>False) W2 W')=>elements_ B mb rootE S2 W' (H1.out.1.touch0 (tW2.trans T fun _ _ f=>f)) (HT.out.1.touch (H1.out.2.trans (tW2.trans T fun _ _ f=>f) fun _ _ f=>f)) (by rw [←hS2];show 2≤1000000000;decide)
 rw [sJ] at HE1
 rw [sS] at HE2
 have HO:=Lib.hid fun W'=>one2_ c3 (by omega) (by omega) S2 hS2 W'
 have HWT1:=Lib.hid fun W'=>weight_ 1 y 1 rfl (.inl rfl) hx32.2 W'
 have HWT2:=Lib.hid fun W'=>weight_ 2 y 2 rfl (.inr (.inl rfl)) hx32.2 W'
 rw [hw1] at HWT1
 obtain ⟨w2,hw2'⟩: ∃v,wt 2 y=v:=⟨_,rfl⟩
 rw [hw2'] at HWT2 hw2
 have HX:=Lib.hid (And.intro hb (And.intro hl3 (And.intro hc3 (And.intro hL1 (And.intro hL2 (And.intro hl2 (And.intro hc2 hl1)))))))
 have H2:=Lib.hid (H1.out.2.trans tW2 fun _ _ f=>f)
 have ww:(w2:Int)>32:=by omega
 have hxx:((x:Int)==x)=true:=by simp
 have hyy:((y:Int)==y)=true:=by simp
 clear hm hi' hl hc hMK hL1 hl1 hl2 hc1 hc2 hl3 hc3 hL2 hS2 hput o1 o2 o3 o4 o5 hxy sJ sS hx32 hw1 hw2 hw2' hb hb2 tW2 hext zSL
 rw [hW2]
 clear hW2
 go_upto_if 58 with (fail)
 go_cut [12,13] (fun s12 s13 wx=>s12= .string L2∧s13= .int .i64 (c3:Int)∧Ux.Touch (fun _=>False) W2 wx)
 case first=>
  obtain ⟨hb,hl3,hc3,hL1,hL2,hl2,hc2,hl1⟩:=HX.out
  cases bb with
  |false=>
   obtain rfl:L1=L2:=by rw [←hL1,←hL2,←hl3,hb];rfl
   obtain rfl:c=c3:=by rw [←hc3,hb];rfl
   clear hb hl3 hc3 hL1 hL2 hl2 hc2 hl1
   go_wp2_with (fail)
   go_meet
   exact ⟨rfl,rfl,Ux.Touch.refl _ _⟩
  |true=>
   have hiL:0<L1.size:=by omega
   obtain ⟨bx,hbx⟩: ∃y:UInt8,L1[0]'hiL=y:=⟨_,rfl⟩
   have nx:bx.toNat=l:=by
    have h:=Lib.data_getElem? L1 0 hiL
    rw [hbx,←hL1] at h
    cases h
    rw [UInt8.toNat_ofNat']
    omega
   have e3:(c:Int)+32=c3:=by rw [←hc3,hb];simp
   have f0:(0:Int)≤l:=by omega
   have f1:(l:Int)≤90:=by omega
   have f2:(0:Int)≤c:=by omega
   have f3:(c:Int)≤222:=by omega
   have hcv:=conv1m (W2.alloc (.cells #[.int .u8 ((l:Int)+32)] 5)) W2.heap.size l2 L2 ((l:Int)+32) (by rw [←hl3,hb];simp) (by rw [←hl3,hb];simp;omega) hL2 (heap_alloc_new W2 _)
   have HCV:=Lib.hid hcv
   clear hb hl3 hc3 hL1 hL2 hl2 hc2 hl1 hcv
   go_wp2_with (fail)
   rw [HCV.out]
   go_wp2_with (fail)
   go_meet
   exact ⟨rfl,rfl,(Ux.Touch.refl _ _).alloc _⟩
 obtain ⟨rfl,rfl,T3⟩:=hcut
 obtain ⟨w3,hw3⟩: ∃W,wc=W:=⟨_,rfl⟩
 rw [hw3] at T3⊢
 have cM:=HD2.out w3 T3
 have H3:=Lib.hid T3
 clear hw3 T3
 have jj: ¬((9223372036854775807:Int)<1+2):=by decide
 have jn: ¬(9223372036854775807<1+2):=by decide
 go_wp2_with (go_at_call 5;fail)
 refine (HE1.out w3 H3.out).mono ?_
 rintro e w4 ⟨u1,rfl,hu1,T4⟩
 obtain ⟨a1',c1',he1,hq1⟩:=hu1.is
 have he1:u1= .slice a1' 2 c1':=he1
 subst he1
 have r1:=hq1 0 _ rfl
 have r2:=hq1 1 _ rfl
 obtain ⟨g1,rfl,_,r1⟩:=r1
 obtain ⟨_,e1,_,r2⟩:=r2
 cases e1
 have H4:=Lib.hid (And.intro r1 (And.intro r2 (H3.out.trans T4 fun _ _ f=>f)))
 clear hu1 hq1 r1 r2 T4 cM
 go_wp2_with (go_at_call 6;fail)
 refine (HO.out w4).mono ?_
 rintro e w5 ⟨rfl,T5⟩
 have H5:=Lib.hid (And.intro T5 (H4.out.2.2.trans T5 fun _ _ f=>f))
 clear T5
 go_wp2_with (go_at_call 5;fail)
 refine (HE2.out w5 H5.out.2).mono ?_
 rintro e w6 ⟨u2,rfl,hu2,T6⟩
 obtain ⟨a2',c2',he2,hq2⟩:=hu2.is
 have he2:u2= .slice a2' 2 c2':=he2
 subst he2
 have r3:=hq2 0 _ rfl
 have r4:=hq2 1 _ rfl
 obtain ⟨g2,rfl,_,r3⟩:=r3
 obtain ⟨_,e1,_,r4⟩:=r4
 cases e1
 have T46:=H5.out.1.trans T6 fun _ _ f=>f
 have r1:=T46.cell H4.out.1 (fun f=>f)
 have r2:=T46.cell H4.out.2.1 (fun f=>f)
 have H6:=Lib.hid (And.intro (H5.out.2.trans T6 fun _ _ f=>f) fun W' (T:Ux.Touch (fun _=>False) w6 W')=>And.intro (T.cell r1 (fun f=>f)) (And.intro (T.cell r2 (fun f=>f)) (And.intro (T.cell r3 (fun f=>f)) (T.cell r4 (fun f=>f)))))
 clear hu2 hq2 T46 T6
 go_upto_region 18 with (fail)
 refine Ux.wpr (fun _ w'=>w'.cell? ⟨g1,0,none⟩=some (.int .u32 (x:Int))∧w'.cell? ⟨g1,1,none⟩=some (.int .u32 (y:Int))∧w'.cell? ⟨g2,0,none⟩=some (.int .u32 (x:Int))∧w'.cell? ⟨g2,1,none⟩=some (.int .u32 (y:Int))) (.q [0,1,3,4] (.h false [2,5] (.q [6,7,8,9,11,12] (.h false [10,13] (.q [14,15,16,17,18] (.h false [19] (.e 20 true false (.q [21,22,23,24,25] (.h false [26] (.e 27 true false (.q [28,29,30] (.e 31 true false (.q [32] (.line [33])))))))))))))) ?_;repeat ((with_reducible refine Ux.qg ?_);refine Ux.qu ?_)
 clear r1 r2 r3 r4
 have AW:=Lib.hid fun W (T:Ux.Touch (fun _=>False) w W)=>awake5_ W (HT.out.1.touch T) (HT.out.2.touch T)
 go_wp2_with (go_at_call 7;fail)
 refine (HWT1.out _).mono ?_
 rintro e w7 ⟨rfl,hw7⟩
 have T7:Ux.Touch (fun _=>False) w6 w7:=by rw [hw7];exact (Ux.Touch.refl _ _).drew
 have H7:=Lib.hid T7
 clear hw7 T7
 go_wp2_with (fail)
 refine ⟨H6.out.2 _ H7.out,?_⟩
 repeat ((with_reducible refine Ux.qg ?_);refine Ux.qu ?_)
 go_wp2_with (go_at_call 7;fail)
 refine (HWT2.out _).mono ?_
 rintro e w8 ⟨rfl,hw8⟩
 have T8:Ux.Touch (fun _=>False) w6 w8:=by rw [hw8];exact H7.out
 have H8:=Lib.hid T8
 clear hw8 T8
 go_wp2_with (fail)
 refine ⟨H6.out.2 _ H8.out,?_⟩
 repeat ((with_reducible refine Ux.qg ?_);refine Ux.qu ?_)
 go_wp2_with (go_at_call 8;fail)
 refine (AW.out _ (H2.out.trans (H6.out.1.trans H8.out fun _ _ f=>f) fun _ _ f=>f)).mono ?_
 rintro e w9 ⟨rfl,T9⟩
 have H9:=Lib.hid (H8.out.trans T9 fun _ _ f=>f)
 clear T9
 go_wp2_with (fail)
 refine ⟨H6.out.2 _ H9.out,?_⟩
 repeat ((with_reducible refine Ux.qg ?_);refine Ux.qu ?_)
 go_wp2
 go_returns
 exact ⟨rfl,H2.out.trans (H6.out.1.trans H9.out fun _ _ f=>f) fun _ _ f=>f⟩
end Go.Proofs.YtclffhpdekepkaaDoor
