/- A part of the proof that the statement holds for every input that it names. No other condition. -/
import Derived.Test.YtfccjaboicpohaaGreatDoorPutAY
import Derived.Test.YtfccjaboicpohaaGreatDoorMapsAX1Y
import Derived.Test.YtfccjaboicpohaaGreatDoorUxEndsX1Y
set_option linter.unusedVariables false
set_option linter.unusedSimpArgs false
namespace Go.Proofs.YtfccjaboicpohaaGreatDoor
open Go.RowKit
open Ux (Row sv iv ev KGrow NView eP eS eT eV)
def natW (l:List Int):List Nat:=(l.take 12).map Int.toNat
theorem natW_len (l:List Int):(natW l).length=min 12 l.length:=by unfold natW;simp
theorem natW_lt {w:World} {v:Value} {l:List Int} (h:NView .u32 w v l): ∀x∈natW l,x<4294967296:=fun x hx=>by
 unfold natW at hx
 obtain ⟨y,hy,rfl⟩:=List.mem_map.1 hx
 obtain ⟨_,_,_,_,_,h2⟩:=h
 have:=h2 y (List.mem_of_mem_take hy)
 have e1:IntKind.u32.min=0:=rfl
 have e2:IntKind.u32.max=4294967295:=rfl
 omega
theorem ev_snoc (l:List Nat) (x:Nat):ev (l++ [x])=ev l++ [Value.int .u32 (x:Int)]:=by
 rw [Ux.ev_append]
 rfl
set_option maxHeartbeats 8000000 in
set_option maxRecDepth 100000 in
theorem elems5_ (v:Value) (l:List Int) (w:World) (hv:NView .u32 w v l):
 Calls Tryz.prog 18 #[v] w fun e w'=> ∃u1 u2,e= .returned (.tuple #[u1,u2])∧KGrow w' w.heap.size 56 1 u1 (natW l).length (ev (natW l))∧KGrow w' w.heap.size 121 4 u2 (natW l).length (rv (natW l))∧(∀b,u1.ownBlock=some b→u2.ownBlock≠some b)∧Ux.Touch (fun _=>False) w w':=by
 have hlt:=natW_lt hv
 obtain ⟨a,c,rfl,hm,hc,hr⟩:=hv
 obtain ⟨n,hn⟩: ∃n,l.length=n:=⟨_,rfl⟩
 obtain ⟨m,hm12⟩: ∃m,min 12 n=m:=⟨_,rfl⟩
 have hlen:(natW l).length=m:=by rw [natW_len,hn,hm12]
 rw [hn] at hm⊢
 have n0:(n:Int)≤9223372036854775807:=by have:n≤maxLen:=hm;simp only [maxLen] at this;omega
 have m12:m≤12:=by omega
 have hget: ∀(i x:Nat),(natW l)[i]? =some x→l[i]? =some (x:Int):=fun i x hx=>by
  unfold natW at hx
  rw [List.getElem?_map] at hx
  obtain ⟨y,hy,rfl⟩:=Option.map_eq_some_iff.1 hx
  have hy':l[i]? =some y:=by
   rw [List.getElem?_take] at hy
   split at hy
   ·exact hy
   ·cases hy
  have h0:=hr y (List.mem_of_getElem? hy')
  have e1:IntKind.u32.min=0:=rfl
  rw [hy',Int.toNat_of_nonneg (by omega)]
 have HH:=Lib.hid (And.intro hc (And.intro hlen (And.intro hm12 (And.intro hget hlt))))
 clear hc hr hm hn hlen hm12 hget hlt
 go_enter Tryz.func18,Tryz.ntmps18
 go_wp2
 go_loopg [4,5,6] m (fun gk s4 s5 s6 wr=> ∃i:Nat,s6= .int .i64 i∧i+gk=m∧Hid (KGrow wr w.heap.size 56 1 s4 i (ev ((natW l).take i))∧KGrow wr w.heap.size 121 4 s5 i (rv ((natW l).take i))∧(∀b,s4.ownBlock=some b→s5.ownBlock≠some b)∧Ux.Touch (fun _=>False) w wr))
 case atStart=>exact ⟨0,rfl,by omega,Lib.hid ⟨KGrow.nil _ _ _ _,KGrow.nil _ _ _ _,fun b hb=>(by cases hb),Ux.Touch.refl _ _⟩⟩
 case round=>
  obtain ⟨i,rfl,hig,HI⟩:=hrel
  have i0:(0:Int)≤i:=by omega
  by_cases hlt:i<m
  ·obtain ⟨g',rfl⟩: ∃g',gk=g'+1:=⟨gk-1,by omega⟩
   have hmn:=HH.out.2.2.1
   have q1:decide ((i:Int)<n)=true:=by simp;omega
   have q2:decide ((i:Int)<12)=true:=by simp;omega
   have q3:decide (i<n)=true:=by simp;omega
   have q4:decide (i<12)=true:=by simp;omega
   have i1:(i:Int)<n:=by omega
   obtain ⟨x,hx⟩: ∃x,(natW l)[i]? =some x:=⟨_,List.getElem?_eq_getElem (by have:=HH.out.2.1;omega)⟩
   obtain ⟨g,o,rfl,hgl,h1⟩:=HH.out.1 i _ (HH.out.2.2.2.1 i x hx)
   have hxl:=HH.out.2.2.2.2 x (List.mem_of_getElem? hx)
   have T0:=HI.out.2.2.2
   have c1:=T0.cell h1 (fun f=>f)
   have htk:(natW l).take (i+1)=(natW l).take i++ [x]:=by rw [List.take_add_one,hx];rfl
   have tA:Ux.Touch (fun _=>False) wr (wr.alloc (.cells [Value.int .u32 (x:Int)].toArray 56)):=(Ux.Touch.refl _ _).alloc _
   obtain ⟨r,w3,hrun,hG2,hT3,hB3⟩:=(HI.out.1.touch0 tA).app' (P:=Tryz.prog) 49 4 _ Tryz.underlying49 infoE rfl (by omega) (.slice (some ⟨wr.heap.size,0,none⟩) 1 1) 1 [Value.int .u32 (x:Int)] (Ux.src_new Tryz.underlying49 wr 1 1 _ rfl (fun u hu=>by
    rw [List.mem_singleton.1 hu];rfl)) (by have:=T0.size;have:=tA.size;omega) (by simp only [maxLen];omega) (by omega)
   have c2:=hT3.cell (tA.cell c1 (fun f=>f)) (fun h=>by
    have h:w.heap.size≤g:=h.1
    omega)
   have hK5:KGrow w3 w.heap.size 121 4 u5 i (rv ((natW l).take i)):=⟨Ux.own_touch (HI.out.2.1.touch0 tA).1 hT3 fun b hb h=>HI.out.2.2.1 b h.2 hb,HI.out.2.1.2⟩
   have hd5: ∀b,r.ownBlock=some b→u5.ownBlock≠some b:=fun b hb h=>by
    rcases hB3 with e|⟨g9,e,hg⟩
    ·exact HI.out.2.2.1 b (e▸hb) h
    ·rw [e] at hb
     cases hb
     have:=Ux.own_lt HI.out.2.1.1 b h
     have:=tA.size
     omega
   have TT:Ux.Touch (fun _=>False) w w3:=Ux.Touch.own (T0.trans tA fun _ _ f=>f) (Nat.le_refl _) hT3
   have HR:=Lib.hid (And.intro hrun (And.intro hG2 (And.intro hK5 (And.intro hd5 (And.intro TT htk)))))
   have HO:=Lib.hid fun W=>rof_ x hxl W
   clear hgl hx h1 hxl T0 htk tA hrun hG2 hT3 hB3 hK5 hd5 TT hlt hmn
   go_wp2_with (at_builtin;refine Ux.wpList_app (v1:=u4) (x1:= .slice (some ⟨wr.heap.size,0,none⟩) 1 1) rfl _ _ _ _ rfl rfl rfl (HR.out.1 _) ?_)
   go_wp2_with (go_at_call 60;fail)
   refine (HO.out _).mono ?_
   rintro e w4 ⟨he,T4⟩
   unfold rE at he
   subst he
   have tB:Ux.Touch (fun _=>False) w4 (w4.alloc (.cells [Value.int .i64 (eP x:Nat),.int .i64 (eS x:Nat),.int .i64 (eT x:Nat),.bool (eV x)].toArray 121)):=(Ux.Touch.refl _ _).alloc _
   obtain ⟨_,hG2,hK5,hd5,TT,htk⟩:=HR.out
   have hm12:i≤12:=by omega
   obtain ⟨r5,w5,hrun5,hG5,hT5,hB5⟩:=((hK5.touch0 T4).touch0 tB).app' (P:=Tryz.prog) 50 32 _ Tryz.underlying50 infoRE rfl (by omega) (.slice (some ⟨w4.heap.size,0,none⟩) 1 1) 1 [Value.int .i64 (eP x:Nat),.int .i64 (eS x:Nat),.int .i64 (eT x:Nat),.bool (eV x)] (Ux.src_new Tryz.underlying50 w4 4 1 _ rfl (fun u hu=>by
    simp only [List.mem_cons,List.not_mem_nil,or_false] at hu
    rcases hu with rfl|rfl|rfl|rfl<;>rfl)) (by have:=T4.size;have:=TT.size;have:=tB.size;omega) (by simp only [maxLen];omega) (by omega)
   have hK4:KGrow w5 w.heap.size 56 1 r (i+1) (ev ((natW l).take i)++ [Value.int .u32 (x:Int)]):=⟨Ux.own_touch ((hG2.touch0 T4).touch0 tB).1 hT5 fun b hb h=>hd5 b hb h.2,hG2.2⟩
   have hd4: ∀b,r.ownBlock=some b→r5.ownBlock≠some b:=fun b hb h=>by
    rcases hB5 with e|⟨g9,e,hg⟩
    ·exact hd5 b hb (e▸h)
    ·rw [e] at h
     cases h
     have:=Ux.own_lt hG2.1 b hb
     have:=tB.size
     have:=T4.size
     omega
   have TT5:Ux.Touch (fun _=>False) w w5:=Ux.Touch.own ((TT.trans T4 fun _ _ f=>f).trans tB fun _ _ f=>f) (Nat.le_refl _) hT5
   have HR5:=Lib.hid (And.intro hrun5 (And.intro hG5 (And.intro hK4 (And.intro hd4 (And.intro TT5 htk)))))
   clear hG2 hK5 hd5 TT htk T4 tB hrun5 hG5 hT5 hB5 hK4 hd4 TT5 c1 c2
   go_wp2_with (at_builtin;refine Ux.wpList_app (v1:=u5) (x1:= .slice (some ⟨w4.heap.size,0,none⟩) 1 1) rfl _ _ _ _ rfl rfl rfl (HR5.out.1 _) ?_)
   go_roundg g'
   case measure=>omega
   case rel=>
    obtain ⟨_,hG5,hK4,hd4,TT5,htk⟩:=HR5.out
    refine ⟨i+1,by congr 1,by omega,Lib.hid ⟨?_,?_,hd4,TT5⟩⟩
    ·rw [htk,ev_snoc];exact hK4
    ·rw [htk,rv_snoc];exact hG5
  ·obtain rfl:m=i:=by omega
   have hmn:=HH.out.2.2.1
   have htk:(natW l).take m=natW l:=List.take_of_length_le (by have:=HH.out.2.1;omega)
   have HE:=Lib.hid (And.intro HH.out.2.1 htk)
   by_cases hx:n≤m
   ·have q1:decide ((m:Int)<n)=false:=by simp;omega
    have q3:decide (m<n)=false:=by simp;omega
    clear hx hmn htk hlt
    go_wp2
    go_ret2
    rw [HE.out.2] at HI
    rw [HE.out.1]
    exact ⟨_,_,rfl,HI.out.1,HI.out.2.1,HI.out.2.2.1,HI.out.2.2.2⟩
   ·have q1:decide ((m:Int)<n)=true:=by simp;omega
    have q2:decide ((m:Int)<12)=false:=by simp;omega
    have q3:decide (m<n)=true:=by simp;omega
    have q4:decide (m<12)=false:=by simp;omega
    clear hx hmn htk hlt
    go_wp2
    go_ret2
    rw [HE.out.2] at HI
    rw [HE.out.1]
    exact ⟨_,_,rfl,HI.out.1,HI.out.2.1,HI.out.2.2.1,HI.out.2.2.2⟩
end Go.Proofs.YtfccjaboicpohaaGreatDoor
namespace Go.Proofs.YtfccjaboicpohaaGreatDoor
open Go.RowKit
open Ux (Row Ent rootE rootT sv iv ev elemsE atE okT SameE OpsView NView KGrow)
open Ux.Sign (cp raw signs)
theorem IView.of_n {w:World} {v:Value} {s:List Int} (h:NView .i64 w v s):IView w v s∧s.length≤9223372036854775807:=by
 obtain ⟨a,c,rfl,h0,h1,_⟩:=h
 refine ⟨⟨a,c,rfl,fun j x hx=> ?_⟩,by simpa only [maxLen] using h0⟩
 obtain ⟨g,o,h2,_,h3⟩:=h1 j x hx
 exact ⟨g,o,h2,h3⟩
theorem ops_touch {w w':World} {v:Value} {l:List (List Int×List Int)} (h:OpsView w v l) (ht:Ux.Touch (fun _=>False) w w'):OpsView w' v l:=h.touch0 ht.size fun _ _ _ _ h=>ht.cell h (fun f=>f)
theorem cell_in {w:World} {b j:Nat} {cs:Array Value} {t:TypeId} {u:Value} (h:w.heap[b]? =some (.cells cs t (0,0))) (hc:w.cell? ⟨b,j,none⟩=some u):u∈cs.toList:=by
 rw [cell_of_row w b j _ _ (0,0) h] at hc
 exact List.mem_of_getElem? (by rw [Array.getElem?_toList];exact hc)
theorem TableAt.touchS {R:Nat→Prop} {w w':World} {B mb:Nat} {E:List Ent} (h:TableAt w B mb E) (ht:Ux.Touch R w w')
 (hR: ∀b,R b→∃cs t,w.heap[b]? =some (.cells cs t (0,0))∧t≠56∧∀u∈cs.toList,∃a n c,u= .slice a n c):TableAt w' B mb E:=by
 obtain ⟨h1,t,ks,f,h2,⟨bb,c,am,G,g1,g2,g3,g4,g5⟩,h4⟩:=h
 have nc: ∀(b j:Nat) (u:Value),w.cell? ⟨b,j,none⟩=some u→(∀a n c,u≠.slice a n c)→¬R b:=fun b j u hc hu hb=>by
  obtain ⟨cs,t,e,_,hs⟩:=hR b hb
  obtain ⟨a,n,c,e2⟩:=hs u (cell_in e hc)
  exact hu a n c e2
 have nm: ∀(b:Nat) (n:Nat) (F:Lit→Option Value) (k:TypeId),Ux.MapIs Tryz.prog k w b n F→¬R b:=fun b n F k hm hb=>by
  obtain ⟨cs,t,e,_,_⟩:=hR b hb
  obtain ⟨D,⟨es,clock,h1,_⟩,_⟩:=hm
  rw [h1] at e
  cases e
 have c0:w.cell? ⟨B,0,none⟩=some (.map (some mb)):=by rw [cell_of_row w B 0 _ _ (0,0) h2];rfl
 refine ⟨h1.touch ht ?_ ?_,t,ks,f,ht.heap h2 (nc B 0 _ c0 (fun _ _ _ h=>by cases h)),⟨bb,c,am,G,ht.cell g1 (nc t 1 _ g2 (fun _ _ _ h=>by cases h)),ht.cell g2 (nc t 1 _ g2 (fun _ _ _ h=>by cases h)),fun j v hv=>ht.cell (g3 j v hv) ?_,g4.touch ht (nm _ _ _ _ g4),g5⟩,h4⟩
 ·obtain ⟨_,F,hm,_⟩:=h1
  exact nm _ _ _ _ hm
 ·intro g cs hg hb
  obtain ⟨cs',t',e,hne,_⟩:=hR g hb
  rw [hg] at e
  cases e
  exact hne rfl
 ·refine nc bb j v (g3 j v hv) fun a n c e=> ?_
  have hm:=List.mem_of_getElem? hv
  unfold blCells at hm
  obtain ⟨x,_,hx⟩:=List.mem_flatMap.1 hm
  obtain ⟨z,_,hz⟩:=List.mem_map.1 hx
  rw [e] at hz
  cases hz
theorem Two.ok3 {w:World} {q B mb:Nat} {E T:List Ent} {v:Value} (h:Two w q B mb E T v):T.length≤500∧okT T∧∀e∈T,1≤e.1.length∧e.1.length≤3:=by
 have h1:=h.2.2.1.ok h.1.1.1
 exact ⟨by have:=h.2.2.1.1.length_eq;have:=h.2.2.2.2.1;omega,h1,fun e he=>⟨(h1.2 e he).1.1,(h1.2 e he).1.2.1⟩⟩
end Go.Proofs.YtfccjaboicpohaaGreatDoor
namespace Go.Ux
open Go Go.Maps Go.RowKit
variable {P:Program} {k t:TypeId} {w w':World} {b:Nat} {E:List Ent} {A:Nat→Prop}
theorem TabMap.inA (h:TabMap P k t w b E):TabA P k t w b E (· <w.heap.size):=by
 obtain ⟨h0,f,h1,h2⟩:=h
 refine ⟨h0,f,h1,h2,fun kl v g hf hg=> ?_⟩
 obtain ⟨e,he,rfl⟩:=h2.2 kl v hf
 obtain ⟨u,hu,hr⟩:=h2.1 e he
 rw [hf] at hu
 cases hu
 rcases hr with ⟨rfl,_⟩|⟨g',c,cur,rfl,_,hh,_⟩
 ·cases hg
 ·cases hg
  exact lt_of_heap hh
theorem Row.ownLe {lo g:Nat} {v:Value} {xs:List Value} (h:Row w lo t v xs) (hg:v.ownBlock=some g):lo≤g:=by
 rcases h with ⟨rfl,_⟩|⟨g',c,cur,rfl,hl,_⟩
 ·cases hg
 ·cases hg
  exact hl
end Go.Ux
namespace Go.Proofs.YtfccjaboicpohaaGreatDoor
open Go.RowKit
open Go.RowKit Go.Shelf
open Ux (Row iv sv Ent k3 kl3 okS okE ev setE TabMap Tells)
open Ux.Sign (cp raw)
theorem mcloneA_ (b:Nat) (E:List Ent) (A:Nat→Prop) (w:World) (hT:Ux.TabA Tryz.prog 105 56 w b E A):Calls Tryz.prog 62 #[.map (some b)] w fun e w'=>e= .returned (.map (some w.heap.size))∧Ux.TabA Tryz.prog 105 56 w' w.heap.size E A∧Ux.Touch (fun _=>False) w w':=by
 obtain ⟨h0,f,h1,h2,h3⟩:=hT
 obtain ⟨es,clock,hb,hm⟩:=MapIs.clone h1
 have hcon:=AnyW.maps_Clone Tryz.cloneT b es clock w hb
 change Calls Tryz.prog 62 _ _ _ at hcon
 refine hcon.mono ?_
 rintro e w' ⟨rfl,rfl⟩
 have ht:Ux.Touch (fun _=>False) w (w.alloc (.map es clock)):=(Ux.Touch.refl _ w).alloc _
 exact ⟨rfl,⟨h0,f,hm,h2.touch ht fun _ _ _ f=>f,h3⟩,ht⟩
def WithRA (A:Nat→Prop) (w:World) (lo:Nat) (E:List Ent) (s l:List Nat) (e:Ending):Prop:=
 if 500<(setE E s l).length then e= .returned (.tuple #[.pointer none,.int .i64 65]) else∃B mb,e= .returned (.tuple #[.pointer (some ⟨B,0,none⟩),.int .i64 0])∧lo≤B∧TableAt w B mb (setE E s l)∧Ux.TabA Tryz.prog 105 56 w mb (setE E s l) (fun g=>A g∨lo≤g)
set_option maxHeartbeats 8000000 in
set_option maxRecDepth 100000 in
theorem twithA_ (A:Nat→Prop) (B mb:Nat) (E:List Ent) (s l:List Nat) (vs vl:Value) (w:World) (hT:TableAt w B mb E) (hA:Ux.TabA Tryz.prog 105 56 w mb E A) (hs:SView w vs s) (hl:Row w 0 56 vl (ev l)) (hok:okE (s,l)) (hc: ∀c∈s,cp c∨raw c) (hE:E.length≤500):
 Calls Tryz.prog 19 #[.pointer (some ⟨B,0,none⟩),vs,vl] w fun e w'=>WithRA A w' w.heap.size E s l e∧Ux.Touch (fun _=>False) w w':=by
 obtain ⟨x,y,z,hk3⟩:=k3_is hok.1
 have HK:=Lib.hid (key3_ s hok.1 hc vs w hs x y z hk3)
 have hkey:=keyS hok.1
 rw [hk3] at hkey
 obtain ⟨h1,t,ks,f,h2,h3,h4⟩:=hT
 have HB:=Lib.hid (And.intro hA (And.intro h2 (And.intro hok (And.intro hE (And.intro hl hkey)))))
 obtain ⟨a,cl,hv,_⟩:=hl.is
 rw [Ux.ev_length] at hv
 subst hv
 obtain ⟨n,hn⟩: ∃n,l.length=n:=⟨_,rfl⟩
 have h8:(n:Int)≤8:=by have:=hok.2.1;simp at this;omega
 have HB:=HB.out
 rw [hn] at HB⊢
 have HB:=Lib.hid HB
 clear h1 hA h2 h3 h4 hok hE hl hkey hk3 hs hc
 go_enter Tryz.func19,Tryz.ntmps19
 go_wp2_with (go_at_call 61;fail)
 refine HK.out.mono ?_
 rintro e w1 ⟨rfl,T1⟩
 obtain ⟨q,hq⟩: ∃q,w1.heap.size=q:=⟨_,rfl⟩
 have hbB:w1.cell? ⟨B,0,none⟩=some (.map (some mb)):=by
  have:=T1.heap HB.out.2.1 (fun f=>f)
  rw [cell_of_row w1 B 0 _ _ (0,0) this]
  rfl
 have TA:Ux.Touch (fun _=>False) w1 (w1.alloc (.cells #[.int .i64 x,.int .i64 y,.int .i64 z] 105)):=(Ux.Touch.refl _ _).alloc _
 have hbB2:=TA.cell hbB (fun f=>f)
 have hMC:=mcloneA_ mb E A (w1.alloc (.cells #[.int .i64 x,.int .i64 y,.int .i64 z] 105)) ((HB.out.1.touch0 T1).touch0 TA)
 have hd0:(w1.alloc (.cells #[.int .i64 x,.int .i64 y,.int .i64 z] 105)).cell? ⟨q,0,none⟩=some (.int .i64 x):=by rw [←hq,Ux.cell_newg];rfl
 have hd1:(w1.alloc (.cells #[.int .i64 x,.int .i64 y,.int .i64 z] 105)).cell? ⟨q,1,none⟩=some (.int .i64 y):=by rw [←hq,Ux.cell_newg];rfl
 have hd2:(w1.alloc (.cells #[.int .i64 x,.int .i64 y,.int .i64 z] 105)).cell? ⟨q,2,none⟩=some (.int .i64 z):=by rw [←hq,Ux.cell_newg];rfl
 have HT:=Lib.hid (And.intro (T1.trans TA fun _ _ f=>f) (And.intro hd0 (And.intro hd1 hd2)))
 have HMC:=Lib.hid hMC
 clear T1 TA hMC hbB hd0 hd1 hd2
 go_wp2_with (go_at_call 62;fail)
 refine HMC.out.mono ?_
 rintro e w3 ⟨rfl,hTM,T3⟩
 obtain ⟨q3,hq3⟩: ∃q3,(w1.alloc (.cells #[.int .i64 x,.int .i64 y,.int .i64 z] 105)).heap.size=q3:=⟨_,rfl⟩
 rw [hq3] at hTM⊢
 have hqq:q<q3:=by rw [←hq3,←hq];simp
 have e0:=T3.cell HT.out.2.1 (fun f=>f)
 have e1:=T3.cell HT.out.2.2.1 (fun f=>f)
 have e2:=T3.cell HT.out.2.2.2 (fun f=>f)
 have HQ:=Lib.hid fun w' (T:Ux.Touch (fun _=>False) w3 w')=>And.intro (T.cell e0 (fun f=>f)) (And.intro (T.cell e1 (fun f=>f)) (T.cell e2 (fun f=>f)))
 have T03:=HT.out.1.trans T3 fun _ _ f=>f
 have HCE:=Lib.hid (cloneE l ((HB.out.2.2.2.2.1.touch0 T03).touch0 (Ux.Touch.refl _ w3).drew) (by have:=HB.out.2.2.1.2.1;simp at this;omega))
 have HT3:=Lib.hid (And.intro T03 (And.intro hTM (And.intro hq3 (And.intro hq (And.intro hqq T3)))))
 clear hTM T3 T03 hbB2 hqq
 go_upto_region 5 with (fail)
 refine Ux.wpr (fun _ w'=>w'.cell? ⟨q,0,none⟩=some (.int .i64 x)∧w'.cell? ⟨q,1,none⟩=some (.int .i64 y)∧w'.cell? ⟨q,2,none⟩=some (.int .i64 z)) (.q [0,2] (.h false [1] (.e 3 true false (.line [4])))) ?_;repeat ((with_reducible refine Ux.qg ?_);refine Ux.qu ?_)
 clear e0 e1 e2
 go_wp2_with (go_at_call 63;fail)
 refine HCE.out.mono ?_
 rintro e w4 ⟨v',rfl,hr4,T4⟩
 go_wp2_with (fail)
 have T34:=(Ux.Touch.refl (fun _=>False) w3).drew.trans T4 fun _ _ f=>f
 refine ⟨HQ.out _ T34,?_⟩
 have H4:=Lib.hid (And.intro hr4 (And.intro T34 (HT3.out.2.1.touch0 T34)))
 clear hr4 T4 T34
 obtain ⟨h0,F,hM,hTl,hFA⟩:=H4.out.2.2
 have HM:=Lib.hid (And.intro h0 (And.intro hM (And.intro hTl hFA)))
 clear h0 hM hTl hFA
 obtain ⟨N,hN⟩: ∃N,(setE E s l).length=N:=⟨_,rfl⟩
 have HS:Hid (∀w5,Ux.MapIs Tryz.prog 105 w5 q3 (E.length+1) (Ux.upd F (kl3 s) v')→Ux.Touch (fun i=>i=q3) w4 w5→Ux.TabA Tryz.prog 105 56 w5 q3 (setE E s l) (fun g=>A g∨w.heap.size≤g)∧(∀ty,(Builtin.len_ #[103] ty #[.map (some q3)]).run Tryz.prog w5= .ok (.int .i64 (N:Int)) w5)):=Lib.hid fun w5 hm5 ht5=>by
  have h:=Ux.TabA.set (A:=fun g=>A g∨w.heap.size≤g) HM.out.1 HM.out.2.1 HM.out.2.2.1 (fun kl v g a b=>Or.inl (HM.out.2.2.2 kl v g a b)) HB.out.2.2.1 (H4.out.1.mono (Nat.zero_le _)) (fun g hg=>Or.inr (Nat.le_trans HT3.out.1.size (H4.out.1.ownLe hg))) hm5 ht5 keyedS
  exact ⟨h,fun ty=>by rw [←hN];exact h.tab.len keyedS Tryz.underlying103 ty⟩
 have HN:=Lib.hid hN
 clear hN
 go_wp2_with (at_mapUpdate;refine Ux.wpList_put (key:= .agg #[.int .i64 x,.int .i64 y,.int .i64 z]) (val:=v') rfl _ _ _ 103 rfl rfl rfl rfl HM.out.2.1 keyedS Tryz.underlying103 (by have:=HB.out.2.2.2.1;unfold maxLen;omega) HB.out.2.2.2.2.2 ?_;intro w5 hm5 ht5;obtain ⟨hTM5,hlen⟩:=HS.out w5 hm5 ht5;have hlen:=hlen 3;have H5:=Lib.hid (And.intro hTM5 ht5);clear hm5 ht5 hTM5)
 ·go_returns
  have h1:(500:Int)<N:=by assumption
  have hwq:w.heap.size≤q3:=by have:=HT.out.1.size;omega
  refine ⟨?_,?_⟩
  ·unfold WithRA
   rw [HN.out,if_pos (by omega)]
   rfl
  ·exact (HT3.out.1.trans H4.out.2.1 fun _ _ f=>f).trans H5.out.2 fun i hi e=>by omega
 ·have h1: ¬(500:Int)<N:=by omega
  have hwq:w.heap.size≤q3:=by have:=HT.out.1.size;omega
  have T5:=Lib.hid ((HT3.out.1.trans H4.out.2.1 fun _ _ f=>f).trans (R:=fun _=>False) H5.out.2 fun i hi e=>by omega)
  have HW:=Lib.hid (And.intro h1 hwq)
  clear hwq h1 hlen
  go_wp2_with (go_at_call 49;fail)
  refine (tbuild_ q3 (setE E s l) w5 H5.out.1.tab (by rw [HN.out];have:=HW.out.1;omega)).mono ?_
  rintro e w6 ⟨B',rfl,hB',hT6,T6⟩
  have H6:=Lib.hid (And.intro hB' (And.intro hT6 T6))
  clear hB' hT6 T6
  go_wp2
  go_returns
  refine ⟨?_,T5.out.trans H6.out.2.2 fun _ _ f=>f⟩
  unfold WithRA
  rw [HN.out,if_neg (by have:=HW.out.1;omega)]
  exact ⟨B',_,rfl,by have:=H6.out.1;have:=T5.out.size;omega,H6.out.2.1,H5.out.1.touch0 H6.out.2.2⟩
end Go.Proofs.YtfccjaboicpohaaGreatDoor
namespace Go.Proofs.YtfccjaboicpohaaGreatDoor
open Go.RowKit
open Ux (Row Ent sv ev findE putE setE okE okT SameE SortedE)
open Ux.Sign (cp raw)
theorem row_word0 {w:World} {u:Value} {L:List Nat} (hx:Row w 0 56 u (ev L)) {b:Nat} (hb:u.ownBlock=some b∧L≠[]): ∃z,w.cell? ⟨b,0,none⟩=some (.int .u32 z):=by
 rcases hx with ⟨rfl,_⟩|⟨g,c,cur,rfl,_,hh,h1,h2,h3⟩
 ·cases hb.1
 ·obtain ⟨h0,hL⟩:=hb
  cases h0
  obtain ⟨x,L',rfl⟩:=List.exists_cons_of_ne_nil hL
  exact ⟨x,Ux.row_cell hh h3 0 _ rfl⟩
theorem TableAt.touchX {A:Nat→Prop} {w w':World} {B mb:Nat} {E:List Ent} {u:Value} {L:List Nat} (h:TableAt w B mb E) (hA:Ux.TabA Tryz.prog 105 56 w mb E A) (hx:Row w 0 56 u (ev L)) (hAx: ∀g,A g→u.ownBlock≠some g)
 (ht:Ux.Touch (fun b=>u.ownBlock=some b∧L≠[]) w w'):TableAt w' B mb E∧Ux.TabA Tryz.prog 105 56 w' mb E A:=by
 have hc: ∀b,(u.ownBlock=some b∧L≠[])→∃cs z,w.heap[b]? =some (.cells cs 56 (0,0))∧w.cell? ⟨b,0,none⟩=some (.int .u32 z):=fun b ⟨hb,hL⟩=>by
  rcases hx with ⟨rfl,_⟩|⟨g,c,cur,rfl,_,hh,h1,h2,h3⟩
  ·cases hb
  ·cases hb
   obtain ⟨x,L',rfl⟩:=List.exists_cons_of_ne_nil hL
   exact ⟨cur,x,hh,Ux.row_cell hh h3 0 _ rfl⟩
 have nm: ∀(b:Nat) (n:Nat) (F:Lit→Option Value) (k:TypeId),Ux.MapIs Tryz.prog k w b n F→¬(u.ownBlock=some b∧L≠[]):=fun b n F k hm hb=>by
  obtain ⟨cs,z,e,_⟩:=hc b hb
  obtain ⟨D,⟨es,clock,h1,_⟩,_⟩:=hm
  rw [h1] at e
  cases e
 have nc: ∀(b:Nat) (v:Value),w.cell? ⟨b,0,none⟩=some v→(∀z,v≠.int .u32 z)→¬(u.ownBlock=some b∧L≠[]):=fun b v hv hn hb=>by
  obtain ⟨cs,z,_,e⟩:=hc b hb
  rw [hv] at e
  cases e
  exact hn z rfl
 have hA':Ux.TabA Tryz.prog 105 56 w' mb E A:=hA.touch ht (by obtain ⟨_,F,hm,_⟩:=h.1;exact nm _ _ _ _ hm) fun g hg hb=>hAx g hg hb.1
 obtain ⟨h1,t,ks,f,h2,⟨bb,c,am,G,g1,g2,g3,g4,g5⟩,h4⟩:=h
 have nt:=nc t _ g1 (fun z e=>by cases e)
 have nB: ¬(u.ownBlock=some B∧L≠[]):=nc B (.map (some mb)) (by rw [cell_of_row w B 0 _ _ (0,0) h2];rfl) (fun z e=>by cases e)
 refine ⟨⟨hA'.tab,t,ks,f,ht.heap h2 nB,⟨bb,c,am,G,ht.cell g1 nt,ht.cell g2 nt,fun j v hv=>ht.cell (g3 j v hv) ?_,g4.touch ht (nm _ _ _ _ g4),g5⟩,h4⟩,hA'⟩
 obtain ⟨v0,hv0⟩: ∃v0,(blCells (Ux.Trie.bls ks f))[0]? =some v0:=⟨_,List.getElem?_eq_getElem (by have:=(List.getElem?_eq_some_iff.1 hv).1;omega)⟩
 refine nc bb v0 (g3 0 v0 hv0) fun z e=> ?_
 have hm:=List.mem_of_getElem? hv0
 unfold blCells at hm
 obtain ⟨x,_,hx⟩:=List.mem_flatMap.1 hm
 obtain ⟨y,_,hy⟩:=List.mem_map.1 hx
 rw [e] at hy
 cases hy
theorem twithCA_ (A:Nat→Prop) (B mb:Nat) (E T:List Ent) (s:List Int) (l:List Nat) (vs vl:Value) (w:World) (hT:TableAt w B mb E) (hA:Ux.TabA Tryz.prog 105 56 w mb E A) (hS:SameE E T) (hs:IView w vs s) (h63:s.length≤9223372036854775807) (hl:Row w 0 56 vl (ev l)) (hlt: ∀x∈l,x<4294967296) (h12:l.length≤12) (hE:E.length≤500):
 Calls Tryz.prog 19 #[.pointer (some ⟨B,0,none⟩),vs,vl] w fun e w'=> ∃P,e= .returned (.tuple #[.pointer P,.int .i64 (codeE T s l:Nat)])∧(codeE T s l=0∧(∃B' mb',P=some ⟨B',0,none⟩∧TableAt w' B' mb' (stepU T E s l)∧Ux.TabA Tryz.prog 105 56 w' mb' (stepU T E s l) (fun g=>A g∨w.heap.size≤g))∨codeE T s l≠0∧P=none)∧Ux.Touch (fun _=>False) w w':=by
 have hok:=hT.1.1
 obtain ⟨a,c,hv,_⟩:=hl.is
 rw [Ux.ev_length] at hv
 by_cases hb:keyOk s=false∨8<l.length
 ·have h1:codeE T s l=1:=by unfold codeE;rw [if_pos hb]
  rw [h1]
  subst hv
  refine (twithNo_ _ s vs a l.length c w hs h63 (by omega) hb).mono ?_
  rintro e w' ⟨rfl,T1⟩
  exact ⟨none,rfl,.inr ⟨by decide,rfl⟩,T1⟩
 ·have hk:keyOk s=true:=by
   cases hk:keyOk s with
   |true=>rfl
   |false=>exact absurd (.inl hk) hb
  have h8:l.length≤8:=by omega
  obtain ⟨t,rfl,h1,h3,hc⟩:=keyOk_sv hk
  have hn:okE (t,l):=⟨⟨h1,h3,fun x hx=>by have:=hc x hx;unfold cp raw at this;omega⟩,h8,hlt⟩
  have hcode:codeE T (sv t) l=if 500<(setE E t l).length then 65 else 0:=by
   unfold codeE
   rw [if_neg hb,sv_nat]
   by_cases hf:(findE T t).isSome=false∧500≤T.length
   ·rw [if_pos hf,if_pos ((full_iff hS hok hE t l).1 hf)]
   ·rw [if_neg hf,if_neg fun h=>hf ((full_iff hS hok hE t l).2 h)]
  refine (twithA_ A B mb E t l vs vl w hT hA hs.s hl hn hc hE).mono ?_
  rintro e w' ⟨hR,T1⟩
  unfold WithRA at hR
  by_cases hf:500<(setE E t l).length
  ·rw [if_pos hf] at hR hcode
   rw [hcode]
   exact ⟨none,hR,.inr ⟨by decide,rfl⟩,T1⟩
  ·rw [if_neg hf] at hR hcode
   obtain ⟨B',mb',he,_,hT',hA'⟩:=hR
   rw [hcode]
   refine ⟨_,he,.inl ⟨rfl,B',mb',rfl,?_⟩,T1⟩
   unfold stepU
   rw [if_pos hcode,sv_nat]
   exact ⟨hT',hA'⟩
end Go.Proofs.YtfccjaboicpohaaGreatDoor
namespace Go.Proofs.YtfccjaboicpohaaGreatDoor
open Go.RowKit
open Ux (Row iv sv Ent k3 kl3 okS okE ev TabMap Tells okT findE SameE)
open Ux.Sign (cp raw)
def entI (E:List Ent) (s:List Int):Option (List Nat):=if keyOk s=true then findE E (s.map Int.toNat) else none
theorem sv_toNat (t:List Nat):(sv t).map Int.toNat=t:=by
 unfold sv
 rw [List.map_map]
 have:t.map (Int.toNat∘fun c:Nat=>(c:Int))=t.map id:=List.map_congr_left fun c _=>by simp
 rw [this,List.map_id]
theorem entI_eq {E T:List Ent} (hS:SameE E T) (hok:okT E) (hsig: ∀e∈E,∀c∈e.1,cp c∨raw c) (s:List Int):entI E s=findI T s:=by
 unfold entI
 by_cases hk:keyOk s=true
 ·rw [if_pos hk]
  obtain ⟨t,rfl,_⟩:=keyOk_sv hk
  rw [sv_toNat,findI_sv]
  exact Ux.findE_perm hok.1 hS.1 _
 ·rw [if_neg hk]
  unfold findI
  rw [List.find?_eq_none.2,Option.map_none]
  intro e he h
  refine hk ?_
  have h:sv e.1=s:=eq_of_beq h
  have he':=hS.1.mem_iff.2 he
  obtain ⟨⟨h1,h3,_⟩,_⟩:=hok.2 e he'
  subst h
  unfold keyOk
  rw [Ux.sv_length,decide_eq_true h1,decide_eq_true h3,Bool.true_and,Bool.true_and,List.all_eq_true]
  intro x hx
  unfold sv at hx
  obtain ⟨c,hc,rfl⟩:=List.mem_map.1 hx
  rw [isI_nat]
  exact decide_eq_true (hsig e he' c hc)
set_option maxHeartbeats 8000000 in
set_option maxRecDepth 100000 in
theorem tentry_ (B mb:Nat) (E:List Ent) (s:List Int) (vs:Value) (w:World) (hT:TableAt w B mb E) (hs:IView w vs s) (h63:s.length≤9223372036854775807):
 Calls Tryz.prog 21 #[.pointer (some ⟨B,0,none⟩),vs] w fun e w'=> ∃u,e= .returned (.tuple #[u,.bool (entI E s).isSome])∧Row w' 0 56 u (ev ((entI E s).getD []))∧Ux.Touch (fun _=>False) w w':=by
 cases hk:keyOk s with
 |false=>
  have HK:=Lib.hid (keyNo_ s hk h63 vs w hs)
  have hE:entI E s=none:=by unfold entI;rw [hk];rfl
  rw [hE]
  clear hs hT hk h63 hE
  go_enter Tryz.func21,Tryz.ntmps21
  go_wp2_with (go_at_call 61;fail)
  refine HK.out.mono ?_
  rintro e w1 ⟨x,y,z,rfl,T1⟩
  have T1:=Lib.hid (T1.trans ((Ux.Touch.refl (fun _=>False) w1).alloc (.cells #[.int .i64 x,.int .i64 y,.int .i64 z] 105)) fun _ _ f=>f)
  go_wp2
  go_returns
  exact ⟨_,rfl,Row.nil _ _ _,T1.out⟩
 |true=>
  obtain ⟨t,rfl,h1,h3,hc⟩:=keyOk_sv hk
  have hoS:okS t:=⟨h1,h3,fun c hc'=>by have:=hc c hc';unfold cp raw at this;omega⟩
  obtain ⟨x,y,z,hk3⟩:=k3_is hoS
  have hE:entI E (sv t)=findE E t:=by unfold entI;rw [if_pos hk,sv_toNat]
  rw [hE]
  obtain ⟨⟨h0,F,hm,htl⟩,tt,ks,f,hB,hTr,hLI⟩:=hT
  have HK:=Lib.hid (key3_ t hoS hc vs w hs.s x y z hk3)
  have hlk: ∀w',Ux.Touch (fun _=>False) w w'→(Instr.lookup 103 (.map (some mb)) (.agg #[.int .i64 x,.int .i64 y,.int .i64 z]) true).run Tryz.prog w'= .ok (.tuple #[(F (kl3 t)).getD (.slice none 0 0),.bool (F (kl3 t)).isSome]) w':=fun w' T=>by
   have h:=(hm.touch T (fun f=>f)).lookOk keyedS Tryz.underlying103 (zeroEs w') (keyS hoS)
   rw [hk3] at h
   exact h
  have hfind:=Ux.Tells.find h0 htl hoS
  obtain ⟨r,hr⟩: ∃r,findE E t=r:=⟨_,rfl⟩
  obtain ⟨u,hu⟩: ∃u,(F (kl3 t)).getD (.slice none 0 0)=u:=⟨_,rfl⟩
  have hrow:Row w 0 56 u (ev (r.getD []))∧(F (kl3 t)).isSome=r.isSome∧(r.getD []).length≤8:=by
   rw [hr] at hfind
   cases r with
   |some l=>
    obtain ⟨v,hv,hvr⟩:=hfind
    rw [hv] at hu⊢
    cases hu
    exact ⟨hvr,rfl,(h0.2 _ (Ux.findE_some hr)).2.1⟩
   |none=>
    have hfind:F (kl3 t)=none:=hfind
    rw [hfind] at hu⊢
    cases hu
    exact ⟨Row.nil _ _ _,rfl,Nat.zero_le _⟩
  rw [hu,hrow.2.1] at hlk
  rw [hr]
  have HLK:=Lib.hid hlk
  have HR:=Lib.hid (And.intro hrow.1 hrow.2.2)
  have HB:=Lib.hid fun w' (T:Ux.Touch (fun _=>False) w w')=>T.heap hB (fun f=>f)
  obtain ⟨Bb,hBb⟩: ∃b,r.isSome=b:=⟨_,rfl⟩
  rw [hBb] at HLK⊢
  clear hs h63 hk h1 h3 hc hoS hk3 hE h0 hm htl hB hTr hLI hlk hfind hr hu hrow hBb
  go_enter Tryz.func21,Tryz.ntmps21
  go_wp2_with (go_at_call 61;fail)
  refine HK.out.mono ?_
  rintro e w2 ⟨rfl,T2⟩
  obtain ⟨q2,hq2⟩: ∃q2,w2.heap.size=q2:=⟨_,rfl⟩
  have HT:=Lib.hid (T2.alloc (.cells #[.int .i64 x,.int .i64 y,.int .i64 z] 105))
  have hd0:(w2.alloc (.cells #[.int .i64 x,.int .i64 y,.int .i64 z] 105)).cell? ⟨q2,0,none⟩=some (.int .i64 x):=by rw [←hq2,Ux.cell_newg];rfl
  have hd1:(w2.alloc (.cells #[.int .i64 x,.int .i64 y,.int .i64 z] 105)).cell? ⟨q2,1,none⟩=some (.int .i64 y):=by rw [←hq2,Ux.cell_newg];rfl
  have hd2:(w2.alloc (.cells #[.int .i64 x,.int .i64 y,.int .i64 z] 105)).cell? ⟨q2,2,none⟩=some (.int .i64 z):=by rw [←hq2,Ux.cell_newg];rfl
  have hb0:(w2.alloc (.cells #[.int .i64 x,.int .i64 y,.int .i64 z] 105)).cell? ⟨B,0,none⟩=some (.map (some mb)):=by
   rw [cell_of_row _ B 0 _ _ (0,0) (HB.out _ HT.out)]
   rfl
  clear T2
  go_upto_region 4 with (fail)
  refine Ux.wpr (fun _ w'=>w'.cell? ⟨B,0,none⟩=some (.map (some mb))∧w'.cell? ⟨q2,0,none⟩=some (.int .i64 x)∧w'.cell? ⟨q2,1,none⟩=some (.int .i64 y)∧w'.cell? ⟨q2,2,none⟩=some (.int .i64 z)) (.q [0,1,2] (.h false [3,4] (.e 5 true false (.q [6,7,8,9] (.line [10]))))) ?_;repeat ((with_reducible refine Ux.qg ?_);refine Ux.qu ?_)
  go_wp2_with (at_lookup;refine Ux.wpList_look rfl _ _ 103 rfl rfl rfl (HLK.out _ HT.out.drew) ?_)
  refine ⟨by simp only [World.cell?_drew];exact ⟨hb0,hd0,hd1,hd2⟩,?_⟩
  repeat ((with_reducible refine Ux.qg ?_);refine Ux.qu ?_)
  go_wp2_with (go_at_call 63;fail)
  refine (cloneE _ (HR.out.1.touch0 HT.out.drew) (by have:=HR.out.2;omega)).mono ?_
  rintro e w4 ⟨v',rfl,hr4,T4⟩
  obtain ⟨v5,hr5,hcl⟩:=clipE hr4
  have H4:=Lib.hid (And.intro (hr5.mono (Nat.zero_le _)) (HT.out.drew.trans T4 fun _ _ f=>f))
  go_wp2_with (go_at_call 65;fail)
  refine hcl.mono ?_
  rintro e w5 ⟨rfl,rfl⟩
  go_wp2
  go_returns
  exact ⟨_,rfl,H4.out.1,H4.out.2⟩
end Go.Proofs.YtfccjaboicpohaaGreatDoor
