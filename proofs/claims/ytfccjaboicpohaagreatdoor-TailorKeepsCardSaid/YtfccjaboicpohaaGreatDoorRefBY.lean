/- A part of the proof that the statement holds for every input that it names. No other condition. -/
import Derived.Test.YtfccjaboicpohaaGreatDoorTableBY
import Derived.Test.YtfccjaboicpohaaGreatDoorRefAY
set_option linter.unusedVariables false
set_option linter.unusedSimpArgs false
namespace Go.Proofs.YtfccjaboicpohaaGreatDoor
open Go.RowKit
open Ux (Ent sv putE)
set_option maxHeartbeats 8000000 in
set_option maxRecDepth 100000 in
theorem rwithLen_ (v vs vl:Value) (T:List Ent) (s:List Int) (l:List Nat) (A:Nat→Prop) (w:World) (hT:RRows w A v T) (hs:IView w vs s) (hl:RRow w vl l) (h1:s.length≤9223372036854775807) (h2:l.length≤1000000000) (hb:s.length<1∨3<s.length∨8<l.length):
 Calls Tryz.prog 20 #[.agg #[v],vs,vl] w fun e w'=>e= .returned (.tuple #[.agg #[.slice none 0 0],.int .i64 1])∧Ux.Touch (fun _=>False) w w':=by
 obtain ⟨_,a,ca,rfl,_,_⟩:=hT
 obtain ⟨a1,c1,rfl,_⟩:=hs
 obtain ⟨a2,c2,rfl,_⟩:=hl
 obtain ⟨n,hn⟩: ∃n,s.length=n:=⟨_,rfl⟩
 obtain ⟨k,hk⟩: ∃k,l.length=k:=⟨_,rfl⟩
 obtain ⟨N,hN⟩: ∃N,T.length=N:=⟨_,rfl⟩
 rw [hn] at h1 hb⊢
 rw [hk] at h2 hb⊢
 rw [hN]
 have n0:(n:Int)≤9223372036854775807:=by omega
 have k0:(k:Int)≤1000000000:=by omega
 clear hn hk hN
 obtain ⟨P,hP⟩: ∃P,decide ((n:Int)<1)=P:=⟨_,rfl⟩
 obtain ⟨Q,hQ⟩: ∃Q,decide ((3:Int)<n)=Q:=⟨_,rfl⟩
 obtain ⟨R,hR⟩: ∃R,decide ((8:Int)<k)=R:=⟨_,rfl⟩
 have hor:(P||(Q||R))=true:=by
  rw [←hP,←hQ,←hR]
  simp
  omega
 clear hb h1 h2
 cases P<;>cases Q<;>cases R
 all_goals first
  |exact absurd hor (by decide)
  |(clear hor
    go_enter Tryz.func20,Tryz.ntmps20
    go_wp2
    go_returns
    all_goals first
     |exact ⟨rfl,((Ux.Touch.refl (fun _=>False) w).alloc _).alloc _⟩
     |exact ⟨rfl,(((Ux.Touch.refl (fun _=>False) w).alloc _).alloc _).setCell (fun h=>by simp at h;omega) _⟩)
def RWithR (w:World) (lo:Nat) (A:Nat→Prop) (T:List Ent) (s:List Int) (l:List Nat) (e:Ending):Prop:=
 if s.all isI=false then e= .returned (.tuple #[.agg #[.slice none 0 0],.int .i64 1])
 else if (Ux.findE T (s.map Int.toNat)).isSome=false∧500≤T.length then e= .returned (.tuple #[.agg #[.slice none 0 0],.int .i64 65])
 else∃u,e= .returned (.tuple #[.agg #[u],.int .i64 0])∧RRows w (fun b=>A b∨lo≤b) u (putE T (s.map Int.toNat) l)
set_option maxHeartbeats 16000000 in
set_option maxRecDepth 100000 in
theorem rwith_ (v vs vl:Value) (T:List Ent) (s:List Int) (l:List Nat) (A:Nat→Prop) (w:World) (hT:RRows w A v T) (hs:IView w vs s) (hl:RRow w vl l) (h1:1≤s.length) (h3:s.length≤3) (h8:l.length≤8) (hn:T.length≤10000) (hT3: ∀e∈T,1≤e.1.length∧e.1.length≤3):
 Calls Tryz.prog 20 #[.agg #[v],vs,vl] w fun e w'=>RWithR w' w.heap.size A T s l e∧Ux.Touch (fun _=>False) w w':=by
 have hTT:=hT
 have hss:=hs
 have hll:=hl
 obtain ⟨_,a,ca,rfl,_,_⟩:=hT
 obtain ⟨a1,c1,rfl,hc1⟩:=hs
 obtain ⟨a2,c2,rfl,_⟩:=hl
 obtain ⟨n,hnn⟩: ∃n,s.length=n:=⟨_,rfl⟩
 obtain ⟨k,hk⟩: ∃k,l.length=k:=⟨_,rfl⟩
 obtain ⟨N,hN⟩: ∃N,T.length=N:=⟨_,rfl⟩
 rw [hnn] at hss⊢
 rw [hk] at hll⊢
 rw [hN] at hTT⊢
 have n1:(1:Int)≤n:=by omega
 have n3:(n:Int)≤3:=by omega
 have k8:(k:Int)≤8:=by omega
 have N0:(N:Int)≤10000:=by omega
 have HH:=Lib.hid (And.intro hc1 (And.intro hnn (And.intro hk (And.intro hN (And.intro h1 (And.intro h3 (And.intro h8 (And.intro hn (And.intro hT3 (And.intro hTT (And.intro hss hll)))))))))))
 clear hc1 hnn hk hN h1 h3 h8 hn hT3 hTT hss hll
 go_enter Tryz.func20,Tryz.ntmps20
 go_wp2
 have hb0:((w.alloc (Obj.cells #[Value.slice a N ca] 36)).alloc (Obj.cells #[Value.slice none 0 0] 36)).cell? ⟨w.heap.size,0,none⟩=some (.slice a N ca):=((Ux.Touch.refl (fun _=>False) _).alloc _).cell (by rw [Ux.cell_newg];rfl) (fun f=>f)
 have hb1:((w.alloc (Obj.cells #[Value.slice a N ca] 36)).alloc (Obj.cells #[Value.slice none 0 0] 36)).heap[w.heap.size+1]? =some (.cells #[.slice none 0 0] 36 (0,0)):=by
  have:=heap_alloc_new (w.alloc (Obj.cells #[Value.slice a N ca] 36)) (Obj.cells #[Value.slice none 0 0] 36)
  simpa using this
 have hT1:Ux.Touch (fun _=>False) w ((w.alloc (Obj.cells #[Value.slice a N ca] 36)).alloc (Obj.cells #[Value.slice none 0 0] 36)):=((Ux.Touch.refl _ _).alloc _).alloc _
 have hsz:((w.alloc (Obj.cells #[Value.slice a N ca] 36)).alloc (Obj.cells #[Value.slice none 0 0] 36)).heap.size=w.heap.size+2:=by simp
 generalize (w.alloc (Obj.cells #[Value.slice a N ca] 36)).alloc (Obj.cells #[Value.slice none 0 0] 36)=W1 at hb0 hb1 hT1 hsz⊢
 have H1:=Lib.hid (And.intro hb1 (And.intro hT1 hsz))
 clear hb1 hT1 hsz
 go_loopg [8] n (fun g s8 wr=> ∃i:Nat,s8= .int .i64 i∧i+g=n∧wr.cell? ⟨w.heap.size,0,none⟩=some (.slice a N ca)∧wr.heap[w.heap.size+1]? =some (.cells #[.slice none 0 0] 36 (0,0))∧Hid ((∀j c,j<i→s[j]? =some c→isI c=true)∧Ux.Touch (fun _=>False) W1 wr))
 case atStart=>exact ⟨0,rfl,by omega,hb0,H1.out.1,Lib.hid ⟨fun j c h _=>absurd h (Nat.not_lt_zero _),Ux.Touch.refl _ _⟩⟩
 case round=>
  clear hb0
  obtain ⟨i,rfl,hig,hb0,hb1,HI⟩:=hrel
  have i0:(0:Int)≤i:=by omega
  by_cases hlt:i<n
  ·obtain ⟨g',rfl⟩: ∃g',gk=g'+1:=⟨gk-1,by omega⟩
   have i1:(i:Int)<n:=by omega
   obtain ⟨c,hc⟩: ∃c,s[i]? =some c:=⟨_,List.getElem?_eq_getElem (by have:=HH.out.2.1;omega)⟩
   obtain ⟨g1,o1,ea,hcell⟩:=HH.out.1 i c hc
   subst ea
   have c1:=(H1.out.2.1.trans HI.out.2 fun _ _ f=>f).cell hcell (fun f=>f)
   obtain ⟨b,hb⟩: ∃b,isI c=b:=⟨_,rfl⟩
   have hk:=rissign_ c wr
   rw [hb] at hk
   have HK:=Lib.hid hk
   have HC:=Lib.hid (And.intro hc hb)
   have f0:wr.frozen? ⟨w.heap.size+1,0,none⟩=false:=Ux.frozen_row hb1 0
   have HB1:=Lib.hid hb1
   clear hc hcell hk hb hlt hb1
   go_wp2_with (go_at_call 64;fail)
   refine HK.out.mono ?_
   rintro e w4 ⟨rfl,hw⟩
   obtain rfl:wr=w4:=hw.symm
   cases b with
   |false=>
    clear HK
    have f1:wr.cell? ⟨w.heap.size+1,0,none⟩=some (.slice none 0 0):=by
     rw [cell_of_row _ (w.heap.size+1) 0 _ _ (0,0) HB1.out]
     rfl
    have f2:(wr.setCell ⟨w.heap.size+1,0,none⟩ (.slice none 0 0)).cell? ⟨w.heap.size+1,0,none⟩=some (.slice none 0 0):=by
     rw [cell_of_row _ (w.heap.size+1) 0 _ _ (0,0) (Ux.setCell_row HB1.out 0 (.slice none 0 0))]
     rfl
    go_wp2
    refine bodyPost_ret (by simp [results,Tryz.results20,go_sem,f2];try rfl) rfl ?_
    refine ⟨?_,(H1.out.2.1.trans HI.out.2 fun _ _ f=>f).trans (R:=fun _=>False) ((Ux.Touch.refl (fun b=>b=w.heap.size+1) wr).setCell (p:=⟨w.heap.size+1,0,none⟩) (fun _=>rfl) _) fun b hb h=>by omega⟩
    unfold RWithR
    rw [if_pos (List.all_eq_false.2 ⟨c,List.mem_of_getElem? HC.out.1,by rw [HC.out.2];simp⟩)]
   |true=>
    clear HK
    go_wp2
    go_roundg g'
    case measure=>omega
    case rel=>
     refine ⟨i+1,by congr 1,by omega,hb0,HB1.out,Lib.hid ⟨fun j d h1 h2=> ?_,HI.out.2⟩⟩
     by_cases hj:j=i
     ·subst hj
      have:d=c:=Option.some.inj (h2.symm.trans HC.out.1)
      subst this
      exact HC.out.2
     ·exact HI.out.1 j d (by omega) h2
  ·obtain rfl:n=i:=by omega
   have hall:s.all isI=true:=List.all_eq_true.2 fun c hc=>by
    obtain ⟨j,hj,rfl⟩:=List.mem_iff_getElem.1 hc
    exact HI.out.1 j _ (by have:=HH.out.2.1;omega) (List.getElem?_eq_getElem hj)
   obtain ⟨hc1,hnn,hk,hN,h1,h3,h8,hn,hT3,hTT,hss,hll⟩:=HH.out
   have T0:=H1.out.2.1.trans HI.out.2 fun _ _ f=>f
   obtain ⟨t,ht,_,_,_⟩:=keyOk_sv (s:=s) (by unfold keyOk;rw [hall];simp;omega)
   subst ht
   have hsv:(sv t).map Int.toNat=t:=by unfold sv;rw [List.map_map];exact (List.map_congr_left fun _ _=>rfl).trans (List.map_id t)
   rw [Ux.sv_length] at h1 h3
   have hss:=hss.s
   have hf:=rfind_ (.slice a N ca) (.slice a1 n c1) T (sv t) A wr (by rw [←hN] at hTT⊢;exact hTT.touch0 T0) (hss.i.touch0 T0) (by omega) (by rw [Ux.sv_length];omega) (fun e he=>by have:=(hT3 e he).2;omega)
   rw [findI_sv] at hf
   obtain ⟨b,hb⟩: ∃b,(Ux.findE T t).isSome=b:=⟨_,rfl⟩
   rw [hb] at hf
   have HF:=Lib.hid hf
   have hA0:=hTT.mono (A':=fun b=>A b∧b<w.heap.size) fun g h1 h2=>⟨h2,h1⟩
   have HP:=Lib.hid fun W (T1:Ux.Touch (fun _=>False) wr W)=>rrput_ (.slice a N ca) (.slice a1 n c1) (.slice a2 k c2) T t l (fun b=>A b∧b<w.heap.size) W ((hA0.touch0 T0).touch0 T1) ((hss.touch0 T0).touch0 T1) ((hll.touch0 T0).touch0 T1) h1 h3 (by omega) hn hT3
   have HB:=Lib.hid (And.intro hall (And.intro hb (And.intro hb1 (And.intro T0 (And.intro hsv hN)))))
   have HQ:=Lib.hid fun W (T1:Ux.Touch (fun _=>False) wr W)=>T1.cell hb0 (fun f=>f)
   clear hA0 hsv hall hc1 hnn hk hN h1 h3 h8 hn hT3 hTT hss hll T0 hf hb hb1 hlt
   go_wp2_with (go_at_call 22;fail)
   refine HF.out.mono ?_
   rintro e w4 ⟨u,rfl,_,T4⟩
   have hb0:=HQ.out _ T4
   have H4:=Lib.hid T4
   clear T4
   have hb1:=H4.out.heap HB.out.2.2.1 (fun f=>f)
   have f0:w4.frozen? ⟨w.heap.size+1,0,none⟩=false:=Ux.frozen_row hb1 0
   have f1:w4.cell? ⟨w.heap.size+1,0,none⟩=some (.slice none 0 0):=by
    rw [cell_of_row _ (w.heap.size+1) 0 _ _ (0,0) hb1]
    rfl
   have f2:(w4.setCell ⟨w.heap.size+1,0,none⟩ (.slice none 0 0)).cell? ⟨w.heap.size+1,0,none⟩=some (.slice none 0 0):=by
    rw [cell_of_row _ (w.heap.size+1) 0 _ _ (0,0) (Ux.setCell_row hb1 0 (.slice none 0 0))]
    rfl
   have HB1:=Lib.hid hb1
   clear hb1
   obtain ⟨D,hD⟩: ∃D,decide ((500:Int)≤N)=D:=⟨_,rfl⟩
   have HD:=Lib.hid hD
   cases b<;>cases D
   all_goals go_wp2_with (first|(go_at_call 51;fail)|fail)
   all_goals first
    |(refine (HP.out _ H4.out).mono ?_
      rintro e w5 ⟨u2,rfl,hR,T5⟩
      have hR0:=hR
      obtain ⟨_,a5,c5,hu2,_⟩:=hR0
      subst hu2
      have hb5:=T5.heap HB1.out (fun f=>f)
      have HR:=Lib.hid (And.intro hR T5)
      obtain ⟨n5,hn5⟩: ∃n5,(putE T t l).length=n5:=⟨_,rfl⟩
      rw [hn5] at HR⊢
      have g1:w5.frozen? ⟨w.heap.size+1,0,none⟩=false:=Ux.frozen_row hb5 0
      have g0:w5.cell? ⟨w.heap.size+1,0,none⟩=some (.slice none 0 0):=by
       rw [cell_of_row _ (w.heap.size+1) 0 _ _ (0,0) hb5]
       rfl
      have g2:(w5.setCell ⟨w.heap.size+1,0,none⟩ (.slice a5 n5 c5)).cell? ⟨w.heap.size+1,0,none⟩=some (.slice a5 n5 c5):=by
       rw [cell_of_row _ (w.heap.size+1) 0 _ _ (0,0) (Ux.setCell_row hb5 0 (.slice a5 n5 c5))]
       rfl
      have HB5:=Lib.hid hb5
      clear hR T5 f0 f1 f2 hn5 hb5
      go_wp2
      refine bodyPost_ret (by simp [results,Tryz.results20,go_sem,g2];try rfl) rfl ?_
      have ts:Ux.Touch (fun b=>b=w.heap.size+1) w5 (w5.setCell ⟨w.heap.size+1,0,none⟩ (.slice a5 n5 c5)):=(Ux.Touch.refl (fun b=>b=w.heap.size+1) w5).setCell (p:=⟨w.heap.size+1,0,none⟩) (fun _=>rfl) _
      have hz:w.heap.size+2≤w4.heap.size:=by
       have h1:=H1.out.2.2
       have h2:=H1.out.2.1.size
       have h3:=H4.out.size
       have h4:=HI.out.2.size
       omega
      refine ⟨?_,((HB.out.2.2.2.1.trans H4.out fun _ _ f=>f).trans HR.out.2 fun _ _ f=>f).trans (R:=fun _=>False) ts fun b hb h=>by omega⟩
      unfold RWithR
      rw [if_neg (by rw [HB.out.1];simp),HB.out.2.2.2.2.1,if_neg (fun h=>by
       rcases h with ⟨ha,hb'⟩
       first
        |exact absurd (HB.out.2.1.symm.trans ha) (by decide)
        |(have:=of_decide_eq_false HD.out;have:=HB.out.2.2.2.2.2;omega))]
      exact ⟨_,rfl,(HR.out.1.touchB ts fun g hg hA h=>by
       rcases hA with hA|hA
       ·omega
       ·omega).mono fun g _ hA=>by
        rcases hA with hA|hA
        ·exact .inl hA.1
        ·exact .inr (by omega)⟩)
    |(refine bodyPost_ret (by simp [results,Tryz.results20,go_sem,f2];try rfl) rfl ?_
      refine ⟨?_,(HB.out.2.2.2.1.trans H4.out fun _ _ f=>f).trans (R:=fun _=>False) ((Ux.Touch.refl (fun b=>b=w.heap.size+1) w4).setCell (p:=⟨w.heap.size+1,0,none⟩) (fun _=>rfl) _) fun b hb h=>by omega⟩
      unfold RWithR
      rw [if_neg (by rw [HB.out.1];simp),HB.out.2.2.2.2.1,if_pos ⟨HB.out.2.1,by have:=of_decide_eq_true HD.out;have:=HB.out.2.2.2.2.2;omega⟩])
end Go.Proofs.YtfccjaboicpohaaGreatDoor
namespace Go.Proofs.YtfccjaboicpohaaGreatDoor
open Go.RowKit
open Ux (Row Ent sv ev findE putE setE okE okT SameE SortedE)
open Ux.Sign (cp raw)
theorem sv_nat (t:List Nat):(sv t).map Int.toNat=t:=by
 unfold sv
 rw [List.map_map]
 exact (List.map_congr_left fun _ _=>rfl).trans (List.map_id t)
def codeE (T:List Ent) (s:List Int) (l:List Nat):Nat:=if keyOk s=false∨8<l.length then 1 else if (findE T (s.map Int.toNat)).isSome=false∧500≤T.length then 65 else 0
def stepU (T E:List Ent) (s:List Int) (l:List Nat):List Ent:=if codeE T s l=0 then setE E (s.map Int.toNat) l else E
def stepT (T:List Ent) (s:List Int) (l:List Nat):List Ent:=if codeE T s l=0 then putE T (s.map Int.toNat) l else T
theorem full_iff {E T:List Ent} (hS:SameE E T) (hok:okT E) (hE:E.length≤500) (t l:List Nat):((findE T t).isSome=false∧500≤T.length)↔500<(setE E t l).length:=by
 rw [←Ux.findE_perm hok.1 hS.1,Ux.setE_len,←hS.1.length_eq]
 by_cases h:t∈E.map (·.1)
 ·rw [if_pos h]
  obtain ⟨e,he,rfl⟩:=List.mem_map.1 h
  rw [Ux.findE_mem hok.1 he]
  simp
  omega
 ·rw [if_neg h,Ux.findE_none' h]
  simp
  omega
theorem code0 {T:List Ent} {s:List Int} {l:List Nat} (h:codeE T s l=0): ∃t,s=sv t∧(1≤t.length∧t.length≤3∧∀c∈t,cp c∨raw c)∧l.length≤8∧¬((findE T t).isSome=false∧500≤T.length):=by
 unfold codeE at h
 split at h
 ·cases h
 ·rename_i h1
  split at h
  ·cases h
  ·rename_i h2
   have hk:keyOk s=true:=by
    cases hk:keyOk s with
    |true=>rfl
    |false=>exact absurd (.inl hk) h1
   obtain ⟨t,rfl,a,b,c⟩:=keyOk_sv hk
   rw [sv_nat] at h2
   exact ⟨t,rfl,⟨a,b,c⟩,by omega,h2⟩
theorem step_ok {E T:List Ent} (hS:SameE E T) (hok:okT E) (hsig: ∀e∈E,∀c∈e.1,cp c∨raw c) (hE:E.length≤500) (s:List Int) (l:List Nat) (hlt: ∀x∈l,x<4294967296):
 SameE (stepU T E s l) (stepT T s l)∧okT (stepU T E s l)∧(∀e∈stepU T E s l,∀c∈e.1,cp c∨raw c)∧(stepU T E s l).length≤500:=by
 unfold stepU stepT
 by_cases h:codeE T s l=0
 ·rw [if_pos h,if_pos h]
  obtain ⟨t,rfl,⟨a,b,c⟩,h8,hf⟩:=code0 h
  rw [sv_nat]
  have hn:okE (t,l):=⟨⟨a,b,fun x hx=>by have:=c x hx;unfold cp raw at this;omega⟩,h8,hlt⟩
  refine ⟨hS.put hok hn,Ux.setE_ok hok hn,fun e he=> ?_,?_⟩
  ·rcases (Ux.setE_mem e).1 he with rfl|⟨h1,_⟩
   ·exact c
   ·exact hsig e h1
  ·rw [full_iff hS hok hE t l] at hf
   omega
 ·rw [if_neg h,if_neg h]
  exact ⟨hS,hok,hsig,hE⟩
theorem twithC_ (B mb:Nat) (E T:List Ent) (s:List Int) (l:List Nat) (vs vl:Value) (w:World) (hT:TableAt w B mb E) (hS:SameE E T) (hs:IView w vs s) (h63:s.length≤9223372036854775807) (hl:Row w 0 56 vl (ev l)) (hlt: ∀x∈l,x<4294967296) (h12:l.length≤12) (hE:E.length≤500):
 Calls Tryz.prog 19 #[.pointer (some ⟨B,0,none⟩),vs,vl] w fun e w'=> ∃P,e= .returned (.tuple #[.pointer P,.int .i64 (codeE T s l:Nat)])∧(codeE T s l=0∧(∃B' mb',P=some ⟨B',0,none⟩∧TableAt w' B' mb' (stepU T E s l))∨codeE T s l≠0∧P=none)∧Ux.Touch (fun _=>False) w w':=by
 have hok:=hT.1.1
 obtain ⟨a,c,hv,_⟩:=hl.is
 rw [Ux.ev_length] at hv
 by_cases hb:keyOk s=false∨8<l.length
 ·have h1:codeE T s l=1:=by unfold codeE;rw [if_pos hb]
  rw [h1]
  subst hv
  refine (twithNo_ _ s vs a l.length c w hs h63 (by omega) hb).mono ?_
  rintro e w' ⟨rfl,T1⟩
  exact ⟨none,rfl,.inr ⟨by decide,rfl⟩,T1⟩
 ·have hk:keyOk s=true:=by
   cases hk:keyOk s with
   |true=>rfl
   |false=>exact absurd (.inl hk) hb
  have h8:l.length≤8:=by omega
  obtain ⟨t,rfl,h1,h3,hc⟩:=keyOk_sv hk
  have hn:okE (t,l):=⟨⟨h1,h3,fun x hx=>by have:=hc x hx;unfold cp raw at this;omega⟩,h8,hlt⟩
  have hcode:codeE T (sv t) l=if 500<(setE E t l).length then 65 else 0:=by
   unfold codeE
   rw [if_neg hb,sv_nat]
   by_cases hf:(findE T t).isSome=false∧500≤T.length
   ·rw [if_pos hf,if_pos ((full_iff hS hok hE t l).1 hf)]
   ·rw [if_neg hf,if_neg fun h=>hf ((full_iff hS hok hE t l).2 h)]
  refine (twith_ B mb E t l vs vl w hT hs.s hl hn hc hE).mono ?_
  rintro e w' ⟨hR,T1⟩
  unfold WithR at hR
  by_cases hf:500<(setE E t l).length
  ·rw [if_pos hf] at hR hcode
   rw [hcode]
   exact ⟨none,hR,.inr ⟨by decide,rfl⟩,T1⟩
  ·rw [if_neg hf] at hR hcode
   obtain ⟨B',mb',he,_,hT'⟩:=hR
   rw [hcode]
   refine ⟨_,he,.inl ⟨rfl,B',mb',rfl,?_⟩,T1⟩
   unfold stepU
   rw [if_pos hcode,sv_nat]
   exact hT'
theorem rwithC_ (v vs vl:Value) (T:List Ent) (s:List Int) (l:List Nat) (A:Nat→Prop) (w:World) (hT:RRows w A v T) (hs:IView w vs s) (h63:s.length≤9223372036854775807) (hl:RRow w vl l) (h12:l.length≤12) (hn:T.length≤10000) (hT3: ∀e∈T,1≤e.1.length∧e.1.length≤3):
 Calls Tryz.prog 20 #[.agg #[v],vs,vl] w fun e w'=> ∃u,e= .returned (.tuple #[.agg #[u],.int .i64 (codeE T s l:Nat)])∧RRows w' (fun b=>A b∨w.heap.size≤b) u (if codeE T s l=0 then putE T (s.map Int.toNat) l else [])∧Ux.Touch (fun _=>False) w w':=by
 by_cases hb:s.length<1∨3<s.length∨8<l.length
 ·have h1:codeE T s l=1:=by
   unfold codeE
   rw [if_pos]
   rcases hb with h|h|h
   ·left
    unfold keyOk
    rw [decide_eq_false (by omega)]
    rfl
   ·left
    unfold keyOk
    rw [show decide (s.length≤3)=false from decide_eq_false (by omega)]
    simp
   ·exact .inr h
  rw [h1]
  refine (rwithLen_ v vs vl T s l A w hT hs hl h63 (by omega) hb).mono ?_
  rintro e w' ⟨rfl,T1⟩
  exact ⟨_,rfl,RRows.nil _ _,T1⟩
 ·have hlen:1≤s.length∧s.length≤3∧l.length≤8:=by omega
  refine (rwith_ v vs vl T s l A w hT hs hl hlen.1 hlen.2.1 hlen.2.2 hn hT3).mono ?_
  rintro e w' ⟨hR,T1⟩
  unfold RWithR at hR
  have hk:keyOk s=s.all isI:=by
   unfold keyOk
   rw [decide_eq_true hlen.1,decide_eq_true hlen.2.1]
   rfl
  have hcode:codeE T s l=if s.all isI=false then 1 else if (findE T (s.map Int.toNat)).isSome=false∧500≤T.length then 65 else 0:=by
   unfold codeE
   rw [hk]
   by_cases ha:s.all isI=false
   ·rw [if_pos (.inl ha),if_pos ha]
   ·rw [if_neg (fun h=>by rcases h with h|h;exact ha h;omega),if_neg ha]
  by_cases ha:s.all isI=false
  ·rw [if_pos ha] at hR hcode
   rw [hcode]
   exact ⟨_,hR,RRows.nil _ _,T1⟩
  ·rw [if_neg ha] at hR hcode
   by_cases hf:(findE T (s.map Int.toNat)).isSome=false∧500≤T.length
   ·rw [if_pos hf] at hR hcode
    rw [hcode]
    exact ⟨_,hR,RRows.nil _ _,T1⟩
   ·rw [if_neg hf] at hR hcode
    rw [hcode]
    obtain ⟨u,he,hu⟩:=hR
    exact ⟨u,he,hu,T1⟩
end Go.Proofs.YtfccjaboicpohaaGreatDoor
namespace Go.Proofs.YtfccjaboicpohaaGreatDoor
open Go.RowKit
open Ux (Ent sv iv findE implE longE atE)
open Ux.Sign (cp raw)
theorem SView.sub {w:World} {g o n c:Nat} {s:List Nat} (h:SView w (.slice (some ⟨g,o,none⟩) n c) s) (i m:Nat) (hm:i+m≤s.length) (c':Nat):SView w (.slice (some ⟨g,o+i,none⟩) m c') ((s.drop i).take m):=by
 obtain ⟨a,k,e,hc⟩:=h
 cases e
 refine ⟨_,c',by rw [List.length_take,List.length_drop,Nat.min_eq_left (by omega)],fun j x hj=>⟨g,o+i,rfl,?_⟩⟩
 have:s[i+j]? =some x:=by
  rw [List.getElem?_take] at hj
  split at hj
  ·rw [List.getElem?_drop] at hj
   exact hj
  ·cases hj
 obtain ⟨g',o',e,h1⟩:=hc _ _ this
 cases e
 rw [Nat.add_assoc]
 exact h1
end Go.Proofs.YtfccjaboicpohaaGreatDoor
namespace Go.Proofs.YtfccjaboicpohaaGreatDoor
open Go.RowKit
open Ux (Ent sv iv findE atE ofE elemsE KGrow okT)
open Ux.Sign (cp raw)
theorem rv_app (a b:List Nat):rv (a++b)=rv a++rv b:=by
 unfold rv
 rw [List.flatMap_append]
theorem capOk_grow {w:World} {lo:Nat} {t:TypeId} {sz:Nat} {v:Value} {n:Nat} {xs:List Value} (h:KGrow w lo t sz v n xs):capOk v:=by
 obtain ⟨a,c,rfl,_⟩:=h.is
 exact h.cap
end Go.Proofs.YtfccjaboicpohaaGreatDoor
