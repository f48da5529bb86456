/- PART OF THE PROOF THAT THIS CLAIM HOLDS OF THE GIVEN PROGRAM, FOR EVERY INPUT THAT THE STATEMENT NAMES. No condition besides the statement's own. -/
import Derived.Test.YtglamoompicciaaGreatDoorAwakeZ
import Derived.Test.YtglamoompicciaaGreatDoorRows
import Derived.WalkKit
import Derived.Handy
import Derived.Laws.EntriesVeiled
import Derived.WalkSpells
import Derived.WalkLawsBesides
import Derived.BigQuiet
import Derived.Deep.QuietTactic
import Derived.Deep.Cut
import Derived.Deep.DeepCutAuto
import Derived.Lib.Overlaps
import Derived.Laws.Externs
import Derived.Lib.Hide
import Derived.Test.YtglamoompicciaaGreatDoorUxPlanAllZ
import Derived.Test.YtglamoompicciaaGreatDoorUxTreeAllZ
import Derived.Deep.LoopGhost
namespace Go.Proofs.YtglamoompicciaaGreatDoor
open Go.RowKit
open Go.RowKit
open Ux (Row iv sv bv)
open Ux.Sign (signs foldN foldI foldText)
open Ux.Like (mat pat elt same hit mat_turn)

/-- an element's small one -/
def gE (c : Int) : Int := if c < 0 then c else foldI c
theorem elt_fold (c : Nat) : elt (foldN c) = gE (elt c) := by
  unfold gE
  by_cases h1 : c = 37
  · subst h1; decide
  by_cases h2 : c = 95
  · subst h2; decide
  have e1 : elt c = (c : Int) := by unfold elt; rw [if_neg h1, if_neg h2]
  rw [e1, if_neg (by omega), Ux.Sign.foldI_nat]
  have h3 : foldN c ≠ 37 ∧ foldN c ≠ 95 := by
    unfold foldN
    split
    · omega
    · split <;> omega
  unfold elt
  rw [if_neg h3.1, if_neg h3.2]
theorem folds_same (p s : List Nat) : mat same ((p.map foldN).map elt) (sv (s.map foldN)) = mat (eqvK 2) (p.map elt) (sv s) := by
  have e1 : (p.map foldN).map elt = (p.map elt).map gE := by
    rw [List.map_map, List.map_map]
    exact List.map_congr_left fun c _ => elt_fold c
  have e2 : sv (s.map foldN) = (sv s).map foldI := by
    unfold sv
    rw [List.map_map, List.map_map]
    exact List.map_congr_left fun c _ => (Ux.Sign.foldI_nat c).symm
  rw [e1, e2]
  refine mat_turn (fun c => ?_) fun c hc x hx hne => ?_
  · unfold gE
    split
    · exact Iff.rfl
    · rename_i h
      constructor
      · intro e
        have : 0 ≤ foldI c := by
          obtain ⟨n, rfl⟩ := Int.eq_ofNat_of_zero_le (by omega : 0 ≤ c)
          rw [Ux.Sign.foldI_nat]; omega
        omega
      · intro e; omega
  · obtain ⟨d, _, rfl⟩ := List.mem_map.1 hc
    unfold hit eqvK same gE
    rw [if_pos rfl]
    by_cases h : elt d < 0
    · rw [if_pos h]
      have h2 : elt d = -2 := by
        unfold elt at h hne ⊢
        split at h
        · rw [if_pos (by assumption)] at hne; exact absurd rfl hne
        · rename_i h37
          rw [if_neg h37]
          split at h
          · rw [if_pos (by assumption)]
          · omega
      rw [h2]
      rfl
    · rw [if_neg h]
      have h0 : foldI (elt d) ≠ -2 := by
        obtain ⟨n, hn⟩ := Int.eq_ofNat_of_zero_le (by omega : 0 ≤ elt d)
        rw [hn, Ux.Sign.foldI_nat]; omega
      rw [decide_eq_false h0, decide_eq_false (by omega : ¬ elt d = -2)]

set_option maxHeartbeats 4000000 in
set_option maxRecDepth 100000 in
theorem folds_big (p s : ByteArray) (w : World) (hT : Tabs w) (h1 : p.size ≤ 140737488355328) (h2 : s.size ≤ 140737488355328) (h : p.size + s.size > 100) :
    Calls Tryz.prog 3 #[.string p, .string s] w fun e w' => e = .returned (.bool true) ∧ Ux.Touch (fun _ => False) w w' := by
  have AW := Lib.hid (awake_ w hT)
  obtain ⟨n1, e1⟩ : ∃ n, p.size = n := ⟨_, rfl⟩
  obtain ⟨n2, e2⟩ : ∃ n, s.size = n := ⟨_, rfl⟩
  have t0 : ((n1 : Int) + n2 > 100) := by omega
  have g1 : (n1 : Int) ≤ 140737488355328 := by omega
  have g2 : (n2 : Int) ≤ 140737488355328 := by omega
  clear h h1 h2 hT
  go_enter Tryz.func3, Tryz.ntmps3
  go_wp2_with (go_at_call 9; fail)
  refine AW.out.mono ?_
  rintro e w7 ⟨rfl, T7⟩
  have H7 := Lib.hid T7
  clear T7
  go_wp2
  go_ret
  exact ⟨rfl, H7.out⟩

set_option maxHeartbeats 8000000 in
set_option maxRecDepth 100000 in
theorem folds_ (p s : ByteArray) (w : World) (hT : Tabs w) (h : p.size + s.size ≤ 100) :
    Calls Tryz.prog 3 #[.string p, .string s] w fun e w' => e = .returned (.bool true) ∧ Ux.Touch (fun _ => False) w w' := by
  have AW := Lib.hid fun w' (T : Ux.Touch (fun _ => False) w w') => awake_ w' (hT.touch T)
  have CL2 := Lib.hid (lawMake_ 2 0 (.inr rfl) false false ⟨#[]⟩ w)
  have CL1 := Lib.hid fun w' => lawMake_ 1 0 (.inl rfl) false false ⟨#[]⟩ w'
  unfold collV rcollV at CL1 CL2
  have fsz : ∀ t : ByteArray, t.size ≤ 100 → (⟨(foldText t.data.toList).toArray⟩ : ByteArray).size ≤ 400 := fun t ht => by
    show (foldText t.data.toList).toArray.size ≤ _
    unfold foldText
    have h1 := put_len ((signs t.data.toList).map foldN)
    have h2 := signs_len t.data.toList
    have e : t.data.toList.length = t.size := by simp
    rw [List.length_map] at h1
    simp
    omega
  obtain ⟨fp, hfp⟩ : ∃ q : ByteArray, (⟨(foldText p.data.toList).toArray⟩ : ByteArray) = q := ⟨_, rfl⟩
  obtain ⟨fs, hfs⟩ : ∃ q : ByteArray, (⟨(foldText s.data.toList).toArray⟩ : ByteArray) = q := ⟨_, rfl⟩
  have hfp1 : fp.size ≤ 400 := by rw [← hfp]; exact fsz p (by omega)
  have hfs1 : fs.size ≤ 400 := by rw [← hfs]; exact fsz s (by omega)
  have hfp2 : signs fp.data.toList = (signs p.data.toList).map foldN := by rw [← hfp]; exact Ux.Sign.signs_foldText _
  have hfs2 : signs fs.data.toList = (signs s.data.toList).map foldN := by rw [← hfs]; exact Ux.Sign.signs_foldText _
  have CFP := Lib.hid fun w' => rft_ p w' (by omega)
  have CFS := Lib.hid fun w' => rft_ s w' (by omega)
  rw [hfp] at CFP
  rw [hfs] at CFS
  obtain ⟨P, hP⟩ : ∃ P, (signs p.data.toList).map elt = P := ⟨_, rfl⟩
  obtain ⟨Q, hQ⟩ : ∃ Q, (signs fp.data.toList).map elt = Q := ⟨_, rfl⟩
  have CMP := Lib.hid fun w' (T : Ux.Touch (fun _ => False) w w') => make0_ p w' (by omega) (hT.touch T)
  have CMQ := Lib.hid fun w' (T : Ux.Touch (fun _ => False) w w') => make0_ fp w' (by omega) (hT.touch T)
  rw [hP] at CMP
  rw [hQ] at CMQ
  have hPl : P.length ≤ 1000 := by rw [← hP, List.length_map]; have := signs_len p.data.toList; have e : p.data.toList.length = p.size := by simp
                                   omega
  have hQl : Q.length ≤ 1000 := by rw [← hQ, List.length_map]; have := signs_len fp.data.toList; have e : fp.data.toList.length = fp.size := by simp
                                   omega
  have hPb : ∀ a ∈ P, -3 < a ∧ a < 1114368 := by rw [← hP]; exact elt_bound _ (signs_lt _)
  have hQb : ∀ a ∈ Q, -3 < a ∧ a < 1114368 := by rw [← hQ]; exact elt_bound _ (signs_lt _)
  obtain ⟨R, hR⟩ : ∃ R, mat (eqvK 2) P (sv (signs s.data.toList)) = R := ⟨_, rfl⟩
  have hR2 : mat (eqvK 1) Q (sv (signs fs.data.toList)) = R := by
    have e : eqvK 1 = same := by
      funext a b
      unfold eqvK same
      rw [if_neg (by decide)]
    rw [e, ← hQ, hfp2, hfs2, folds_same, hP, hR]
  have K2 : Hid (∀ (v : Value) (lo : Nat) (w' : World), Ux.Touch (fun _ => False) w w' → Row w' lo 3 v (iv P) → Calls Tryz.prog 13 #[.agg #[v], .agg #[.int .i64 2, .int .i64 0, .bool false, .bool false, .pointer none], .string s] w' fun e w'' => e = .returned (.bool R) ∧ Ux.Touch (fun _ => False) w' w'') := Lib.hid fun v lo w' T hRow => by
    have h := matchK 2 (.inr rfl) P v lo s w' (by omega) (hT.touch T) hRow (by omega) hPb
    rw [hR] at h
    exact h
  have K1 : Hid (∀ (v : Value) (lo : Nat) (w' : World), Ux.Touch (fun _ => False) w w' → Row w' lo 3 v (iv Q) → Calls Tryz.prog 13 #[.agg #[v], .agg #[.int .i64 1, .int .i64 0, .bool false, .bool false, .pointer none], .string fs] w' fun e w'' => e = .returned (.bool R) ∧ Ux.Touch (fun _ => False) w' w'') := Lib.hid fun v lo w' T hRow => by
    have h := matchK 1 (.inl rfl) Q v lo fs w' (by omega) (hT.touch T) hRow (by omega) hQb
    rw [hR2] at h
    exact h
  obtain ⟨n1, e1⟩ : ∃ n, p.size = n := ⟨_, rfl⟩
  obtain ⟨n2, e2⟩ : ∃ n, s.size = n := ⟨_, rfl⟩
  have t0 : ¬ ((n1 : Int) + n2 > 100) := by omega
  have g1 : (n1 : Int) ≤ 100 := by omega
  have g2 : (n2 : Int) ≤ 100 := by omega
  clear hT h fsz hfp hfs hfp1 hfs1 hfp2 hfs2 hP hQ hPl hQl hPb hQb hR hR2
  go_enter Tryz.func3, Tryz.ntmps3
  go_wp2_with (go_at_call 10; fail)
  refine CL2.out.mono ?_
  rintro e w1 ⟨rfl, T1⟩
  have H1 := Lib.hid T1
  clear T1
  obtain ⟨B1, hB1⟩ : ∃ B, w1.heap.size = B := ⟨_, rfl⟩
  go_wp2_with (go_at_call 10; fail)
  refine (CL1.out _).mono ?_
  rintro e w2 ⟨rfl, T2⟩
  have hc2 : w2.heap[B1]? = some (.cells #[.int .i64 2, .int .i64 0, .bool false, .bool false, .pointer none] 25 (0, 0)) := by
    rw [← hB1]
    exact T2.heap (((Ux.Touch.refl (fun _ => False) _).alloc _).heap (heap_alloc_new w1 _) (fun f => f)) (fun f => f)
  have H2 := Lib.hid (And.intro (((H1.out.alloc _).alloc _).trans T2 fun _ _ f => f) hc2)
  clear T2 hc2
  obtain ⟨B2, hB2⟩ : ∃ B, w2.heap.size = B := ⟨_, rfl⟩
  go_wp2_with (go_at_call 11; fail)
  refine (CMP.out _ ((H2.out.1.alloc _).alloc _)).mono ?_
  rintro e w3 ⟨a1, m1, c1, rfl, hR1, T3⟩
  have hc3 : w3.heap[B2]? = some (.cells #[.int .i64 1, .int .i64 0, .bool false, .bool false, .pointer none] 25 (0, 0)) := by
    rw [← hB2]
    exact T3.heap (((Ux.Touch.refl (fun _ => False) _).alloc _).heap (heap_alloc_new w2 _) (fun f => f)) (fun f => f)
  have TA3 : Ux.Touch (fun _ => False) w2 w3 := (((Ux.Touch.refl _ w2).alloc _).alloc _).trans T3 fun _ _ f => f
  have H3 := Lib.hid (And.intro (H2.out.1.trans TA3 fun _ _ f => f) (And.intro (TA3.heap H2.out.2 (fun f => f)) (And.intro hc3 hR1)))
  clear T3 hc3 hR1 TA3
  obtain ⟨B3, hB3⟩ : ∃ B, w3.heap.size = B := ⟨_, rfl⟩
  go_wp2_with (go_at_call 12; fail)
  refine (CFP.out _).mono ?_
  rintro e w4 ⟨rfl, T4⟩
  have hp4 : w4.heap[B3]? = some (.cells #[.slice a1 m1 c1] 35 (0, 0)) := by rw [← hB3]; exact T4.heap (heap_alloc_new w3 _) (fun f => f)
  have TA4 : Ux.Touch (fun _ => False) w3 w4 := ((Ux.Touch.refl _ w3).alloc _).trans T4 fun _ _ f => f
  have H4 := Lib.hid (And.intro TA4 hp4)
  clear T4 hp4 TA4
  go_wp2_with (go_at_call 11; fail)
  refine (CMQ.out _ (H3.out.1.trans H4.out.1 fun _ _ f => f)).mono ?_
  rintro e w5 ⟨a2, m2, c2, rfl, hR2, T5⟩
  have TA5 : Ux.Touch (fun _ => False) w3 w5 := H4.out.1.trans T5 fun _ _ f => f
  obtain ⟨B4, hB4⟩ : ∃ B, w5.heap.size = B := ⟨_, rfl⟩
  obtain ⟨w6, hw6⟩ : ∃ w6, w5.alloc (.cells #[.slice a2 m2 c2] 35) = w6 := ⟨_, rfl⟩
  have TA6 : Ux.Touch (fun _ => False) w5 w6 := by rw [← hw6]; exact (Ux.Touch.refl _ w5).alloc _
  have hp6 : w6.heap[B4]? = some (.cells #[.slice a2 m2 c2] 35 (0, 0)) := by rw [← hB4, ← hw6]; exact heap_alloc_new w5 _
  have hp46 := TA6.heap (T5.heap H4.out.2 (fun f => f)) (fun f => f)
  have F6 : ∀ w', Ux.Touch (fun _ => False) w6 w' → (Ux.Touch (fun _ => False) w w' ∧ Row w' 0 3 (.slice a1 m1 c1) (iv P) ∧ Row w' 0 3 (.slice a2 m2 c2) (iv Q)) ∧
      (w'.cell? ⟨B3, 0, none⟩ = some (.slice a1 m1 c1) ∧ w'.cell? ⟨B4, 0, none⟩ = some (.slice a2 m2 c2) ∧
        w'.cell? ⟨B1, 0, none⟩ = some (.int .i64 2) ∧ w'.cell? ⟨B1, 1, none⟩ = some (.int .i64 0) ∧ w'.cell? ⟨B1, 2, none⟩ = some (.bool false) ∧ w'.cell? ⟨B1, 3, none⟩ = some (.bool false) ∧ w'.cell? ⟨B1, 4, none⟩ = some (.pointer none) ∧
        w'.cell? ⟨B2, 0, none⟩ = some (.int .i64 1) ∧ w'.cell? ⟨B2, 1, none⟩ = some (.int .i64 0) ∧ w'.cell? ⟨B2, 2, none⟩ = some (.bool false) ∧ w'.cell? ⟨B2, 3, none⟩ = some (.bool false) ∧ w'.cell? ⟨B2, 4, none⟩ = some (.pointer none)) := fun w' T => by
    have T3' := (TA5.trans TA6 fun _ _ f => f).trans T fun _ _ f => f
    refine ⟨⟨H3.out.1.trans T3' fun _ _ f => f, (H3.out.2.2.2.touch0 T3').mono (Nat.zero_le _), (hR2.touch0 (TA6.trans T fun _ _ f => f)).mono (Nat.zero_le _)⟩, ?_⟩
    have f1 := T.heap hp46 (fun f => f)
    have f2 := T.heap hp6 (fun f => f)
    obtain ⟨x0, x1, x2, x3, x4⟩ := collCells (T3'.heap H3.out.2.1 (fun f => f))
    exact ⟨by rw [cell_of_row w' B3 0 _ _ (0, 0) f1]; rfl, by rw [cell_of_row w' B4 0 _ _ (0, 0) f2]; rfl, x0, x1, x2, x3, x4, collCells (T3'.heap H3.out.2.2.1 (fun f => f))⟩
  have HF := Lib.hid F6
  clear F6 hp6 hp46 TA6 TA5 T5 hR2
  go_upto_region 7 with (fail)
  obtain ⟨k0, k1, k2, k3, k4, k5, k6, k7, k8, k9, k10, k11⟩ := (HF.out w6 (Ux.Touch.refl _ _)).2
  refine Ux.wp_region_plan (fun _ w' => w'.cell? ⟨B3, 0, none⟩ = some (.slice a1 m1 c1) ∧ w'.cell? ⟨B4, 0, none⟩ = some (.slice a2 m2 c2) ∧ w'.cell? ⟨B1, 0, none⟩ = some (.int .i64 2) ∧ w'.cell? ⟨B1, 1, none⟩ = some (.int .i64 0) ∧ w'.cell? ⟨B1, 2, none⟩ = some (.bool false) ∧ w'.cell? ⟨B1, 3, none⟩ = some (.bool false) ∧ w'.cell? ⟨B1, 4, none⟩ = some (.pointer none) ∧ w'.cell? ⟨B2, 0, none⟩ = some (.int .i64 1) ∧ w'.cell? ⟨B2, 1, none⟩ = some (.int .i64 0) ∧ w'.cell? ⟨B2, 2, none⟩ = some (.bool false) ∧ w'.cell? ⟨B2, 3, none⟩ = some (.bool false) ∧ w'.cell? ⟨B2, 4, none⟩ = some (.pointer none)) (.q [0, 1, 2, 3, 4, 5, 6, 7, 8, 9, 10, 11, 12, 15, 19] (.h false [13, 14, 17, 18] (.e 16 true false (.e 20 true false (.e 21 true false (.q [22, 23, 24] (.e 25 true false (.q [26] (.line [27])))))))))
    (by kernel_rfl) (by kernel_rfl) (by intro _ _ d _ _ h; cases d <;> exact h) ?hS ?_
  case hS => (intro c; cases c <;> (simp only [World.cell?_drew]; first | exact True.intro | (refine ⟨?_, ?_⟩ <;> assumption) | assumption | (repeat (first | assumption | (refine And.intro ?_ ?_)))))
  simp only [Ux.wpPlan, Ux.pickOps, Ux.keeps, List.getElem?_toArray, List.getElem?_cons_succ, List.getElem?_cons_zero]
  repeat (first
    | go_big_quiet_step (fail)
    | (with_reducible refine wpQuiet_nil ?_)
    | (refine Ux.quiet_held rfl ?_; apply Exists.intro; refine ⟨fun w' hS => ?_, ?_⟩; (focus ((try dsimp only at hS); go_simp; first | done | with_reducible rfl)); simp only [Act.put, List.setIfInBounds_toArray, List.set_cons_zero, List.set_cons_succ]))
  clear k0 k1 k2 k3 k4 k5 k6 k7 k8 k9 k10 k11
  have S6 := Lib.hid ((Ux.Touch.refl (fun _ => False) w6).drew)
  go_wp2_with (go_at_call 13; fail)
  refine (K2.out _ 0 _ (HF.out _ S6.out).1.1 (HF.out _ S6.out).1.2.1).mono ?_
  rintro e w7 ⟨rfl, T7⟩
  have S7 := Lib.hid (S6.out.trans T7 fun _ _ f => f)
  clear T7
  go_wp2_with (fail)
  refine ⟨(HF.out _ S7.out).2, ?_⟩
  repeat (first
    | go_big_quiet_step (fail)
    | (with_reducible refine wpQuiet_nil ?_)
    | (refine Ux.quiet_held rfl ?_; apply Exists.intro; refine ⟨fun w' hS => ?_, ?_⟩; (focus ((try dsimp only at hS); go_simp; first | done | with_reducible rfl)); simp only [Act.put, List.setIfInBounds_toArray, List.set_cons_zero, List.set_cons_succ]))
  go_wp2_with (go_at_call 12; fail)
  refine (CFS.out _).mono ?_
  rintro e w8 ⟨rfl, T8⟩
  have S8 := Lib.hid (S7.out.trans T8 fun _ _ f => f)
  clear T8
  go_wp2_with (fail)
  refine ⟨(HF.out _ S8.out).2, ?_⟩
  repeat (first
    | go_big_quiet_step (fail)
    | (with_reducible refine wpQuiet_nil ?_)
    | (refine Ux.quiet_held rfl ?_; apply Exists.intro; refine ⟨fun w' hS => ?_, ?_⟩; (focus ((try dsimp only at hS); go_simp; first | done | with_reducible rfl)); simp only [Act.put, List.setIfInBounds_toArray, List.set_cons_zero, List.set_cons_succ]))
  go_wp2_with (go_at_call 13; fail)
  refine (K1.out _ 0 _ (HF.out _ S8.out).1.1 (HF.out _ S8.out).1.2.2).mono ?_
  rintro e w9 ⟨rfl, T9⟩
  have S9 := Lib.hid (S8.out.trans T9 fun _ _ f => f)
  clear T9
  go_wp2_with (fail)
  refine ⟨(HF.out _ S9.out).2, ?_⟩
  repeat (first
    | go_big_quiet_step (fail)
    | (with_reducible refine wpQuiet_nil ?_)
    | (refine Ux.quiet_held rfl ?_; apply Exists.intro; refine ⟨fun w' hS => ?_, ?_⟩; (focus ((try dsimp only at hS); go_simp; first | done | with_reducible rfl)); simp only [Act.put, List.setIfInBounds_toArray, List.set_cons_zero, List.set_cons_succ]))
  go_wp2_with (go_at_call 9; fail)
  refine (AW.out _ (HF.out _ S9.out).1.1).mono ?_
  rintro e w10 ⟨rfl, T10⟩
  have S10 := Lib.hid (S9.out.trans T10 fun _ _ f => f)
  clear T10
  go_wp2_with (fail)
  refine ⟨(HF.out _ S10.out).2, ?_⟩
  repeat (first
    | go_big_quiet_step (fail)
    | (with_reducible refine wpQuiet_nil ?_)
    | (refine Ux.quiet_held rfl ?_; apply Exists.intro; refine ⟨fun w' hS => ?_, ?_⟩; (focus ((try dsimp only at hS); go_simp; first | done | with_reducible rfl)); simp only [Act.put, List.setIfInBounds_toArray, List.set_cons_zero, List.set_cons_succ]))
  go_wp2
  go_ret
  exact ⟨rfl, (HF.out _ S10.out).1.1⟩

theorem foldsAll_ (p s : ByteArray) (w : World) (hT : Tabs w) (h1 : p.size ≤ 140737488355328) (h2 : s.size ≤ 140737488355328) :
    Calls Tryz.prog 3 #[.string p, .string s] w fun e w' => e = .returned (.bool true) ∧ Ux.Touch (fun _ => False) w w' := by
  by_cases h : p.size + s.size > 100
  · exact folds_big p s w hT h1 h2 h
  · exact folds_ p s w hT (by omega)

end Go.Proofs.YtglamoompicciaaGreatDoor
