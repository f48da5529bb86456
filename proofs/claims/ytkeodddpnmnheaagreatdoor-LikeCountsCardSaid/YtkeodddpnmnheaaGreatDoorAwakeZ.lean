/- PART OF THE PROOF THAT THIS CLAIM HOLDS OF THE GIVEN PROGRAM, FOR EVERY INPUT THAT THE STATEMENT NAMES. No condition besides the statement's own. -/
import Derived.Test.YtkeodddpnmnheaaGreatDoorMatchZ
import Derived.Test.YtkeodddpnmnheaaGreatDoorMakeZ
import Derived.Test.YtkeodddpnmnheaaGreatDoorLaw8Z
import Derived.Test.YtkeodddpnmnheaaGreatDoorUxNumAZ
import Derived.Test.YtkeodddpnmnheaaGreatDoorRows
import Derived.WalkKit
import Derived.Handy
import Derived.Laws.EntriesVeiled
import Derived.WalkSpells
import Derived.WalkLawsBesides
import Derived.BigQuiet
import Derived.Deep.QuietTactic
import Derived.Deep.Cut
import Derived.Deep.DeepCutAuto
import Derived.Lib.Overlaps
import Derived.Laws.Externs
import Derived.Lib.Hide
import Derived.Test.YtkeodddpnmnheaaGreatDoorUxPlanAllZ
import Derived.Test.YtkeodddpnmnheaaGreatDoorUxMemAZ
import Derived.Test.YtkeodddpnmnheaaGreatDoorUxCollAZ
import Derived.Deep.LoopGhost
namespace Go.Proofs.YtkeodddpnmnheaaGreatDoor
open Go.RowKit
open Go.RowKit
open Ux (Row iv sv bv)
open Ux.Sign (signs)
open Ux.Like (mat pat elt)

theorem matchK (k : Int) (hk : k = 1 ∨ k = 2) (P : List Int) (pv : Value) (lo : Nat) (s : ByteArray) (w : World) (hs : s.size ≤ 1000000) (hT : Tabs w) (hP : Row w lo 3 pv (iv P)) (hp : P.length ≤ 1000000) (hb : ∀ a ∈ P, -3 < a ∧ a < 1114368) :
    Calls Tryz.prog 38 #[.agg #[pv], collV k, .string s] w fun e w' => e = .returned (.bool (mat (eqvK k) P (sv (signs s.data.toList)))) ∧ Ux.Touch (fun _ => False) w w' :=
  match_ (eqvK k) k 0 false false none P pv lo s w hs hT hP hp fun a b w' ha _ _ hbb _ => alike_ k hk a b (by have := hb a ha; omega) (by
    unfold sv at hbb
    obtain ⟨c, hc, rfl⟩ := List.mem_map.1 hbb
    have := signs_lt _ c hc
    omega) w'

theorem lit_acA : pat none (signs (⟨#[97, 37, 95, 99]⟩ : ByteArray).data.toList) = some [97, -1, -2, 99] := by
  rw [Ux.Sign.signs_ascii _ (by decide)]
  rw [Ux.Like.pat_none]
  decide
theorem lit_emp : only (⟨#[]⟩ : ByteArray).data.toList = none := by
  unfold only
  have : signs (⟨#[]⟩ : ByteArray).data.toList = [] := by unfold signs; rfl
  rw [this]
  rfl
theorem lit_m1 : mat (eqvK 1) [97, -1, -2, 99] (sv (signs (⟨#[97, 98, 98, 99]⟩ : ByteArray).data.toList)) = true := by
  rw [Ux.Sign.signs_ascii _ (by decide)]
  decide
theorem lit_m2 : mat (eqvK 1) [97, -1, -2, 99] (sv (signs (⟨#[97, 99]⟩ : ByteArray).data.toList)) = false := by
  rw [Ux.Sign.signs_ascii _ (by decide)]
  decide

/-- Make without a sign that escapes: the elements -/
theorem make0_ (p : ByteArray) (w : World) (hp : p.size ≤ 1000000) (hT : Tabs w) : Calls Tryz.prog 37 #[.string p, .string ⟨#[]⟩] w fun e w' => ∃ a n c, e = .returned (.tuple #[.agg #[.slice a n c], .int .i64 0]) ∧ Row w' w.heap.size 3 (.slice a n c) (iv ((signs p.data.toList).map elt)) ∧ Ux.Touch (fun _ => False) w w' := by
  refine (make_ p ⟨#[]⟩ w hp hT (by decide) none lit_emp _ rfl).mono ?_
  rintro e w' ⟨x, rfl, hx, ht⟩
  unfold MakeSays at hx
  rw [if_neg (fun h => h.1 rfl), Ux.Like.pat_none] at hx
  obtain ⟨v, rfl, hR⟩ := hx
  obtain ⟨a, c, rfl, _⟩ := hR.is
  exact ⟨a, _, c, rfl, hR, ht⟩
theorem elt_bound (l : List Nat) (h : ∀ c ∈ l, c < 1114368) : ∀ a ∈ l.map elt, -3 < a ∧ a < 1114368 := fun a ha => by
  obtain ⟨c, hc, rfl⟩ := List.mem_map.1 ha
  have := h c hc
  unfold elt
  split
  · omega
  · split <;> omega

theorem collCells {w : World} {B : Nat} {k : Int} (h : w.heap[B]? = some (.cells #[.int .i64 k, .int .i64 0, .bool false, .bool false, .pointer none] 26 (0, 0))) :
    w.cell? ⟨B, 0, none⟩ = some (.int .i64 k) ∧ w.cell? ⟨B, 1, none⟩ = some (.int .i64 0) ∧ w.cell? ⟨B, 2, none⟩ = some (.bool false) ∧ w.cell? ⟨B, 3, none⟩ = some (.bool false) ∧ w.cell? ⟨B, 4, none⟩ = some (.pointer none) := by
  refine ⟨?_, ?_, ?_, ?_, ?_⟩
  · rw [cell_of_row w B 0 _ _ (0, 0) h]; rfl
  · rw [cell_of_row w B 1 _ _ (0, 0) h]; rfl
  · rw [cell_of_row w B 2 _ _ (0, 0) h]; rfl
  · rw [cell_of_row w B 3 _ _ (0, 0) h]; rfl
  · rw [cell_of_row w B 4 _ _ (0, 0) h]; rfl

set_option maxHeartbeats 4000000 in
set_option maxRecDepth 100000 in
theorem awake_ (w : World) (hT : Tabs w) : Calls Tryz.prog 35 #[] w fun e w' => e = .returned (.bool true) ∧ Ux.Touch (fun _ => False) w w' := by
  have CL := Lib.hid (lawMake_ 1 0 (.inl rfl) false false ⟨#[]⟩ w)
  have CM := Lib.hid fun w' (T : Ux.Touch (fun _ => False) w w') => make0_ ⟨#[97, 37, 95, 99]⟩ w' (by decide) (hT.touch T)
  have hpl : (signs (⟨#[97, 37, 95, 99]⟩ : ByteArray).data.toList).map elt = [97, -1, -2, 99] := by
    have := lit_acA
    rw [Ux.Like.pat_none] at this
    exact Option.some.inj this
  rw [hpl] at CM
  have CK : Hid (∀ (pv : Value) (lo : Nat) (s : ByteArray) (w' : World), s.size ≤ 1000000 → Ux.Touch (fun _ => False) w w' → Row w' lo 3 pv (iv [97, -1, -2, 99]) → Calls Tryz.prog 38 #[.agg #[pv], collV 1, .string s] w' fun e w'' => e = .returned (.bool (mat (eqvK 1) [97, -1, -2, 99] (sv (signs s.data.toList)))) ∧ Ux.Touch (fun _ => False) w' w'') :=
    Lib.hid fun pv lo s w' hs T hR => matchK 1 (.inl rfl) _ pv lo s w' hs (hT.touch T) hR (by decide) (by decide)
  unfold collV at CL CK
  unfold rcollV at CL
  clear hT hpl
  go_enter Tryz.func35, Tryz.ntmps35
  go_wp2_with (go_at_call 18; fail)
  refine CL.out.mono ?_
  rintro e w1 ⟨rfl, T1⟩
  have H1 := Lib.hid T1
  clear T1
  go_wp2_with (go_at_call 37; fail)
  refine (CM.out _ ((H1.out.alloc _).alloc _)).mono ?_
  rintro e w2 ⟨a, n, c, rfl, hR, T2⟩
  obtain ⟨B, hB⟩ : ∃ B, w1.heap.size = B := ⟨_, rfl⟩
  have hc : w2.heap[B]? = some (.cells #[.int .i64 1, .int .i64 0, .bool false, .bool false, .pointer none] 26 (0, 0)) := by
    rw [← hB]
    exact T2.heap (((Ux.Touch.refl (fun _ => False) _).alloc _).heap (heap_alloc_new w1 _) (fun f => f)) (fun f => f)
  have TW2 := ((H1.out.alloc _).alloc _).trans T2 fun _ _ f => f
  obtain ⟨B2, hB2⟩ : ∃ B2, w2.heap.size = B2 := ⟨_, rfl⟩
  obtain ⟨w3, hw3⟩ : ∃ w3, w2.alloc (.cells #[.slice a n c] 60) = w3 := ⟨_, rfl⟩
  have T3 : Ux.Touch (fun _ => False) w2 w3 := by rw [← hw3]; exact (Ux.Touch.refl _ w2).alloc _
  have hp3 : w3.heap[B2]? = some (.cells #[.slice a n c] 60 (0, 0)) := by rw [← hw3, ← hB2]; exact heap_alloc_new w2 _
  have hc3 := T3.heap hc (fun f => f)
  have TW3 := TW2.trans T3 fun _ _ f => f
  obtain ⟨c0, c1, c2, c3, c4⟩ := collCells hc3
  have p0 : w3.cell? ⟨B2, 0, none⟩ = some (.slice a n c) := by rw [cell_of_row w3 B2 0 _ _ (0, 0) hp3]; rfl
  have H3 := Lib.hid (And.intro (hR.touch0 T3) (And.intro TW3 (And.intro hp3 hc3)))
  clear hR T2 TW2 hc T3 hp3 hc3 TW3
  rw [hB]
  go_wp2_with (go_at_call 38; fail)
  have cm := CK.out (.slice a n c) _ ⟨#[97, 98, 98, 99]⟩ w3 (by decide) H3.out.2.1 H3.out.1
  rw [lit_m1] at cm
  refine cm.mono ?_
  rintro e w4 ⟨rfl, T4⟩
  have q0 := T4.cell p0 (fun f => f)
  have d0 := T4.cell c0 (fun f => f)
  have d1 := T4.cell c1 (fun f => f)
  have d2 := T4.cell c2 (fun f => f)
  have d3 := T4.cell c3 (fun f => f)
  have d4 := T4.cell c4 (fun f => f)
  have H4 := Lib.hid (And.intro (H3.out.1.touch0 T4) (H3.out.2.1.trans T4 fun _ _ f => f))
  clear cm T4 p0 c0 c1 c2 c3 c4 H3 hw3
  go_wp2_with (go_at_call 38; fail)
  have cm := CK.out (.slice a n c) _ ⟨#[97, 99]⟩ w4 (by decide) H4.out.2 H4.out.1
  rw [lit_m2] at cm
  refine cm.mono ?_
  rintro e w5 ⟨rfl, T5⟩
  have H5 := Lib.hid (H4.out.2.trans T5 fun _ _ f => f)
  clear cm T5
  go_wp2
  go_ret
  exact ⟨rfl, H5.out⟩

end Go.Proofs.YtkeodddpnmnheaaGreatDoor
