/- PART OF THE PROOF THAT THIS CLAIM HOLDS OF THE GIVEN PROGRAM, FOR EVERY INPUT THAT THE STATEMENT NAMES. No condition besides the statement's own. -/
import Derived.Test.YtdfgpminonpeaaaBuiltZ
import Derived.Test.YtdfgpminonpeaaaUxCurAllZ
import Derived.Test.YtdfgpminonpeaaaRows
import Derived.WalkKit
import Derived.Handy
import Derived.Laws.EntriesVeiled
import Derived.WalkSpells
import Derived.WalkLawsBesides
import Derived.BigQuiet
import Derived.Deep.QuietTactic
import Derived.Deep.Cut
import Derived.Lib.Overlaps
import Derived.Laws.Externs
import Derived.Lib.Hide
import Derived.Test.YtdfgpminonpeaaaUxPlanAllZ
import Derived.Test.YtdfgpminonpeaaaUxTreeAllZ
import Derived.Deep.LoopGhost
namespace Go.Proofs.Ytdfgpminonpeaaa
open Go.RowKit
-- imports: YtdfgpminonpeaaaBuilt UxThr
open Ux (slt lb has Rises keys ins del playN play1 Act3 seekN)

theorem PairsAt.cell {w : World} {a : Option Addr} {n c : Nat} {l : List (ByteArray × Int)} (h : PairsAt w (.slice a n c) l) {i : Nat} {p : ByteArray × Int} (hp : l[i]? = some p) :
    ∃ g, a = some ⟨g, 0, none⟩ ∧ w.cell? ⟨g, i * 2, none⟩ = some (.string p.1) ∧ w.cell? ⟨g, i * 2 + 1, none⟩ = some (.int .i64 p.2) := by
  obtain ⟨a', c', e, hc⟩ := h.cells
  cases e
  exact hc i p hp

/-- where a cursor stands, as a number -/
def AtIs (n : Nat) (t : Int) (o : Option Nat) : Prop := (∃ q : Nat, o = some q ∧ t = q ∧ q < n) ∨ (o = none ∧ (t = -1 ∨ t = n))

theorem AtIs.next {n q : Nat} (h : q < n) : AtIs n ((q : Int) + 1) (nextO n (some q)) := by
  unfold nextO
  by_cases e : q + 1 < n
  · exact .inl ⟨q + 1, by simp [e], by omega, e⟩
  · exact .inr ⟨by simp [e], .inr (by omega)⟩
theorem AtIs.prev {n q : Nat} (h : q < n) : AtIs n ((q : Int) - 1) (prevO (some q)) := by
  unfold prevO
  by_cases e : q = 0
  · exact .inr ⟨by simp [e], .inl (by omega)⟩
  · exact .inl ⟨q - 1, by simp [e], by omega, by omega⟩
theorem AtIs.seek (l : List (ByteArray × Int)) (k : ByteArray) (over : Bool) (h : seekN l k over ≤ l.length) : AtIs l.length (seekN l k over) (seekO l k over) := by
  unfold seekO
  by_cases e : seekN l k over < l.length
  · rw [if_pos e]; exact .inl ⟨_, rfl, rfl, e⟩
  · rw [if_neg e]; exact .inr ⟨rfl, .inr (by omega)⟩
theorem AtIs.some {n : Nat} {t : Int} {o : Option Nat} (h : AtIs n t o) : o.isSome = decide (0 ≤ t ∧ t < n) := by
  rcases h with ⟨q, rfl, rfl, h⟩ | ⟨rfl, rfl | rfl⟩
  · simp; omega
  · simp
  · simp
theorem seekN_le (l : List (ByteArray × Int)) (k : ByteArray) (over : Bool) : seekN l k over ≤ l.length := by
  unfold seekN
  split
  · rename_i h
    have := Ux.has_lt (l := l) (k := k) (by simp at h; exact h.1)
    omega
  · have := Ux.lb_le (keys l) k
    rw [Ux.keys_length] at this
    omega

/-- a cursor of a tree, its list beside it -/
structure SkRel (W : World) (tb F N M cb : Nat) (L : List (ByteArray × Int)) (v : Value) (o : Option Nat) (wr : World) : Prop where
  cur : ∃ fc, HasCur wr tb F L N M cb o fc ∧ ∀ b ∈ fc, M ≤ b
  pairs : PairsAt wr v L
  touch : Ux.Touch (fun b => N ≤ b) W wr
  ord : N ≤ M

theorem SkRel.still {W wr w' : World} {tb F N M cb : Nat} {L : List (ByteArray × Int)} {v : Value} {o : Option Nat} (h : SkRel W tb F N M cb L v o wr) (T : Ux.Touch (fun _ => False) wr w') : SkRel W tb F N M cb L v o w' := by
  obtain ⟨⟨fc, h1, h2⟩, h3, h4, h5⟩ := h
  exact ⟨⟨fc, h1.still T, h2⟩, h3.touch T (fun _ _ f => f), h4.trans T (fun _ _ f => f.elim), h5⟩
theorem SkRel.ok {W wr : World} {tb F N M cb : Nat} {L : List (ByteArray × Int)} {v : Value} {o : Option Nat} (h : SkRel W tb F N M cb L v o wr) : Calls Try.prog 12 #[.pointer (some ⟨cb, 0, none⟩)] wr fun e w' => e = .returned (.bool o.isSome) ∧ wr = w' := by
  obtain ⟨⟨fc, h1, h2⟩, h3, h4, h5⟩ := h
  exact okL h1
theorem SkRel.key {W wr : World} {tb F N M cb : Nat} {L : List (ByteArray × Int)} {v : Value} {q : Nat} (h : SkRel W tb F N M cb L v (some q) wr) {p : ByteArray × Int} (hp : L[q]? = some p) : Calls Try.prog 13 #[.pointer (some ⟨cb, 0, none⟩)] wr fun e w' => e = .returned (.string p.1) ∧ SkRel W tb F N M cb L v (some q) w' ∧ Ux.Touch (fun _ => False) wr w' := by
  have h' := h
  obtain ⟨⟨fc, h1, h2⟩, h3, h4, h5⟩ := h
  exact (keyL h1 p hp).1.mono fun e w' ⟨he, T⟩ => ⟨he, h'.still T, T⟩
theorem SkRel.row {W wr : World} {tb F N M cb : Nat} {L : List (ByteArray × Int)} {v : Value} {q : Nat} (h : SkRel W tb F N M cb L v (some q) wr) {p : ByteArray × Int} (hp : L[q]? = some p) : Calls Try.prog 18 #[.pointer (some ⟨cb, 0, none⟩)] wr fun e w' => e = .returned (.int .i64 p.2) ∧ SkRel W tb F N M cb L v (some q) w' ∧ Ux.Touch (fun _ => False) wr w' := by
  have h' := h
  obtain ⟨⟨fc, h1, h2⟩, h3, h4, h5⟩ := h
  exact (keyL h1 p hp).2.mono fun e w' ⟨he, T⟩ => ⟨he, h'.still T, T⟩
theorem SkRel.key0 {W wr : World} {tb F N M cb : Nat} {L : List (ByteArray × Int)} {v : Value} (h : SkRel W tb F N M cb L v none wr) : Calls Try.prog 13 #[.pointer (some ⟨cb, 0, none⟩)] wr fun e w' => e = .returned (.string ⟨#[]⟩) ∧ wr = w' := by
  obtain ⟨⟨fc, h1, h2⟩, h3, h4, h5⟩ := h
  exact (keyL_none h1).1
theorem SkRel.row0 {W wr : World} {tb F N M cb : Nat} {L : List (ByteArray × Int)} {v : Value} (h : SkRel W tb F N M cb L v none wr) : Calls Try.prog 18 #[.pointer (some ⟨cb, 0, none⟩)] wr fun e w' => e = .returned (.int .i64 0) ∧ wr = w' := by
  obtain ⟨⟨fc, h1, h2⟩, h3, h4, h5⟩ := h
  exact (keyL_none h1).2
theorem SkRel.left {W wr w' : World} {tb F N M cb : Nat} {L : List (ByteArray × Int)} {v : Value} {o o' : Option Nat} {fc : List Nat} (h1 : HasCur wr tb F L N M cb o fc) (h2 : ∀ b ∈ fc, M ≤ b) (h3 : PairsAt wr v L) (h4 : Ux.Touch (fun b => N ≤ b) W wr) (h5 : N ≤ M) (hM : M ≤ wr.heap.size) {e : Ending}
    (hs : CurStep wr tb F L N M cb o' fc e w') : e = .returned (.bool o'.isSome) ∧ SkRel W tb F N M cb L v o' w' := by
  obtain ⟨he, fc', c, f, T⟩ := hs
  refine ⟨he, ⟨fc', c, fun b hb => (f b hb).elim (h2 b) (fun h => Nat.le_trans hM h)⟩, h3.touch T (fun b hb hR => ((Ux.own_type h3 b (by simp [Ux.blk, hb])).ne (h1.types b hR) (by decide)) rfl), h4.trans T (fun b _ hR => Nat.le_trans h5 (h2 b hR)), h5⟩
theorem SkRel.size {W wr : World} {tb F N M cb : Nat} {L : List (ByteArray × Int)} {v : Value} {o : Option Nat} (h : SkRel W tb F N M cb L v o wr) : M ≤ wr.heap.size := by
  obtain ⟨⟨fc, r3, h2⟩, _, _, _⟩ := h
  obtain ⟨_, _, _, _, _, _, ⟨_, _, hcur⟩, _⟩ := r3
  have := hcur.lt
  obtain ⟨_, _, hc1, _, hfc, _⟩ := hcur
  have hcb := h2 cb (by rw [hfc]; simp)
  have := Ux.lt_of_heap hc1
  omega
theorem SkRel.next {W wr : World} {tb F N M cb : Nat} {L : List (ByteArray × Int)} {v : Value} {o : Option Nat} (h : SkRel W tb F N M cb L v o wr) : Calls Try.prog 14 #[.pointer (some ⟨cb, 0, none⟩)] wr fun e w' => e = .returned (.bool (nextO L.length o).isSome) ∧ SkRel W tb F N M cb L v (nextO L.length o) w' := by
  have hM := h.size
  obtain ⟨⟨fc, h1, h2⟩, h3, h4, h5⟩ := h
  exact (nextL h1).mono fun e w' hs => SkRel.left h1 h2 h3 h4 h5 hM hs
theorem SkRel.prev {W wr : World} {tb F N M cb : Nat} {L : List (ByteArray × Int)} {v : Value} {o : Option Nat} (h : SkRel W tb F N M cb L v o wr) : Calls Try.prog 19 #[.pointer (some ⟨cb, 0, none⟩)] wr fun e w' => e = .returned (.bool (prevO o).isSome) ∧ SkRel W tb F N M cb L v (prevO o) w' := by
  have hM := h.size
  obtain ⟨⟨fc, h1, h2⟩, h3, h4, h5⟩ := h
  exact (prevL h1).mono fun e w' hs => SkRel.left h1 h2 h3 h4 h5 hM hs

end Go.Proofs.Ytdfgpminonpeaaa
