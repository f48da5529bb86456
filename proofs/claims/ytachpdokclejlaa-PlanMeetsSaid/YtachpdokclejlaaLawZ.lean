/- PART OF THE PROOF THAT PlanMeetsSaid HOLDS OF THE GIVEN PROGRAM, FOR EVERY INPUT THAT THE STATEMENT NAMES. No condition besides the statement's own. -/
import Derived.Test.YtachpdokclejlaaSameZ
import Derived.Test.YtachpdokclejlaaRows
import Derived.WalkKit
import Derived.Handy
import Derived.WalkSpells
import Derived.WalkLawsBesides
import Derived.BigQuiet
import Derived.Deep.QuietTactic
import Derived.Deep.Cut
import Derived.Laws.Externs
import Derived.Lib.Hide
import Derived.Lib.MinMaxS
import Derived.Test.YtachpdokclejlaaUxPlanZ
import Derived.Test.YtachpdokclejlaaUxHeapZ
import Derived.Test.YtachpdokclejlaaUxOrdZ
namespace Go.Proofs.Ytachpdokclejlaa
open Go.RowKit
-- import: YtachpdokclejlaaSame
def emptyR (lo hi : ByteArray) (o : Bool) : Bool := !o && !(Ux.slt lo hi)
def inR (lo hi : ByteArray) (o : Bool) (k : ByteArray) : Bool := !(Ux.slt k lo) && (o || Ux.slt k hi)

theorem slt_max (k a b : ByteArray) : Ux.slt k (Lib.maxS a b) = (Ux.slt k a || Ux.slt k b) := by
  unfold Lib.maxS
  by_cases h : a.data.toList < b.data.toList
  · have hab : Ux.slt a b = true := (Ux.slt_iff a b).2 (by rw [Lib.toList_data, Lib.toList_data]; exact h)
    rw [if_pos h]
    cases hka : Ux.slt k a with
    | true => rw [Ux.slt_trans hka hab]; rfl
    | false => rfl
  · have hab : Ux.slt a b = false := by
      cases hh : Ux.slt a b with
      | false => rfl
      | true => exact absurd (by have := (Ux.slt_iff a b).1 hh; rw [Lib.toList_data, Lib.toList_data] at this; exact this) h
    rw [if_neg h]
    cases hkb : Ux.slt k b with
    | true => rw [Ux.slt_of_le' hkb hab]; rfl
    | false => simp

theorem slt_min (k a b : ByteArray) : Ux.slt k (Lib.minS a b) = (Ux.slt k a && Ux.slt k b) := by
  unfold Lib.minS
  by_cases h : a.data.toList < b.data.toList ∨ a.data.toList = b.data.toList
  · rw [if_pos h]
    have hba : Ux.slt b a = false := by
      rcases h with h | h
      · exact Ux.slt_asymm ((Ux.slt_iff a b).2 (by rw [Lib.toList_data, Lib.toList_data]; exact h))
      · have : a = b := Ux.ba_ext (by rw [Lib.toList_data, Lib.toList_data]; exact h)
        rw [this, Ux.slt_irrefl]
    cases hka : Ux.slt k a with
    | true => rw [Ux.slt_of_le' hka hba]; rfl
    | false => rfl
  · rw [if_neg h]
    have hba : Ux.slt b a = true := by
      cases hh : Ux.slt b a with
      | true => rfl
      | false => exact absurd (by
          cases hab : Ux.slt a b with
          | true => left; have := (Ux.slt_iff a b).1 hab; rw [Lib.toList_data, Lib.toList_data] at this; exact this
          | false => right; rw [Ux.slt_conn hab hh]) h
    cases hkb : Ux.slt k b with
    | true => rw [Ux.slt_trans hkb hba]; rfl
    | false => simp

def mLo (la lb : ByteArray) : ByteArray := Lib.maxS la lb
def mHi (ha hb : ByteArray) (oa ob : Bool) : ByteArray := if oa then (if ob then ⟨#[]⟩ else hb) else if ob then ha else Lib.minS ha hb

theorem in_meet (la ha lb hb : ByteArray) (oa ob : Bool) (k : ByteArray) : inR (mLo la lb) (mHi ha hb oa ob) (oa && ob) k = (inR la ha oa k && inR lb hb ob k) := by
  unfold inR mLo mHi
  rw [slt_max]
  cases oa <;> cases ob <;> simp [slt_min] <;> cases Ux.slt k la <;> cases Ux.slt k lb <;> simp

theorem empty_none (lo hi : ByteArray) (o : Bool) (k : ByteArray) (h : emptyR lo hi o = true) : inR lo hi o k = false := by
  unfold emptyR at h
  unfold inR
  cases o with
  | true => simp at h
  | false =>
    simp at h ⊢
    intro h1
    cases hk : Ux.slt k hi with
    | false => rfl
    | true => rw [Ux.slt_of_le h1 hk] at h; cases h

theorem cells_kept (w w1 w2 : World) (la ha lb hb lm hm : ByteArray) (oa ob om : Bool)
    (hb1 : Below ((w.alloc (.cells #[.string la, .string ha, .bool oa] 23)).alloc (.cells #[.string lb, .string hb, .bool ob] 23)).heap.size ((w.alloc (.cells #[.string la, .string ha, .bool oa] 23)).alloc (.cells #[.string lb, .string hb, .bool ob] 23)) w1)
    (hw2 : w1.alloc (.cells #[.string lm, .string hm, .bool om] 23) = w2) : Ux.Touch (fun _ => False) w w2 ∧ ∀ w', Ux.Touch (fun _ => False) w2 w' → w'.cell? ⟨w.heap.size, 0, none⟩ = some (.string la) ∧ w'.cell? ⟨w.heap.size, 1, none⟩ = some (.string ha) ∧ w'.cell? ⟨w.heap.size, 2, none⟩ = some (.bool oa) ∧ w'.cell? ⟨w.heap.size + 1, 0, none⟩ = some (.string lb) ∧ w'.cell? ⟨w.heap.size + 1, 1, none⟩ = some (.string hb) ∧ w'.cell? ⟨w.heap.size + 1, 2, none⟩ = some (.bool ob) ∧ w'.cell? ⟨w1.heap.size, 0, none⟩ = some (.string lm) ∧ w'.cell? ⟨w1.heap.size, 1, none⟩ = some (.string hm) ∧ w'.cell? ⟨w1.heap.size, 2, none⟩ = some (.bool om) := by
  have t1 : Ux.Touch (fun _ => False) _ w1 := Ux.Touch.of_below hb1
  have t2 : Ux.Touch (fun _ => False) w1 w2 := by rw [← hw2]; exact (Ux.Touch.refl _ _).alloc _
  have hA : ((w.alloc (.cells #[.string la, .string ha, .bool oa] 23)).alloc (.cells #[.string lb, .string hb, .bool ob] 23)).heap[w.heap.size]? = some (.cells #[.string la, .string ha, .bool oa] 23 (0, 0)) :=
    ((Ux.Touch.refl (fun _ => False) _).alloc _).heap (heap_alloc_new w _) (fun f => f)
  have hB : ((w.alloc (.cells #[.string la, .string ha, .bool oa] 23)).alloc (.cells #[.string lb, .string hb, .bool ob] 23)).heap[w.heap.size + 1]? = some (.cells #[.string lb, .string hb, .bool ob] 23 (0, 0)) := by
    have := heap_alloc_new (w.alloc (.cells #[.string la, .string ha, .bool oa] 23)) (.cells #[.string lb, .string hb, .bool ob] 23)
    rw [World.size_alloc] at this
    exact this
  have hM : w2.heap[w1.heap.size]? = some (.cells #[.string lm, .string hm, .bool om] 23 (0, 0)) := by rw [← hw2]; exact heap_alloc_new w1 _
  refine ⟨(((Ux.Touch.refl (fun _ => False) w).alloc _).alloc _ |>.trans t1 (fun _ _ f => f)).trans t2 (fun _ _ f => f), fun w' t => ?_⟩
  have A := t.heap (t2.heap (t1.heap hA (fun f => f)) (fun f => f)) (fun f => f)
  have B := t.heap (t2.heap (t1.heap hB (fun f => f)) (fun f => f)) (fun f => f)
  have M := t.heap hM (fun f => f)
  refine ⟨?_, ?_, ?_, ?_, ?_, ?_, ?_, ?_, ?_⟩
  all_goals first | (rw [cell_of_row w' _ _ _ 23 (0, 0) A]; rfl) | (rw [cell_of_row w' _ _ _ 23 (0, 0) B]; rfl) | (rw [cell_of_row w' _ _ _ 23 (0, 0) M]; rfl)

end Go.Proofs.Ytachpdokclejlaa
