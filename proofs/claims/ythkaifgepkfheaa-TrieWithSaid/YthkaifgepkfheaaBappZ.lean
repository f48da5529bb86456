/- PART OF THE PROOF THAT THIS CLAIM HOLDS OF THE GIVEN PROGRAM, FOR EVERY INPUT THAT THE STATEMENT NAMES. No condition besides the statement's own. -/
import Derived.Carry
import Derived.Test.YthkaifgepkfheaaBplainZ
import Derived.Test.YthkaifgepkfheaaUxMapWZ
import Derived.Test.YthkaifgepkfheaaUxPlanAllZ
import Derived.Test.YthkaifgepkfheaaUxArrZ
import Derived.Test.YthkaifgepkfheaaRows
import Derived.WalkKit
import Derived.Handy
import Derived.Laws.EntriesVeiled
import Derived.WalkSpells
import Derived.WalkLawsBesides
import Derived.BigQuiet
import Derived.Deep.QuietTactic
import Derived.Deep.Cut
import Derived.Deep.DeepCutAuto
import Derived.Lib.Overlaps
import Derived.Laws.Externs
import Derived.Lib.Hide
import Derived.Test.YthkaifgepkfheaaUxTreeAllZ
import Derived.Deep.LoopGhost
namespace Go.Proofs.Ythkaifgepkfheaa
open Go.RowKit
-- imports: Derived.Carry YthkaifgepkfheaaBplain UxMapW UxApp UxArr
open Ux.Trie (fnd Pr blk zero64)

theorem keyed3 : Go.Maps.Keyed Try.prog 3 := Go.Maps.int_keyed Try.underlying3
theorem zero44 : ∀ w, (zeroValue 44).run Try.prog w = .ok (.agg (Array.replicate 64 (.int .i32 0))) w := (zero_of_info (P := Try.prog) (t := 44) (n := 64) (by kernel_rfl)).1
theorem size44 : (Try.prog.info? 44).map (·.size) = some 64 := (zero_of_info (P := Try.prog) (t := 44) (v := .agg (Array.replicate 64 (.int .i32 0))) (by kernel_rfl)).2

theorem keyI {c : Int} (h1 : -9223372036854775808 ≤ c) (h2 : c ≤ 9223372036854775807) : Go.keyOf Try.prog 3 (.int .i64 c) = some (.int .i64 c) := Go.Maps.keyOf_int_mk Try.underlying3 (by
  have e1 : IntKind.i64.min = -9223372036854775808 := rfl
  have e2 : IntKind.i64.max = 9223372036854775807 := rfl
  simp [Lit.wf, e1, e2, h1, h2])
theorem zero4 : ∀ w, (zeroValue 4).run Try.prog w = .ok (.bool false) w := (zero_of_info (P := Try.prog) (t := 4) (n := 1) (by kernel_rfl)).1
theorem seen_get (l : List Pr) (c : Int) : (seenG l c).getD (.bool false) = .bool (seenG l c).isSome := by
  unfold seenG; split <;> rfl

/-- a trie in memory -/
def TrieAt (w : World) (t : Nat) (ks : List Int) (f : Int → Int) : Prop :=
  ∃ bb c am : Nat, ∃ G : Int → Option Value, w.cell? ⟨t, 0, none⟩ = some (.slice (some ⟨bb, 0, none⟩) (Ux.Trie.bls ks f).length c) ∧ w.cell? ⟨t, 1, none⟩ = some (.map (some am)) ∧
    (∀ j v, (blCells (Ux.Trie.bls ks f))[j]? = some v → w.cell? ⟨bb, j, none⟩ = some v) ∧ Ux.MapIs Try.prog 3 w am ks.length (Ux.intF G) ∧
    (∀ k ∈ ks, ∃ i : Nat, G k = some (.int .i64 i) ∧ (Ux.Trie.bls ks f)[i]? = some (blk f k)) ∧ (∀ k, k ∉ ks → G k = none ∧ blk f k = zero64) ∧
    ks.Pairwise (· < ·) ∧ (∀ k ∈ ks, 0 ≤ k ∧ k ≤ 17412) ∧ ks.length ≤ 64
/-- what Build answers -/
def BuildSays (l : List Pr) (e : Ending) (w : World) : Prop :=
  ((l.any fun p => !Ux.Trie.may p) = true ∧ e = .returned (.tuple #[.pointer none, .int .i64 1])) ∨
  ((l.any fun p => !Ux.Trie.may p) = false ∧ ¬ Ux.Trie.apart l ∧ e = .returned (.tuple #[.pointer none, .int .i64 64])) ∨
  ((l.any fun p => !Ux.Trie.may p) = false ∧ Ux.Trie.apart l ∧ ∃ t ks, e = .returned (.tuple #[.pointer (some ⟨t, 0, none⟩), .int .i64 0]) ∧ TrieAt w t ks (fnd l) ∧ ∀ k, k ∈ ks ↔ ∃ p ∈ l, p.1 / 64 = k)

theorem info44 : (Try.prog.info? 44).map (fun i => (i.zero, i.size, i.bytes)) = some (some (.agg (Array.replicate 64 (.int .i32 0))), 64, 256) := by kernel_rfl
/-- append of a block upon blocks -/
theorem app46 (v : Value) (n : Nat) (xs : List Value) (w : World) (h : w.ownsRow 0 44 64 v n xs) (hn : n ≤ 1000) (g : Nat) (A : Array Value) (hA : A.size = 64) (h1 : A.all (·.oneCell') = true) (hg : w.heap[g]? = some (.cells A 44 (0, 0))) :
    ∃ r w', (∀ ty, (Builtin.append_ #[46, 46] ty #[v, .slice (some ⟨g, 0, none⟩) 1 1]).run Try.prog w = .ok r w') ∧ w'.ownsRow 0 44 64 r (n + 1) (xs ++ A.toList) ∧ Ux.Touch (fun k => v.ownBlock = some k) w w' ∧ (r.ownBlock = v.ownBlock ∨ ∃ g, r.ownBlock = some g ∧ w.heap.size ≤ g) := by
  obtain ⟨i0, hi0, hz0, hz1, hz2⟩ := info_parts info44
  have src : Src Try.prog 64 46 (.slice (some ⟨g, 0, none⟩) 1 1) 1 A.toList w := Src.ofSlice w Try.underlying46 ⟨g, 0, none⟩ 1 1 A.toList (by simp [hA]) (fun j u hj => by
      have e : (⟨g, 0, none⟩ : Addr).add j = ⟨g, j, none⟩ := by rw [Addr.add_mid]; simp
      rw [e, cell_of_row w g j A 44 (0, 0) hg]
      simpa using hj) (fun u hu => Array.all_eq_true_iff_forall_mem.1 h1 u (by simpa using hu))
  have key := fun ty => Ux.run_app (P := Try.prog) w 46 ty 44 i0 (.agg (Array.replicate 64 (.int .i32 0))) 64 256 Try.underlying46 hi0 hz0 hz1 hz2 (by simp [Value.cells]) (by omega) v n xs h _ 1 A.toList src (by simp only [maxLen]; omega) (by omega)
  obtain ⟨r, w', hr, ho, ht, hbk, _⟩ := key 46
  exact ⟨r, w', fun ty => hr, ho, ht, hbk⟩

/-- what a block is, as a key -/
def klit (b : List Int) : Lit := .string (keyBytes (b.map (Lit.int .i32)))
def fits (b : List Int) : Prop := b.length = 64 ∧ ∀ z ∈ b, -2147483648 ≤ z ∧ z < 2147483648
theorem key44 {b : List Int} (h : fits b) : Go.keyOf Try.prog 44 (arr b) = some (klit b) :=
  Ux.keyOf_ints (P := Try.prog) (ar := 64) (e := 21) (q := .i32) Try.underlying44 Try.underlying21 (by kernel_rfl) (by kernel_rfl) (by kernel_rfl) (m := Try.prog.types.size - 1) (by kernel_rfl) h.1 (fun z hz => by
    have e1 : IntKind.i32.min = -2147483648 := rfl
    have e2 : IntKind.i32.max = 2147483647 := rfl
    have := h.2 z hz
    simp [Lit.wf, e1, e2]
    omega)
theorem laid44 : laidOutB Try.prog = true := by kernel_rfl
theorem row44 : 44 < Try.prog.types.size := of_decide_eq_true (by kernel_rfl)
theorem wide44 : (match Try.prog.underlying 44 with | some (.array _ _) | some (.struct _) => true | _ => false) = true := by rw [Try.underlying44]
theorem keyed44 : Go.Maps.Keyed Try.prog 44 := Go.Maps.Keyed.of_law (deep_law_laid laid44 (m := 3) (by omega) row44 (by kernel_rfl) wide44)


end Go.Proofs.Ythkaifgepkfheaa
