/- PART OF THE PROOF THAT THIS CLAIM HOLDS OF THE GIVEN PROGRAM, FOR EVERY INPUT THAT THE STATEMENT NAMES. No condition besides the statement's own. -/
import Derived.Test.YthkaifgepkfheaaBappZ
import Derived.Test.YthkaifgepkfheaaRows
import Derived.WalkKit
import Derived.Handy
import Derived.Laws.EntriesVeiled
import Derived.WalkSpells
import Derived.WalkLawsBesides
import Derived.BigQuiet
import Derived.Deep.QuietTactic
import Derived.Deep.Cut
import Derived.Deep.DeepCutAuto
import Derived.Lib.Overlaps
import Derived.Laws.Externs
import Derived.Lib.Hide
import Derived.Test.YthkaifgepkfheaaUxPlanAllZ
import Derived.Test.YthkaifgepkfheaaUxTreeAllZ
import Derived.Deep.LoopGhost
namespace Go.Proofs.Ythkaifgepkfheaa
open Go.RowKit
-- imports: YthkaifgepkfheaaBapp
open Ux.Trie (fnd Pr blk zero64)

theorem wf32 {z : Int} (h : -2147483648 ≤ z ∧ z < 2147483648) : (Lit.int .i32 z).wf = true := by
  have e1 : IntKind.i32.min = -2147483648 := rfl
  have e2 : IntKind.i32.max = 2147483647 := rfl
  simp [Lit.wf, e1, e2]
  omega
theorem alike32 : ∀ (a b : List Int), a.length = b.length → Alike (a.map (Lit.int .i32)) (b.map (Lit.int .i32))
  | [], [], _ => trivial
  | _ :: a, _ :: b, h => ⟨rfl, alike32 a b (by simpa using h)⟩
  | [], _ :: _, h => by simp at h
  | _ :: _, [], h => by simp at h
theorem map_int_inj : ∀ {a b : List Int}, a.map (Lit.int .i32) = b.map (Lit.int .i32) → a = b
  | [], [], _ => rfl
  | x :: a, y :: b, h => by
    simp only [List.map_cons, List.cons.injEq, Lit.int.injEq, true_and] at h
    rw [h.1, map_int_inj h.2]
  | [], _ :: _, h => by simp at h
  | _ :: _, [], h => by simp at h
theorem klit_inj {a b : List Int} (ha : fits a) (hb : fits b) (h : klit a = klit b) : a = b := by
  unfold klit at h
  have h := keyBytes_inj (alike32 a b (ha.1.trans hb.1.symm)) (fun x hx => by
    obtain ⟨z, hz, rfl⟩ := List.mem_map.1 hx
    exact wf32 (ha.2 z hz)) (fun x hx => by
    obtain ⟨z, hz, rfl⟩ := List.mem_map.1 hx
    exact wf32 (hb.2 z hz)) (Lit.string.inj h)
  exact map_int_inj h

/-- the found blocks, as a map -/
def foundF (bl : List (List Int)) : Lit → Option Value := fun kl => (bl.findIdx? fun b => kl.sameKey (klit b)).map fun i => .int .i64 (i : Nat)
theorem klit_self (b : List Int) : (klit b).sameKey (klit b) = true := WideAt.sameKey_self (by unfold klit; trivial)
theorem foundF_snoc {bl : List (List Int)} {b : List Int} (hf : ∀ x ∈ bl, fits x) (hb : fits b) (hn : b ∉ bl) (kl : Lit) : Ux.upd (foundF bl) (klit b) (.int .i64 bl.length) kl = foundF (bl ++ [b]) kl := by
  unfold Ux.upd foundF
  rw [List.findIdx?_append]
  by_cases h : kl.sameKey (klit b) = true
  · rw [if_pos h]
    have e := WideAt.sameKey_eq h
    subst e
    have : bl.findIdx? (fun x => (klit b).sameKey (klit x)) = none := by
      rw [List.findIdx?_eq_none_iff]
      intro x hx
      rw [Bool.eq_false_iff]
      intro e
      exact hn (by rw [klit_inj hb (hf x hx) (WideAt.sameKey_eq e)]; exact hx)
    rw [this]
    simp [List.findIdx?_cons, klit_self]
  · rw [if_neg h]
    have h' : kl.sameKey (klit b) = false := by simpa using h
    simp [List.findIdx?_cons, h']
theorem foundF_in {bl : List (List Int)} {b : List Int} (hf : ∀ x ∈ bl, fits x) (hb : fits b) : (∃ i : Nat, bl[i]? = some b ∧ foundF bl (klit b) = some (.int .i64 i)) ∨ (b ∉ bl ∧ foundF bl (klit b) = none) := by
  unfold foundF
  cases h : bl.findIdx? fun x => (klit b).sameKey (klit x) with
  | none =>
    refine .inr ⟨fun hm => ?_, rfl⟩
    have := List.findIdx?_eq_none_iff.1 h b hm
    rw [klit_self] at this
    cases this
  | some i =>
    obtain ⟨hi, h1, _⟩ := List.findIdx?_eq_some_iff_getElem.1 h
    refine .inl ⟨i, ?_, rfl⟩
    rw [List.getElem?_eq_getElem hi, klit_inj hb (hf _ (List.getElem_mem hi)) (WideAt.sameKey_eq h1)]
theorem blk_fits {l : List Pr} (h : ∀ p ∈ l, Ux.Trie.may p = true) (k : Int) : fits (blk (fnd l) k) := by
  refine ⟨Ux.Trie.blk_length _ _, fun z hz => ?_⟩
  unfold blk at hz
  obtain ⟨j, _, rfl⟩ := List.mem_map.1 hz
  by_cases h0 : fnd l (64 * k + (j : Int)) = 0
  · rw [h0]; omega
  · have := h _ (Ux.Trie.mem_of_fnd h0)
    unfold Ux.Trie.may at this
    simp only [Bool.and_eq_true, decide_eq_true_eq] at this
    exact ⟨this.1.2, this.2⟩
theorem zero_fits : fits zero64 := ⟨by simp [zero64], fun z hz => by rw [List.eq_of_mem_replicate hz]; omega⟩
theorem mem_addAll_fits {bl l : List (List Int)} (hb : ∀ x ∈ bl, fits x) (hl : ∀ x ∈ l, fits x) : ∀ x ∈ Ux.Trie.addAll bl l, fits x := fun x hx => ((Ux.Trie.mem_addAll _ _).1 hx).elim (hb x) (hl x)
theorem blCells_snoc (bl : List (List Int)) (b : List Int) : blCells (bl ++ [b]) = blCells bl ++ b.map (Value.int .i32) := by simp [blCells]

/-- what stands while the blocks are told apart -/
structure Tell (wr : World) (q gk : Nat) (v : Value) (bl : List (List Int)) (done : List Int) (f : Int → Int) : Prop where
  at_ : ∃ G, Ux.MapIs Try.prog 3 wr q done.length (Ux.intF G) ∧ (∀ k ∈ done, ∃ i : Nat, G k = some (.int .i64 i) ∧ bl[i]? = some (blk f k)) ∧ ∀ k, k ∉ done → G k = none
  found : Ux.MapIs Try.prog 44 wr (q + 2) bl.length (foundF bl)
  obj : wr.heap[q + 1]? = some (.cells #[v, .map (some q)] 48 (0, 0))
  row : wr.ownsRow 0 44 64 v bl.length (blCells bl)
  own : ∀ g, v.ownBlock = some g → q + 3 ≤ g ∧ g ≠ gk
  size : q + 3 ≤ wr.heap.size

theorem obj_set {w : World} {b : Nat} {x y v : Value} {t : TypeId} (h : w.heap[b]? = some (.cells #[x, y] t (0, 0))) : (w.setCell ⟨b, 0, none⟩ v).heap[b]? = some (.cells #[v, y] t (0, 0)) := by
  unfold World.setCell
  simp only [Array.getElem?_modify, if_pos, h]
  rfl

theorem Tell.touch {R : Nat → Prop} {wr w' : World} {q gk : Nat} {v : Value} {bl : List (List Int)} {done : List Int} {f : Int → Int} (h : Tell wr q gk v bl done f) (ht : Ux.Touch R wr w') (hR : ∀ i, R i → ¬ (q ≤ i ∧ i < q + 3)) (hv : ∀ g, v.ownBlock = some g → ¬ R g) : Tell w' q gk v bl done f := by
  obtain ⟨⟨G, h1, h2⟩, h3, h4, h5, h6, h7⟩ := h
  exact ⟨⟨G, h1.touch ht (fun e => hR _ e (by omega)), h2⟩, h3.touch ht (fun e => hR _ e (by omega)), ht.heap h4 (fun e => hR _ e (by omega)), Ux.own_touch h5 ht hv, h6, Nat.le_trans h7 ht.size⟩

/-- the keys of Build's blocks, each once -/
def keys0 (l : List Pr) : List Int := Ux.Trie.addAll [] (l.map fun p => p.1 / 64)
theorem keys0_nodup (l : List Pr) : (keys0 l).Nodup := Ux.Trie.nodup_addAll _ (by simp)
theorem keys0_mem (l : List Pr) (k : Int) : k ∈ keys0 l ↔ k ∈ l.map (fun p => p.1 / 64) := by unfold keys0; rw [Ux.Trie.mem_addAll]; simp
theorem ownG_some (l : List Pr) (k : Int) : (Ux.intF (ownG l) (.int .i64 k)).isSome = true ↔ k ∈ l.map (fun p => p.1 / 64) := by
  show (ownG l k).isSome = true ↔ _
  unfold ownG
  split
  case isTrue h => exact ⟨fun _ => h, fun _ => rfl⟩
  case isFalse h => exact ⟨fun e => (nomatch e), fun e => absurd e h⟩

end Go.Proofs.Ythkaifgepkfheaa
