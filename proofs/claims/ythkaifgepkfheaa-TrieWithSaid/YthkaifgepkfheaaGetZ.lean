/- PART OF THE PROOF THAT THIS CLAIM HOLDS OF THE GIVEN PROGRAM, FOR EVERY INPUT THAT THE STATEMENT NAMES. No condition besides the statement's own. -/
import Derived.Test.YthkaifgepkfheaaBuildZ
import Derived.Test.YthkaifgepkfheaaRows
import Derived.WalkKit
import Derived.Handy
import Derived.Laws.EntriesVeiled
import Derived.WalkSpells
import Derived.WalkLawsBesides
import Derived.BigQuiet
import Derived.Deep.QuietTactic
import Derived.Deep.Cut
import Derived.Deep.DeepCutAuto
import Derived.Lib.Overlaps
import Derived.Laws.Externs
import Derived.Lib.Hide
import Derived.Test.YthkaifgepkfheaaUxPlanAllZ
import Derived.Test.YthkaifgepkfheaaUxTreeAllZ
import Derived.Deep.LoopGhost
namespace Go.Proofs.Ythkaifgepkfheaa
open Go.RowKit
-- imports: YthkaifgepkfheaaBuild
open Ux.Trie (fnd Pr blk zero64)

theorem bls_64 {ks : List Int} {f : Int → Int} : ∀ b ∈ Ux.Trie.bls ks f, b.length = 64 := fun b hb => by
  unfold Ux.Trie.bls at hb
  rcases (Ux.Trie.mem_addAll _ _).1 hb with h | h
  · rw [List.mem_singleton] at h; rw [h]; simp [zero64]
  · obtain ⟨k, _, rfl⟩ := List.mem_map.1 h
    exact Ux.Trie.blk_length _ _
theorem blCells_get : ∀ {bl : List (List Int)} (_ : ∀ b ∈ bl, b.length = 64) {i : Nat} {b : List Int} (_ : bl[i]? = some b) {j : Nat} {z : Int} (_ : b[j]? = some z), (blCells bl)[i * 64 + j]? = some (.int .i32 z)
  | [], _, i, b, h, _, _, _ => by simp at h
  | x :: bl, h64, 0, b, h, j, z, hj => by
    simp only [List.getElem?_cons_zero, Option.some.injEq] at h
    subst h
    have hl : j < x.length := (List.getElem?_eq_some_iff.1 hj).1
    show ((x :: bl).flatMap fun b => b.map (Value.int .i32))[0 * 64 + j]? = _
    rw [List.flatMap_cons, List.getElem?_append_left (by simpa using hl), Nat.zero_mul, Nat.zero_add, List.getElem?_map, hj]
    rfl
  | x :: bl, h64, i + 1, b, h, j, z, hj => by
    have hx := h64 x List.mem_cons_self
    have := blCells_get (bl := bl) (fun b hb => h64 b (List.mem_cons_of_mem _ hb)) (i := i) (by simpa using h) hj
    show ((x :: bl).flatMap fun b => b.map (Value.int .i32))[(i + 1) * 64 + j]? = _
    rw [List.flatMap_cons, List.getElem?_append_right (by simp; omega)]
    have e : (i + 1) * 64 + j - (x.map (Value.int .i32)).length = i * 64 + j := by rw [List.length_map, hx]; omega
    rw [e]
    exact this

set_option maxHeartbeats 2000000 in
theorem get9 (t : Nat) (ks : List Int) (f : Int → Int) (c : Int) (w : World) (h : TrieAt w t ks f) (h1 : -9223372036854775808 ≤ c) (h2 : c ≤ 9223372036854775807) (hv : ∀ c, -2147483648 ≤ f c ∧ f c < 2147483648) (hz : ∀ c, ¬ (0 ≤ c ∧ c ≤ 1114367) → f c = 0) :
    Calls Try.prog 9 #[.pointer (some ⟨t, 0, none⟩), .int .i64 c] w fun e w' => e = .returned (.int .i64 (f c)) ∧ w' = w := by
  obtain ⟨bb, cp, am, G, c0, c1, hcell, hG, hG1, hG2, hsort, hrange, hlen⟩ := h
  obtain ⟨nb, hnb⟩ : ∃ n, (Ux.Trie.bls ks f).length = n := ⟨_, rfl⟩
  have hlk : ∀ k, -9223372036854775808 ≤ k → k ≤ 9223372036854775807 → (Instr.lookup 45 (.map (some am)) (.int .i64 k) true).run Try.prog w = .ok (.tuple #[(G k).getD (.int .i64 0), .bool (G k).isSome]) w := fun k k1 k2 =>
    hG.lookOk keyed3 Try.underlying45 (zero3 w) (keyI k1 k2)
  have HLK := Lib.hid hlk
  have HG := Lib.hid (And.intro hG1 (And.intro hG2 (And.intro hcell hnb)))
  obtain ⟨r, hr⟩ : ∃ r, f c = r := ⟨_, rfl⟩
  by_cases hc : 0 ≤ c ∧ c ≤ 1114367
  · obtain ⟨hc1, hc2⟩ := hc
    by_cases hk : c / 64 ∈ ks
    · obtain ⟨i0, hi0, hb0⟩ := hG1 _ hk
      have hj := Ux.Trie.blk_get f (c / 64) (j := (c % 64).toNat) (by omega)
      have e : 64 * (c / 64) + (((c % 64).toNat : Nat) : Int) = c := by omega
      rw [e, hr] at hj
      have hcc := hcell _ _ (blCells_get bls_64 hb0 hj)
      have hi : i0 < nb := by rw [← hnb]; exact (List.getElem?_eq_some_iff.1 hb0).1
      have hlk2 := hlk (c / 64) (by omega) (by omega)
      rw [hi0] at hlk2
      simp only [Option.getD_some, Option.isSome_some] at hlk2
      have HLK2 := Lib.hid hlk2
      obtain ⟨hv1, hv2⟩ := hv c
      rw [hr] at hv1 hv2
      rw [hnb] at c0
      have HR := Lib.hid hr
      have hi' : (i0 : Int) < nb := by omega
      rw [hr]
      clear hlk hlk2 hcell hG hG1 hG2 hsort hrange hlen hnb hv hz hi0 hb0 hj e hk hr
      go_enter Try.func9, Try.ntmps9
      go_wp2_with (at_lookup; refine Ux.wpList_look rfl _ _ 45 rfl rfl rfl HLK2.out ?_)
      go_ret
      exact ⟨rfl, rfl⟩
    · have hr0 : r = 0 := by
        rw [← hr]
        have := Ux.Trie.zero_of_blk (hG2 _ hk).2 (j := (c % 64).toNat) (by omega)
        have e : 64 * (c / 64) + (((c % 64).toNat : Nat) : Int) = c := by omega
        rwa [e] at this
      subst hr0
      have hlk2 := hlk (c / 64) (by omega) (by omega)
      rw [(hG2 _ hk).1] at hlk2
      simp only [Option.getD_none, Option.isSome_none] at hlk2
      have HLK2 := Lib.hid hlk2
      rw [hr]
      clear hlk hlk2 hcell hG hG1 hG2 hsort hrange hlen hnb hv hz hk hr
      go_enter Try.func9, Try.ntmps9
      go_wp2_with (at_lookup; refine Ux.wpList_look rfl _ _ 45 rfl rfl rfl HLK2.out ?_)
      go_ret
      exact ⟨rfl, rfl⟩
  · have hr0 := hz c hc
    rw [hr] at hr0
    subst hr0
    rw [hr]
    obtain ⟨kz, hkz⟩ : ∃ k, c.tdiv 64 = k := ⟨_, rfl⟩
    have hkr : -9223372036854775808 ≤ kz ∧ kz ≤ 9223372036854775807 := by
      rw [← hkz]
      rcases Int.le_total 0 c with h | h
      · rw [Int.tdiv_eq_ediv_of_nonneg h]; omega
      · have := Int.neg_tdiv c 64
        have e : (-c).tdiv 64 = (-c) / 64 := Int.tdiv_eq_ediv_of_nonneg (by omega)
        omega
    have hlk2 := hlk kz hkr.1 hkr.2
    obtain ⟨gv, hgv⟩ : ∃ v, (G kz).getD (.int .i64 0) = v := ⟨_, rfl⟩
    obtain ⟨gb, hgb⟩ : ∃ v, (G kz).isSome = v := ⟨_, rfl⟩
    rw [hgv, hgb, ← hkz] at hlk2
    have HLK2 := Lib.hid hlk2
    have hlt : c < 0 ∨ 1114367 < c := by omega
    clear hlk hlk2 hcell hG hG1 hG2 hsort hrange hlen hnb hv hz hr hc hgv hgb hkr hkz
    rcases hlt with hlt | hlt
    · go_enter Try.func9, Try.ntmps9
      go_wp2_with (at_lookup; refine Ux.wpList_look rfl _ _ 45 rfl rfl rfl HLK2.out ?_)
      go_ret
      exact ⟨rfl, rfl⟩
    · rw [Int.tdiv_eq_ediv_of_nonneg (by omega)] at HLK2
      go_enter Try.func9, Try.ntmps9
      go_wp2_with (at_lookup; refine Ux.wpList_look rfl _ _ 45 rfl rfl rfl HLK2.out ?_)
      go_ret
      exact ⟨rfl, rfl⟩

theorem blocks11 (t : Nat) (ks : List Int) (f : Int → Int) (w : World) (h : TrieAt w t ks f) :
    Calls Try.prog 11 #[.pointer (some ⟨t, 0, none⟩)] w fun e w' => e = .returned (.int .i64 (Ux.Trie.bls ks f).length) ∧ w' = w := by
  obtain ⟨bb, cp, am, G, c0, c1, hcell, hG, hG1, hG2, hsort, hrange, hlen⟩ := h
  obtain ⟨nb, hnb⟩ : ∃ n, (Ux.Trie.bls ks f).length = n := ⟨_, rfl⟩
  rw [hnb] at c0 ⊢
  clear hcell hG hG1 hG2 hsort hrange hlen hnb
  go_enter Try.func11, Try.ntmps11
  go_wp2
  go_ret
  exact ⟨rfl, rfl⟩

end Go.Proofs.Ythkaifgepkfheaa
