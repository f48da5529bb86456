/- PART OF THE PROOF THAT THIS CLAIM HOLDS OF THE GIVEN PROGRAM, FOR EVERY INPUT THAT THE STATEMENT NAMES. No condition besides the statement's own. -/
import Derived.Test.YthkaifgepkfheaaCountZ
import Derived.Test.YthkaifgepkfheaaRows
import Derived.WalkKit
import Derived.Handy
import Derived.Laws.EntriesVeiled
import Derived.WalkSpells
import Derived.WalkLawsBesides
import Derived.BigQuiet
import Derived.Deep.QuietTactic
import Derived.Deep.Cut
import Derived.Deep.DeepCutAuto
import Derived.Lib.Overlaps
import Derived.Laws.Externs
import Derived.Lib.Hide
import Derived.Test.YthkaifgepkfheaaUxPlanAllZ
import Derived.Test.YthkaifgepkfheaaUxTreeAllZ
import Derived.Deep.LoopGhost
namespace Go.Proofs.Ythkaifgepkfheaa
open Go.RowKit
-- imports: YthkaifgepkfheaaCount
open Ux.Trie (fnd Pr blk zero64)

theorem TrieAt.touch {w w' : World} {t : Nat} {ks : List Int} {f : Int → Int} (h : TrieAt w t ks f) (ht : Ux.Touch (fun _ => False) w w') : TrieAt w' t ks f := by
  obtain ⟨bb, c, am, G, c0, c1, hcell, hG, r⟩ := h
  exact ⟨bb, c, am, G, ht.cell c0 (fun f => f), ht.cell c1 (fun f => f), fun j v hj => ht.cell (hcell j v hj) (fun f => f), hG.touch ht (fun f => f), r⟩

theorem any_may {l : List Pr} (h : (l.any fun p => !Ux.Trie.may p) = false) : ∀ p ∈ l, Ux.Trie.may p = true := fun p hp => by
  have := List.any_eq_false.1 h p hp
  simpa using this
theorem fnd_range {l : List Pr} (h : ∀ p ∈ l, Ux.Trie.may p = true) (c : Int) : -2147483648 ≤ fnd l c ∧ fnd l c < 2147483648 := by
  by_cases h0 : fnd l c = 0
  · omega
  · have := h _ (Ux.Trie.mem_of_fnd h0)
    unfold Ux.Trie.may at this
    simp only [Bool.and_eq_true, decide_eq_true_eq] at this
    exact ⟨this.1.2, this.2⟩
theorem fnd_off {l : List Pr} (h : ∀ p ∈ l, Ux.Trie.may p = true) (c : Int) (hc : ¬ (0 ≤ c ∧ c ≤ 1114367)) : fnd l c = 0 := by
  by_cases h0 : fnd l c = 0
  · exact h0
  · have := h _ (Ux.Trie.mem_of_fnd h0)
    unfold Ux.Trie.may at this
    simp only [Bool.and_eq_true, decide_eq_true_eq] at this
    exact absurd this.1.1 hc
theorem getL {t : Nat} {ks : List Int} {l : List Pr} {w : World} (h : TrieAt w t ks (fnd l)) (hm : ∀ p ∈ l, Ux.Trie.may p = true) (c : Int) (h1 : -9223372036854775808 ≤ c) (h2 : c ≤ 9223372036854775807) :
    Calls Try.prog 9 #[.pointer (some ⟨t, 0, none⟩), .int .i64 c] w fun e w' => e = .returned (.int .i64 (fnd l c)) ∧ w' = w :=
  get9 t ks (fnd l) c w h h1 h2 (fnd_range hm) (fnd_off hm)
/-- Build's answer where all pairs may be and stand apart -/
theorem build_ok {v : Value} {l : List Pr} {w : World} (h : PrsAt w v l) (hl : l.length ≤ 64) (hm : (l.any fun p => !Ux.Trie.may p) = false) (ha : Ux.Trie.apart l) :
    Calls Try.prog 7 #[v] w fun e w' => ∃ t ks, e = .returned (.tuple #[.pointer (some ⟨t, 0, none⟩), .int .i64 0]) ∧ TrieAt w' t ks (fnd l) ∧ (∀ k, k ∈ ks ↔ ∃ p ∈ l, p.1 / 64 = k) ∧ Ux.Touch (fun _ => False) w w' := by
  refine (build7 v l w h hl).mono ?_
  rintro e w' ⟨ht, h | h | ⟨_, _, t, ks, h1, h2, h3⟩⟩
  · rw [hm] at h; cases h.1
  · exact absurd ha h.2.1
  · exact ⟨t, ks, h1, h2, h3, ht⟩
theorem count_of {l : List Pr} (ha : Ux.Trie.apart l) {ks : List Int} (hk : ∀ k, k ∈ ks ↔ ∃ p ∈ l, p.1 / 64 = k) : (Ux.Trie.bls ks (fnd l)).length = 1 + (Ux.Trie.addAll [] ((Ux.Trie.ats l).map (blk (fnd l)))).length :=
  Ux.Trie.count_eq ha fun p hp => (hk _).2 ⟨p, hp, rfl⟩

theorem two_count : 1 + (Ux.Trie.addAll [] ((Ux.Trie.ats [(5, 1), (69, 1)]).map (blk (fnd [(5, 1), (69, 1)])))).length = 2 := by decide
theorem two_apart : Ux.Trie.apart [((5 : Int), (1 : Int)), (69, 1)] := by unfold Ux.Trie.apart; simp

theorem two_may : (([((5 : Int), (1 : Int)), (69, 1)] : List Pr).any fun p => !Ux.Trie.may p) = false := by decide
theorem two_at (w1 : World) : PrsAt (w1.alloc (.cells #[.int .i64 5, .int .i64 1, .int .i64 69, .int .i64 1] 29)) (.slice (some ⟨w1.heap.size, 0, none⟩) 2 2) [(5, 1), (69, 1)] := by
  refine ⟨_, 2, rfl, fun i p hp => ⟨w1.heap.size, 0, rfl, ?_⟩⟩
  rw [Ux.cell_new, Ux.cell_new]
  cases i with
  | zero => cases hp; exact ⟨rfl, rfl⟩
  | succ i =>
    cases i with
    | zero => cases hp; exact ⟨rfl, rfl⟩
    | succ i => simp at hp

def two : List Pr := [(5, 1), (69, 1)]
theorem build_two (w1 : World) : Calls Try.prog 7 #[.slice (some ⟨w1.heap.size, 0, none⟩) 2 2] (w1.alloc (.cells #[.int .i64 5, .int .i64 1, .int .i64 69, .int .i64 1] 29)) fun e w' => ∃ t ks, e = .returned (.tuple #[.pointer (some ⟨t, 0, none⟩), .int .i64 0]) ∧ TrieAt w' t ks (fnd two) ∧ (∀ k, k ∈ ks ↔ ∃ p ∈ two, p.1 / 64 = k) ∧ Ux.Touch (fun _ => False) (w1.alloc (.cells #[.int .i64 5, .int .i64 1, .int .i64 69, .int .i64 1] 29)) w' :=
  build_ok (l := two) (two_at w1) (by unfold two; simp) two_may two_apart
theorem two_len {ks : List Int} (h : ∀ k, k ∈ ks ↔ ∃ p ∈ two, p.1 / 64 = k) : (Ux.Trie.bls ks (fnd two)).length = 2 := by
  exact (count_of two_apart h).trans two_count
theorem two_all : ∀ p ∈ two, Ux.Trie.may p = true := any_may two_may

set_option maxHeartbeats 400000 in
theorem awake6 (w : World) : Calls Try.prog 6 #[] w fun e w' => e = .returned (.bool true) ∧ Ux.Touch (fun _ => False) w w' := by
  have c1 := Lib.hid (fun w => build_ok (v := .slice none 0 0) (l := []) (w := w) ⟨none, 0, rfl, fun i p hp => by simp at hp⟩ (by simp) rfl List.Pairwise.nil)
  go_enter Try.func6, Try.ntmps6
  go_upto_region 2 with (go_at_call 7; refine (c1.out w).mono ?_; rintro e w1 ⟨t1, ks1, rfl, h1, h2, h3⟩; have H1 := Lib.hid (And.intro h1 (And.intro h2 h3)); clear h1 h2 h3)
  have hb1 : (Ux.Trie.bls ks1 (fnd [])).length = 1 := by
    rw [count_of List.Pairwise.nil H1.out.2.1]; rfl
  have HB1 := Lib.hid hb1
  clear hb1
  have c2 := Lib.hid (build_two w1)
  go_upto_region 3 with (go_at_call 7; refine c2.out.mono ?_; rintro e w2 ⟨t2, ks2, rfl, h1, h2, h3⟩; have H2 := Lib.hid (And.intro h1 (And.intro h2 h3)); clear h1 h2 h3)
  have hb2 := two_len H2.out.2.1
  have T12 : Ux.Touch (fun _ => False) w1 w2 := ((Ux.Touch.refl _ w1).alloc _).trans H2.out.2.2 (fun _ _ h => h)
  have b1 := blocks11 t1 ks1 (fnd []) w2 (H1.out.1.touch T12)
  rw [HB1.out, show (((1 : Nat) : Int)) = (1 : Int) from rfl] at b1
  have b2 := blocks11 t2 ks2 _ w2 H2.out.1
  rw [hb2, show (((2 : Nat) : Int)) = (2 : Int) from rfl] at b2
  have g1 := getL H2.out.1 two_all 69 (by omega) (by omega)
  have g2 := getL H2.out.1 two_all 6 (by omega) (by omega)
  have e1 : fnd two 69 = 1 := by decide
  have e2 : fnd two 6 = 0 := by decide
  rw [e1] at g1
  rw [e2] at g2
  have CC := Lib.hid (And.intro b1 (And.intro b2 (And.intro g1 g2)))
  have TT := Lib.hid (H1.out.2.2.trans T12 (fun _ _ h => h))
  clear b1 b2 g1 g2 T12 e1 e2 hb2
  go_wp2_with (go_at_call 11; fail)
  refine CC.out.1.mono ?_; rintro e w' ⟨rfl, rfl⟩
  go_wp2_with (go_at_call 11; fail)
  refine CC.out.2.1.mono ?_; rintro e w3 ⟨rfl, rfl⟩
  go_wp2_with (go_at_call 9; fail)
  refine CC.out.2.2.1.mono ?_; rintro e w4 ⟨rfl, rfl⟩
  go_wp2_with (go_at_call 9; fail)
  refine CC.out.2.2.2.mono ?_; rintro e w5 ⟨rfl, rfl⟩
  go_wp2
  go_ret
  exact ⟨rfl, TT.out⟩

end Go.Proofs.Ythkaifgepkfheaa
