/- PART OF THE PROOF THAT THIS CLAIM HOLDS OF THE GIVEN PROGRAM, FOR EVERY INPUT THAT THE STATEMENT NAMES. No condition besides the statement's own. -/
import Derived.Test.YthkaifgepkfheaaFindZ
import Derived.Test.YthkaifgepkfheaaRows
import Derived.WalkKit
import Derived.Handy
import Derived.Laws.EntriesVeiled
import Derived.WalkSpells
import Derived.WalkLawsBesides
import Derived.BigQuiet
import Derived.Deep.QuietTactic
import Derived.Deep.Cut
import Derived.Deep.DeepCutAuto
import Derived.Lib.Overlaps
import Derived.Laws.Externs
import Derived.Lib.Hide
import Derived.Test.YthkaifgepkfheaaUxPlanAllZ
import Derived.Test.YthkaifgepkfheaaUxTreeAllZ
import Derived.Deep.LoopGhost
namespace Go.Proofs.Ythkaifgepkfheaa
open Go.RowKit
-- imports: YthkaifgepkfheaaFind
open Ux.Trie (fnd Pr)

theorem PrsAt.touch {R : Nat → Prop} {w w' : World} {v : Value} {l : List Pr} (h : PrsAt w v l) (ht : Ux.Touch R w w') (hn : ∀ b f n c, v = .slice (some ⟨b, f, none⟩) n c → ¬ R b) : PrsAt w' v l := by
  obtain ⟨a, c, rfl, hc⟩ := h
  refine ⟨a, c, rfl, fun i p hp => ?_⟩
  obtain ⟨b, f, rfl, h1, h2⟩ := hc i p hp
  exact ⟨b, f, rfl, ht.cell h1 (hn _ _ _ _ rfl), ht.cell h2 (hn _ _ _ _ rfl)⟩

theorem any_drop {l : List Pr} {i : Nat} {p : Pr} (h : l[i]? = some p) (f : Pr → Bool) : (l.drop i).any f = (f p || (l.drop (i + 1)).any f) := by
  obtain ⟨hi, e⟩ := List.getElem?_eq_some_iff.1 h
  rw [List.drop_eq_getElem_cons hi, e]
  rfl

set_option maxHeartbeats 2000000 in
theorem index24 (v : Value) (l : List Pr) (w : World) (h : PrsAt w v l) (hl : l.length ≤ 1152921504606846976) :
    Calls Try.prog 24 #[v, .func (.func 16) #[] #[]] w fun e w' => ∃ k : Int, e = .returned (.int .i64 k) ∧ (decide (k ≥ 0)) = (l.any fun p => !Ux.Trie.may p) ∧ Ux.Touch (fun _ => False) w w' := by
  obtain ⟨a, cp, rfl, hcell⟩ := h
  obtain ⟨n, hn⟩ : ∃ n, l.length = n := ⟨_, rfl⟩
  obtain ⟨r, hr⟩ : ∃ r, (l.any fun p => !Ux.Trie.may p) = r := ⟨_, rfl⟩
  rw [hn] at hl
  rw [hn, hr]
  have HC := Lib.hid hcell
  have HR := Lib.hid (And.intro hr hn)
  have j0 : (n : Int) ≤ 1152921504606846976 := by omega
  clear hcell hr hn hl
  go_enter Try.func24, Try.ntmps24
  go_wp2
  go_loopg [8] n (fun g s8 wr => ∃ i : Nat, s8 = .int .i64 i ∧ i + g = n ∧ Hid ((l.drop i).any (fun p => !Ux.Trie.may p) = r) ∧ Hid (Ux.Touch (fun _ => False) w wr))
  case atStart => exact ⟨0, rfl, by omega, Lib.hid HR.out.1, Lib.hid (Ux.Touch.refl _ _)⟩
  case round =>
    obtain ⟨i, rfl, hig, HF, HT⟩ := hrel
    have p0 : (0 : Int) ≤ i := by omega
    by_cases hlt : i < n
    · obtain ⟨g', rfl⟩ : ∃ g', gk = g' + 1 := ⟨gk - 1, by omega⟩
      obtain ⟨p, hp⟩ : ∃ p, l[i]? = some p := ⟨l[i]'(by have := HR.out.2; omega), List.getElem?_eq_getElem (by have := HR.out.2; omega)⟩
      obtain ⟨b, f, ha, c1, c2⟩ := HC.out i p hp
      have hd := any_drop hp fun p => !Ux.Trie.may p
      subst ha
      have c1 := HT.out.cell c1 (fun f => f)
      have c2 := HT.out.cell c2 (fun f => f)
      have j1 : (i : Int) < n := by omega
      have HP := Lib.hid hp
      obtain ⟨pc, pv⟩ := p
      obtain ⟨m, hm⟩ : ∃ m, Ux.Trie.may (pc, pv) = m := ⟨_, rfl⟩
      rw [hm] at hd
      have HD := Lib.hid hd
      have cB : ∀ w, Calls Try.prog 16 #[.agg #[.int .i64 pc, .int .i64 pv]] w fun e w' => e = .returned (.bool (!m)) ∧ Below w.heap.size w w' := fun w => by
        have := bad16 pc pv w
        rwa [hm] at this
      have CB := Lib.hid cB
      clear hd hp hm cB
      cases m
      · go_wp2_with (go_at_call 16; refine (CB.out _).mono ?_; rintro e w' ⟨rfl, hb⟩)
        go_ret
        exact ⟨_, rfl, by rw [← HF.out, HD.out]; simp, HT.out.trans (Ux.Touch.of_below hb) (fun _ _ h => h)⟩
      · go_wp2_with (go_at_call 16; refine (CB.out _).mono ?_; rintro e w' ⟨rfl, hb⟩)
        go_roundg g'
        case measure => omega
        case rel => exact ⟨i + 1, rfl, by omega, Lib.hid (by have := HD.out; simp at this; rw [← HF.out, ← this]), Lib.hid (HT.out.trans (Ux.Touch.of_below hb) (fun _ _ h => h))⟩
    · have q1 : ¬ (i : Int) < n := by omega
      have hr0 : r = false := by
        rw [← HF.out, List.drop_eq_nil_of_le (by have := HR.out.2; omega)]
        rfl
      subst hr0
      clear hlt
      go_wp2
      go_ret
      exact ⟨_, rfl, by decide, HT.out⟩

theorem contains15 (v : Value) (l : List Pr) (w : World) (h : PrsAt w v l) (hl : l.length ≤ 1152921504606846976) :
    Calls Try.prog 15 #[v, .func (.func 16) #[] #[]] w fun e w' => e = .returned (.bool (l.any fun p => !Ux.Trie.may p)) ∧ Ux.Touch (fun _ => False) w w' := by
  have c := Lib.hid (index24 v l w h hl)
  obtain ⟨r, hr⟩ : ∃ r, (l.any fun p => !Ux.Trie.may p) = r := ⟨_, rfl⟩
  rw [hr] at c ⊢
  clear hr h
  go_enter Try.func15, Try.ntmps15
  go_wp2_with (go_at_call 24; refine c.out.mono ?_; rintro e w' ⟨k, rfl, hk, ht⟩)
  go_ret
  exact ⟨by rw [← hk]; rfl, ht⟩

end Go.Proofs.Ythkaifgepkfheaa
