/- PART OF THE PROOF THAT THIS CLAIM HOLDS OF THE GIVEN PROGRAM, FOR EVERY INPUT THAT THE STATEMENT NAMES. No condition besides the statement's own. -/
import Derived.Test.YtdfgpminonpeaaaPlaysZ
import Derived.Test.YtdfgpminonpeaaaRows
import Derived.WalkKit
import Derived.Handy
import Derived.Laws.EntriesVeiled
import Derived.WalkSpells
import Derived.WalkLawsBesides
import Derived.BigQuiet
import Derived.Deep.QuietTactic
import Derived.Deep.Cut
import Derived.Deep.DeepCutAuto
import Derived.Lib.Overlaps
import Derived.Laws.Externs
import Derived.Lib.Hide
import Derived.Test.YtdfgpminonpeaaaUxPlanAllZ
import Derived.Test.YtdfgpminonpeaaaUxTreeAllZ
import Derived.Deep.LoopGhost
namespace Go.Proofs.Ytdfgpminonpeaaa
open Go.RowKit
-- imports: YtdfgpminonpeaaaPlays
open Ux (slt lb has Rises keys ins del playN play1 Act3)

/-- a list is as long as so many bits say -/
theorem depth_bits {z d b : Nat} (h1 : z < 2 ^ b) (h2 : z = 0 → d = 0) (h3 : z ≠ 0 → 1 ≤ d ∧ 2 ^ (d - 1) ≤ z) : d ≤ b + 1 := by
  by_cases h : z = 0
  · rw [h2 h]; omega
  · obtain ⟨a, hb⟩ := h3 h
    have : d - 1 < b := (Nat.pow_lt_pow_iff_right (by omega : 1 < 2)).1 (by omega)
    omega

set_option maxHeartbeats 2000000 in
set_option maxRecDepth 100000 in
theorem law7 (a0 : Int) (W : World) (base : Option Addr) (c : Nat) (ops : List Act3) (hops : OpsAt W base ops) (hlen : ops.length ≤ maxLen) :
    Calls Try.prog 7 #[.int .i64 a0, .slice base ops.length c] W fun e w' => e = .returned (.bool true) ∧ Ux.Touch (fun _ => False) W w' := by
  obtain ⟨m, F, hand, hm0, hm1, hF, hF4, hF64⟩ := Ux.fan_of a0
  have HB := Lib.hid (built25 F hF4 hF64 base c ops 100 (by omega) W hops hlen)
  obtain ⟨L, hL⟩ : ∃ L, playN ops (min ops.length 100) = L := ⟨_, rfl⟩
  have hl := Ux.playN_length ops (min ops.length 100)
  rw [hL] at HB hl
  have HO := Lib.hid (And.intro hops (And.intro hlen hL))
  obtain ⟨no, hno⟩ : ∃ no, ops.length = no := ⟨_, rfl⟩
  have HNO := Lib.hid hno
  rw [hno]
  rw [hno] at HB hl
  have hL100 : L.length ≤ 100 := by omega
  have l100 : (L.length : Int) ≤ 100 := by omega
  clear hno hl hops hlen hL hF4 hF64
  go_enter Try.func7, Try.ntmps7
  go_wp2_with (go_at_call 25; fail)
  refine HB.out.mono ?_
  rintro e w1 ⟨tb, v, rfl, B1⟩
  have hops1 : OpsAt w1 base ops := fun i o ho => by
    obtain ⟨b, f, h1, h2, h3, h4, h5⟩ := HO.out.1 i o ho
    have hn : ¬ W.heap.size ≤ b := by omega
    exact ⟨b, f, h1, Nat.lt_of_lt_of_le h2 B1.touch.size, B1.touch.cell h3 hn, B1.touch.cell h4 hn, B1.touch.cell h5 hn⟩
  have BB := built25 64 (by omega) (by omega) base c ops 100 (by omega) w1 hops1 HO.out.2.1
  rw [HO.out.2.2, HNO.out] at BB
  have HBB := Lib.hid BB
  have HB1 := Lib.hid B1
  clear B1 BB hops1 HB hand hm0 hm1 hF
  go_wp2_with (go_at_call 25; fail)
  refine HBB.out.mono ?_
  rintro e w2 ⟨tb2, v2, rfl, B2⟩
  have T12 : Ux.Touch (fun b => w1.heap.size ≤ b) w1 w2 := B2.touch
  have t1 : HasTree w2 tb F L W.heap.size := by
    have := HB1.out.tree.bound.touch T12 (fun b hb h => by omega)
    exact this.tree
  have p1 : PairsAt w2 v L := HB1.out.pairs.touch T12 (fun b hb h => by have := HB1.out.pairs.lt b hb; omega)
  obtain ⟨lv, lc, rfl, _⟩ := p1.cells
  obtain ⟨lv2, lc2, rfl, _⟩ := B2.pairs.cells
  have HL1 := Lib.hid (lenL t1)
  have HL2 := Lib.hid (lenL B2.tree)
  have H2 := Lib.hid (And.intro t1 (And.intro p1 (And.intro B2 (HB1.out.touch.trans T12 (fun b hb h => by have := HB1.out.touch.size; omega)))))
  clear T12 t1 p1 B2 HBB
  go_wp2_with (first | (go_at_call 15; refine HL1.out.mono ?_; rintro e w' ⟨rfl, rfl⟩) | (go_at_call 15; refine HL2.out.mono ?_; rintro e w' ⟨rfl, rfl⟩))
  obtain ⟨z, hz⟩ : ∃ z, L.length = z := ⟨_, rfl⟩
  rw [hz] at hL100 l100
  rw [hz]
  have HZ := Lib.hid hz
  clear hz HL1 HL2
  go_loopg [11, 12] 7 (fun g s11 s12 wr => ∃ b n : Nat, s11 = .int .i64 b ∧ s12 = .int .i64 n ∧ n < 2 ^ g ∧ z < 2 ^ b * (n + 1) ∧ b + g = 7 ∧ wr = w2)
  case atStart => exact ⟨0, z, rfl, rfl, by omega, by omega, rfl, rfl⟩
  case round =>
    obtain ⟨b, n, rfl, rfl, hng, hzb, hbg, rfl⟩ := hrel
    have p0 : (0 : Int) ≤ b := by omega
    have p1 : (b : Int) ≤ 7 := by omega
    have p2 : (0 : Int) ≤ n := by omega
    have HNG := Lib.hid (And.intro hng hzb)
    clear hng hzb
    rcases Nat.eq_zero_or_pos n with hn | hn
    · subst hn
      have HS1 := Lib.hid (same26 (l := L) H2.out.1 H2.out.2.2.1.pairs (by have := HZ.out; omega))
      have hzb : z < 2 ^ b := by have := HNG.out.2; simpa using this
      have HZB := Lib.hid hzb
      rw [HZ.out] at HS1
      clear hzb
      go_wp2_with (go_at_call 26; fail)
      refine HS1.out.mono ?_
      rintro e w3 ⟨rfl, T3⟩
      have HS2 := Lib.hid (same26 (l := L) (H2.out.2.2.1.tree.still T3) (H2.out.2.1.touch T3 (fun _ _ f => f)) (by have := HZ.out; omega))
      rw [HZ.out] at HS2
      have HT3 := Lib.hid T3
      clear T3 HS1
      go_wp2_with (go_at_call 26; fail)
      refine HS2.out.mono ?_
      rintro e w4 ⟨rfl, T4⟩
      have T34 := HT3.out.trans T4 (fun _ _ f => f)
      have HD1 := Lib.hid (depthL (H2.out.1.still T34) (by have := HZ.out; omega))
      have HD2 := Lib.hid (depthL (H2.out.2.2.1.tree.still T34) (by have := HZ.out; omega))
      have HT4 := Lib.hid T34
      clear T4 T34 HS2
      go_wp2_with (go_at_call 24; fail)
      refine HD1.out.mono ?_
      rintro e w' ⟨⟨d, rfl, a1, a2⟩, rfl⟩
      have hd : d ≤ b + 1 := depth_bits HZB.out (fun h => a1 (List.eq_nil_of_length_eq_zero (by rw [HZ.out]; exact h))) (fun h => by have := a2 (fun e => h (by rw [← HZ.out, e]; rfl)); rw [HZ.out] at this; exact this)
      have hd' : (d : Int) ≤ b + 1 := by omega
      clear a1 a2 hd
      go_wp2_with (go_at_call 24; fail)
      refine HD2.out.mono ?_
      rintro e w' ⟨⟨d2, rfl, a1, a2⟩, rfl⟩
      have hd2 : d2 ≤ b + 1 := depth_bits HZB.out (fun h => a1 (List.eq_nil_of_length_eq_zero (by rw [HZ.out]; exact h))) (fun h => by have := a2 (fun e => h (by rw [← HZ.out, e]; rfl)); rw [HZ.out] at this; exact this)
      have hd2' : (d2 : Int) ≤ b + 1 := by omega
      clear a1 a2 hd2
      go_wp2_with (go_at_call 20; fail)
      refine (awake20 _).mono ?_
      rintro e w5 ⟨rfl, T5⟩
      have HT5 := Lib.hid ((H2.out.2.2.2.trans HT4.out (fun _ _ f => f.elim)).trans T5 (fun _ _ f => f.elim))
      clear T5
      go_wp2
      go_ret
      exact ⟨rfl, HT5.out.mono (fun b hb h => by omega)⟩
    · obtain ⟨g', rfl⟩ : ∃ g', gk = g' + 1 := by
        cases gk with
        | zero => have := HNG.out.1; simp at this; omega
        | succ g' => exact ⟨g', rfl⟩
      have p3 : (0 : Int) < n := by omega
      have p4 : (n : Int) ≤ 128 := by
        have h1 := HNG.out.1
        have h2 : 2 ^ (g' + 1) ≤ 2 ^ 7 := Nat.pow_le_pow_right (by omega) (by omega)
        omega
      have q3 : decide (0 < n) = true := by simpa using hn
      clear hn
      go_wp2
      go_roundg g'
      case measure => omega
      case rel =>
        refine ⟨b + 1, n / 2, by go_num, by congr 1, ?_, ?_, by omega, rfl⟩
        · have h1 := HNG.out.1
          rw [Nat.pow_succ] at h1
          omega
        · have h1 := HNG.out.2
          rw [Nat.pow_succ]
          have h2 : n + 1 ≤ 2 * (n / 2 + 1) := by omega
          calc z < 2 ^ b * (n + 1) := h1
            _ ≤ 2 ^ b * (2 * (n / 2 + 1)) := Nat.mul_le_mul_left _ h2
            _ = 2 ^ b * 2 * (n / 2 + 1) := by rw [Nat.mul_assoc]

end Go.Proofs.Ytdfgpminonpeaaa
