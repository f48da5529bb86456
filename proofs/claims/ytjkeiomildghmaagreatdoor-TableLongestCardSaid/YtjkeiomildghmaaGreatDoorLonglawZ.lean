/- PART OF THE PROOF THAT THIS CLAIM HOLDS OF THE GIVEN PROGRAM, FOR EVERY INPUT THAT THE STATEMENT NAMES. No condition besides the statement's own. -/
import Derived.Test.YtjkeiomildghmaaGreatDoorTableBZ
import Derived.Test.YtjkeiomildghmaaGreatDoorTableAZ
import Derived.Test.YtjkeiomildghmaaGreatDoorRows
import Derived.WalkKit
import Derived.Handy
import Derived.Laws.EntriesVeiled
import Derived.WalkSpells
import Derived.WalkLawsBesides
import Derived.BigQuiet
import Derived.Deep.QuietTactic
import Derived.Deep.Cut
import Derived.Deep.DeepCutAuto
import Derived.Lib.Overlaps
import Derived.Laws.Externs
import Derived.Lib.Hide
import Derived.Test.YtjkeiomildghmaaGreatDoorUxPlanAllZ
import Derived.Test.YtjkeiomildghmaaGreatDoorUxMemAZ
import Derived.Test.YtjkeiomildghmaaGreatDoorUxOrdZ
import Derived.Deep.LoopGhost
namespace Go.Proofs.YtjkeiomildghmaaGreatDoor
open Go.RowKit
open Go.RowKit
open Ux (Row iv sv Ent okE ev eMk eP eS eT eV rootE setE findE atE ofE elemsE longE eLetter)
open Ux.Sign (cp raw signs)

def e1L : Nat := eLetter 0 2
def e2L : Nat := eMk 28674 32 2 false
def e3L : Nat := eMk 28675 32 2 false
def tE1 (two : Bool) : List Ent := if two then setE rootE [97, 97] [e2L] else rootE
def tE2 (two three : Bool) : List Ent := if three then setE (tE1 two) [97, 97, 97] [e3L] else tE1 two
theorem tE1_len (two : Bool) : (tE1 two).length ≤ 133 := by cases two <;> decide +kernel
theorem tE2_len (two three : Bool) : (tE2 two three).length ≤ 134 := by cases two <;> cases three <;> decide +kernel
theorem tE_find (two three : Bool) : findE (tE2 two three) [97] = some [e1L] ∧ findE (tE2 two three) [97, 97] = (if two then some [e2L] else none) ∧ findE (tE2 two three) [97, 97, 97] = (if three then some [e3L] else none) := by
  cases two <;> cases three <;> decide +kernel
theorem tE_check (two three : Bool) : checkE (tE2 two three) = (two || !three) := by cases two <;> cases three <;> decide +kernel
theorem tE_sig (two three : Bool) : ∀ e ∈ tE2 two three, ∀ c ∈ e.1, cp c ∨ raw c := by
  have h : ((tE2 two three).all fun e => e.1.all fun c => decide (c < 55296)) = true := by cases two <;> cases three <;> decide +kernel
  intro e he c hc
  exact .inl (.inl (of_decide_eq_true (List.all_eq_true.1 (List.all_eq_true.1 h e he) c hc)))
/-- how many letters the longest entry takes -/
def stepL (two three : Bool) (r : Nat) : Nat × Nat := if three = true ∧ 3 ≤ r then (e3L, 3) else if two = true ∧ 2 ≤ r then (e2L, 2) else (e1L, 1)
/-- the elements of r letters, in at most k steps -/
def gre (two three : Bool) : Nat → Nat → List Nat
  | 0, _ => []
  | k + 1, r => if r = 0 then [] else (stepL two three r).1 :: gre two three k (r - (stepL two three r).2)
theorem stepL_pos (two three : Bool) {r : Nat} (h : 0 < r) : 1 ≤ (stepL two three r).2 ∧ (stepL two three r).2 ≤ r := by
  unfold stepL
  split
  · rename_i h1; exact ⟨by simp, h1.2⟩
  · split
    · rename_i h1; exact ⟨by simp, h1.2⟩
    · exact ⟨by simp, h⟩
theorem stepL_lt (two three : Bool) (r : Nat) : (stepL two three r).1 < 4294967296 := by
  unfold stepL
  split
  · decide
  · split <;> decide
theorem gre_more (two three : Bool) : ∀ (r k k' : Nat), r ≤ k → r ≤ k' → gre two three k r = gre two three k' r := by
  intro r
  induction r using Nat.strongRecOn with
  | _ r ih =>
    intro k k' h1 h2
    by_cases h0 : r = 0
    · subst h0
      cases k <;> cases k' <;> simp [gre]
    · obtain ⟨k, rfl⟩ : ∃ j, k = j + 1 := ⟨k - 1, by omega⟩
      obtain ⟨k', rfl⟩ : ∃ j, k' = j + 1 := ⟨k' - 1, by omega⟩
      have hp := stepL_pos two three (r := r) (by omega)
      unfold gre
      rw [if_neg h0, if_neg h0, ih (r - (stepL two three r).2) (by omega) k k' (by omega) (by omega)]
theorem atE_rep (two three : Bool) (n i : Nat) (h : i < n) : atE (tE2 two three) (List.replicate n 97) i = ([(stepL two three (n - i)).1], (stepL two three (n - i)).2) := by
  obtain ⟨f1, f2, f3⟩ := tE_find two three
  have hd : ∀ m, i + m ≤ n → ((List.replicate n 97).drop i).take m = List.replicate m 97 := fun m hm => by
    rw [List.drop_replicate, List.take_replicate]
    congr 1
    omega
  have g1 : longE (tE2 two three) (List.replicate n 97) i 1 = some ([e1L], 1) := by
    unfold longE
    rw [hd 1 (by omega), show List.replicate 1 97 = [97] from rfl, f1]
  have g2 : i + 2 ≤ n → longE (tE2 two three) (List.replicate n 97) i 2 = if two = true then some ([e2L], 2) else some ([e1L], 1) := fun h2 => by
    unfold longE
    rw [hd 2 h2, show List.replicate 2 97 = [97, 97] from rfl, f2]
    cases two
    · exact g1
    · rfl
  have g3 : i + 3 ≤ n → longE (tE2 two three) (List.replicate n 97) i 3 = if three = true then some ([e3L], 3) else if two = true then some ([e2L], 2) else some ([e1L], 1) := fun h3 => by
    unfold longE
    rw [hd 3 h3, show List.replicate 3 97 = [97, 97, 97] from rfl, f3]
    cases three
    · exact g2 (by omega)
    · rfl
  unfold atE
  rw [List.length_replicate]
  unfold stepL
  by_cases h3 : 3 ≤ n - i
  · rw [show min 3 (n - i) = 3 by omega, g3 (by omega)]
    have h2 : 2 ≤ n - i := by omega
    cases three <;> cases two <;> simp [h3, h2]
  · by_cases h2 : 2 ≤ n - i
    · rw [show min 3 (n - i) = 2 by omega, g2 (by omega)]
      cases three <;> cases two <;> simp [h3, h2]
    · rw [show min 3 (n - i) = 1 by omega, g1]
      cases three <;> cases two <;> simp [h3, h2]
theorem ofE_rep (two three : Bool) (n : Nat) : ∀ (r i : Nat), i + r = n → ofE (tE2 two three) (List.replicate n 97) i r = gre two three r r := by
  intro r
  induction r using Nat.strongRecOn with
  | _ r ih =>
    intro i hi
    by_cases h0 : r = 0
    · subst h0
      rfl
    · obtain ⟨k, rfl⟩ : ∃ k, r = k + 1 := ⟨r - 1, by omega⟩
      have hp := stepL_pos two three (r := k + 1) (by omega)
      unfold ofE gre
      rw [List.length_replicate, if_neg (by omega), if_neg (by omega), atE_rep two three n i (by omega), show n - i = k + 1 by omega]
      have e1 := ih (k + 1 - (stepL two three (k + 1)).2) (by omega) (i + (stepL two three (k + 1)).2) (by omega)
      have e2 := Ux.ofE_more (tE2 two three) (List.replicate n 97) k (i + (stepL two three (k + 1)).2) (by rw [List.length_replicate]; omega)
      rw [List.length_replicate, show n - (i + (stepL two three (k + 1)).2) = k + 1 - (stepL two three (k + 1)).2 by omega, e1] at e2
      rw [List.singleton_append]
      show _ :: ofE _ _ _ k = _
      rw [e2, gre_more two three _ k _ (by omega) (Nat.le_refl _)]
theorem elems_rep (two three : Bool) (n : Nat) : elemsE (tE2 two three) (List.replicate n 97) = gre two three n n := by
  unfold elemsE
  rw [List.length_replicate]
  exact ofE_rep two three n n 0 (by omega)
theorem signs_rep (n : Nat) : signs (List.replicate n (97 : UInt8)) = List.replicate n 97 := by
  rw [Ux.Sign.signs_ascii _ (fun b hb => by rw [List.eq_of_mem_replicate hb]; decide), List.map_replicate]
  rfl

set_option maxHeartbeats 4000000 in
theorem mkL_ (p : Nat) (P : Int) (hP : P = p) (hp : p < 65536) (w : World) : Calls Tryz.prog 16 #[.int .i64 P] w fun e w' => ∃ u, e = .returned u ∧ Row w' 0 30 u (ev [eMk p 32 2 false]) ∧ Ux.Touch (fun _ => False) w w' := by
  subst hP
  have HE := Lib.hid fun W => emake_ p 32 2 false hp (by decide) (by decide) W
  clear hp
  go_enter Tryz.func16, Tryz.ntmps16
  go_wp2_with (go_at_call 17; refine (HE.out _).mono ?_; rintro e w' ⟨rfl, rfl⟩)
  go_ret
  exact ⟨_, rfl, ev_rowA _ [eMk p 32 2 false] 1 rfl, (Ux.Touch.refl _ _).alloc _⟩
theorem row2 (w : World) (l : List Nat) (n : Nat) (hn : n = l.length) : SView (w.alloc (.cells (iv (sv l)).toArray 3)) (.slice (some ⟨w.heap.size, 0, none⟩) n n) l := by
  subst hn
  refine ⟨_, _, rfl, fun j x hx => ⟨w.heap.size, 0, rfl, ?_⟩⟩
  rw [Ux.cell_newg, List.getElem?_toArray, Nat.zero_add]
  exact Ux.iv_get (Ux.sv_get hx)
theorem and31 (a : Int) : ∃ m : Nat, bits .and .i64 a 31 = (m : Int) ∧ m < 32 := by
  have h : (BitVec.ofInt 64 a &&& BitVec.ofInt 64 31).toNat < 32 := by
    rw [BitVec.toNat_and, show (BitVec.ofInt 64 31).toNat = 2 ^ 5 - 1 from rfl, Nat.and_two_pow_sub_one_eq_mod]
    exact Nat.mod_lt _ (by decide)
  refine ⟨(BitVec.ofInt 64 a &&& BitVec.ofInt 64 31).toNat, ?_, h⟩
  show IntKind.i64.wrap ((BitVec.ofInt 64 a &&& BitVec.ofInt 64 (31 : Int)).toNat : Nat) = _
  rw [IntKind.wrap_i64]
  omega
set_option maxHeartbeats 8000000 in
set_option maxRecDepth 100000 in
theorem longLaw_ (a : Int) (two three : Bool) (w : World) (hT : Tabs w) (hD : TabD w) : Calls Tryz.prog 4 #[.int .i64 a, .bool two, .bool three] w fun e w' => e = .returned (.bool true) ∧ Ux.Touch (fun _ => False) w w' := by
  have HT := Lib.hid (And.intro hT hD)
  clear hT hD
  go_enter Tryz.func4, Tryz.ntmps4
  go_wp2_with (go_at_call 15; fail)
  refine (rootT_ w).mono ?_
  rintro e w1 ⟨B, mb, rfl, hB, _, T1⟩
  have H1 := Lib.hid (And.intro hB T1)
  clear hB T1
  have okA : okE ([97, 97], [e2L]) := ⟨⟨by decide, by decide, by decide⟩, by decide, by decide⟩
  have okB : okE ([97, 97, 97], [e3L]) := ⟨⟨by decide, by decide, by decide⟩, by decide, by decide⟩
  have HO := Lib.hid (And.intro okA okB)
  clear okA okB
  go_upto_if 24 with (fail)
  go_cut [7] (fun s7 wx => ∃ B mb, s7 = .pointer (some ⟨B, 0, none⟩) ∧ Hid (TableAt wx B mb (tE1 two) ∧ Ux.Touch (fun _ => False) w wx))
  case first =>
    cases two with
    | false =>
      go_wp2_with (fail)
      go_meet
      exact ⟨B, mb, rfl, Lib.hid H1.out⟩
    | true =>
      go_wp2_with (first | (go_at_call 18; fail) | (go_at_call 16; fail) | (go_at_fn 16; fail))
      refine (mkL_ 28674 28674 rfl (by decide) _).mono ?_
      rintro e w2 ⟨u, rfl, hu, T2⟩
      have hs := (row2 w1 [97, 97] 2 rfl).touch0 T2
      have TA : Ux.Touch (fun _ => False) w1 w2 := ((Ux.Touch.refl (fun _ => False) w1).alloc _).trans T2 fun _ _ f => f
      have HX := Lib.hid (And.intro hu (And.intro hs TA))
      clear hu hs TA T2
      go_wp2_with (go_at_call 18; fail)
      refine (withS_ B mb rootE [97, 97] [e2L] _ u w2 (H1.out.1.touch0 HX.out.2.2) HX.out.2.1 HX.out.1 HO.out.1 (fun c hc => by simp at hc; subst hc; exact .inl (.inl (by decide))) (by rw [Ux.rootE_len]; decide) (by have := tE1_len true; unfold tE1 at this; simp at this ⊢; omega)).mono ?_
      rintro e w3 ⟨B', mb', rfl, H3⟩
      go_wp2_with (fail)
      go_meet
      exact ⟨B', mb', rfl, Lib.hid ⟨H3.out.1, (H1.out.2.trans HX.out.2.2 fun _ _ f => f).trans H3.out.2 fun _ _ f => f⟩⟩
  obtain ⟨B1, mb1, rfl, HA⟩ := hcut
  clear H1
  go_upto_if 40 with (fail)
  go_cut [7] (fun s7 wx => ∃ B mb, s7 = .pointer (some ⟨B, 0, none⟩) ∧ Hid (TableAt wx B mb (tE2 two three) ∧ Ux.Touch (fun _ => False) w wx))
  case first =>
    cases three with
    | false =>
      go_wp2_with (fail)
      go_meet
      exact ⟨B1, mb1, rfl, Lib.hid HA.out⟩
    | true =>
      go_wp2_with (first | (go_at_call 18; fail) | (go_at_call 16; fail) | (go_at_fn 16; fail))
      refine (mkL_ 28675 28675 rfl (by decide) _).mono ?_
      rintro e w2 ⟨u, rfl, hu, T2⟩
      have hs := (row2 wc [97, 97, 97] 3 rfl).touch0 T2
      have TA : Ux.Touch (fun _ => False) wc w2 := ((Ux.Touch.refl (fun _ => False) wc).alloc _).trans T2 fun _ _ f => f
      have HX := Lib.hid (And.intro hu (And.intro hs TA))
      clear hu hs TA T2
      go_wp2_with (go_at_call 18; fail)
      refine (withS_ B1 mb1 (tE1 two) [97, 97, 97] [e3L] _ u w2 (HA.out.1.touch0 HX.out.2.2) HX.out.2.1 HX.out.1 HO.out.2 (fun c hc => by simp at hc; subst hc; exact .inl (.inl (by decide))) (by have := tE1_len two; omega) (by have := tE2_len two true; unfold tE2 at this; simp at this ⊢; omega)).mono ?_
      rintro e w3 ⟨B', mb', rfl, H3⟩
      go_wp2_with (fail)
      go_meet
      exact ⟨B', mb', rfl, Lib.hid ⟨H3.out.1, (HA.out.2.trans HX.out.2.2 fun _ _ f => f).trans H3.out.2 fun _ _ f => f⟩⟩
  obtain ⟨B2, mb2, rfl, HB⟩ := hcut
  clear HA HO
  obtain ⟨m, hm, hm32⟩ : ∃ m : Nat, bits .and .i64 a 31 = (m : Int) ∧ m < 32 := and31 a
  have HL := Lib.hid hm
  have m32 : (m : Int) < 32 := by omega
  go_upto_region 16 with (fail)
  clear hm
  go_wp2_with (fail)
  go_loopg [13, 14] m (fun g s13 s14 wr => ∃ (i : Nat) (t : ByteArray), s14 = .int .i64 i ∧ s13 = .string t ∧ i + g = m ∧ t.size = i ∧ wr = wc ∧ Hid (t.data.toList = List.replicate i 97))
  case atStart => exact ⟨0, ⟨#[]⟩, rfl, rfl, by omega, rfl, rfl, Lib.hid rfl⟩
  case round =>
    obtain ⟨i, t, rfl, rfl, hig, hti, rfl, HI⟩ := hrel
    by_cases hlt : i < m
    · obtain ⟨g', rfl⟩ : ∃ g', gk = g' + 1 := ⟨gk - 1, by omega⟩
      have i1 : (i : Int) < m := by omega
      have i0 : (0 : Int) ≤ i := by omega
      have h9 : ¬ 9223372036854775807 < t.size + (⟨#[97]⟩ : ByteArray).size := by rw [hti]; show ¬ 9223372036854775807 < i + 1; omega
      clear hlt
      go_wp2_with (fail)
      go_roundg g'
      case measure => omega
      case rel =>
        refine ⟨i + 1, t ++ ⟨#[97]⟩, by congr 1, rfl, by omega, by rw [ByteArray.size_append, hti]; rfl, rfl, Lib.hid ?_⟩
        rw [ByteArray.data_append, Array.toList_append, HI.out, List.replicate_succ']
    · obtain rfl : m = i := by omega
      have q1 : ¬ (m : Int) < m := by omega
      clear hlt
      go_wp2_with (go_at_call 19; fail)
      have hsg : signs t.data.toList = List.replicate m 97 := by rw [HI.out]; exact signs_rep _
      have hel := elements_ B2 mb2 (tE2 two three) t wr HB.out.1 (HT.out.1.touch HB.out.2) (by omega)
      rw [hsg, elems_rep] at hel
      refine hel.mono ?_
      rintro e w2 ⟨u, rfl, hu, T2⟩
      obtain ⟨L, hLL⟩ : ∃ L, gre two three m m = L := ⟨_, rfl⟩
      rw [hLL] at hu
      obtain ⟨ga, ca, rfl, hcl⟩ := hu.is
      rw [Ux.ev_length]
      obtain ⟨n, hn⟩ : ∃ n, L.length = n := ⟨_, rfl⟩
      rw [hn]
      have hm32 : m < 32 := by omega
      have hnm : n ≤ 31 := by
        have : ∀ k r, (gre two three k r).length ≤ r := by
          intro k
          induction k with
          | zero => intro r; simp [gre]
          | succ k ih =>
            intro r
            unfold gre
            split
            · simp
            · rename_i h0
              have := ih (r - (stepL two three r).2)
              have := stepL_pos two three (r := r) (by omega)
              simp
              omega
        have := this m m
        rw [hLL, hn] at this
        omega
      have n32 : (n : Int) ≤ 31 := by omega
      have HE := Lib.hid (And.intro hcl (And.intro hLL (And.intro hn (HB.out.2.trans T2 fun _ _ f => f))))
      have HB2 := Lib.hid (HB.out.1.touch0 T2)
      clear hsg hel hu hcl hLL hn T2 hti q1 HI HL HB
      go_wp2_with (fail)
      go_loopg [16, 17] m (fun g s16 s17 wr => ∃ (i r : Nat), s16 = .int .i64 i ∧ s17 = .int .i64 r ∧ r ≤ g ∧ r ≤ m ∧ i ≤ n ∧ wr = w2 ∧ Hid (L.drop i = gre two three r r))
      case atStart => exact ⟨0, m, rfl, rfl, Nat.le_refl _, Nat.le_refl _, Nat.zero_le _, rfl, Lib.hid HE.out.2.1.symm⟩
      case round =>
        obtain ⟨i, r, rfl, rfl, hrg, hrm, hin, rfl, HI⟩ := hrel
        by_cases h0 : r = 0
        · subst h0
          have hin2 : i = n := by
            have h1 : L.drop i = [] := HI.out
            rw [List.drop_eq_nil_iff, HE.out.2.2.1] at h1
            omega
          subst hin2
          have HCK := Lib.hid fun W (T : Ux.Touch (fun _ => False) wr W) => check_ B2 mb2 (tE2 two three) W (HB2.out.touch0 T) (tE_sig two three)
          rw [tE_check] at HCK
          have HAW := Lib.hid fun W (T : Ux.Touch (fun _ => False) w W) => awake5_ W (HT.out.1.touch T) (HT.out.2.touch T)
          have HT0 := Lib.hid HE.out.2.2.2
          clear hin n32 hnm hrg hrm
          cases two <;> cases three
          all_goals
            go_wp2_with (go_at_call 20; fail)
            refine (HCK.out _ (Ux.Touch.refl _ _)).mono ?_
            rintro e w3 ⟨rfl, T3⟩
            have T3 := Lib.hid (HT0.out.trans T3 fun _ _ f => f)
            go_wp2_with (go_at_call 13; fail)
            refine (HAW.out _ T3.out).mono ?_
            rintro e w4 ⟨rfl, T4⟩
            go_wp2
            go_ret
            exact ⟨rfl, T3.out.trans T4 fun _ _ f => f⟩
        · obtain ⟨g', rfl⟩ : ∃ g', gk = g' + 1 := ⟨gk - 1, by omega⟩
          have r0 : (0 : Int) < r := by omega
          obtain ⟨X, hX⟩ : ∃ X, (stepL two three r).1 = X := ⟨_, rfl⟩
          obtain ⟨K, hK⟩ : ∃ K, (stepL two three r).2 = K := ⟨_, rfl⟩
          have hdr : L.drop i = X :: gre two three r (r - K) := by
            rw [HI.out, ← hX, ← hK]
            obtain ⟨k, rfl⟩ : ∃ k, r = k + 1 := ⟨r - 1, by omega⟩
            have hp := stepL_pos two three (r := k + 1) (by omega)
            show gre two three (k + 1) (k + 1) = _
            rw [gre, if_neg (by omega), gre_more two three _ k (k + 1) (by omega) (by omega)]
          have hi : L[i]? = some X := by
            have h1 : (L.drop i)[0]? = some X := by rw [hdr]; rfl
            rw [List.getElem?_drop] at h1
            exact h1
          have hdr2 : L.drop (i + 1) = gre two three (r - K) (r - K) := by
            have h1 : L.drop (i + 1) = (L.drop i).drop 1 := by rw [List.drop_drop]
            have hp := stepL_pos two three (r := r) (by omega)
            rw [h1, hdr, List.drop_one, List.tail_cons, gre_more two three _ r (r - K) (by omega) (Nat.le_refl _)]
          have hin2 : i < n := by rw [← HE.out.2.2.1]; exact (List.getElem?_eq_some_iff.1 hi).1
          obtain ⟨gb, rfl, _, hc⟩ := HE.out.1 i _ (Ux.ev_get hi)
          have hp := stepL_pos two three (r := r) (by omega)
          rw [hK] at hp
          have hX2 : X < 4294967296 := by rw [← hX]; exact stepL_lt two three r
          have HWt := Lib.hid fun W => weight_ 1 X 1 rfl (.inl rfl) hX2 W
          obtain ⟨V, hV⟩ : ∃ V, wt 1 X = V := ⟨_, rfl⟩
          rw [hV] at HWt
          have HS := Lib.hid (And.intro hX (And.intro hK (And.intro hV (And.intro hdr2 hp))))
          have i9 : (i : Int) < n := by omega
          have i8 : (0 : Int) ≤ i := by omega
          have r31 : (r : Int) ≤ 31 := by omega
          clear hX hK hV hdr hdr2 hi hp hX2 h0
          have hcase : (three = true ∧ 3 ≤ r ∧ K = 3 ∧ V = 28675) ∨ (three = true ∧ r < 3 ∧ two = true ∧ 2 ≤ r ∧ K = 2 ∧ V = 28674) ∨ (three = true ∧ r < 3 ∧ two = true ∧ r < 2 ∧ K = 1 ∧ V = 256) ∨ (three = true ∧ r < 3 ∧ two = false ∧ K = 1 ∧ V = 256) ∨
              (three = false ∧ two = true ∧ 2 ≤ r ∧ K = 2 ∧ V = 28674) ∨ (three = false ∧ two = true ∧ r < 2 ∧ K = 1 ∧ V = 256) ∨ (three = false ∧ two = false ∧ K = 1 ∧ V = 256) := by
            obtain ⟨hX, hK, hV, _⟩ := HS.out
            have v1 : wt 1 e1L = 256 := by decide
            have v2 : wt 1 e2L = 28674 := by decide
            have v3 : wt 1 e3L = 28675 := by decide
            unfold stepL at hX hK
            by_cases h3 : 3 ≤ r
            · cases three <;> cases two <;> simp [h3, show 2 ≤ r by omega] at hX hK ⊢ <;> subst hX <;> omega
            · by_cases h2 : 2 ≤ r
              · cases three <;> cases two <;> simp [h3, h2] at hX hK ⊢ <;> subst hX <;> omega
              · cases three <;> cases two <;> simp [h3, h2] at hX hK ⊢ <;> subst hX <;> omega
          have HC := Lib.hid (And.intro i9 hc)
          clear i9 hc
          rcases hcase with ⟨rfl, h3, rfl, rfl⟩ | ⟨rfl, h3, rfl, h2, rfl, rfl⟩ | ⟨rfl, h3, rfl, h2, rfl, rfl⟩ | ⟨rfl, h3, rfl, rfl, rfl⟩ | ⟨rfl, rfl, h2, rfl, rfl⟩ | ⟨rfl, rfl, h2, rfl, rfl⟩ | ⟨rfl, rfl, rfl, rfl⟩
          all_goals
            first
              | have h3 : (3 : Int) ≤ r := by omega
              | have h3 : decide ((3 : Int) ≤ r) = false := decide_eq_false (by omega)
              | skip
            first
              | have h2 : (2 : Int) ≤ r := by omega
              | have h2 : decide ((2 : Int) ≤ r) = false := decide_eq_false (by omega)
              | skip
            go_upto_region 31 with (fail)
            obtain ⟨i9, hc⟩ := HC.out
            go_wp2_with (go_at_call 14; refine (HWt.out _).mono ?_; rintro e w' ⟨rfl, hw⟩; obtain rfl : wr = w' := hw.symm)
            go_roundg g'
            case measure => have := HS.out.2.2.2.2; omega
            case rel => exact ⟨i + 1, r - _, by congr 1, by congr 1; have := HS.out.2.2.2.2; omega, by have := HS.out.2.2.2.2; omega, by omega, by omega, rfl, Lib.hid HS.out.2.2.2.1⟩

end Go.Proofs.YtjkeiomildghmaaGreatDoor
