/- PART OF THE PROOF THAT THIS CLAIM HOLDS OF THE GIVEN PROGRAM, FOR EVERY INPUT THAT THE STATEMENT NAMES. No condition besides the statement's own. -/
import Derived.Test.YtglamoompicciaaGreatDoorAwakeZ
import Derived.Test.YtglamoompicciaaGreatDoorRows
import Derived.WalkKit
import Derived.Handy
import Derived.Laws.EntriesVeiled
import Derived.WalkSpells
import Derived.WalkLawsBesides
import Derived.BigQuiet
import Derived.Deep.QuietTactic
import Derived.Deep.Cut
import Derived.Deep.DeepCutAuto
import Derived.Lib.Overlaps
import Derived.Laws.Externs
import Derived.Lib.Hide
import Derived.Test.YtglamoompicciaaGreatDoorUxPlanAllZ
import Derived.Test.YtglamoompicciaaGreatDoorUxTreeAllZ
import Derived.Deep.LoopGhost
namespace Go.Proofs.YtglamoompicciaaGreatDoor
open Go.RowKit
open Go.RowKit
open Ux (Row iv sv bv)
open Ux.Sign (signs)
open Ux.Like (mat pat elt same mat_within mat_append_same mat_star_end mat_star_nil mat_same)

def ints (l : List UInt8) : List Int := l.map fun b => (b.toNat : Int)
theorem ints_append (a b : List UInt8) : ints (a ++ b) = ints a ++ ints b := by simp [ints]
theorem ints_pos (l : List UInt8) : ∀ c ∈ ints l, 0 ≤ c := fun c hc => by
  unfold ints at hc
  obtain ⟨b, _, rfl⟩ := List.mem_map.1 hc
  omega
theorem ints_inj {a b : List UInt8} (h : ints a = ints b) : a = b := by
  unfold ints at h
  refine (List.map_inj_right (f := fun b : UInt8 => (b.toNat : Int)) ?_).1 h
  intro x y e
  exact UInt8.toNat.inj (by omega)
def letter (b : UInt8) : Prop := 97 ≤ b.toNat ∧ b.toNat ≤ 122
def letters (l : List UInt8) : Prop := ∀ b ∈ l, letter b
theorem letters_signs {l : List UInt8} (h : letters l) : sv (signs l) = ints l := by
  rw [Ux.Sign.signs_ascii l fun b hb => by have := (h b hb).2; omega]
  unfold sv ints
  rw [List.map_map]
  rfl
theorem letters_elt {l : List UInt8} (h : letters l) : (l.map UInt8.toNat).map elt = ints l := by
  unfold ints
  rw [List.map_map]
  refine List.map_congr_left fun b hb => ?_
  have := h b hb
  unfold letter at this
  show elt b.toNat = _
  unfold elt
  rw [if_neg (by omega), if_neg (by omega)]
theorem ascii_signs {l : List UInt8} (h : ∀ b ∈ l, letter b ∨ b = 37) : signs l = l.map UInt8.toNat := Ux.Sign.signs_ascii l fun b hb => by
  rcases h b hb with h | rfl
  · unfold letter at h; omega
  · decide

theorem stars_p (a b d : List UInt8) : mat same (-1 :: (ints b ++ [-1])) (ints (a ++ b ++ d)) = true := by
  refine (mat_within (ints_pos b)).2 ⟨a.length, ?_, ?_⟩
  · unfold ints; simp
  · unfold ints; simp [List.take_append]
theorem stars_q (a b d : List UInt8) : mat same (ints a ++ -1 :: ints d) (ints (a ++ b ++ d)) = true := by
  rw [ints_append, ints_append, List.append_assoc, mat_append_same (ints_pos a)]
  exact mat_star_end ((mat_same (ints_pos d)).2 rfl)
theorem stars_n (a x : List UInt8) : mat same (ints a ++ [-1]) (ints (a ++ x)) = true := by
  rw [ints_append, mat_append_same (ints_pos a)]
  exact mat_star_nil _
/-- does b stand in d, at a place ahead of n? -/
def inUp (b d : List UInt8) (n : Nat) : Bool := (List.range n).any fun j => (d.drop j).take b.length == b
theorem inUp_succ (b d : List UInt8) (n : Nat) : inUp b d (n + 1) = (inUp b d n || ((d.drop n).take b.length == b)) := by
  unfold inUp
  rw [List.range_succ, List.any_append]
  simp
theorem stars_in (b d : List UInt8) (n : Nat) (hn : ∀ i, i + b.length ≤ d.length ↔ i < n) : mat same (-1 :: (ints b ++ [-1])) (ints d) = inUp b d n := by
  rw [Bool.eq_iff_iff, mat_within (ints_pos b)]
  unfold inUp
  rw [List.any_eq_true]
  have hl : ∀ l : List UInt8, (ints l).length = l.length := fun l => by simp [ints]
  constructor
  · rintro ⟨i, hi, e⟩
    rw [hl, hl] at hi
    rw [hl] at e
    refine ⟨i, List.mem_range.2 ((hn i).1 hi), ?_⟩
    have : ints ((d.drop i).take b.length) = ints b := by rw [← e]; unfold ints; simp
    simpa using ints_inj this
  · rintro ⟨i, hi, e⟩
    refine ⟨i, ?_, ?_⟩
    · rw [hl, hl]; exact (hn i).2 (List.mem_range.1 hi)
    · rw [hl]
      have e2 : (d.drop i).take b.length = b := by simpa using e
      conv => rhs; rw [← e2]
      unfold ints; simp

set_option maxHeartbeats 4000000 in
set_option maxRecDepth 100000 in
theorem stars_big (a b d : ByteArray) (w : World) (hT : Tabs w) (h1 : a.size ≤ 140737488355328) (h2 : b.size ≤ 140737488355328) (h3 : d.size ≤ 140737488355328) (h : a.size + b.size + d.size > 100) :
    Calls Tryz.prog 5 #[.string a, .string b, .string d] w fun e w' => e = .returned (.bool true) ∧ Ux.Touch (fun _ => False) w w' := by
  have AW := Lib.hid (awake_ w hT)
  obtain ⟨n1, e1⟩ : ∃ n, a.size = n := ⟨_, rfl⟩
  obtain ⟨n2, e2⟩ : ∃ n, b.size = n := ⟨_, rfl⟩
  obtain ⟨n3, e3⟩ : ∃ n, d.size = n := ⟨_, rfl⟩
  have t0 : ((n1 : Int) + n2 + n3 > 100) := by omega
  have g1 : (n1 : Int) ≤ 140737488355328 := by omega
  have g2 : (n2 : Int) ≤ 140737488355328 := by omega
  have g3 : (n3 : Int) ≤ 140737488355328 := by omega
  clear h h1 h2 h3 hT
  go_enter Tryz.func5, Tryz.ntmps5
  go_wp2_with (go_at_call 9; fail)
  refine AW.out.mono ?_
  rintro e w7 ⟨rfl, T7⟩
  have H7 := Lib.hid T7
  clear T7
  go_wp2
  go_ret
  exact ⟨rfl, H7.out⟩

set_option maxHeartbeats 8000000 in
set_option maxRecDepth 100000 in
theorem stars_ (a b d : ByteArray) (w : World) (hT : Tabs w) (h : a.size + b.size + d.size ≤ 100) :
    Calls Tryz.prog 5 #[.string a, .string b, .string d] w fun e w' => e = .returned (.bool true) ∧ Ux.Touch (fun _ => False) w w' := by
  have AW := Lib.hid fun w' (T : Ux.Touch (fun _ => False) w w') => awake_ w' (hT.touch T)
  have HT := Lib.hid hT
  obtain ⟨n1, e1⟩ : ∃ n, a.size = n := ⟨_, rfl⟩
  obtain ⟨n2, e2⟩ : ∃ n, b.size = n := ⟨_, rfl⟩
  obtain ⟨n3, e3⟩ : ∃ n, d.size = n := ⟨_, rfl⟩
  have t0 : ¬ ((n1 : Int) + n2 + n3 > 100) := by omega
  have g1 : (n1 : Int) ≤ 100 := by omega
  have g2 : (n2 : Int) ≤ 100 := by omega
  have g3 : (n3 : Int) ≤ 100 := by omega
  have HSZ := Lib.hid (And.intro e1 (And.intro e2 (And.intro e3 h)))
  obtain ⟨B, hB⟩ : ∃ B, w.heap.size = B := ⟨_, rfl⟩
  obtain ⟨w1, hw1⟩ : ∃ w1, w.alloc (.cells #[.string a, .string b, .string d] 9) = w1 := ⟨_, rfl⟩
  have T1 : Ux.Touch (fun _ => False) w w1 := by rw [← hw1]; exact (Ux.Touch.refl _ w).alloc _
  have hr1 : w1.heap[B]? = some (.cells #[.string a, .string b, .string d] 9 (0, 0)) := by rw [← hw1, ← hB]; exact heap_alloc_new w _
  have H1 := Lib.hid (And.intro T1 (show ∀ j s, [a, b, d][j]? = some s → w1.cell? ⟨B, j, none⟩ = some (.string s) from fun j s hj => by
    rw [cell_of_row w1 B j _ _ (0, 0) hr1]
    match j, hj with
    | 0, hj => cases hj; rfl
    | 1, hj => cases hj; rfl
    | 2, hj => cases hj; rfl
    | j + 3, hj => simp at hj))
  clear hT h T1 hr1
  go_enter Tryz.func5, Tryz.ntmps5
  go_wp2
  go_loopg [37, 8, 9] 3 (fun g s37 s8 s9 wr => ∃ j : Nat, s37 = .int .i64 j ∧ j + g = 3 ∧ w1 = wr ∧ Hid (∀ i s, i < j → [a, b, d][i]? = some s → letters s.data.toList))
  case atStart => exact ⟨0, rfl, rfl, rfl, Lib.hid fun i s h => by omega⟩
  case round =>
    obtain ⟨j, rfl, hjg, rfl, HJ⟩ := hrel
    have p0 : (0 : Int) ≤ j := by omega
    by_cases hj3 : j < 3
    · obtain ⟨g', rfl⟩ : ∃ g', gk = g' + 1 := ⟨gk - 1, by omega⟩
      have j1 : (j : Int) < 3 := by omega
      obtain ⟨t, ht⟩ : ∃ t, [a, b, d][j]? = some t := ⟨[a, b, d][j]'(by simp; omega), List.getElem?_eq_getElem _⟩
      have ct := H1.out.2 j t ht
      obtain ⟨nt, hnt⟩ : ∃ n, t.size = n := ⟨_, rfl⟩
      have hnt2 : (nt : Int) ≤ 100 := by
        have hh := HSZ.out
        match j, ht with
        | 0, ht => cases ht; omega
        | 1, ht => cases ht; omega
        | 2, ht => cases ht; omega
        | j + 3, ht => simp at ht
      have HTT := Lib.hid (And.intro ht hnt)
      clear ht hj3
      go_wp2
      go_loopg [9] nt (fun g s9 wr => ∃ i : Nat, s9 = .int .i64 i ∧ i + g = nt ∧ w1 = wr ∧ Hid (∀ k b, k < i → t.data.toList[k]? = some b → letter b))
      case atStart => exact ⟨0, rfl, by omega, rfl, Lib.hid fun k b h => by omega⟩
      case round =>
        obtain ⟨i, rfl, hig, rfl, HI⟩ := hrel
        have p1 : (0 : Int) ≤ i := by omega
        by_cases hin : i < nt
        · obtain ⟨g2', rfl⟩ : ∃ g', gk = g' + 1 := ⟨gk - 1, by omega⟩
          have j2 : (i : Int) < nt := by omega
          have his : i < t.size := by have := HTT.out.2; omega
          obtain ⟨y, hy⟩ : ∃ y : UInt8, t[i]'his = y := ⟨_, rfl⟩
          have hyd := Lib.data_getElem? t i his
          rw [hy] at hyd
          have HY := Lib.hid hyd
          have hy256 := y.toNat_lt
          clear hyd hin
          have cs : (97 ≤ y.toNat ∧ y.toNat ≤ 122) ∨ (y.toNat < 97) ∨ (97 ≤ y.toNat ∧ 122 < y.toNat) := by omega
          rcases cs with cs | cs | cs
          · have k1 : ¬ ((y.toNat : Int) < 97) := by omega
            have k2 : ¬ ((y.toNat : Int) > 122) := by omega
            have HC := Lib.hid cs
            clear cs
            go_wp2
            go_roundg g2'
            case measure => omega
            case rel =>
              refine ⟨i + 1, rfl, by omega, rfl, Lib.hid fun k b hk hb => ?_⟩
              by_cases h : k = i
              · subst h
                rw [HY.out] at hb
                cases hb
                exact HC.out
              · exact HI.out k b (by omega) hb
          · have k1 : ((y.toNat : Int) < 97) := by omega
            clear cs
            go_wp2_with (go_at_call 9; fail)
            refine (AW.out _ H1.out.1).mono ?_
            rintro e w7 ⟨rfl, T7⟩
            have H7 := Lib.hid (H1.out.1.trans T7 fun _ _ f => f)
            clear T7
            go_wp2
            go_ret
            exact ⟨rfl, H7.out⟩
          · have k1 : ¬ ((y.toNat : Int) < 97) := by omega
            have k2 : ((y.toNat : Int) > 122) := by omega
            clear cs
            go_wp2_with (go_at_call 9; fail)
            refine (AW.out _ H1.out.1).mono ?_
            rintro e w7 ⟨rfl, T7⟩
            have H7 := Lib.hid (H1.out.1.trans T7 fun _ _ f => f)
            clear T7
            go_wp2
            go_ret
            exact ⟨rfl, H7.out⟩
        · obtain rfl : i = nt := by omega
          have j2 : ¬ ((i : Int) < i) := by omega
          clear hin
          go_wp2
          go_roundg g'
          case measure => omega
          case rel =>
            refine ⟨j + 1, rfl, by omega, rfl, Lib.hid fun k s hk hs => ?_⟩
            by_cases h : k = j
            · subst h
              rw [HTT.out.1] at hs
              cases hs
              intro b hb
              obtain ⟨m, hm⟩ := List.mem_iff_getElem?.1 hb
              refine HI.out m b ?_ hm
              have := (List.getElem?_eq_some_iff.1 hm).1
              have := HTT.out.2
              have e : t.data.toList.length = t.size := by simp
              omega
            · exact HJ.out k s (by omega) hs
    · obtain rfl : j = 3 := by omega
      have j1 : ¬ (((3 : Nat) : Int) < 3) := by omega
      have la : letters a.data.toList := HJ.out 0 a (by omega) rfl
      have lb : letters b.data.toList := HJ.out 1 b (by omega) rfl
      have ld : letters d.data.toList := HJ.out 2 d (by omega) rfl
      have HLL := Lib.hid (And.intro la (And.intro lb ld))
      clear la lb ld hj3
      have CL := Lib.hid (lawMake_ 1 0 (.inl rfl) false false ⟨#[]⟩ w1)
      unfold collV rcollV at CL
      have hsz := HSZ.out
      have hT1 : ∀ w', Ux.Touch (fun _ => False) w1 w' → Tabs w' := fun w' T => HT.out.touch (H1.out.1.trans T fun _ _ f => f)
      have CM1 : Hid (∀ w', Ux.Touch (fun _ => False) w1 w' → Calls Tryz.prog 11 #[.string (⟨#[37]⟩ ++ b ++ ⟨#[37]⟩), .string ⟨#[]⟩] w' fun e w'' => ∃ a n c, e = .returned (.tuple #[.agg #[.slice a n c], .int .i64 0]) ∧ Row w'' w'.heap.size 3 (.slice a n c) (iv (-1 :: (ints b.data.toList ++ [-1]))) ∧ Ux.Touch (fun _ => False) w' w'') := Lib.hid fun w' T => by
        have h := make0_ (⟨#[37]⟩ ++ b ++ ⟨#[37]⟩) w' (by rw [ByteArray.size_append, ByteArray.size_append]; show 1 + b.size + 1 ≤ _; omega) (hT1 w' T)
        have e : (⟨#[37]⟩ ++ b ++ ⟨#[37]⟩ : ByteArray).data.toList = 37 :: b.data.toList ++ [37] := by simp
        rw [e, ascii_signs (fun y hy => by
          rcases List.mem_append.1 hy with hy | hy
          · rcases List.mem_cons.1 hy with rfl | hy
            · exact .inr rfl
            · exact .inl (HLL.out.2.1 y hy)
          · exact .inr (by simpa using hy)), List.map_append, List.map_append, List.map_cons, List.map_cons, letters_elt HLL.out.2.1] at h
        exact h
      have CM2 : Hid (∀ w', Ux.Touch (fun _ => False) w1 w' → Calls Tryz.prog 11 #[.string (a ++ ⟨#[37]⟩ ++ d), .string ⟨#[]⟩] w' fun e w'' => ∃ a' n c, e = .returned (.tuple #[.agg #[.slice a' n c], .int .i64 0]) ∧ Row w'' w'.heap.size 3 (.slice a' n c) (iv (ints a.data.toList ++ -1 :: ints d.data.toList)) ∧ Ux.Touch (fun _ => False) w' w'') := Lib.hid fun w' T => by
        have h := make0_ (a ++ ⟨#[37]⟩ ++ d) w' (by rw [ByteArray.size_append, ByteArray.size_append]; show a.size + 1 + d.size ≤ _; omega) (hT1 w' T)
        have e : (a ++ ⟨#[37]⟩ ++ d : ByteArray).data.toList = a.data.toList ++ 37 :: d.data.toList := by simp
        rw [e, ascii_signs (fun y hy => by
          rcases List.mem_append.1 hy with hy | hy
          · exact .inl (HLL.out.1 y hy)
          · rcases List.mem_cons.1 hy with rfl | hy
            · exact .inr rfl
            · exact .inl (HLL.out.2.2 y hy)), List.map_append, List.map_append, List.map_cons, List.map_cons, letters_elt HLL.out.1, letters_elt HLL.out.2.2] at h
        exact h
      have CM3 : Hid (∀ w', Ux.Touch (fun _ => False) w1 w' → Calls Tryz.prog 11 #[.string (a ++ ⟨#[37]⟩), .string ⟨#[]⟩] w' fun e w'' => ∃ a' n c, e = .returned (.tuple #[.agg #[.slice a' n c], .int .i64 0]) ∧ Row w'' w'.heap.size 3 (.slice a' n c) (iv (ints a.data.toList ++ [-1])) ∧ Ux.Touch (fun _ => False) w' w'') := Lib.hid fun w' T => by
        have h := make0_ (a ++ ⟨#[37]⟩) w' (by rw [ByteArray.size_append]; show a.size + 1 ≤ _; omega) (hT1 w' T)
        have e : (a ++ ⟨#[37]⟩ : ByteArray).data.toList = a.data.toList ++ [37] := by simp
        rw [e, ascii_signs (fun y hy => by
          rcases List.mem_append.1 hy with hy | hy
          · exact .inl (HLL.out.1 y hy)
          · exact .inr (by simpa using hy)), List.map_append, List.map_append, letters_elt HLL.out.1] at h
        exact h
      clear hsz hT1
      go_wp2_with (go_at_call 10; fail)
      refine CL.out.mono ?_
      rintro e w2 ⟨rfl, T2⟩
      have H2 := Lib.hid T2
      clear T2
      obtain ⟨B1, hB1⟩ : ∃ B, w2.heap.size = B := ⟨_, rfl⟩
      go_wp2_with (go_at_call 11; fail)
      refine (CM1.out _ ((H2.out.alloc _).alloc _)).mono ?_
      rintro e w3 ⟨a1, m1, c1, rfl, hR1, T3⟩
      have hc3 : w3.heap[B1]? = some (.cells #[.int .i64 1, .int .i64 0, .bool false, .bool false, .pointer none] 25 (0, 0)) := by
        rw [← hB1]
        exact T3.heap (((Ux.Touch.refl (fun _ => False) _).alloc _).heap (heap_alloc_new w2 _) (fun f => f)) (fun f => f)
      have H3 := Lib.hid (And.intro (((H2.out.alloc _).alloc _).trans T3 fun _ _ f => f) (And.intro hc3 hR1))
      clear T3 hc3 hR1
      obtain ⟨B2, hB2⟩ : ∃ B, w3.heap.size = B := ⟨_, rfl⟩
      go_wp2_with (go_at_call 11; fail)
      refine (CM2.out _ (H3.out.1.alloc _)).mono ?_
      rintro e w4 ⟨a2, m2, c2, rfl, hR2, T4⟩
      have hp4 : w4.heap[B2]? = some (.cells #[.slice a1 m1 c1] 35 (0, 0)) := by rw [← hB2]; exact T4.heap (heap_alloc_new w3 _) (fun f => f)
      have TA4 : Ux.Touch (fun _ => False) w3 w4 := ((Ux.Touch.refl _ w3).alloc _).trans T4 fun _ _ f => f
      have H4 := Lib.hid (And.intro (H3.out.1.trans TA4 fun _ _ f => f) (And.intro (TA4.heap H3.out.2.1 (fun f => f)) (And.intro (H3.out.2.2.touch0 TA4) (And.intro hp4 hR2))))
      clear T4 TA4 hp4 hR2
      obtain ⟨B3, hB3⟩ : ∃ B, w4.heap.size = B := ⟨_, rfl⟩
      go_wp2_with (go_at_call 11; fail)
      refine (CM3.out _ (H4.out.1.alloc _)).mono ?_
      rintro e w5 ⟨a3, m3, c3, rfl, hR3, T5⟩
      have hp5 : w5.heap[B3]? = some (.cells #[.slice a2 m2 c2] 35 (0, 0)) := by rw [← hB3]; exact T5.heap (heap_alloc_new w4 _) (fun f => f)
      have TA5 : Ux.Touch (fun _ => False) w4 w5 := ((Ux.Touch.refl _ w4).alloc _).trans T5 fun _ _ f => f
      have H5 := Lib.hid (And.intro (H4.out.1.trans TA5 fun _ _ f => f) (And.intro (TA5.heap H4.out.2.1 (fun f => f)) (And.intro (H4.out.2.2.1.touch0 TA5) (And.intro (TA5.heap H4.out.2.2.2.1 (fun f => f)) (And.intro (H4.out.2.2.2.2.touch0 TA5) (And.intro hp5 hR3))))))
      clear T5 TA5 hp5 hR3
      obtain ⟨B4, hB4⟩ : ∃ B, w5.heap.size = B := ⟨_, rfl⟩
      obtain ⟨w6, hw6⟩ : ∃ w6, w5.alloc (.cells #[.slice a3 m3 c3] 35) = w6 := ⟨_, rfl⟩
      have TA6 : Ux.Touch (fun _ => False) w5 w6 := by rw [← hw6]; exact (Ux.Touch.refl _ w5).alloc _
      have hp6 : w6.heap[B4]? = some (.cells #[.slice a3 m3 c3] 35 (0, 0)) := by rw [← hB4, ← hw6]; exact heap_alloc_new w5 _
      -- what every later world shows
      have F6 : ∀ w', Ux.Touch (fun _ => False) w6 w' → (Ux.Touch (fun _ => False) w w' ∧ Row w' w2.heap.size 3 (.slice a1 m1 c1) (iv (-1 :: (ints b.data.toList ++ [-1]))) ∧ Row w' w2.heap.size 3 (.slice a2 m2 c2) (iv (ints a.data.toList ++ -1 :: ints d.data.toList)) ∧ Row w' w2.heap.size 3 (.slice a3 m3 c3) (iv (ints a.data.toList ++ [-1]))) ∧
          (w'.cell? ⟨B2, 0, none⟩ = some (.slice a1 m1 c1) ∧ w'.cell? ⟨B3, 0, none⟩ = some (.slice a2 m2 c2) ∧ w'.cell? ⟨B4, 0, none⟩ = some (.slice a3 m3 c3) ∧ w'.cell? ⟨B1, 0, none⟩ = some (.int .i64 1) ∧ w'.cell? ⟨B1, 1, none⟩ = some (.int .i64 0) ∧ w'.cell? ⟨B1, 2, none⟩ = some (.bool false) ∧ w'.cell? ⟨B1, 3, none⟩ = some (.bool false) ∧ w'.cell? ⟨B1, 4, none⟩ = some (.pointer none)) := fun w' T => by
        have TT := TA6.trans T fun _ _ f => f
        have s3 := H3.out.1.size
        have s4 := H4.out.1.size
        have b3 : w2.heap.size ≤ w3.heap.size := by have := Ux.lt_of_heap H3.out.2.1; omega
        have b4 : w2.heap.size ≤ w4.heap.size := by have := Ux.lt_of_heap H4.out.2.1; omega
        refine ⟨⟨H1.out.1.trans (H5.out.1.trans TT fun _ _ f => f) fun _ _ f => f, (H5.out.2.2.1.touch0 TT).mono (by simp only [World.size_alloc]; omega), (H5.out.2.2.2.2.1.touch0 TT).mono (by simp only [World.size_alloc]; omega), (H5.out.2.2.2.2.2.2.touch0 TT).mono (by simp only [World.size_alloc]; omega)⟩, ?_⟩
        have f1 := TT.heap H5.out.2.2.2.1 (fun f => f)
        have f2 := TT.heap H5.out.2.2.2.2.2.1 (fun f => f)
        have f3 := T.heap hp6 (fun f => f)
        have f4 := collCells (TT.heap H5.out.2.1 (fun f => f))
        exact ⟨by rw [cell_of_row w' B2 0 _ _ (0, 0) f1]; rfl, by rw [cell_of_row w' B3 0 _ _ (0, 0) f2]; rfl, by rw [cell_of_row w' B4 0 _ _ (0, 0) f3]; rfl, f4⟩
      have HF := Lib.hid F6
      clear F6 hp6 TA6
      go_wp2
      go_loopg [19, 21] (n3 + 1 - n2) (fun g s19 s21 wr => ∃ i : Nat, s19 = .bool (inUp b.data.toList d.data.toList i) ∧ s21 = .int .i64 i ∧ i + g = n3 + 1 - n2 ∧ w6 = wr)
      case atStart => exact ⟨0, rfl, rfl, by omega, rfl⟩
      case round =>
        obtain ⟨i, rfl, rfl, hig, rfl⟩ := hrel
        have p2 : (0 : Int) ≤ i := by omega
        by_cases hin : i < n3 + 1 - n2
        · obtain ⟨g', rfl⟩ : ∃ g', gk = g' + 1 := ⟨gk - 1, by omega⟩
          have j2 : (i : Int) + n2 ≤ n3 := by omega
          have hsucc := inUp_succ b.data.toList d.data.toList i
          cases hu : inUp b.data.toList d.data.toList i with
          | true =>
            rw [hu, Bool.true_or] at hsucc
            have HU := Lib.hid hsucc
            clear hsucc hin
            go_wp2
            go_roundg g'
            case measure => omega
            case rel => exact ⟨i + 1, by rw [HU.out], rfl, by omega, rfl⟩
          | false =>
            rw [hu, Bool.false_or] at hsucc
            have hx : ((d.extract i (i + n2)).toList == b.toList) = inUp b.data.toList d.data.toList (i + 1) := by
              rw [hsucc, Lib.toList_data, Lib.toList_data]
              have e : (d.extract i (i + n2)).data.toList = (d.data.toList.drop i).take b.data.toList.length := by
                have e2 : b.data.toList.length = n2 := by simp [e2]
                rw [e2]
                simp [List.take_drop, Nat.add_comm]
              rw [e]
            have HX := Lib.hid hx
            clear hsucc hx hin
            go_wp2
            go_roundg g'
            case measure => omega
            case rel => exact ⟨i + 1, by rw [← HX.out], rfl, by omega, rfl⟩
        · obtain rfl : i = n3 + 1 - n2 := by omega
          obtain ⟨N, hN⟩ : ∃ N, n3 + 1 - n2 = N := ⟨_, rfl⟩
          rw [hN]
          have j2 : ¬ ((N : Int) + n2 ≤ n3) := by omega
          have gN : (N : Int) ≤ 101 := by omega
          have gN0 : (0 : Int) ≤ N := by omega
          have hinn := stars_in b.data.toList d.data.toList N (fun i => by
            have x1 : b.data.toList.length = n2 := by simp [e2]
            have x2 : d.data.toList.length = n3 := by simp [e3]
            omega)
          obtain ⟨R, hR⟩ : ∃ R, inUp b.data.toList d.data.toList N = R := ⟨_, rfl⟩
          rw [hR] at hinn ⊢
          have hsz := HSZ.out
          have lx : letters (a ++ b ++ d).data.toList := by
            have e : (a ++ b ++ d).data.toList = a.data.toList ++ b.data.toList ++ d.data.toList := by simp
            rw [e]
            intro y hy
            rcases List.mem_append.1 hy with hy | hy
            · rcases List.mem_append.1 hy with hy | hy
              · exact HLL.out.1 y hy
              · exact HLL.out.2.1 y hy
            · exact HLL.out.2.2 y hy
          have ex : ints (a ++ b ++ d).data.toList = ints (a.data.toList ++ b.data.toList ++ d.data.toList) := by simp
          have CK : Hid (∀ (P : List Int) (pv : Value) (t : ByteArray) (w' : World), (∀ c ∈ P, -3 < c ∧ c < 1114368) → P.length ≤ 1000 → letters t.data.toList → t.size ≤ 1000 → Ux.Touch (fun _ => False) w w' → Row w' w2.heap.size 3 pv (iv P) →
              Calls Tryz.prog 13 #[.agg #[pv], .agg #[.int .i64 1, .int .i64 0, .bool false, .bool false, .pointer none], .string t] w' fun e w'' => e = .returned (.bool (mat same P (ints t.data.toList))) ∧ Ux.Touch (fun _ => False) w' w'') := Lib.hid fun P pv t w' hP hl ht hts T hR => by
            have h := matchK 1 (.inl rfl) P pv w2.heap.size t w' (by omega) (HT.out.touch T) hR (by omega) hP
            rw [letters_signs ht] at h
            have e : eqvK 1 = same := by
              funext a b
              unfold eqvK same
              rw [if_neg (by decide)]
            rw [e] at h
            exact h
          have ib : ∀ l : List UInt8, letters l → ∀ c ∈ ints l, -3 < c ∧ c < 1114368 := fun l hl c hc => by
            unfold ints at hc
            obtain ⟨y, hy, rfl⟩ := List.mem_map.1 hc
            have := y.toNat_lt
            omega
          have il : ∀ t : ByteArray, (ints t.data.toList).length = t.size := fun t => by unfold ints; simp
          have B1b : ∀ c ∈ -1 :: (ints b.data.toList ++ [-1]), -3 < c ∧ c < 1114368 := fun c hc => by
            rcases List.mem_cons.1 hc with rfl | hc
            · decide
            · rcases List.mem_append.1 hc with hc | hc
              · exact ib _ HLL.out.2.1 c hc
              · obtain rfl : c = -1 := by simpa using hc
                decide
          have B2b : ∀ c ∈ ints a.data.toList ++ -1 :: ints d.data.toList, -3 < c ∧ c < 1114368 := fun c hc => by
            rcases List.mem_append.1 hc with hc | hc
            · exact ib _ HLL.out.1 c hc
            · rcases List.mem_cons.1 hc with rfl | hc
              · decide
              · exact ib _ HLL.out.2.2 c hc
          have B3b : ∀ c ∈ ints a.data.toList ++ [-1], -3 < c ∧ c < 1114368 := fun c hc => by
            rcases List.mem_append.1 hc with hc | hc
            · exact ib _ HLL.out.1 c hc
            · obtain rfl : c = -1 := by simpa using hc
              decide
          have xs : (a ++ b ++ d).size ≤ 1000 := by rw [ByteArray.size_append, ByteArray.size_append]; omega
          have K1 : Hid (∀ w', Ux.Touch (fun _ => False) w6 w' → Calls Tryz.prog 13 #[.agg #[.slice a1 m1 c1], .agg #[.int .i64 1, .int .i64 0, .bool false, .bool false, .pointer none], .string (a ++ b ++ d)] w' fun e w'' => e = .returned (.bool true) ∧ Ux.Touch (fun _ => False) w' w'') := Lib.hid fun w' T => by
            have h := CK.out _ (.slice a1 m1 c1) (a ++ b ++ d) w' B1b (by simp [il]; omega) lx xs (HF.out w' T).1.1 (HF.out w' T).1.2.1
            rw [ex, stars_p] at h
            exact h
          have K2 : Hid (∀ w', Ux.Touch (fun _ => False) w6 w' → Calls Tryz.prog 13 #[.agg #[.slice a2 m2 c2], .agg #[.int .i64 1, .int .i64 0, .bool false, .bool false, .pointer none], .string (a ++ b ++ d)] w' fun e w'' => e = .returned (.bool true) ∧ Ux.Touch (fun _ => False) w' w'') := Lib.hid fun w' T => by
            have h := CK.out _ (.slice a2 m2 c2) (a ++ b ++ d) w' B2b (by simp [il]; omega) lx xs (HF.out w' T).1.1 (HF.out w' T).1.2.2.1
            rw [ex, stars_q] at h
            exact h
          have K3 : Hid (∀ w', Ux.Touch (fun _ => False) w6 w' → Calls Tryz.prog 13 #[.agg #[.slice a3 m3 c3], .agg #[.int .i64 1, .int .i64 0, .bool false, .bool false, .pointer none], .string (a ++ b ++ d)] w' fun e w'' => e = .returned (.bool true) ∧ Ux.Touch (fun _ => False) w' w'') := Lib.hid fun w' T => by
            have h := CK.out _ (.slice a3 m3 c3) (a ++ b ++ d) w' B3b (by simp [il]; omega) lx xs (HF.out w' T).1.1 (HF.out w' T).1.2.2.2
            rw [ex, List.append_assoc, stars_n] at h
            exact h
          have K4 : Hid (∀ w', Ux.Touch (fun _ => False) w6 w' → Calls Tryz.prog 13 #[.agg #[.slice a1 m1 c1], .agg #[.int .i64 1, .int .i64 0, .bool false, .bool false, .pointer none], .string d] w' fun e w'' => e = .returned (.bool R) ∧ Ux.Touch (fun _ => False) w' w'') := Lib.hid fun w' T => by
            have h := CK.out _ (.slice a1 m1 c1) d w' B1b (by simp [il]; omega) HLL.out.2.2 (by omega) (HF.out w' T).1.1 (HF.out w' T).1.2.1
            rw [hinn] at h
            exact h
          obtain ⟨k0, k1, k2, k3, k4, k5, k6, k7⟩ := (HF.out w6 (Ux.Touch.refl _ _)).2
          clear hsz lx ex CK ib il B1b B2b B3b xs hinn hR hin hN
          go_wp2_with (go_at_call 13; fail)
          refine (K1.out w6 (Ux.Touch.refl _ _)).mono ?_
          rintro e w7 ⟨rfl, T7⟩
          have S7 := Lib.hid T7
          clear T7 k0 k1 k2 k3 k4 k5 k6 k7
          obtain ⟨k0, k1, k2, k3, k4, k5, k6, k7⟩ := (HF.out w7 S7.out).2
          go_wp2_with (go_at_call 13; fail)
          refine (K2.out w7 S7.out).mono ?_
          rintro e w8 ⟨rfl, T8⟩
          have S8 := Lib.hid (S7.out.trans T8 fun _ _ f => f)
          clear T8 k0 k1 k2 k3 k4 k5 k6 k7
          obtain ⟨k0, k1, k2, k3, k4, k5, k6, k7⟩ := (HF.out w8 S8.out).2
          go_wp2_with (go_at_call 13; fail)
          refine (K3.out w8 S8.out).mono ?_
          rintro e w9 ⟨rfl, T9⟩
          have S9 := Lib.hid (S8.out.trans T9 fun _ _ f => f)
          clear T9 k0 k1 k2 k3 k4 k5 k6 k7
          obtain ⟨k0, k1, k2, k3, k4, k5, k6, k7⟩ := (HF.out w9 S9.out).2
          go_wp2_with (go_at_call 13; fail)
          refine (K4.out w9 S9.out).mono ?_
          rintro e w10 ⟨rfl, T10⟩
          have S10 := Lib.hid (S9.out.trans T10 fun _ _ f => f)
          clear T10 k0 k1 k2 k3 k4 k5 k6 k7
          cases R
          all_goals
            go_wp2_with (go_at_call 9; fail)
            refine (AW.out _ (HF.out w10 S10.out).1.1).mono ?_
            rintro e w11 ⟨rfl, T11⟩
            have S11 := Lib.hid ((HF.out w10 S10.out).1.1.trans T11 fun _ _ f => f)
            clear T11
            go_wp2
            go_ret
            exact ⟨rfl, S11.out⟩

theorem starsAll_ (a b d : ByteArray) (w : World) (hT : Tabs w) (h1 : a.size ≤ 140737488355328) (h2 : b.size ≤ 140737488355328) (h3 : d.size ≤ 140737488355328) :
    Calls Tryz.prog 5 #[.string a, .string b, .string d] w fun e w' => e = .returned (.bool true) ∧ Ux.Touch (fun _ => False) w w' := by
  by_cases h : a.size + b.size + d.size > 100
  · exact stars_big a b d w hT h1 h2 h3 h
  · exact stars_ a b d w hT (by omega)

end Go.Proofs.YtglamoompicciaaGreatDoor
