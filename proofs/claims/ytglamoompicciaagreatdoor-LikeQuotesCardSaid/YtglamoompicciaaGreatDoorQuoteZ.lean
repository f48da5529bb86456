/- PART OF THE PROOF THAT THIS CLAIM HOLDS OF THE GIVEN PROGRAM, FOR EVERY INPUT THAT THE STATEMENT NAMES. No condition besides the statement's own. -/
import Derived.Test.YtglamoompicciaaGreatDoorBuildZ
import Derived.Test.YtglamoompicciaaGreatDoorMakeZ
import Derived.Test.YtglamoompicciaaGreatDoorRows
import Derived.WalkKit
import Derived.Handy
import Derived.Laws.EntriesVeiled
import Derived.WalkSpells
import Derived.WalkLawsBesides
import Derived.BigQuiet
import Derived.Deep.QuietTactic
import Derived.Deep.Cut
import Derived.Deep.DeepCutAuto
import Derived.Lib.Overlaps
import Derived.Laws.Externs
import Derived.Lib.Hide
import Derived.Test.YtglamoompicciaaGreatDoorUxPlanAllZ
import Derived.Test.YtglamoompicciaaGreatDoorUxTreeAllZ
import Derived.Deep.LoopGhost
namespace Go.Proofs.YtglamoompicciaaGreatDoor
open Go.RowKit
open Go.RowKit
open Ux (Row iv sv bv BAt)
open Ux.Sign (enc put signs quote)
open Ux.Like (special)

theorem put1_ (c : Nat) (hc : c < 1114368) (w : World) : Calls Tryz.prog 36 #[.slice (some ⟨w.heap.size, 0, none⟩) 1 1] (w.alloc (.cells #[.int .i64 (c : Int)] 3)) fun e w' => e = .returned (.string ⟨(enc c).toArray⟩) ∧ Ux.Touch (fun _ => False) (w.alloc (.cells #[.int .i64 (c : Int)] 3)) w' := by
  have h := putAll_ (.slice (some ⟨w.heap.size, 0, none⟩) 1 1) [c] w.heap.size (w.alloc (.cells #[.int .i64 (c : Int)] 3)) (.inr ⟨w.heap.size, 1, _, rfl, Nat.le_refl _, heap_alloc_new w _, Nat.le_refl _, Nat.le_refl _, rfl⟩) (fun d hd => by simp at hd; omega) (by simp)
  have e : put [c] = enc c := by simp [put]
  rw [e] at h
  exact h

/-- what a sign becomes in a quoted text -/
def q1 (e c : Nat) : List UInt8 := (if special e c = true then enc e else []) ++ enc c
theorem quote_snoc (e : Nat) (l : List Nat) (c : Nat) : put (quote (special e) e (l ++ [c])) = put (quote (special e) e l) ++ q1 e c := by
  unfold quote q1
  rw [List.flatMap_append]
  unfold put
  rw [List.flatMap_append]
  congr 1
  simp only [List.flatMap_cons, List.flatMap_nil, List.append_nil]
  split
  · rename_i h; simp
  · simp
theorem quote_len (e : Nat) (l : List Nat) : (put (quote (special e) e l)).length ≤ 8 * l.length := by
  induction l with
  | nil => simp [quote, put]
  | cons c l ih =>
    rw [Ux.Sign.quote_cons]
    have h1 := enc_len e
    have h2 := enc_len c
    split
    · rw [Ux.Sign.put_cons, Ux.Sign.put_cons, List.length_append, List.length_append, List.length_cons]; omega
    · rw [Ux.Sign.put_cons, List.length_append, List.length_cons]; omega

def quoteV (l : List Nat) : Option Nat → Value
  | some c => .tuple #[.string ⟨(put (quote (special c) c l)).toArray⟩, .int .i64 0]
  | none => .tuple #[.string ⟨#[]⟩, .int .i64 1]
set_option maxHeartbeats 8000000 in
set_option maxRecDepth 100000 in
theorem quote_ (s : ByteArray) (esc : ByteArray) (w : World) (hs : s.size ≤ 1000000) (he : esc.size ≤ 1000000) (hT : Tabs w) (oe : Option Nat) (hoe : only esc.data.toList = oe) :
    Calls Tryz.prog 19 #[.string s, .string esc] w fun e w' => e = .returned (quoteV (signs s.data.toList) oe) ∧ Ux.Touch (fun _ => False) w w' := by
  have CE := Lib.hid (lsign_ esc w (by omega) hT)
  have CS := Lib.hid fun w' (T : Ux.Touch (fun _ => False) w w') => signs_ s w' (by omega) (hT.touch T)
  rw [hoe] at CE
  cases oe with
  | none =>
    clear CS hs he hT hoe
    unfold onlyV at CE
    go_enter Tryz.func19, Tryz.ntmps19
    go_wp2_with (go_at_call 28; fail)
    refine CE.out.mono ?_
    rintro e w1 ⟨rfl, T1⟩
    have H1 := Lib.hid T1
    clear T1
    go_wp2
    go_returns
    exact ⟨rfl, H1.out⟩
  | some x =>
    have hesc : esc.data.toList = enc x := by
      have h := Ux.Sign.put_signs esc.data.toList
      unfold only at hoe
      obtain ⟨l, hl⟩ : ∃ l, signs esc.data.toList = l := ⟨_, rfl⟩
      rw [hl] at hoe h
      match l, hoe with
      | [c], h' =>
        have h2 : (if c < 1114112 then some c else none) = some x := h'
        split at h2
        · cases h2; rw [← h]; simp [put]
        · cases h2
      | [], h' => cases h'
      | _ :: _ :: _, h' => cases h'
    obtain ⟨l, hl⟩ : ∃ l, signs s.data.toList = l := ⟨_, rfl⟩
    have hlen : l.length ≤ 1000000 := by rw [← hl]; have := signs_len s.data.toList; have e : s.data.toList.length = s.size := by simp
                                         omega
    have hlt : ∀ c ∈ l, c < 1114368 := by rw [← hl]; exact signs_lt _
    rw [hl] at CS
    have HL := Lib.hid (And.intro hlen (And.intro hlt (And.intro hesc he)))
    rw [hl]
    unfold quoteV
    clear hs he hT hoe hl hlen hlt hesc
    unfold onlyV at CE
    go_enter Tryz.func19, Tryz.ntmps19
    go_wp2_with (go_at_call 28; fail)
    refine CE.out.mono ?_
    rintro e w1 ⟨rfl, T1⟩
    have H1 := Lib.hid T1
    clear T1
    go_wp2_with (go_at_call 29; fail)
    refine (CS.out _ (H1.out.alloc _)).mono ?_
    rintro e w2 ⟨sv2, rfl, hR2, T2⟩
    obtain ⟨B, hB⟩ : ∃ B, w1.heap.size = B := ⟨_, rfl⟩
    have hb1 : (w1.alloc (.cells #[.pointer none, .slice none 0 0] 86)).heap[B]? = some (.cells #[.pointer none, .slice none 0 0] 86 (0, 0)) := by rw [← hB]; exact heap_alloc_new w1 _
    have hb2 := T2.heap hb1 (fun f => f)
    obtain ⟨al, cl, rfl, _⟩ := hR2.is
    obtain ⟨n, hn⟩ : ∃ n, l.length = n := ⟨_, rfl⟩
    rw [Ux.iv_length, Ux.sv_length, hn] at hR2 ⊢
    have hBW : w.heap.size ≤ B := by rw [← hB]; exact H1.out.size
    have hlo2 : B + 1 ≤ w2.heap.size := Ux.lt_of_heap hb2
    have H2 := Lib.hid (And.intro hR2 (And.intro hb2 (And.intro ((H1.out.alloc _).trans T2 fun _ _ f => f) (And.intro hn (And.intro hBW (And.intro hlo2 (by rw [World.size_alloc, hB] : (w1.alloc (.cells #[.pointer none, .slice none 0 0] 86)).heap.size = B + 1)))))))
    have g0 : (n : Int) ≤ 1000000 := by have := HL.out.1; omega
    clear hR2 hb1 hb2 T2 hn hBW hlo2 CS
    rw [hB]
    go_wp2
    go_loopg [21] n (fun g s21 wr => ∃ i : Nat, s21 = .int .i64 i ∧ i + g = n ∧ Hid (BAt 86 5 wr B w2.heap.size (put (quote (special x) x (l.take i))) ∧ Ux.Touch (fun k => k = B) w2 wr))
    case atStart =>
      exact ⟨0, rfl, by omega, Lib.hid ⟨⟨by have := H2.out.2.2.2.2.2.1; omega, _, _, H2.out.2.1, .inl rfl, Ux.Grow.nil _ _ _⟩, Ux.Touch.refl _ _⟩⟩
    case round =>
      obtain ⟨i, rfl, hig, HI⟩ := hrel
      have p0 : (0 : Int) ≤ i := by omega
      by_cases hlt : i < n
      · obtain ⟨g', rfl⟩ : ∃ g', gk = g' + 1 := ⟨gk - 1, by omega⟩
        have j1 : (i : Int) < n := by omega
        obtain ⟨c, hc⟩ : ∃ c, l[i]? = some c := ⟨l[i]'(by have := H2.out.2.2.2.1; omega), List.getElem?_eq_getElem _⟩
        obtain ⟨gl, rfl, hgl, cl0⟩ := H2.out.1.at (Ux.iv_get (Ux.sv_get hc))
        have cl1 : wr.cell? ⟨gl, i, none⟩ = some (.int .i64 (c : Int)) := HI.out.2.cell cl0 (fun h => by have := H2.out.2.2.2.2.2.2; simp only at h; omega)
        have hq := quote_snoc x (l.take i) c
        have htk : l.take (i + 1) = l.take i ++ [c] := by rw [List.take_add_one, hc]; rfl
        rw [← htk] at hq
        have hll : (put (quote (special x) x (l.take i))).length ≤ 8000000 := by
          have := quote_len x (l.take i)
          rw [List.length_take] at this
          have := HL.out.1
          omega
        have HQ := Lib.hid (And.intro hq hll)
        have CP := Lib.hid (put1_ c (HL.out.2.1 c (List.mem_of_getElem? hc)))
        clear hc cl0 hq htk hll hlt
        have cases4 : (special x c = true ∧ (((c : Int) == 37) = true ∨ ((c : Int) == 37) = false ∧ ((c : Int) == 95) = true ∨ ((c : Int) == 37) = false ∧ ((c : Int) == 95) = false ∧ ((c : Int) == x) = true)) ∨ (special x c = false ∧ ((c : Int) == 37) = false ∧ ((c : Int) == 95) = false ∧ ((c : Int) == x) = false) := by
          unfold special
          by_cases a : c = 37
          · exact .inl ⟨by simp [a], .inl (by simp [a])⟩
          have a' : ((c : Int) == 37) = false := by simp; omega
          by_cases b : c = 95
          · exact .inl ⟨by simp [b], .inr (.inl ⟨a', by simp [b]⟩)⟩
          have b' : ((c : Int) == 95) = false := by simp; omega
          by_cases d : c = x
          · exact .inl ⟨by simp [d], .inr (.inr ⟨a', b', by simp [d]⟩)⟩
          · exact .inr ⟨by simp [a, b, d], a', b', by simp; omega⟩
        rcases cases4 with ⟨hsp, hsp2⟩ | ⟨hsp, z1, z2, z3⟩
        · have hqq : q1 x c = enc x ++ enc c := by unfold q1; rw [if_pos hsp]
          have HQQ := Lib.hid hqq
          clear hsp hqq
          rcases hsp2 with z1 | ⟨z1, z2⟩ | ⟨z1, z2, z3⟩
          all_goals
            go_wp2_with (go_at_call 39; fail)
            refine (writeStr_ wr B w2.heap.size _ esc HI.out.1 HI.out.2.size (by have := HQ.out.2; have := HL.out.2.2.2; omega)).mono ?_
            rintro e w4 ⟨rfl, hb4, T4⟩
            have T24 := HI.out.2.trans (T4.mono (R' := fun k => k = B ∨ w2.heap.size ≤ k) fun _ _ h => h) (R' := fun k => k = B ∨ w2.heap.size ≤ k) (fun k hk h => by omega)
            have H4 := Lib.hid (And.intro hb4 T24)
            clear hb4 T4 T24
            go_wp2_with (go_at_call 36; fail)
            refine (CP.out _).mono ?_
            rintro e w5 ⟨rfl, T5⟩
            have T45 : Ux.Touch (fun _ => False) w4 w5 := ((Ux.Touch.refl _ w4).alloc _).trans T5 fun _ _ f => f
            have H5 := Lib.hid (And.intro (H4.out.1.touch T45 fun _ _ f => f) (H4.out.2.trans T45 fun _ _ f => f.elim))
            clear T5 T45
            go_wp2_with (go_at_call 39; fail)
            refine (writeStr_ w5 B w2.heap.size _ ⟨(enc c).toArray⟩ H5.out.1 H5.out.2.size (by have := HQ.out.2; have := enc_len c; have := enc_len x; rw [List.length_append, HL.out.2.2.1]; show _ + (enc c).toArray.size ≤ _; simp; omega)).mono ?_
            rintro e w6 ⟨rfl, hb6, T6⟩
            have T26 := H5.out.2.trans (T6.mono (R' := fun k => k = B ∨ w2.heap.size ≤ k) fun _ _ h => h) (R' := fun k => k = B ∨ w2.heap.size ≤ k) (fun k hk h => by omega)
            have H6 := Lib.hid (And.intro hb6 T26)
            clear hb6 T6 T26
            go_wp2
            go_roundg g'
            case measure => omega
            case rel =>
              refine ⟨i + 1, rfl, by omega, Lib.hid ⟨?_, H6.out.2⟩⟩
              rw [HQ.out.1, HQQ.out, ← HL.out.2.2.1, ← List.append_assoc]
              exact H6.out.1
        · have hqq : q1 x c = enc c := by unfold q1; rw [if_neg (by rw [hsp]; decide)]; rfl
          have HQQ := Lib.hid hqq
          clear hsp hqq
          go_wp2_with (go_at_call 36; fail)
          refine (CP.out _).mono ?_
          rintro e w5 ⟨rfl, T5⟩
          have T45 : Ux.Touch (fun _ => False) wr w5 := ((Ux.Touch.refl _ wr).alloc _).trans T5 fun _ _ f => f
          have H5 := Lib.hid (And.intro (HI.out.1.touch T45 fun _ _ f => f) (HI.out.2.trans T45 fun _ _ f => f.elim))
          clear T5 T45
          go_wp2_with (go_at_call 39; fail)
          refine (writeStr_ w5 B w2.heap.size _ ⟨(enc c).toArray⟩ H5.out.1 H5.out.2.size (by have := HQ.out.2; have := enc_len c; show _ + (enc c).toArray.size ≤ _; simp; omega)).mono ?_
          rintro e w6 ⟨rfl, hb6, T6⟩
          have T26 := H5.out.2.trans (T6.mono (R' := fun k => k = B ∨ w2.heap.size ≤ k) fun _ _ h => h) (R' := fun k => k = B ∨ w2.heap.size ≤ k) (fun k hk h => by omega)
          have H6 := Lib.hid (And.intro hb6 T26)
          clear hb6 T6 T26
          go_wp2
          go_roundg g'
          case measure => omega
          case rel =>
            refine ⟨i + 1, rfl, by omega, Lib.hid ⟨?_, H6.out.2⟩⟩
            rw [HQ.out.1, HQQ.out]
            exact H6.out.1
      · obtain rfl : i = n := by omega
        have j1 : ¬ (i : Int) < i := by omega
        have hb := HI.out.1
        rw [List.take_of_length_le (by have := H2.out.2.2.2.1; omega)] at hb
        have CB := Lib.hid (Tryz.Builder_String_any B B _ wr hb.is (by have := H2.out.2.2.2.2.2.1; have := HI.out.2.size; omega))
        clear hb hlt
        go_wp2_with (go_at_call 40; fail)
        refine CB.out.mono ?_
        rintro e w7 ⟨rfl, hb7⟩
        have H7 := Lib.hid hb7
        clear hb7
        go_wp2
        go_returns
        refine ⟨rfl, ?_⟩
        have hb7 := H7.out
        have T02 := H2.out.2.2.1
        have hBW := H2.out.2.2.2.2.1
        have TA : Ux.Touch (fun _ => False) w wr := T02.trans HI.out.2 fun k hk h => by omega
        exact TA.trans (Ux.Touch.of_belowB hb7) fun k hk h => by omega

end Go.Proofs.YtglamoompicciaaGreatDoor
