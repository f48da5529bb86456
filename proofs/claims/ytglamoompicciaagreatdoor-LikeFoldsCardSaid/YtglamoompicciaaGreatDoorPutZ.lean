/- PART OF THE PROOF THAT THIS CLAIM HOLDS OF THE GIVEN PROGRAM, FOR EVERY INPUT THAT THE STATEMENT NAMES. No condition besides the statement's own. -/
import Derived.Test.YtglamoompicciaaGreatDoorUxFoldZ
import Derived.Test.YtglamoompicciaaGreatDoorSignZ
import Derived.Test.YtglamoompicciaaGreatDoorRows
import Derived.WalkKit
import Derived.Handy
import Derived.Laws.EntriesVeiled
import Derived.WalkSpells
import Derived.WalkLawsBesides
import Derived.BigQuiet
import Derived.Deep.QuietTactic
import Derived.Deep.Cut
import Derived.Deep.DeepCutAuto
import Derived.Lib.Overlaps
import Derived.Laws.Externs
import Derived.Lib.Hide
import Derived.Test.YtglamoompicciaaGreatDoorUxPlanAllZ
import Derived.Test.YtglamoompicciaaGreatDoorUxTreeAllZ
import Derived.Deep.LoopGhost
namespace Go.Proofs.YtglamoompicciaaGreatDoor
open Go.RowKit
open Go.RowKit
open Ux (Row iv sv bv)
open Ux.Sign (enc encN put)
theorem infoB : (Tryz.prog.info? 5).map (fun i => (i.zero, i.size, i.bytes)) = some (some (.int .u8 0), 1, 1) := by kernel_rfl
/-- append of bytes that were just built -/
theorem appB {w : World} {lo : Nat} {v : Value} {xs : List Value} (h : Ux.Grow w lo 5 v xs) (m : Nat) (ys : List Value) (hl : ys.length = m) (h1 : ∀ u ∈ ys, u.oneCell' = true) (hlo : lo ≤ w.heap.size) (hb : xs.length + m ≤ 140737488355328) :
    ∃ r w', (∀ ty, (Builtin.append_ #[84, 84] ty #[v, .slice (some ⟨w.heap.size, 0, none⟩) m m]).run Tryz.prog (w.alloc (.cells ys.toArray 5)) = .ok r w') ∧ Ux.Grow w' lo 5 r (xs ++ ys) ∧ Ux.Touch (fun b => lo ≤ b ∧ v.ownBlock = some b) w w' :=
  h.app 84 1 (.int .u8 0) Tryz.underlying84 infoB rfl m ys hl h1 hlo (by simp only [maxLen]; omega) (by omega)
theorem enc_len (c : Nat) : (enc c).length ≤ 4 := by
  unfold enc encN
  rw [List.length_map]
  repeat' split
  all_goals simp
theorem enc_a (c : Nat) (hc : 1114112 ≤ c) (h2 : c < 1114368) : bv (enc c) = [.int .u8 ((c : Int) % 256)] := by
  have e : encN c = [c - 1114112] := by unfold encN; rw [if_pos (by omega)]
  unfold enc bv
  rw [e]
  simp only [List.map_cons, List.map_nil]
  repeat rw [Ux.Sign.toNat_of (by omega)]
  all_goals (simp only [List.cons.injEq, Value.int.injEq, true_and, and_true]; omega)
set_option maxHeartbeats 4000000 in
set_option maxRecDepth 100000 in
theorem put_a (c : Nat) (hc : 1114112 ≤ c) (h2 : c < 1114368) (v : Value) (xs : List UInt8) (lo : Nat) (w : World) (hG : Ux.Grow w lo 5 v (bv xs)) (hlo : lo ≤ w.heap.size) (hx : xs.length ≤ 100000000000) :
    Calls Tryz.prog 64 #[v, .int .i64 (c : Int)] w fun e w' => ∃ r, e = .returned r ∧ Ux.Grow w' lo 5 r (bv (xs ++ enc c)) ∧ Ux.Touch (fun b => lo ≤ b ∧ v.ownBlock = some b) w w' := by
  obtain ⟨r2, w3, run2, hG2, t2⟩ := appB hG 1 [.int .u8 ((c : Int) % 256)] rfl (by simp [Value.oneCell']) hlo (by rw [Ux.bv_length]; omega)
  rw [← enc_a c hc h2, ← Ux.bv_append] at hG2
  obtain ⟨a, m, k, rfl, _⟩ := hG.is
  obtain ⟨a2, m2, k2, rfl, _⟩ := hG2.is
  have R2 := Lib.hid run2
  have HG := Lib.hid (And.intro hG2 t2)
  have j0 : ((c : Int) ≥ 1114112) := by omega
  clear run2 hG2 t2 hG hx hlo
  go_enter Tryz.func64, Tryz.ntmps64
  go_wp2_with (at_builtin; refine Ux.wpList_app (v1 := .slice a m k) (x1 := .slice (some ⟨w.heap.size, 0, none⟩) 1 1) rfl _ _ _ _ rfl rfl rfl (R2.out _) ?_)
  go_ret
  exact ⟨_, rfl, HG.out⟩
theorem enc_b (c : Nat) (hc : c < 128) (h2 : c < 1114368) : bv (enc c) = [.int .u8 ((c : Int))] := by
  have e : encN c = [c] := by unfold encN; rw [if_neg (by omega), if_pos (by omega)]
  unfold enc bv
  rw [e]
  simp only [List.map_cons, List.map_nil]
  repeat rw [Ux.Sign.toNat_of (by omega)]
  all_goals (simp only [List.cons.injEq, Value.int.injEq, true_and, and_true]; omega)
set_option maxHeartbeats 4000000 in
set_option maxRecDepth 100000 in
theorem put_b (c : Nat) (hc : c < 128) (h2 : c < 1114368) (v : Value) (xs : List UInt8) (lo : Nat) (w : World) (hG : Ux.Grow w lo 5 v (bv xs)) (hlo : lo ≤ w.heap.size) (hx : xs.length ≤ 100000000000) :
    Calls Tryz.prog 64 #[v, .int .i64 (c : Int)] w fun e w' => ∃ r, e = .returned r ∧ Ux.Grow w' lo 5 r (bv (xs ++ enc c)) ∧ Ux.Touch (fun b => lo ≤ b ∧ v.ownBlock = some b) w w' := by
  obtain ⟨r2, w3, run2, hG2, t2⟩ := appB hG 1 [.int .u8 ((c : Int))] rfl (by simp [Value.oneCell']) hlo (by rw [Ux.bv_length]; omega)
  rw [← enc_b c hc h2, ← Ux.bv_append] at hG2
  obtain ⟨a, m, k, rfl, _⟩ := hG.is
  obtain ⟨a2, m2, k2, rfl, _⟩ := hG2.is
  have R2 := Lib.hid run2
  have HG := Lib.hid (And.intro hG2 t2)
  have j0 : ¬ ((c : Int) ≥ 1114112) := by omega
  have j1 : (c : Int) < 128 := by omega
  clear run2 hG2 t2 hG hx hlo
  go_enter Tryz.func64, Tryz.ntmps64
  go_wp2_with (at_builtin; refine Ux.wpList_app (v1 := .slice a m k) (x1 := .slice (some ⟨w.heap.size, 0, none⟩) 1 1) rfl _ _ _ _ rfl rfl rfl (R2.out _) ?_)
  go_ret
  exact ⟨_, rfl, HG.out⟩
theorem enc_c (c : Nat) (hc : 128 ≤ c ∧ c < 2048) (h2 : c < 1114368) : bv (enc c) = [.int .u8 (192 + (c : Int) / 64), .int .u8 (128 + (c : Int) % 64)] := by
  have e : encN c = [192 + c / 64, 128 + c % 64] := by unfold encN; rw [if_neg (by omega), if_neg (by omega), if_pos (by omega)]
  unfold enc bv
  rw [e]
  simp only [List.map_cons, List.map_nil]
  repeat rw [Ux.Sign.toNat_of (by omega)]
  all_goals (simp only [List.cons.injEq, Value.int.injEq, true_and, and_true]; omega)
set_option maxHeartbeats 4000000 in
set_option maxRecDepth 100000 in
theorem put_c (c : Nat) (hc : 128 ≤ c ∧ c < 2048) (h2 : c < 1114368) (v : Value) (xs : List UInt8) (lo : Nat) (w : World) (hG : Ux.Grow w lo 5 v (bv xs)) (hlo : lo ≤ w.heap.size) (hx : xs.length ≤ 100000000000) :
    Calls Tryz.prog 64 #[v, .int .i64 (c : Int)] w fun e w' => ∃ r, e = .returned r ∧ Ux.Grow w' lo 5 r (bv (xs ++ enc c)) ∧ Ux.Touch (fun b => lo ≤ b ∧ v.ownBlock = some b) w w' := by
  obtain ⟨r2, w3, run2, hG2, t2⟩ := appB hG 2 [.int .u8 (192 + (c : Int) / 64), .int .u8 (128 + (c : Int) % 64)] rfl (by simp [Value.oneCell']) hlo (by rw [Ux.bv_length]; omega)
  rw [← enc_c c hc h2, ← Ux.bv_append] at hG2
  obtain ⟨a, m, k, rfl, _⟩ := hG.is
  obtain ⟨a2, m2, k2, rfl, _⟩ := hG2.is
  have R2 := Lib.hid run2
  have HG := Lib.hid (And.intro hG2 t2)
  have j0 : ¬ ((c : Int) ≥ 1114112) := by omega
  have j1 : ¬ ((c : Int) < 128) := by omega
  have j2 : (c : Int) < 2048 := by omega
  clear run2 hG2 t2 hG hx hlo
  go_enter Tryz.func64, Tryz.ntmps64
  go_wp2_with (at_builtin; refine Ux.wpList_app (v1 := .slice a m k) (x1 := .slice (some ⟨w.heap.size, 0, none⟩) 2 2) rfl _ _ _ _ rfl rfl rfl (R2.out _) ?_)
  go_ret
  exact ⟨_, rfl, HG.out⟩
theorem enc_d (c : Nat) (hc : 2048 ≤ c ∧ c < 65536) (h2 : c < 1114368) : bv (enc c) = [.int .u8 (224 + (c : Int) / 4096), .int .u8 (128 + (c : Int) / 64 % 64), .int .u8 (128 + (c : Int) % 64)] := by
  have e : encN c = [224 + c / 4096, 128 + c / 64 % 64, 128 + c % 64] := by unfold encN; rw [if_neg (by omega), if_neg (by omega), if_neg (by omega), if_pos (by omega)]
  unfold enc bv
  rw [e]
  simp only [List.map_cons, List.map_nil]
  repeat rw [Ux.Sign.toNat_of (by omega)]
  all_goals (simp only [List.cons.injEq, Value.int.injEq, true_and, and_true]; omega)
set_option maxHeartbeats 4000000 in
set_option maxRecDepth 100000 in
theorem put_d (c : Nat) (hc : 2048 ≤ c ∧ c < 65536) (h2 : c < 1114368) (v : Value) (xs : List UInt8) (lo : Nat) (w : World) (hG : Ux.Grow w lo 5 v (bv xs)) (hlo : lo ≤ w.heap.size) (hx : xs.length ≤ 100000000000) :
    Calls Tryz.prog 64 #[v, .int .i64 (c : Int)] w fun e w' => ∃ r, e = .returned r ∧ Ux.Grow w' lo 5 r (bv (xs ++ enc c)) ∧ Ux.Touch (fun b => lo ≤ b ∧ v.ownBlock = some b) w w' := by
  obtain ⟨r2, w3, run2, hG2, t2⟩ := appB hG 3 [.int .u8 (224 + (c : Int) / 4096), .int .u8 (128 + (c : Int) / 64 % 64), .int .u8 (128 + (c : Int) % 64)] rfl (by simp [Value.oneCell']) hlo (by rw [Ux.bv_length]; omega)
  rw [← enc_d c hc h2, ← Ux.bv_append] at hG2
  obtain ⟨a, m, k, rfl, _⟩ := hG.is
  obtain ⟨a2, m2, k2, rfl, _⟩ := hG2.is
  have R2 := Lib.hid run2
  have HG := Lib.hid (And.intro hG2 t2)
  have j0 : ¬ ((c : Int) ≥ 1114112) := by omega
  have j1 : ¬ ((c : Int) < 128) := by omega
  have j2 : ¬ ((c : Int) < 2048) := by omega
  have j3 : (c : Int) < 65536 := by omega
  clear run2 hG2 t2 hG hx hlo
  go_enter Tryz.func64, Tryz.ntmps64
  go_wp2_with (at_builtin; refine Ux.wpList_app (v1 := .slice a m k) (x1 := .slice (some ⟨w.heap.size, 0, none⟩) 3 3) rfl _ _ _ _ rfl rfl rfl (R2.out _) ?_)
  go_ret
  exact ⟨_, rfl, HG.out⟩
theorem enc_e (c : Nat) (hc : 65536 ≤ c ∧ c < 1114112) (h2 : c < 1114368) : bv (enc c) = [.int .u8 (240 + (c : Int) / 262144), .int .u8 (128 + (c : Int) / 4096 % 64), .int .u8 (128 + (c : Int) / 64 % 64), .int .u8 (128 + (c : Int) % 64)] := by
  have e : encN c = [240 + c / 262144, 128 + c / 4096 % 64, 128 + c / 64 % 64, 128 + c % 64] := by unfold encN; rw [if_neg (by omega), if_neg (by omega), if_neg (by omega), if_neg (by omega)]
  unfold enc bv
  rw [e]
  simp only [List.map_cons, List.map_nil]
  repeat rw [Ux.Sign.toNat_of (by omega)]
  all_goals (simp only [List.cons.injEq, Value.int.injEq, true_and, and_true]; omega)
set_option maxHeartbeats 4000000 in
set_option maxRecDepth 100000 in
theorem put_e (c : Nat) (hc : 65536 ≤ c ∧ c < 1114112) (h2 : c < 1114368) (v : Value) (xs : List UInt8) (lo : Nat) (w : World) (hG : Ux.Grow w lo 5 v (bv xs)) (hlo : lo ≤ w.heap.size) (hx : xs.length ≤ 100000000000) :
    Calls Tryz.prog 64 #[v, .int .i64 (c : Int)] w fun e w' => ∃ r, e = .returned r ∧ Ux.Grow w' lo 5 r (bv (xs ++ enc c)) ∧ Ux.Touch (fun b => lo ≤ b ∧ v.ownBlock = some b) w w' := by
  obtain ⟨r2, w3, run2, hG2, t2⟩ := appB hG 4 [.int .u8 (240 + (c : Int) / 262144), .int .u8 (128 + (c : Int) / 4096 % 64), .int .u8 (128 + (c : Int) / 64 % 64), .int .u8 (128 + (c : Int) % 64)] rfl (by simp [Value.oneCell']) hlo (by rw [Ux.bv_length]; omega)
  rw [← enc_e c hc h2, ← Ux.bv_append] at hG2
  obtain ⟨a, m, k, rfl, _⟩ := hG.is
  obtain ⟨a2, m2, k2, rfl, _⟩ := hG2.is
  have R2 := Lib.hid run2
  have HG := Lib.hid (And.intro hG2 t2)
  have j0 : ¬ ((c : Int) ≥ 1114112) := by omega
  have j1 : ¬ ((c : Int) < 128) := by omega
  have j2 : ¬ ((c : Int) < 2048) := by omega
  have j3 : ¬ ((c : Int) < 65536) := by omega
  clear run2 hG2 t2 hG hx hlo
  go_enter Tryz.func64, Tryz.ntmps64
  go_wp2_with (at_builtin; refine Ux.wpList_app (v1 := .slice a m k) (x1 := .slice (some ⟨w.heap.size, 0, none⟩) 4 4) rfl _ _ _ _ rfl rfl rfl (R2.out _) ?_)
  go_ret
  exact ⟨_, rfl, HG.out⟩
theorem put_ (c : Nat) (h2 : c < 1114368) (v : Value) (xs : List UInt8) (lo : Nat) (w : World) (hG : Ux.Grow w lo 5 v (bv xs)) (hlo : lo ≤ w.heap.size) (hx : xs.length ≤ 100000000000) :
    Calls Tryz.prog 64 #[v, .int .i64 (c : Int)] w fun e w' => ∃ r, e = .returned r ∧ Ux.Grow w' lo 5 r (bv (xs ++ enc c)) ∧ Ux.Touch (fun b => lo ≤ b ∧ v.ownBlock = some b) w w' := by
  by_cases a : 1114112 ≤ c
  · exact put_a c a h2 v xs lo w hG hlo hx
  by_cases b : c < 128
  · exact put_b c b h2 v xs lo w hG hlo hx
  by_cases d : c < 2048
  · exact put_c c ⟨by omega, d⟩ h2 v xs lo w hG hlo hx
  by_cases f : c < 65536
  · exact put_d c ⟨by omega, f⟩ h2 v xs lo w hG hlo hx
  · exact put_e c ⟨by omega, by omega⟩ h2 v xs lo w hG hlo hx

/-- a row of bytes made a text -/
theorem convB {w : World} {lo : Nat} {v : Value} {xs : List UInt8} (h : Row w lo 5 v (bv xs)) : (convert 84 9 v).run Tryz.prog w = .ok (.string ⟨xs.toArray⟩) w := by
  rcases h with ⟨rfl, h0⟩ | ⟨g, c, cur, rfl, _, hh, _, _, ht⟩
  · have : xs = [] := List.eq_nil_of_length_eq_zero (by have := congrArg List.length h0; simpa [bv] using this)
    subst this
    have := run_convert_bytes_string (P := Tryz.prog) w 84 9 5 none 0 0 Tryz.underlying84 Tryz.underlying5 Tryz.underlying9
    rw [this]
    rfl
  · rw [Ux.bv_length]
    refine run_convert_bytes_back (P := Tryz.prog) w 84 9 5 ⟨g, 0, none⟩ c xs Tryz.underlying84 Tryz.underlying5 Tryz.underlying9 fun j hj => ?_
    have e : (⟨g, 0, none⟩ : Addr).add j = ⟨g, j, none⟩ := by rw [Addr.add_mid]; simp
    rw [e]
    exact Ux.row_cell (xs := bv xs) hh ht j _ (by unfold bv; rw [List.getElem?_map, List.getElem?_eq_getElem hj]; rfl)

set_option maxHeartbeats 2000000 in
set_option maxRecDepth 100000 in
/-- signs' bytes, one behind the other: of a row of signs -/
theorem putAll_ (v : Value) (l : List Nat) (lo : Nat) (w : World) (hR : Row w lo 3 v (iv (sv l))) (hl : ∀ c ∈ l, c < 1114368) (hn : l.length ≤ 1000000000) :
    Calls Tryz.prog 36 #[v] w fun e w' => e = .returned (.string ⟨(put l).toArray⟩) ∧ Ux.Touch (fun _ => False) w w' := by
  obtain ⟨a, c, rfl, hcell⟩ := hR.is
  obtain ⟨n, hnn⟩ : ∃ n, (iv (sv l)).length = n := ⟨_, rfl⟩
  rw [hnn]
  have hnl : l.length = n := by rw [← hnn, Ux.iv_length, Ux.sv_length]
  have HH := Lib.hid (And.intro hnl (And.intro hl (And.intro hcell hn)))
  have g0 : (n : Int) ≤ 1000000000 := by omega
  clear hnl hl hcell hR hnn hn
  go_enter Tryz.func36, Tryz.ntmps36
  go_wp2
  go_loopg [3, 8] n (fun g s3 s8 wr => ∃ i : Nat, s8 = .int .i64 i ∧ i + g = n ∧ Hid (Ux.Grow wr w.heap.size 5 s3 (bv (put (l.take i))) ∧ Ux.Touch (fun _ => False) w wr))
  case atStart =>
    exact ⟨0, rfl, by omega, Lib.hid ⟨Ux.Grow.nil _ _ _, Ux.Touch.refl _ _⟩⟩
  case round =>
    obtain ⟨i, rfl, hig, HI⟩ := hrel
    have p0 : (0 : Int) ≤ i := by omega
    by_cases hlt : i < n
    · obtain ⟨g', rfl⟩ : ∃ g', gk = g' + 1 := ⟨gk - 1, by omega⟩
      have j1 : (i : Int) < n := by omega
      have hil : i < l.length := by have := HH.out.1; omega
      obtain ⟨x, hx⟩ : ∃ x, l[i]? = some x := ⟨l[i], List.getElem?_eq_getElem hil⟩
      obtain ⟨g0', rfl, hg0, hc0⟩ := HH.out.2.2.1 i _ (Ux.iv_get (Ux.sv_get hx))
      have hlen : (put (l.take i)).length ≤ 4 * i := by
        have : ∀ l : List Nat, (put l).length ≤ 4 * l.length := fun l => by
          induction l with
          | nil => simp [put]
          | cons d l ih => rw [Ux.Sign.put_cons, List.length_append, List.length_cons]; have := enc_len d; omega
        refine Nat.le_trans (this _) ?_
        rw [List.length_take]
        omega
      have CP := Lib.hid (put_ x (HH.out.2.1 x (List.mem_of_getElem? hx)) _ (put (l.take i)) w.heap.size wr HI.out.1 HI.out.2.size (by have := HH.out.2.2.2; have := HH.out.1; omega))
      have hc1 := HI.out.2.cell hc0 (fun f => f)
      have htk : put (l.take (i + 1)) = put (l.take i) ++ enc x := by
        rw [List.take_add_one, hx]
        simp [put]
      have HT := Lib.hid htk
      obtain ⟨a3, m3, c3, rfl, _⟩ := HI.out.1.is
      clear hc0 hlen hx htk hlt
      go_wp2_with (go_at_call 64; fail)
      refine CP.out.mono ?_
      rintro e w2 ⟨r, rfl, hG, ht⟩
      have HG := Lib.hid (And.intro hG (Ux.Touch.own HI.out.2 (Nat.le_refl _) ht))
      clear hG ht
      go_wp2
      go_roundg g'
      case measure => omega
      case rel => exact ⟨i + 1, rfl, by omega, Lib.hid ⟨by rw [HT.out]; exact HG.out.1, HG.out.2⟩⟩
    · obtain rfl : i = n := by omega
      have q1 : ¬ (i : Int) < i := by omega
      have hfull : l.take i = l := List.take_of_length_le (by have := HH.out.1; omega)
      have hcv := convB HI.out.1.row
      rw [hfull] at hcv
      have HC := Lib.hid hcv
      obtain ⟨a3, m3, c3, rfl, _⟩ := HI.out.1.is
      clear hfull hcv hlt
      go_wp2_with (fail)
      rw [HC.out]
      go_wp2
      go_ret
      exact ⟨rfl, HI.out.2⟩

end Go.Proofs.YtglamoompicciaaGreatDoor
