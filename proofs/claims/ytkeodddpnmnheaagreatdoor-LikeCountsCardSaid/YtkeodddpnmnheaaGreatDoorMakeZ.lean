/- PART OF THE PROOF THAT THIS CLAIM HOLDS OF THE GIVEN PROGRAM, FOR EVERY INPUT THAT THE STATEMENT NAMES. No condition besides the statement's own. -/
import Derived.Test.YtkeodddpnmnheaaGreatDoorUxValidZ
import Derived.Test.YtkeodddpnmnheaaGreatDoorUxLikAZ
import Derived.Test.YtkeodddpnmnheaaGreatDoorSignAZ
import Derived.Test.YtkeodddpnmnheaaGreatDoorRows
import Derived.WalkKit
import Derived.Handy
import Derived.Laws.EntriesVeiled
import Derived.WalkSpells
import Derived.WalkLawsBesides
import Derived.BigQuiet
import Derived.Deep.QuietTactic
import Derived.Deep.Cut
import Derived.Deep.DeepCutAuto
import Derived.Lib.Overlaps
import Derived.Laws.Externs
import Derived.Lib.Hide
import Derived.Test.YtkeodddpnmnheaaGreatDoorUxPlanAllZ
import Derived.Test.YtkeodddpnmnheaaGreatDoorUxMemAZ
import Derived.Test.YtkeodddpnmnheaaGreatDoorUxCollAZ
import Derived.Deep.LoopGhost
namespace Go.Proofs.YtkeodddpnmnheaaGreatDoor
open Go.RowKit
open Go.RowKit
open Ux (Row iv sv bv)
open Ux.Sign (signs)
open Ux.Like (pat elt)

theorem valid_ (s : ByteArray) (w : World) (hs : s.size ≤ 1000000000) (hT : Tabs w) : Calls Tryz.prog 60 #[.string s] w fun e w' => e = .returned (.bool ((signs s.data.toList).all fun c => decide (c < 1114112))) ∧ Ux.Touch (fun _ => False) w w' := by
  have c : Calls Tryz.prog 101 #[.string s] w fun e w' => e = .returned (.bool (Lib.validD s.data.toList)) ∧ Below w.heap.size w w' := Any.utf8_ValidString Tryz.laysValid s w (by omega) hT
  rw [Ux.Sign.valid_signs] at c
  obtain ⟨v, hv⟩ : ∃ v, ((signs s.data.toList).all fun c => decide (c < 1114112)) = v := ⟨_, rfl⟩
  rw [hv] at c ⊢
  have C := Lib.hid c
  clear c hv hT hs
  go_enter Tryz.func60, Tryz.ntmps60
  go_wp2_with (go_at_call 101; fail)
  refine C.out.mono ?_
  rintro e w1 ⟨rfl, hb⟩
  have HB := Lib.hid (Ux.Touch.of_below (R := fun _ => False) hb)
  clear hb
  go_wp2
  go_ret
  exact ⟨rfl, HB.out⟩

/-- the only sign of a text, if it may escape -/
def onlyS : List Nat → Option Nat
  | [c] => if c < 1114112 then some c else none
  | _ => none
def only (l : List UInt8) : Option Nat := onlyS (signs l)
def onlyV : Option Nat → Value
  | some c => .tuple #[.int .i64 (c : Int), .bool true]
  | none => .tuple #[.int .i64 0, .bool false]

set_option maxHeartbeats 2000000 in
set_option maxRecDepth 100000 in
theorem lsign_ (s : ByteArray) (w : World) (hs : s.size ≤ 1000000000) (hT : Tabs w) : Calls Tryz.prog 64 #[.string s] w fun e w' => e = .returned (onlyV (only s.data.toList)) ∧ Ux.Touch (fun _ => False) w w' := by
  have C := Lib.hid (signs_ s w hs hT)
  have V := Lib.hid fun w' (T : Ux.Touch (fun _ => False) w w') => valid_ s w' hs (hT.touch T)
  have hlen := signs_len s.data.toList
  have hlen2 : s.data.toList.length = s.size := by simp
  unfold only
  obtain ⟨l, hl⟩ : ∃ l, signs s.data.toList = l := ⟨_, rfl⟩
  rw [hl] at C V hlen ⊢
  obtain ⟨r, hr⟩ : ∃ r, onlyS l = r := ⟨_, rfl⟩
  rw [hr]
  have HRR := Lib.hid hr
  clear hT hl hr
  have hg : l.length ≤ 1000000000 := by omega
  clear hlen hlen2 hs
  go_enter Tryz.func64, Tryz.ntmps64
  go_wp2_with (go_at_call 65; fail)
  refine C.out.mono ?_
  rintro e w1 ⟨v, rfl, hR, T1⟩
  have HT1 := Lib.hid T1
  have V1 := Lib.hid (V.out w1 T1)
  obtain ⟨a, c, rfl, hcell⟩ := hR.is
  obtain ⟨n, hn⟩ : ∃ n, (iv (sv l)).length = n := ⟨_, rfl⟩
  rw [hn]
  have hnl : l.length = n := by rw [← hn, Ux.iv_length, Ux.sv_length]
  by_cases h1 : n = 1
  · obtain ⟨x, rfl⟩ : ∃ x, l = [x] := by
      match l, hnl with
      | [x], _ => exact ⟨x, rfl⟩
      | [], h => simp at h; omega
      | _ :: _ :: _, h => simp at h; omega
    obtain ⟨g, rfl, _, hc⟩ := hcell 0 _ (Ux.iv_get (Ux.sv_get (l := [x]) (i := 0) rfl))
    subst h1
    clear hn hnl hcell hR T1 V C hg
    have e1 : ([x].all fun c => decide (c < 1114112)) = decide (x < 1114112) := by simp
    rw [e1] at V1
    by_cases hx : x < 1114112
    · rw [decide_eq_true hx] at V1
      have HX := Lib.hid hx
      clear hx e1
      go_wp2_with (go_at_call 60; fail)
      refine V1.out.mono ?_
      rintro e w2 ⟨rfl, T2⟩
      have hc2 := T2.cell hc (fun f => f)
      have HT2 := Lib.hid (HT1.out.trans T2 fun _ _ f => f)
      clear hc T2
      go_wp2
      go_returns
      refine ⟨?_, HT2.out⟩
      have e : (if x < 1114112 then some x else none) = r := HRR.out
      rw [if_pos HX.out] at e
      rw [← e]
      rfl
    · rw [decide_eq_false hx] at V1
      have HX := Lib.hid hx
      clear hx e1 hc
      go_wp2_with (go_at_call 60; fail)
      refine V1.out.mono ?_
      rintro e w2 ⟨rfl, T2⟩
      have HT2 := Lib.hid (HT1.out.trans T2 fun _ _ f => f)
      clear T2
      go_wp2
      go_returns
      refine ⟨?_, HT2.out⟩
      have e : (if x < 1114112 then some x else none) = r := HRR.out
      rw [if_neg HX.out] at e
      rw [← e]
      rfl
  · have z1 : ((n : Int) == 1) = false := by simp; omega
    have e : r = none := by
      rw [← HRR.out]
      match l, hnl with
      | [x], h => simp at h; omega
      | [], _ => rfl
      | _ :: _ :: _, _ => rfl
    have HE := Lib.hid e
    clear e hn hnl hcell hR T1 V C hg V1
    go_wp2
    go_returns
    refine ⟨?_, HT1.out⟩
    rw [HE.out]
    rfl

/-- what Make hands back: the elements, or what is wrong -/
def MadeV (w : World) (lo : Nat) (r : Option (List Int)) (er : Int) (x : Value) : Prop := match r with
  | some P => ∃ v, x = .tuple #[.agg #[v], .int .i64 0] ∧ Row w lo 3 v (iv P)
  | none => ∃ v, x = .tuple #[.agg #[v], .int .i64 er] ∧ er ≠ 0

def MakeSays (w : World) (lo : Nat) (n : Nat) (oe : Option Nat) (r : Option (List Int)) (x : Value) : Prop := if n ≠ 0 ∧ oe = none then MadeV w lo none 1 x else MadeV w lo r 3 x
theorem eltI (c : Nat) : elt c = if (c : Int) = 37 then -1 else if (c : Int) = 95 then -2 else (c : Int) := by
  unfold elt
  split
  · rw [if_pos (show (c : Int) = 37 by omega)]
  · rw [if_neg (show ¬ (c : Int) = 37 by omega)]
    split
    · rw [if_pos (show (c : Int) = 95 by omega)]
    · rw [if_neg (show ¬ (c : Int) = 95 by omega)]

set_option maxHeartbeats 8000000 in
set_option maxRecDepth 100000 in
theorem make_ (p : ByteArray) (esc : ByteArray) (w : World) (hp : p.size ≤ 1000000) (hT : Tabs w) (he : esc.size ≤ 1000000) (oe : Option Nat) (hoe : only esc.data.toList = oe) (r : Option (List Int)) (hr : pat oe (signs p.data.toList) = r) :
    Calls Tryz.prog 37 #[.string p, .string esc] w fun e w' => ∃ x, e = .returned x ∧ MakeSays w' w.heap.size esc.size oe r x ∧ Ux.Touch (fun _ => False) w w' := by
  obtain ⟨B, hB⟩ : ∃ B, w.heap.size = B := ⟨_, rfl⟩
  have CE := Lib.hid fun w' (T : Ux.Touch (fun _ => False) w w') => lsign_ esc w' (by omega) (hT.touch T)
  have CS := Lib.hid fun w' (T : Ux.Touch (fun _ => False) w w') => signs_ p w' (by omega) (hT.touch T)
  rw [hoe] at CE
  obtain ⟨l, hl⟩ : ∃ l, signs p.data.toList = l := ⟨_, rfl⟩
  have hlen : l.length ≤ 1000000 := by rw [← hl]; have := signs_len p.data.toList; have e : p.data.toList.length = p.size := by simp
                                       omega
  rw [hl] at CS hr
  have HL := Lib.hid (And.intro hr hlen)
  have HB := Lib.hid hB
  have W0 := (Ux.Touch.refl (fun _ => False) w).alloc (.cells #[.slice none 0 0] 60)
  have h0 : (w.alloc (.cells #[.slice none 0 0] 60)).heap[B]? = some (.cells #[.slice none 0 0] 60 (0, 0)) := by rw [← hB]; exact heap_alloc_new w _
  have HW := Lib.hid (And.intro W0 h0)
  -- the sign that escapes
  have hov : ∃ (x : Int) (ok : Bool), onlyV oe = .tuple #[.int .i64 x, .bool ok] ∧ (ok = true → ∃ c : Nat, oe = some c ∧ x = c) ∧ (ok = false → oe = none) := by
    cases oe with
    | none => exact ⟨0, false, rfl, (fun h => by cases h), fun _ => rfl⟩
    | some c => exact ⟨c, true, rfl, fun _ => ⟨c, rfl, rfl⟩, (fun h => by cases h)⟩
  obtain ⟨x, ok, hov, hok1, hok2⟩ := hov
  rw [hov] at CE
  have HO := Lib.hid (And.intro hok1 hok2)
  obtain ⟨emp, hemp⟩ : ∃ emp, esc.toList.isEmpty = emp := ⟨_, rfl⟩
  have hempt : emp = true ↔ esc.size = 0 := by
    rw [← hemp, Lib.toList_data, List.isEmpty_iff]
    constructor
    · intro h; have := congrArg List.length h; simpa using this
    · intro h; exact List.eq_nil_of_length_eq_zero (by simpa using h)
  have HM := Lib.hid hempt
  clear hp hT he hr hl hov hok1 hok2 W0 h0 hlen hoe hempt
  go_enter Tryz.func37, Tryz.ntmps37
  go_wp2_with (go_at_call 64; fail)
  refine (CE.out _ HW.out.1).mono ?_
  rintro e w1 ⟨rfl, T1⟩
  have h1 := T1.heap HW.out.2 (fun f => f)
  have TW := HW.out.1.trans T1 fun _ _ f => f
  have H1 := Lib.hid (And.intro h1 TW)
  clear T1 h1 TW
  by_cases hno : esc.size ≠ 0 ∧ oe = none
  · have hf : emp = false := by
      rw [Bool.eq_false_iff]
      exact fun h => hno.1 (HM.out.1 h)
    have hk : ok = false := by
      cases hk : ok with
      | false => rfl
      | true => obtain ⟨c, h, _⟩ := HO.out.1 hk; rw [hno.2] at h; cases h
    subst hf hk
    have c0 : w1.cell? ⟨B, 0, none⟩ = some (.slice none 0 0) := by rw [cell_of_row w1 B 0 _ _ (0, 0) H1.out.1]; rfl
    have c1 := Ux.frozen_row H1.out.1 0
    have HN := Lib.hid hno
    clear hno
    go_wp2
    obtain ⟨wE, hwE⟩ : ∃ wE, World.setCell w1 ⟨B, 0, none⟩ (.slice none 0 0) = wE := ⟨_, rfl⟩
    rw [hwE]
    have cE : wE.cell? ⟨B, 0, none⟩ = some (.slice none 0 0) := by rw [← hwE, cell_of_row _ B 0 _ _ (0, 0) (Ux.setCell_row H1.out.1 0 _)]; rfl
    have HE := Lib.hid hwE
    clear hwE
    refine bodyPost_ret (by simp [results, Tryz.results37, go_sem, cE]; try rfl) rfl ?_
    refine ⟨_, rfl, ?_, by rw [← HE.out]; exact (H1.out.2).setCell (p := ⟨B, 0, none⟩) (fun h => by simp only at h; have := HB.out; omega) _⟩
    unfold MakeSays
    rw [if_pos HN.out]
    exact ⟨_, rfl, by decide⟩
  · have hno2 : emp = true ∨ emp = false ∧ ok = true := by
      cases hemp2 : emp with
      | true => exact .inl rfl
      | false =>
        refine .inr ⟨rfl, ?_⟩
        cases hk : ok with
        | true => rfl
        | false => exact absurd (And.intro (fun h => by have := HM.out.2 h; rw [hemp2] at this; cases this) (HO.out.2 hk)) hno
    have HN := Lib.hid hno
    clear hno
    have HIF : ∀ w' lo r x, MakeSays w' lo esc.size oe r x = MadeV w' lo r 3 x := fun _ _ _ _ => if_neg HN.out
    have HIFF := Lib.hid HIF
    clear HIF
    rcases hno2 with rfl | ⟨rfl, hK⟩
    all_goals
      go_wp2_with (go_at_call 65; fail)
      refine (CS.out _ H1.out.2).mono ?_
      rintro e w2 ⟨sv2, rfl, hR2, T2⟩
      obtain ⟨al, cl, rfl, _⟩ := hR2.is
      obtain ⟨n, hn⟩ : ∃ n, l.length = n := ⟨_, rfl⟩
      rw [Ux.iv_length, Ux.sv_length, hn] at hR2 ⊢
      have g1 : (n : Int) ≤ 1000000 := by have := HL.out.2; omega
      have h2 := T2.heap H1.out.1 (fun f => f)
      have H2 := Lib.hid (And.intro hR2 (And.intro h2 (And.intro (H1.out.2.trans T2 fun _ _ f => f) hn)))
      clear hR2 h2 T2 hn
      go_wp2
      go_loopg [8, 10] n (fun g s8 s10 wr => ∃ (i : Nat) (acc : List Int), s10 = .int .i64 i ∧ i ≤ n ∧ n ≤ i + g ∧ Hid (((pat oe (l.drop i)).map (acc ++ ·)) = r ∧ Ux.Grow wr w2.heap.size 3 s8 (iv acc) ∧ Ux.Touch (fun _ => False) w2 wr ∧ acc.length ≤ i))
      case atStart =>
        exact ⟨0, [], rfl, by omega, by omega, Lib.hid ⟨by rw [List.drop_zero, HL.out.1]; cases r <;> rfl, Ux.Grow.nil _ _ _, Ux.Touch.refl _ _, Nat.le_refl _⟩⟩
      case round =>
        obtain ⟨i, acc, rfl, hin, hig, HI⟩ := hrel
        have p0 : (0 : Int) ≤ i := by omega
        have hbw := HI.out.2.2.1.heap H2.out.2.1 (fun f => f)
        by_cases hlt : i < n
        · obtain ⟨g', rfl⟩ : ∃ g', gk = g' + 1 := ⟨gk - 1, by omega⟩
          have j1 : (i : Int) < n := by omega
          obtain ⟨d, hd⟩ : ∃ d, l[i]? = some d := ⟨l[i]'(by have := H2.out.2.2.2; omega), List.getElem?_eq_getElem _⟩
          obtain ⟨gl, rfl, hglo, cl0⟩ := H2.out.1.at (Ux.iv_get (Ux.sv_get hd))
          have hRR := HI.out.1
          rw [Ux.drop_get hd, Ux.Like.pat_cons] at hRR
          have cl1 : wr.cell? ⟨gl, i, none⟩ = some (.int .i64 (d : Int)) := HI.out.2.2.1.cell cl0 (fun f => f)
          by_cases hesc : oe = some d
          · have hok : ok = true ∧ x = d := by
              cases hk : ok with
              | false => have := HO.out.2 hk; rw [hesc] at this; cases this
              | true => obtain ⟨c, h, hx⟩ := HO.out.1 hk; rw [hesc] at h; cases h; exact ⟨rfl, hx⟩
            obtain ⟨hok, rfl⟩ := hok
            try subst hok
            rw [if_pos hesc] at hRR
            clear hesc
            by_cases hend : i + 1 = n
            · have z1 : ((i : Int) + 1 == n) = true := by simp; omega
              have hnil : l.drop (i + 1) = [] := List.drop_eq_nil_of_le (by have := H2.out.2.2.2; omega)
              rw [hnil] at hRR
              have HRR := Lib.hid (And.intro (show none = r from hRR) hbw)
              have c0 : wr.cell? ⟨B, 0, none⟩ = some (.slice none 0 0) := by rw [cell_of_row wr B 0 _ _ (0, 0) (hbw)]; rfl
              have c1 := Ux.frozen_row (hbw) 0
              clear hRR hnil hd cl0 hbw
              go_wp2
              obtain ⟨wE, hwE⟩ : ∃ wE, World.setCell wr ⟨B, 0, none⟩ (.slice none 0 0) = wE := ⟨_, rfl⟩
              rw [hwE]
              have cE : wE.cell? ⟨B, 0, none⟩ = some (.slice none 0 0) := by rw [← hwE, cell_of_row _ B 0 _ _ (0, 0) (Ux.setCell_row HRR.out.2 0 _)]; rfl
              have HE := Lib.hid hwE
              clear hwE
              refine bodyPost_ret (by simp [results, Tryz.results37, go_sem, cE]; try rfl) rfl ?_
              refine ⟨_, rfl, ?_, by rw [← HE.out]; exact (H2.out.2.2.1.trans HI.out.2.2.1 fun _ _ f => f).setCell (p := ⟨B, 0, none⟩) (fun h => by simp only at h; have := HB.out; omega) _⟩
              rw [HIFF.out, ← HRR.out.1]
              exact ⟨_, rfl, by decide⟩
            · have z1 : ((i : Int) + 1 == n) = false := by simp; omega
              have hlt2 : i + 1 < n := by omega
              have j2 : (i : Int) + 1 < n := by omega
              obtain ⟨d2, hd2⟩ : ∃ d, l[i + 1]? = some d := ⟨l[i + 1]'(by have := H2.out.2.2.2; omega), List.getElem?_eq_getElem _⟩
              obtain ⟨gl2, hgl2, _, cl2⟩ := H2.out.1.at (Ux.iv_get (Ux.sv_get hd2))
              cases hgl2
              have cl3 : wr.cell? ⟨gl, i + 1, none⟩ = some (.int .i64 (d2 : Int)) := HI.out.2.2.1.cell cl2 (fun f => f)
              rw [Ux.drop_get hd2] at hRR
              have HRR := Lib.hid hRR
              clear hRR hd cl0 hbw cl2 hd2
              obtain ⟨r2, w3, run2, hG2, t2⟩ := appI HI.out.2.1 1 [.int .i64 (d2 : Int)] rfl (by simp [Value.oneCell']) HI.out.2.2.1.size (by have := HI.out.2.2.2; have := HL.out.2; have := H2.out.2.2.2; rw [Ux.iv_length]; omega)
              obtain ⟨a2, m2, c2, rfl, hm2⟩ := hG2.is
              have R2 := Lib.hid run2
              have HG2 := Lib.hid (And.intro hG2 (Ux.Touch.own HI.out.2.2.1 (Nat.le_refl _) t2))
              obtain ⟨a, m, c, rfl, hm⟩ := HI.out.2.1.is
              clear run2 hG2 t2 hm2 hm
              go_wp2_with (at_builtin; refine Ux.wpList_app (v1 := .slice a m c) (x1 := .slice (some ⟨wr.heap.size, 0, none⟩) 1 1) rfl _ _ _ _ rfl rfl rfl (R2.out _) ?_)
              go_roundg g'
              case measure => omega
              case rel => exact ⟨i + 1 + 1, acc ++ [(d2 : Int)], rfl, by omega, by omega, Lib.hid ⟨by rw [← HRR.out]; cases pat oe (l.drop (i + 1 + 1)) <;> simp, by rw [Ux.iv_append]; exact HG2.out.1, HG2.out.2, by rw [List.length_append]; have := HI.out.2.2.2; simp; omega⟩⟩
          · rw [if_neg hesc] at hRR
            have HRR := Lib.hid hRR
            have hne : ok = false ∨ ok = true ∧ ((d : Int) == x) = false := by
              cases hk : ok with
              | false => exact .inl rfl
              | true =>
                obtain ⟨c, h, hx⟩ := HO.out.1 hk
                refine .inr ⟨rfl, ?_⟩
                rw [hx]
                simp
                intro e
                exact hesc (by rw [h]; exact congrArg some (by omega))
            clear hRR hd cl0 hbw hesc
            by_cases h37 : (d : Int) = 37
            · have hel : elt d = -1 := by rw [eltI, if_pos h37]
              have HEL := Lib.hid hel
              have z37 : ((d : Int) == 37) = true := by simpa using h37
              clear hel h37
              rcases hne with hne | ⟨hne, hne2⟩
              all_goals (try subst hne)
              all_goals (try (cases hK; done))
              all_goals
                obtain ⟨r2, w3, run2, hG2, t2⟩ := appI HI.out.2.1 1 [.int .i64 (-1)] rfl (by simp [Value.oneCell']) HI.out.2.2.1.size (by have := HI.out.2.2.2; have := HL.out.2; have := H2.out.2.2.2; rw [Ux.iv_length]; omega)
                obtain ⟨a2, m2, c2, rfl, hm2⟩ := hG2.is
                have R2 := Lib.hid run2
                have HG2 := Lib.hid (And.intro hG2 (Ux.Touch.own HI.out.2.2.1 (Nat.le_refl _) t2))
                obtain ⟨a, m, c, rfl, hm⟩ := HI.out.2.1.is
                clear run2 hG2 t2 hm2 hm
                go_wp2_with (at_builtin; refine Ux.wpList_app (v1 := .slice a m c) (x1 := .slice (some ⟨wr.heap.size, 0, none⟩) 1 1) rfl _ _ _ _ rfl rfl rfl (R2.out _) ?_)
                go_roundg g'
                case measure => omega
                case rel => exact ⟨i + 1, acc ++ [(-1)], rfl, by omega, by omega, Lib.hid ⟨by rw [← HRR.out]; rw [HEL.out]; cases pat oe (l.drop (i + 1)) <;> simp, by rw [Ux.iv_append]; exact HG2.out.1, HG2.out.2, by rw [List.length_append]; have := HI.out.2.2.2; simp; omega⟩⟩
            · have z37 : ((d : Int) == 37) = false := by simpa using h37
              by_cases h95 : (d : Int) = 95
              · have hel : elt d = -2 := by rw [eltI, if_neg h37, if_pos h95]
                have HEL := Lib.hid hel
                have z95 : ((d : Int) == 95) = true := by simpa using h95
                clear hel h37 h95
                rcases hne with hne | ⟨hne, hne2⟩
                all_goals (try subst hne)
                all_goals (try (cases hK; done))
                all_goals
                  obtain ⟨r2, w3, run2, hG2, t2⟩ := appI HI.out.2.1 1 [.int .i64 (-2)] rfl (by simp [Value.oneCell']) HI.out.2.2.1.size (by have := HI.out.2.2.2; have := HL.out.2; have := H2.out.2.2.2; rw [Ux.iv_length]; omega)
                  obtain ⟨a2, m2, c2, rfl, hm2⟩ := hG2.is
                  have R2 := Lib.hid run2
                  have HG2 := Lib.hid (And.intro hG2 (Ux.Touch.own HI.out.2.2.1 (Nat.le_refl _) t2))
                  obtain ⟨a, m, c, rfl, hm⟩ := HI.out.2.1.is
                  clear run2 hG2 t2 hm2 hm
                  go_wp2_with (at_builtin; refine Ux.wpList_app (v1 := .slice a m c) (x1 := .slice (some ⟨wr.heap.size, 0, none⟩) 1 1) rfl _ _ _ _ rfl rfl rfl (R2.out _) ?_)
                  go_roundg g'
                  case measure => omega
                  case rel => exact ⟨i + 1, acc ++ [(-2)], rfl, by omega, by omega, Lib.hid ⟨by rw [← HRR.out]; rw [HEL.out]; cases pat oe (l.drop (i + 1)) <;> simp, by rw [Ux.iv_append]; exact HG2.out.1, HG2.out.2, by rw [List.length_append]; have := HI.out.2.2.2; simp; omega⟩⟩
              · have hel : elt d = (d : Int) := by rw [eltI, if_neg h37, if_neg h95]
                have HEL := Lib.hid hel
                have z95 : ((d : Int) == 95) = false := by simpa using h95
                clear hel h37 h95
                rcases hne with hne | ⟨hne, hne2⟩
                all_goals (try subst hne)
                all_goals (try (cases hK; done))
                all_goals
                  obtain ⟨r2, w3, run2, hG2, t2⟩ := appI HI.out.2.1 1 [.int .i64 (d : Int)] rfl (by simp [Value.oneCell']) HI.out.2.2.1.size (by have := HI.out.2.2.2; have := HL.out.2; have := H2.out.2.2.2; rw [Ux.iv_length]; omega)
                  obtain ⟨a2, m2, c2, rfl, hm2⟩ := hG2.is
                  have R2 := Lib.hid run2
                  have HG2 := Lib.hid (And.intro hG2 (Ux.Touch.own HI.out.2.2.1 (Nat.le_refl _) t2))
                  obtain ⟨a, m, c, rfl, hm⟩ := HI.out.2.1.is
                  clear run2 hG2 t2 hm2 hm
                  go_wp2_with (at_builtin; refine Ux.wpList_app (v1 := .slice a m c) (x1 := .slice (some ⟨wr.heap.size, 0, none⟩) 1 1) rfl _ _ _ _ rfl rfl rfl (R2.out _) ?_)
                  go_roundg g'
                  case measure => omega
                  case rel => exact ⟨i + 1, acc ++ [(d : Int)], rfl, by omega, by omega, Lib.hid ⟨by rw [← HRR.out]; rw [HEL.out]; cases pat oe (l.drop (i + 1)) <;> simp, by rw [Ux.iv_append]; exact HG2.out.1, HG2.out.2, by rw [List.length_append]; have := HI.out.2.2.2; simp; omega⟩⟩
        · obtain rfl : i = n := by omega
          have j1 : ¬ (i : Int) < i := by omega
          have hRR := HI.out.1
          have hnil : l.drop i = [] := List.drop_eq_nil_of_le (by have := H2.out.2.2.2; omega)
          rw [hnil] at hRR
          have hrow := HI.out.2.1.row
          have HRR := Lib.hid (And.intro (show some (acc ++ []) = r from hRR) (And.intro hbw hrow))
          obtain ⟨a, m, c, rfl, hm⟩ := HI.out.2.1.is
          have c0 : wr.cell? ⟨B, 0, none⟩ = some (.slice none 0 0) := by rw [cell_of_row wr B 0 _ _ (0, 0) (hbw)]; rfl
          have c1 := Ux.frozen_row (hbw) 0
          clear hRR hnil hbw hrow hm
          go_wp2
          obtain ⟨wE, hwE⟩ : ∃ wE, World.setCell wr ⟨B, 0, none⟩ (.slice a m c) = wE := ⟨_, rfl⟩
          rw [hwE]
          have cE : wE.cell? ⟨B, 0, none⟩ = some (.slice a m c) := by rw [← hwE, cell_of_row _ B 0 _ _ (0, 0) (Ux.setCell_row HRR.out.2.1 0 _)]; rfl
          have HE := Lib.hid hwE
          clear hwE
          refine bodyPost_ret (by simp [results, Tryz.results37, go_sem, cE]; try rfl) rfl ?_
          refine ⟨_, rfl, ?_, by rw [← HE.out]; exact (H2.out.2.2.1.trans HI.out.2.2.1 fun _ _ f => f).setCell (p := ⟨B, 0, none⟩) (fun h => by simp only at h; have := HB.out; omega) _⟩
          rw [HIFF.out, ← HRR.out.1]
          refine ⟨_, rfl, ?_⟩
          rw [List.append_nil, ← HE.out]
          have hB2 := Ux.lt_of_heap H2.out.2.1
          exact (HRR.out.2.2.touch (Ux.Touch.setCell (R := fun b => b = B) (Ux.Touch.refl _ _) (p := ⟨B, 0, none⟩) (fun _ => rfl) _) (fun b hb _ he => by omega)).mono (by have := H2.out.2.2.1.size; omega)

end Go.Proofs.YtkeodddpnmnheaaGreatDoor
