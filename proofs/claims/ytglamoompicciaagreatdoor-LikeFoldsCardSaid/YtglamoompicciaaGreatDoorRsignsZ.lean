/- PART OF THE PROOF THAT THIS CLAIM HOLDS OF THE GIVEN PROGRAM, FOR EVERY INPUT THAT THE STATEMENT NAMES. No condition besides the statement's own. -/
import Derived.Test.YtglamoompicciaaGreatDoorRsignZ
import Derived.Test.YtglamoompicciaaGreatDoorRows
import Derived.WalkKit
import Derived.Handy
import Derived.Laws.EntriesVeiled
import Derived.WalkSpells
import Derived.WalkLawsBesides
import Derived.BigQuiet
import Derived.Deep.QuietTactic
import Derived.Deep.Cut
import Derived.Deep.DeepCutAuto
import Derived.Lib.Overlaps
import Derived.Laws.Externs
import Derived.Lib.Hide
import Derived.Test.YtglamoompicciaaGreatDoorUxPlanAllZ
import Derived.Test.YtglamoompicciaaGreatDoorUxTreeAllZ
import Derived.Deep.LoopGhost
namespace Go.Proofs.YtglamoompicciaaGreatDoor
open Go.RowKit
open Go.RowKit
open Ux (Row iv sv bv)
open Ux.Sign (sg signs signs_cons)

set_option maxHeartbeats 2000000 in
set_option maxRecDepth 100000 in
theorem rsigns_ (s : ByteArray) (w : World) (hs : s.size ≤ 1000000000) :
    Calls Tryz.prog 14 #[.string s] w fun e w' => ∃ v, e = .returned v ∧ Row w' w.heap.size 3 v (iv (sv (signs s.data.toList))) ∧ Ux.Touch (fun _ => False) w w' := by
  obtain ⟨n, hn⟩ : ∃ n, s.size = n := ⟨_, rfl⟩
  obtain ⟨l, hl⟩ : ∃ l, s.data.toList = l := ⟨_, rfl⟩
  rw [hl]
  have HH := Lib.hid (And.intro hn (And.intro hl hs))
  clear hn hl hs
  go_enter Tryz.func14, Tryz.ntmps14
  go_wp2
  go_loopg [0, 3] n (fun g s0 s3 wr => ∃ (t : ByteArray) (acc : List Nat), s0 = .string t ∧ t.size ≤ g ∧ Hid (acc ++ signs t.data.toList = signs l ∧ acc.length + t.size ≤ n ∧ Ux.Grow wr w.heap.size 3 s3 (iv (sv acc)) ∧ Ux.Touch (fun _ => False) w wr))
  case atStart =>
    exact ⟨s, [], rfl, by have := HH.out.1; omega, Lib.hid ⟨by rw [HH.out.2.1]; rfl, by have := HH.out.1; simp; omega, Ux.Grow.nil _ _ _, Ux.Touch.refl _ _⟩⟩
  case round =>
    obtain ⟨t, acc, rfl, htg, HI⟩ := hrel
    by_cases h0 : t.size = 0
    · have z0 : t.toList.isEmpty = true := by
        have : t.data.toList = [] := List.eq_nil_of_length_eq_zero (by simpa using h0)
        rw [Lib.toList_data, this]; rfl
      go_wp2
      go_ret
      refine ⟨_, rfl, ?_, HI.out.2.2.2⟩
      have e : signs t.data.toList = [] := by
        have : t.data.toList = [] := List.eq_nil_of_length_eq_zero (by simpa using h0)
        rw [this]; unfold signs; rfl
      have e2 := HI.out.1
      rw [e, List.append_nil] at e2
      rw [← e2]
      exact HI.out.2.2.1.row
    · obtain ⟨g', rfl⟩ : ∃ g', gk = g' + 1 := ⟨gk - 1, by omega⟩
      have z0 : t.toList.isEmpty = false := by
        rw [Lib.toList_data, Bool.eq_false_iff]
        intro e
        exact h0 (by have := congrArg List.length (List.isEmpty_iff.1 e); simpa using this)
      have C := Lib.hid (rsign_ t wr (by omega))
      unfold RS at C
      obtain ⟨d, hd⟩ : ∃ d : Nat × Nat, sg t.data.toList = d := ⟨_, rfl⟩
      obtain ⟨x, k⟩ := d
      rw [hd] at C
      have hne : t.data.toList ≠ [] := fun e => h0 (by have := congrArg List.length e; simpa using this)
      have hk1 : 1 ≤ k := by have := Ux.Sign.sgN_one (Ux.Sign.bt t.data.toList 0) (Ux.Sign.bt t.data.toList 1) (Ux.Sign.bt t.data.toList 2) (Ux.Sign.bt t.data.toList 3); unfold sg at hd; rw [hd] at this; exact this
      have hk2 : k ≤ t.size := by have := Ux.Sign.sg_le hne; rw [hd] at this; simpa using this
      have hsz : (t.extract k t.size).size = t.size - k := Lib.ext_size t k
      have hsg : signs t.data.toList = x :: signs (t.extract k t.size).data.toList := by rw [signs_cons hne, hd, Lib.ext_list]
      have HK := Lib.hid (And.intro hsg hsz)
      have hk3 : (k : Int) ≤ t.size := by omega
      obtain ⟨a, m, c, rfl, hm⟩ := HI.out.2.2.1.is
      clear hd hne hsg hsz
      go_wp2_with (go_at_call 33; fail)
      refine C.out.mono ?_
      rintro e w1 ⟨rfl, T1⟩
      obtain ⟨r2, w3, run2, hG2, t2⟩ := appI (HI.out.2.2.1.touch0 T1) 1 [.int .i64 (x : Int)] rfl (by simp [Value.oneCell']) (by have := HI.out.2.2.2.size; have := T1.size; omega) (by have := HI.out.2.1; have := HH.out.2.2; have := HH.out.1; rw [Ux.iv_length, Ux.sv_length]; omega)
      obtain ⟨a2, m2, c2, rfl, hm2⟩ := hG2.is
      have R2 := Lib.hid run2
      have HG2 := Lib.hid (And.intro hG2 (Ux.Touch.own (HI.out.2.2.2.trans T1 fun _ _ f => f) (Nat.le_refl _) t2))
      clear run2 hG2 t2 T1 hm hm2 C
      go_wp2_with (at_builtin; refine Ux.wpList_app (v1 := .slice a m c) (x1 := .slice (some ⟨w1.heap.size, 0, none⟩) 1 1) rfl _ _ _ _ rfl rfl rfl (R2.out _) ?_)
      go_roundg g'
      case measure => omega
      case rel =>
        obtain ⟨h1, h2, _, _⟩ := HI.out
        refine ⟨_, acc ++ [x], rfl, by have := HK.out.2; omega, Lib.hid ⟨?_, ?_, ?_, HG2.out.2⟩⟩
        · rw [← h1, HK.out.1]; simp
        · have := HK.out.2; rw [List.length_append, this]; simp; omega
        · rw [Ux.sv_append, Ux.iv_append]; exact HG2.out.1

end Go.Proofs.YtglamoompicciaaGreatDoor
