/- PART OF THE PROOF THAT THIS CLAIM HOLDS OF THE GIVEN PROGRAM, FOR EVERY INPUT THAT THE STATEMENT NAMES. No condition besides the statement's own. -/
import Derived.Test.YtglamoompicciaaGreatDoorOneZ
import Derived.Test.YtglamoompicciaaGreatDoorRows
import Derived.WalkKit
import Derived.Handy
import Derived.Laws.EntriesVeiled
import Derived.WalkSpells
import Derived.WalkLawsBesides
import Derived.BigQuiet
import Derived.Deep.QuietTactic
import Derived.Deep.Cut
import Derived.Deep.DeepCutAuto
import Derived.Lib.Overlaps
import Derived.Laws.Externs
import Derived.Lib.Hide
import Derived.Test.YtglamoompicciaaGreatDoorUxPlanAllZ
import Derived.Test.YtglamoompicciaaGreatDoorUxTreeAllZ
import Derived.Deep.LoopGhost
namespace Go.Proofs.YtglamoompicciaaGreatDoor
open Go.RowKit
open Go.RowKit
open Ux (Row iv sv bv)
open Ux.Sign (enc encN put signs foldN foldI foldText)

theorem signs_lt (l : List UInt8) : ∀ c ∈ signs l, c < 1114368 := fun c hc => by
  rcases Ux.Sign.good_all (Ux.Sign.good_signs l) c hc with h | h
  · unfold Ux.Sign.cp at h; omega
  · unfold Ux.Sign.raw at h; omega
theorem signs_len (l : List UInt8) : (signs l).length ≤ l.length := by
  obtain ⟨n, hn⟩ : ∃ n, l.length = n := ⟨_, rfl⟩
  induction n using Nat.strongRecOn generalizing l with
  | _ n ih =>
    by_cases h : l = []
    · subst h; unfold signs; simp
    · rw [Ux.Sign.signs_cons h, List.length_cons]
      have h1 : 1 ≤ (Ux.Sign.sg l).2 := Ux.Sign.sgN_one _ _ _ _
      have h2 := Ux.Sign.sg_le h
      have h3 : (l.drop (Ux.Sign.sg l).2).length = l.length - (Ux.Sign.sg l).2 := List.length_drop
      have := ih (l.drop (Ux.Sign.sg l).2).length (by omega) _ rfl
      omega

theorem put_len (l : List Nat) : (put l).length ≤ 4 * l.length := by
  induction l with
  | nil => simp [put]
  | cons d l ih => rw [Ux.Sign.put_cons, List.length_append, List.length_cons]; have := enc_len d; omega

set_option maxHeartbeats 2000000 in
set_option maxRecDepth 100000 in
theorem rft_ (s : ByteArray) (w : World) (hs : s.size ≤ 1000000000) :
    Calls Tryz.prog 12 #[.string s] w fun e w' => e = .returned (.string ⟨(foldText s.data.toList).toArray⟩) ∧ Ux.Touch (fun _ => False) w w' := by
  obtain ⟨l, hl⟩ : ∃ l, signs s.data.toList = l := ⟨_, rfl⟩
  have C := Lib.hid (rsigns_ s w hs)
  rw [hl] at C
  have hlt : ∀ c ∈ l, c < 1114368 := by rw [← hl]; exact signs_lt _
  have hlen : l.length ≤ 1000000000 := by rw [← hl]; have := signs_len s.data.toList; have e : s.data.toList.length = s.size := by simp
                                          omega
  unfold foldText
  rw [hl]
  have HL := Lib.hid (And.intro hlt hlen)
  clear hlt hl hs hlen
  go_enter Tryz.func12, Tryz.ntmps12
  go_wp2_with (go_at_call 14; fail)
  refine C.out.mono ?_
  rintro e w1 ⟨v, rfl, hR, T1⟩
  obtain ⟨a, c, rfl, hcell⟩ := hR.is
  obtain ⟨n, hnn⟩ : ∃ n, (iv (sv l)).length = n := ⟨_, rfl⟩
  rw [hnn]
  have hnl : l.length = n := by rw [← hnn, Ux.iv_length, Ux.sv_length]
  have HH := Lib.hid (And.intro hnl (And.intro hcell T1))
  have g0 : (n : Int) ≤ 1000000000 := by have := HL.out.2; omega
  clear hnl hcell T1 hR hnn
  go_wp2
  go_loopg [4, 5] n (fun g s4 s5 wr => ∃ (i : Nat) (t : ByteArray), s5 = .int .i64 i ∧ s4 = .string t ∧ i + g = n ∧ Hid (t.data.toList = put ((l.take i).map foldN) ∧ Ux.Touch (fun _ => False) w1 wr))
  case atStart =>
    exact ⟨0, ⟨#[]⟩, rfl, rfl, by omega, Lib.hid ⟨rfl, Ux.Touch.refl _ _⟩⟩
  case round =>
    obtain ⟨i, t, rfl, rfl, hig, HI⟩ := hrel
    have p0 : (0 : Int) ≤ i := by omega
    by_cases hlt : i < n
    · obtain ⟨g', rfl⟩ : ∃ g', gk = g' + 1 := ⟨gk - 1, by omega⟩
      have j1 : (i : Int) < n := by omega
      have hil : i < l.length := by have := HH.out.1; omega
      obtain ⟨x, hx⟩ : ∃ x, l[i]? = some x := ⟨l[i], List.getElem?_eq_getElem hil⟩
      obtain ⟨g0', rfl, hg0, hc0⟩ := HH.out.2.1 i _ (Ux.iv_get (Ux.sv_get hx))
      have hxl := HL.out.1 x (List.mem_of_getElem? hx)
      have hxf := Ux.Sign.foldN_lt x hxl
      have CF := Lib.hid fun w' => rfold_ (x : Int) w' (by omega) (by omega)
      rw [Ux.Sign.foldI_nat] at CF
      obtain ⟨E, hE⟩ : ∃ E : ByteArray, (⟨(enc (foldN x)).toArray⟩ : ByteArray) = E := ⟨_, rfl⟩
      have co := one_ (foldN x) hxf
      rw [hE] at co
      have CO := Lib.hid co
      have hEl : E.data.toList = enc (foldN x) := by rw [← hE]
      have hEs : E.size ≤ 4 := by rw [← hE]; show (enc (foldN x)).toArray.size ≤ 4; have := enc_len (foldN x); simpa using this
      have hts : t.size ≤ 4 * i := by
        have e : t.size = (put ((l.take i).map foldN)).length := by rw [← HI.out.1]; simp
        have := put_len ((l.take i).map foldN)
        rw [List.length_map, List.length_take] at this
        omega
      have q0 : ¬ 9223372036854775807 < t.size + E.size := by have := HL.out.2; omega
      have hc1 := HI.out.2.cell hc0 (fun f => f)
      have htk : put ((l.take (i + 1)).map foldN) = put ((l.take i).map foldN) ++ enc (foldN x) := by
        rw [List.take_add_one, hx]
        simp [put]
      have HT := Lib.hid htk
      have HE := Lib.hid hEl
      clear hc0 htk hlt hx hxl hxf hE hEl hts hEs co
      go_wp2_with (first | (go_at_call 31; refine (CF.out _).mono ?_; rintro e w' ⟨rfl, rfl⟩) | (go_at_call 30; fail))
      refine (CO.out _).mono ?_
      rintro e w2 ⟨rfl, T2⟩
      have HG := Lib.hid (HI.out.2.trans T2 fun _ _ f => f)
      clear T2
      go_wp2
      go_roundg g'
      case measure => omega
      case rel => exact ⟨i + 1, _, rfl, rfl, by omega, Lib.hid ⟨by rw [HT.out, ← HI.out.1, ← HE.out]; simp, HG.out⟩⟩
    · obtain rfl : i = n := by omega
      have q1 : ¬ (i : Int) < i := by omega
      have e := HI.out.1
      rw [List.take_of_length_le (by have := HH.out.1; omega)] at e
      have HE := Lib.hid (Ux.txt_of e)
      clear hlt e
      go_wp2
      go_ret
      exact ⟨congrArg (fun x => Ending.returned (.string x)) HE.out, HH.out.2.2.trans HI.out.2 fun _ _ f => f⟩

set_option maxHeartbeats 2000000 in
set_option maxRecDepth 100000 in
theorem ft_ (s : ByteArray) (w : World) (hs : s.size ≤ 1000000000) (hT : Tabs w) :
    Calls Tryz.prog 44 #[.string s] w fun e w' => e = .returned (.string ⟨(foldText s.data.toList).toArray⟩) ∧ Ux.Touch (fun _ => False) w w' := by
  obtain ⟨l, hl⟩ : ∃ l, signs s.data.toList = l := ⟨_, rfl⟩
  have C := Lib.hid (signs_ s w hs hT)
  rw [hl] at C
  have hlt : ∀ c ∈ l, c < 1114368 := by rw [← hl]; exact signs_lt _
  have hlen : l.length ≤ 1000000000 := by rw [← hl]; have := signs_len s.data.toList; have e : s.data.toList.length = s.size := by simp
                                          omega
  unfold foldText
  rw [hl]
  have HL := Lib.hid (And.intro hlt hlen)
  clear hlt hl hs hlen hT
  go_enter Tryz.func44, Tryz.ntmps44
  go_wp2_with (go_at_call 29; fail)
  refine C.out.mono ?_
  rintro e w1 ⟨v, rfl, hR, T1⟩
  obtain ⟨a, c, hv, hcell⟩ := hR.is
  obtain ⟨n, hnn⟩ : ∃ n, (iv (sv l)).length = n := ⟨_, rfl⟩
  rw [hnn] at hv
  subst hv
  have hnl : l.length = n := by rw [← hnn, Ux.iv_length, Ux.sv_length]
  have HH := Lib.hid (And.intro hnl (And.intro hcell (And.intro T1 hR)))
  have g0 : (n : Int) ≤ 1000000000 := by have := HL.out.2; omega
  clear hnl hcell T1 hR hnn
  go_wp2
  go_loopg [10] n (fun g s10 wr => ∃ (i : Nat), s10 = .int .i64 i ∧ i + g = n ∧ Hid (Row wr w.heap.size 3 (.slice a n c) (iv (sv ((l.take i).map foldN ++ l.drop i))) ∧ Ux.Touch (fun _ => False) w wr))
  case atStart =>
    exact ⟨0, rfl, by omega, Lib.hid ⟨by simpa using HH.out.2.2.2, HH.out.2.2.1⟩⟩
  case round =>
    obtain ⟨i, rfl, hig, HI⟩ := hrel
    have p0 : (0 : Int) ≤ i := by omega
    by_cases hlt : i < n
    · obtain ⟨g', rfl⟩ : ∃ g', gk = g' + 1 := ⟨gk - 1, by omega⟩
      have j1 : (i : Int) < n := by omega
      have hil : i < l.length := by have := HH.out.1; omega
      obtain ⟨x, hx⟩ : ∃ x, l[i]? = some x := ⟨l[i], List.getElem?_eq_getElem hil⟩
      have hdrop : l.drop i = x :: l.drop (i + 1) := by rw [List.drop_eq_getElem_cons hil]; rw [List.getElem?_eq_getElem hil] at hx; rw [Option.some.inj hx]
      have hcur : ((l.take i).map foldN ++ l.drop i)[i]? = some x := by
        rw [List.getElem?_append_right (by simp; omega), hdrop]
        simp [Nat.min_eq_left (Nat.le_of_lt hil)]
      obtain ⟨a', c', ha, hcell⟩ := HI.out.1.is
      injection ha with ha1 ha2 ha3
      subst ha1
      clear ha2 ha3
      obtain ⟨g0', rfl, hg0, hc0⟩ := hcell i _ (Ux.iv_get (Ux.sv_get hcur))
      have hfz := HI.out.1.frozen i
      have hxl := HL.out.1 x (List.mem_of_getElem? hx)
      have hxf := Ux.Sign.foldN_lt x hxl
      have CF := Lib.hid fun w' => fold_ (x : Int) w' (by omega) (by omega)
      rw [Ux.Sign.foldI_nat] at CF
      have hset := HI.out.1.set i (.int .i64 (foldN x : Nat))
      have hnew : (iv (sv ((l.take i).map foldN ++ l.drop i))).set i (.int .i64 (foldN x : Nat)) = iv (sv ((l.take (i + 1)).map foldN ++ l.drop (i + 1))) := by
        rw [hdrop, List.take_add_one, hx]
        unfold iv sv
        simp [List.set_append, Nat.min_eq_left (Nat.le_of_lt hil)]
      rw [hnew] at hset
      have HS := Lib.hid (And.intro hset (HI.out.2.setCell (p := ⟨g0', i, none⟩) (fun h => by simp only at h; omega) (.int .i64 (foldN x : Nat))))
      clear hset hnew hcur hdrop hlt hx hxl hxf hcell hg0
      go_wp2_with (go_at_call 61; refine (CF.out _).mono ?_; rintro e w' ⟨rfl, rfl⟩)
      go_roundg g'
      case measure => omega
      case rel => exact ⟨i + 1, rfl, by omega, Lib.hid HS.out⟩
    · obtain rfl : i = n := by omega
      have q1 : ¬ (i : Int) < i := by omega
      have hrow := HI.out.1
      rw [List.take_of_length_le (by have := HH.out.1; omega), List.drop_of_length_le (by have := HH.out.1; omega), List.append_nil] at hrow
      have CP := Lib.hid (putAll_ _ _ w.heap.size wr hrow (fun c hc => by obtain ⟨d, hd, rfl⟩ := List.mem_map.1 hc; exact Ux.Sign.foldN_lt d (HL.out.1 d hd)) (by rw [List.length_map]; exact HL.out.2))
      clear hlt hrow
      go_wp2_with (go_at_call 36; fail)
      refine CP.out.mono ?_
      rintro e w2 ⟨rfl, T2⟩
      have HG := Lib.hid (HI.out.2.trans T2 fun _ _ f => f)
      clear T2
      go_wp2
      go_ret
      exact ⟨rfl, HG.out⟩

end Go.Proofs.YtglamoompicciaaGreatDoor
