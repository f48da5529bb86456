/- PART OF THE PROOF THAT THIS CLAIM HOLDS OF THE GIVEN PROGRAM, FOR EVERY INPUT THAT THE STATEMENT NAMES. No condition besides the statement's own. -/
import Derived.Test.YtjkeiomildghmaaGreatDoorMapsAZ
import Derived.Test.YtjkeiomildghmaaGreatDoorRefAZ
import Derived.Test.YtjkeiomildghmaaGreatDoorUxEndsZ
import Derived.Test.YtjkeiomildghmaaGreatDoorUxPlanAllZ
import Derived.Test.YtjkeiomildghmaaGreatDoorTableAZ
import Derived.Test.YtjkeiomildghmaaGreatDoorRows
import Derived.WalkKit
import Derived.Handy
import Derived.Laws.EntriesVeiled
import Derived.WalkSpells
import Derived.WalkLawsBesides
import Derived.BigQuiet
import Derived.Deep.QuietTactic
import Derived.Deep.Cut
import Derived.Deep.DeepCutAuto
import Derived.Lib.Overlaps
import Derived.Laws.Externs
import Derived.Lib.Hide
import Derived.Test.YtjkeiomildghmaaGreatDoorUxMemAZ
import Derived.Test.YtjkeiomildghmaaGreatDoorUxOrdZ
import Derived.Deep.LoopGhost
namespace Go.Proofs.YtjkeiomildghmaaGreatDoor
open Go.RowKit
open Go.RowKit
open Ux (Row sv iv ev KGrow NView eP eS eT eV)

/-- words as elements -/
def natW (l : List Int) : List Nat := (l.take 12).map Int.toNat
theorem natW_len (l : List Int) : (natW l).length = min 12 l.length := by unfold natW; simp
theorem natW_lt {w : World} {v : Value} {l : List Int} (h : NView .u32 w v l) : ∀ x ∈ natW l, x < 4294967296 := fun x hx => by
  unfold natW at hx
  obtain ⟨y, hy, rfl⟩ := List.mem_map.1 hx
  obtain ⟨_, _, _, _, _, h2⟩ := h
  have := h2 y (List.mem_of_mem_take hy)
  have e1 : IntKind.u32.min = 0 := rfl
  have e2 : IntKind.u32.max = 4294967295 := rfl
  omega
theorem ev_snoc (l : List Nat) (x : Nat) : ev (l ++ [x]) = ev l ++ [Value.int .u32 (x : Int)] := by
  rw [Ux.ev_append]
  rfl
theorem rv_snoc (l : List Nat) (x : Nat) : rv (l ++ [x]) = rv l ++ [Value.int .i64 (eP x : Nat), .int .i64 (eS x : Nat), .int .i64 (eT x : Nat), .bool (eV x)] := by
  unfold rv
  rw [List.flatMap_append]
  rfl
set_option maxHeartbeats 8000000 in
set_option maxRecDepth 100000 in
theorem elems5_ (v : Value) (l : List Int) (w : World) (hv : NView .u32 w v l) :
    Calls Tryz.prog 22 #[v] w fun e w' => ∃ u1 u2, e = .returned (.tuple #[u1, u2]) ∧ KGrow w' w.heap.size 30 1 u1 (natW l).length (ev (natW l)) ∧ KGrow w' w.heap.size 69 4 u2 (natW l).length (rv (natW l)) ∧ (∀ b, u1.ownBlock = some b → u2.ownBlock ≠ some b) ∧ Ux.Touch (fun _ => False) w w' := by
  have hlt := natW_lt hv
  obtain ⟨a, c, rfl, hm, hc, hr⟩ := hv
  obtain ⟨n, hn⟩ : ∃ n, l.length = n := ⟨_, rfl⟩
  obtain ⟨m, hm12⟩ : ∃ m, min 12 n = m := ⟨_, rfl⟩
  have hlen : (natW l).length = m := by rw [natW_len, hn, hm12]
  rw [hn] at hm ⊢
  have n0 : (n : Int) ≤ 9223372036854775807 := by have : n ≤ maxLen := hm; simp only [maxLen] at this; omega
  have m12 : m ≤ 12 := by omega
  have hget : ∀ (i x : Nat), (natW l)[i]? = some x → l[i]? = some (x : Int) := fun i x hx => by
    unfold natW at hx
    rw [List.getElem?_map] at hx
    obtain ⟨y, hy, rfl⟩ := Option.map_eq_some_iff.1 hx
    have hy' : l[i]? = some y := by
      rw [List.getElem?_take] at hy
      split at hy
      · exact hy
      · cases hy
    have h0 := hr y (List.mem_of_getElem? hy')
    have e1 : IntKind.u32.min = 0 := rfl
    rw [hy', Int.toNat_of_nonneg (by omega)]
  have HH := Lib.hid (And.intro hc (And.intro hlen (And.intro hm12 (And.intro hget hlt))))
  clear hc hr hm hn hlen hm12 hget hlt
  go_enter Tryz.func22, Tryz.ntmps22
  go_wp2
  go_loopg [4, 5, 6] m (fun gk s4 s5 s6 wr => ∃ i : Nat, s6 = .int .i64 i ∧ i + gk = m ∧ Hid (KGrow wr w.heap.size 30 1 s4 i (ev ((natW l).take i)) ∧ KGrow wr w.heap.size 69 4 s5 i (rv ((natW l).take i)) ∧ (∀ b, s4.ownBlock = some b → s5.ownBlock ≠ some b) ∧ Ux.Touch (fun _ => False) w wr))
  case atStart => exact ⟨0, rfl, by omega, Lib.hid ⟨KGrow.nil _ _ _ _, KGrow.nil _ _ _ _, fun b hb => (by cases hb), Ux.Touch.refl _ _⟩⟩
  case round =>
    obtain ⟨i, rfl, hig, HI⟩ := hrel
    have i0 : (0 : Int) ≤ i := by omega
    by_cases hlt : i < m
    · obtain ⟨g', rfl⟩ : ∃ g', gk = g' + 1 := ⟨gk - 1, by omega⟩
      have hmn := HH.out.2.2.1
      have q1 : decide ((i : Int) < n) = true := by simp; omega
      have q2 : decide ((i : Int) < 12) = true := by simp; omega
      have q3 : decide (i < n) = true := by simp; omega
      have q4 : decide (i < 12) = true := by simp; omega
      have i1 : (i : Int) < n := by omega
      obtain ⟨x, hx⟩ : ∃ x, (natW l)[i]? = some x := ⟨_, List.getElem?_eq_getElem (by have := HH.out.2.1; omega)⟩
      obtain ⟨g, o, rfl, hgl, h1⟩ := HH.out.1 i _ (HH.out.2.2.2.1 i x hx)
      have hxl := HH.out.2.2.2.2 x (List.mem_of_getElem? hx)
      have T0 := HI.out.2.2.2
      have c1 := T0.cell h1 (fun f => f)
      have htk : (natW l).take (i + 1) = (natW l).take i ++ [x] := by rw [List.take_add_one, hx]; rfl
      have tA : Ux.Touch (fun _ => False) wr (wr.alloc (.cells [Value.int .u32 (x : Int)].toArray 30)) := (Ux.Touch.refl _ _).alloc _
      obtain ⟨r, w3, hrun, hG2, hT3, hB3⟩ := (HI.out.1.touch0 tA).app' (P := Tryz.prog) 22 4 _ Tryz.underlying22 infoE rfl (by omega) (.slice (some ⟨wr.heap.size, 0, none⟩) 1 1) 1 [Value.int .u32 (x : Int)] (Ux.src_new Tryz.underlying22 wr 1 1 _ rfl (fun u hu => by
        rw [List.mem_singleton.1 hu]; rfl)) (by have := T0.size; have := tA.size; omega) (by simp only [maxLen]; omega) (by omega)
      have c2 := hT3.cell (tA.cell c1 (fun f => f)) (fun h => by
        have h : w.heap.size ≤ g := h.1
        omega)
      have hK5 : KGrow w3 w.heap.size 69 4 u5 i (rv ((natW l).take i)) := ⟨Ux.own_touch (HI.out.2.1.touch0 tA).1 hT3 fun b hb h => HI.out.2.2.1 b h.2 hb, HI.out.2.1.2⟩
      have hd5 : ∀ b, r.ownBlock = some b → u5.ownBlock ≠ some b := fun b hb h => by
        rcases hB3 with e | ⟨g9, e, hg⟩
        · exact HI.out.2.2.1 b (e ▸ hb) h
        · rw [e] at hb
          cases hb
          have := Ux.own_lt HI.out.2.1.1 b h
          have := tA.size
          omega
      have TT : Ux.Touch (fun _ => False) w w3 := Ux.Touch.own (T0.trans tA fun _ _ f => f) (Nat.le_refl _) hT3
      have HR := Lib.hid (And.intro hrun (And.intro hG2 (And.intro hK5 (And.intro hd5 (And.intro TT htk)))))
      have HO := Lib.hid fun W => rof_ x hxl W
      clear hgl hx h1 hxl T0 htk tA hrun hG2 hT3 hB3 hK5 hd5 TT hlt hmn
      go_wp2_with (at_builtin; refine Ux.wpList_app (v1 := u4) (x1 := .slice (some ⟨wr.heap.size, 0, none⟩) 1 1) rfl _ _ _ _ rfl rfl rfl (HR.out.1 _) ?_)
      go_wp2_with (go_at_call 31; fail)
      refine (HO.out _).mono ?_
      rintro e w4 ⟨he, T4⟩
      unfold rE at he
      subst he
      have tB : Ux.Touch (fun _ => False) w4 (w4.alloc (.cells [Value.int .i64 (eP x : Nat), .int .i64 (eS x : Nat), .int .i64 (eT x : Nat), .bool (eV x)].toArray 69)) := (Ux.Touch.refl _ _).alloc _
      obtain ⟨_, hG2, hK5, hd5, TT, htk⟩ := HR.out
      have hm12 : i ≤ 12 := by omega
      obtain ⟨r5, w5, hrun5, hG5, hT5, hB5⟩ := ((hK5.touch0 T4).touch0 tB).app' (P := Tryz.prog) 25 32 _ Tryz.underlying25 infoRE rfl (by omega) (.slice (some ⟨w4.heap.size, 0, none⟩) 1 1) 1 [Value.int .i64 (eP x : Nat), .int .i64 (eS x : Nat), .int .i64 (eT x : Nat), .bool (eV x)] (Ux.src_new Tryz.underlying25 w4 4 1 _ rfl (fun u hu => by
        simp only [List.mem_cons, List.not_mem_nil, or_false] at hu
        rcases hu with rfl | rfl | rfl | rfl <;> rfl)) (by have := T4.size; have := TT.size; have := tB.size; omega) (by simp only [maxLen]; omega) (by omega)
      have hK4 : KGrow w5 w.heap.size 30 1 r (i + 1) (ev ((natW l).take i) ++ [Value.int .u32 (x : Int)]) := ⟨Ux.own_touch ((hG2.touch0 T4).touch0 tB).1 hT5 fun b hb h => hd5 b hb h.2, hG2.2⟩
      have hd4 : ∀ b, r.ownBlock = some b → r5.ownBlock ≠ some b := fun b hb h => by
        rcases hB5 with e | ⟨g9, e, hg⟩
        · exact hd5 b hb (e ▸ h)
        · rw [e] at h
          cases h
          have := Ux.own_lt hG2.1 b hb
          have := tB.size
          have := T4.size
          omega
      have TT5 : Ux.Touch (fun _ => False) w w5 := Ux.Touch.own ((TT.trans T4 fun _ _ f => f).trans tB fun _ _ f => f) (Nat.le_refl _) hT5
      have HR5 := Lib.hid (And.intro hrun5 (And.intro hG5 (And.intro hK4 (And.intro hd4 (And.intro TT5 htk)))))
      clear hG2 hK5 hd5 TT htk T4 tB hrun5 hG5 hT5 hB5 hK4 hd4 TT5 c1 c2
      go_wp2_with (at_builtin; refine Ux.wpList_app (v1 := u5) (x1 := .slice (some ⟨w4.heap.size, 0, none⟩) 1 1) rfl _ _ _ _ rfl rfl rfl (HR5.out.1 _) ?_)
      go_roundg g'
      case measure => omega
      case rel =>
        obtain ⟨_, hG5, hK4, hd4, TT5, htk⟩ := HR5.out
        refine ⟨i + 1, by congr 1, by omega, Lib.hid ⟨?_, ?_, hd4, TT5⟩⟩
        · rw [htk, ev_snoc]; exact hK4
        · rw [htk, rv_snoc]; exact hG5
    · obtain rfl : m = i := by omega
      have hmn := HH.out.2.2.1
      have htk : (natW l).take m = natW l := List.take_of_length_le (by have := HH.out.2.1; omega)
      have HE := Lib.hid (And.intro HH.out.2.1 htk)
      by_cases hx : n ≤ m
      · have q1 : decide ((m : Int) < n) = false := by simp; omega
        have q3 : decide (m < n) = false := by simp; omega
        clear hx hmn htk hlt
        go_wp2
        go_ret2
        rw [HE.out.2] at HI
        rw [HE.out.1]
        exact ⟨_, _, rfl, HI.out.1, HI.out.2.1, HI.out.2.2.1, HI.out.2.2.2⟩
      · have q1 : decide ((m : Int) < n) = true := by simp; omega
        have q2 : decide ((m : Int) < 12) = false := by simp; omega
        have q3 : decide (m < n) = true := by simp; omega
        have q4 : decide (m < 12) = false := by simp; omega
        clear hx hmn htk hlt
        go_wp2
        go_ret2
        rw [HE.out.2] at HI
        rw [HE.out.1]
        exact ⟨_, _, rfl, HI.out.1, HI.out.2.1, HI.out.2.2.1, HI.out.2.2.2⟩

end Go.Proofs.YtjkeiomildghmaaGreatDoor
