/- PART OF THE PROOF THAT THIS CLAIM HOLDS OF THE GIVEN PROGRAM, FOR EVERY INPUT THAT THE STATEMENT NAMES. No condition besides the statement's own. -/
import Derived.Test.YtkeodddpnmnheaaGreatDoorUxBacksZ
import Derived.Test.YtkeodddpnmnheaaGreatDoorUxEndsZ
import Derived.Test.YtkeodddpnmnheaaGreatDoorReadAZ
import Derived.Test.YtkeodddpnmnheaaGreatDoorTableBZ
import Derived.Test.YtkeodddpnmnheaaGreatDoorRows
import Derived.WalkKit
import Derived.Handy
import Derived.Laws.EntriesVeiled
import Derived.WalkSpells
import Derived.WalkLawsBesides
import Derived.BigQuiet
import Derived.Deep.QuietTactic
import Derived.Deep.Cut
import Derived.Deep.DeepCutAuto
import Derived.Lib.Overlaps
import Derived.Laws.Externs
import Derived.Lib.Hide
import Derived.Test.YtkeodddpnmnheaaGreatDoorUxPlanAllZ
import Derived.Test.YtkeodddpnmnheaaGreatDoorUxMemAZ
import Derived.Test.YtkeodddpnmnheaaGreatDoorUxCollAZ
import Derived.Deep.LoopGhost
namespace Go.Proofs.YtkeodddpnmnheaaGreatDoor
open Go.RowKit
open Go.RowKit
open Ux (Row iv sv Grow Ent rootE rootT wghC xB xP xE xS mkB cmpL cmpI cmpL_drop cmpL_over cmpL_end)
open Ux.Sign (signs)

/-- the mark's number that a whole number stands for -/
def mk3 (x : Int) : Nat := (bits .and .i64 x 65535).toNat % 3
theorem mk3_lt (x : Int) : mk3 x < 3 := Nat.mod_lt _ (by decide)
def mAt (l : List Int) (i : Nat) : Nat := match l[i]? with
  | some x => mk3 x
  | none => 0
theorem mAt_lt (l : List Int) (i : Nat) : mAt l i < 3 := by
  unfold mAt
  split
  · exact mk3_lt _
  · omega
def msN (l : List Int) (n : Nat) : List Nat := (List.range n).map (mAt l)
theorem msN_succ (l : List Int) (n : Nat) : msN l (n + 1) = msN l n ++ [mAt l n] := by
  unfold msN
  rw [List.range_succ, List.map_append]
  rfl
theorem msN_lt (l : List Int) (n : Nat) : ∀ m ∈ msN l n, m < 3 := fun m hm => by
  unfold msN at hm
  obtain ⟨i, _, rfl⟩ := List.mem_map.1 hm
  exact mAt_lt l i
theorem msN_len (l : List Int) (n : Nat) : (msN l n).length = n := by unfold msN; simp
/-- the text, and one letter more -/
def xT (l : List Nat) : ByteArray := ⟨(xB l).toArray⟩
def mT (m : Nat) : ByteArray := ⟨(mkB m).toArray⟩
theorem xB_app (a b : List Nat) : xB (a ++ b) = xB a ++ xB b := by unfold xB; rw [List.flatMap_append]
theorem xP_app (a b : List Nat) : xP (a ++ b) = xP a ++ xP b := by unfold xP; rw [List.flatMap_append]
theorem xT_snoc (l : List Nat) (m : Nat) : (xT l ++ ⟨#[97]⟩) ++ mT m = xT (l ++ [m]) := by
  apply ByteArray.ext
  rw [ByteArray.data_append, ByteArray.data_append]
  apply Array.toList_inj.1
  rw [Array.toList_append, Array.toList_append]
  show (xB l ++ [97]) ++ mkB m = xB (l ++ [m])
  rw [xB_app]
  show _ = xB l ++ ((97 :: mkB m) ++ [])
  simp
theorem mT_size (m : Nat) : (mT m).size ≤ 2 := by
  show ((mkB m).toArray).size ≤ 2
  unfold mkB
  split
  · simp
  · split <;> simp
theorem xT_size : ∀ l : List Nat, (xT l).size ≤ 3 * l.length := fun l => by
  show ((xB l).toArray).size ≤ _
  rw [List.size_toArray]
  induction l with
  | nil => simp [xB]
  | cons m l ih =>
    have h := mT_size m
    have h2 : (mkB m).length ≤ 2 := by
      rw [← List.size_toArray]
      exact h
    rw [show xB (m :: l) = (97 :: mkB m) ++ xB l from rfl, List.length_append, List.length_cons, List.length_cons]
    omega
theorem xP_len (l : List Nat) : (xP l).length ≤ 2 * l.length := by
  induction l with
  | nil => simp [xP]
  | cons m l ih =>
    rw [show xP (m :: l) = (32 :: if 0 < m then [35 + m] else []) ++ xP l from rfl, List.length_append, List.length_cons, List.length_cons]
    have : (if 0 < m then [35 + m] else []).length ≤ 1 := by split <;> simp
    omega
/-- append to one of two rows -/
theorem app2 {W : World} {lo : Nat} {p q : Value} {xs ys : List Value} (hp : Grow W lo 3 p xs) (hq : Grow W lo 3 q ys) (hap : ∀ b, p.ownBlock = some b → q.ownBlock ≠ some b) (hlo : lo ≤ W.heap.size) (hl : xs.length ≤ 1000) (z : Value) (hz : z.oneCell' = true) :
    ∃ r W', (∀ ty, (Builtin.append_ #[22, 22] ty #[p, .slice (some ⟨W.heap.size, 0, none⟩) 1 1]).run Tryz.prog (W.alloc (.cells #[z] 3)) = .ok r W') ∧ Grow W' lo 3 r (xs ++ [z]) ∧ Grow W' lo 3 q ys ∧ (∀ b, r.ownBlock = some b → q.ownBlock ≠ some b) ∧ Ux.Touch (fun b => lo ≤ b) W W' := by
  have hk : Ux.KGrow (W.alloc (.cells #[z] 3)) lo 3 1 p xs.length xs := hp.touch0 ((Ux.Touch.refl _ W).alloc _)
  obtain ⟨r, W', a1, a2, a3, a4⟩ := hk.app' 22 8 (.int .i64 0) Tryz.underlying22 infoI rfl (by omega) (.slice (some ⟨W.heap.size, 0, none⟩) 1 1) 1 [z] (Ux.src_new Tryz.underlying22 W 1 1 [z] rfl (by simpa using hz)) (by rw [World.size_alloc]; omega) (by simp only [maxLen]; omega) (by omega)
  have hq1 : Grow (W.alloc (.cells #[z] 3)) lo 3 q ys := hq.touch0 ((Ux.Touch.refl _ W).alloc _)
  have hql : ∀ b, q.ownBlock = some b → b < W.heap.size := fun b hb => (World.ownsRow.lt hq.1 b hb).2
  refine ⟨r, W', a1, ⟨by rw [List.length_append]; exact a2.1, a2.2⟩, ⟨Ux.own_touch hq1.1 a3 fun b hb h => hap b h.2 hb, hq.2⟩, fun b hb hb2 => ?_, ?_⟩
  · rcases a4 with e | ⟨g, e, hg⟩
    · exact hap b (by rw [← e]; exact hb) hb2
    · rw [e] at hb
      cases hb
      have := hql _ hb2
      rw [World.size_alloc] at hg
      omega
  · exact (((Ux.Touch.refl (fun b => lo ≤ b) W).alloc _).trans a3 fun b _ h => h.1)

/-- two rows of weights that grow -/
def B2 (W0 W : World) (p q : Value) (x y : List Nat) : Prop := Grow W W0.heap.size 3 p (iv (sv x)) ∧ Grow W W0.heap.size 3 q (iv (sv y)) ∧ (∀ b, p.ownBlock = some b → q.ownBlock ≠ some b) ∧ Ux.Touch (fun _ => False) W0 W
theorem B2.swap {W0 W : World} {p q : Value} {x y : List Nat} (h : B2 W0 W p q x y) : B2 W0 W q p y x := ⟨h.2.1, h.1, fun b h1 h2 => h.2.2.1 b h2 h1, h.2.2.2⟩
theorem B2.form {W0 W : World} {p q : Value} {x y : List Nat} (h : B2 W0 W p q x y) : ∃ a c, p = .slice a x.length c := by
  obtain ⟨a, c, e, _⟩ := h.1.row.is
  rw [Ux.iv_length, Ux.sv_length] at e
  exact ⟨a, c, e⟩
theorem B2.app {W0 W : World} {a : Option Addr} {n c : Nat} {q : Value} {x y : List Nat} (h : B2 W0 W (.slice a n c) q x y) (hx : x.length = n) (hn : n ≤ 100) (z : Nat) :
    ∃ a' c' W', (∀ ty, (Builtin.append_ #[22, 22] ty #[.slice a n c, .slice (some ⟨W.heap.size, 0, none⟩) 1 1]).run Tryz.prog (W.alloc (.cells #[.int .i64 (z : Int)] 3)) = .ok (.slice a' (n + 1 : Nat) c') W') ∧ B2 W0 W' (.slice a' (n + 1 : Nat) c') q (x ++ [z]) y := by
  obtain ⟨r, W', h1, h2, h3, h4, h5⟩ := app2 h.1 h.2.1 h.2.2.1 h.2.2.2.size (by rw [Ux.iv_length, Ux.sv_length]; omega) (.int .i64 (z : Int)) rfl
  have e1 : iv (sv x) ++ [Value.int .i64 (z : Int)] = iv (sv (x ++ [z])) := by
    rw [Ux.sv_append, Ux.iv_append]
    rfl
  rw [e1] at h2
  have hB : B2 W0 W' r q (x ++ [z]) y := ⟨h2, h3, h4, h.2.2.2.trans h5 fun b hb hh => by omega⟩
  obtain ⟨a', c', rfl⟩ := hB.form
  rw [List.length_append, hx] at h1 hB
  exact ⟨a', c', W', h1, hB⟩
theorem mk3_val (x : Int) : (bits .and .i64 x 65535).tmod 3 = (mk3 x : Nat) := by
  obtain ⟨m, hm, _⟩ := and16 x
  unfold mk3
  rw [hm, Int.toNat_natCast, Int.tmod_eq_emod_of_nonneg (by omega)]
  omega

theorem rev_get (X : List Nat) (n j y : Nat) (hl : X.length = n) (hj : j + y + 1 = n) : ∃ x : Int, (sv X)[y]? = some x ∧ (sv X.reverse)[j]? = some x := by
  have hy : y < X.length := by omega
  refine ⟨(X[y] : Int), Ux.sv_get (List.getElem?_eq_getElem hy), Ux.sv_get ?_⟩
  rw [List.getElem?_reverse (by omega), show X.length - 1 - j = y by omega]
  exact List.getElem?_eq_getElem hy
theorem el_xT (l : List Nat) : elB rootE (xT l) = xE l := by
  unfold elB
  show Ux.elemsE rootE (signs (xB l)) = _
  rw [Ux.signs_xB, Ux.elems_xS]
set_option maxHeartbeats 16000000 in
set_option maxRecDepth 100000 in
theorem backs_ (v0 : Value) (l0 : List Int) (v1 : Value) (l1 : List Int) (w : World) (h0 : Ux.NView .i64 w v0 l0) (h1 : Ux.NView .i64 w v1 l1) (hT : Tabs w) :
    Calls Tryz.prog 3 #[v0, v1] w fun e w' => e = .returned (.bool true) ∧ Ux.Touch (fun _ => False) w w' := by
  have AW := Lib.hid fun W (T : Ux.Touch (fun _ => False) w W) => awake8_ W (hT.touch T)
  obtain ⟨a0, c0, rfl, hl0, hv0, _⟩ := h0
  obtain ⟨a1, c1, rfl, hl1, hv1, _⟩ := h1
  obtain ⟨n0, hn0⟩ : ∃ n, l0.length = n := ⟨_, rfl⟩
  obtain ⟨n1, hn1⟩ : ∃ n, l1.length = n := ⟨_, rfl⟩
  rw [hn0] at hl0 ⊢
  rw [hn1] at hl1 ⊢
  obtain ⟨M, hM⟩ : ∃ M, w.heap.size = M := ⟨_, rfl⟩
  have HL := Lib.hid (And.intro hn0 (And.intro hn1 (And.intro hv0 hv1)))
  have HT := Lib.hid hT
  clear hn0 hn1 hv0 hv1 hT hl0 hl1
  obtain ⟨W0, hW0⟩ : ∃ W0, w.alloc (.cells #[.string ⟨#[]⟩, .string ⟨#[204, 129]⟩, .string ⟨#[204, 128]⟩] 9) = W0 := ⟨_, rfl⟩
  have t0 : Ux.Touch (fun _ => False) w W0 := by rw [← hW0]; exact (Ux.Touch.refl _ _).alloc _
  have r0 : W0.heap[M]? = some (.cells #[.string ⟨#[]⟩, .string ⟨#[204, 129]⟩, .string ⟨#[204, 128]⟩] 9 (0, 0)) := by rw [← hW0, ← hM]; exact heap_alloc_new w _
  have hcell : ∀ m : Nat, m < 3 → ∀ W, Ux.Touch (fun _ => False) W0 W → W.cell? ⟨M, m, none⟩ = some (.string (mT m)) := fun m hm W T => by
    have h := T.heap r0 (fun f => f)
    have hc : m = 0 ∨ m = 1 ∨ m = 2 := by omega
    rcases hc with rfl | rfl | rfl
    · exact Ux.row_cell h (k := 3) (xs := [.string ⟨#[]⟩, .string ⟨#[204, 129]⟩, .string ⟨#[204, 128]⟩]) rfl 0 _ rfl
    · exact Ux.row_cell h (k := 3) (xs := [.string ⟨#[]⟩, .string ⟨#[204, 129]⟩, .string ⟨#[204, 128]⟩]) rfl 1 _ rfl
    · exact Ux.row_cell h (k := 3) (xs := [.string ⟨#[]⟩, .string ⟨#[204, 129]⟩, .string ⟨#[204, 128]⟩]) rfl 2 _ rfl
  have HC := Lib.hid hcell
  have H0 := Lib.hid t0
  have HN := Lib.hid (And.intro (fun W (T : Ux.Touch (fun _ => False) w W) (j : Nat) (x : Int) (h : l0[j]? = some x) => show ∃ g o, a0 = some ⟨g, o, none⟩ ∧ W.cell? ⟨g, o + j, none⟩ = some (.int .i64 x) by
    obtain ⟨g, o, e, h1, h2⟩ := HL.out.2.2.1 j x h
    exact ⟨g, o, e, T.cell h2 (fun f => f)⟩) (fun W (T : Ux.Touch (fun _ => False) w W) (j : Nat) (x : Int) (h : l1[j]? = some x) => show ∃ g o, a1 = some ⟨g, o, none⟩ ∧ W.cell? ⟨g, o + j, none⟩ = some (.int .i64 x) by
    obtain ⟨g, o, e, h1, h2⟩ := HL.out.2.2.2 j x h
    exact ⟨g, o, e, T.cell h2 (fun f => f)⟩))
  clear t0 r0 hcell
  go_enter Tryz.func3, Tryz.ntmps3
  go_wp2_with (fail)
  go_loopg [6, 7, 8, 9, 10] 4 (fun gk s6 s7 s8 s9 s10 wr => ∃ i : Nat, s10 = .int .i64 i ∧ i + gk = 4 ∧ s6 = .string (xT (msN l0 i)) ∧ s7 = .string (xT (msN l1 i)) ∧ Hid (B2 W0 wr s8 s9 (xP (msN l0 i)) (xP (msN l1 i))))
  case atStart => exact ⟨0, rfl, rfl, rfl, rfl, Lib.hid ⟨Grow.nil _ _ _, Grow.nil _ _ _, (fun b hb => by cases hb), Ux.Touch.refl _ _⟩⟩
  case round =>
    obtain ⟨i, rfl, hig, rfl, rfl, HI⟩ := hrel
    have p1 : (0 : Int) ≤ i := by omega
    obtain ⟨P0, hP0⟩ : ∃ l, msN l0 i = l := ⟨_, rfl⟩
    obtain ⟨P1, hP1⟩ : ∃ l, msN l1 i = l := ⟨_, rfl⟩
    have z0 := xT_size P0
    have z1 := xT_size P1
    have y0 := xP_len P0
    have y1 := xP_len P1
    have hs0 : msN l0 (i + 1) = P0 ++ [mAt l0 i] := by rw [msN_succ, hP0]
    have hs1 : msN l1 (i + 1) = P1 ++ [mAt l1 i] := by rw [msN_succ, hP1]
    have u0 : P0.length = i := by rw [← hP0, msN_len]
    have u1 : P1.length = i := by rw [← hP1, msN_len]
    have hm0 : ∀ m ∈ P0, m < 3 := by rw [← hP0]; exact msN_lt l0 i
    have hm1 : ∀ m ∈ P1, m < 3 := by rw [← hP1]; exact msN_lt l1 i
    rw [hP0, hP1] at HI ⊢
    obtain ⟨a8, c8, rfl⟩ := HI.out.form
    obtain ⟨a9, c9, rfl⟩ := HI.out.swap.form
    obtain ⟨n8, hn8⟩ : ∃ n, (xP P0).length = n := ⟨_, rfl⟩
    obtain ⟨n9, hn9⟩ : ∃ n, (xP P1).length = n := ⟨_, rfl⟩
    rw [hn8, hn9] at HI ⊢
    rw [hn8] at y0
    rw [hn9] at y1
    by_cases hi4 : i < 4
    · obtain ⟨g', rfl⟩ : ∃ g', gk = g' + 1 := ⟨gk - 1, by omega⟩
      have j2 : (i : Int) < 4 := by omega
      obtain ⟨m0, hm0e⟩ : ∃ m, mAt l0 i = m := ⟨_, rfl⟩
      obtain ⟨m1, hm1e⟩ : ∃ m, mAt l1 i = m := ⟨_, rfl⟩
      have b0 : m0 < 3 := by rw [← hm0e]; exact mAt_lt l0 i
      have b1 : m1 < 3 := by rw [← hm1e]; exact mAt_lt l1 i
      have HM := Lib.hid (And.intro hm0e (And.intro hm1e (And.intro hs0 (And.intro hs1 (And.intro u0 (And.intro u1 (And.intro z0 (And.intro z1 (And.intro hn8 (And.intro hn9 (And.intro y0 (And.intro y1 (And.intro b0 b1)))))))))))))
      clear hi4 hm0e hm1e hs0 hs1 u0 u1 z0 z1 hn8 hn9 y0 y1 hm0 hm1 hP0 hP1
      go_upto_if 24 with (fail)
      go_cut [11] (fun s11 wx => s11 = .int .i64 (m0 : Nat) ∧ wr = wx)
      case first =>
        cases hx : l0[i]? with
        | none =>
          have hin : ¬ (i < n0) := by have := List.getElem?_eq_none_iff.1 hx; have := HL.out.1; omega
          have e0 : m0 = 0 := by rw [← HM.out.1]; unfold mAt; rw [hx]
          clear hx
          go_wp2_with (fail)
          go_meet
          exact ⟨by rw [e0]; rfl, rfl⟩
        | some x =>
          have hin : i < n0 := by have := (List.getElem?_eq_some_iff.1 hx).1; have := HL.out.1; omega
          have e0 : m0 = mk3 x := by rw [← HM.out.1]; unfold mAt; rw [hx]
          obtain ⟨g, o, rfl, hc⟩ := HN.out.1 wr (H0.out.trans HI.out.2.2.2 fun _ _ f => f) i x hx
          have hk := mk3_val x
          rw [← e0] at hk
          clear hx e0
          go_wp2_with (fail)
          go_meet
          exact ⟨rfl, rfl⟩
      obtain ⟨rfl, rfl⟩ := hcut
      go_upto_if 34 with (fail)
      go_cut [12] (fun s12 wx => s12 = .int .i64 (m1 : Nat) ∧ wr = wx)
      case first =>
        cases hx : l1[i]? with
        | none =>
          have hin : ¬ (i < n1) := by have := List.getElem?_eq_none_iff.1 hx; have := HL.out.2.1; omega
          have e0 : m1 = 0 := by rw [← HM.out.2.1]; unfold mAt; rw [hx]
          clear hx
          go_wp2_with (fail)
          go_meet
          exact ⟨by rw [e0]; rfl, rfl⟩
        | some x =>
          have hin : i < n1 := by have := (List.getElem?_eq_some_iff.1 hx).1; have := HL.out.2.1; omega
          have e0 : m1 = mk3 x := by rw [← HM.out.2.1]; unfold mAt; rw [hx]
          obtain ⟨g, o, rfl, hc⟩ := HN.out.2 wr (H0.out.trans HI.out.2.2.2 fun _ _ f => f) i x hx
          have hk := mk3_val x
          rw [← e0] at hk
          clear hx e0
          go_wp2_with (fail)
          go_meet
          exact ⟨rfl, rfl⟩
      obtain ⟨rfl, rfl⟩ := hcut
      go_upto_region 12 with (fail)
      obtain ⟨k0, hk0⟩ : ∃ n, (xT P0).size = n := ⟨_, rfl⟩
      obtain ⟨k1, hk1⟩ : ∃ n, (xT P1).size = n := ⟨_, rfl⟩
      obtain ⟨A0, hA0⟩ : ∃ A, xT P0 ++ (⟨#[97]⟩ : ByteArray) = A := ⟨_, rfl⟩
      obtain ⟨A1, hA1⟩ : ∃ A, xT P1 ++ (⟨#[97]⟩ : ByteArray) = A := ⟨_, rfl⟩
      obtain ⟨q0, hq0⟩ : ∃ n, A0.size = n := ⟨_, rfl⟩
      obtain ⟨q1, hq1⟩ : ∃ n, A1.size = n := ⟨_, rfl⟩
      obtain ⟨r0, hr0⟩ : ∃ n, (mT m0).size = n := ⟨_, rfl⟩
      obtain ⟨r1, hr1⟩ : ∃ n, (mT m1).size = n := ⟨_, rfl⟩
      have hb : k0 ≤ 100 ∧ k1 ≤ 100 ∧ q0 ≤ 101 ∧ q1 ≤ 101 ∧ r0 ≤ 2 ∧ r1 ≤ 2 := by
        have e0 : A0.size = k0 + 1 := by rw [← hA0, ByteArray.size_append, hk0]; rfl
        have e1 : A1.size = k1 + 1 := by rw [← hA1, ByteArray.size_append, hk1]; rfl
        have z0 := HM.out.2.2.2.2.2.2.1
        have z1 := HM.out.2.2.2.2.2.2.2.1
        have u0 := HM.out.2.2.2.2.1
        have u1 := HM.out.2.2.2.2.2.1
        rw [hk0] at z0
        rw [hk1] at z1
        have f0 := mT_size m0
        have f1 := mT_size m1
        omega
      obtain ⟨i1, i2, i3, i4, i5, i6⟩ := hb
      have j3 : ¬ ((9223372036854775807 : Int) < (k0 : Int) + 1) := by omega
      have j4 : ¬ ((9223372036854775807 : Int) < (k1 : Int) + 1) := by omega
      have j5 : ¬ ((9223372036854775807 : Int) < (q0 : Int) + r0) := by omega
      have j6 : ¬ ((9223372036854775807 : Int) < (q1 : Int) + r1) := by omega
      have b0 := HM.out.2.2.2.2.2.2.2.2.2.2.2.2.1
      have b1 := HM.out.2.2.2.2.2.2.2.2.2.2.2.2.2
      have d0 := HC.out m0 b0 wr HI.out.2.2.2
      have d1 := HC.out m1 b1 wr HI.out.2.2.2
      refine Ux.wp_region_plan (fun _ w' => w'.cell? ⟨M, m0, none⟩ = some (.string (mT m0)) ∧ w'.cell? ⟨M, m1, none⟩ = some (.string (mT m1))) (.q [0, 1, 2, 3, 4, 7, 8, 9, 10, 11] (.h false [5, 12] (.q [6, 13, 14] (.line [15]))))
        (by kernel_rfl) (by kernel_rfl) (by intro _ _ d _ _ h; cases d <;> exact h) ?hS ?_
      case hS => (intro c; cases c <;> (simp only [World.cell?_drew]; first | exact True.intro | (refine ⟨?_, ?_⟩ <;> assumption) | assumption | (repeat (first | assumption | (refine And.intro ?_ ?_)))))
      simp only [Ux.wpPlan, Ux.pickOps, Ux.keeps, List.getElem?_toArray, List.getElem?_cons_succ, List.getElem?_cons_zero]
      repeat (first
        | go_big_quiet_step (fail)
        | (with_reducible refine wpQuiet_nil ?_)
        | (refine Ux.quiet_held rfl ?_; apply Exists.intro; refine ⟨fun w' hS => ?_, ?_⟩; (focus ((try dsimp only at hS); go_simp; first | done | with_reducible rfl)); simp only [Act.put, List.setIfInBounds_toArray, List.set_cons_zero, List.set_cons_succ]))
      clear d0 d1
      go_upto_region 13 with (fail)
      have hA : A0 ++ mT m0 = xT (P0 ++ [m0]) := by rw [← hA0, xT_snoc]
      have hA' : A1 ++ mT m1 = xT (P1 ++ [m1]) := by rw [← hA1, xT_snoc]
      rw [hA, hA']
      have hn8 := HM.out.2.2.2.2.2.2.2.2.1
      have hn9 := HM.out.2.2.2.2.2.2.2.2.2.1
      have y0 := HM.out.2.2.2.2.2.2.2.2.2.2.1
      have y1 := HM.out.2.2.2.2.2.2.2.2.2.2.2.1
      have u0 := HM.out.2.2.2.2.1
      have u1 := HM.out.2.2.2.2.2.1
      clear hA hA' hA0 hA1 hk0 hk1 hq0 hq1 hr0 hr1 i1 i2 i3 i4 i5 i6 j3 j4 j5 j6
      obtain ⟨W1, hW1⟩ : ∃ W, wr.drew = W := ⟨_, rfl⟩
      rw [hW1]
      have hB1 : B2 W0 W1 (.slice a8 n8 c8) (.slice a9 n9 c9) (xP P0) (xP P1) := by
        rw [← hW1]
        exact ⟨HI.out.1.touch0 (Ux.Touch.refl _ _).drew, HI.out.2.1.touch0 (Ux.Touch.refl _ _).drew, HI.out.2.2.1, HI.out.2.2.2.drew⟩
      obtain ⟨x8, d8, W2, run1, hB2⟩ := hB1.app hn8 (by omega) 32
      obtain ⟨x9, d9, W3, run2, hB3⟩ := hB2.swap.app hn9 (by omega) 32
      have HB3 := Lib.hid hB3.swap
      have p32 : ((32 : Nat) : Int) = 32 := rfl
      rw [p32] at run1 run2
      have R1 := Lib.hid run1
      have R2 := Lib.hid run2
      clear hW1 hB1 hB2 hB3 p32 run1 run2 hn8 hn9 y0 y1 u0 u1
      go_upto_if 62 with (first | (at_builtin; refine Ux.wpList_app (v1 := .slice a8 n8 c8) (x1 := .slice (some ⟨W1.heap.size, 0, none⟩) 1 1) rfl _ _ _ _ rfl rfl rfl (R1.out _) ?_) | (at_builtin; refine Ux.wpList_app (v1 := .slice a9 n9 c9) (x1 := .slice (some ⟨W2.heap.size, 0, none⟩) 1 1) rfl _ _ _ _ rfl rfl rfl (R2.out _) ?_))
      obtain ⟨Z, hZ⟩ : ∃ Z, decide (0 < m0) = Z := ⟨_, rfl⟩
      rw [hZ]
      go_cut [8] (fun s8 wx => Hid (B2 W0 wx s8 (.slice x9 (n9 + 1 : Nat) d9) (xP (P0 ++ [m0])) (xP P1 ++ [32])))
      case first =>
        cases Z with
        | true =>
          have hz : 0 < m0 := of_decide_eq_true hZ
          have g0 : (0 : Int) ≤ m0 := by omega
          have g1 : (m0 : Int) ≤ 2 := by have := HM.out.2.2.2.2.2.2.2.2.2.2.2.2.1; omega
          obtain ⟨xa, ca, W4, run4, hB4⟩ := HB3.out.app (by rw [List.length_append, HM.out.2.2.2.2.2.2.2.2.1]; rfl) (by have := HM.out.2.2.2.2.2.2.2.2.2.2.1; have := HM.out.2.2.2.2.1; have := HM.out.2.2.2.2.2.1; omega) (35 + m0)
          have HB4 := Lib.hid hB4
          have pc : ((35 + m0 : Nat) : Int) = 35 + (m0 : Int) := by omega
          rw [pc] at run4
          have R4 := Lib.hid run4
          have HZ := Lib.hid hZ
          clear hz hZ hB4 run4 pc
          go_wp2_with (at_builtin; refine Ux.wpList_app (v1 := .slice x8 (n8 + 1) d8) (x1 := .slice (some ⟨W3.heap.size, 0, none⟩) 1 1) rfl _ _ _ _ rfl rfl rfl (R4.out _) ?_)
          go_meet
          have e : xP (P0 ++ [m0]) = xP P0 ++ [32] ++ [35 + m0] := by
            rw [xP_app]
            show xP P0 ++ ((32 :: if 0 < m0 then [35 + m0] else []) ++ []) = _
            rw [if_pos (of_decide_eq_true HZ.out)]
            simp
          rw [e]
          exact Lib.hid HB4.out
        | false =>
          have hz : ¬ 0 < m0 := of_decide_eq_false hZ
          have e : xP (P0 ++ [m0]) = xP P0 ++ [32] := by
            rw [xP_app]
            show xP P0 ++ ((32 :: if 0 < m0 then [35 + m0] else []) ++ []) = _
            rw [if_neg hz]
            rfl
          have HE := Lib.hid e
          clear hz hZ e
          go_wp2_with (fail)
          go_meet
          rw [HE.out]
          exact Lib.hid HB3.out
      clear hZ
      obtain ⟨y8, e8, rfl⟩ := hcut.out.form
      obtain ⟨n8', hn8'⟩ : ∃ n, (xP (P0 ++ [m0])).length = n := ⟨_, rfl⟩
      rw [hn8'] at hcut ⊢
      clear hn8'
      go_upto_if 69 with (fail)
      obtain ⟨Z, hZ⟩ : ∃ Z, decide (0 < m1) = Z := ⟨_, rfl⟩
      rw [hZ]
      have HB := Lib.hid hcut.out
      clear hcut
      cases Z with
      | true =>
        have hz : 0 < m1 := of_decide_eq_true hZ
        have g0 : (0 : Int) ≤ m1 := by omega
        have g1 : (m1 : Int) ≤ 2 := by have := HM.out.2.2.2.2.2.2.2.2.2.2.2.2.2; omega
        obtain ⟨xa, ca, W4, run4, hB4⟩ := HB.out.swap.app (by rw [List.length_append, HM.out.2.2.2.2.2.2.2.2.2.1]; rfl) (by have := HM.out.2.2.2.2.2.2.2.2.2.2.2.1; have := HM.out.2.2.2.2.1; have := HM.out.2.2.2.2.2.1; omega) (35 + m1)
        have HB4 := Lib.hid hB4
        have pc : ((35 + m1 : Nat) : Int) = 35 + (m1 : Int) := by omega
        rw [pc] at run4
        have R4 := Lib.hid run4
        have HZ := Lib.hid hZ
        clear hz hZ hB4 run4 pc
        go_wp2_with (at_builtin; refine Ux.wpList_app (v1 := .slice x9 (n9 + 1) d9) (x1 := .slice (some ⟨wc.heap.size, 0, none⟩) 1 1) rfl _ _ _ _ rfl rfl rfl (R4.out _) ?_)
        go_roundg g'
        case measure => omega
        case rel =>
          refine ⟨i + 1, rfl, by omega, by rw [HM.out.2.2.1, HM.out.1], by rw [HM.out.2.2.2.1, HM.out.2.1], ?_⟩
          rw [HM.out.2.2.1, HM.out.2.2.2.1, HM.out.1, HM.out.2.1]
          have e : xP (P1 ++ [m1]) = xP P1 ++ [32] ++ [35 + m1] := by
            rw [xP_app]
            show xP P1 ++ ((32 :: if 0 < m1 then [35 + m1] else []) ++ []) = _
            rw [if_pos (of_decide_eq_true HZ.out)]
            simp
          rw [e]
          exact Lib.hid HB4.out.swap
      | false =>
        have hz : ¬ 0 < m1 := of_decide_eq_false hZ
        have e : xP (P1 ++ [m1]) = xP P1 ++ [32] := by
          rw [xP_app]
          show xP P1 ++ ((32 :: if 0 < m1 then [35 + m1] else []) ++ []) = _
          rw [if_neg hz]
          rfl
        have HE := Lib.hid e
        clear hz hZ e
        go_wp2_with (fail)
        go_roundg g'
        case measure => omega
        case rel =>
          refine ⟨i + 1, rfl, by omega, by rw [HM.out.2.2.1, HM.out.1], by rw [HM.out.2.2.2.1, HM.out.2.1], ?_⟩
          rw [HM.out.2.2.1, HM.out.2.2.2.1, HM.out.1, HM.out.2.1]
          rw [HE.out]
          exact Lib.hid HB.out

    · have j2 : ¬ ((i : Int) < 4) := by omega
      have hi : i = 4 := by omega
      have HB := Lib.hid HI.out
      obtain ⟨X0, hX0⟩ : ∃ X, xP P0 = X := ⟨_, rfl⟩
      obtain ⟨X1, hX1⟩ : ∃ X, xP P1 = X := ⟨_, rfl⟩
      rw [hX0, hX1] at HB
      rw [hX0] at hn8
      rw [hX1] at hn9
      obtain ⟨R, hR⟩ : ∃ R, cmpL (sv X0.reverse) (sv X1.reverse) = R := ⟨_, rfl⟩
      have HX := Lib.hid (And.intro hX0 (And.intro hX1 (And.intro hn8 (And.intro hn9 (And.intro hR (And.intro (u0.trans hi) (And.intro (u1.trans hi) (And.intro z0 (And.intro z1 (And.intro hm0 (And.intro hm1 (And.intro y0 y1))))))))))))
      have e8 : (n8 : Int) ≤ 8 := by omega
      have e9 : (n9 : Int) ≤ 8 := by omega
      obtain ⟨W2, rfl⟩ : ∃ W, W = wr := ⟨_, rfl⟩
      clear hX0 hX1 hn8 hn9 hR u0 u1 z0 z1 hm0 hm1 y0 y1 hig hi4 hi hP0 hP1 hs0 hs1 HI
      go_wp2_with (fail)
      go_loopg [13, 14] 9 (fun gk s13 s14 wx => ∃ (j : Nat) (v : Int), s13 = .int .i64 v ∧ s14 = .int .i64 j ∧ j + gk = 9 ∧ Hid (((v = 0 ∧ cmpL ((sv X0.reverse).drop j) ((sv X1.reverse).drop j) = R) ∨ (v ≠ 0 ∧ v = R)) ∧ Ux.Touch (fun _ => False) W2 wx))
      case atStart => exact ⟨0, 0, rfl, rfl, rfl, Lib.hid ⟨.inl ⟨rfl, by rw [List.drop_zero, List.drop_zero]; exact HX.out.2.2.2.2.1⟩, Ux.Touch.refl _ _⟩⟩
      case round =>
        obtain ⟨j, v, rfl, rfl, hjg, HJ⟩ := hrel
        have j0 : (0 : Int) ≤ j := by omega
        have j9 : (j : Int) ≤ 9 := by omega
        go_upto_region 20 with (fail)
        go_cut [88] (fun s88 wx => s88 = .bool (decide (v = 0) && (decide (j < n8) || decide (j < n9))) ∧ wr = wx)
        case first =>
          by_cases hv : v = 0
          · subst hv
            by_cases h8 : j < n8
            · have k8 : (j : Int) < n8 := by omega
              have d8 : decide (j < n8) = true := by simp [h8]
              clear h8
              go_wp2_with (fail)
              go_meet
              exact ⟨by simp [d8], rfl⟩
            · have k8 : ¬ ((j : Int) < n8) := by omega
              have d8 : decide (j < n8) = false := by simp; omega
              clear h8
              go_wp2_with (fail)
              go_meet
              exact ⟨by simp [d8], rfl⟩
          · have hz : (v == 0) = false := by simp [hv]
            have hz2 : decide (v = 0) = false := by simp [hv]
            go_wp2_with (fail)
            go_meet
            exact ⟨by simp [hz2], rfl⟩
        obtain ⟨rfl, rfl⟩ := hcut
        obtain ⟨V, hV⟩ : ∃ V, (decide (v = 0) && (decide (j < n8) || decide (j < n9))) = V := ⟨_, rfl⟩
        rw [hV]
        cases V with
        | true =>
          have hv0 : v = 0 := by
            by_cases h : v = 0
            · exact h
            · simp [h] at hV
          subst hv0
          have hlt : j < n8 ∨ j < n9 := by simpa using hV
          have HC0 : cmpL ((sv X0.reverse).drop j) ((sv X1.reverse).drop j) = R := by
            rcases HJ.out.1 with h | h
            · exact h.2
            · exact absurd rfl h.1
          have HC0 := Lib.hid HC0
          obtain ⟨g', rfl⟩ : ∃ g', gk = g' + 1 := ⟨gk - 1, by omega⟩
          have l0 : (sv X0.reverse).length = n8 := by rw [Ux.sv_length, List.length_reverse]; exact HX.out.2.2.1
          have l1 : (sv X1.reverse).length = n9 := by rw [Ux.sv_length, List.length_reverse]; exact HX.out.2.2.2.1
          clear hV
          by_cases h8 : j < n8
          · by_cases h9 : j < n9
            · have k8 : ¬ ((n8 : Int) ≤ j) := by omega
              have k9 : ¬ ((n9 : Int) ≤ j) := by omega
              obtain ⟨q8, hq8⟩ : ∃ q, n8 = q + 1 := ⟨n8 - 1, by omega⟩
              obtain ⟨q9, hq9⟩ : ∃ q, n9 = q + 1 := ⟨n9 - 1, by omega⟩
              obtain ⟨y8, hy8⟩ : ∃ y, q8 = j + y := ⟨q8 - j, by omega⟩
              obtain ⟨y9, hy9⟩ : ∃ y, q9 = j + y := ⟨q9 - j, by omega⟩
              have i8 : (n8 : Int) - 1 = (q8 : Int) := by omega
              have i9 : (n9 : Int) - 1 = (q9 : Int) := by omega
              have o8 : (q8 : Int) - j = (y8 : Int) := by omega
              have o9 : (q9 : Int) - j = (y9 : Int) := by omega
              have s8 : (y8 : Int) < n8 := by omega
              have s9 : (y9 : Int) < n9 := by omega
              have t8 : (0 : Int) ≤ y8 := by omega
              have t9 : (0 : Int) ≤ y9 := by omega
              have b8 : (q8 : Int) ≤ 8 := by omega
              have b9 : (q9 : Int) ≤ 8 := by omega
              have a8' : (0 : Int) ≤ q8 := by omega
              have a9' : (0 : Int) ≤ q9 := by omega
              have f8 : y8 < n8 := by omega
              have f9 : y9 < n9 := by omega
              obtain ⟨x, hx1, hx2⟩ := rev_get X0 n8 j y8 HX.out.2.2.1 (by omega)
              obtain ⟨z, hz1, hz2⟩ := rev_get X1 n9 j y9 HX.out.2.2.2.1 (by omega)
              have hr0 := HB.out.1.row
              have hr1 := HB.out.2.1.row
              obtain ⟨ga, rfl, _, ca⟩ := hr0.at (Ux.iv_get hx1)
              obtain ⟨gb, rfl, _, cb⟩ := hr1.at (Ux.iv_get hz1)
              have HD := Lib.hid (cmpL_drop hx2 hz2)
              have HCC := Lib.hid fun W (T2 : Ux.Touch (fun _ => False) W2 W) => And.intro (T2.cell ca (fun f => f)) (T2.cell cb (fun f => f))
              clear hx1 hx2 hz1 hz2 hr0 hr1 ca cb hq8 hq9 hy8 hy9 l0 l1 h8 h9 hlt
              obtain ⟨d0, d1⟩ := HCC.out wr HJ.out.2
              go_upto_region 26 with (fail)
              refine Ux.wp_region_plan (fun _ w' => w'.cell? ⟨ga, y8, none⟩ = some (.int .i64 x) ∧ w'.cell? ⟨gb, y9, none⟩ = some (.int .i64 z)) (.q [0, 1, 2, 3, 4, 5, 6, 8, 9, 10, 11, 12, 13, 14] (.h false [7, 15] (.q [16, 17] (.line []))))
                (by kernel_rfl) (by kernel_rfl) (by intro _ _ d _ _ h; cases d <;> exact h) ?hS ?_
              case hS => (intro c; cases c <;> (simp only [World.cell?_drew]; first | exact True.intro | (refine ⟨?_, ?_⟩ <;> assumption) | assumption | (repeat (first | assumption | (refine And.intro ?_ ?_)))))
              simp only [Ux.wpPlan, Ux.pickOps, Ux.keeps, List.getElem?_toArray, List.getElem?_cons_succ, List.getElem?_cons_zero]
              repeat (first
                | go_big_quiet_step (fail)
                | (with_reducible refine wpQuiet_nil ?_)
                | (refine Ux.quiet_held rfl ?_; apply Exists.intro; refine ⟨fun w' hS => ?_, ?_⟩; (focus ((try dsimp only at hS); go_simp; first | done | with_reducible rfl)); simp only [Act.put, List.setIfInBounds_toArray, List.set_cons_zero, List.set_cons_succ]))
              clear d0 d1
              have hxz : x < z ∨ z < x ∨ x = z := by omega
              rcases hxz with h | h | rfl
              · have hc : cmpI x z = -1 := by unfold cmpI; rw [if_pos h]
                have HXX := Lib.hid hc
                clear hc
                repeat (first
                  | go_big_quiet_step (fail)
                  | (with_reducible refine wpQuiet_nil ?_)
                  | (refine Ux.quiet_held rfl ?_; apply Exists.intro; refine ⟨fun w' hS => ?_, ?_⟩; (focus ((try dsimp only at hS); go_simp; first | done | with_reducible rfl)); simp only [Act.put, List.setIfInBounds_toArray, List.set_cons_zero, List.set_cons_succ]))
                go_wp2
                go_roundg g'
                case measure => omega
                case rel =>
                  refine ⟨j + 1, -1, rfl, rfl, by omega, Lib.hid ⟨.inr ⟨by decide, ?_⟩, HJ.out.2.drew⟩⟩
                  rw [← HC0.out, HD.out, HXX.out, if_neg (by decide)]
              · have hc : cmpI x z = 1 := by unfold cmpI; rw [if_neg (by omega), if_pos h]
                have HXX := Lib.hid hc
                have h2 : ¬ x < z := by omega
                clear hc
                repeat (first
                  | go_big_quiet_step (fail)
                  | (with_reducible refine wpQuiet_nil ?_)
                  | (refine Ux.quiet_held rfl ?_; apply Exists.intro; refine ⟨fun w' hS => ?_, ?_⟩; (focus ((try dsimp only at hS); go_simp; first | done | with_reducible rfl)); simp only [Act.put, List.setIfInBounds_toArray, List.set_cons_zero, List.set_cons_succ]))
                go_upto_region 28 with (fail)
                obtain ⟨d0, d1⟩ := HCC.out wr.drew HJ.out.2.drew
                refine Ux.wp_region_plan (fun _ w' => w'.cell? ⟨ga, y8, none⟩ = some (.int .i64 x) ∧ w'.cell? ⟨gb, y9, none⟩ = some (.int .i64 z)) (.q [0, 1, 2, 3, 4, 5, 6, 8, 9, 10, 11, 12, 13, 14] (.h false [7, 15] (.q [16, 17] (.line []))))
                  (by kernel_rfl) (by kernel_rfl) (by intro _ _ d _ _ h; cases d <;> exact h) ?hS ?_
                case hS => (intro c; cases c <;> (simp only [World.cell?_drew]; first | exact True.intro | (refine ⟨?_, ?_⟩ <;> assumption) | assumption | (repeat (first | assumption | (refine And.intro ?_ ?_)))))
                simp only [Ux.wpPlan, Ux.pickOps, Ux.keeps, List.getElem?_toArray, List.getElem?_cons_succ, List.getElem?_cons_zero]
                repeat (first
                  | go_big_quiet_step (fail)
                  | (with_reducible refine wpQuiet_nil ?_)
                  | (refine Ux.quiet_held rfl ?_; apply Exists.intro; refine ⟨fun w' hS => ?_, ?_⟩; (focus ((try dsimp only at hS); go_simp; first | done | with_reducible rfl)); simp only [Act.put, List.setIfInBounds_toArray, List.set_cons_zero, List.set_cons_succ]))
                clear d0 d1
                repeat (first
                  | go_big_quiet_step (fail)
                  | (with_reducible refine wpQuiet_nil ?_)
                  | (refine Ux.quiet_held rfl ?_; apply Exists.intro; refine ⟨fun w' hS => ?_, ?_⟩; (focus ((try dsimp only at hS); go_simp; first | done | with_reducible rfl)); simp only [Act.put, List.setIfInBounds_toArray, List.set_cons_zero, List.set_cons_succ]))
                go_wp2
                go_roundg g'
                case measure => omega
                case rel =>
                  refine ⟨j + 1, 1, rfl, rfl, by omega, Lib.hid ⟨.inr ⟨by decide, ?_⟩, HJ.out.2.drew.drew⟩⟩
                  rw [← HC0.out, HD.out, HXX.out, if_neg (by decide)]
              · have hxx : ¬ x < x := by omega
                repeat (first
                  | go_big_quiet_step (fail)
                  | (with_reducible refine wpQuiet_nil ?_)
                  | (refine Ux.quiet_held rfl ?_; apply Exists.intro; refine ⟨fun w' hS => ?_, ?_⟩; (focus ((try dsimp only at hS); go_simp; first | done | with_reducible rfl)); simp only [Act.put, List.setIfInBounds_toArray, List.set_cons_zero, List.set_cons_succ]))
                go_upto_region 28 with (fail)
                obtain ⟨d0, d1⟩ := HCC.out wr.drew HJ.out.2.drew
                refine Ux.wp_region_plan (fun _ w' => w'.cell? ⟨ga, y8, none⟩ = some (.int .i64 x) ∧ w'.cell? ⟨gb, y9, none⟩ = some (.int .i64 x)) (.q [0, 1, 2, 3, 4, 5, 6, 8, 9, 10, 11, 12, 13, 14] (.h false [7, 15] (.q [16, 17] (.line []))))
                  (by kernel_rfl) (by kernel_rfl) (by intro _ _ d _ _ h; cases d <;> exact h) ?hS ?_
                case hS => (intro c; cases c <;> (simp only [World.cell?_drew]; first | exact True.intro | (refine ⟨?_, ?_⟩ <;> assumption) | assumption | (repeat (first | assumption | (refine And.intro ?_ ?_)))))
                simp only [Ux.wpPlan, Ux.pickOps, Ux.keeps, List.getElem?_toArray, List.getElem?_cons_succ, List.getElem?_cons_zero]
                repeat (first
                  | go_big_quiet_step (fail)
                  | (with_reducible refine wpQuiet_nil ?_)
                  | (refine Ux.quiet_held rfl ?_; apply Exists.intro; refine ⟨fun w' hS => ?_, ?_⟩; (focus ((try dsimp only at hS); go_simp; first | done | with_reducible rfl)); simp only [Act.put, List.setIfInBounds_toArray, List.set_cons_zero, List.set_cons_succ]))
                clear d0 d1
                repeat (first
                  | go_big_quiet_step (fail)
                  | (with_reducible refine wpQuiet_nil ?_)
                  | (refine Ux.quiet_held rfl ?_; apply Exists.intro; refine ⟨fun w' hS => ?_, ?_⟩; (focus ((try dsimp only at hS); go_simp; first | done | with_reducible rfl)); simp only [Act.put, List.setIfInBounds_toArray, List.set_cons_zero, List.set_cons_succ]))
                go_wp2
                go_roundg g'
                case measure => omega
                case rel =>
                  refine ⟨j + 1, 0, rfl, rfl, by omega, Lib.hid ⟨.inl ⟨rfl, ?_⟩, HJ.out.2.drew.drew⟩⟩
                  have h := HD.out
                  rw [show cmpI x x = 0 from by unfold cmpI; rw [if_neg (by omega), if_neg (by omega)], if_pos rfl] at h
                  rw [← HC0.out, h]
            · have k8 : ¬ ((n8 : Int) ≤ j) := by omega
              have k9 : (n9 : Int) ≤ j := by omega
              have hR1 : (1 : Int) = R := by
                rw [← HC0.out]
                obtain ⟨x, hx⟩ : ∃ x, (sv X0.reverse)[j]? = some x := ⟨_, List.getElem?_eq_getElem (by omega)⟩
                rw [cmpL_over hx (by omega)]
              have HR1 := Lib.hid hR1
              have f8 : ¬ (n8 ≤ j) := by omega
              have f9 : n9 ≤ j := by omega
              clear hR1 l0 l1 h8 h9 hlt
              go_wp2
              go_roundg g'
              case measure => omega
              case rel => exact ⟨j + 1, 1, rfl, rfl, by omega, Lib.hid ⟨.inr ⟨by decide, HR1.out⟩, HJ.out.2⟩⟩
          · have h9 : j < n9 := by omega
            have k8 : (n8 : Int) ≤ j := by omega
            have f8 : n8 ≤ j := by omega
            have hR1 : (-1 : Int) = R := by
              rw [← HC0.out]
              obtain ⟨x, hx⟩ : ∃ x, (sv X1.reverse)[j]? = some x := ⟨_, List.getElem?_eq_getElem (by omega)⟩
              rw [List.drop_eq_nil_of_le (by omega), Ux.drop_get hx, cmpL]
            have HR1 := Lib.hid hR1
            clear hR1 l0 l1 h8 h9 hlt
            go_wp2
            go_roundg g'
            case measure => omega
            case rel => exact ⟨j + 1, -1, rfl, rfl, by omega, Lib.hid ⟨.inr ⟨by decide, HR1.out⟩, HJ.out.2⟩⟩
        | false =>
          have hvR : v = R := by
            rcases HJ.out.1 with ⟨h0, h⟩ | ⟨_, h⟩
            · have l0 : (sv X0.reverse).length = n8 := by rw [Ux.sv_length, List.length_reverse]; exact HX.out.2.2.1
              have l1 : (sv X1.reverse).length = n9 := by rw [Ux.sv_length, List.length_reverse]; exact HX.out.2.2.2.1
              rw [h0] at hV ⊢
              have hh : n8 ≤ j ∧ n9 ≤ j := by simpa using hV
              rw [List.drop_eq_nil_of_le (by omega), List.drop_eq_nil_of_le (by omega), cmpL] at h
              exact h
            · exact h
          rw [hvR]
          have TW := H0.out.trans (HB.out.2.2.2.trans HJ.out.2 fun _ _ f => f) fun _ _ f => f
          have H3 := Lib.hid TW
          clear hvR hV TW
          have hl4 : P0.length = P1.length := HX.out.2.2.2.2.2.1.trans HX.out.2.2.2.2.2.2.1.symm
          have sz0 : (xT P0).size ≤ 1000000 := by have := HX.out.2.2.2.2.2.2.2.1; have := HX.out.2.2.2.2.2.1; omega
          have sz1 : (xT P1).size ≤ 1000000 := by have := HX.out.2.2.2.2.2.2.2.2.1; have := HX.out.2.2.2.2.2.2.1; omega
          have HSZ := Lib.hid (And.intro hl4 (And.intro sz0 sz1))
          clear hl4 sz0 sz1
          go_wp2_with (go_at_call 15; fail)
          refine (croot_ 2 false true _).mono ?_
          rintro e w5 ⟨B1, mb1, rfl, hT1, T1⟩
          unfold cV
          obtain ⟨W5, hW5⟩ : ∃ W, w5.alloc (.cells #[.int .i64 3, .int .i64 2, .bool false, .bool true, .pointer (some ⟨B1, 0, none⟩)] 26) = W := ⟨_, rfl⟩
          have t1 : Ux.Touch (fun _ => False) w5 W5 := by rw [← hW5]; exact (Ux.Touch.refl _ _).alloc _
          obtain ⟨q, hq⟩ : ∃ q, w5.heap.size = q := ⟨_, rfl⟩
          have r1 : W5.heap[q]? = some (.cells #[.int .i64 3, .int .i64 2, .bool false, .bool true, .pointer (some ⟨B1, 0, none⟩)] 26 (0, 0)) := by rw [← hW5, ← hq]; exact heap_alloc_new w5 _
          have H5 := Lib.hid (And.intro (hT1.touch0 t1) (And.intro (CAt.of r1) (H3.out.trans (T1.trans t1 fun _ _ f => f) fun _ _ f => f)))
          have HW5 := Lib.hid (And.intro hW5 hq)
          clear hT1 T1 t1 r1 hW5 hq
          go_upto_region 31 with (fail)
          rw [HW5.out.1, HW5.out.2]
          have ce1 : cmpC 3 2 false true (some ⟨B1, 0, none⟩) rootE (xT P0) (xT P1) = R := by
            refine Eq.trans (cmpC3 2 ⟨by decide, by decide⟩ false true ⟨B1, 0, none⟩ rootE (xT P0) (xT P1)) ?_
            rw [el_xT, el_xT, Ux.backs_2 P0 P1 HSZ.out.1 HX.out.2.2.2.2.2.2.2.2.2.1 HX.out.2.2.2.2.2.2.2.2.2.2.1, HX.out.1, HX.out.2.1]
            exact HX.out.2.2.2.2.1
          have HC1 := Lib.hid fun W (T : Ux.Touch (fun _ => False) W5 W) => ccmp_ 3 2 false true (some ⟨B1, 0, none⟩) rootE (xT P0) (xT P1) W (fun _ p hp => by cases hp; exact ⟨B1, mb1, rfl, H5.out.1.touch0 T⟩) (HT.out.touch (H5.out.2.2.trans T fun _ _ f => f)) HSZ.out.2.1 HSZ.out.2.2
          rw [ce1] at HC1
          unfold cV at HC1
          obtain ⟨x0, x1, x2, x3, x4⟩ := H5.out.2.1
          clear ce1
          go_wp2_with (go_at_call 16; fail)
          refine (HC1.out W5 (Ux.Touch.refl _ _)).mono ?_
          rintro e w6 ⟨rfl, T6⟩
          have H6 := Lib.hid (H5.out.2.2.trans T6 fun _ _ f => f)
          clear T6 x0 x1 x2 x3 x4
          go_wp2_with (go_at_call 15; fail)
          refine (croot_ 1 false true _).mono ?_
          rintro e w7 ⟨B2, mb2, rfl, hT2, T2⟩
          have ce2 : cmpC 3 1 false true (some ⟨B2, 0, none⟩) rootE (xT P0) (xT P1) = 0 := by
            refine Eq.trans (cmpC3 1 ⟨by decide, by decide⟩ false true ⟨B2, 0, none⟩ rootE (xT P0) (xT P1)) ?_
            rw [el_xT, el_xT, Ux.backs_1 true P0 P1 HSZ.out.1]
          have T67 := H6.out.trans T2 fun _ _ f => f
          have HC2 := Lib.hid (ccmp_ 3 1 false true (some ⟨B2, 0, none⟩) rootE (xT P0) (xT P1) w7 (fun _ p hp => by cases hp; exact ⟨B2, mb2, rfl, hT2⟩) (HT.out.touch T67) HSZ.out.2.1 HSZ.out.2.2)
          rw [ce2] at HC2
          have H7 := Lib.hid T67
          clear ce2 T67 T2 hT2
          go_wp2_with (go_at_call 16; fail)
          refine HC2.out.mono ?_
          rintro e w8 ⟨rfl, T8⟩
          have H8 := Lib.hid (H7.out.trans T8 fun _ _ f => f)
          clear T8
          go_wp2_with (go_at_call 17; fail)
          refine (AW.out w8 H8.out).mono ?_
          rintro e w9 ⟨rfl, T9⟩
          have H9 := Lib.hid (H8.out.trans T9 fun _ _ f => f)
          clear T9
          go_wp2
          go_returns
          exact ⟨rfl, H9.out⟩

end Go.Proofs.YtkeodddpnmnheaaGreatDoor
