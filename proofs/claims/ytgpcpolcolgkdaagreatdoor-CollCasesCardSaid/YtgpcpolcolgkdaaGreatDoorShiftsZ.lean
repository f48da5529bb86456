/- PART OF THE PROOF THAT THIS CLAIM HOLDS OF THE GIVEN PROGRAM, FOR EVERY INPUT THAT THE STATEMENT NAMES. No condition besides the statement's own. -/
import Derived.Test.YtgpcpolcolgkdaaGreatDoorUxCollAZ
import Derived.Test.YtgpcpolcolgkdaaGreatDoorReadAZ
import Derived.Test.YtgpcpolcolgkdaaGreatDoorRows
import Derived.WalkKit
import Derived.Handy
import Derived.Laws.EntriesVeiled
import Derived.WalkSpells
import Derived.WalkLawsBesides
import Derived.BigQuiet
import Derived.Deep.QuietTactic
import Derived.Deep.Cut
import Derived.Deep.DeepCutAuto
import Derived.Lib.Overlaps
import Derived.Laws.Externs
import Derived.Lib.Hide
import Derived.Test.YtgpcpolcolgkdaaGreatDoorUxPlanAllZ
import Derived.Test.YtgpcpolcolgkdaaGreatDoorUxMemAZ
import Derived.Deep.LoopGhost
namespace Go.Proofs.YtgpcpolcolgkdaaGreatDoor
open Go.RowKit
open Go.RowKit
open Ux (Ent rootE rootT wghC eLetter eMark eMk)
open Ux.Sign (cp raw signs)

/-- bytes that are small letters -/
def letB (b : UInt8) : Prop := 97 ≤ b.toNat ∧ b.toNat ≤ 122
def vb (i : Nat) : UInt8 := UInt8.ofNat (Ux.rootSp.getD i 0)
theorem vb_nat : ∀ i, i < 6 → (vb i).toNat = Ux.rootSp.getD i 0 ∧ (vb i).toNat < 128 := by decide +kernel
theorem el_lets (l : List UInt8) (h : ∀ b ∈ l, letB b) : Ux.elemsE rootE (l.map UInt8.toNat) = Ux.lets (l.map fun b => b.toNat - 97) := by
  rw [Ux.elems_single Ux.rootE_one]
  unfold Ux.lets
  induction l with
  | nil => rfl
  | cons b l ih =>
    rw [List.map_cons, List.flatMap_cons, ih (fun c hc => h c (List.mem_cons_of_mem _ hc)), List.map_cons, List.map_cons]
    have hb := h b List.mem_cons_self
    unfold letB at hb
    have h1 := Ux.root_letter (b.toNat - 97) (by omega)
    rw [show 97 + (b.toNat - 97) = b.toNat by omega] at h1
    rw [h1]
    rfl
theorem el_shift (x y : List UInt8) (hx : ∀ b ∈ x, letB b) (hy : ∀ b ∈ y, letB b) (i : Nat) (hi : i < 6) : Ux.elemsE rootE ((x ++ vb i :: y).map UInt8.toNat) = Ux.lets (x.map fun b => b.toNat - 97) ++ (eMk (16 + 4 * i) 32 2 true :: Ux.lets (y.map fun b => b.toNat - 97)) := by
  rw [List.map_append, List.map_cons, Ux.elems_app Ux.rootE_one, el_lets x hx, show (vb i).toNat :: y.map UInt8.toNat = [(vb i).toNat] ++ y.map UInt8.toNat from rfl, Ux.elems_app Ux.rootE_one, el_lets y hy, Ux.elems_single Ux.rootE_one [(vb i).toNat], (vb_nat i hi).1]
  show _ ++ ((Ux.findE rootE [Ux.rootSp.getD i 0]).getD _ ++ [] ++ _) = _
  rw [Ux.root_sp i hi]
  rfl
theorem sg_ascii {l : List UInt8} (h : ∀ b ∈ l, b.toNat < 128) : signs l = l.map UInt8.toNat := Ux.Sign.signs_ascii l h
theorem shift_el (s t : ByteArray) (p n i : Nat) (hn : s.size = n) (hp : p ≤ n) (hi : i < 6) (hs : ∀ b ∈ s.data.toList, letB b) (ht : t.data.toList = s.data.toList.take p ++ vb i :: s.data.toList.drop p) :
    ∃ x y : List Nat, (∀ j ∈ y, j < 26) ∧ (y = [] ↔ p = n) ∧ elB rootE s = Ux.lets x ++ Ux.lets y ∧ elB rootE t = Ux.lets x ++ (eMk (16 + 4 * i) 32 2 true :: Ux.lets y) := by
  have hl : s.data.toList.length = n := hn
  have h1 : ∀ b ∈ s.data.toList.take p, letB b := fun b hb => hs b (List.mem_of_mem_take hb)
  have h2 : ∀ b ∈ s.data.toList.drop p, letB b := fun b hb => hs b (List.mem_of_mem_drop hb)
  refine ⟨(s.data.toList.take p).map fun b => b.toNat - 97, (s.data.toList.drop p).map fun b => b.toNat - 97, fun j hj => ?_, ?_, ?_, ?_⟩
  · obtain ⟨b, hb, rfl⟩ := List.mem_map.1 hj
    have := h2 b hb
    unfold letB at this
    omega
  · rw [List.map_eq_nil_iff, List.drop_eq_nil_iff]
    omega
  · unfold elB
    rw [sg_ascii (fun b hb => by have := hs b hb; unfold letB at this; omega), el_lets _ hs]
    unfold Ux.lets
    rw [← List.map_append, ← List.map_append, List.take_append_drop]
  · unfold elB
    rw [ht, sg_ascii (fun b hb => by
      rcases List.mem_append.1 hb with hb | hb
      · have := h1 b hb; unfold letB at this; omega
      · rcases List.mem_cons.1 hb with rfl | hb
        · exact (vb_nat i hi).2
        · have := h2 b hb; unfold letB at this; omega), el_shift _ _ h1 h2 i hi]
theorem shift_v (i : Nat) (hi : i < 6) (V : ByteArray) (hV : (⟨#[vb i]⟩ : ByteArray) = V) : elB rootE V = [eMk (16 + 4 * i) 32 2 true] := by
  subst hV
  have h := el_shift [] [] (fun b hb => by cases hb) (fun b hb => by cases hb) i hi
  unfold elB
  rw [show (⟨#[vb i]⟩ : ByteArray).data.toList = [vb i] from rfl, sg_ascii (fun b hb => by rw [List.mem_singleton.1 hb]; exact (vb_nat i hi).2)]
  exact h
theorem el_0 : elB rootE ⟨#[48]⟩ = [eMk 128 32 2 false] := by
  unfold elB
  rw [sg_1 48 (by decide)]
  decide +kernel
theorem tmod_bound (a : Int) (m : Nat) : -(m : Int) ≤ a.tmod ((m : Int) + 1) ∧ a.tmod ((m : Int) + 1) ≤ m := by
  rcases Int.le_total 0 a with h | h
  · rw [Int.tmod_eq_emod_of_nonneg h]
    have h1 := Int.emod_nonneg a (show (m : Int) + 1 ≠ 0 by omega)
    have h2 := Int.emod_lt_of_pos a (show (0 : Int) < (m : Int) + 1 by omega)
    omega
  · obtain ⟨b, rfl⟩ : ∃ b, a = -b := ⟨-a, by omega⟩
    rw [Int.neg_tmod, Int.tmod_eq_emod_of_nonneg (by omega)]
    have h1 := Int.emod_nonneg b (show (m : Int) + 1 ≠ 0 by omega)
    have h2 := Int.emod_lt_of_pos b (show (0 : Int) < (m : Int) + 1 by omega)
    omega
theorem tmod_pos (a : Int) (h : 0 ≤ a) (m : Nat) : ∃ p : Nat, p ≤ m ∧ a.tmod ((m : Int) + 1) = p := by
  rw [Int.tmod_eq_emod_of_nonneg h]
  have h1 := Int.emod_nonneg a (show (m : Int) + 1 ≠ 0 by omega)
  have h2 := Int.emod_lt_of_pos a (show (0 : Int) < (m : Int) + 1 by omega)
  exact ⟨(a % ((m : Int) + 1)).toNat, by omega, by omega⟩
set_option maxHeartbeats 16000000 in
set_option maxRecDepth 100000 in
theorem shiftsLaw_ (s : ByteArray) (at' k lv : Int) (w : World) (hT : Tabs w) (hs : s.size ≤ 140737488355328) (ha : -9223372036854775808 ≤ at' ∧ at' ≤ 9223372036854775807) :
    Calls Tryz.prog 3 #[.string s, .int .i64 at', .int .i64 k, .int .i64 lv] w fun e w' => e = .returned (.bool true) ∧ Ux.Touch (fun _ => False) w w' := by
  have AW := Lib.hid fun W (T : Ux.Touch (fun _ => False) w W) => awake8_ W (hT.touch T)
  have HT := Lib.hid hT
  obtain ⟨n, e1⟩ : ∃ n, s.size = n := ⟨_, rfl⟩
  have g1 : (n : Int) ≤ 140737488355328 := by omega
  have HSZ := Lib.hid (And.intro e1 ha)
  clear hT hs ha
  go_enter Tryz.func3, Tryz.ntmps3
  go_wp2_with (fail)
  go_loopg [9] n (fun g s9 wr => ∃ i : Nat, s9 = .int .i64 i ∧ i + g = n ∧ w = wr ∧ Hid (∀ k b, k < i → s.data.toList[k]? = some b → letB b))
  case atStart => exact ⟨0, rfl, by omega, rfl, Lib.hid fun k b h => by omega⟩
  case round =>
    obtain ⟨i, rfl, hig, rfl, HI⟩ := hrel
    have p1 : (0 : Int) ≤ i := by omega
    by_cases hin : i < n
    · obtain ⟨g', rfl⟩ : ∃ g', gk = g' + 1 := ⟨gk - 1, by omega⟩
      have j2 : (i : Int) < n := by omega
      have his : i < s.size := by omega
      obtain ⟨y, hy⟩ : ∃ y : UInt8, s[i]'his = y := ⟨_, rfl⟩
      have hyd := Lib.data_getElem? s i his
      rw [hy] at hyd
      have HY := Lib.hid hyd
      have hy256 := y.toNat_lt
      clear hyd hin
      have cs : (97 ≤ y.toNat ∧ y.toNat ≤ 122) ∨ (y.toNat < 97) ∨ (97 ≤ y.toNat ∧ 122 < y.toNat) := by omega
      rcases cs with cs | cs | cs
      · have k1 : ¬ ((y.toNat : Int) < 97) := by omega
        have k2 : ¬ ((y.toNat : Int) > 122) := by omega
        have HC := Lib.hid cs
        clear cs
        go_wp2
        go_roundg g'
        case measure => omega
        case rel =>
          refine ⟨i + 1, rfl, by omega, rfl, Lib.hid fun k b hk hb => ?_⟩
          by_cases h : k = i
          · subst h
            rw [HY.out] at hb
            cases hb
            exact HC.out
          · exact HI.out k b (by omega) hb
      · have k1 : ((y.toNat : Int) < 97) := by omega
        clear cs
        go_wp2_with (go_at_call 15; fail)
        refine (AW.out _ (Ux.Touch.refl _ _)).mono ?_
        rintro e w7 ⟨rfl, T7⟩
        have H7 := Lib.hid T7
        clear T7
        go_wp2
        go_returns
        exact ⟨rfl, H7.out⟩
      · have k1 : ¬ ((y.toNat : Int) < 97) := by omega
        have k2 : ((y.toNat : Int) > 122) := by omega
        clear cs
        go_wp2_with (go_at_call 15; fail)
        refine (AW.out _ (Ux.Touch.refl _ _)).mono ?_
        rintro e w7 ⟨rfl, T7⟩
        have H7 := Lib.hid T7
        clear T7
        go_wp2
        go_returns
        exact ⟨rfl, H7.out⟩
    · obtain rfl : n = i := by omega
      clear hin
      cases h100 : decide ((100 : Int) < n) with
      | true =>
        go_wp2_with (go_at_call 15; fail)
        refine (AW.out _ (Ux.Touch.refl _ _)).mono ?_
        rintro e w7 ⟨rfl, T7⟩
        have H7 := Lib.hid T7
        clear T7
        go_wp2
        go_returns
        exact ⟨rfl, H7.out⟩
      | false =>
        have hn := of_decide_eq_false h100
        have g2 : (n : Int) ≤ 100 := by omega
        clear hn h100
        obtain ⟨X, hX⟩ : ∃ X, at'.tmod ((n : Int) + 1) = X := ⟨_, rfl⟩
        have hb := tmod_bound at' n
        rw [hX] at hb
        have x0 : -(n : Int) ≤ X := hb.1
        have x1 : X ≤ n := hb.2
        obtain ⟨p, hp, hpe⟩ := tmod_pos (X + n + 1) (by omega) n
        have p0 : (0 : Int) ≤ p := by omega
        have pn : (p : Int) ≤ n := by omega
        obtain ⟨m, hm, hm2⟩ := and16 k
        obtain ⟨i6, hi6⟩ : ∃ i6, m % 6 = i6 := ⟨_, rfl⟩
        have hi : i6 < 6 := by omega
        have hm6 : (m : Int) % 6 = i6 := by omega
        have hm7 : (m : Int).tmod 6 = i6 := by rw [Int.tmod_eq_emod_of_nonneg (by omega)]; exact hm6
        obtain ⟨m', hm', hm2'⟩ := and16 lv
        obtain ⟨L, hL⟩ : ∃ L, m' % 3 + 1 = L := ⟨_, rfl⟩
        have hL3 : (m' : Int) % 3 + 1 = L := by omega
        have l1 : (1 : Int) ≤ L := by omega
        have l3 : (L : Int) ≤ 3 := by omega
        have HP := Lib.hid (And.intro hp (And.intro hi hL))
        have HB := Lib.hid hb
        clear hb hp hm2 hi6 hm2' hL
        obtain ⟨V, hV⟩ : ∃ V : ByteArray, (⟨#[vb i6]⟩ : ByteArray) = V := ⟨_, rfl⟩
        have HV := Lib.hid hV
        clear hV
        go_upto_region 9 with (fail)
        go_cut [10] (fun s10 wx => s10 = .string V ∧ Ux.Touch (fun _ => False) w wx)
        case first =>
          have hcase : i6 = 0 ∨ i6 = 1 ∨ i6 = 2 ∨ i6 = 3 ∨ i6 = 4 ∨ i6 = 5 := by omega
          clear hi
          rcases hcase with rfl | rfl | rfl | rfl | rfl | rfl
          all_goals
            go_wp2_with (fail)
            go_meet
            refine ⟨?_, Ux.Touch.refl _ _⟩
            rw [← HV.out]
            first | rfl | decide
        obtain ⟨rfl, Tc⟩ := hcut
        have hls : ∀ b ∈ s.data.toList, letB b := fun b hb => by
          obtain ⟨j, hj, rfl⟩ := List.mem_iff_getElem.1 hb
          exact HI.out j _ (by have e : s.data.toList.length = s.size := rfl; omega) (List.getElem?_eq_getElem hj)
        obtain ⟨A1, hA1⟩ : ∃ A, s.extract 0 p = A := ⟨_, rfl⟩
        obtain ⟨A2, hA2⟩ : ∃ A, s.extract p n = A := ⟨_, rfl⟩
        obtain ⟨A3, hA3⟩ : ∃ A, A1 ++ V = A := ⟨_, rfl⟩
        have d1 : A1.data.toList = s.data.toList.take p := by rw [← hA1]; simp
        have d2 : A2.data.toList = s.data.toList.drop p := by
          have e' : s.data.toList.length = n := e1
          rw [← hA2, ByteArray.data_extract, Array.toList_extract, List.extract_eq_take_drop, List.take_of_length_le (by rw [List.length_drop]; omega)]
        have dV : V.data.toList = [vb i6] := by rw [← HV.out]
        have d3 : A3.data.toList = s.data.toList.take p ++ [vb i6] := by rw [← hA3, ByteArray.data_append, Array.toList_append, d1, dV]
        have z1 : A1.size ≤ 100 := by
          have e : A1.data.toList.length = A1.size := rfl
          rw [← e, d1, List.length_take]
          omega
        have z2 : A2.size ≤ 100 := by
          have e : A2.data.toList.length = A2.size := rfl
          have e' : s.data.toList.length = n := e1
          rw [← e, d2, List.length_drop]
          omega
        have zV : V.size = 1 := by
          have e : V.data.toList.length = V.size := rfl
          rw [← e, dV]
          rfl
        have z3 : A3.size ≤ 101 := by
          have e : A3.data.toList.length = A3.size := rfl
          rw [← e, d3, List.length_append, List.length_take]
          simp
          omega
        obtain ⟨t, ht⟩ : ∃ t, A3 ++ A2 = t := ⟨_, rfl⟩
        have dt : t.data.toList = s.data.toList.take p ++ vb i6 :: s.data.toList.drop p := by rw [← ht, ByteArray.data_append, Array.toList_append, d3, d2, List.append_assoc]; rfl
        have zt : t.size ≤ 201 := by
          have e : t.data.toList.length = t.size := rfl
          have e' : s.data.toList.length = n := e1
          rw [← e, dt, List.length_append, List.length_take, List.length_cons, List.length_drop]
          omega
        have j1 : ¬ ((9223372036854775807 : Int) < (A1.size : Int) + V.size) := by omega
        have j2 : ¬ ((9223372036854775807 : Int) < (A3.size : Int) + A2.size) := by omega
        have j3 : ¬ (9223372036854775807 < A1.size + V.size) := by omega
        have j4 : ¬ (9223372036854775807 < A3.size + A2.size) := by omega
        obtain ⟨x, y, hy, hyn, hes, het⟩ := shift_el s t p n i6 e1 HP.out.1 HP.out.2.1 hls dt
        have heV := shift_v i6 HP.out.2.1 V HV.out
        obtain ⟨L1, hL1⟩ : ∃ L1, L = L1 + 1 := ⟨L - 1, by omega⟩
        have HE := Lib.hid (And.intro hy (And.intro hyn (And.intro hes (And.intro het (And.intro heV (And.intro hL1 (And.intro zt zV)))))))
        have HTc := Lib.hid Tc
        clear Tc hls d1 d2 dV d3 z1 z2 zV z3 dt zt hy hyn hes het heV hL1
        go_upto_region 10 with (fail)
        refine Ux.wp_region_plan (fun _ _ => True) (.q [0, 1, 2, 3, 4, 5, 6, 7, 8] (.line [9]))
          (by kernel_rfl) (by kernel_rfl) (by intro _ _ d _ _ h; cases d <;> exact h) ?hS ?_
        case hS => (intro c; cases c <;> (simp only [World.cell?_drew]; first | exact True.intro | (refine ⟨?_, ?_⟩ <;> assumption) | assumption | (repeat (first | assumption | (refine And.intro ?_ ?_)))))
        simp only [Ux.wpPlan, Ux.pickOps, Ux.keeps, List.getElem?_toArray, List.getElem?_cons_succ, List.getElem?_cons_zero]
        repeat (first
          | go_big_quiet_step (fail)
          | (with_reducible refine wpQuiet_nil ?_)
          | (refine Ux.quiet_held rfl ?_; apply Exists.intro; refine ⟨fun w' hS => ?_, ?_⟩; (focus ((try dsimp only at hS); go_simp; first | done | with_reducible rfl)); simp only [Act.put, List.setIfInBounds_toArray, List.set_cons_zero, List.set_cons_succ]))
        have HR := Lib.hid fun (sh : Bool) W => croot_ (L : Int) sh false W
        go_wp2_with (go_at_call 16; fail)
        refine (HR.out true _).mono ?_
        rintro e w5 ⟨B1, mb1, rfl, hT1, T1⟩
        have H5 := Lib.hid (And.intro hT1 (HTc.out.drew.trans T1 fun _ _ f => f))
        clear hT1 T1
        go_wp2_with (go_at_call 16; fail)
        refine (HR.out false w5).mono ?_
        rintro e w6 ⟨B2, mb2, rfl, hT2, T2⟩
        unfold cV
        obtain ⟨W1, hW1⟩ : ∃ W, w6.alloc (.cells #[.int .i64 3, .int .i64 L, .bool true, .bool false, .pointer (some ⟨B1, 0, none⟩)] 25) = W := ⟨_, rfl⟩
        have t1 : Ux.Touch (fun _ => False) w6 W1 := by rw [← hW1]; exact (Ux.Touch.refl _ _).alloc _
        obtain ⟨q, hq⟩ : ∃ q, w6.heap.size = q := ⟨_, rfl⟩
        have r1 : W1.heap[q]? = some (.cells #[.int .i64 3, .int .i64 L, .bool true, .bool false, .pointer (some ⟨B1, 0, none⟩)] 25 (0, 0)) := by rw [← hW1, ← hq]; exact heap_alloc_new w6 _
        have s1 : W1.heap.size = q + 1 := by rw [← hW1, World.size_alloc, hq]
        obtain ⟨W7, hW7⟩ : ∃ W, W1.alloc (.cells #[.int .i64 3, .int .i64 L, .bool false, .bool false, .pointer (some ⟨B2, 0, none⟩)] 25) = W := ⟨_, rfl⟩
        have t2 : Ux.Touch (fun _ => False) W1 W7 := by rw [← hW7]; exact (Ux.Touch.refl _ _).alloc _
        have r2 : W7.heap[q + 1]? = some (.cells #[.int .i64 3, .int .i64 L, .bool false, .bool false, .pointer (some ⟨B2, 0, none⟩)] 25 (0, 0)) := by rw [← hW7, ← s1]; exact heap_alloc_new W1 _
        have t67 := t1.trans t2 fun _ _ f => f
        have H7 := Lib.hid (And.intro (H5.out.1.touch0 (T2.trans t67 fun _ _ f => f)) (And.intro (hT2.touch0 t67) (And.intro (CAt.of (t2.heap r1 (fun f => f))) (And.intro (CAt.of r2) (H5.out.2.trans (T2.trans t67 fun _ _ f => f) fun _ _ f => f)))))
        have HW7 := Lib.hid (And.intro hW1 (And.intro hW7 hq))
        clear hT2 T2 t1 t2 t67 r1 r2 s1 hW1 hW7 hq
        go_upto_region 13 with (fail)
        rw [HW7.out.1, HW7.out.2.1, HW7.out.2.2]
        have HK1 := Lib.hid fun W (T : Ux.Touch (fun _ => False) W7 W) => H7.out.2.2.1.touch T
        have HK2 := Lib.hid fun W (T : Ux.Touch (fun _ => False) W7 W) => H7.out.2.2.2.1.touch T
        obtain ⟨want, hwant⟩ : ∃ want : Int, (if p = n then 1 else -1) = want := ⟨_, rfl⟩
        have hL13 : 1 ≤ L ∧ L ≤ 3 := by omega
        have ce1 : cmpC 3 (L : Int) true false (some ⟨B1, 0, none⟩) rootE s t = 0 := by
          rw [cmpC3 L hL13, HE.out.2.2.1, HE.out.2.2.2.1]
          exact Ux.wgh_same (fun lv => Ux.shift_on i6 HP.out.2.1 _ _ lv) _ _
        have ce2 : cmpC 3 (L : Int) false false (some ⟨B2, 0, none⟩) rootE t s = want := by
          rw [cmpC3 L hL13, HE.out.2.2.1, HE.out.2.2.2.1, HE.out.2.2.2.2.2.1, Ux.shift_off i6 HP.out.2.1 _ _ HE.out.1, ← hwant]
          by_cases h : p = n
          · rw [if_pos h, if_pos (HE.out.2.1.2 h)]
          · rw [if_neg h, if_neg (fun e => h (HE.out.2.1.1 e))]
        have ce3 : cmpC 3 (L : Int) false false (some ⟨B2, 0, none⟩) rootE V ⟨#[48]⟩ = -1 := by
          rw [cmpC3 L hL13, HE.out.2.2.2.2.1, el_0, HE.out.2.2.2.2.2.1]
          exact Ux.shift_zero' i6 HP.out.2.1 _
        have HC1 := Lib.hid fun W (T : Ux.Touch (fun _ => False) W7 W) => ccmp_ 3 (L : Int) true false (some ⟨B1, 0, none⟩) rootE s t W (fun _ p hp => by cases hp; exact ⟨B1, mb1, rfl, H7.out.1.touch0 T⟩) (HT.out.touch (H7.out.2.2.2.2.trans T fun _ _ f => f)) (by omega) (by have := HE.out.2.2.2.2.2.2.1; omega)
        have HC2 := Lib.hid fun W (T : Ux.Touch (fun _ => False) W7 W) => ccmp_ 3 (L : Int) false false (some ⟨B2, 0, none⟩) rootE t s W (fun _ p hp => by cases hp; exact ⟨B2, mb2, rfl, H7.out.2.1.touch0 T⟩) (HT.out.touch (H7.out.2.2.2.2.trans T fun _ _ f => f)) (by have := HE.out.2.2.2.2.2.2.1; omega) (by omega)
        have HC3 := Lib.hid fun W (T : Ux.Touch (fun _ => False) W7 W) => ccmp_ 3 (L : Int) false false (some ⟨B2, 0, none⟩) rootE V ⟨#[48]⟩ W (fun _ p hp => by cases hp; exact ⟨B2, mb2, rfl, H7.out.2.1.touch0 T⟩) (HT.out.touch (H7.out.2.2.2.2.trans T fun _ _ f => f)) (by have := HE.out.2.2.2.2.2.2.2; omega) (by decide)
        rw [ce1] at HC1
        rw [ce2] at HC2
        rw [ce3] at HC3
        unfold cV at HC1 HC2 HC3
        clear ce1 ce2 ce3 j1 j2 j3 j4 hA1 hA2 hA3 ht hL13 hpe hX
        have hq14 : (((p : Int) == n) = true ∧ decide (p = n) = true ∧ want = 1) ∨ (((p : Int) == n) = false ∧ decide (p = n) = false ∧ want = -1) := by
          by_cases h : p = n
          · left
            exact ⟨by simp; omega, by simp [h], by rw [← hwant, if_pos h]⟩
          · right
            exact ⟨by simp; omega, by simp [h], by rw [← hwant, if_neg h]⟩
        clear hwant
        rcases hq14 with ⟨q1, q2, rfl⟩ | ⟨q1, q2, rfl⟩
        all_goals
          go_upto_region 16 with (fail)
          obtain ⟨x0, x1, x2, x3, x4⟩ := HK1.out W7 (Ux.Touch.refl _ _)
          go_wp2_with (go_at_call 17; fail)
          refine (HC1.out W7 (Ux.Touch.refl _ _)).mono ?_
          rintro e w8 ⟨rfl, T8⟩
          have H8 := Lib.hid T8
          clear T8 x0 x1 x2 x3 x4
          obtain ⟨x0, x1, x2, x3, x4⟩ := HK2.out w8 H8.out
          go_wp2_with (go_at_call 17; fail)
          refine (HC2.out w8 H8.out).mono ?_
          rintro e w9 ⟨rfl, T9⟩
          have H9 := Lib.hid (H8.out.trans T9 fun _ _ f => f)
          clear T9 x0 x1 x2 x3 x4
          obtain ⟨x0, x1, x2, x3, x4⟩ := HK2.out w9 H9.out
          go_wp2_with (go_at_call 17; fail)
          refine (HC3.out w9 H9.out).mono ?_
          rintro e wa ⟨rfl, Ta⟩
          have Ha := Lib.hid (H9.out.trans Ta fun _ _ f => f)
          clear Ta x0 x1 x2 x3 x4
          go_wp2_with (go_at_call 15; fail)
          refine (AW.out wa (H7.out.2.2.2.2.trans Ha.out fun _ _ f => f)).mono ?_
          rintro e wb ⟨rfl, Tb⟩
          have Hb := Lib.hid (Ha.out.trans Tb fun _ _ f => f)
          clear Tb
          go_wp2
          go_returns
          exact ⟨rfl, H7.out.2.2.2.2.trans Hb.out fun _ _ f => f⟩

end Go.Proofs.YtgpcpolcolgkdaaGreatDoor
