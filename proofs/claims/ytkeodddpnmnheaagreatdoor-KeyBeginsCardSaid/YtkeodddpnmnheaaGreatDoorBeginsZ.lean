/- PART OF THE PROOF THAT THIS CLAIM HOLDS OF THE GIVEN PROGRAM, FOR EVERY INPUT THAT THE STATEMENT NAMES. No condition besides the statement's own. -/
import Derived.Test.YtkeodddpnmnheaaGreatDoorBeginZ
import Derived.Test.YtkeodddpnmnheaaGreatDoorRows
import Derived.WalkKit
import Derived.Handy
import Derived.Laws.EntriesVeiled
import Derived.WalkSpells
import Derived.WalkLawsBesides
import Derived.BigQuiet
import Derived.Deep.QuietTactic
import Derived.Deep.Cut
import Derived.Deep.DeepCutAuto
import Derived.Lib.Overlaps
import Derived.Laws.Externs
import Derived.Lib.Hide
import Derived.Test.YtkeodddpnmnheaaGreatDoorUxPlanAllZ
import Derived.Test.YtkeodddpnmnheaaGreatDoorUxMemAZ
import Derived.Test.YtkeodddpnmnheaaGreatDoorUxCollAZ
import Derived.Deep.LoopGhost
namespace Go.Proofs.YtkeodddpnmnheaaGreatDoor
open Go.RowKit
open Go.RowKit
open Ux (Ent rootE rootT SameE okT)
open Ux.Sign (cp raw signs)

set_option maxHeartbeats 4000000 in
theorem begins_big (k lv : Int) (p more : ByteArray) (w : World) (hT : Tabs w) (h1 : p.size ≤ 140737488355328) (h2 : more.size ≤ 140737488355328) (h : p.size > 100 ∨ more.size > 100) :
    Calls Tryz.prog 10 #[.int .i64 k, .int .i64 lv, .string p, .string more] w fun e w' => e = .returned (.bool true) ∧ Ux.Touch (fun _ => False) w w' := by
  have AW := Lib.hid fun W (T : Ux.Touch (fun _ => False) w W) => awake9_ W (hT.touch T)
  obtain ⟨n1, e1⟩ : ∃ n, p.size = n := ⟨_, rfl⟩
  obtain ⟨n2, e2⟩ : ∃ n, more.size = n := ⟨_, rfl⟩
  have g1 : (n1 : Int) ≤ 140737488355328 := by omega
  have g2 : (n2 : Int) ≤ 140737488355328 := by omega
  have hc : (decide ((n1 : Int) > 100) = true ∧ decide (100 < n1) = true) ∨ (decide ((n1 : Int) > 100) = false ∧ decide (100 < n1) = false) ∧ decide ((n2 : Int) > 100) = true ∧ decide (100 < n2) = true := by
    simp only [decide_eq_true_eq, decide_eq_false_iff_not]
    omega
  clear hT h1 h2 h
  rcases hc with ⟨c1, c2⟩ | ⟨⟨c1, c2⟩, c3, c4⟩
  all_goals
    go_enter Tryz.func10, Tryz.ntmps10
    go_wp2_with (go_at_call 25; fail)
    refine (AW.out _ (Ux.Touch.refl _ _)).mono ?_
    rintro e w7 ⟨rfl, T7⟩
    have H7 := Lib.hid T7
    clear T7
    go_wp2
    go_returns
    exact ⟨rfl, H7.out⟩
theorem keyP_pre (kd : Int) (LN : Nat) (sh bk : Bool) (tb : Option Addr) (E : List Ent) (hok : okC kd LN tb = true) (p more : ByteArray) (h : begB kd p = true) : ∃ x : ByteArray, keyP kd LN sh bk tb E (p ++ more) = begS kd p ++ x := by
  unfold begB at h
  unfold keyP begS
  rw [hok, if_pos rfl]
  by_cases h1 : kd = 1
  · subst h1
    rw [if_neg (by decide), if_neg (by decide), if_pos rfl]
    exact ⟨more, rfl⟩
  · have h2 : kd = 2 ∧ vld p = true := by simpa [h1] using h
    obtain ⟨rfl, hv⟩ := h2
    rw [if_neg (by decide), if_pos rfl, if_neg (by decide), if_pos (by unfold begB; rw [hv]; rfl)]
    have hcp : ∀ c ∈ signs p.data.toList, cp c := fun c hc => by
      have h3 := List.all_eq_true.1 hv c hc
      have h4 : c < 1114112 := by simpa using h3
      rcases Ux.Sign.good_all (Ux.Sign.good_signs p.data.toList) c hc with h5 | h5
      · exact h5
      · unfold raw at h5; omega
    refine ⟨ftB more, ?_⟩
    unfold ftB
    have e : (p ++ more).data.toList = p.data.toList ++ more.data.toList := by rw [ByteArray.data_append, Array.toList_append]
    rw [e, Ux.Sign.foldText_append hcp]
    apply ByteArray.ext
    rw [ByteArray.data_append]
    simp
theorem pre_extract {K b x : ByteArray} (h : K = b ++ x) : b.size ≤ K.size ∧ (K.extract 0 b.size).toList = b.toList := by
  subst h
  have e : (b ++ x).data.toList = b.data.toList ++ x.data.toList := by rw [ByteArray.data_append, Array.toList_append]
  have hb : b.data.toList.length = b.size := by simp
  refine ⟨by rw [ByteArray.size_append]; omega, ?_⟩
  rw [Lib.toList_data, Lib.toList_data, ByteArray.data_extract, Array.toList_extract]
  show List.extract (b ++ x).data.toList 0 b.size = _
  rw [List.extract_eq_take_drop, Nat.sub_zero, List.drop_zero, e, ← hb, List.take_left' rfl]

set_option maxHeartbeats 16000000 in
set_option maxRecDepth 100000 in
theorem begins_ (k lv : Int) (p more : ByteArray) (w : World) (hT : Tabs w) (hp : p.size ≤ 100) (hm : more.size ≤ 100) :
    Calls Tryz.prog 10 #[.int .i64 k, .int .i64 lv, .string p, .string more] w fun e w' => e = .returned (.bool true) ∧ Ux.Touch (fun _ => False) w w' := by
  have AW := Lib.hid fun W (T : Ux.Touch (fun _ => False) w W) => awake9_ W (hT.touch T)
  have HM := Lib.hid (madeC0_ k lv false false w hT)
  have HT := Lib.hid hT
  obtain ⟨n1, e1⟩ : ∃ n, p.size = n := ⟨_, rfl⟩
  obtain ⟨n2, e2⟩ : ∃ n, more.size = n := ⟨_, rfl⟩
  have hc : (decide ((n1 : Int) > 100) = false ∧ decide (100 < n1) = false) ∧ decide ((n2 : Int) > 100) = false ∧ decide (100 < n2) = false := by
    simp only [decide_eq_false_iff_not]
    omega
  obtain ⟨⟨c1, c2⟩, c3, c4⟩ := hc
  have g1 : (n1 : Int) ≤ 100 := by omega
  have g2 : (n2 : Int) ≤ 100 := by omega
  have HS := Lib.hid (And.intro hp hm)
  clear hT hp hm
  go_enter Tryz.func10, Tryz.ntmps10
  go_wp2_with (go_at_call 18; fail)
  refine HM.out.mono ?_
  rintro e w1 ⟨kd, LN, sh, bk, tb, u, rfl, hM, T1⟩
  obtain ⟨xa, xn, xc, rfl⟩ := hM.shape
  unfold cV rcV
  obtain ⟨W1, hW1⟩ : ∃ W, (w1.alloc (.cells #[.int .i64 kd, .int .i64 (LN : Nat), .bool sh, .bool bk, .pointer tb] 26)).alloc (.cells #[.int .i64 kd, .int .i64 (LN : Nat), .bool sh, .bool bk, .slice xa xn xc] 35) = W := ⟨_, rfl⟩
  have t1 : Ux.Touch (fun _ => False) w1 W1 := by rw [← hW1]; exact ((Ux.Touch.refl _ _).alloc _).alloc _
  obtain ⟨q1, hq1⟩ : ∃ q, w1.heap.size = q := ⟨_, rfl⟩
  have r1 : W1.heap[q1]? = some (.cells #[.int .i64 kd, .int .i64 (LN : Nat), .bool sh, .bool bk, .pointer tb] 26 (0, 0)) := by rw [← hW1, ← hq1]; exact ((Ux.Touch.refl (fun _ => False) _).alloc _).heap (heap_alloc_new w1 _) (fun f => f)
  have r2 : W1.heap[q1 + 1]? = some (.cells #[.int .i64 kd, .int .i64 (LN : Nat), .bool sh, .bool bk, .slice xa xn xc] 35 (0, 0)) := by
    rw [← hW1, ← hq1]
    have := heap_alloc_new (w1.alloc (.cells #[.int .i64 kd, .int .i64 (LN : Nat), .bool sh, .bool bk, .pointer tb] 26)) (.cells #[.int .i64 kd, .int .i64 (LN : Nat), .bool sh, .bool bk, .slice xa xn xc] 35)
    rwa [World.size_alloc] at this
  have TW1 := T1.trans t1 fun _ _ f => f
  have HCA := Lib.hid fun W (T : Ux.Touch (fun _ => False) W1 W) => (CAt.of r1).touch T
  have HRA := Lib.hid fun W (T : Ux.Touch (fun _ => False) W1 W) => ((RAtG.of r2).touch T).1
  have hM1 := hM.touch t1
  have HBG := Lib.hid fun W (T : Ux.Touch (fun _ => False) W1 W) => begin_ kd LN sh bk tb hM1.kind hM1.ok p W (HT.out.touch (TW1.trans T fun _ _ f => f)) (by have := HS.out; omega)
  have HVD := Lib.hid fun W => valid9_ p W (by have := HS.out; omega)
  have HFT := Lib.hid fun W => rft_ p W (by have := HS.out; omega)
  have hft : (⟨(Ux.Sign.foldText p.data.toList).toArray⟩ : ByteArray) = ftB p := rfl
  rw [hft] at HFT
  have hpm : (p ++ more).size ≤ 1000000 := by rw [ByteArray.size_append]; have := HS.out; omega
  have HKY := Lib.hid fun W (T : Ux.Touch (fun _ => False) W1 W) => skey_ kd (LN : Nat) sh bk tb rootE (p ++ more) W hpm (HT.out.touch (TW1.trans T fun _ _ f => f)) (hM1.tab.touch T) (hM1.keylen _ hpm)
  have hkd := hM1.kind
  have hpre := keyP_pre kd LN sh bk tb rootE hM1.ok p more
  obtain ⟨KB, hKB⟩ : ∃ KB, keyP kd (LN : Nat) sh bk tb rootE (p ++ more) = KB := ⟨_, rfl⟩
  rw [hKB] at HKY hpre
  have HPRE := Lib.hid hpre
  have HKL : Hid (KB.size ≤ 1000000000) := Lib.hid (by rw [← hKB]; exact hM1.keylen _ hpm)
  have H1 := Lib.hid TW1
  have HW1 := Lib.hid (And.intro hW1 hq1)
  unfold cV at HBG HKY
  clear hM T1 t1 r1 r2 TW1 hW1 hq1 hM1 hft hpm hpre hKB
  go_upto_region 6 with (fail)
  rw [HW1.out.1, HW1.out.2]
  obtain ⟨x0, x1, x2, x3, x4⟩ := HCA.out W1 (Ux.Touch.refl _ _)
  go_wp2_with (go_at_call 32; fail)
  refine (HBG.out W1 (Ux.Touch.refl _ _)).mono ?_
  rintro e w2 ⟨rfl, T2⟩
  have H2 := Lib.hid T2
  clear T2 x0 x1 x2 x3 x4
  have y0 := HRA.out w2 H2.out
  obtain ⟨x0, x1, x2, x3, x4⟩ := HCA.out w2 H2.out
  have hcat : ¬ (9223372036854775807 < (n1 : Int) + n2) := by omega
  rcases hkd with rfl | rfl | rfl
  · have hb : begB 1 p = true := rfl
    have hs : begS 1 p = p := rfl
    obtain ⟨xx, hxx⟩ := HPRE.out hb
    rw [hs] at hxx
    obtain ⟨hle, hex⟩ := pre_extract hxx
    rw [e1] at hle hex
    rw [hb, hs]
    obtain ⟨nk, hnk⟩ : ∃ n, KB.size = n := ⟨_, rfl⟩
    have g3 : (nk : Int) ≥ n1 := by omega
    have g4 : (nk : Int) ≤ 1000000000 := by have := HKL.out; omega
    have hex2 : ((KB.extract 0 n1).toList == p.toList) = true := by rw [hex]; simp
    clear hxx hle hex hb hs
    go_wp2_with (go_at_call 27; fail)
    refine (HKY.out w2 H2.out).mono ?_
    rintro e w3 ⟨rfl, T3⟩
    have H3 := Lib.hid (H2.out.trans T3 fun _ _ f => f)
    clear T3 x0 x1 x2 x3 x4 y0
    have y0 := HRA.out w3 H3.out
    go_wp2_with (go_at_call 25; fail)
    refine (AW.out w3 (H1.out.trans H3.out fun _ _ f => f)).mono ?_
    rintro e w4 ⟨rfl, T4⟩
    have H4 := Lib.hid ((H1.out.trans H3.out fun _ _ f => f).trans T4 fun _ _ f => f)
    clear T4 y0
    go_wp2
    go_returns
    exact ⟨rfl, H4.out⟩
  · obtain ⟨V, hV⟩ : ∃ V, vld p = V := ⟨_, rfl⟩
    rw [hV] at HVD
    cases V with
    | true =>
      have hb : begB 2 p = true := by unfold begB; rw [hV]; rfl
      have hs : begS 2 p = ftB p := by unfold begS; rw [if_neg (by decide), if_pos hb]
      obtain ⟨xx, hxx⟩ := HPRE.out hb
      rw [hs] at hxx
      rw [hb, hs]
      obtain ⟨FB, hFB⟩ : ∃ FB, ftB p = FB := ⟨_, rfl⟩
      have hfs := ftB_size p
      rw [hFB] at hxx HFT hfs ⊢
      obtain ⟨hle, hex⟩ := pre_extract hxx
      obtain ⟨nf, hnf⟩ : ∃ n, FB.size = n := ⟨_, rfl⟩
      rw [hnf] at hle hex
      obtain ⟨nk, hnk⟩ : ∃ n, KB.size = n := ⟨_, rfl⟩
      have g3 : (nk : Int) ≥ nf := by omega
      have g4 : (nk : Int) ≤ 1000000000 := by have := HKL.out; omega
      have hex2 : ((KB.extract 0 nf).toList == FB.toList) = true := by rw [hex]; simp
      clear hxx hle hex hb hs hFB hfs hV
      go_wp2_with (go_at_call 33; fail)
      refine (HVD.out w2).mono ?_
      rintro e w2' ⟨rfl, T2'⟩
      have H2' := Lib.hid (H2.out.trans T2' fun _ _ f => f)
      clear T2' x0 x1 x2 x3 x4 y0
      have y0 := HRA.out w2' H2'.out
      obtain ⟨x0, x1, x2, x3, x4⟩ := HCA.out w2' H2'.out
      go_wp2_with (go_at_call 27; fail)
      refine (HKY.out w2' H2'.out).mono ?_
      rintro e w3 ⟨rfl, T3⟩
      have H3 := Lib.hid (H2'.out.trans T3 fun _ _ f => f)
      clear T3 x0 x1 x2 x3 x4 y0
      have y0 := HRA.out w3 H3.out
      go_wp2_with (go_at_call 34; fail)
      refine (HFT.out w3).mono ?_
      rintro e w3' ⟨rfl, T3'⟩
      have H3' := Lib.hid (H1.out.trans (H3.out.trans T3' fun _ _ f => f) fun _ _ f => f)
      clear T3' y0
      go_wp2_with (go_at_call 25; fail)
      refine (AW.out w3' H3'.out).mono ?_
      rintro e w4 ⟨rfl, T4⟩
      have H4 := Lib.hid (H3'.out.trans T4 fun _ _ f => f)
      clear T4
      go_wp2
      go_returns
      exact ⟨rfl, H4.out⟩
    | false =>
      have hb : begB 2 p = false := by unfold begB; rw [hV]; rfl
      have hs : begS 2 p = ⟨#[]⟩ := by unfold begS; rw [if_neg (by decide), if_neg (by rw [hb]; simp)]
      rw [hb, hs]
      clear hb hs hV
      go_wp2_with (go_at_call 33; fail)
      refine (HVD.out w2).mono ?_
      rintro e w2' ⟨rfl, T2'⟩
      have H2' := Lib.hid (H2.out.trans T2' fun _ _ f => f)
      clear T2' x0 x1 x2 x3 x4 y0
      have y0 := HRA.out w2' H2'.out
      obtain ⟨x0, x1, x2, x3, x4⟩ := HCA.out w2' H2'.out
      go_wp2_with (go_at_call 27; fail)
      refine (HKY.out w2' H2'.out).mono ?_
      rintro e w3 ⟨rfl, T3⟩
      have H3 := Lib.hid (H1.out.trans (H2'.out.trans T3 fun _ _ f => f) fun _ _ f => f)
      clear T3 x0 x1 x2 x3 x4 y0
      go_wp2_with (go_at_call 25; fail)
      refine (AW.out w3 H3.out).mono ?_
      rintro e w4 ⟨rfl, T4⟩
      have H4 := Lib.hid (H3.out.trans T4 fun _ _ f => f)
      clear T4
      go_wp2
      go_returns
      exact ⟨rfl, H4.out⟩
  · have hb : begB 3 p = false := rfl
    have hs : begS 3 p = ⟨#[]⟩ := by unfold begS; rw [if_neg (by decide), if_neg (by rw [hb]; simp)]
    rw [hb, hs]
    clear hb hs
    go_wp2_with (go_at_call 27; fail)
    refine (HKY.out w2 H2.out).mono ?_
    rintro e w3 ⟨rfl, T3⟩
    have H3 := Lib.hid (H1.out.trans (H2.out.trans T3 fun _ _ f => f) fun _ _ f => f)
    clear T3 x0 x1 x2 x3 x4 y0
    go_wp2_with (go_at_call 25; fail)
    refine (AW.out w3 H3.out).mono ?_
    rintro e w4 ⟨rfl, T4⟩
    have H4 := Lib.hid (H3.out.trans T4 fun _ _ f => f)
    clear T4
    go_wp2
    go_returns
    exact ⟨rfl, H4.out⟩
theorem beginsLaw_ (k lv : Int) (p more : ByteArray) (w : World) (hT : Tabs w) (h1 : p.size ≤ 140737488355328) (h2 : more.size ≤ 140737488355328) :
    Calls Tryz.prog 10 #[.int .i64 k, .int .i64 lv, .string p, .string more] w fun e w' => e = .returned (.bool true) ∧ Ux.Touch (fun _ => False) w w' := by
  by_cases h : p.size > 100 ∨ more.size > 100
  · exact begins_big k lv p more w hT h1 h2 h
  · exact begins_ k lv p more w hT (by omega) (by omega)

end Go.Proofs.YtkeodddpnmnheaaGreatDoor
