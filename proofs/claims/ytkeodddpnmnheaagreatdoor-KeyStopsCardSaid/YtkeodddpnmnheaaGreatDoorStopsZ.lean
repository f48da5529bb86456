/- PART OF THE PROOF THAT THIS CLAIM HOLDS OF THE GIVEN PROGRAM, FOR EVERY INPUT THAT THE STATEMENT NAMES. No condition besides the statement's own. -/
import Derived.Test.YtkeodddpnmnheaaGreatDoorMadeAZ
import Derived.Test.YtkeodddpnmnheaaGreatDoorRows
import Derived.WalkKit
import Derived.Handy
import Derived.Laws.EntriesVeiled
import Derived.WalkSpells
import Derived.WalkLawsBesides
import Derived.BigQuiet
import Derived.Deep.QuietTactic
import Derived.Deep.Cut
import Derived.Deep.DeepCutAuto
import Derived.Lib.Overlaps
import Derived.Laws.Externs
import Derived.Lib.Hide
import Derived.Test.YtkeodddpnmnheaaGreatDoorUxPlanAllZ
import Derived.Test.YtkeodddpnmnheaaGreatDoorUxMemAZ
import Derived.Test.YtkeodddpnmnheaaGreatDoorUxCollAZ
import Derived.Deep.LoopGhost
namespace Go.Proofs.YtkeodddpnmnheaaGreatDoor
open Go.RowKit
open Go.RowKit
open Ux (Ent rootE rootT SameE okT Row bv Grow)
attribute [local go_sem] Oper.semAt_some

/-- where nothing panics -/
def Calm (Q : Exit → Act → World → Prop) : Exit → Act → World → Prop
  | .panic _, _, _ => False
  | e, a, w => Q e a w
theorem wp_calm {c : Code} {K : Act → World → Prop} {Q : Exit → Act → World → Prop} {a : Act} {w : World} (h : c.wp Tryz.prog (Exit.then K (Calm Q)) a w) : c.wp Tryz.prog (Exit.then K Q) a w :=
  wp_mono h fun e a w h => by cases e <;> first | exact h | exact h.elim
theorem wp_calm2 {c : Code} {Q : Exit → Act → World → Prop} {a : Act} {w : World} (h : c.wp Tryz.prog (Calm Q) a w) : c.wp Tryz.prog Q a w :=
  wp_mono h fun e a w h => by cases e <;> first | exact h | exact h.elim
theorem neq_nil (c : Array Value) (w : World) : (binOp .eql 44 (.func (.func 57) #[] c) .nilFunc).run Tryz.prog w = .ok (.bool false) w := by kernel_rfl
theorem and63 (a : Int) : ∃ m : Nat, bits .and .i64 a 63 = (m : Int) ∧ m < 64 := by
  have h : (BitVec.ofInt 64 a &&& BitVec.ofInt 64 63).toNat < 64 := by
    rw [BitVec.toNat_and, show (BitVec.ofInt 64 63).toNat = 2 ^ 6 - 1 from rfl, Nat.and_two_pow_sub_one_eq_mod]
    exact Nat.mod_lt _ (by decide)
  refine ⟨(BitVec.ofInt 64 a &&& BitVec.ofInt 64 63).toNat, ?_, h⟩
  show IntKind.i64.wrap ((BitVec.ofInt 64 a &&& BitVec.ofInt 64 (63 : Int)).toNat : Nat) = _
  rw [IntKind.wrap_i64]
  omega

set_option maxHeartbeats 4000000 in
theorem stops_big (k lv : Int) (s : ByteArray) (n : Int) (w : World) (hT : Tabs w) (h1 : s.size ≤ 140737488355328) (h : s.size > 100) :
    Calls Tryz.prog 8 #[.int .i64 k, .int .i64 lv, .string s, .int .i64 n] w fun e w' => e = .returned (.bool true) ∧ Ux.Touch (fun _ => False) w w' := by
  have AW := Lib.hid fun W (T : Ux.Touch (fun _ => False) w W) => awake9_ W (hT.touch T)
  obtain ⟨n1, e1⟩ : ∃ n, s.size = n := ⟨_, rfl⟩
  have g1 : (n1 : Int) ≤ 140737488355328 := by omega
  have g2 : ((n1 : Int) > 100) := by omega
  have T0 : Ux.Touch (fun _ => False) w (w.alloc (.cells #[.int .i64 n] 3)) := (Ux.Touch.refl _ _).alloc _
  have H0 := Lib.hid T0
  clear hT h1 h T0
  go_enter Tryz.func8, Tryz.ntmps8
  go_wp2_with (go_at_call 25; fail)
  refine (AW.out _ H0.out).mono ?_
  rintro e w7 ⟨rfl, T7⟩
  have H7 := Lib.hid (H0.out.trans T7 fun _ _ f => f)
  clear T7
  go_wp2
  go_returns
  exact ⟨rfl, H7.out⟩

/-- so many bytes gathered, m at most -/
def StopI (bt b2 S : Nat) (kd : Int) (s : ByteArray) (w4 : World) (m : Nat) (pre : List UInt8) (W : World) : Prop := KeyI bt b2 S kd s w4 pre W ∧ pre.length ≤ m
set_option maxHeartbeats 16000000 in
set_option maxRecDepth 100000 in
theorem stops_ (k lv : Int) (s : ByteArray) (n : Int) (w : World) (hT : Tabs w) (hs : s.size ≤ 100) :
    Calls Tryz.prog 8 #[.int .i64 k, .int .i64 lv, .string s, .int .i64 n] w fun e w' => e = .returned (.bool true) ∧ Ux.Touch (fun _ => False) w w' := by
  have AW := Lib.hid fun W (T : Ux.Touch (fun _ => False) w W) => awake9_ W (hT.touch T)
  have HM := Lib.hid fun W (T : Ux.Touch (fun _ => False) w W) => make0_ k lv false false W (hT.touch T)
  have HT := Lib.hid hT
  obtain ⟨n1, e1⟩ : ∃ n, s.size = n := ⟨_, rfl⟩
  have g2 : ¬ ((n1 : Int) > 100) := by omega
  have HS := Lib.hid hs
  obtain ⟨B, hB⟩ : ∃ B, w.heap.size = B := ⟨_, rfl⟩
  obtain ⟨W0, hW0⟩ : ∃ W, w.alloc (.cells #[.int .i64 n] 3) = W := ⟨_, rfl⟩
  have T0 : Ux.Touch (fun _ => False) w W0 := by rw [← hW0]; exact (Ux.Touch.refl _ _).alloc _
  have r0 : W0.heap[B]? = some (.cells #[.int .i64 n] 3 (0, 0)) := by rw [← hW0, ← hB]; exact heap_alloc_new w _
  have H0 := Lib.hid (And.intro T0 r0)
  have HB := Lib.hid hB
  clear hT hs T0 r0
  refine calls_marks Tryz.func8 rfl ?_
  simp only [Tryz.ntmps8, List.size_toArray, List.length_cons, List.length_nil, Nat.reduceAdd, Nat.reduceSub, Array.replicate_succ, Array.replicate_zero, List.push_toArray, List.append_toArray, List.nil_append, List.cons_append]
  go_wp2_with (go_at_call 18; fail)
  refine (HM.out W0 H0.out.1).mono ?_
  rintro e w1 ⟨kd, LN, sh, bk, tb, u, rfl, hM, T1⟩
  obtain ⟨xa, xn, xc, rfl⟩ := hM.shape
  clear hW0 hB
  unfold cV rcV
  obtain ⟨W1, hW1⟩ : ∃ W, (w1.alloc (.cells #[.int .i64 kd, .int .i64 (LN : Nat), .bool sh, .bool bk, .pointer tb] 26)).alloc (.cells #[.int .i64 kd, .int .i64 (LN : Nat), .bool sh, .bool bk, .slice xa xn xc] 35) = W := ⟨_, rfl⟩
  have t1 : Ux.Touch (fun _ => False) w1 W1 := by rw [← hW1]; exact ((Ux.Touch.refl _ _).alloc _).alloc _
  obtain ⟨q1, hq1⟩ : ∃ q, w1.heap.size = q := ⟨_, rfl⟩
  have r1 : W1.heap[q1]? = some (.cells #[.int .i64 kd, .int .i64 (LN : Nat), .bool sh, .bool bk, .pointer tb] 26 (0, 0)) := by rw [← hW1, ← hq1]; exact ((Ux.Touch.refl (fun _ => False) _).alloc _).heap (heap_alloc_new w1 _) (fun f => f)
  have r2 : W1.heap[q1 + 1]? = some (.cells #[.int .i64 kd, .int .i64 (LN : Nat), .bool sh, .bool bk, .slice xa xn xc] 35 (0, 0)) := by
    rw [← hW1, ← hq1]
    have := heap_alloc_new (w1.alloc (.cells #[.int .i64 kd, .int .i64 (LN : Nat), .bool sh, .bool bk, .pointer tb] 26)) (.cells #[.int .i64 kd, .int .i64 (LN : Nat), .bool sh, .bool bk, .slice xa xn xc] 35)
    rwa [World.size_alloc] at this
  have TW1 := H0.out.1.trans (T1.trans t1 fun _ _ f => f) fun _ _ f => f
  have HCA := Lib.hid fun W (T : Ux.Touch (fun _ => False) W1 W) => (CAt.of r1).touch T
  have HRA := Lib.hid fun W (T : Ux.Touch (fun _ => False) W1 W) => (RAtG.of r2).touch T
  have H1 := Lib.hid (And.intro TW1 (And.intro (hM.touch t1) ((T1.trans t1 fun _ _ f => f).heap H0.out.2 (fun f => f))))
  have HW1 := Lib.hid (And.intro hW1 hq1)
  have HST := Lib.hid fun W => stream_ kd (LN : Nat) sh bk tb s W
  unfold cV at HST
  clear hM T1 t1 r1 r2 TW1 hW1 hq1
  go_upto_region 4 with (fail)
  rw [HW1.out.1, HW1.out.2]
  obtain ⟨x0, x1, x2, x3, x4⟩ := HCA.out W1 (Ux.Touch.refl _ _)
  go_wp2_with (go_at_call 26; fail)
  refine (HST.out W1).mono ?_
  rintro e w4 ⟨rfl, hw4⟩
  obtain ⟨S, hS⟩ : ∃ S, W1.heap.size = S := ⟨_, rfl⟩
  have hst : StrAt w4 S (S + 1) kd (LN : Nat) sh bk tb s := by rw [hw4, ← hS]; exact StrAt.made _ _ _ _ _ _ _
  have T4 : Ux.Touch (fun _ => False) W1 w4 := by rw [hw4]; exact ((Ux.Touch.refl _ _).alloc _).alloc _
  have hs4 : w4.heap.size = S + 2 := by rw [hw4, World.size_alloc, World.size_alloc, hS]
  rw [hS]
  have H4 := Lib.hid (And.intro T4 (And.intro hst (And.intro hs4 (show B < S by have := Ux.lt_of_heap H1.out.2.2; omega))))
  have HSS := Lib.hid hS
  have HRK := Lib.hid fun W (T : Ux.Touch (fun _ => False) W1 W) => rkey_ kd (LN : Nat) (fun e => by have := H1.out.2.1.lv e; omega) sh bk (.slice xa xn xc) (rootT 132) _ s W ⟨_, _, _, rfl⟩ (fun e => ⟨((H1.out.2.1.rows e).1).touch0 T, H1.out.2.1.same.ok H1.out.2.1.okE, (H1.out.2.1.rows e).2⟩) (by have := HS.out; omega)
  rw [← H1.out.2.1.key s] at HRK
  obtain ⟨KB, hKB⟩ : ∃ KB, keyP kd (LN : Nat) sh bk tb rootE s = KB := ⟨_, rfl⟩
  rw [hKB] at HRK
  unfold rcV at HRK
  clear T4 hst hs4 hw4 hS x0 x1 x2 x3 x4
  have hnn := neq_nil
  unfold strV
  obtain ⟨x0, x1, x2, x3, x4⟩ := HRA.out w4 H4.out.1
  go_wp2_with (go_at_call 28; fail)
  refine (HRK.out w4 H4.out.1).mono ?_
  rintro e w5 ⟨rfl, T5⟩
  obtain ⟨m, hm, hm64⟩ := and63 n
  obtain ⟨want, hw⟩ : ∃ want, KB.data.toList = want := ⟨_, rfl⟩
  obtain ⟨nk, hnk⟩ : ∃ nk, KB.size = nk := ⟨_, rfl⟩
  have hwl : want.length = nk := by rw [← hw, ← hnk]; simp
  have hkb : nk ≤ 1000000000 := by
    rw [← hnk, ← hKB]
    exact H1.out.2.1.keylen s (by have := HS.out; omega)
  have HKW := Lib.hid (And.intro hw (And.intro hwl (And.intro hkb hKB)))
  have T15 := H4.out.1.trans T5 fun _ _ f => f
  have b5 := T15.heap H1.out.2.2 (fun f => f)
  have d5 : w5.cell? ⟨B, 0, none⟩ = some (.int .i64 n) := by rw [cell_of_row w5 B 0 _ _ (0, 0) b5]; rfl
  have f5 : w5.frozen? ⟨B, 0, none⟩ = false := frozen_of_row w5 B 0 _ _ b5
  obtain ⟨w6, hw6⟩ : ∃ W, w5.setCell ⟨B, 0, none⟩ (.int .i64 (m : Int)) = W := ⟨_, rfl⟩
  have T6 : Ux.Touch (fun b => b = B) w5 w6 := by rw [← hw6]; exact (Ux.Touch.refl (fun b => b = B) w5).setCell (p := ⟨B, 0, none⟩) (fun _ => rfl) _
  have b6 : w6.heap[B]? = some (.cells #[.int .i64 (m : Int)] 3 (0, 0)) := by rw [← hw6]; exact heap_setCell_same w5 B 0 _ _ _ b5
  obtain ⟨w7, hw7⟩ : ∃ W, w6.alloc (.cells #[.slice none 0 0] 50) = W := ⟨_, rfl⟩
  obtain ⟨q7, hq7⟩ : ∃ q, w6.heap.size = q := ⟨_, rfl⟩
  have T7 : Ux.Touch (fun _ => False) w6 w7 := by rw [← hw7]; exact (Ux.Touch.refl _ _).alloc _
  have b7 : w7.heap[q7]? = some (.cells #[.slice none 0 0] 50 (0, 0)) := by rw [← hw7, ← hq7]; exact heap_alloc_new w6 _
  have hs7 : w7.heap.size = q7 + 1 := by rw [← hw7, World.size_alloc, hq7]
  have T47 : Ux.Touch (fun b => b = B) w4 w7 := ((T5.mono (fun _ _ f => f.elim) : Ux.Touch (fun b => b = B) w4 w5).trans T6 fun _ _ h => h).trans T7 (fun _ _ f => f.elim)
  have TW7 : Ux.Touch (fun b => b = B) w w7 := ((H1.out.1.trans H4.out.1 fun _ _ f => f).mono (fun _ _ f => f.elim) : Ux.Touch (fun b => b = B) w w4).trans T47 fun _ _ h => h
  have hst7 : StrAt w7 S (S + 1) kd (LN : Nat) sh bk tb s := by
    have hb := H4.out.2.2.2
    refine ⟨T47.heap H4.out.2.1.c (fun e => by omega), ?_⟩
    obtain ⟨x, h1, h2⟩ := H4.out.2.1.b
    exact ⟨x, T47.heap h1 (fun e => by omega), h2⟩
  have hsq : S + 2 ≤ q7 := by
    have h1 := T5.size
    have h2 := T6.size
    have h3 := H4.out.2.2.1
    omega
  have H7 := Lib.hid (And.intro TW7 (And.intro hst7 (And.intro (T7.heap b6 (fun f => f)) (And.intro b7 (And.intro hs7 (And.intro hsq hm64))))))
  have HT7 := Lib.hid T47
  clear T5 T15 b5 T6 b6 T7 b7 hs7 T47 TW7 hst7 hsq hw hwl hkb hKB x0 x1 x2 x3 x4
  have hCT : ∀ W, Ux.Touch (fun b => b = B) W1 W → CTab W kd tb rootE := fun W T hk p hp => by
    obtain ⟨B', mb, h1, h2⟩ := H1.out.2.1.tab hk p hp
    refine ⟨B', mb, h1, h2.touchK T ?_⟩
    rintro b rfl
    exact ⟨_, _, H1.out.2.2, by decide, by decide, fun u hu => by simp at hu; subst hu; exact ⟨fun _ h => (by cases h), fun _ h => (by cases h)⟩⟩
  have HCT := Lib.hid hCT
  clear hCT
  go_wp2_with (fail)
  refine' Ux.wp_rangeR (gf := 57) (enc := encB) (want := want) rfl Tryz.func57 rfl rfl (fun _ => rfl) (CCB q7) (fun b => b = S + 1) (ItS (S + 1) kd s) (fun _ _ h => h.1) CCB.cells CCB.mono ?it ?hit (StopI q7 (S + 1) (w7.heap.size + 2) kd s w7 m) (fun c _ W => c = .exit 0 ∧ KeyI q7 (S + 1) (w7.heap.size + 2) kd s w7 (want.take m) W) ?hI ?hIx ?hI2 ?hIx2 ?h0 _ ?assign ?body ?done ?stop
  case it => intro b hb; have h1 := H7.out.2.2.2.2.1; have h2 := H7.out.2.2.2.2.2.1; omega
  case hit =>
    intro l C W1' J Jx hl hC hs1 T1 hR hJ
    have h1 := H7.out.2.2.2.2.1
    have h2 := H7.out.2.2.2.2.2.1
    have hw := HKW.out.1
    have hk := HKW.out.2.2.2
    have T0' : Ux.Touch (fun _ => False) w W1' := (H7.out.1.trans T1 (fun _ _ f => f.elim)).mono (fun b hb e => by have := HB.out; omega)
    have h := iter_ l kd (LN : Nat) sh bk tb rootE s (by have := HS.out; omega) C J Jx W1' S (S + 1) (HT.out.touch T0') (HCT.out W1' ((H4.out.1.mono (fun _ _ f => f.elim) : Ux.Touch (fun b => b = B) W1 w4).trans (HT7.out.trans T1 (fun _ _ f => f.elim)) fun _ _ h => h)) (by rw [hk, hw]; exact hR) ?_ ⟨T1.heap H7.out.2.1.c (fun f => f), let ⟨x, h1, h2⟩ := H7.out.2.1.b; ⟨x, T1.heap h1 (fun f => f), h2⟩⟩ hJ
    · rw [hk, hw] at h
      exact h
    · intro W b hb
      rcases hC W b hb with h | h
      · rcases h with ⟨h, _⟩ | h
        · exact .inl ⟨by omega, by omega, by omega⟩
        · exact .inr h
      · exact .inl ⟨by omega, by omega, by omega⟩
  case hI =>
    intro pre W W' h T
    have h1 := H7.out.2.2.2.2.1
    have h2 := H7.out.2.2.2.2.2.1
    exact ⟨h.1.touchL T (by omega) (by omega) (by omega) (by omega), h.2⟩
  case hIx =>
    intro c pre W W' h T
    have h1 := H7.out.2.2.2.2.1
    have h2 := H7.out.2.2.2.2.2.1
    exact ⟨h.1, h.2.touchL T (by omega) (by omega) (by omega) (by omega)⟩
  case hI2 =>
    intro pre W W' h T
    have h1 := H7.out.2.2.2.2.1
    have h2 := H7.out.2.2.2.2.2.1
    exact ⟨h.1.touchB T (by omega) (by omega), h.2⟩
  case hIx2 =>
    intro c pre W W' h T
    have h1 := H7.out.2.2.2.2.1
    have h2 := H7.out.2.2.2.2.2.1
    exact ⟨h.1, h.2.touchB T (by omega) (by omega)⟩
  case h0 => exact ⟨⟨.slice none 0 0, H7.out.2.2.2.1, Grow.nil _ _ _, H7.out.2.1.b, Ux.Touch.refl _ _⟩, Nat.zero_le _⟩
  case assign =>
    intro l' x W K hK
    unfold encB
    gi_wp2
    exact hK
  case body =>
    intro l' j x W hx hI hW2
    obtain ⟨hI, hjm⟩ := hI
    have h1 := H7.out.2.2.2.2.1
    have h2 := H7.out.2.2.2.2.2.1
    have h3 := H4.out.2.2.2
    have hjl : j < want.length := (List.getElem?_eq_some_iff.1 hx).1
    have hlen : (want.take j).length = j := by rw [List.length_take]; omega
    have htk : want.take (j + 1) = want.take j ++ [x] := by rw [List.take_add_one, hx]; rfl
    have hB7 : W.heap[B]? = some (.cells #[.int .i64 (m : Int)] 3 (0, 0)) := by
      obtain ⟨v, _, _, _, T⟩ := hI
      exact T.heap H7.out.2.2.1 (fun e => by omega)
    have dB : W.cell? ⟨B, 0, none⟩ = some (.int .i64 (m : Int)) := by rw [cell_of_row W B 0 _ _ (0, 0) hB7]; rfl
    obtain ⟨a, c, a', c', w2, k1, k2, krun, k3, k4, k5, k6⟩ := hI.app hW2 (by omega) (by omega) (by omega) x (by rw [hlen]; have := HKW.out.2.1; have := HKW.out.2.2.1; omega) (by omega)
    rw [hlen] at k1 krun k3 k5 k6 hjm
    have R2 := Lib.hid krun
    by_cases hj : j = m
    · have hfin : Ux.Touch (CCB q7 W) W W ∧ (Code.exit 0 = .exit 0 ∧ KeyI q7 (S + 1) (w7.heap.size + 2) kd s w7 (want.take m) W) := ⟨Ux.Touch.refl _ _, rfl, by rw [← hj]; exact hI⟩
      have HF := Lib.hid hfin
      subst hj
      clear krun k3 k4 k5 k6 hx hI hlen htk hjl hfin hB7 hjm R2 h1 h2 h3
      gi_wp2
      exact ⟨HF.out.1, rfl, HF.out.2.2⟩
    · have q1 : ((j : Int) == (m : Int)) = false := by rw [beq_eq_false_iff_ne]; omega
      have hfin : Ux.Touch (CCB q7 W) W (w2.setCell ⟨q7, 0, none⟩ (.slice a' (j + 1 : Nat) c')) ∧ StopI q7 (S + 1) (w7.heap.size + 2) kd s w7 m (want.take (j + 1)) (w2.setCell ⟨q7, 0, none⟩ (.slice a' (j + 1 : Nat) c')) := ⟨k5, by rw [htk]; exact k6, by rw [List.length_take]; omega⟩
      have HF := Lib.hid hfin
      clear krun k5 k6 hx hI hlen htk hjl hfin hB7 hjm hj h1 h2 h3
      gi_wp2_with (gi_at_builtin; refine Ux.wpListIn_app (v1 := .slice a j c) (x1 := .slice (some ⟨W.heap.size, 0, none⟩) 1 1) rfl _ _ _ _ rfl rfl rfl (R2.out _) ?_)
      exact HF.out
  case' done =>
    intro D W hI hD hDs
    have hK : KeyI q7 (S + 1) (w7.heap.size + 2) kd s w7 (want.take m) W := by
      have := hI.2
      rw [List.take_of_length_le this]
      exact hI.1
    clear hI
    go_upto_region 16 with (fail)
  case' stop =>
    intro D cc j W hj hI hD hDs
    obtain ⟨rfl, hK⟩ := hI
    clear hj
    go_upto_region 16 with (fail)
  all_goals
    have h1 := H7.out.2.2.2.2.1
    have h2 := H7.out.2.2.2.2.2.1
    have h3 := H4.out.2.2.2
    obtain ⟨v, a1, a2, a3, a5⟩ := hK
    obtain ⟨a, c, rfl, _⟩ := a2.row.is
    have hL : (bv (want.take m)).length = min m nk := by rw [Ux.bv_length, List.length_take, HKW.out.2.1]
    have hcv := fun W' (T : Ux.Touch (fun _ => False) W W') => convB ((a2.row).touch0 T)
    rw [hL] at a1 a2 hcv
    have TWW : Ux.Touch (fun b => b = B ∨ b = q7 ∨ b = S + 1) w W := (H7.out.1.mono (fun _ _ h => .inl h) : Ux.Touch (fun b => b = B ∨ b = q7 ∨ b = S + 1) w w7).trans a5 (fun b _ h => .inr h)
    have T1W : Ux.Touch (fun b => b = B) W1 W := ((H4.out.1.mono (fun _ _ f => f.elim) : Ux.Touch (fun b => b = B) W1 w4).trans HT7.out (fun _ _ h => h)).trans a5 (fun b hb h => by have h4 := HSS.out; omega)
    have cq : W.cell? ⟨q7, 0, none⟩ = some (.slice a (min m nk : Nat) c) := by rw [cell_of_row W q7 0 _ _ (0, 0) a1]; rfl
    have cB : W.cell? ⟨B, 0, none⟩ = some (.int .i64 (m : Int)) := by rw [cell_of_row W B 0 _ _ (0, 0) (a5.heap H7.out.2.2.1 (fun e => by omega))]; rfl
    have heq : (List.take m want == (KB.extract 0 (min (m : Int) (nk : Int)).toNat).toList) = true := by
      have hk : (min (m : Int) (nk : Int)).toNat = min m nk := by omega
      rw [hk, Lib.toList_data, ByteArray.data_extract, Array.toList_extract, HKW.out.1, beq_iff_eq]
      show _ = List.extract want 0 (min m nk)
      rw [List.extract_eq_take_drop, Nat.sub_zero, List.drop_zero]
      by_cases h : m ≤ nk
      · rw [Nat.min_eq_left h]
      · rw [Nat.min_eq_right (by omega), List.take_of_length_le (by rw [HKW.out.2.1]; omega), List.take_of_length_le (by rw [HKW.out.2.1]; omega)]
    have TWF : Ux.Touch (fun _ => False) w W.drew := (TWW.mono (fun b hb e => by have := HB.out; have := HSS.out; have h5 := H1.out.1.size; omega) : Ux.Touch (fun _ => False) w W).drew
    have hstD : StrAt W.drew S (S + 1) kd (LN : Nat) sh bk tb s := ⟨a5.heap H7.out.2.1.c (fun e => by omega), a3⟩
    have HTX := Lib.hid (text9_ kd (LN : Nat) sh bk tb rootE s W.drew S (S + 1) hstD (by have := HS.out; omega) (HT.out.touch TWF) (HCT.out W.drew T1W.drew) (by rw [HKW.out.2.2.2]; have h8 := HKW.out.2.1; have h9 := HKW.out.2.2.1; have : KB.size = nk := hnk; omega))
    rw [HKW.out.2.2.2] at HTX
    unfold strV at HTX
    have HWF := Lib.hid TWF
    clear hstD TWF a1 a2 a3 a5 TWW T1W
    refine wp_calm ?_
    refine Ux.wp_region_plan (fun _ w' => w'.cell? ⟨q7, 0, none⟩ = some (.slice a (min m nk : Nat) c) ∧ w'.cell? ⟨B, 0, none⟩ = some (.int .i64 (m : Int))) (.h false [0, 3] (.q [2, 4, 5, 6, 7] (.e 1 true true (.q [8, 9, 10, 12] (.e 11 true false (.q [13, 14, 15] (.e 16 true false (.q [17] (.line [18])))))))))
      (by kernel_rfl) (by kernel_rfl) (by intro _ _ d _ _ h; cases d <;> exact h) ?hS ?_
    case hS => (intro c; cases c <;> (simp only [World.cell?_drew]; first | exact True.intro | (refine ⟨?_, ?_⟩ <;> assumption) | assumption | (repeat (first | assumption | (refine And.intro ?_ ?_)))))
    simp only [Ux.wpPlan, Ux.pickOps, Ux.keeps, List.getElem?_toArray, List.getElem?_cons_succ, List.getElem?_cons_zero]
    repeat (first
      | go_big_quiet_step (fail)
      | (with_reducible refine wpQuiet_nil ?_)
      | (refine Ux.quiet_held rfl ?_; apply Exists.intro; refine ⟨fun w' hS => ?_, ?_⟩; (focus ((try dsimp only at hS); go_simp; first | done | with_reducible rfl)); simp only [Act.put, List.setIfInBounds_toArray, List.set_cons_zero, List.set_cons_succ]))
    have hcvd := hcv W.drew ((Ux.Touch.refl _ W).drew)
    have hD2 : W.drew.cell? ⟨q7, 0, none⟩ = some (.slice a (min m nk : Nat) c) ∧ W.drew.cell? ⟨B, 0, none⟩ = some (.int .i64 (m : Int)) := ⟨cq, cB⟩
    have HD2 := Lib.hid hD2
    clear hD2
    go_wp2_with (fail)
    refine ⟨⟨HD2.out, HD2.out⟩, ?_⟩
    clear hcvd hcv cq cB
    repeat (first
      | go_big_quiet_step (fail)
      | (with_reducible refine wpQuiet_nil ?_)
      | (refine Ux.quiet_held rfl ?_; apply Exists.intro; refine ⟨fun w' hS => ?_, ?_⟩; (focus ((try dsimp only at hS); go_simp; first | done | with_reducible rfl)); simp only [Act.put, List.setIfInBounds_toArray, List.set_cons_zero, List.set_cons_succ]))
    go_wp2_with (go_at_call 29; fail)
    refine HTX.out.mono ?_
    rintro e w8 ⟨rfl, _, T8⟩
    have hD8 : w8.cell? ⟨q7, 0, none⟩ = some (.slice a (min m nk : Nat) c) ∧ w8.cell? ⟨B, 0, none⟩ = some (.int .i64 (m : Int)) := ⟨T8.cell HD2.out.1 (fun e => by simp only [] at e; omega), T8.cell HD2.out.2 (fun e => by simp only [] at e; omega)⟩
    have HD8 := Lib.hid hD8
    have hDD := T8.heap (show W.drew.heap[D]? = some (.deferred (some [])) from hD) (fun e => by omega)
    have HDD := Lib.hid (And.intro hDD (show w.heap.size ≤ D by have := HSS.out; have h5 := H1.out.1.size; omega))
    clear hDD
    have TF8 : Ux.Touch (fun _ => False) w w8 := HWF.out.trans (R := fun _ => False) T8 (fun b hb e => by have := HSS.out; have h5 := H1.out.1.size; omega)
    have H8 := Lib.hid TF8
    clear hD8 T8 TF8
    go_wp2_with (fail)
    refine ⟨HD8.out, ?_⟩
    repeat (first
      | go_big_quiet_step (fail)
      | (with_reducible refine wpQuiet_nil ?_)
      | (refine Ux.quiet_held rfl ?_; apply Exists.intro; refine ⟨fun w' hS => ?_, ?_⟩; (focus ((try dsimp only at hS); go_simp; first | done | with_reducible rfl)); simp only [Act.put, List.setIfInBounds_toArray, List.set_cons_zero, List.set_cons_succ]))
    go_wp2_with (go_at_call 25; fail)
    refine (AW.out w8 H8.out).mono ?_
    rintro e w9 ⟨rfl, T9⟩
    have hD9 : w9.cell? ⟨q7, 0, none⟩ = some (.slice a (min m nk : Nat) c) ∧ w9.cell? ⟨B, 0, none⟩ = some (.int .i64 (m : Int)) := ⟨T9.cell HD8.out.1 (fun f => f), T9.cell HD8.out.2 (fun f => f)⟩
    have H9 := Lib.hid (H8.out.trans T9 fun _ _ f => f)
    have HD10 := Lib.hid (T9.heap HDD.out.1 (fun f => f))
    clear T9
    go_wp2_with (fail)
    refine ⟨hD9, ?_⟩
    clear hD9
    repeat (first
      | go_big_quiet_step (fail)
      | (with_reducible refine wpQuiet_nil ?_)
      | (refine Ux.quiet_held rfl ?_; apply Exists.intro; refine ⟨fun w' hS => ?_, ?_⟩; (focus ((try dsimp only at hS); go_simp; first | done | with_reducible rfl)); simp only [Act.put, List.setIfInBounds_toArray, List.set_cons_zero, List.set_cons_succ]))
    go_wp2
    refine ⟨by simp, .inl ⟨_, _, rfl, run_takeDeferred HD10.out, ?_⟩⟩
    refine ⟨_, results_tmp rfl _ _ _, rfl, ?_⟩
    exact (Ux.touch_putObj (H9.out.mono (fun _ _ f => f.elim) : Ux.Touch (fun b => w.heap.size ≤ b) w w9) D HDD.out.2 _).mono (fun b hb h => by omega)
theorem stopsLaw_ (k lv : Int) (s : ByteArray) (n : Int) (w : World) (hT : Tabs w) (h1 : s.size ≤ 140737488355328) :
    Calls Tryz.prog 8 #[.int .i64 k, .int .i64 lv, .string s, .int .i64 n] w fun e w' => e = .returned (.bool true) ∧ Ux.Touch (fun _ => False) w w' := by
  by_cases h : s.size > 100
  · exact stops_big k lv s n w hT h1 h
  · exact stops_ k lv s n w hT (by omega)

end Go.Proofs.YtkeodddpnmnheaaGreatDoor
