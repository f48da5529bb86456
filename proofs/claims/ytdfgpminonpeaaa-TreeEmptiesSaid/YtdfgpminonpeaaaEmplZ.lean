/- PART OF THE PROOF THAT TreeEmptiesSaid HOLDS OF THE GIVEN PROGRAM, FOR EVERY INPUT THAT THE STATEMENT NAMES. No condition besides the statement's own. -/
import Derived.Test.YtdfgpminonpeaaaEmpZ
import Derived.Test.YtdfgpminonpeaaaRows
import Derived.WalkKit
import Derived.Handy
import Derived.Laws.EntriesVeiled
import Derived.WalkSpells
import Derived.WalkLawsBesides
import Derived.BigQuiet
import Derived.Deep.QuietTactic
import Derived.Deep.Cut
import Derived.Lib.Overlaps
import Derived.Laws.Externs
import Derived.Lib.Hide
import Derived.Test.YtdfgpminonpeaaaUxPlanZ
import Derived.Test.YtdfgpminonpeaaaUxHeapZ
import Derived.Test.YtdfgpminonpeaaaUxOrdZ
import Derived.Deep.LoopGhost
namespace Go.Proofs.Ytdfgpminonpeaaa
open Go.RowKit
-- imports: YtdfgpminonpeaaaEmp
open Ux (slt lb has Rises keys ins del Up ky Marks TypeIn)

theorem binfo : (Try.prog.info? 4).map (fun i => (i.zero, i.size, i.bytes)) = some (some (.bool false), 1, 1) := by kernel_rfl

/-- marks, and the tree that they speak of -/
def EmpRel (W : World) (tb F Z N bi n : Nat) (xs : List Bool) (wr : World) : Prop := ∃ l, EmpMid W tb F Z N bi l xs wr ∧ Marks l xs ∧ l.length = n

theorem EmpRel.put {W wr w5 w6 : World} {tb F Z N bi n r : Nat} {l : List (ByteArray × Int)} {xs : List Bool} (M5 : EmpMid W tb F Z N bi l (xs.set r true) w5) (K : Marks l xs) (hl : l.length = n) (hv : xs[r]? = some false) (hZ : xs.length ≤ 256)
    (t6 : HasTree w6 tb F (ins (ky r) r l) N) (T6 : Ux.Touch (TR N w5) w5 w6) : EmpRel W tb F Z N bi (n + 1) (xs.set r true) w6 :=
  ⟨_, M5.turn t6 T6, K.put M5.tree.rising hv hZ r, by rw [Ux.ins_len_not (K.2 r false hv), hl]⟩
theorem EmpRel.del {W wr w5 w6 : World} {tb F Z N bi n r : Nat} {l : List (ByteArray × Int)} {xs : List Bool} (M5 : EmpMid W tb F Z N bi l (xs.set r false) w5) (K : Marks l xs) (hl : l.length = n + 1) (hv : xs[r]? = some true) (hZ : xs.length ≤ 256)
    (t6 : HasTree w6 tb F (del (ky r) l) N) (T6 : Ux.Touch (TR N w5) w5 w6) : EmpMid W tb F Z N bi (del (ky r) l) (xs.set r false) w6 ∧ Marks (del (ky r) l) (xs.set r false) ∧ (del (ky r) l).length = n ∧ has (keys (del (ky r) l)) (ky r) = false :=
  have K6 := K.del M5.tree.rising hv hZ
  ⟨M5.turn t6 T6, K6, by have := Ux.del_len_has (K.2 r true hv); omega, K6.2 r false (by
    have := (List.getElem?_eq_some_iff.1 hv).1
    rw [List.getElem?_set_self this])⟩

set_option maxHeartbeats 4000000 in
set_option maxRecDepth 100000 in
theorem law4 (a0 a1 a2 a3 : Int) (W : World) : Calls Try.prog 4 #[.int .i64 a0, .int .i64 a1, .int .i64 a2, .int .i64 a3] W fun e w' => e = .returned (.bool true) ∧ Ux.Touch (fun _ => False) W w' := by
  obtain ⟨m, F, hand, hm0, hm1, hF, hF4, hF64⟩ := Ux.fan_of a0
  obtain ⟨m2, Z, hand2, hn0, hn1, hZ, hZ1, hZ2⟩ := Ux.many_of a1
  obtain ⟨ia, p, hia, hia8, hpa, hp1, hp2⟩ := Ux.step_of a2
  obtain ⟨ib, q, hib, hib8, hqb, hq1, hq2⟩ := Ux.step_of a3
  have HNEW := Lib.hid (newL F W hF4 hF64)
  obtain ⟨i0, hi0, hz0, hz1, hz2⟩ := info_parts binfo
  have hmk : ∀ w : World, (Instr.makeSlice 41 (.int .i64 Z) (.int .i64 Z)).run Try.prog w = .ok (.slice (some ⟨w.heap.size, 0, none⟩) Z Z) (w.alloc (.cells ((List.replicate Z false).map Value.bool).toArray 4)) := fun w => by
    have h := run_make (P := Try.prog) w 41 4 i0 (.bool false) Try.underlying41 hi0 hz0 .i64 .i64 Z Z (by omega) (Int.le_refl _) (by rw [hz2]; omega) (by omega)
    rw [hz1] at h
    simp only [Int.toNat_natCast] at h
    rw [h]
    have := Ux.made_false Z
    simp only [Value.cells] at this ⊢
    rw [this]
  clear hi0 hz0 hz1 hz2
  have HPQ := Lib.hid (And.intro hpa hqb)
  have z0 : (1 : Int) ≤ Z := by omega
  have z1 : (Z : Int) ≤ 200 := by omega
  have z2 : (1 : Int) ≤ p := by omega
  have z3 : (p : Int) ≤ 23 := by omega
  have z4 : (1 : Int) ≤ q := by omega
  have z5 : (q : Int) ≤ 23 := by omega
  have z6 : (0 : Int) ≤ ia := by omega
  have z7 : (ia : Int) < 8 := by omega
  have z8 : (0 : Int) ≤ ib := by omega
  have z9 : (ib : Int) < 8 := by omega
  clear hpa hqb hF4 hF64 hZ1 hZ2 hp1 hp2 hq1 hq2 hia8 hib8
  go_enter Try.func4, Try.ntmps4
  go_wp2_with (go_at_call 9; fail)
  refine HNEW.out.mono ?_
  rintro e w1 ⟨tb, rfl, t1, T1⟩
  have H1 := Lib.hid (And.intro t1 T1)
  clear t1 T1 HNEW hand hm0 hm1 hF
  go_wp2_with (fail)
  obtain ⟨w2, hw2⟩ : ∃ w2, w1.alloc (.cells #[.int .i64 1, .int .i64 3, .int .i64 7, .int .i64 11, .int .i64 13, .int .i64 17, .int .i64 19, .int .i64 23] 3) = w2 := ⟨_, rfl⟩
  rw [hw2]
  have T2 : Ux.Touch (fun _ => False) w1 w2 := by rw [← hw2]; exact (Ux.Touch.refl _ w1).alloc _
  have cst : ∀ (j r : Nat), Ux.stepsL[j]? = some r → w2.cell? ⟨w1.heap.size, j, none⟩ = some (.int .i64 r) := fun j r h => by
    rw [← hw2, World.cell?_alloc_mark]
    have e : (#[Value.int .i64 1, .int .i64 3, .int .i64 7, .int .i64 11, .int .i64 13, .int .i64 17, .int .i64 19, .int .i64 23] : Array Value) = (Ux.stepsL.map fun (n : Nat) => Value.int .i64 (n : Int)).toArray := rfl
    rw [e]
    simp [h]
  have cp := cst ia p HPQ.out.1
  have cq := cst ib q HPQ.out.2
  have HT2 := Lib.hid T2
  clear cst T2 hw2
  refine Ux.wp_region_plan (fun _ w' => w'.cell? ⟨w1.heap.size, ia, none⟩ = some (.int .i64 p) ∧ w'.cell? ⟨w1.heap.size, ib, none⟩ = some (.int .i64 q)) (.q [0, 1, 2, 3, 5, 6, 7, 8] (.h false [4, 9] (.q [10] (.line [11]))))
    (by kernel_rfl) (by kernel_rfl) (by intro _ _ d _ _ h; cases d <;> exact h) ?hS ?_
  case hS => (intro c; cases c <;> (simp only [World.cell?_drew]; first | exact True.intro | (refine ⟨?_, ?_⟩ <;> assumption) | assumption | (repeat (first | assumption | (refine And.intro ?_ ?_)))))
  simp only [Ux.wpPlan, Ux.pickOps, Ux.keeps, List.getElem?_toArray, List.getElem?_cons_succ, List.getElem?_cons_zero]
  repeat (first
    | go_big_quiet_step (fail)
    | (with_reducible refine wpQuiet_nil ?_)
    | (refine Ux.quiet_held rfl ?_; apply Exists.intro; refine ⟨fun w' hS => ?_, ?_⟩; (focus ((try dsimp only at hS); go_simp; first | done | with_reducible rfl)); simp only [Act.put, List.setIfInBounds_toArray, List.set_cons_zero, List.set_cons_succ]))
  go_wp2_with (fail)
  obtain ⟨bi, hbi⟩ : ∃ bi, w2.heap.size = bi := ⟨_, rfl⟩
  obtain ⟨w3, hw3⟩ : ∃ w3, (w2.alloc (.cells (Array.replicate Z (Value.bool false)) 4)).drew = w3 := ⟨_, rfl⟩
  obtain ⟨N, hN⟩ : ∃ N, W.heap.size = N := ⟨_, rfl⟩
  rw [hbi, hw3]
  have start : EmpRel W tb F Z N bi 0 (List.replicate Z false) w3 := by
    have T3 : Ux.Touch (fun _ => False) w2 w3 := by rw [← hw3]; exact ((Ux.Touch.refl _ w2).alloc _).drew
    have T23 := HT2.out.trans T3 (fun _ _ f => f)
    refine ⟨[], ⟨?_, ?_, by simp, ?_, ?_⟩, Ux.Marks.none Z, rfl⟩
    · have := H1.out.2.size; have := HT2.out.size; omega
    · rw [← hN]; exact H1.out.1.still T23
    · have h3 := heap_alloc_new w2 (.cells (Array.replicate Z (Value.bool false)) 4)
      rw [hbi] at h3
      rw [← hw3]
      rw [show ((List.replicate Z false).map Value.bool).toArray = Array.replicate Z (Value.bool false) by simp]
      exact h3
    · exact (H1.out.2.trans T23 (fun _ _ f => f)).mono (fun _ _ f => f.elim)
  have HS := Lib.hid start
  have HNN := Lib.hid hN
  clear start hw3 hbi hN HT2 H1 HPQ hia cp cq z6 z7 z8 z9 hib hmk hn0 hn1 hand2
  go_loopg [16, 17] Z (fun g s16 s17 wr => ∃ (i a : Nat) (xs : List Bool), s16 = .int .i64 i ∧ s17 = .int .i64 a ∧ i + g = Z ∧ a ≤ 300 * i ∧ EmpRel W tb F Z N bi i xs wr)
  case atStart => exact ⟨0, 0, _, rfl, rfl, by omega, by omega, HS.out⟩
  case round =>
    obtain ⟨i, a, xs, rfl, rfl, hig, ha, hE⟩ := hrel
    have p0 : (0 : Int) ≤ i := by omega
    have p1 : (0 : Int) ≤ a := by omega
    by_cases hlt : i < Z
    · obtain ⟨g', rfl⟩ : ∃ g', gk = g' + 1 := ⟨gk - 1, by omega⟩
      obtain ⟨l, M, K, hl⟩ := hE
      have hcount : xs.count true < xs.length := by rw [← K.1, hl, M.len]; exact hlt
      obtain ⟨s, hs, hs2⟩ := Ux.marks_round hcount a
      rw [M.len] at hs hs2
      have p2 : (i : Int) < Z := by omega
      have HM := Lib.hid (And.intro M (And.intro K (And.intro hl hs2)))
      clear M K hl hs2 hcount
      go_wp2_with (fail)
      obtain ⟨wo, hwo⟩ : ∃ wo : World, wo = wr := ⟨_, rfl⟩
      subst hwo
      go_loopg [17] s (fun g s17 wq => ∃ b : Nat, s17 = .int .i64 b ∧ b + g = a + s ∧ wq = wo)
      case atStart => exact ⟨a, rfl, rfl, rfl⟩
      case round =>
        obtain ⟨b, rfl, hb, rfl⟩ := hrel
        obtain ⟨r, hr⟩ : ∃ r, b % Z = r := ⟨_, rfl⟩
        have hrZ : r < Z := by rw [← hr]; exact Nat.mod_lt _ (by omega)
        have hmod : (b : Int) % (Z : Int) = (r : Int) := by rw [← hr]; omega
        obtain ⟨v, hv⟩ : ∃ v, xs[r]? = some v := ⟨xs[r]'(by rw [HM.out.1.len]; exact hrZ), List.getElem?_eq_getElem _⟩
        have cl := HM.out.1.cell hv
        have fz := HM.out.1.free r
        have p3 : (0 : Int) ≤ b := by omega
        have p4 : (b : Int) ≤ 70000 := by omega
        have p5 : (r : Int) < Z := by omega
        have p6 : (0 : Int) ≤ r := by omega
        cases v with
        | true =>
          obtain ⟨g2, rfl⟩ : ∃ g2, gk = g2 + 1 := by
            cases gk with
            | zero =>
              exfalso
              have h := HM.out.2.2.2
              rw [show a + s = b by omega, hr, hv] at h
              cases h
            | succ g2 => exact ⟨g2, rfl⟩
          clear hv hr
          go_wp2
          go_roundg g2
          case measure => omega
          case rel => exact ⟨b + 1, by go_num, by omega, rfl⟩
        | false =>
          have HV := Lib.hid hv
          clear hv hr
          go_wp2_with (fail)
          refine Ux.wp_region_plan (fun _ _ => True) (.q [0, 1, 2, 3, 4, 6, 7, 8] (.e 5 false false (.e 9 false false (.q [10] (.line [])))))
            (by kernel_rfl) (by kernel_rfl) (by intro _ _ d _ _ h; cases d <;> exact h) ?hS ?_
          case hS => (intro c; cases c <;> (simp only [World.cell?_drew]; first | exact True.intro | (refine ⟨?_, ?_⟩ <;> assumption) | assumption | (repeat (first | assumption | (refine And.intro ?_ ?_)))))
          simp only [Ux.wpPlan, Ux.pickOps, Ux.keeps, List.getElem?_toArray, List.getElem?_cons_succ, List.getElem?_cons_zero]
          repeat (first
            | go_big_quiet_step (fail)
            | (with_reducible refine wpQuiet_nil ?_)
            | (refine Ux.quiet_held rfl ?_; apply Exists.intro; refine ⟨fun w' hS => ?_, ?_⟩; (focus ((try dsimp only at hS); go_simp; first | done | with_reducible rfl)); simp only [Act.put, List.setIfInBounds_toArray, List.set_cons_zero, List.set_cons_succ]))
          go_wp2_with (fail)
          refine (key21 r _ (by omega)).mono ?_
          rintro e w5 ⟨rfl, T5⟩
          have M5 := (HM.out.1.set r true).still ((((Ux.Touch.refl (fun _ => False) _).drew)).trans T5 (fun _ _ f => f))
          have PUT := putR M5.tree M5.size (by have := HM.out.2.2.1; omega) (ky r) r
          rw [HM.out.2.1.2 r false HV.out] at PUT
          have HPUT := Lib.hid PUT
          have HM5 := Lib.hid M5
          clear T5 M5 PUT
          go_wp2_with (fail)
          refine HPUT.out.mono ?_
          rintro e w6 ⟨rfl, t6, T6⟩
          have E6 := Lib.hid (EmpRel.put (wr := wr) HM5.out HM.out.2.1 HM.out.2.2.1 HV.out (by rw [HM.out.1.len]; omega) t6 T6)
          clear t6 T6
          go_wp2_with (fail)
          repeat (first
            | go_big_quiet_step (fail)
            | (with_reducible refine wpQuiet_nil ?_)
            | (refine Ux.quiet_held rfl ?_; apply Exists.intro; refine ⟨fun w' hS => ?_, ?_⟩; (focus ((try dsimp only at hS); go_simp; first | done | with_reducible rfl)); simp only [Act.put, List.setIfInBounds_toArray, List.set_cons_zero, List.set_cons_succ]))
          go_wp2
          go_roundg g'
          case measure => omega
          case rel => exact ⟨i + 1, b + p, _, by go_num, by go_num, by omega, by omega, E6.out⟩
    · obtain rfl : Z = i := by omega
      obtain ⟨l, M, K, hl⟩ := hE
      have LEN := lenL M.tree
      rw [hl] at LEN
      have CHK := checkL M.tree (by omega)
      have HM := Lib.hid (And.intro M (And.intro K hl))
      have HLEN := Lib.hid LEN
      have HCHK := Lib.hid CHK
      clear M K hl LEN CHK HS hlt ha
      go_wp2_with (first | (go_at_call 15; refine HLEN.out.mono ?_; rintro e w' ⟨rfl, rfl⟩) | (go_at_call 22; fail))
      refine HCHK.out.mono ?_
      rintro e w7 ⟨rfl, T7⟩
      have S0 := Lib.hid (show EmpRel W tb F Z N bi (Z - 0) xs w7 from ⟨l, HM.out.1.still T7, HM.out.2.1, HM.out.2.2⟩)
      clear T7 HM HCHK HLEN
      go_wp2_with (fail)
      clear p0 p1 hig
      go_loopg [18, 19] Z (fun g s18 s19 wr => ∃ (i a : Nat) (xs : List Bool), s18 = .int .i64 i ∧ s19 = .int .i64 a ∧ i + g = Z ∧ a ≤ 300 * i ∧ EmpRel W tb F Z N bi (Z - i) xs wr)
      case atStart => exact ⟨0, 0, _, rfl, rfl, by omega, by omega, S0.out⟩
      case round =>
        obtain ⟨i, a, xs, rfl, rfl, hig, ha, hE⟩ := hrel
        have p0 : (0 : Int) ≤ i := by omega
        have p1 : (0 : Int) ≤ a := by omega
        by_cases hlt : i < Z
        · obtain ⟨g', rfl⟩ : ∃ g', gk = g' + 1 := ⟨gk - 1, by omega⟩
          obtain ⟨l, M, K, hl⟩ := hE
          have hcount : xs.count false < xs.length := by have h1 := Ux.count_split xs; have h2 := K.1; have h3 := M.len; omega
          obtain ⟨s, hs, hs2⟩ := Ux.marks_round hcount a
          rw [M.len] at hs hs2
          have p2 : (i : Int) < Z := by omega
          have HM := Lib.hid (And.intro M (And.intro K (And.intro hl hs2)))
          clear M K hl hs2 hcount S0
          go_wp2_with (fail)
          obtain ⟨wo, hwo⟩ : ∃ wo : World, wo = wr := ⟨_, rfl⟩
          subst hwo
          go_loopg [19] s (fun g s19 wq => ∃ b : Nat, s19 = .int .i64 b ∧ b + g = a + s ∧ wq = wo)
          case atStart => exact ⟨a, rfl, rfl, rfl⟩
          case round =>
            obtain ⟨b, rfl, hb, rfl⟩ := hrel
            obtain ⟨r, hr⟩ : ∃ r, b % Z = r := ⟨_, rfl⟩
            have hrZ : r < Z := by rw [← hr]; exact Nat.mod_lt _ (by omega)
            have hmod : (b : Int) % (Z : Int) = (r : Int) := by rw [← hr]; omega
            obtain ⟨v, hv⟩ : ∃ v, xs[r]? = some v := ⟨xs[r]'(by rw [HM.out.1.len]; exact hrZ), List.getElem?_eq_getElem _⟩
            have cl := HM.out.1.cell hv
            have fz := HM.out.1.free r
            have p3 : (0 : Int) ≤ b := by omega
            have p4 : (b : Int) ≤ 70000 := by omega
            have p5 : (r : Int) < Z := by omega
            have p6 : (0 : Int) ≤ r := by omega
            cases v with
            | false =>
              obtain ⟨g2, rfl⟩ : ∃ g2, gk = g2 + 1 := by
                cases gk with
                | zero =>
                  exfalso
                  have h := HM.out.2.2.2
                  rw [show a + s = b by omega, hr, hv] at h
                  cases h
                | succ g2 => exact ⟨g2, rfl⟩
              clear hv hr
              go_wp2
              go_roundg g2
              case measure => omega
              case rel => exact ⟨b + 1, by go_num, by omega, rfl⟩
            | true =>
              have HV := Lib.hid hv
              clear hv hr
              go_wp2_with (fail)
              refine (key21 r _ (by omega)).mono ?_
              rintro e w5 ⟨rfl, T5⟩
              have M5 := (HM.out.1.set r false).still T5
              have DEL := delR M5.tree M5.size (by have := HM.out.2.2.1; omega) (ky r)
              rw [HM.out.2.1.2 r true HV.out] at DEL
              have HDEL := Lib.hid DEL
              have HM5 := Lib.hid M5
              clear T5 M5 DEL
              go_wp2_with (fail)
              refine HDEL.out.mono ?_
              rintro e w6 ⟨rfl, t6, T6⟩
              have E6 := Lib.hid (EmpRel.del (n := Z - (i + 1)) (wr := wr) HM5.out HM.out.2.1 (by rw [HM.out.2.2.1]; omega) HV.out (by rw [HM.out.1.len]; omega) t6 T6)
              clear t6 T6 HDEL HM5
              go_wp2_with (fail)
              refine (key21 r _ (by omega)).mono ?_
              rintro e w7 ⟨rfl, T7⟩
              have M7 := E6.out.1.still T7
              have DEL := delR M7.tree M7.size (by have := E6.out.2.2.1; omega) (ky r)
              rw [E6.out.2.2.2, Ux.del_not E6.out.2.2.2] at DEL
              have HDEL := Lib.hid DEL
              have HM7 := Lib.hid M7
              clear T7 M7 DEL
              go_wp2_with (fail)
              refine HDEL.out.mono ?_
              rintro e w8 ⟨rfl, t8, T8⟩
              have M8 := HM7.out.turn t8 T8
              have LEN := lenL M8.tree
              rw [E6.out.2.2.1] at LEN
              have e0 : ((Z - (i + 1) : Nat) : Int) = (Z : Int) - 1 - i := by omega
              rw [e0] at LEN
              have HLEN := Lib.hid LEN
              have CHK := checkL M8.tree (by have := E6.out.2.2.1; omega)
              have HCHK := Lib.hid CHK
              have HM8 := Lib.hid M8
              clear t8 T8 M8 LEN CHK HDEL HM7 e0
              by_cases hm : i % 16 = 0
              · have hm' : ((i : Int) % 16 == 0) = true := by rw [beq_iff_eq]; omega
                clear hm
                go_wp2_with (first | (go_at_call 15; refine HLEN.out.mono ?_; rintro e w' ⟨rfl, rfl⟩) | (go_at_call 22; fail))
                refine HCHK.out.mono ?_
                rintro e w9 ⟨rfl, T9⟩
                have M9 := Lib.hid (HM8.out.still T9)
                clear T9
                go_wp2_with (fail)
                go_roundg g'
                case measure => omega
                case rel => exact ⟨i + 1, b + q, _, by go_num, by go_num, by omega, by omega, _, M9.out, E6.out.2.1, E6.out.2.2.1⟩
              · have hm' : ((i : Int) % 16 == 0) = false := by rw [beq_eq_false_iff_ne]; omega
                clear hm
                go_wp2_with (first | (go_at_call 15; refine HLEN.out.mono ?_; rintro e w' ⟨rfl, rfl⟩) | (go_at_call 22; fail))
                go_roundg g'
                case measure => omega
                case rel => exact ⟨i + 1, b + q, _, by go_num, by go_num, by omega, by omega, _, HM8.out, E6.out.2.1, E6.out.2.2.1⟩
        · obtain rfl : Z = i := by omega
          obtain ⟨l, M, K, hl⟩ := hE
          obtain rfl : l = [] := List.eq_nil_of_length_eq_zero (by omega)
          have LAST := lastL M.tree (by simp)
          rw [if_pos rfl] at LAST
          have HLAST := Lib.hid LAST
          have HM := Lib.hid M
          clear M K hl LAST S0 hlt ha
          go_wp2_with (go_at_call 16; fail)
          refine HLAST.out.mono ?_
          rintro e w2 ⟨cb, fc, rfl, c2, hfc, T2⟩
          have M2 := HM.out.still T2
          have DEP : Calls Try.prog 24 #[.pointer (some ⟨tb, 0, none⟩)] w2 fun e w' => e = .returned (.int .i64 0) ∧ w2 = w' := (depthL M2.tree (by simp)).mono fun e w' ⟨⟨d, he, hd, _⟩, hw⟩ => ⟨by rw [he, hd rfl]; rfl, hw⟩
          have HDEP := Lib.hid DEP
          have HCHK := Lib.hid (checkL M2.tree (by simp))
          have HM2 := Lib.hid M2
          have HC2 := Lib.hid c2
          clear M2 c2 hfc T2 HLAST HM DEP
          go_wp2_with (first | (go_at_call 24; refine HDEP.out.mono ?_; rintro e w' ⟨rfl, rfl⟩) | (go_at_call 22; fail))
          refine HCHK.out.mono ?_
          rintro e w3 ⟨rfl, T3⟩
          have M3 := HM2.out.still T3
          have HOK := Lib.hid (okL (HC2.out.still T3))
          have PUT := putL M3.tree M3.size (by simp) ⟨#[120]⟩ 1
          rw [show has (keys []) (⟨#[120]⟩ : ByteArray) = false from by decide] at PUT
          have HPUT := Lib.hid PUT
          have HM3 := Lib.hid M3
          clear M3 T3 PUT HC2 HM2 HDEP HCHK
          go_wp2_with (first | (go_at_call 12; refine HOK.out.mono ?_; rintro e w' ⟨rfl, rfl⟩) | (go_at_call 10; fail))
          refine HPUT.out.mono ?_
          rintro e w4 ⟨rfl, t4, T4⟩
          have HLEN := Lib.hid (lenL t4)
          have HT := Lib.hid (HM3.out.touch.trans T4 (fun _ _ h => h))
          clear t4 T4 HM3 HPUT HOK
          go_wp2_with (first | (go_at_call 15; refine HLEN.out.mono ?_; rintro e w' ⟨rfl, rfl⟩) | (go_at_call 20; fail))
          refine (awake20 _).mono ?_
          rintro e w5 ⟨rfl, T5⟩
          have HT5 := Lib.hid (HT.out.trans T5 (fun _ _ f => f.elim))
          clear T5
          go_wp2
          go_ret
          exact ⟨rfl, HT5.out.mono (fun b hb h => by have := HNN.out; omega)⟩

end Go.Proofs.Ytdfgpminonpeaaa
