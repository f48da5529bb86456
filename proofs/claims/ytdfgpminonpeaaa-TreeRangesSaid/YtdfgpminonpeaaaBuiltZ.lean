/- PART OF THE PROOF THAT THIS CLAIM HOLDS OF THE GIVEN PROGRAM, FOR EVERY INPUT THAT THE STATEMENT NAMES. No condition besides the statement's own. -/
import Derived.Test.YtdfgpminonpeaaaUxPlanAllZ
import Derived.Test.YtdfgpminonpeaaaUxCurAllZ
import Derived.Test.YtdfgpminonpeaaaPairsZ
import Derived.Test.YtdfgpminonpeaaaEmpZ
import Derived.Test.YtdfgpminonpeaaaRows
import Derived.WalkKit
import Derived.Handy
import Derived.Laws.EntriesVeiled
import Derived.WalkSpells
import Derived.WalkLawsBesides
import Derived.BigQuiet
import Derived.Deep.QuietTactic
import Derived.Deep.Cut
import Derived.Lib.Overlaps
import Derived.Laws.Externs
import Derived.Lib.Hide
import Derived.Test.YtdfgpminonpeaaaUxTreeAllZ
import Derived.Deep.LoopGhost
namespace Go.Proofs.Ytdfgpminonpeaaa
open Go.RowKit
-- imports: UxApp UxPlay YtdfgpminonpeaaaPairs YtdfgpminonpeaaaEmp
open Ux (slt lb has Rises keys ins del playN play1 Act3)

/-- a script in memory -/
def OpsAt (w : World) (base : Option Addr) (ops : List Act3) : Prop :=
  ∀ i o, ops[i]? = some o → ∃ b f, base = some ⟨b, f, none⟩ ∧ b < w.heap.size ∧ w.cell? ⟨b, f + i * 3, none⟩ = some (.int .i64 o.1) ∧ w.cell? ⟨b, f + i * 3 + 1, none⟩ = some (.int .i64 o.2.1) ∧ w.cell? ⟨b, f + i * 3 + 2, none⟩ = some (.string o.2.2)

/-- a tree and its list -/
structure BuiltRel (W : World) (tb F N : Nat) (l : List (ByteArray × Int)) (v : Value) (wr : World) : Prop where
  tree : HasTree wr tb F l N
  pairs : PairsAt wr v l
  own : ∀ b, v.ownBlock = some b → N ≤ b
  touch : Ux.Touch (fun b => N ≤ b) W wr

theorem BuiltRel.size {W wr : World} {tb F N : Nat} {l : List (ByteArray × Int)} {v : Value} (h : BuiltRel W tb F N l v wr) : N ≤ wr.heap.size := by
  obtain ⟨⟨h1, t, d, x, fp, h2, h3⟩, _, _, _⟩ := h
  have := Ux.lt_of_heap h2.cell
  omega
theorem BuiltRel.still {W wr w' : World} {tb F N : Nat} {l : List (ByteArray × Int)} {v : Value} (h : BuiltRel W tb F N l v wr) (T : Ux.Touch (fun _ => False) wr w') : BuiltRel W tb F N l v w' :=
  ⟨h.tree.still T, h.pairs.touch T (fun _ _ f => f), h.own, h.touch.trans T (fun _ _ f => f.elim)⟩
/-- the tree turns, the list stays -/
theorem BuiltRel.turn {W wr w' : World} {tb F N : Nat} {l l' : List (ByteArray × Int)} {v : Value} (h : BuiltRel W tb F N l v wr) (t : HasTree w' tb F l' N) (T : Ux.Touch (TR N wr) wr w') :
    HasTree w' tb F l' N ∧ PairsAt w' v l ∧ Ux.Touch (fun b => N ≤ b) W w' :=
  ⟨t, h.pairs.touch T (fun b hb hR => (Ux.TypeIn.ne (Ux.own_type h.pairs b (by simp [Ux.blk, hb])) hR.2 (by decide)) rfl), h.touch.trans T (fun _ _ f => f.1)⟩

set_option maxHeartbeats 4000000 in
set_option maxRecDepth 100000 in
theorem built25 (F : Nat) (hF4 : 4 ≤ F) (hF64 : F ≤ 64) (base : Option Addr) (c : Nat) (ops : List Act3) (most : Nat) (hmost : most ≤ 1000) (W : World) (hops : OpsAt W base ops) (hlen : ops.length ≤ maxLen) :
    Calls Try.prog 25 #[.int .i64 F, .slice base ops.length c, .int .i64 most] W fun e w' => ∃ tb v, e = .returned (.tuple #[.pointer (some ⟨tb, 0, none⟩), v, .bool true]) ∧ BuiltRel W tb F W.heap.size (playN ops (min ops.length most)) v w' := by
  have HNEW := Lib.hid (newL F W hF4 hF64)
  obtain ⟨n, hn⟩ : ∃ n, ops.length = n := ⟨_, rfl⟩
  rw [hn] at hlen
  have hl' : (n : Int) ≤ 9223372036854775807 := by unfold maxLen at hlen; omega
  have HN := Lib.hid hn
  rw [hn]
  have HOPS := Lib.hid hops
  have m0 : (most : Int) ≤ 1000 := by omega
  have m1 : (0 : Int) ≤ most := by omega
  clear hn hlen hops hF4 hF64 
  go_enter Try.func25, Try.ntmps25
  go_wp2_with (go_at_call 9; fail)
  refine HNEW.out.mono ?_
  rintro e w1 ⟨tb, rfl, t1, T1⟩
  obtain ⟨N, hN⟩ : ∃ N, W.heap.size = N := ⟨_, rfl⟩
  rw [hN] at t1
  have H1 := Lib.hid (BuiltRel.mk t1 (PairsAt.nil w1) (fun b hb => by cases hb) (T1.mono (fun _ _ f => f.elim)) : BuiltRel W tb F N [] (.slice none 0 0) w1)
  have HNN := Lib.hid hN
  clear t1 T1 HNEW hN
  go_wp2_with (fail)
  go_loopg [11, 12] (n - 0) (fun g s11 s12 wr => ∃ (i : Nat), s12 = .int .i64 i ∧ i + g = n ∧ i ≤ most ∧ BuiltRel W tb F N (playN ops i) s11 wr)
  case atStart => exact ⟨0, rfl, by omega, by omega, H1.out⟩
  case round =>
    obtain ⟨i, rfl, hig, him, hB⟩ := hrel
    have p0 : (0 : Int) ≤ i := by omega
    have p1 : (i : Int) ≤ 1000 := by omega
    by_cases hlt : i < n ∧ i < most
    · obtain ⟨g', rfl⟩ : ∃ g', gk = g' + 1 := ⟨gk - 1, by omega⟩
      have p2 : (i : Int) < n := by omega
      have p3 : (i : Int) < most := by omega
      obtain ⟨⟨kind, row, key⟩, ho⟩ : ∃ o, ops[i]? = some o := ⟨ops[i]'(by rw [HN.out]; exact hlt.1), List.getElem?_eq_getElem _⟩
      have hplay : playN ops (i + 1) = play1 (playN ops i) (kind, row, key) := by
        simp only [playN, Ux.playN, List.getD_eq_getElem?_getD, ho, Option.getD_some]
      have hLen := Ux.playN_length ops i
      obtain ⟨L, hL⟩ : ∃ L, playN ops i = L := ⟨_, rfl⟩
      rw [hL] at hB hplay hLen
      obtain ⟨ab, af, rfl, hab, c0, c1, c2⟩ := HOPS.out i _ ho
      have hnR : ¬ N ≤ ab := by have := HNN.out; omega
      have c0 := hB.touch.cell c0 hnR
      have c1 := hB.touch.cell c1 hnR
      have c2 := hB.touch.cell c2 hnR
      simp only [] at c0 c1 c2
      have HP := Lib.hid hplay
      have HB := Lib.hid hB
      have FIND := find28 u11 L key (wr.alloc (.cells #[.int .i64 kind, .int .i64 row, .string key] 83)) (hB.pairs.touch ((Ux.Touch.refl (fun _ => False) wr).alloc _) (fun _ _ f => f)) (by omega)
      have HFIND := Lib.hid FIND
      clear hB hplay FIND ho hL hab hnR
      go_wp2_with (fail)
      refine HFIND.out.mono ?_
      rintro e w2 ⟨rfl, hw2⟩
      have T2 : Ux.Touch (fun _ => False) wr w2 := by rw [hw2]; exact ((Ux.Touch.refl _ wr).alloc _).drew
      have hbo : w2.heap[wr.heap.size]? = some (.cells #[.int .i64 kind, .int .i64 row, .string key] 83 (0, 0)) := by rw [hw2]; exact heap_alloc_new wr _
      obtain ⟨bo, hboe⟩ : ∃ bo, wr.heap.size = bo := ⟨_, rfl⟩
      rw [hboe] at hbo
      rw [hboe]
      have HBO := Lib.hid hbo
      have B2 := HB.out.still T2
      have d0 : w2.cell? ⟨bo, 0, none⟩ = some (.int .i64 kind) := by rw [cell_of_row w2 bo 0 _ 83 (0, 0) hbo]; rfl
      have d1 : w2.cell? ⟨bo, 1, none⟩ = some (.int .i64 row) := by rw [cell_of_row w2 bo 1 _ 83 (0, 0) hbo]; rfl
      have d2 : w2.cell? ⟨bo, 2, none⟩ = some (.string key) := by rw [cell_of_row w2 bo 2 _ 83 (0, 0) hbo]; rfl
      have hoN : N ≤ bo := by have := HB.out.size; omega
      have htr : ¬ TR N w2 bo := fun ⟨_, h⟩ => (Ux.TypeIn.ne (ts := [83]) ⟨_, _, hbo, by simp⟩ h (by decide)) rfl
      have HTR := Lib.hid htr
      have HB2 := Lib.hid B2
      clear T2 hbo B2 htr hw2 hboe c0 c1 c2 HFIND HB
      by_cases k1 : kind = 1
      · subst k1
        have hplay : playN ops (i + 1) = del key L := by rw [HP.out]; rfl
        have HP2 := Lib.hid hplay
        clear HP hplay
        have DEL := delR HB2.out.tree HB2.out.size (by omega) key
        cases hh : has (keys L) key with
        | false =>
          rw [hh] at DEL
          have HDEL := Lib.hid DEL
          have HH := Lib.hid hh
          clear DEL hh
          go_wp2_with (go_at_call 23; fail)
          refine HDEL.out.mono ?_
          rintro e w3 ⟨rfl, t3, T3⟩
          have B3 := HB2.out.turn t3 T3
          have HB3 := Lib.hid (BuiltRel.mk B3.1 (by rw [Ux.del_not HH.out]; exact B3.2.1) HB2.out.own B3.2.2 : BuiltRel W tb F N (del key L) u11 w3)
          clear t3 T3 B3 HDEL
          go_wp2_with (fail)
          go_roundg g'
          case measure => omega
          case rel => exact ⟨i + 1, by go_num, by omega, by omega, by rw [HP2.out]; exact HB3.out⟩
        | true =>
          rw [hh] at DEL
          have hkl := Ux.has_lt hh
          have HIS := Lib.hid (Ux.del_is hh)
          have HDEL := Lib.hid DEL
          clear DEL hh
          obtain ⟨k, hk⟩ : ∃ k, lb (keys L) key = k := ⟨_, rfl⟩
          rw [hk] at hkl HIS
          rw [hk]
          clear hk
          go_wp2_with (go_at_call 23; fail)
          refine HDEL.out.mono ?_
          rintro e w3 ⟨rfl, t3, T3⟩
          have B3 := HB2.out.turn t3 T3
          obtain ⟨a, c', hu, _⟩ := B3.2.1.cells
          have HOWN := Lib.hid HB2.out.own
          subst hu
          obtain ⟨v2, hv2, S2⟩ := pairs_drop (k := k + 1) (by omega) B3.2.1 rfl
          have hv2' : ∀ w, (Instr.slice 46 (.slice a L.length c') (some (.int .i64 ((k : Int) + 1))) none none).run Try.prog w = .ok v2 w := fun w => by have := hv2 w; simpa using this
          obtain ⟨v3, w4, r4, o4, f4, t4, _⟩ := chain1 B3.2.1 rfl (k := k) (by omega) (by omega) ((w3.alloc (.cells #[] 52)).drew) w3.heap.size ((Ux.Touch.refl _ w3).alloc _).drew (heap_alloc_new w3 _) (Nat.le_refl _)
          obtain ⟨v5, w5, r5, o5, f5, t5⟩ := chain3 B3.2.1 S2 w4 v3 _ t4 o4 f4 (by simp; omega)
          have HB5 := Lib.hid (BuiltRel.mk (B3.1.still t5) (by rw [HIS.out]; exact o5) (fun b hb => Nat.le_trans (Nat.le_trans HB2.out.size T3.size) (f5 b hb)) (B3.2.2.trans t5 (fun _ _ f => f.elim)) : BuiltRel W tb F N (del key L) v5 w5)
          have j0 : (k : Int) < L.length := by omega
          have j1 : (L.length : Int) ≤ 1000 := by omega
          have j2 : (0 : Int) ≤ k := by omega
          have hcl : L.length ≤ c' := by
            rcases B3.2.1.2 with ⟨e, h0⟩ | ⟨g, cap, cur, e, _, _, h1, _⟩
            · omega
            · cases e; exact h1
          have j3 : (k : Int) ≤ c' := by omega
          clear t3 T3 B3 HDEL hv2 S2 o4 f4 t4 o5 f5 t5 hcl HOWN HB2
          go_wp2_with (fail)
          refine Ux.wp_region_plan (fun _ _ => True) (.q [1, 2, 3, 5, 6, 7, 8] (.e 0 false false (.e 4 false false (.e 9 false false (.line [10])))))
            (by kernel_rfl) (by kernel_rfl) (by intro _ _ d _ _ h; cases d <;> exact h) ?hS ?_
          case hS => (intro c; cases c <;> (simp only [World.cell?_drew]; first | exact True.intro | (refine ⟨?_, ?_⟩ <;> assumption) | assumption | (repeat (first | assumption | (refine And.intro ?_ ?_)))))
          simp only [Ux.wpPlan, Ux.pickOps, Ux.keeps, List.getElem?_toArray, List.getElem?_cons_succ, List.getElem?_cons_zero]
          repeat (first
            | go_big_quiet_step (fail)
            | (with_reducible refine wpQuiet_nil ?_)
            | (refine Ux.quiet_held rfl ?_; apply Exists.intro; refine ⟨fun w' hS => ?_, ?_⟩; (focus ((try dsimp only at hS); go_simp; first | done | with_reducible rfl)); simp only [Act.put, List.setIfInBounds_toArray, List.set_cons_zero, List.set_cons_succ]))
          go_wp2_with (first
            | (at_builtin; refine Ux.wpList_app (v1 := .slice (some ⟨w3.heap.size, 0, none⟩) 0 0) (x1 := .slice a k c') rfl _ _ _ _ rfl rfl rfl (r4 _) ?_)
            | (at_builtin; refine Ux.wpList_app (v1 := v3) (x1 := v2) rfl _ _ _ _ rfl rfl rfl (r5 _) ?_))
          go_roundg g'
          case measure => omega
          case rel => exact ⟨i + 1, by go_num, by omega, by omega, by rw [HP2.out]; exact HB5.out⟩
      · have hk1 : (kind == 1) = false := by rw [beq_eq_false_iff_ne]; exact k1
        by_cases k2 : kind = 2
        · subst k2
          have hplay : playN ops (i + 1) = L := by rw [HP.out]; rfl
          have HP2 := Lib.hid hplay
          have GET := getL HB2.out.tree (by omega) key
          clear HP hplay hk1 k1
          cases hh : has (keys L) key with
          | false =>
            have hg0 : getV L key = 0 := by unfold getV; rw [if_neg (by rw [hh]; exact Bool.false_ne_true)]
            rw [hh, hg0] at GET
            have HGET := Lib.hid GET
            have HH := Lib.hid hh
            clear GET hh hg0
            go_wp2_with (go_at_call 17; fail)
            refine HGET.out.mono ?_
            rintro e w3 ⟨rfl, T3⟩
            have HB3 := Lib.hid (HB2.out.still T3)
            clear T3 HGET
            go_wp2_with (fail)
            go_roundg g'
            case measure => omega
            case rel => exact ⟨i + 1, by go_num, by omega, by omega, by rw [HP2.out]; exact HB3.out⟩
          | true =>
            have hkl := Ux.has_lt hh
            obtain ⟨k, hk⟩ : ∃ k, lb (keys L) key = k := ⟨_, rfl⟩
            obtain ⟨p, hp⟩ : ∃ p, L[k]? = some p := ⟨L[k]'(by omega), List.getElem?_eq_getElem _⟩
            have hgv : getV L key = p.2 := by unfold getV; rw [if_pos hh, hk, hp]; rfl
            rw [hh, hgv] at GET
            have HGET := Lib.hid GET
            obtain ⟨a, c', hu, hpc⟩ := HB2.out.pairs.cells
            subst hu
            obtain ⟨g, rfl, _, e1⟩ := hpc k p hp
            rw [hk] at hkl
            rw [hk]
            have q0 : (k : Int) < L.length := by omega
            have q1 : (L.length : Int) ≤ 1000 := by omega
            have q2 : (0 : Int) ≤ k := by omega
            clear GET hh hgv hk hp hpc
            go_wp2_with (go_at_call 17; fail)
            refine HGET.out.mono ?_
            rintro e w3 ⟨rfl, T3⟩
            have HB3 := Lib.hid (HB2.out.still T3)
            have e1' := T3.cell e1 (fun f => f)
            clear T3 HGET e1
            go_wp2_with (fail)
            go_roundg g'
            case measure => omega
            case rel => exact ⟨i + 1, by go_num, by omega, by omega, by rw [HP2.out]; exact HB3.out⟩
        · have hk2 : (kind == 2) = false := by rw [beq_eq_false_iff_ne]; exact k2
          have hplay : playN ops (i + 1) = ins key row L := by rw [HP.out]; unfold play1; rw [if_neg k1, if_neg k2]
          have HP2 := Lib.hid hplay
          have PUT := putR HB2.out.tree HB2.out.size (by omega) key row
          clear HP hplay k1 k2
          cases hh : has (keys L) key with
          | false =>
            rw [hh] at PUT
            have HPUT := Lib.hid PUT
            have HIS := Lib.hid (Ux.ins_isnt (v := row) hh)
            have hkl : lb (keys L) key ≤ L.length := by have := Ux.lb_le (keys L) key; rwa [Ux.keys_length] at this
            obtain ⟨k, hk⟩ : ∃ k, lb (keys L) key = k := ⟨_, rfl⟩
            rw [hk] at hkl HIS
            rw [hk]
            clear hk PUT hh
            go_wp2_with (go_at_call 10; fail)
            refine HPUT.out.mono ?_
            rintro e w3 ⟨rfl, t3, T3⟩
            have e1 := T3.cell d1 (show ¬ TR N w2 bo from HTR.out)
            have e2 := T3.cell d2 (show ¬ TR N w2 bo from HTR.out)
            have B3 := HB2.out.turn t3 T3
            obtain ⟨ad, c', hu, _⟩ := B3.2.1.cells
            subst hu
            obtain ⟨v2, hv2, S2⟩ := pairs_drop (k := k) (by omega) B3.2.1 rfl
            obtain ⟨va3, wa3, ra3, oa3, fa3, ta3, _⟩ := chain1 B3.2.1 rfl (k := k) (by omega) (by omega) ((w3.alloc (.cells #[] 52)).drew) w3.heap.size ((Ux.Touch.refl _ w3).alloc _).drew (heap_alloc_new w3 _) (Nat.le_refl _)
            obtain ⟨va5, wa5, ra5, oa5, fa5, ta5⟩ := chain2 (wa3.alloc (.cells #[.string key, .int .i64 row] 52)) va3 _ wa3.heap.size key row (ta3.alloc _) (oa3.touch ((Ux.Touch.refl _ wa3).alloc _) (fun _ _ f => f)) fa3 (by simp; omega) (heap_alloc_new wa3 _)
            obtain ⟨va6, wa6, ra6, oa6, fa6, ta6⟩ := chain3 B3.2.1 S2 wa5 va5 _ ta5 oa5 fa5 (by simp; omega)
            have HA := Lib.hid (BuiltRel.mk (B3.1.still ta6) (by rw [HIS.out]; exact oa6) (fun b hb => Nat.le_trans (Nat.le_trans HB2.out.size T3.size) (fa6 b hb)) (B3.2.2.trans ta6 (fun _ _ f => f.elim)) : BuiltRel W tb F N (ins key row L) va6 wa6)
            obtain ⟨vb3, wb3, rb3, ob3, fb3, tb3, hb3⟩ := chain1 B3.2.1 rfl (k := k) (by omega) (by omega) (((w3.alloc (.cells #[] 52)).alloc (.cells #[.string key, .int .i64 row] 52)).drew) w3.heap.size (((Ux.Touch.refl _ w3).alloc _).alloc _).drew (((Ux.Touch.refl (fun _ => False) (w3.alloc _)).alloc _).heap (heap_alloc_new w3 _) (fun f => f)) (Nat.le_refl _)
            obtain ⟨vb5, wb5, rb5, ob5, fb5, tb5⟩ := chain2 wb3 vb3 _ (w3.heap.size + 1) key row tb3 ob3 fb3 (by simp; omega) (hb3 _ _ (by have := heap_alloc_new (w3.alloc (.cells #[] 52)) (.cells #[.string key, .int .i64 row] 52); rwa [World.size_alloc] at this) (by omega)).1
            obtain ⟨vb6, wb6, rb6, ob6, fb6, tb6⟩ := chain3 B3.2.1 S2 wb5 vb5 _ tb5 ob5 fb5 (by simp; omega)
            have HBB := Lib.hid (BuiltRel.mk (B3.1.still tb6) (by rw [HIS.out]; exact ob6) (fun b hb => Nat.le_trans (Nat.le_trans HB2.out.size T3.size) (fb6 b hb)) (B3.2.2.trans tb6 (fun _ _ f => f.elim)) : BuiltRel W tb F N (ins key row L) vb6 wb6)
            obtain ⟨vc3, wc3, rc3, oc3, fc3, tc3, hc3⟩ := chain1 B3.2.1 rfl (k := k) (by omega) (by omega) (((w3.alloc (.cells #[.string key, .int .i64 row] 52)).alloc (.cells #[] 52)).drew) (w3.heap.size + 1) (((Ux.Touch.refl _ w3).alloc _).alloc _).drew (by have := heap_alloc_new (w3.alloc (.cells #[.string key, .int .i64 row] 52)) (.cells #[] 52); rwa [World.size_alloc] at this) (by omega)
            obtain ⟨vc5, wc5, rc5, oc5, fc5, tc5⟩ := chain2 wc3 vc3 _ w3.heap.size key row tc3 oc3 fc3 (by simp; omega) (hc3 _ _ (((Ux.Touch.refl (fun _ => False) (w3.alloc _)).alloc _).heap (heap_alloc_new w3 _) (fun f => f)) (by omega)).1
            obtain ⟨vc6, wc6, rc6, oc6, fc6, tc6⟩ := chain3 B3.2.1 S2 wc5 vc5 _ tc5 oc5 fc5 (by simp; omega)
            have HCC := Lib.hid (BuiltRel.mk (B3.1.still tc6) (by rw [HIS.out]; exact oc6) (fun b hb => Nat.le_trans (Nat.le_trans HB2.out.size T3.size) (fc6 b hb)) (B3.2.2.trans tc6 (fun _ _ f => f.elim)) : BuiltRel W tb F N (ins key row L) vc6 wc6)
            have j0 : (k : Int) ≤ L.length := by omega
            have j1 : (L.length : Int) ≤ 1000 := by omega
            have j2 : (0 : Int) ≤ k := by omega
            have hcl : L.length ≤ c' := by
              rcases B3.2.1.2 with ⟨e, h0⟩ | ⟨g, cap, cur, e, _, _, h1, _⟩
              · injection e with _ _ h3; omega
              · cases e; exact h1
            have j3 : (k : Int) ≤ c' := by omega
            have HR := Lib.hid (And.intro (And.intro ra3 (And.intro ra5 ra6)) (And.intro (And.intro rb3 (And.intro rb5 rb6)) (And.intro rc3 (And.intro rc5 rc6))))
            have KP := Lib.hid (show ∀ w', Ux.Touch (fun _ => False) w3 w' → w'.cell? ⟨bo, 1, none⟩ = some (.int .i64 row) ∧ w'.cell? ⟨bo, 2, none⟩ = some (.string key) from fun w' h => ⟨h.cell e1 (fun f => f), h.cell e2 (fun f => f)⟩)
            clear t3 T3 B3 HPUT S2 hcl HB2 d0 d1 d2 ra3 oa3 fa3 ra5 oa5 fa5 ra6 oa6 fa6 rb3 ob3 fb3 hb3 rb5 ob5 fb5 rb6 ob6 fb6 rc3 oc3 fc3 hc3 rc5 oc5 fc5 rc6 oc6 fc6
            go_wp2_with (fail)
            refine Ux.wp_region_plan (fun _ w' => w'.cell? ⟨bo, 1, none⟩ = some (.int .i64 row) ∧ w'.cell? ⟨bo, 2, none⟩ = some (.string key)) (.q [1, 2, 3, 5, 7, 12, 13, 14] (.h false [6, 8] (.q [9] (.br 0 (.br 4 (.e 10 true false (.e 11 true false (.e 15 true false (.line [16])))) 10 (.e 4 true true (.e 11 true false (.e 15 true false (.line [16]))))) 10 (.e 0 true true (.e 4 true true (.e 11 true false (.e 15 true false (.line [16])))))))))
              (by kernel_rfl) (by kernel_rfl) (by intro _ _ d _ _ h; cases d <;> exact h) ?hS ?_
            case hS => (intro c; cases c <;> (simp only [World.cell?_drew]; first | exact True.intro | (refine ⟨?_, ?_⟩ <;> assumption) | assumption | (repeat (first | assumption | (refine And.intro ?_ ?_)))))
            simp only [Ux.wpPlan, Ux.pickOps, Ux.keeps, List.getElem?_toArray, List.getElem?_cons_succ, List.getElem?_cons_zero]
            repeat (first
              | go_big_quiet_step (fail)
              | (with_reducible refine wpQuiet_nil ?_)
              | (refine Ux.quiet_held rfl ?_; apply Exists.intro; refine ⟨fun w' hS => ?_, ?_⟩; (focus ((try dsimp only at hS); go_simp; first | done | with_reducible rfl)); simp only [Act.put, List.setIfInBounds_toArray, List.set_cons_zero, List.set_cons_succ]))
            obtain ⟨⟨ra3, ra5, ra6⟩, ⟨rb3, rb5, rb6⟩, ⟨rc3, rc5, rc6⟩⟩ := HR.out
            refine ⟨?_, ?_⟩
            · go_wp2_with (fail)
              refine ⟨⟨KP.out _ (((Ux.Touch.refl _ w3).alloc _).drew), KP.out _ (((Ux.Touch.refl _ w3).alloc _).drew)⟩, ?_⟩
              refine ⟨?_, ?_⟩
              · go_wp2_with (at_builtin; refine Ux.wpList_app (v1 := .slice (some ⟨w3.heap.size, 0, none⟩) 0 0) (x1 := .slice ad k c') rfl _ _ _ _ rfl rfl rfl (ra3 _) ?_)
                go_wp2_with (fail)
                refine ⟨⟨KP.out _ (ta3), KP.out _ (ta3)⟩, ?_⟩
                go_wp2_with (fail)
                refine ⟨KP.out _ (ta3.alloc _), ?_⟩
                go_wp2_with (at_builtin; refine Ux.wpList_app (v1 := va3) (x1 := .slice (some ⟨wa3.heap.size, 0, none⟩) 1 1) rfl _ _ _ _ rfl rfl rfl (ra5 _) ?_)
                go_wp2_with (fail)
                refine ⟨KP.out _ (ta5), ?_⟩
                go_wp2_with (at_builtin; refine Ux.wpList_app (v1 := va5) (x1 := v2) rfl _ _ _ _ rfl rfl rfl (ra6 _) ?_)
                go_wp2_with (fail)
                refine ⟨KP.out _ (ta6), ?_⟩
                go_wp2_with (fail)
                go_roundg g'
                case measure => omega
                case rel => exact ⟨i + 1, by go_num, by omega, by omega, by rw [HP2.out]; exact HA.out⟩
              · go_wp2_with (fail)
                refine ⟨⟨KP.out _ (((Ux.Touch.refl _ w3).alloc _).alloc _ |>.drew), KP.out _ (((Ux.Touch.refl _ w3).alloc _).alloc _ |>.drew)⟩, ?_⟩
                go_wp2_with (at_builtin; refine Ux.wpList_app (v1 := .slice (some ⟨w3.heap.size, 0, none⟩) 0 0) (x1 := .slice ad k c') rfl _ _ _ _ rfl rfl rfl (rb3 _) ?_)
                go_wp2_with (fail)
                refine ⟨⟨KP.out _ (tb3), KP.out _ (tb3)⟩, ?_⟩
                go_wp2_with (at_builtin; refine Ux.wpList_app (v1 := vb3) (x1 := .slice (some ⟨(w3.heap.size + 1), 0, none⟩) 1 1) rfl _ _ _ _ rfl rfl rfl (rb5 _) ?_)
                go_wp2_with (fail)
                refine ⟨KP.out _ (tb5), ?_⟩
                go_wp2_with (at_builtin; refine Ux.wpList_app (v1 := vb5) (x1 := v2) rfl _ _ _ _ rfl rfl rfl (rb6 _) ?_)
                go_wp2_with (fail)
                refine ⟨KP.out _ (tb6), ?_⟩
                go_wp2_with (fail)
                go_roundg g'
                case measure => omega
                case rel => exact ⟨i + 1, by go_num, by omega, by omega, by rw [HP2.out]; exact HBB.out⟩
            · go_wp2_with (fail)
              refine ⟨⟨KP.out _ (((Ux.Touch.refl _ w3).alloc _).drew), KP.out _ (((Ux.Touch.refl _ w3).alloc _).drew)⟩, ?_⟩
              go_wp2_with (fail)
              refine ⟨⟨KP.out _ (((Ux.Touch.refl _ w3).alloc _).alloc _ |>.drew), KP.out _ (((Ux.Touch.refl _ w3).alloc _).alloc _ |>.drew)⟩, ?_⟩
              go_wp2_with (at_builtin; refine Ux.wpList_app (v1 := .slice (some ⟨(w3.heap.size + 1), 0, none⟩) 0 0) (x1 := .slice ad k c') rfl _ _ _ _ rfl rfl rfl (rc3 _) ?_)
              go_wp2_with (fail)
              refine ⟨⟨KP.out _ (tc3), KP.out _ (tc3)⟩, ?_⟩
              go_wp2_with (at_builtin; refine Ux.wpList_app (v1 := vc3) (x1 := .slice (some ⟨w3.heap.size, 0, none⟩) 1 1) rfl _ _ _ _ rfl rfl rfl (rc5 _) ?_)
              go_wp2_with (fail)
              refine ⟨KP.out _ (tc5), ?_⟩
              go_wp2_with (at_builtin; refine Ux.wpList_app (v1 := vc5) (x1 := v2) rfl _ _ _ _ rfl rfl rfl (rc6 _) ?_)
              go_wp2_with (fail)
              refine ⟨KP.out _ (tc6), ?_⟩
              go_wp2_with (fail)
              go_roundg g'
              case measure => omega
              case rel => exact ⟨i + 1, by go_num, by omega, by omega, by rw [HP2.out]; exact HCC.out⟩
          | true =>
            rw [hh] at PUT
            have HPUT := Lib.hid PUT
            have HIS := Lib.hid (Ux.ins_is (v := row) hh)
            have hkl := Ux.has_lt hh
            obtain ⟨k, hk⟩ : ∃ k, lb (keys L) key = k := ⟨_, rfl⟩
            rw [hk] at hkl HIS
            rw [hk]
            clear hk PUT hh
            go_wp2_with (go_at_call 10; fail)
            refine HPUT.out.mono ?_
            rintro e w3 ⟨rfl, t3, T3⟩
            have e1 := T3.cell d1 (show ¬ TR N w2 bo from HTR.out)
            have e2 := T3.cell d2 (show ¬ TR N w2 bo from HTR.out)
            have B3 := HB2.out.turn t3 T3
            obtain ⟨ad, c', hu, _⟩ := B3.2.1.cells
            subst hu
            obtain ⟨v2, hv2, S2⟩ := pairs_drop (k := k + 1) (by omega) B3.2.1 rfl
            have hv2' : ∀ w, (Instr.slice 46 (.slice ad L.length c') (some (.int .i64 ((k : Int) + 1))) none none).run Try.prog w = .ok v2 w := fun w => by have := hv2 w; simpa using this
            clear hv2
            have jj : (k : Int) < L.length := by omega
            obtain ⟨va3, wa3, ra3, oa3, fa3, ta3, _⟩ := chain1 B3.2.1 rfl (k := k) (by omega) (by omega) ((w3.alloc (.cells #[] 52)).drew) w3.heap.size ((Ux.Touch.refl _ w3).alloc _).drew (heap_alloc_new w3 _) (Nat.le_refl _)
            obtain ⟨va5, wa5, ra5, oa5, fa5, ta5⟩ := chain2 (wa3.alloc (.cells #[.string key, .int .i64 row] 52)) va3 _ wa3.heap.size key row (ta3.alloc _) (oa3.touch ((Ux.Touch.refl _ wa3).alloc _) (fun _ _ f => f)) fa3 (by simp; omega) (heap_alloc_new wa3 _)
            obtain ⟨va6, wa6, ra6, oa6, fa6, ta6⟩ := chain3 B3.2.1 S2 wa5 va5 _ ta5 oa5 fa5 (by simp; omega)
            have HA := Lib.hid (BuiltRel.mk (B3.1.still ta6) (by rw [HIS.out]; exact oa6) (fun b hb => Nat.le_trans (Nat.le_trans HB2.out.size T3.size) (fa6 b hb)) (B3.2.2.trans ta6 (fun _ _ f => f.elim)) : BuiltRel W tb F N (ins key row L) va6 wa6)
            obtain ⟨vb3, wb3, rb3, ob3, fb3, tb3, hb3⟩ := chain1 B3.2.1 rfl (k := k) (by omega) (by omega) (((w3.alloc (.cells #[] 52)).alloc (.cells #[.string key, .int .i64 row] 52)).drew) w3.heap.size (((Ux.Touch.refl _ w3).alloc _).alloc _).drew (((Ux.Touch.refl (fun _ => False) (w3.alloc _)).alloc _).heap (heap_alloc_new w3 _) (fun f => f)) (Nat.le_refl _)
            obtain ⟨vb5, wb5, rb5, ob5, fb5, tb5⟩ := chain2 wb3 vb3 _ (w3.heap.size + 1) key row tb3 ob3 fb3 (by simp; omega) (hb3 _ _ (by have := heap_alloc_new (w3.alloc (.cells #[] 52)) (.cells #[.string key, .int .i64 row] 52); rwa [World.size_alloc] at this) (by omega)).1
            obtain ⟨vb6, wb6, rb6, ob6, fb6, tb6⟩ := chain3 B3.2.1 S2 wb5 vb5 _ tb5 ob5 fb5 (by simp; omega)
            have HBB := Lib.hid (BuiltRel.mk (B3.1.still tb6) (by rw [HIS.out]; exact ob6) (fun b hb => Nat.le_trans (Nat.le_trans HB2.out.size T3.size) (fb6 b hb)) (B3.2.2.trans tb6 (fun _ _ f => f.elim)) : BuiltRel W tb F N (ins key row L) vb6 wb6)
            obtain ⟨vc3, wc3, rc3, oc3, fc3, tc3, hc3⟩ := chain1 B3.2.1 rfl (k := k) (by omega) (by omega) (((w3.alloc (.cells #[.string key, .int .i64 row] 52)).alloc (.cells #[] 52)).drew) (w3.heap.size + 1) (((Ux.Touch.refl _ w3).alloc _).alloc _).drew (by have := heap_alloc_new (w3.alloc (.cells #[.string key, .int .i64 row] 52)) (.cells #[] 52); rwa [World.size_alloc] at this) (by omega)
            obtain ⟨vc5, wc5, rc5, oc5, fc5, tc5⟩ := chain2 wc3 vc3 _ w3.heap.size key row tc3 oc3 fc3 (by simp; omega) (hc3 _ _ (((Ux.Touch.refl (fun _ => False) (w3.alloc _)).alloc _).heap (heap_alloc_new w3 _) (fun f => f)) (by omega)).1
            obtain ⟨vc6, wc6, rc6, oc6, fc6, tc6⟩ := chain3 B3.2.1 S2 wc5 vc5 _ tc5 oc5 fc5 (by simp; omega)
            have HCC := Lib.hid (BuiltRel.mk (B3.1.still tc6) (by rw [HIS.out]; exact oc6) (fun b hb => Nat.le_trans (Nat.le_trans HB2.out.size T3.size) (fc6 b hb)) (B3.2.2.trans tc6 (fun _ _ f => f.elim)) : BuiltRel W tb F N (ins key row L) vc6 wc6)
            have j0 : (k : Int) ≤ L.length := by omega
            have j1 : (L.length : Int) ≤ 1000 := by omega
            have j2 : (0 : Int) ≤ k := by omega
            have hcl : L.length ≤ c' := by
              rcases B3.2.1.2 with ⟨e, h0⟩ | ⟨g, cap, cur, e, _, _, h1, _⟩
              · injection e with _ _ h3; omega
              · cases e; exact h1
            have j3 : (k : Int) ≤ c' := by omega
            have HR := Lib.hid (And.intro (And.intro ra3 (And.intro ra5 ra6)) (And.intro (And.intro rb3 (And.intro rb5 rb6)) (And.intro rc3 (And.intro rc5 rc6))))
            have KP := Lib.hid (show ∀ w', Ux.Touch (fun _ => False) w3 w' → w'.cell? ⟨bo, 1, none⟩ = some (.int .i64 row) ∧ w'.cell? ⟨bo, 2, none⟩ = some (.string key) from fun w' h => ⟨h.cell e1 (fun f => f), h.cell e2 (fun f => f)⟩)
            clear t3 T3 B3 HPUT S2 hcl HB2 d0 d1 d2 ra3 oa3 fa3 ra5 oa5 fa5 ra6 oa6 fa6 rb3 ob3 fb3 hb3 rb5 ob5 fb5 rb6 ob6 fb6 rc3 oc3 fc3 hc3 rc5 oc5 fc5 rc6 oc6 fc6
            go_wp2_with (fail)
            refine Ux.wp_region_plan (fun _ w' => w'.cell? ⟨bo, 1, none⟩ = some (.int .i64 row) ∧ w'.cell? ⟨bo, 2, none⟩ = some (.string key)) (.q [1, 2, 3, 5, 7, 12, 13, 14, 15] (.h false [6, 8] (.q [9] (.br 0 (.br 4 (.e 10 true false (.e 11 true false (.e 16 true false (.line [17])))) 10 (.e 4 true true (.e 11 true false (.e 16 true false (.line [17]))))) 10 (.e 0 true true (.e 4 true true (.e 11 true false (.e 16 true false (.line [17])))))))))
              (by kernel_rfl) (by kernel_rfl) (by intro _ _ d _ _ h; cases d <;> exact h) ?hS ?_
            case hS => (intro c; cases c <;> (simp only [World.cell?_drew]; first | exact True.intro | (refine ⟨?_, ?_⟩ <;> assumption) | assumption | (repeat (first | assumption | (refine And.intro ?_ ?_)))))
            simp only [Ux.wpPlan, Ux.pickOps, Ux.keeps, List.getElem?_toArray, List.getElem?_cons_succ, List.getElem?_cons_zero]
            repeat (first
              | go_big_quiet_step (fail)
              | (with_reducible refine wpQuiet_nil ?_)
              | (refine Ux.quiet_held rfl ?_; apply Exists.intro; refine ⟨fun w' hS => ?_, ?_⟩; (focus ((try dsimp only at hS); go_simp; first | done | with_reducible rfl)); simp only [Act.put, List.setIfInBounds_toArray, List.set_cons_zero, List.set_cons_succ]))
            obtain ⟨⟨ra3, ra5, ra6⟩, ⟨rb3, rb5, rb6⟩, ⟨rc3, rc5, rc6⟩⟩ := HR.out
            refine ⟨?_, ?_⟩
            · go_wp2_with (fail)
              refine ⟨⟨KP.out _ (((Ux.Touch.refl _ w3).alloc _).drew), KP.out _ (((Ux.Touch.refl _ w3).alloc _).drew)⟩, ?_⟩
              refine ⟨?_, ?_⟩
              · go_wp2_with (at_builtin; refine Ux.wpList_app (v1 := .slice (some ⟨w3.heap.size, 0, none⟩) 0 0) (x1 := .slice ad k c') rfl _ _ _ _ rfl rfl rfl (ra3 _) ?_)
                go_wp2_with (fail)
                refine ⟨⟨KP.out _ (ta3), KP.out _ (ta3)⟩, ?_⟩
                go_wp2_with (fail)
                refine ⟨KP.out _ (ta3.alloc _), ?_⟩
                go_wp2_with (at_builtin; refine Ux.wpList_app (v1 := va3) (x1 := .slice (some ⟨wa3.heap.size, 0, none⟩) 1 1) rfl _ _ _ _ rfl rfl rfl (ra5 _) ?_)
                go_wp2_with (fail)
                refine ⟨KP.out _ (ta5), ?_⟩
                go_wp2_with (at_builtin; refine Ux.wpList_app (v1 := va5) (x1 := v2) rfl _ _ _ _ rfl rfl rfl (ra6 _) ?_)
                go_wp2_with (fail)
                refine ⟨KP.out _ (ta6), ?_⟩
                go_wp2_with (fail)
                go_roundg g'
                case measure => omega
                case rel => exact ⟨i + 1, by go_num, by omega, by omega, by rw [HP2.out]; exact HA.out⟩
              · go_wp2_with (fail)
                refine ⟨⟨KP.out _ (((Ux.Touch.refl _ w3).alloc _).alloc _ |>.drew), KP.out _ (((Ux.Touch.refl _ w3).alloc _).alloc _ |>.drew)⟩, ?_⟩
                go_wp2_with (at_builtin; refine Ux.wpList_app (v1 := .slice (some ⟨w3.heap.size, 0, none⟩) 0 0) (x1 := .slice ad k c') rfl _ _ _ _ rfl rfl rfl (rb3 _) ?_)
                go_wp2_with (fail)
                refine ⟨⟨KP.out _ (tb3), KP.out _ (tb3)⟩, ?_⟩
                go_wp2_with (at_builtin; refine Ux.wpList_app (v1 := vb3) (x1 := .slice (some ⟨(w3.heap.size + 1), 0, none⟩) 1 1) rfl _ _ _ _ rfl rfl rfl (rb5 _) ?_)
                go_wp2_with (fail)
                refine ⟨KP.out _ (tb5), ?_⟩
                go_wp2_with (at_builtin; refine Ux.wpList_app (v1 := vb5) (x1 := v2) rfl _ _ _ _ rfl rfl rfl (rb6 _) ?_)
                go_wp2_with (fail)
                refine ⟨KP.out _ (tb6), ?_⟩
                go_wp2_with (fail)
                go_roundg g'
                case measure => omega
                case rel => exact ⟨i + 1, by go_num, by omega, by omega, by rw [HP2.out]; exact HBB.out⟩
            · go_wp2_with (fail)
              refine ⟨⟨KP.out _ (((Ux.Touch.refl _ w3).alloc _).drew), KP.out _ (((Ux.Touch.refl _ w3).alloc _).drew)⟩, ?_⟩
              go_wp2_with (fail)
              refine ⟨⟨KP.out _ (((Ux.Touch.refl _ w3).alloc _).alloc _ |>.drew), KP.out _ (((Ux.Touch.refl _ w3).alloc _).alloc _ |>.drew)⟩, ?_⟩
              go_wp2_with (at_builtin; refine Ux.wpList_app (v1 := .slice (some ⟨(w3.heap.size + 1), 0, none⟩) 0 0) (x1 := .slice ad k c') rfl _ _ _ _ rfl rfl rfl (rc3 _) ?_)
              go_wp2_with (fail)
              refine ⟨⟨KP.out _ (tc3), KP.out _ (tc3)⟩, ?_⟩
              go_wp2_with (at_builtin; refine Ux.wpList_app (v1 := vc3) (x1 := .slice (some ⟨w3.heap.size, 0, none⟩) 1 1) rfl _ _ _ _ rfl rfl rfl (rc5 _) ?_)
              go_wp2_with (fail)
              refine ⟨KP.out _ (tc5), ?_⟩
              go_wp2_with (at_builtin; refine Ux.wpList_app (v1 := vc5) (x1 := v2) rfl _ _ _ _ rfl rfl rfl (rc6 _) ?_)
              go_wp2_with (fail)
              refine ⟨KP.out _ (tc6), ?_⟩
              go_wp2_with (fail)
              go_roundg g'
              case measure => omega
              case rel => exact ⟨i + 1, by go_num, by omega, by omega, by rw [HP2.out]; exact HCC.out⟩
    · obtain hex : i = min ops.length most := by have := HN.out; omega
      have HE := Lib.hid hex
      have HB := Lib.hid hB
      clear hB hex
      have hx : (¬ i < n) ∨ (i < n ∧ ¬ i < most) := by omega
      clear hlt
      rcases hx with hx | ⟨hx, hx2⟩
      · have q1 : ¬ (i : Int) < n := by omega
        have q2 : decide (i < n) = false := by simpa using hx
        clear hx
        go_wp2
        go_returns
        exact ⟨tb, _, rfl, by rw [HNN.out, ← HN.out, ← HE.out]; exact HB.out⟩
      · have q1 : (i : Int) < n := by omega
        have q2 : ¬ (i : Int) < most := by omega
        have q3 : decide (i < most) = false := by simpa using hx2
        clear hx hx2
        go_wp2
        go_returns
        exact ⟨tb, _, rfl, by rw [HNN.out, ← HN.out, ← HE.out]; exact HB.out⟩

end Go.Proofs.Ytdfgpminonpeaaa
