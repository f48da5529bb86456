/- PART OF THE PROOF THAT THIS CLAIM HOLDS OF THE GIVEN PROGRAM, FOR EVERY INPUT THAT THE STATEMENT NAMES. No condition besides the statement's own. -/
import Derived.Test.YthkaifgepkfheaaWithZ
import Derived.Test.YthkaifgepkfheaaRows
import Derived.WalkKit
import Derived.Handy
import Derived.Laws.EntriesVeiled
import Derived.WalkSpells
import Derived.WalkLawsBesides
import Derived.BigQuiet
import Derived.Deep.QuietTactic
import Derived.Deep.Cut
import Derived.Deep.DeepCutAuto
import Derived.Lib.Overlaps
import Derived.Laws.Externs
import Derived.Lib.Hide
import Derived.Test.YthkaifgepkfheaaUxPlanAllZ
import Derived.Test.YthkaifgepkfheaaUxTreeAllZ
import Derived.Deep.LoopGhost
namespace Go.Proofs.Ythkaifgepkfheaa
open Go.RowKit
-- imports: YthkaifgepkfheaaWith
open Ux.Trie (fnd Pr blk zero64 pairsOf withP)

theorem may_range {c x : Int} (h : Ux.Trie.may (c, x) = true) : 0 ≤ c ∧ c ≤ 1114367 := by
  unfold Ux.Trie.may at h
  simp only [Bool.and_eq_true, decide_eq_true_eq] at h
  exact h.1.1
theorem may_of {c z : Int} (hc : 0 ≤ c ∧ c ≤ 1114367) (hz : -2147483648 ≤ z ∧ z < 2147483648) : Ux.Trie.may (c, z) = true := by
  unfold Ux.Trie.may
  simp [hc.1, hc.2, hz.1, hz.2]

set_option maxHeartbeats 8000000 in
set_option maxRecDepth 100000 in
theorem with5 (v : Value) (l : List Pr) (c x : Int) (w : World) (h : PrsAt w v l) (hl : l.length ≤ 9223372036854775807) (hc1 : -9223372036854775808 ≤ c) (hc2 : c ≤ 9223372036854775807) (_ : -9223372036854775808 ≤ x) (_ : x ≤ 9223372036854775807) :
    Calls Try.prog 5 #[v, .int .i64 c, .int .i64 x] w fun e w' => e = .returned (.bool true) ∧ Ux.Touch (fun _ => False) w w' := by
  have H0 := Lib.hid h
  have AW := Lib.hid awake6
  obtain ⟨a, cp, rfl, hcell⟩ := h
  obtain ⟨n, hn⟩ : ∃ n, l.length = n := ⟨_, rfl⟩
  have j0 : (n : Int) ≤ 9223372036854775807 := by omega
  rw [hn]
  have HC := Lib.hid hcell
  have HN := Lib.hid hn
  by_cases h20 : n > 20
  · have j1 : (n : Int) > 20 := by omega
    clear hcell hn hl h20
    go_enter Try.func5, Try.ntmps5
    go_wp2_with (go_at_call 6; refine (AW.out _).mono ?_; rintro e w' ⟨rfl, ht⟩)
    go_ret
    exact ⟨rfl, ht⟩
  · have j1 : ¬ (n : Int) > 20 := by omega
    have CB := Lib.hid (build_code H0.out (by omega))
    rw [hn] at CB
    clear hcell hn hl h20
    go_enter Try.func5, Try.ntmps5
    go_upto_region 4 with (go_at_call 7; refine CB.out.mono ?_; rintro e w1 ⟨tp, kc, rfl, hk1, hk2, hk3, ht⟩; have HK := Lib.hid (And.intro hk1 (And.intro hk2 (And.intro hk3 ht))); clear hk1 hk2 hk3 ht)
    by_cases h0 : kc = 0
    · obtain ⟨hm, hap, t, ks, rfl, hT, hks⟩ := HK.out.2.2.1 h0
      subst h0
      have hmay := any_may hm
      obtain ⟨q1, q2, q3, q4, q5⟩ := told hmay hap hT hks
      have hPl : (pairsOf ks (fnd l)).length ≤ n := by
        have := nz_le l
        have := HN.out
        omega
      have CW := with14 t ks l c x w1 hT hmay hap hks (by omega)
      obtain ⟨P, hP⟩ : ∃ P, pairsOf ks (fnd l) = P := ⟨_, rfl⟩
      rw [hP] at q1 q2 q3 q4 q5 CW hPl
      obtain ⟨m, hmx⟩ : ∃ m, Ux.Trie.may (c, x) = m := ⟨_, rfl⟩
      rw [hmx] at CW
      have CW := Lib.hid CW
      have cM : ∀ w, Calls Try.prog 8 #[.agg #[.int .i64 c, .int .i64 x]] w fun e w' => e = .returned (.bool m) ∧ Below w.heap.size w w' := fun w => by
        have := may8 c x w
        rwa [hmx] at this
      have CM := Lib.hid cM
      have HP := Lib.hid (And.intro q3 (And.intro q4 (And.intro q5 hPl)))
      have HT := Lib.hid (And.intro hmay (And.intro hap (And.intro hT (And.intro hks HK.out.2.2.2))))
      have HMX := Lib.hid hmx
      clear hm hap hT hks hmay q1 q2 q3 q4 q5 hP hPl cM hmx
      cases m with
      | false =>
        go_upto_region 7 with (go_at_call 14; refine CW.out.mono ?_; rintro e w2 ⟨tp9, k9, rfl, h1, _, h3⟩; obtain ⟨rfl, rfl⟩ := h1 rfl; have T2 := Lib.hid h3; clear h1 h3)
        go_wp2_with (first
          | (go_at_call 8; refine (CM.out _).mono ?_; rintro e w3 ⟨rfl, hb⟩)
          | (go_at_call 6; refine (AW.out _).mono ?_; rintro e w4 ⟨rfl, ht4⟩))
        go_ret
        exact ⟨rfl, ((HT.out.2.2.2.2.trans T2.out (fun _ _ h => h)).trans (Ux.Touch.of_below hb) (fun _ _ h => h)).trans ht4 (fun _ _ h => h)⟩
      | true =>
        go_upto_region 7 with (go_at_call 14; refine CW.out.mono ?_; rintro e w2 ⟨tp9, k9, rfl, _, h2, h3⟩; obtain ⟨rfl, t9, ks9, rfl, hT9, hk9⟩ := h2 rfl; have H9 := Lib.hid (And.intro hT9 (And.intro hk9 h3)); clear h2 h3 hT9 hk9)
        go_upto_region 9 with (go_at_call 8; refine (CM.out _).mono ?_; rintro e w3 ⟨rfl, hb⟩; have T3 := Lib.hid (Ux.Touch.of_below (R := fun _ => False) hb); clear hb)
        have hmx := HMX.out
        have hcr := may_range hmx
        have hLm := Ux.Trie.withP_may HP.out.2.1 hmx
        have hLa := Ux.Trie.withP_apart (Ux.Trie.apart_of_rising HP.out.1) c x
        have hfL : ∀ y, fnd (withP P c x) y = if y = c then x else fnd l y := fun y => by rw [Ux.Trie.fnd_withP, HP.out.2.2.1]
        have t13 : Ux.Touch (fun _ => False) w1 w3 := H9.out.2.2.trans T3.out (fun _ _ h => h)
        have tw3 : Ux.Touch (fun _ => False) w w3 := HT.out.2.2.2.2.trans t13 (fun _ _ h => h)
        have CG9 : Hid (∀ y w', -9223372036854775808 ≤ y → y ≤ 9223372036854775807 → Ux.Touch (fun _ => False) w3 w' → Calls Try.prog 9 #[.pointer (some ⟨t9, 0, none⟩), .int .i64 y] w' fun e w'' => e = .returned (.int .i64 (fnd (withP P c x) y)) ∧ w'' = w') := Lib.hid fun y w' h1 h2 ht => getL (H9.out.1.touch (T3.out.trans ht (fun _ _ h => h))) hLm y h1 h2
        have CG7 : Hid (∀ y w', -9223372036854775808 ≤ y → y ≤ 9223372036854775807 → Ux.Touch (fun _ => False) w3 w' → Calls Try.prog 9 #[.pointer (some ⟨t, 0, none⟩), .int .i64 y] w' fun e w'' => e = .returned (.int .i64 (fnd l y)) ∧ w'' = w') := Lib.hid fun y w' h1 h2 ht => getL (HT.out.2.2.1.touch (t13.trans ht (fun _ _ h => h))) HT.out.1 y h1 h2
        have CF : Hid (∀ y w', Ux.Touch (fun _ => False) w3 w' → Calls Try.prog 10 #[.slice a n cp, .int .i64 y] w' fun e w'' => e = .returned (.int .i64 (fnd l y)) ∧ w'' = w') := Lib.hid fun y w' ht => by
          have := find10 _ l y w' (H0.out.touch (tw3.trans ht (fun _ _ h => h)) (fun _ _ _ _ _ f => f)) (by have := HN.out; omega)
          rwa [HN.out] at this
        have g9 := CG9.out c w3 hc1 hc2 (Ux.Touch.refl _ _)
        have g7 := CG7.out c w3 hc1 hc2 (Ux.Touch.refl _ _)
        have f0 := CF.out c w3 (Ux.Touch.refl _ _)
        rw [hfL, if_pos rfl] at g9
        obtain ⟨r0, hr0⟩ : ∃ r, fnd l c = r := ⟨_, rfl⟩
        rw [hr0] at g7 f0
        have CC := Lib.hid (And.intro g9 (And.intro g7 f0))
        have HL := Lib.hid (And.intro hcr (And.intro hLm (And.intro hLa (And.intro hfL (And.intro t13 (And.intro tw3 hr0))))))
        clear hmx hcr hLm hLa hfL t13 tw3 g9 g7 f0 hr0
        go_wp2_with (go_at_call 9; fail)
        refine CC.out.1.mono ?_
        rintro e w' ⟨rfl, rfl⟩
        go_wp2_with (go_at_call 9; fail)
        refine CC.out.2.1.mono ?_
        rintro e w' ⟨rfl, rfl⟩
        go_wp2_with (go_at_call 10; refine CC.out.2.2.mono ?_; rintro e w' ⟨rfl, rfl⟩)
        obtain ⟨W3, hW3⟩ : ∃ W3 : World, W3 = w' := ⟨_, rfl⟩
        subst hW3
        go_loopg [11] n (fun g s11 wr => ∃ i : Nat, s11 = .int .i64 i ∧ i + g = n ∧ Hid (Ux.Touch (fun _ => False) W3 wr))
        case atStart => exact ⟨0, rfl, by omega, Lib.hid (Ux.Touch.refl _ _)⟩
        case round =>
          obtain ⟨i, rfl, hig, HI⟩ := hrel
          have p0 : (0 : Int) ≤ i := by omega
          by_cases hlt : i < n
          · obtain ⟨g', rfl⟩ : ∃ g', gk = g' + 1 := ⟨gk - 1, by omega⟩
            have j3 : (i : Int) < n := by omega
            obtain ⟨p, hp⟩ : ∃ p, l[i]? = some p := ⟨l[i]'(by have := HN.out; omega), List.getElem?_eq_getElem (by have := HN.out; omega)⟩
            obtain ⟨b, f, ha, d1, d2⟩ := HC.out i p hp
            subst ha
            have tw := HL.out.2.2.2.2.2.1.trans HI.out (fun _ _ h => h)
            have e1 := tw.cell d1 (fun f => f)
            have e2 := tw.cell d2 (fun f => f)
            have hmp := HT.out.1 p (List.mem_of_getElem? hp)
            have hfm := Ux.Trie.fnd_mem HT.out.2.1 (List.mem_of_getElem? hp)
            obtain ⟨pc, pv⟩ := p
            dsimp only at e1 e2 hfm
            obtain ⟨q1, q2⟩ := may_range hmp
            have TD := Lib.hid HI.out.drew
            have g7 := CG7.out pc _ (by omega) (by omega) TD.out
            rw [hfm] at g7
            by_cases hpc : pc = c
            · subst hpc
              have C7 := Lib.hid g7
              clear g7 hfm hmp d1 d2 hp tw
              go_upto_region 14 with (fail)
              refine Ux.wp_region_plan (fun _ w' => w'.cell? ⟨b, f + i * 2, none⟩ = some (.int .i64 pc) ∧ w'.cell? ⟨b, f + i * 2 + 1, none⟩ = some (.int .i64 pv)) (.q [0, 1, 2, 3, 5] (.h false [4] (.q [6, 7, 8, 9, 10, 11, 12, 15, 16, 17, 18] (.h false [13, 19] (.e 14 true false (.q [20, 21, 22, 23, 24, 25, 26, 27, 30, 31, 32, 33] (.h false [28, 34] (.e 29 true false (.q [35, 36] (.line []))))))))))
                (by kernel_rfl) (by kernel_rfl) (by intro _ _ d _ _ h; cases d <;> exact h) ?hS ?_
              case hS => (intro c; cases c <;> (simp only [World.cell?_drew]; first | exact True.intro | (refine ⟨?_, ?_⟩ <;> assumption) | assumption | (repeat (first | assumption | (refine And.intro ?_ ?_)))))
              simp only [Ux.wpPlan, Ux.pickOps, Ux.keeps, List.getElem?_toArray, List.getElem?_cons_succ, List.getElem?_cons_zero]
              repeat (first
                | go_big_quiet_step (fail)
                | (with_reducible refine wpQuiet_nil ?_)
                | (refine Ux.quiet_held rfl ?_; apply Exists.intro; refine ⟨fun w' hS => ?_, ?_⟩; (focus ((try dsimp only at hS); go_simp; first | done | with_reducible rfl)); simp only [Act.put, List.setIfInBounds_toArray, List.set_cons_zero, List.set_cons_succ]))
              go_wp2_with (go_at_call 9; fail)
              refine ⟨⟨by simpa using e1, by simpa using e2⟩, ?_⟩
              repeat (first
                | go_big_quiet_step (fail)
                | (with_reducible refine wpQuiet_nil ?_)
                | (refine Ux.quiet_held rfl ?_; apply Exists.intro; refine ⟨fun w' hS => ?_, ?_⟩; (focus ((try dsimp only at hS); go_simp; first | done | with_reducible rfl)); simp only [Act.put, List.setIfInBounds_toArray, List.set_cons_zero, List.set_cons_succ]))
              go_wp2_with (go_at_call 9; refine C7.out.mono ?_; rintro e w' ⟨rfl, rfl⟩)
              refine ⟨⟨by simpa using e1, by simpa using e2⟩, ?_⟩
              repeat (first
                | go_big_quiet_step (fail)
                | (with_reducible refine wpQuiet_nil ?_)
                | (refine Ux.quiet_held rfl ?_; apply Exists.intro; refine ⟨fun w' hS => ?_, ?_⟩; (focus ((try dsimp only at hS); go_simp; first | done | with_reducible rfl)); simp only [Act.put, List.setIfInBounds_toArray, List.set_cons_zero, List.set_cons_succ]))
              go_wp2
              go_roundg g'
              case measure => omega
              case rel => exact ⟨i + 1, rfl, by omega, TD⟩
            · have g9 := CG9.out pc _ (by omega) (by omega) TD.out
              rw [HL.out.2.2.2.1, if_neg hpc, hfm] at g9
              have hpb : (pc != c) = true := by simpa using hpc
              have C7 := Lib.hid (And.intro g7 g9)
              clear g7 g9 hfm hmp d1 d2 hp tw
              go_upto_region 14 with (fail)
              refine Ux.wp_region_plan (fun _ w' => w'.cell? ⟨b, f + i * 2, none⟩ = some (.int .i64 pc) ∧ w'.cell? ⟨b, f + i * 2 + 1, none⟩ = some (.int .i64 pv)) (.q [0, 1, 2, 3, 5] (.h false [4] (.q [6, 7, 8, 9, 10, 11, 12, 15, 16, 17, 18] (.h false [13, 19] (.e 14 true false (.q [20, 21, 22, 23, 24, 25, 26, 27, 30, 31, 32, 33] (.h false [28, 34] (.e 29 true false (.q [35, 36] (.line []))))))))))
                (by kernel_rfl) (by kernel_rfl) (by intro _ _ d _ _ h; cases d <;> exact h) ?hS ?_
              case hS => (intro c; cases c <;> (simp only [World.cell?_drew]; first | exact True.intro | (refine ⟨?_, ?_⟩ <;> assumption) | assumption | (repeat (first | assumption | (refine And.intro ?_ ?_)))))
              simp only [Ux.wpPlan, Ux.pickOps, Ux.keeps, List.getElem?_toArray, List.getElem?_cons_succ, List.getElem?_cons_zero]
              repeat (first
                | go_big_quiet_step (fail)
                | (with_reducible refine wpQuiet_nil ?_)
                | (refine Ux.quiet_held rfl ?_; apply Exists.intro; refine ⟨fun w' hS => ?_, ?_⟩; (focus ((try dsimp only at hS); go_simp; first | done | with_reducible rfl)); simp only [Act.put, List.setIfInBounds_toArray, List.set_cons_zero, List.set_cons_succ]))
              go_wp2_with (go_at_call 9; fail)
              refine C7.out.2.mono ?_
              rintro e w' ⟨rfl, rfl⟩
              go_wp2_with (fail)
              refine ⟨⟨by simpa using e1, by simpa using e2⟩, ?_⟩
              repeat (first
                | go_big_quiet_step (fail)
                | (with_reducible refine wpQuiet_nil ?_)
                | (refine Ux.quiet_held rfl ?_; apply Exists.intro; refine ⟨fun w' hS => ?_, ?_⟩; (focus ((try dsimp only at hS); go_simp; first | done | with_reducible rfl)); simp only [Act.put, List.setIfInBounds_toArray, List.set_cons_zero, List.set_cons_succ]))
              go_wp2_with (go_at_call 9; refine C7.out.1.mono ?_; rintro e w' ⟨rfl, rfl⟩)
              refine ⟨⟨by simpa using e1, by simpa using e2⟩, ?_⟩
              repeat (first
                | go_big_quiet_step (fail)
                | (with_reducible refine wpQuiet_nil ?_)
                | (refine Ux.quiet_held rfl ?_; apply Exists.intro; refine ⟨fun w' hS => ?_, ?_⟩; (focus ((try dsimp only at hS); go_simp; first | done | with_reducible rfl)); simp only [Act.put, List.setIfInBounds_toArray, List.set_cons_zero, List.set_cons_succ]))
              go_wp2
              go_roundg g'
              case measure => omega
              case rel => exact ⟨i + 1, rfl, by omega, TD⟩
          · have q3 : ¬ (i : Int) < n := by omega
            clear hlt
            have hLl : (withP P c x).length ≤ n + 1 := by
              unfold withP
              have h1 := List.length_filter_le (fun q : Pr => decide (q.1 ≠ c)) P
              have := HP.out.2.2.2
              simp only [List.length_append, List.length_cons, List.length_nil]
              omega
            have hT9 := H9.out.1
            have hk9 := H9.out.2.1
            obtain ⟨hcr, hLm, hLa, hfL, t13, tw3, hr0⟩ := HL.out
            obtain ⟨s1, s2, s3, s4, s5⟩ := told hLm hLa hT9 hk9
            have f1 := CF.out c wr HI.out
            rw [hr0] at f1
            have t29 : Ux.Touch (fun _ => False) W3 wr := HI.out
            have tT : Ux.Touch (fun _ => False) w1 wr := t13.trans HI.out (fun _ _ h => h)
            have hT9' : TrieAt wr t9 ks9 (fnd (withP P c x)) := hT9.touch (T3.out.trans HI.out (fun _ _ h => h))
            have CW2 := with14 t9 ks9 (withP P c x) c r0 wr hT9' hLm hLa hk9 (by
              have := nz_le (withP P c x)
              omega)
            have hmr : Ux.Trie.may (c, r0) = true := may_of hcr (by rw [← hr0]; exact fnd_range HT.out.1 c)
            have hff : fnd (withP (pairsOf ks9 (fnd (withP P c x))) c r0) = fnd l := by
              funext y
              rw [Ux.Trie.fnd_withP, s5, hfL]
              by_cases hy : y = c
              · rw [if_pos hy, hy, hr0]
              · rw [if_neg hy, if_neg hy]
            rw [hmr, hff] at CW2
            have CW2 := Lib.hid CW2
            have C1 := Lib.hid f1
            have HE := Lib.hid (And.intro tT (tw3.trans HI.out (fun _ _ h => h)))
            clear hLl hT9 hk9 hcr hLm hLa hfL t13 tw3 hr0 s1 s2 s3 s4 s5 f1 t29 tT hT9' hmr hff
            go_upto_region 17 with (first
              | (go_at_call 10; refine C1.out.mono ?_; rintro e w' ⟨rfl, rfl⟩)
              | (go_at_call 14; refine CW2.out.mono ?_; rintro e w6 ⟨tp6, k6, rfl, _, h2, h3⟩; obtain ⟨rfl, t6, ks6, rfl, hT6, hk6⟩ := h2 (by first | rfl | trivial); have H6 := Lib.hid (And.intro hT6 (And.intro hk6 h3)); clear h2 h3 hT6 hk6))
            have b1 := blocks11 t6 ks6 (fnd l) w6 H6.out.1
            have b2 := blocks11 t ks (fnd l) w6 (HT.out.2.2.1.touch (HE.out.1.trans H6.out.2.2 (fun _ _ h => h)))
            rw [Ux.Trie.bls_length H6.out.1.off HT.out.2.2.1.off] at b1
            obtain ⟨nb, hnb⟩ : ∃ nb : Int, ((Ux.Trie.bls ks (fnd l)).length : Int) = nb := ⟨_, rfl⟩
            rw [hnb] at b1 b2
            have CC := Lib.hid (And.intro b1 (And.intro b2 (HE.out.2.trans H6.out.2.2 (fun _ _ h => h))))
            clear b1 b2 hnb
            go_wp2_with (go_at_call 11; fail)
            refine CC.out.1.mono ?_
            rintro e w' ⟨rfl, rfl⟩
            go_wp2_with (go_at_call 11; fail)
            refine CC.out.2.1.mono ?_
            rintro e w' ⟨rfl, rfl⟩
            go_wp2_with (go_at_call 6; refine (AW.out _).mono ?_; rintro e w7 ⟨rfl, ht7⟩)
            go_ret
            exact ⟨rfl, CC.out.2.2.trans ht7 (fun _ _ h => h)⟩
    · have htp : tp = none := by
        have hsome := HK.out.2.1
        rw [decide_eq_false h0] at hsome
        cases tp
        · rfl
        · cases hsome
      subst htp
      have h0' : ¬ kc = 0 := h0
      clear h0
      go_wp2_with (go_at_call 6; refine (AW.out _).mono ?_; rintro e w' ⟨rfl, ht⟩)
      go_ret
      exact ⟨rfl, HK.out.2.2.2.trans ht (fun _ _ h => h)⟩

end Go.Proofs.Ythkaifgepkfheaa
