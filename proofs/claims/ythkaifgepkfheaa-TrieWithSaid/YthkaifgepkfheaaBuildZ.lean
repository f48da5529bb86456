/- PART OF THE PROOF THAT THIS CLAIM HOLDS OF THE GIVEN PROGRAM, FOR EVERY INPUT THAT THE STATEMENT NAMES. No condition besides the statement's own. -/
import Derived.Test.YthkaifgepkfheaaSortedZ
import Derived.Test.YthkaifgepkfheaaRows
import Derived.WalkKit
import Derived.Handy
import Derived.Laws.EntriesVeiled
import Derived.WalkSpells
import Derived.WalkLawsBesides
import Derived.BigQuiet
import Derived.Deep.QuietTactic
import Derived.Deep.Cut
import Derived.Deep.DeepCutAuto
import Derived.Lib.Overlaps
import Derived.Laws.Externs
import Derived.Lib.Hide
import Derived.Test.YthkaifgepkfheaaUxPlanAllZ
import Derived.Test.YthkaifgepkfheaaUxTreeAllZ
import Derived.Deep.LoopGhost
namespace Go.Proofs.Ythkaifgepkfheaa
open Go.RowKit
-- imports: YthkaifgepkfheaaSorted
open Ux.Trie (fnd Pr blk zero64)

theorem zero3 : ∀ w, (zeroValue 3).run Try.prog w = .ok (.int .i64 0) w := (zero_of_info (P := Try.prog) (t := 3) (n := 1) (by kernel_rfl)).1

set_option maxHeartbeats 4000000 in
set_option maxRecDepth 100000 in
theorem build7 (v : Value) (l : List Pr) (w : World) (h : PrsAt w v l) (hl : l.length ≤ 64) :
    Calls Try.prog 7 #[v] w fun e w' => Ux.Touch (fun _ => False) w w' ∧ BuildSays l e w' := by
  have c15 := Lib.hid (contains15 v l w h (by omega))
  have H0 := Lib.hid h
  obtain ⟨a, cp, rfl, hcell⟩ := h
  obtain ⟨n, hn⟩ : ∃ n, l.length = n := ⟨_, rfl⟩
  obtain ⟨m, hm⟩ : ∃ m, (l.any fun p => !Ux.Trie.may p) = m := ⟨_, rfl⟩
  rw [hn] at hl
  rw [hn, hm] at c15
  rw [hn]
  have HC := Lib.hid hcell
  have HN := Lib.hid hn
  have HM := Lib.hid hm
  have j0 : (n : Int) ≤ 64 := by omega
  clear hcell hn hl hm
  have hmm := @run_makeMap Try.prog
  go_enter Try.func7, Try.ntmps7
  cases m with
  | true =>
    go_wp2_with (go_at_call 15; refine c15.out.mono ?_; rintro e w' ⟨rfl, ht⟩)
    go_ret2
    exact ⟨ht, .inl ⟨HM.out, rfl⟩⟩
  | false =>
    go_wp2_with (go_at_call 15; refine c15.out.mono ?_; rintro e w1 ⟨rfl, ht⟩; have HT1 := Lib.hid ht; clear ht)
    have HA : ∀ p ∈ l, Ux.Trie.may p = true := by
      intro p hp
      have := List.any_eq_false.1 HM.out p hp
      simpa using this
    have HA := Lib.hid HA
    have s4 := (Ux.MapIs.made w1 Try.prog 3).touch (((Ux.Touch.refl (fun _ => False) _).alloc (.map #[] 0))) (fun f => f)
    have s5 := Ux.MapIs.made (w1.alloc (.map #[] 0)) Try.prog 3
    have T2 : Ux.Touch (fun _ => False) w ((w1.alloc (.map #[] 0)).alloc (.map #[] 0)) := (HT1.out.alloc _).alloc _
    have hsz : w.heap.size ≤ w1.heap.size := HT1.out.size
    clear HT1
    obtain ⟨w2, hw2⟩ : ∃ w2, (w1.alloc (.map #[] 0)).alloc (.map #[] 0) = w2 := ⟨_, rfl⟩
    obtain ⟨b4, hb4⟩ : ∃ b4, w1.heap.size = b4 := ⟨_, rfl⟩
    have e5 : (w1.alloc (.map #[] 0)).heap.size = b4 + 1 := by rw [← hb4]; simp
    rw [hw2, e5] at s5
    rw [hw2, hb4] at s4
    rw [hw2] at T2
    rw [hb4] at hsz
    simp only [hw2, e5, hb4]
    clear hw2 e5 hb4
    have HS := Lib.hid (And.intro s4 (And.intro s5 (And.intro T2 hsz)))
    clear s4 s5 T2 hsz
    go_loopg [21] n (fun g s21 wr => ∃ i : Nat, s21 = .int .i64 i ∧ i + g = n ∧ Hid (Ux.MapIs Try.prog 3 wr b4 i (Ux.intF (seenG (l.take i))) ∧ Ux.MapIs Try.prog 3 wr (b4 + 1) i (Ux.intF (ownG (l.take i))) ∧ Ux.Trie.apart (l.take i) ∧ Ux.Touch (fun _ => False) w wr))
    case atStart =>
      refine ⟨0, rfl, by omega, Lib.hid ⟨HS.out.1.ext fun kl => ?_, HS.out.2.1.ext fun kl => ?_, List.Pairwise.nil, HS.out.2.2.1⟩⟩
      · unfold Ux.intF seenG; split <;> simp
      · unfold Ux.intF ownG; split <;> simp
    case round =>
      obtain ⟨i, rfl, hig, HI⟩ := hrel
      have p0 : (0 : Int) ≤ i := by omega
      by_cases hlt : i < n
      · obtain ⟨g', rfl⟩ : ∃ g', gk = g' + 1 := ⟨gk - 1, by omega⟩
        obtain ⟨p, hp⟩ : ∃ p, l[i]? = some p := ⟨l[i]'(by have := HN.out; omega), List.getElem?_eq_getElem (by have := HN.out; omega)⟩
        obtain ⟨b, f, ha, c1, c2⟩ := HC.out i p hp
        subst ha
        have c1 := HI.out.2.2.2.cell c1 (fun f => f)
        have c2 := HI.out.2.2.2.cell c2 (fun f => f)
        have j1 : (i : Int) < n := by omega
        have hmp := HA.out p (List.mem_of_getElem? hp)
        have HP := Lib.hid hp
        obtain ⟨pc, pv⟩ := p
        have hb0 : 0 ≤ pc ∧ pc ≤ 1114367 ∧ -2147483648 ≤ pv ∧ pv < 2147483648 := by
          by_cases hh : 0 ≤ pc ∧ pc ≤ 1114367 ∧ -2147483648 ≤ pv ∧ pv < 2147483648
          · exact hh
          · rw [may_no hh] at hmp; cases hmp
        obtain ⟨q1, q2, q3, q4⟩ := hb0
        clear hp hmp
        dsimp only at c1 c2
        obtain ⟨m, hm⟩ : ∃ m, (seenG (l.take i) pc).isSome = m := ⟨_, rfl⟩
        have hkey := keyI (c := pc) (by omega) (by omega)
        have hlt4 := HI.out.1.lt
        have hlt5 := HI.out.2.1.lt
        have hr : ∀ w', Ux.Touch (fun _ => False) wr w' → (Instr.lookup 41 (.map (some b4)) (.int .i64 pc) false).run Try.prog w' = .ok (.bool m) w' := fun w' ht => by
          have := (HI.out.1.touch ht (fun f => f)).look keyed3 Try.underlying41 (zero4 w') hkey
          rw [this]
          show Result.ok ((seenG (l.take i) pc).getD (.bool false)) w' = _
          rw [seen_get, hm]
        have hr5 : ∀ w', Ux.Touch (fun i => i = b4) wr w' → (Instr.lookup 42 (.map (some (b4 + 1))) (.int .i64 (pc / 64)) false).run Try.prog w' = .ok (arr (blk (fnd (l.take i)) (pc / 64))) w' := fun w' ht => by
          have := (HI.out.2.1.touch ht (fun f => by omega)).look keyed3 Try.underlying42 (zero44 w') (keyI (c := pc / 64) (by omega) (by omega))
          rw [this]
          show Result.ok ((ownG (l.take i) (pc / 64)).getD (.agg (Array.replicate 64 (.int .i32 0)))) w' = _
          rw [ownG_get]
        obtain ⟨A, hA⟩ : ∃ A, ((blk (fnd (l.take i)) (pc / 64)).map (Value.int .i32)).toArray = A := ⟨_, rfl⟩
        unfold arr at hr5
        rw [hA] at hr5
        have HA64 : Hid (A.size = 64 ∧ A.all (·.oneCell') = true) := Lib.hid (by
          subst hA
          refine ⟨by simp [Ux.Trie.blk_length], all_oneCell_toArray fun v hv => ?_⟩
          obtain ⟨z, _, rfl⟩ := List.mem_map.1 hv
          rfl)
        have hAj : A[(pc % 64).toNat]? = some (.int .i32 (fnd (l.take i) (64 * (pc / 64) + ((pc % 64).toNat : Int)))) := by
          subst hA
          rw [List.getElem?_toArray, List.getElem?_map, Ux.Trie.blk_get _ _ (by omega)]
          rfl
        obtain ⟨old, hold⟩ : ∃ o, fnd (l.take i) (64 * (pc / 64) + ((pc % 64).toNat : Int)) = o := ⟨_, rfl⟩
        rw [hold] at hAj
        have HAA := Lib.hid hA
        clear hold hA
        have HR5 := Lib.hid hr5
        have HR := Lib.hid hr
        clear hr5
        have HM2 := Lib.hid hm
        have HK := Lib.hid (And.intro hkey (And.intro hlt4 hlt5))
        clear hr hm hkey hlt4 hlt5
        cases m with
        | true =>
          go_wp2_with (at_lookup; refine Ux.wpList_look rfl _ _ 41 rfl rfl rfl (HR.out _ ((Ux.Touch.refl _ _).alloc _)) ?_)
          go_ret2
          refine ⟨HI.out.2.2.2.alloc _, .inr (.inl ⟨HM.out, not_apart HP.out ?_, rfl⟩)⟩
          have := HM2.out
          unfold seenG at this
          split at this
          · assumption
          · cases this
        | false =>
          go_wp2_with (first
            | (at_lookup; refine Ux.wpList_look rfl _ _ 41 rfl rfl rfl (HR.out _ ((Ux.Touch.refl _ _).alloc _)) ?_)
            | (at_mapUpdate; refine Ux.wpList_put (key := .int .i64 pc) (val := .bool true) rfl _ _ _ 41 rfl rfl rfl rfl (HI.out.1.touch ((Ux.Touch.refl (fun _ => False) _).alloc _) (fun f => f)) keyed3 Try.underlying41 (by have := maxLen; unfold maxLen; omega) HK.out.1 ?_; intro w3 hm3 ht3
               have d1 := ht3.cell (show (wr.alloc (.cells #[.int .i64 pc, .int .i64 pv] 29)).cell? ⟨wr.heap.size, 0, none⟩ = some (.int .i64 pc) by rw [Ux.cell_new]; rfl) (fun e => by have := HK.out.2.1; simp only at e; omega)
               have d2 := ht3.cell (show (wr.alloc (.cells #[.int .i64 pc, .int .i64 pv] 29)).cell? ⟨wr.heap.size, 1, none⟩ = some (.int .i64 pv) by rw [Ux.cell_new]; rfl) (fun e => by have := HK.out.2.1; simp only at e; omega)
               have d0 : wr.heap.size < w3.heap.size := block_lt_of_cell d1
               have HT3 := Lib.hid (((Ux.Touch.refl (fun j => j = b4) wr).alloc _).trans ht3 (fun _ _ h => h))
               have HM3 := Lib.hid hm3; clear hm3 ht3)
            | (at_lookup; refine Ux.wpList_look rfl _ _ 42 rfl rfl rfl (HR5.out _ HT3.out) ?_)
            | (refine Ux.is_store 44 rfl ?_; refine Ux.wpList_store_new rfl 44 _ _ rfl (Array.replicate 64 (.int .i32 0)) A rfl rfl (by rw [HA64.out.1]; exact size44) (by rw [HA64.out.1]; rfl) HA64.out.2 ?_)
            | (refine Ux.is_load 44 rfl ?_; refine Ux.wpList_load_new (w := w3) rfl 44 _ rfl (A.setIfInBounds (pc % 64).toNat (.int .i32 pv)) 64 21 Try.underlying44 rfl (by rw [Array.size_setIfInBounds, HA64.out.1]; exact size44) ?_)
            | (at_mapUpdate; refine Ux.wpList_put (key := .int .i64 (pc / 64)) (val := .agg (A.setIfInBounds (pc % 64).toNat (.int .i32 pv))) rfl _ _ _ 42 rfl rfl rfl rfl (HI.out.2.1.touch ((HT3.out).alloc _) (fun e => by omega)) keyed3 Try.underlying42 (by unfold maxLen; omega) (keyI (c := pc / 64) (by omega) (by omega)) ?_; intro w5 hm5 ht5
               have HM5 := Lib.hid (And.intro hm5 ht5); clear hm5 ht5))
          go_roundg g'
          case measure => omega
          case rel =>
            have hns := not_seen HM2.out
            have hT5 : Ux.Touch (fun j => j = b4 ∨ j = b4 + 1) wr w5 := ((HT3.out.mono (fun _ _ h => Or.inl h)).alloc _).trans HM5.out.2 (fun _ _ h => Or.inr h)
            refine ⟨i + 1, rfl, by omega, Lib.hid ⟨?_, ?_, apart_take HP.out HI.out.2.2.1 hns, HI.out.2.2.2.trans hT5 (fun j hj h => by have := HS.out.2.2.2; omega)⟩⟩
            · have h4 := ((HM3.out).touch (Ux.Touch.trans ((Ux.Touch.refl (fun j => j = b4 + 1) w3).alloc _) (HM5.out.2) (fun _ _ h => h)) (fun e => by omega)).intF
              have := seen_step HP.out
              exact h4.ext fun kl => by rw [← this]
            · have h5 := HM5.out.1.intF
              refine h5.ext fun kl => ?_
              rw [← own_step HP.out hns]
              have e1 : (((blk (fnd (l.take i)) (pc / 64)).map (Value.int .i32)).set (pc % 64).toNat (.int .i32 pv)).toArray = A.setIfInBounds (pc % 64).toNat (.int .i32 pv) := by
                rw [← HAA.out]
                simp
              rw [← e1]
      · have hi : i = n := by omega
        subst hi
        have q1 : ¬ (i : Int) < i := by omega
        have hfull : l.take i = l := by rw [List.take_of_length_le (by have := HN.out; omega)]
        have m5 := HI.out.2.1
        have hap := HI.out.2.2.1
        have T2 := HI.out.2.2.2
        rw [hfull] at m5 hap
        have hb5 := m5.lt
        have HAP := Lib.hid hap
        clear HI hfull hlt hig p0 hap
        go_upto_region 17 with (fail)
        obtain ⟨q, hq⟩ : ∃ q, wr.heap.size = q := ⟨_, rfl⟩
        have s5 := ((m5.touch ((((Ux.Touch.refl (fun _ => False) wr).alloc (.map #[] 0)).alloc (.cells #[.slice none 0 0, .map (some q)] 48)).alloc (.map #[] 0)) (fun f => f)))
        have sa := (Ux.MapIs.made wr Try.prog 3).touch (((Ux.Touch.refl (fun _ => False) (wr.alloc (.map #[] 0))).alloc (.cells #[.slice none 0 0, .map (some q)] 48)).alloc (.map #[] 0)) (fun f => f)
        have sf := Ux.MapIs.made ((wr.alloc (.map #[] 0)).alloc (.cells #[.slice none 0 0, .map (some q)] 48)) Try.prog 44
        have T6 : Ux.Touch (fun _ => False) w (((wr.alloc (.map #[] 0)).alloc (.cells #[.slice none 0 0, .map (some q)] 48)).alloc (.map #[] 0)) := ((T2.alloc _).alloc _).alloc _
        have hq1 : (wr.alloc (.map #[] 0)).heap.size = q + 1 := by simp [hq]
        have hblk : (((wr.alloc (.map #[] 0)).alloc (.cells #[.slice none 0 0, .map (some q)] 48)).alloc (.map #[] 0)).heap[q + 1]? = some (.cells #[.slice none 0 0, .map (some q)] 48 (0, 0)) := by
          rw [Below.heap_alloc _ _ _ (by simp; omega), ← hq1]
          exact heap_alloc_last _ _
        have hs6 : (((wr.alloc (.map #[] 0)).alloc (.cells #[.slice none 0 0, .map (some q)] 48)).alloc (.map #[] 0)).heap.size = q + 3 := by simp [hq]
        simp only [hq] at sa hb5
        have hq2 : ((wr.alloc (.map #[] 0)).alloc (.cells #[.slice none 0 0, .map (some q)] 48)).heap.size = q + 2 := by simp [hq]
        rw [hq2] at sf
        obtain ⟨w6, hw6⟩ : ∃ w6, ((wr.alloc (.map #[] 0)).alloc (.cells #[.slice none 0 0, .map (some q)] 48)).alloc (.map #[] 0) = w6 := ⟨_, rfl⟩
        rw [hw6] at s5 sa sf T6 hblk hs6
        have hwq : w.heap.size ≤ q := by rw [← hq]; exact T2.size
        simp only [hq, hw6]
        clear hq1 hq2 T2 m5 hw6 hq
        have c0 := cell_of_row w6 (q + 1) 0 _ 48 (0, 0) hblk
        have c1 := cell_of_row w6 (q + 1) 1 _ 48 (0, 0) hblk
        have fr : ∀ j, w6.frozen? ⟨q + 1, j, none⟩ = false := fun j => frozen_of_row w6 (q + 1) j _ 48 hblk
        simp only [List.getElem?_toArray, List.getElem?_cons_zero, List.getElem?_cons_succ] at c0 c1
        have H6 := Lib.hid (And.intro s5 (And.intro sa (And.intro sf (And.intro T6 (And.intro hblk (And.intro hs6 hwq))))))
        have hle : ∀ ty, (Builtin.len_ #[42] ty #[.map (some (b4 + 1))]).run Try.prog w6 = .ok (.int .i64 (keys0 l).length) w6 := fun ty => s5.len keyed3 Try.underlying3 (keys0_nodup l) (fun x => by rw [keys0_mem, ownG_some]) Try.underlying42 ty
        obtain ⟨D0, _, _, e1, e2⟩ := s5.keys keyed3 Try.underlying3 (keys0_nodup l) (fun x => by rw [keys0_mem, ownG_some])
        obtain ⟨nk, hnk⟩ : ∃ nk, (keys0 l).length = nk := ⟨_, rfl⟩
        have hk : (nk : Int) ≤ 64 := by omega
        rw [hnk] at hle
        have HNK := Lib.hid hnk
        obtain ⟨Z, hZ⟩ : ∃ Z, (zero64.map (Value.int .i32)).toArray = Z := ⟨_, rfl⟩
        have hZs : Z.size = 64 := by rw [← hZ]; rfl
        have hZ1 : Z.all (·.oneCell') = true := by
          rw [← hZ]
          exact all_oneCell_toArray fun v hv => by obtain ⟨z, _, rfl⟩ := List.mem_map.1 hv; rfl
        have hz0 : ∀ w, (zeroValue 44).run Try.prog w = .ok (.agg Z) w := fun w => by
          rw [zero44, ← arr_zero, ← hZ]; rfl
        obtain ⟨i44, hi44, hzz, hsz44, _⟩ := info_parts info44
        obtain ⟨i21, hi21⟩ : ∃ i21, Try.prog.info? 21 = some i21 := Option.isSome_iff_exists.1 (by kernel_rfl)
        obtain ⟨v7, w7, run7, row7, t7, own7⟩ := app46 (.slice none 0 0) 0 [] (w6.alloc (.cells Z 44)) (World.ownsRow_nil _ 0 44 64) (by omega) (q + 3) Z hZs hZ1 (by rw [← hs6]; exact heap_alloc_last _ _)
        obtain ⟨g7, cap7, cur7, rfl, _⟩ := Ux.own_pos row7 (by omega)
        have hb7 : w7.heap[q + 1]? = some (.cells #[.slice none 0 0, .map (some q)] 48 (0, 0)) := t7.heap (((Ux.Touch.refl (fun _ => False) w6).alloc _).heap hblk (fun f => f)) (fun e => by cases e)
        have c7 := cell_of_row w7 (q + 1) 0 _ 48 (0, 0) hb7
        have fr7 : ∀ j, w7.frozen? ⟨q + 1, j, none⟩ = false := fun j => frozen_of_row w7 (q + 1) j _ 48 hb7
        have sf7 := (sf.touch (((Ux.Touch.refl (fun _ => False) w6).alloc _).trans t7 (fun _ _ h => by cases h)) (fun f => f)).touch ((Ux.Touch.refl (fun j => j = q + 1) w7).setCell (p := ⟨q + 1, 0, none⟩) (fun _ => rfl) (.slice (some ⟨g7, 0, none⟩) 1 cap7)) (fun e => by omega)
        have T7 : Ux.Touch (fun j => j = q + 1) w6 (w7.setCell ⟨q + 1, 0, none⟩ (.slice (some ⟨g7, 0, none⟩) 1 cap7)) := (((Ux.Touch.refl (fun j => j = q + 1) w6).alloc _).trans t7 (fun _ _ h => by cases h)).setCell (fun _ => rfl) _
        simp only [List.getElem?_toArray, List.getElem?_cons_zero, List.getElem?_cons_succ] at c7
        have H7 := Lib.hid (And.intro row7 (And.intro own7 (And.intro hb7 (And.intro sf7 (And.intro T7 hnk)))))
        have HZ := Lib.hid (And.intro hZ (And.intro hZs (And.intro hZ1 (And.intro hz0 (And.intro hi44 (And.intro hzz (And.intro hsz44 hi21)))))))
        have R7 := Lib.hid run7
        clear s5 sa sf T6 hblk row7 own7 hb7 sf7 T7 t7 hnk hZ hZs hZ1 hz0 hi44 hzz hsz44 hi21 run7 e1 e2
        go_upto_region 20 with (first
          | (refine Ux.is_build 44 rfl ?_; refine Ux.wpList_buildZero rfl 44 21 64 rfl Z Try.underlying44 (HZ.out.2.2.2.1 _) i21 HZ.out.2.2.2.2.2.2.2 ?_)
          | (refine Ux.is_buildSlice 46 rfl ?_; refine Ux.wpList_buildOne rfl 46 44 _ rfl Z rfl i44 _ Try.underlying46 HZ.out.2.2.2.2.1 HZ.out.2.2.2.2.2.1 (by rw [HZ.out.2.1]; exact HZ.out.2.2.2.2.2.2.1) (by rw [HZ.out.2.1]; omega) (by rw [HZ.out.2.1]; omega) ?_; rw [hs6])
          | (at_builtin; refine Ux.wpList_app (v1 := .slice none 0 0) (x1 := .slice (some ⟨q + 3, 0, none⟩) 1 1) rfl _ _ _ _ rfl rfl rfl (R7.out _) ?_)
          | (at_mapUpdate; refine Ux.wpList_put (key := .agg Z) (val := .int .i64 0) (kl := klit zero64) rfl _ _ _ 49 rfl rfl rfl rfl H7.out.2.2.2.1 keyed44 Try.underlying49 (by unfold maxLen; omega) (by rw [← HZ.out.1]; exact key44 zero_fits) ?_; intro w8 hm8 ht8
             have H8 := Lib.hid (And.intro hm8 ht8); clear hm8 ht8))
        obtain ⟨m8, t8⟩ := H8.out
        obtain ⟨row7, own7, hb7, sf7, T7, _⟩ := H7.out
        obtain ⟨s5, sa, sf, T6, _, _⟩ := H6.out
        have hsz7 : q + 3 ≤ w7.heap.size := by
          have := T7.size
          simp at this
          omega
        have t68 : Ux.Touch (fun j => j = q + 1 ∨ j = q + 2) w6 w8 := (T7.mono (fun _ _ h => Or.inl h)).trans t8 (fun _ _ h => Or.inr h)
        have s58 := s5.touch t68 (by omega)
        have T8 : Ux.Touch (fun _ => False) w w8 := T6.trans t68 (fun i hi h => by omega)
        have hg7 : q + 4 ≤ g7 := by
          rcases own7 with h | ⟨g, h, h'⟩
          · cases h
          · simp only [Value.ownBlock, Option.map_some, Option.some.injEq] at h
            subst h
            simpa [hs6] using h'
        have hrow8 : w8.ownsRow 0 44 64 (.slice (some ⟨g7, 0, none⟩) 1 cap7) 1 (blCells [zero64]) := by
          have e1 : blCells [zero64] = [] ++ Z.toList := by rw [← HZ.out.1]; simp [blCells]
          rw [e1]
          refine Ux.own_touch row7 (((Ux.Touch.refl (fun j => j = q + 1 ∨ j = q + 2) w7).setCell (p := ⟨q + 1, 0, none⟩) (fun _ => Or.inl rfl) (.slice (some ⟨g7, 0, none⟩) 1 cap7)).trans t8 (fun _ _ h => Or.inr h)) (fun b hb => ?_)
          simp only [Value.ownBlock, Option.map_some, Option.some.injEq] at hb
          omega
        have TL8 : ∀ gk, g7 ≠ gk → Tell w8 q gk (.slice (some ⟨g7, 0, none⟩) 1 cap7) [zero64] [] (fnd l) := by
          intro gk hgk
          refine ⟨⟨fun _ => none, ?_, by simp, fun _ _ => rfl⟩, ?_, ?_, hrow8, ?_, by have := t68.size; omega⟩
          · refine (sa.touch t68 (by omega)).ext fun kl => ?_
            unfold Ux.intF; split <;> rfl
          · refine (m8.mono (by simp)).ext fun kl => ?_
            have := foundF_snoc (bl := []) (by simp) zero_fits (by simp) kl
            simp only [List.nil_append] at this
            rw [← this]
            rfl
          · exact t8.heap (obj_set hb7) (by omega)
          · intro g hg
            simp only [Value.ownBlock, Option.map_some, Option.some.injEq] at hg
            subst hg
            exact ⟨by omega, hgk⟩
        have hg8 : g7 < w8.heap.size := hrow8.lt _ rfl |>.2
        have HT8 := Lib.hid (And.intro TL8 (And.intro hg8 (And.intro T8 (And.intro s58 (And.intro hg7 (And.intro hk (And.intro hb5 hwq)))))))
        have c18 := Lib.hid (sortedA18 s58 (keys0_nodup l) (fun x => by rw [keys0_mem, ownG_some]) (by omega))
        clear H8 H7 H6 R7 m8 t8 row7 own7 hb7 sf7 T7 s5 sa sf T6 hsz7 t68 s58 T8 hg7 hrow8 TL8 hg8 hs6 hwq hle fr c0 c1 hb5 fr7 c7
        go_wp2_with (first
          | (go_at_call 19; refine (keys19 _ _).mono ?_; rintro e w' ⟨rfl, rfl⟩)
          | (go_at_call 18; refine c18.out.mono ?_; rintro e w9 ⟨vk, ks, rfl, hp9, hr9, row9, t9⟩; obtain ⟨kb, ak, ck, rfl, hkb, hck⟩ := keys_row row9; have H9 := Lib.hid (And.intro hp9 (And.intro hr9 (And.intro t9 (And.intro hkb hck)))); clear hp9 hr9 row9 t9 hkb hck; obtain ⟨nks, hnks⟩ : ∃ n, ks.length = n := ⟨_, rfl⟩; rw [hnks]; have HNS := Lib.hid hnks; clear hnks))
        have hnk64 : (nks : Int) ≤ 64 := by have := H9.out.1.length_eq; have := HNS.out; have := HNK.out; omega
        go_loopg [73] nks (fun g s73 wr => ∃ j : Nat, s73 = .int .i64 j ∧ j + g = nks ∧ Hid (∃ gv cv, Tell wr q kb (.slice (some ⟨gv, 0, none⟩) (Ux.Trie.addAll [zero64] ((ks.take j).map (blk (fnd l)))).length cv) (Ux.Trie.addAll [zero64] ((ks.take j).map (blk (fnd l)))) (ks.take j) (fnd l) ∧ Ux.Touch (fun i => q ≤ i ∧ i ≠ kb) w9 wr ∧ Ux.Touch (fun _ => False) w wr))
        case atStart =>
          refine ⟨0, rfl, by omega, Lib.hid ⟨g7, cap7, ?_, Ux.Touch.refl _ _, HT8.out.2.2.1.trans H9.out.2.2.1 (fun _ _ h => h)⟩⟩
          have hg := H9.out.2.2.2.1
          have hg' := HT8.out.2.1
          exact (HT8.out.1 kb (by omega)).touch H9.out.2.2.1 (fun _ h => h.elim) (fun _ _ h => h)
        case round =>
          obtain ⟨j, rfl, hjg, HJ⟩ := hrel
          have p0 : (0 : Int) ≤ j := by omega
          by_cases hlt : j < nks
          · obtain ⟨g', rfl⟩ : ∃ g', gk = g' + 1 := ⟨gk - 1, by omega⟩
            obtain ⟨gv, cv, TL, TJ, TW⟩ := HJ.out
            obtain ⟨k, hks⟩ : ∃ k, ks[j]? = some k := ⟨ks[j]'(by have := HNS.out; omega), List.getElem?_eq_getElem (by have := HNS.out; omega)⟩
            obtain ⟨hak, ckk⟩ := H9.out.2.2.2.2 j k hks
            subst hak
            have ckk := TJ.cell ckk (fun h => h.2 rfl)
            have j1 : (j : Int) < nks := by omega
            have hkm : k ∈ keys0 l := H9.out.1.mem_iff.1 (List.mem_of_getElem? hks)
            obtain ⟨r1, r2⟩ := key_range HA.out hkm
            have hkey := keyI (c := k) (by omega) (by omega)
            have hsn : (ks.take (j + 1)) = ks.take j ++ [k] := by rw [List.take_add_one, hks]; rfl
            have hdl : (ks.take j).length = j := by rw [List.length_take]; have := HNS.out; omega
            obtain ⟨bl, hbl⟩ : ∃ bl, Ux.Trie.addAll [zero64] ((ks.take j).map (blk (fnd l))) = bl := ⟨_, rfl⟩
            have hfb : ∀ x ∈ bl, fits x := by
              rw [← hbl]
              exact mem_addAll_fits (fun x hx => by rw [List.mem_singleton.1 hx]; exact zero_fits) (fun x hx => by obtain ⟨z, _, rfl⟩ := List.mem_map.1 hx; exact blk_fits HA.out z)
            have hnb : bl.length ≤ 1 + j := by
              rw [← hbl]
              have := addAll_length ((ks.take j).map (blk (fnd l))) [zero64]
              rw [List.length_map, hdl] at this
              simpa using this
            rw [hbl] at TL
            obtain ⟨bk, hbk⟩ : ∃ bk, blk (fnd l) k = bk := ⟨_, rfl⟩
            have hfk : fits bk := by rw [← hbk]; exact blk_fits HA.out k
            obtain ⟨A, hA⟩ : ∃ A, (bk.map (Value.int .i32)).toArray = A := ⟨_, rfl⟩
            have hAs : A.size = 64 := by rw [← hA]; simp [hfk.1]
            have hA1 : A.all (·.oneCell') = true := by
              rw [← hA]
              exact all_oneCell_toArray fun v hv => by obtain ⟨z, _, rfl⟩ := List.mem_map.1 hv; rfl
            have hAl : A.toList = bk.map (Value.int .i32) := by rw [← hA]
            obtain ⟨nb, hnb'⟩ : ∃ nb, bl.length = nb := ⟨_, rfl⟩
            rw [hnb'] at TL hnb
            obtain ⟨⟨G, hG1, hG2, hG3⟩, hfound, hobj, hrow, hown, hsize⟩ := TL
            have c0 := cell_of_row wr (q + 1) 0 _ 48 (0, 0) hobj
            have c1 := cell_of_row wr (q + 1) 1 _ 48 (0, 0) hobj
            simp only [List.getElem?_toArray, List.getElem?_cons_zero, List.getElem?_cons_succ] at c0 c1
            obtain ⟨hgv, hgvk⟩ := hown gv rfl
            have s59 := HT8.out.2.2.2.1.touch H9.out.2.2.1 (fun f => f)
            have hbq : b4 + 1 < q := HT8.out.2.2.2.2.2.2.1
            have HO : ∀ w', Ux.Touch (fun i => q ≤ i) w9 w' → (Instr.lookup 42 (.map (some (b4 + 1))) (.int .i64 k) false).run Try.prog w' = .ok (.agg A) w' := fun w' ht => by
              have := (s59.touch ht (by omega)).look keyed3 Try.underlying42 (zero44 w') hkey
              rw [this]
              show Result.ok ((ownG l k).getD (.agg (Array.replicate 64 (.int .i32 0)))) w' = _
              rw [ownG_get, hbk]
              unfold arr
              rw [hA]
            have hk44 : Go.keyOf Try.prog 44 (.agg A) = some (klit bk) := by rw [← hA]; exact key44 hfk
            have HOX := Lib.hid HO
            have TJQ := Lib.hid (TJ.mono (fun i _ h => h.1) : Ux.Touch (fun i => q ≤ i) w9 wr)
            have hlk := hfound.lookOk keyed44 Try.underlying49 (zero3 wr) hk44
            have hkbq : q + 3 ≤ kb := by
              have := H9.out.2.2.2.1
              have := HT8.out.2.1
              have := HT8.out.2.2.2.2.1
              omega
            have HE := Lib.hid (And.intro hsn (And.intro hdl (And.intro hbl (And.intro hbk (And.intro hnb' hks)))))
            clear hsn hdl hbl hbk hnb' hks
            rcases foundF_in hfb hfk with ⟨i0, hi0, hf0⟩ | ⟨hnin, hf0⟩
            · rw [hf0] at hlk
              have HLK := Lib.hid hlk
              have HX := Lib.hid (And.intro hG1 (And.intro hG2 (And.intro hG3 (And.intro hfound (And.intro hobj (And.intro hrow (And.intro hown hsize)))))))
              have HY := Lib.hid (And.intro hi0 (And.intro hf0 (And.intro TJ (And.intro TW hkey))))
              clear hlk hG1 hG2 hG3 hfound hobj hrow hown hsize hi0 hf0 TJ TW HO s59 hfk hfb hA hA1 hAs hAl hk44 hkey
              go_wp2_with (first
                | (at_lookup; refine Ux.wpList_look rfl _ _ 42 rfl rfl rfl (HOX.out _ TJQ.out) ?_)
                | (at_lookup; refine Ux.wpList_look rfl _ _ 49 rfl rfl rfl HLK.out ?_)
                | (at_mapUpdate; refine Ux.wpList_put (key := .int .i64 k) (val := .int .i64 i0) rfl _ _ _ 45 rfl rfl rfl rfl HX.out.1 keyed3 Try.underlying45 (by have := HE.out.2.1; unfold maxLen; omega) HY.out.2.2.2.2 ?_; intro w5 hm5 ht5
                   have HM5 := Lib.hid (And.intro hm5 ht5); clear hm5 ht5))
              go_roundg g'
              case measure => omega
              case rel =>
                obtain ⟨hG1, hG2, hG3, hfound, hobj, hrow, hown, hsize⟩ := HX.out
                obtain ⟨hi0, hf0, TJ, TW, _⟩ := HY.out
                obtain ⟨hsn, hdl, hbl, hbk, hnb', _⟩ := HE.out
                obtain ⟨hm5, ht5⟩ := HM5.out
                have e1 : Ux.Trie.addAll [zero64] ((ks.take (j + 1)).map (blk (fnd l))) = bl := by
                  rw [hsn, List.map_append]
                  show Ux.Trie.addAll [zero64] (List.map (blk (fnd l)) (List.take j ks) ++ [blk (fnd l) k]) = bl
                  rw [Ux.Trie.addAll_snoc, hbl, hbk, addB_in (List.mem_of_getElem? hi0)]
                refine ⟨j + 1, rfl, by omega, Lib.hid ⟨gv, cv, ?_, TJ.trans ht5 (fun i hi h => by omega), TW.trans ht5 (fun i hi h => by have := HT8.out.2.2.2.2.2.2.2; omega)⟩⟩
                rw [e1, hsn, hnb']
                refine ⟨at_step hm5 hG2 hG3 (by rw [hbk]; exact hi0), ?_, ht5.heap hobj (by omega), ?_, hown, Nat.le_trans hsize ht5.size⟩
                · exact hfound.touch ht5 (by omega)
                · exact Ux.own_touch hrow ht5 (fun b hb => by simp only [Value.ownBlock, Option.map_some, Option.some.injEq] at hb; omega)
            · rw [hf0] at hlk
              have HLK := Lib.hid hlk
              have tD : Ux.Touch (fun i => i = gv ∨ i = q + 1) wr (wr.drew.alloc (.cells A 44)) := ((Ux.Touch.refl _ wr).drew).alloc _
              have tD0 : Ux.Touch (fun _ => False) wr (wr.drew.alloc (.cells A 44)) := ((Ux.Touch.refl _ wr).drew).alloc _
              obtain ⟨vn, w2, run2, row2, t2, own2⟩ := app46 (.slice (some ⟨gv, 0, none⟩) nb cv) nb (blCells bl) (wr.drew.alloc (.cells A 44)) (Ux.own_touch (by have := hrow; rw [HE.out.2.2.2.2.1] at this; exact this) tD0 (fun _ _ h => h)) (by omega) wr.heap.size A hAs hA1 (heap_alloc_last wr.drew _)
              obtain ⟨gn, cn, curn, rfl, _⟩ := Ux.own_pos row2 (by omega)
              have hgn : gn = gv ∨ wr.heap.size + 1 ≤ gn := by
                rcases own2 with h | ⟨g, h, h'⟩
                · simp only [Value.ownBlock, Option.map_some, Option.some.injEq] at h
                  exact .inl h
                · simp only [Value.ownBlock, Option.map_some, Option.some.injEq] at h
                  subst h
                  exact .inr (by simpa using h')
              have t2' : Ux.Touch (fun i => i = gv ∨ i = q + 1) wr w2 := tD.trans t2 (fun i _ h => by simp only [Value.ownBlock, Option.map_some, Option.some.injEq] at h; exact .inl h.symm)
              have hobj2 : w2.heap[q + 1]? = some (.cells #[.slice (some ⟨gv, 0, none⟩) nb cv, .map (some q)] 48 (0, 0)) := t2.heap (tD0.heap hobj (fun f => f)) (fun h => by simp only [Value.ownBlock, Option.map_some, Option.some.injEq] at h; omega)
              have d0 := cell_of_row w2 (q + 1) 0 _ 48 (0, 0) hobj2
              simp only [List.getElem?_toArray, List.getElem?_cons_zero, List.getElem?_cons_succ] at d0
              have fr2 : ∀ j, w2.frozen? ⟨q + 1, j, none⟩ = false := fun j => frozen_of_row w2 (q + 1) j _ 48 hobj2
              have T3 : Ux.Touch (fun i => i = gv ∨ i = q + 1) wr (w2.setCell ⟨q + 1, 0, none⟩ (.slice (some ⟨gn, 0, none⟩) (nb + 1) cn)) := t2'.setCell (fun _ => .inr rfl) _
              have hf3 := hfound.touch T3 (by omega)
              rw [HE.out.2.2.2.2.1] at hf3
              have hobj3 := obj_set (v := .slice (some ⟨gn, 0, none⟩) (nb + 1) cn) hobj2
              have T39 : Ux.Touch (fun i => q ≤ i) w9 (w2.setCell ⟨q + 1, 0, none⟩ (.slice (some ⟨gn, 0, none⟩) (nb + 1) cn)) := TJQ.out.trans T3 (fun i hi h => by omega)
              have TD9 : Ux.Touch (fun i => q ≤ i) w9 wr.drew := TJQ.out.drew
              have HX := Lib.hid (And.intro hG1 (And.intro hG2 (And.intro hG3 (And.intro hfound (And.intro hobj (And.intro hrow (And.intro hown hsize)))))))
              have HY := Lib.hid (And.intro hnin (And.intro hf0 (And.intro TJ (And.intro TW (And.intro hkey (And.intro hk44 (And.intro hAs hAl)))))))
              have HW := Lib.hid (And.intro T3 (And.intro hf3 (And.intro hobj3 (And.intro T39 (And.intro TD9 (And.intro row2 (And.intro hgn hfb)))))))
              have R2 := Lib.hid run2
              have hnb64 : (nb : Int) ≤ 65 := by omega
              have hq1 : q + 1 < wr.heap.size := by omega
              clear hlk hG1 hG2 hG3 hfound hobj hrow hown hsize hf0 TJ TW HO s59 hfk hA hA1 hkey hk44 hnin tD tD0 t2 own2 t2' hobj2 T3 hf3 hobj3 T39 TD9 row2 hgn run2 hAl hfb
              go_upto_region 26 with (first
                | (at_lookup; refine Ux.wpList_look rfl _ _ 42 rfl rfl rfl (HOX.out _ TJQ.out) ?_)
                | (at_lookup; refine Ux.wpList_look rfl _ _ 49 rfl rfl rfl HLK.out ?_))
              have d8 : (wr.drew.alloc (.cells A 44)).cell? ⟨q + 1, 0, none⟩ = some (.slice (some ⟨gv, 0, none⟩) nb cv) := by
                rw [World.cell?_alloc_lt _ _ _ (by simpa using hq1)]; simpa using c0
              have c0D : wr.drew.cell? ⟨q + 1, 0, none⟩ = some (.slice (some ⟨gv, 0, none⟩) nb cv) := by simpa using c0
              refine Ux.wp_region_plan (fun _ w' => w'.cell? ⟨q + 1, 0, none⟩ = some (.slice (some ⟨gv, 0, none⟩) nb cv)) (.q [0, 1, 2, 3, 5, 6] (.h false [4] (.e 7 true false (.e 8 true false (.e 9 true false (.line [10, 11, 12]))))))
                (by kernel_rfl) (by kernel_rfl) (by intro _ _ d _ _ h; cases d <;> exact h) ?hS ?_
              case hS => (intro c; cases c <;> (simp only [World.cell?_drew]; first | exact True.intro | (refine ⟨?_, ?_⟩ <;> assumption) | assumption | (repeat (first | assumption | (refine And.intro ?_ ?_)))))
              simp only [Ux.wpPlan, Ux.pickOps, Ux.keeps, List.getElem?_toArray, List.getElem?_cons_succ, List.getElem?_cons_zero]
              repeat (first
                | go_big_quiet_step (fail)
                | (with_reducible refine wpQuiet_nil ?_)
                | (refine Ux.quiet_held rfl ?_; apply Exists.intro; refine ⟨fun w' hS => ?_, ?_⟩; (focus ((try dsimp only at hS); go_simp; first | done | with_reducible rfl)); simp only [Act.put, List.setIfInBounds_toArray, List.set_cons_zero, List.set_cons_succ]))
              go_wp2_with (first
                | (at_lookup; refine Ux.wpList_look rfl _ _ 42 rfl rfl rfl (HOX.out _ HW.out.2.2.2.2.1) ?_)
                | (at_lookup; refine Ux.wpList_look rfl _ _ 42 rfl rfl rfl (HOX.out _ HW.out.2.2.2.1) ?_)
                | (refine Ux.is_buildSlice 46 rfl ?_; refine Ux.wpList_buildOne rfl 46 44 _ rfl A rfl i44 _ Try.underlying46 HZ.out.2.2.2.2.1 HZ.out.2.2.2.2.2.1 (by rw [HY.out.2.2.2.2.2.2.1]; exact HZ.out.2.2.2.2.2.2.1) (by rw [HY.out.2.2.2.2.2.2.1]; omega) (by rw [HY.out.2.2.2.2.2.2.1]; omega) ?_)
                | (at_builtin; refine Ux.wpList_app (v1 := .slice (some ⟨gv, 0, none⟩) nb cv) (x1 := .slice (some ⟨wr.heap.size, 0, none⟩) 1 1) rfl _ _ _ _ rfl rfl rfl (R2.out _) ?_)
                | (at_mapUpdate; refine Ux.wpList_put (key := .agg A) (val := .int .i64 nb) rfl _ _ _ 49 rfl rfl rfl rfl HW.out.2.1 keyed44 Try.underlying49 (by unfold maxLen; omega) HY.out.2.2.2.2.2.1 ?_; intro w4 hm4 ht4
                   have d1 := cell_of_row w4 (q + 1) 1 _ 48 (0, 0) (ht4.heap HW.out.2.2.1 (by omega))
                   simp only [List.getElem?_toArray, List.getElem?_cons_zero, List.getElem?_cons_succ] at d1
                   have T34 : Hid (Ux.Touch (fun i => i = gv ∨ i = q + 1 ∨ i = q + 2) wr w4) := Lib.hid ((HW.out.1.mono (fun _ _ h => by omega)).trans ht4 (fun _ _ h => by omega))
                   have HM4 := Lib.hid (And.intro hm4 ht4); clear hm4 ht4)
                | (at_mapUpdate; refine Ux.wpList_put (key := .int .i64 k) (val := .int .i64 nb) rfl _ _ _ 45 rfl rfl rfl rfl (HX.out.1.touch T34.out (by omega)) keyed3 Try.underlying45 (by have := HE.out.2.1; unfold maxLen; omega) HY.out.2.2.2.2.1 ?_; intro w5 hm5 ht5
                   have HM5 := Lib.hid (And.intro hm5 ht5); clear hm5 ht5))
              refine ⟨d8, ?_⟩
              go_wp2_with (first
                | (at_lookup; refine Ux.wpList_look rfl _ _ 42 rfl rfl rfl (HOX.out _ HW.out.2.2.2.2.1) ?_)
                | (at_lookup; refine Ux.wpList_look rfl _ _ 42 rfl rfl rfl (HOX.out _ HW.out.2.2.2.1) ?_)
                | (refine Ux.is_buildSlice 46 rfl ?_; refine Ux.wpList_buildOne rfl 46 44 _ rfl A rfl i44 _ Try.underlying46 HZ.out.2.2.2.2.1 HZ.out.2.2.2.2.2.1 (by rw [HY.out.2.2.2.2.2.2.1]; exact HZ.out.2.2.2.2.2.2.1) (by rw [HY.out.2.2.2.2.2.2.1]; omega) (by rw [HY.out.2.2.2.2.2.2.1]; omega) ?_)
                | (at_builtin; refine Ux.wpList_app (v1 := .slice (some ⟨gv, 0, none⟩) nb cv) (x1 := .slice (some ⟨wr.heap.size, 0, none⟩) 1 1) rfl _ _ _ _ rfl rfl rfl (R2.out _) ?_)
                | (at_mapUpdate; refine Ux.wpList_put (key := .agg A) (val := .int .i64 nb) rfl _ _ _ 49 rfl rfl rfl rfl HW.out.2.1 keyed44 Try.underlying49 (by unfold maxLen; omega) HY.out.2.2.2.2.2.1 ?_; intro w4 hm4 ht4
                   have d1 := cell_of_row w4 (q + 1) 1 _ 48 (0, 0) (ht4.heap HW.out.2.2.1 (by omega))
                   simp only [List.getElem?_toArray, List.getElem?_cons_zero, List.getElem?_cons_succ] at d1
                   have T34 : Hid (Ux.Touch (fun i => i = gv ∨ i = q + 1 ∨ i = q + 2) wr w4) := Lib.hid ((HW.out.1.mono (fun _ _ h => by omega)).trans ht4 (fun _ _ h => by omega))
                   have HM4 := Lib.hid (And.intro hm4 ht4); clear hm4 ht4)
                | (at_mapUpdate; refine Ux.wpList_put (key := .int .i64 k) (val := .int .i64 nb) rfl _ _ _ 45 rfl rfl rfl rfl (HX.out.1.touch T34.out (by omega)) keyed3 Try.underlying45 (by have := HE.out.2.1; unfold maxLen; omega) HY.out.2.2.2.2.1 ?_; intro w5 hm5 ht5
                   have HM5 := Lib.hid (And.intro hm5 ht5); clear hm5 ht5))
              refine ⟨d0, ?_⟩
              go_wp2_with (first
                | (at_lookup; refine Ux.wpList_look rfl _ _ 42 rfl rfl rfl (HOX.out _ HW.out.2.2.2.2.1) ?_)
                | (at_lookup; refine Ux.wpList_look rfl _ _ 42 rfl rfl rfl (HOX.out _ HW.out.2.2.2.1) ?_)
                | (refine Ux.is_buildSlice 46 rfl ?_; refine Ux.wpList_buildOne rfl 46 44 _ rfl A rfl i44 _ Try.underlying46 HZ.out.2.2.2.2.1 HZ.out.2.2.2.2.2.1 (by rw [HY.out.2.2.2.2.2.2.1]; exact HZ.out.2.2.2.2.2.2.1) (by rw [HY.out.2.2.2.2.2.2.1]; omega) (by rw [HY.out.2.2.2.2.2.2.1]; omega) ?_)
                | (at_builtin; refine Ux.wpList_app (v1 := .slice (some ⟨gv, 0, none⟩) nb cv) (x1 := .slice (some ⟨wr.heap.size, 0, none⟩) 1 1) rfl _ _ _ _ rfl rfl rfl (R2.out _) ?_)
                | (at_mapUpdate; refine Ux.wpList_put (key := .agg A) (val := .int .i64 nb) rfl _ _ _ 49 rfl rfl rfl rfl HW.out.2.1 keyed44 Try.underlying49 (by unfold maxLen; omega) HY.out.2.2.2.2.2.1 ?_; intro w4 hm4 ht4
                   have d1 := cell_of_row w4 (q + 1) 1 _ 48 (0, 0) (ht4.heap HW.out.2.2.1 (by omega))
                   simp only [List.getElem?_toArray, List.getElem?_cons_zero, List.getElem?_cons_succ] at d1
                   have T34 : Hid (Ux.Touch (fun i => i = gv ∨ i = q + 1 ∨ i = q + 2) wr w4) := Lib.hid ((HW.out.1.mono (fun _ _ h => by omega)).trans ht4 (fun _ _ h => by omega))
                   have HM4 := Lib.hid (And.intro hm4 ht4); clear hm4 ht4)
                | (at_mapUpdate; refine Ux.wpList_put (key := .int .i64 k) (val := .int .i64 nb) rfl _ _ _ 45 rfl rfl rfl rfl (HX.out.1.touch T34.out (by omega)) keyed3 Try.underlying45 (by have := HE.out.2.1; unfold maxLen; omega) HY.out.2.2.2.2.1 ?_; intro w5 hm5 ht5
                   have HM5 := Lib.hid (And.intro hm5 ht5); clear hm5 ht5))
              go_roundg g'
              case measure => omega
              case rel =>
                obtain ⟨hG1, hG2, hG3, hfound, hobj, hrow, hown, hsize⟩ := HX.out
                obtain ⟨hnin, hf0, TJ, TW, _, _, hAs, hAl⟩ := HY.out
                obtain ⟨hsn, hdl, hbl, hbk, hnb', _⟩ := HE.out
                obtain ⟨hm5, ht5⟩ := HM5.out
                obtain ⟨hm4, ht4⟩ := HM4.out
                obtain ⟨T3, hf3, hobj3, T39, TD9, row2, hgn, hfb⟩ := HW.out
                have hfk : fits bk := by rw [← hbk]; exact blk_fits HA.out k
                have e1 : Ux.Trie.addAll [zero64] ((ks.take (j + 1)).map (blk (fnd l))) = bl ++ [bk] := by
                  rw [hsn, List.map_append]
                  show Ux.Trie.addAll [zero64] (List.map (blk (fnd l)) (List.take j ks) ++ [blk (fnd l) k]) = _
                  rw [Ux.Trie.addAll_snoc, hbl, hbk, addB_out hnin]
                have t45 : Ux.Touch (fun i => i = gv ∨ i = q + 1 ∨ i = q + 2 ∨ i = q) wr w5 := (T34.out.mono (fun _ _ h => by omega)).trans ht5 (fun _ _ h => by omega)
                have e2 : (bl ++ [bk]).length = nb + 1 := by simp [hnb']
                refine ⟨j + 1, rfl, by omega, Lib.hid ⟨gn, cn, ?_, TJ.trans t45 (fun i hi h => by omega), TW.trans t45 (fun i hi h => by have := HT8.out.2.2.2.2.2.2.2; omega)⟩⟩
                rw [e1, hsn, e2]
                refine ⟨at_step hm5 (fun x hx => ?_) hG3 (by rw [hbk, List.getElem?_append_right (by omega)]; simp [hnb']), ?_, ?_, ?_, ?_, Nat.le_trans hsize t45.size⟩
                · obtain ⟨i, h1, h2⟩ := hG2 x hx
                  exact ⟨i, h1, by rw [List.getElem?_append_left (List.getElem?_eq_some_iff.1 h2).1]; exact h2⟩
                · rw [e2]
                  refine (hm4.touch ht5 (by omega)).ext fun kl => ?_
                  rw [← foundF_snoc hfb hfk hnin kl, hnb']
                · exact ht5.heap (ht4.heap hobj3 (by omega)) (by omega)
                · rw [e2]
                  have e3 : blCells (bl ++ [bk]) = blCells bl ++ A.toList := by rw [blCells_snoc, hAl]
                  rw [e3]
                  have t25 : Ux.Touch (fun i => i = q + 1 ∨ i = q + 2 ∨ i = q) w2 w5 := ((((Ux.Touch.refl (fun i => i = q + 1 ∨ i = q + 2 ∨ i = q) w2).setCell (p := ⟨q + 1, 0, none⟩) (fun _ => .inl rfl) (.slice (some ⟨gn, 0, none⟩) (nb + 1) cn)).trans ht4 (fun _ _ h => .inr (.inl h)))).trans ht5 (fun _ _ h => .inr (.inr h))
                  refine Ux.own_touch row2 t25 (fun b hb => ?_)
                  simp only [Value.ownBlock, Option.map_some, Option.some.injEq] at hb
                  rcases hgn with h | h <;> omega
                · intro g hg
                  simp only [Value.ownBlock, Option.map_some, Option.some.injEq] at hg
                  have hkb2 : kb < wr.heap.size := block_lt_of_cell ckk
                  rcases hgn with h | h
                  · have := hown gv rfl
                    omega
                  · omega
          · have hj : j = nks := by omega
            subst hj
            have q2 : ¬ (j : Int) < j := by omega
            clear hlt
            go_wp2
            go_ret2
            obtain ⟨gv, cv, TL, TJ, TW⟩ := HJ.out
            have hfull : ks.take j = ks := by rw [List.take_of_length_le (by have := HNS.out; omega)]
            rw [hfull] at TL
            obtain ⟨⟨G, hG1, hG2, hG3⟩, hfound, hobj, hrow, hown, hsize⟩ := TL
            have hmem : ∀ k, k ∈ ks ↔ ∃ p ∈ l, p.1 / 64 = k := fun k => by
              rw [H9.out.1.mem_iff, keys0_mem, List.mem_map]
            have c0 := cell_of_row wr (q + 1) 0 _ 48 (0, 0) hobj
            have c1 := cell_of_row wr (q + 1) 1 _ 48 (0, 0) hobj
            simp only [List.getElem?_toArray, List.getElem?_cons_zero, List.getElem?_cons_succ] at c0 c1
            refine ⟨TW, .inr (.inr ⟨HM.out, HAP.out, q + 1, ks, rfl, ⟨gv, cv, q, G, c0, c1, ?_, hG1, hG2, fun k hk => ⟨hG3 k hk, Ux.Trie.blk_off (fun p hp => (hmem _).2 ⟨p, hp, rfl⟩) k hk⟩, H9.out.2.1, fun k hk => key_range HA.out (H9.out.1.mem_iff.1 hk), by have := HNS.out; omega⟩, hmem⟩)⟩
            intro x v hv
            rcases hrow.2 with ⟨h, _⟩ | ⟨g, cap, cur, h, _, hh, _, _, _, ht⟩
            · cases h
            · cases h
              exact Ux.row_cell hh ht x v hv

end Go.Proofs.Ythkaifgepkfheaa
