/- PART OF THE PROOF THAT THIS CLAIM HOLDS OF THE GIVEN PROGRAM, FOR EVERY INPUT THAT THE STATEMENT NAMES. No condition besides the statement's own. -/
import Derived.Test.YthkaifgepkfheaaTellsZ
import Derived.Test.YthkaifgepkfheaaRows
import Derived.WalkKit
import Derived.Handy
import Derived.Laws.EntriesVeiled
import Derived.WalkSpells
import Derived.WalkLawsBesides
import Derived.BigQuiet
import Derived.Deep.QuietTactic
import Derived.Deep.Cut
import Derived.Deep.DeepCutAuto
import Derived.Lib.Overlaps
import Derived.Laws.Externs
import Derived.Lib.Hide
import Derived.Test.YthkaifgepkfheaaUxPlanAllZ
import Derived.Test.YthkaifgepkfheaaUxTreeAllZ
import Derived.Deep.LoopGhost
namespace Go.Proofs.Ythkaifgepkfheaa
open Go.RowKit
-- imports: YthkaifgepkfheaaTells
open Ux.Trie (fnd Pr blk zero64 pairsOf pairsIn)

def prCells (l : List Pr) : List Value := l.flatMap fun p => [.int .i64 p.1, .int .i64 p.2]
theorem prCells_length (l : List Pr) : (prCells l).length = l.length * 2 := by
  induction l with
  | nil => rfl
  | cons p l ih => show (_ :: _ :: prCells l).length = _; simp [ih]; omega
theorem prCells_snoc (l : List Pr) (p : Pr) : prCells (l ++ [p]) = prCells l ++ [.int .i64 p.1, .int .i64 p.2] := by simp [prCells]
theorem prCells_get : ∀ {l : List Pr} {i : Nat} {p : Pr}, l[i]? = some p → (prCells l)[i * 2]? = some (.int .i64 p.1) ∧ (prCells l)[i * 2 + 1]? = some (.int .i64 p.2)
  | [], i, p, h => by simp at h
  | q :: l, 0, p, h => by
    simp only [List.getElem?_cons_zero, Option.some.injEq] at h
    subst h
    exact ⟨rfl, rfl⟩
  | q :: l, i + 1, p, h => by
    have := prCells_get (l := l) (i := i) (by simpa using h)
    have e1 : (i + 1) * 2 = i * 2 + 1 + 1 := by omega
    rw [e1]
    exact this
theorem rising_unique : ∀ {a b : List Int}, a.Pairwise (· < ·) → b.Pairwise (· < ·) → (∀ x, x ∈ a ↔ x ∈ b) → a = b
  | [], [], _, _, _ => rfl
  | [], y :: b, _, _, h => absurd ((h y).2 List.mem_cons_self) (by simp)
  | x :: a, [], _, _, h => absurd ((h x).1 List.mem_cons_self) (by simp)
  | x :: a, y :: b, ha, hb, h => by
    obtain ⟨ha1, ha2⟩ := List.pairwise_cons.1 ha
    obtain ⟨hb1, hb2⟩ := List.pairwise_cons.1 hb
    have hxy : x = y := by
      rcases List.mem_cons.1 ((h x).1 List.mem_cons_self) with e | h1
      · exact e
      · rcases List.mem_cons.1 ((h y).2 List.mem_cons_self) with e | h2
        · exact e.symm
        · have := ha1 y h2
          have := hb1 x h1
          omega
    subst hxy
    rw [rising_unique ha2 hb2 fun z => ?_]
    constructor
    · intro hz
      rcases List.mem_cons.1 ((h z).1 (List.mem_cons_of_mem _ hz)) with e | h1
      · have := ha1 z hz; omega
      · exact h1
    · intro hz
      rcases List.mem_cons.1 ((h z).2 (List.mem_cons_of_mem _ hz)) with e | h1
      · have := hb1 z hz; omega
      · exact h1

theorem info29 : (Try.prog.info? 29).map (fun i => (i.zero, i.size, i.bytes)) = some (some (.agg #[.int .i64 0, .int .i64 0]), 2, 16) := by kernel_rfl
/-- append of one pair -/
theorem app22 (v : Value) (n : Nat) (xs : List Value) (w : World) (h : w.ownsRow 0 29 2 v n xs) (hn : n ≤ 1000000) (c z : Int) :
    ∃ r w', (∀ ty, (Builtin.append_ #[22, 22] ty #[v, .slice (some ⟨w.heap.size, 0, none⟩) 1 1]).run Try.prog (w.alloc (.cells #[.int .i64 c, .int .i64 z] 29)) = .ok r w') ∧ w'.ownsRow 0 29 2 r (n + 1) (xs ++ [.int .i64 c, .int .i64 z]) ∧ Ux.Touch (fun b => v.ownBlock = some b) w w' ∧ (r.ownBlock = v.ownBlock ∨ ∃ g, r.ownBlock = some g ∧ w.heap.size ≤ g) := by
  obtain ⟨i0, hi0, hz0, hz1, hz2⟩ := info_parts info29
  have ta : Ux.Touch (fun b => v.ownBlock = some b) w (w.alloc (.cells #[.int .i64 c, .int .i64 z] 29)) := (Ux.Touch.refl _ w).alloc _
  have ta0 : Ux.Touch (fun _ => False) w (w.alloc (.cells #[.int .i64 c, .int .i64 z] 29)) := (Ux.Touch.refl _ w).alloc _
  have src : Src Try.prog 2 22 (.slice (some ⟨w.heap.size, 0, none⟩) 1 1) 1 [.int .i64 c, .int .i64 z] (w.alloc (.cells #[.int .i64 c, .int .i64 z] 29)) := Src.ofSlice _ Try.underlying22 ⟨w.heap.size, 0, none⟩ 1 1 [.int .i64 c, .int .i64 z] rfl (fun j u hj => by
      have e : (⟨w.heap.size, 0, none⟩ : Addr).add j = ⟨w.heap.size, j, none⟩ := by rw [Addr.add_mid]; simp
      rw [e, Ux.cell_new]
      simpa using hj) (fun u hu => by
        rcases List.mem_cons.1 hu with rfl | hu
        · rfl
        · rw [List.mem_singleton.1 hu]; rfl)
  have key := fun ty => Ux.run_app (P := Try.prog) (w.alloc (.cells #[.int .i64 c, .int .i64 z] 29)) 22 ty 29 i0 (.agg #[.int .i64 0, .int .i64 0]) 2 16 Try.underlying22 hi0 hz0 hz1 hz2 rfl (by omega) v n xs (Ux.own_touch h ta0 (fun _ _ h => h)) _ 1 [.int .i64 c, .int .i64 z] src (by simp only [maxLen]; omega) (by omega)
  obtain ⟨r, w', hr, ho, ht, hbk, _⟩ := key 22
  refine ⟨r, w', fun ty => hr, ho, ta.trans ht (fun _ _ h => h), hbk.imp id fun ⟨g, h1, h2⟩ => ⟨g, h1, by have := ta.size; omega⟩⟩

/-- a row of pairs of the call's own, cut at its end -/
def PrsRow (base : Nat) (w : World) (v : Value) (l : List Pr) : Prop :=
  (v = .slice none 0 0 ∧ l = []) ∨ ∃ g cur, v = .slice (some ⟨g, 0, none⟩) l.length l.length ∧ base ≤ g ∧ w.heap[g]? = some (.cells cur 29 (0, 0)) ∧ l.length * 2 ≤ cur.size ∧ cur.toList.take (l.length * 2) = prCells l
theorem PrsRow.at {base : Nat} {w : World} {v : Value} {l : List Pr} (h : PrsRow base w v l) : PrsAt w v l := by
  rcases h with ⟨rfl, rfl⟩ | ⟨g, cur, rfl, _, hh, _, ht⟩
  · exact ⟨none, 0, rfl, fun i p hp => by simp at hp⟩
  · refine ⟨_, _, rfl, fun i p hp => ⟨g, 0, rfl, ?_⟩⟩
    obtain ⟨h1, h2⟩ := prCells_get hp
    rw [Nat.zero_add]
    exact ⟨Ux.row_cell hh ht _ _ h1, Ux.row_cell hh ht _ _ h2⟩

theorem clip21_none (w : World) : Calls Try.prog 21 #[.slice none 0 0] w fun e w' => e = .returned (.slice none 0 0) ∧ w' = w := by
  go_enter Try.func21, Try.ntmps21
  go_wp2
  go_ret
  exact ⟨rfl, rfl⟩
theorem clip21 (g n c : Nat) (w : World) (hn : n ≤ c) (hc : c ≤ maxLen) : Calls Try.prog 21 #[.slice (some ⟨g, 0, none⟩) n c] w fun e w' => e = .returned (.slice (some ⟨g, 0, none⟩) n n) ∧ w' = w := by
  have hn' : (n : Int) ≤ c := by omega
  go_enter Try.func21, Try.ntmps21
  go_wp2
  go_ret
  exact ⟨rfl, rfl⟩

/-- the pairs of a block's first signs -/
def pre (f : Int → Int) (k : Int) (i : Nat) : List Pr := (List.range i).filterMap fun (j : Nat) => if f (64 * k + (j : Int)) = 0 then none else some (64 * k + (j : Int), f (64 * k + (j : Int)))
theorem pre_zero {f : Int → Int} {k : Int} {i : Nat} (h : f (64 * k + (i : Int)) = 0) : pre f k (i + 1) = pre f k i := by
  unfold pre
  rw [List.range_succ, List.filterMap_append]
  simp [h]
theorem pre_some {f : Int → Int} {k : Int} {i : Nat} (h : f (64 * k + (i : Int)) ≠ 0) : pre f k (i + 1) = pre f k i ++ [(64 * k + (i : Int), f (64 * k + (i : Int)))] := by
  unfold pre
  rw [List.range_succ, List.filterMap_append]
  simp [h]
theorem pre_length (f : Int → Int) (k : Int) : ∀ i, (pre f k i).length ≤ i
  | 0 => by simp [pre]
  | i + 1 => by
    have := pre_length f k i
    by_cases h : f (64 * k + (i : Int)) = 0
    · rw [pre_zero h]; omega
    · rw [pre_some h, List.length_append]; simp; omega
theorem pairsOf_take {ks : List Int} {f : Int → Int} {j : Nat} {k : Int} (h : ks[j]? = some k) : pairsOf (ks.take (j + 1)) f = pairsOf (ks.take j) f ++ pre f k 64 := by
  unfold pairsOf
  rw [List.take_add_one, h, List.flatMap_append]
  simp [pairsIn, pre]
theorem pairsOf_len (f : Int → Int) : ∀ ks : List Int, (pairsOf ks f).length ≤ 64 * ks.length
  | [] => by simp [pairsOf]
  | k :: ks => by
    have := pairsOf_len f ks
    have h2 := pre_length f k 64
    have e : pairsOf (k :: ks) f = pre f k 64 ++ pairsOf ks f := by simp [pairsOf, pairsIn, pre]
    rw [e, List.length_append, List.length_cons]
    omega
theorem prs_row {w : World} {v : Value} {l : List Pr} (h : w.ownsRow 0 29 2 v l.length (prCells l)) : ∃ (a : Option Addr) (c : Nat), v = .slice a l.length c := by
  rcases h.2 with ⟨hv, h0⟩ | ⟨g, cap, cur, hv, _⟩
  · exact ⟨none, 0, by rw [hv, h0]⟩
  · exact ⟨_, _, hv⟩

set_option maxHeartbeats 8000000 in
set_option maxRecDepth 100000 in
theorem pairs13 (t : Nat) (ks : List Int) (f : Int → Int) (w : World) (h : TrieAt w t ks f) (hv : ∀ c, -2147483648 ≤ f c ∧ f c < 2147483648) :
    Calls Try.prog 13 #[.pointer (some ⟨t, 0, none⟩)] w fun e w' => ∃ v, e = .returned v ∧ PrsRow w.heap.size w' v (pairsOf ks f) ∧ Ux.Touch (fun _ => False) w w' := by
  obtain ⟨bb, cp, am, G, c0, c1, hcell, hG, hG1, hG2, hsort, hrange, hlen⟩ := h
  have hnd : ks.Nodup := hsort.imp fun h => by omega
  have hm : ∀ x, x ∈ ks ↔ (Ux.intF G (.int .i64 x)).isSome = true := fun x => by
    show x ∈ ks ↔ (G x).isSome = true
    constructor
    · intro h
      obtain ⟨i, hi, _⟩ := hG1 x h
      rw [hi]; rfl
    · intro h
      by_cases hx : x ∈ ks
      · exact hx
      · rw [(hG2 x hx).1] at h; cases h
  have c18 := Lib.hid (sortedB18 hG hnd hm (by omega))
  obtain ⟨nb, hnb⟩ : ∃ n, (Ux.Trie.bls ks f).length = n := ⟨_, rfl⟩
  obtain ⟨n, hn⟩ : ∃ n, ks.length = n := ⟨_, rfl⟩
  have HH := Lib.hid (And.intro hcell (And.intro hG (And.intro hG1 (And.intro hsort (And.intro hrange (And.intro hnb (And.intro hn hv)))))))
  have j0 : (n : Int) ≤ 64 := by omega
  rw [hnb] at c0
  clear hcell hG hG1 hG2 hsort hrange hlen hnd hm hnb hn hv
  go_enter Try.func13, Try.ntmps13
  go_wp2_with (first
    | (go_at_call 20; refine (keys20 _ _).mono ?_; rintro e w' ⟨rfl, rfl⟩)
    | (go_at_call 18; refine c18.out.mono ?_; rintro e w1 ⟨vk, ks', rfl, hp9, hr9, row9, t9⟩
       obtain rfl : ks = ks' := (rising_unique hr9 HH.out.2.2.2.1 (fun x => hp9.mem_iff)).symm
       obtain ⟨kb, ak, ck, rfl, hkb, hck⟩ := keys_row row9
       have H9 := Lib.hid (And.intro t9 (And.intro hkb hck)); clear hp9 hr9 row9 t9 hkb hck; rw [HH.out.2.2.2.2.2.2.1]))
  obtain ⟨W1, hW1⟩ : ∃ W1 : World, W1 = w1 := ⟨_, rfl⟩
  subst hW1
  go_loopg [15, 3] n (fun g s15 s3 wr => ∃ j : Nat, s15 = .int .i64 j ∧ j + g = n ∧ Hid (wr.ownsRow 0 29 2 s3 (pairsOf (ks.take j) f).length (prCells (pairsOf (ks.take j) f)) ∧ (∀ b, s3.ownBlock = some b → w.heap.size ≤ b ∧ b ≠ kb) ∧ Ux.Touch (fun _ => False) w wr ∧ Ux.Touch (fun i => w.heap.size ≤ i ∧ i ≠ kb) W1 wr))
  case atStart => exact ⟨0, rfl, by omega, Lib.hid ⟨World.ownsRow_nil _ 0 29 2, fun b hb => (by cases hb), H9.out.1, Ux.Touch.refl _ _⟩⟩
  case round =>
    obtain ⟨j, rfl, hjg, HJ⟩ := hrel
    have p0 : (0 : Int) ≤ j := by omega
    obtain ⟨a3, c3, hs3⟩ := prs_row HJ.out.1
    obtain ⟨m3, hm3⟩ : ∃ m, (pairsOf (ks.take j) f).length = m := ⟨_, rfl⟩
    rw [hm3] at hs3
    subst hs3
    have HM := Lib.hid hm3
    clear hm3
    by_cases hlt : j < n
    · obtain ⟨g', rfl⟩ : ∃ g', gk = g' + 1 := ⟨gk - 1, by omega⟩
      have j1 : (j : Int) < n := by omega
      obtain ⟨hcell, hG, hG1, hsort, hrange, hnb, hn, hv⟩ := HH.out
      obtain ⟨k, hks⟩ : ∃ k, ks[j]? = some k := ⟨ks[j]'(by omega), List.getElem?_eq_getElem (by omega)⟩
      obtain ⟨hak, ckk⟩ := H9.out.2.2 j k hks
      subst hak
      have ckk := HJ.out.2.2.2.cell ckk (fun h => h.2 rfl)
      obtain ⟨r1, r2⟩ := hrange k (List.mem_of_getElem? hks)
      obtain ⟨i0, hi0, hb0⟩ := hG1 k (List.mem_of_getElem? hks)
      have hi : i0 < nb := by rw [← hnb]; exact (List.getElem?_eq_some_iff.1 hb0).1
      have hi' : (i0 : Int) < nb := by omega
      have e0 := HJ.out.2.2.1.cell c0 (fun f => f)
      have e1 := HJ.out.2.2.1.cell c1 (fun f => f)
      have TD := HJ.out.2.2.1.drew
      have hlk := (hG.touch TD (fun f => f)).look keyed3 Try.underlying45 (zero3 wr.drew) (keyI (c := k) (by omega) (by omega))
      have hlk' : (Instr.lookup 45 (.map (some am)) (.int .i64 k) false).run Try.prog wr.drew = .ok (.int .i64 i0) wr.drew := by
        rw [hlk]
        show Result.ok ((G k).getD (.int .i64 0)) wr.drew = _
        rw [hi0]
        rfl
      have hra : wr.drew.rangeAt bb (i0 * 64) ((blk f k).map (Value.int .i32)) := fun x v hx => by
        rw [List.getElem?_map] at hx
        cases hz : (blk f k)[x]? with
        | none => rw [hz] at hx; cases hx
        | some z =>
          rw [hz] at hx
          cases hx
          exact TD.cell (hcell _ _ (blCells_get bls_64 hb0 hz)) (fun f => f)
      obtain ⟨L, hL⟩ : ∃ L, (blk f k).map (Value.int .i32) = L := ⟨_, rfl⟩
      have hL64 : L.length = 64 := by rw [← hL, List.length_map, Ux.Trie.blk_length]
      have hLz : ∀ x, L[x]? = (blk f k)[x]?.map (Value.int .i32) := fun x => by rw [← hL, List.getElem?_map]
      rw [hL] at hra
      have HL := Lib.hid (And.intro hlk' (And.intro hra (And.intro hks (And.intro TD (And.intro hL64 hLz)))))
      clear hL hL64 hLz
      have hkbW : kb < W1.heap.size := block_lt_of_cell (H9.out.2.2 j k hks).2
      have D0 : wr.drew.cell? ⟨t, 0, none⟩ = some (.slice (some ⟨bb, 0, none⟩) nb cp) := by simpa using e0
      have D1 : wr.drew.cell? ⟨t, 1, none⟩ = some (.map (some am)) := by simpa using e1
      clear hcell hG hG1 hsort hrange hnb hn hv hks hi0 hb0 hlk hlk' hra TD hi
      go_upto_region 5 with (fail)
      refine Ux.wp_region_plan (fun _ w' => w'.cell? ⟨t, 0, none⟩ = some (.slice (some ⟨bb, 0, none⟩) nb cp) ∧ w'.cell? ⟨t, 1, none⟩ = some (.map (some am))) (.q [0, 1, 2, 4, 5, 6, 8, 12] (.h false [3, 7] (.e 9 true false (.q [10] (.e 11 true false (.line []))))))
        (by kernel_rfl) (by kernel_rfl) (by intro _ _ d _ _ h; cases d <;> exact h) ?hS ?_
      case hS => (intro c; cases c <;> (simp only [World.cell?_drew]; first | exact True.intro | (refine ⟨?_, ?_⟩ <;> assumption) | assumption | (repeat (first | assumption | (refine And.intro ?_ ?_)))))
      simp only [Ux.wpPlan, Ux.pickOps, Ux.keeps, List.getElem?_toArray, List.getElem?_cons_succ, List.getElem?_cons_zero]
      repeat (first
        | go_big_quiet_step (fail)
        | (with_reducible refine wpQuiet_nil ?_)
        | (refine Ux.quiet_held rfl ?_; apply Exists.intro; refine ⟨fun w' hS => ?_, ?_⟩; (focus ((try dsimp only at hS); go_simp; first | done | with_reducible rfl)); simp only [Act.put, List.setIfInBounds_toArray, List.set_cons_zero, List.set_cons_succ]))
      go_wp2_with (first
        | (at_lookup; refine Ux.wpList_look rfl _ _ 45 rfl rfl rfl HL.out.1 ?_)
        | (refine Ux.is_load 44 rfl ?_; refine wpList_load_mid rfl 44 _ rfl bb (i0 * 64) rfl L _ HL.out.2.1 Try.underlying44 rfl (by rw [HL.out.2.2.2.2.1]; exact size44) ?_))
      repeat (first
        | go_big_quiet_step (fail)
        | (with_reducible refine wpQuiet_nil ?_)
        | (refine Ux.quiet_held rfl ?_; apply Exists.intro; refine ⟨fun w' hS => ?_, ?_⟩; (focus ((try dsimp only at hS); go_simp; first | done | with_reducible rfl)); simp only [Act.put, List.setIfInBounds_toArray, List.set_cons_zero, List.set_cons_succ]))
      go_wp2_with (refine Ux.is_load 44 rfl ?_; refine wpList_load_mid rfl 44 _ rfl bb (i0 * 64) rfl L _ HL.out.2.1 Try.underlying44 rfl (by rw [HL.out.2.2.2.2.1]; exact size44) ?_)
      refine ⟨⟨D0, D1⟩, ?_⟩
      simp only [Act.put, List.setIfInBounds_toArray, List.set_cons_zero, List.set_cons_succ]
      go_wp2
      go_loopg [31, 3] 64 (fun g s31 s3 w2 => ∃ x : Nat, s31 = .int .i64 x ∧ x + g = 64 ∧ Hid (w2.ownsRow 0 29 2 s3 (pairsOf (ks.take j) f ++ pre f k x).length (prCells (pairsOf (ks.take j) f ++ pre f k x)) ∧ (∀ b, s3.ownBlock = some b → w.heap.size ≤ b ∧ b ≠ kb) ∧ Ux.Touch (fun _ => False) w w2 ∧ Ux.Touch (fun i => w.heap.size ≤ i ∧ i ≠ kb) W1 w2))
      case atStart =>
        refine ⟨0, rfl, rfl, Lib.hid ⟨?_, HJ.out.2.1, HL.out.2.2.2.1, HJ.out.2.2.2.drew⟩⟩
        have e : pairsOf (ks.take j) f ++ pre f k 0 = pairsOf (ks.take j) f := by simp [pre]
        rw [e]
        exact Ux.own_touch HJ.out.1 (Ux.Touch.drew (Ux.Touch.refl (fun _ => False) _)) (fun _ _ h => h)
      case round =>
        obtain ⟨x, rfl, hxg, HX⟩ := hrel
        have p1 : (0 : Int) ≤ x := by omega
        obtain ⟨a4, c4, hs4⟩ := prs_row HX.out.1
        obtain ⟨m4, hm4⟩ : ∃ m, (pairsOf (ks.take j) f ++ pre f k x).length = m := ⟨_, rfl⟩
        rw [hm4] at hs4
        subst hs4
        have HM4 := Lib.hid hm4
        clear hm4
        by_cases hx64 : x < 64
        · obtain ⟨g'', rfl⟩ : ∃ g', gk = g' + 1 := ⟨gk - 1, by omega⟩
          have j2 : (x : Int) < 64 := by omega
          obtain ⟨z, hz⟩ : ∃ z, f (64 * k + (x : Int)) = z := ⟨_, rfl⟩
          have hLx : L[x]? = some (.int .i32 z) := by rw [HL.out.2.2.2.2.2, Ux.Trie.blk_get f k hx64, hz]; rfl
          obtain ⟨hv1, hv2⟩ := HH.out.2.2.2.2.2.2.2 (64 * k + (x : Int))
          rw [hz] at hv1 hv2
          have HZ := Lib.hid hz
          clear hz
          by_cases hz0 : z = 0
          · subst hz0
            go_wp2_with (refine Ux.is_index 44 rfl ?_; refine Ux.wpList_index rfl 44 21 64 x _ _ rfl L.toArray (.int .i32 0) Try.underlying44 (Try.sizeOf21 _) (Try.isAgg21 _) rfl rfl hx64 (by simpa using hLx) ?_)
            go_roundg g''
            case measure => omega
            case rel => exact ⟨x + 1, rfl, by omega, Lib.hid (by rw [pre_zero HZ.out]; exact HX.out)⟩
          · have hzi : ¬ (z : Int) = 0 := hz0
            obtain ⟨r2, w3, run2, row2, t2, own2⟩ := app22 (.slice a4 m4 c4) m4 (prCells (pairsOf (ks.take j) f ++ pre f k x)) wr (by have := HX.out.1; rwa [HM4.out] at this) (by
              have e1 := pairsOf_len f (ks.take j)
              have e2 := pre_length f k x
              have e3 := HM4.out
              rw [List.length_append] at e3
              rw [List.length_take] at e1
              omega) (k * 64 + (x : Int)) z
            obtain ⟨g3, c3', cur3, rfl, _⟩ := Ux.own_pos row2 (by omega)
            have R2 := Lib.hid run2
            have HR2 := Lib.hid (And.intro row2 (And.intro t2 own2))
            clear run2 row2 t2 own2
            go_wp2_with (first
              | (refine Ux.is_index 44 rfl ?_; refine Ux.wpList_index rfl 44 21 64 x _ _ rfl L.toArray (.int .i32 z) Try.underlying44 (Try.sizeOf21 _) (Try.isAgg21 _) rfl rfl hx64 (by simpa using hLx) ?_)
              | (at_builtin; refine Ux.wpList_app (v1 := .slice a4 m4 c4) (x1 := .slice (some ⟨wr.heap.size, 0, none⟩) 1 1) rfl _ _ _ _ rfl rfl rfl (R2.out _) ?_))
            go_roundg g''
            case measure => omega
            case rel =>
              obtain ⟨row2, t2, own2⟩ := HR2.out
              have hz0' : f (64 * k + (x : Int)) ≠ 0 := by rw [HZ.out]; exact hz0
              refine ⟨x + 1, rfl, by omega, Lib.hid ⟨?_, ?_, HX.out.2.2.1.trans t2 (fun b hb h => by have := (HX.out.2.1 b h).1; omega), HX.out.2.2.2.trans t2 (fun b _ h => HX.out.2.1 b h)⟩⟩
              · rw [pre_some hz0', ← List.append_assoc, prCells_snoc, List.length_append, HM4.out, HZ.out, Int.mul_comm 64 k]
                exact row2
              · intro b hb
                rcases own2 with h | ⟨g, h, h'⟩
                · exact HX.out.2.1 b (by rw [← h]; exact hb)
                · rw [h] at hb
                  cases hb
                  have := HX.out.2.2.1.size
                  have := HX.out.2.2.2.size
                  exact ⟨by omega, by omega⟩
        · obtain rfl : x = 64 := by omega
          have q1 : ¬ ((64 : Nat) : Int) < 64 := by omega
          clear hx64
          go_wp2
          go_roundg g'
          case measure => omega
          case rel => exact ⟨j + 1, rfl, by omega, Lib.hid (by rw [pairsOf_take HL.out.2.2.1]; exact HX.out)⟩
    · obtain rfl : j = n := by omega
      have q1 : ¬ (j : Int) < j := by omega
      have hfull : ks.take j = ks := List.take_of_length_le (by have := HH.out.2.2.2.2.2.2.1; omega)
      obtain ⟨row, own, TW, _⟩ := HJ.out
      rw [hfull] at row
      have hm3 := HM.out
      rw [hfull] at hm3
      rw [hm3] at row
      rcases row.2 with ⟨hv0, h0⟩ | ⟨g, cap, cur, hv0, _, hh, hle, hmx, hsz, htk⟩
      · cases hv0
        have he : pairsOf ks f = [] := List.eq_nil_of_length_eq_zero hm3
        have HR := Lib.hid (And.intro he TW)
        clear hlt hfull row own TW hm3 HJ HM h0 he
        go_wp2_with (go_at_call 21; refine (clip21_none _).mono ?_; rintro e w' ⟨rfl, rfl⟩)
        go_ret
        exact ⟨_, rfl, .inl ⟨rfl, HR.out.1⟩, HR.out.2⟩
      · injection hv0 with ha hm' hc
        subst ha
        subst hc
        have HR := Lib.hid (And.intro hh (And.intro hle (And.intro hmx (And.intro hsz (And.intro htk (And.intro TW (And.intro (own g rfl).1 hm3)))))))
        have cl := Lib.hid (clip21 g m3 c3 wr hle hmx)
        clear hlt hfull row own TW hm3 HJ HM hh hsz htk hm' hle hmx
        go_wp2_with (go_at_call 21; refine cl.out.mono ?_; rintro e w' ⟨rfl, rfl⟩)
        go_ret
        obtain ⟨hh, hle, hmx, hsz, htk, TW, hg, hm3⟩ := HR.out
        exact ⟨_, rfl, .inr ⟨g, cur, by rw [hm3]; rfl, hg, hh, by rw [hm3, hsz]; omega, by rw [hm3]; exact htk⟩, TW⟩

end Go.Proofs.Ythkaifgepkfheaa
