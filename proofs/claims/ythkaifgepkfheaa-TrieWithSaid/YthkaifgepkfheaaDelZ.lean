/- PART OF THE PROOF THAT THIS CLAIM HOLDS OF THE GIVEN PROGRAM, FOR EVERY INPUT THAT THE STATEMENT NAMES. No condition besides the statement's own. -/
import Derived.Test.YthkaifgepkfheaaPairsZ
import Derived.Test.YthkaifgepkfheaaRows
import Derived.WalkKit
import Derived.Handy
import Derived.Laws.EntriesVeiled
import Derived.WalkSpells
import Derived.WalkLawsBesides
import Derived.BigQuiet
import Derived.Deep.QuietTactic
import Derived.Deep.Cut
import Derived.Deep.DeepCutAuto
import Derived.Lib.Overlaps
import Derived.Laws.Externs
import Derived.Lib.Hide
import Derived.Test.YthkaifgepkfheaaUxPlanAllZ
import Derived.Test.YthkaifgepkfheaaUxTreeAllZ
import Derived.Deep.LoopGhost
namespace Go.Proofs.Ythkaifgepkfheaa
open Go.RowKit
-- imports: YthkaifgepkfheaaPairs
open Ux.Trie (fnd Pr blk zero64 pairsOf)

/-- the closure of With: the same sign -/
theorem same23 (bc : Nat) (c pc pv : Int) (w : World) (hc : w.cell? ⟨bc, 0, none⟩ = some (.int .i64 c)) : Calls Try.prog 23 #[.agg #[.int .i64 pc, .int .i64 pv], .pointer (some ⟨bc, 0, none⟩)] w fun e w' => e = .returned (.bool (decide (pc = c))) ∧ Below w.heap.size w w' := by
  have hlt := block_lt_of_cell hc
  go_enter Try.func23, Try.ntmps23
  go_wp2
  go_ret
  refine ⟨?_, (Below.refl _ _).alloc (Nat.le_refl _) _⟩
  by_cases h : pc = c <;> simp [h]

def NoC (l : List Pr) (c : Int) : Prop := ∀ p ∈ l, p.1 ≠ c

set_option maxHeartbeats 2000000 in
theorem index24s (bc : Nat) (c : Int) (v : Value) (l : List Pr) (w : World) (h : PrsAt w v l) (hc : w.cell? ⟨bc, 0, none⟩ = some (.int .i64 c)) (hl : l.length ≤ 1152921504606846976) :
    Calls Try.prog 24 #[v, .func (.func 23) #[] #[.pointer (some ⟨bc, 0, none⟩)]] w fun e w' => ∃ k : Int, e = .returned (.int .i64 k) ∧
      ((k = -1 ∧ NoC l c) ∨ ∃ (i : Nat) (p : Pr), k = i ∧ l[i]? = some p ∧ p.1 = c) ∧ Ux.Touch (fun _ => False) w w' := by
  obtain ⟨a, cp, rfl, hcell⟩ := h
  obtain ⟨n, hn⟩ : ∃ n, l.length = n := ⟨_, rfl⟩
  rw [hn] at hl
  rw [hn]
  have HC := Lib.hid hcell
  have HR := Lib.hid hn
  have HB := Lib.hid hc
  have j0 : (n : Int) ≤ 1152921504606846976 := by omega
  clear hcell hn hl hc
  go_enter Try.func24, Try.ntmps24
  go_wp2
  go_loopg [8] n (fun g s8 wr => ∃ i : Nat, s8 = .int .i64 i ∧ i + g = n ∧ Hid (∀ p ∈ l.take i, p.1 ≠ c) ∧ Hid (Ux.Touch (fun _ => False) w wr))
  case atStart => exact ⟨0, rfl, by omega, Lib.hid (by simp), Lib.hid (Ux.Touch.refl _ _)⟩
  case round =>
    obtain ⟨i, rfl, hig, HF, HT⟩ := hrel
    have p0 : (0 : Int) ≤ i := by omega
    by_cases hlt : i < n
    · obtain ⟨g', rfl⟩ : ∃ g', gk = g' + 1 := ⟨gk - 1, by omega⟩
      obtain ⟨p, hp⟩ : ∃ p, l[i]? = some p := ⟨l[i]'(by have := HR.out; omega), List.getElem?_eq_getElem (by have := HR.out; omega)⟩
      obtain ⟨b, f, ha, c1, c2⟩ := HC.out i p hp
      subst ha
      have c1 := HT.out.cell c1 (fun f => f)
      have c2 := HT.out.cell c2 (fun f => f)
      have j1 : (i : Int) < n := by omega
      have HP := Lib.hid hp
      obtain ⟨pc, pv⟩ := p
      obtain ⟨m, hm⟩ : ∃ m, decide (pc = c) = m := ⟨_, rfl⟩
      have cB : ∀ w', Ux.Touch (fun _ => False) w w' → Calls Try.prog 23 #[.agg #[.int .i64 pc, .int .i64 pv], .pointer (some ⟨bc, 0, none⟩)] w' fun e w'' => e = .returned (.bool m) ∧ Below w'.heap.size w' w'' := fun w' ht => by
        have := same23 bc c pc pv w' (ht.cell HB.out (fun f => f))
        rwa [hm] at this
      have CB := Lib.hid cB
      have HM := Lib.hid hm
      clear hp cB hm
      cases m
      · go_wp2_with (go_at_call 23; refine (CB.out _ HT.out).mono ?_; rintro e w' ⟨rfl, hb⟩)
        go_roundg g'
        case measure => omega
        case rel =>
          refine ⟨i + 1, rfl, by omega, Lib.hid fun p hp => ?_, Lib.hid (HT.out.trans (Ux.Touch.of_below hb) (fun _ _ h => h))⟩
          rw [take_snoc HP.out, List.mem_append] at hp
          rcases hp with hp | hp
          · exact HF.out p hp
          · rw [List.mem_singleton] at hp
            subst hp
            exact of_decide_eq_false HM.out
      · go_wp2_with (go_at_call 23; refine (CB.out _ HT.out).mono ?_; rintro e w' ⟨rfl, hb⟩)
        go_ret
        exact ⟨_, rfl, .inr ⟨i, (pc, pv), rfl, HP.out, of_decide_eq_true HM.out⟩, HT.out.trans (Ux.Touch.of_below hb) (fun _ _ h => h)⟩
    · have q1 : ¬ (i : Int) < n := by omega
      have hall : ∀ p ∈ l, p.1 ≠ c := by
        have := HF.out
        rwa [List.take_of_length_le (by have := HR.out; omega)] at this
      have HA := Lib.hid hall
      clear hlt hall
      go_wp2
      go_ret
      exact ⟨_, rfl, .inl ⟨rfl, HA.out⟩, HT.out⟩

/-! ### taking one pair out of a row -/
theorem prCells_set : ∀ (l : List Pr) (i : Nat) (p : Pr), ((prCells l).set (i * 2) (.int .i64 p.1)).set (i * 2 + 1) (.int .i64 p.2) = prCells (l.set i p)
  | [], i, p => by simp [prCells]
  | q :: l, 0, p => rfl
  | q :: l, i + 1, p => by
    have := prCells_set l i p
    have e1 : (i + 1) * 2 = i * 2 + 1 + 1 := by omega
    rw [e1]
    show .int .i64 q.1 :: .int .i64 q.2 :: ((prCells l).set (i * 2) _).set (i * 2 + 1) _ = .int .i64 q.1 :: .int .i64 q.2 :: prCells (l.set i p)
    rw [this]
theorem prCells_take : ∀ (l : List Pr) (k : Nat), (prCells l).take (k * 2) = prCells (l.take k)
  | [], k => by simp [prCells]
  | q :: l, 0 => by simp [prCells]
  | q :: l, k + 1 => by
    have := prCells_take l k
    have e1 : (k + 1) * 2 = k * 2 + 1 + 1 := by omega
    rw [e1]
    show .int .i64 q.1 :: .int .i64 q.2 :: (prCells l).take (k * 2) = .int .i64 q.1 :: .int .i64 q.2 :: prCells (l.take k)
    rw [this]
/-- the row while those behind it move up -/
def mid (l : List Pr) (i0 j : Nat) : List Pr := l.take i0 ++ ((l.drop (i0 + 1)).take (j - 1 - i0) ++ l.drop (j - 1))
theorem mid_start {l : List Pr} {i0 : Nat} : mid l i0 (i0 + 1) = l := by
  unfold mid
  have e : i0 + 1 - 1 = i0 := by omega
  have e2 : i0 + 1 - 1 - i0 = 0 := by omega
  rw [e, Nat.sub_self, List.take_zero, List.nil_append, List.take_append_drop]
theorem mid_length {l : List Pr} {i0 j : Nat} (hi : i0 < j) (hj : j ≤ l.length) : (mid l i0 j).length = l.length := by
  unfold mid
  simp only [List.length_append, List.length_take, List.length_drop]
  omega
theorem mid_get {l : List Pr} {i0 j : Nat} (hi : i0 < j) (hj : j ≤ l.length) (x : Nat) : (mid l i0 j)[x]? = if x < i0 then l[x]? else if x < j - 1 then l[x + 1]? else l[x]? := by
  unfold mid
  by_cases h1 : x < i0
  · rw [if_pos h1, List.getElem?_append_left (by rw [List.length_take]; omega), List.getElem?_take, if_pos h1]
  · rw [if_neg h1, List.getElem?_append_right (by rw [List.length_take]; omega), List.length_take, Nat.min_eq_left (by omega)]
    by_cases h2 : x < j - 1
    · rw [if_pos h2, List.getElem?_append_left (by rw [List.length_take, List.length_drop]; omega), List.getElem?_take, if_pos (by omega), List.getElem?_drop]
      congr 1
      omega
    · rw [if_neg h2, List.getElem?_append_right (by rw [List.length_take, List.length_drop]; omega), List.getElem?_drop, List.length_take, List.length_drop, Nat.min_eq_left (by omega)]
      congr 1
      omega
theorem mid_step {l : List Pr} {i0 j : Nat} {p : Pr} (hi : i0 < j) (hp : l[j]? = some p) : (mid l i0 j).set (j - 1) p = mid l i0 (j + 1) := by
  have hj : j < l.length := (List.getElem?_eq_some_iff.1 hp).1
  apply List.ext_getElem?
  intro x
  rw [List.getElem?_set, mid_get hi (by omega), mid_get (by omega) (by omega), mid_length hi (by omega)]
  by_cases h1 : j - 1 = x
  · subst h1
    rw [if_pos rfl, if_pos (by omega), if_neg (by omega), if_pos (by omega)]
    have : j - 1 + 1 = j := by omega
    rw [this, hp]
  · rw [if_neg h1]
    by_cases h2 : x < i0
    · rw [if_pos h2, if_pos h2]
    · rw [if_neg h2, if_neg h2]
      by_cases h3 : x < j - 1
      · rw [if_pos h3, if_pos (by omega)]
      · rw [if_neg h3, if_neg (by omega)]
theorem mid_step' {l : List Pr} {i0 k : Nat} {p : Pr} (hi : i0 < k + 1) (hp : l[k + 1]? = some p) : (mid l i0 (k + 1)).set k p = mid l i0 (k + 1 + 1) := mid_step (j := k + 1) hi hp
theorem mid_end {l : List Pr} {i0 : Nat} {p : Pr} (hp : l[i0]? = some p) (ha : Ux.Trie.apart l) : (mid l i0 l.length).take (l.length - 1) = l.filter fun q => decide (q.1 ≠ p.1) := by
  obtain ⟨hi, rfl⟩ := List.getElem?_eq_some_iff.1 hp
  have e1 : (mid l i0 l.length).take (l.length - 1) = l.take i0 ++ l.drop (i0 + 1) := by
    apply List.ext_getElem?
    intro x
    rw [List.getElem?_take, mid_get hi (Nat.le_refl _)]
    by_cases h1 : x < i0
    · rw [if_pos (by omega), if_pos h1, List.getElem?_append_left (by rw [List.length_take]; omega), List.getElem?_take, if_pos h1]
    · rw [if_neg h1, List.getElem?_append_right (by rw [List.length_take]; omega), List.getElem?_drop, List.length_take, Nat.min_eq_left (by omega)]
      by_cases h2 : x < l.length - 1
      · rw [if_pos h2, if_pos h2]
        congr 1
        omega
      · rw [if_neg h2, List.getElem?_eq_none (by omega)]
  rw [e1]
  have e2 : l.filter (fun q => decide (q.1 ≠ l[i0].1)) = (l.take i0 ++ l[i0] :: l.drop (i0 + 1)).filter (fun q => decide (q.1 ≠ l[i0].1)) := by
    rw [← List.drop_eq_getElem_cons hi, List.take_append_drop]
  have ha' := ha
  unfold Ux.Trie.apart at ha'
  rw [← List.take_append_drop i0 l, List.drop_eq_getElem_cons hi, List.pairwise_append] at ha'
  obtain ⟨_, h2, h3⟩ := ha'
  rw [e2, List.filter_append, List.filter_cons_of_neg (by simp)]
  congr 1
  · exact (List.filter_eq_self.2 fun q hq => by simpa using h3 q hq _ List.mem_cons_self).symm
  · exact (List.filter_eq_self.2 fun q hq => by
      have := (List.pairwise_cons.1 h2).1 q hq
      simpa [ne_comm] using this).symm
theorem filter_none {l : List Pr} {c : Int} (h : ∀ p ∈ l, p.1 ≠ c) : l.filter (fun q => decide (q.1 ≠ c)) = l := List.filter_eq_self.2 fun q hq => by simpa using h q hq

def DelRow (base : Nat) (w : World) (v : Value) (l : List Pr) : Prop :=
  (v = .slice none 0 0 ∧ l = []) ∨ ∃ g cap cur, v = .slice (some ⟨g, 0, none⟩) l.length cap ∧ base ≤ g ∧ w.heap[g]? = some (.cells cur 29 (0, 0)) ∧ l.length ≤ cap ∧ cap * 2 ≤ cur.size ∧ cap ≤ 1000000 ∧ cur.toList.take (l.length * 2) = prCells l
theorem zero29 : ∀ w, (zeroValue 29).run Try.prog w = .ok (.agg #[.int .i64 0, .int .i64 0]) w := (zero_of_info (P := Try.prog) (t := 29) (n := 2) (by kernel_rfl)).1

set_option maxHeartbeats 4000000 in
set_option maxRecDepth 100000 in
theorem delete22 (base bc : Nat) (c : Int) (v : Value) (l : List Pr) (w : World) (h : PrsRow base w v l) (ha : Ux.Trie.apart l) (hc : w.cell? ⟨bc, 0, none⟩ = some (.int .i64 c)) (hbc : bc < base) (hl : l.length ≤ 1000000) :
    Calls Try.prog 22 #[v, .func (.func 23) #[] #[.pointer (some ⟨bc, 0, none⟩)]] w fun e w' => ∃ v', e = .returned v' ∧ DelRow base w' v' (l.filter fun q => decide (q.1 ≠ c)) ∧ Ux.Touch (fun b => base ≤ b) w w' := by
  have IX := Lib.hid (index24s bc c v l w h.at hc (by omega))
  obtain ⟨F, hF⟩ : ∃ F, l.filter (fun q => decide (q.1 ≠ c)) = F := ⟨_, rfl⟩
  rw [hF]
  have HF := Lib.hid hF
  clear hF
  rcases h with ⟨rfl, rfl⟩ | ⟨g, cur0, rfl, hg, hh, hsz, htk⟩
  · go_enter Try.func22, Try.ntmps22
    go_upto_region 2 with (go_at_call 24; refine IX.out.mono ?_; rintro e w1 ⟨k, rfl, hk, ht⟩; have HK := Lib.hid (And.intro hk ht); clear hk ht)
    rcases HK.out.1 with ⟨hk, _⟩ | ⟨i, p, _, hp, _⟩
    · subst hk
      go_wp2
      go_ret
      exact ⟨_, rfl, .inl ⟨rfl, HF.out.symm⟩, HK.out.2.mono (fun _ _ h => h.elim)⟩
    · simp at hp
  · obtain ⟨n, hn⟩ : ∃ n, l.length = n := ⟨_, rfl⟩
    rw [hn] at IX hsz htk hl
    rw [hn]
    have HH := Lib.hid (And.intro hg (And.intro hh (And.intro hsz (And.intro htk (And.intro hn (And.intro ha (And.intro hc hbc)))))))
    have j0 : (n : Int) ≤ 1000000 := by omega
    clear hg hh hsz htk hn ha hc hbc hl
    go_enter Try.func22, Try.ntmps22
    go_upto_region 2 with (go_at_call 24; refine IX.out.mono ?_; rintro e w1 ⟨k, rfl, hk, ht⟩; have HK := Lib.hid (And.intro hk ht); clear hk ht)
    rcases HK.out.1 with ⟨hk, hall⟩ | ⟨i0, p0, hk, hp0, hpc⟩
    · subst hk
      have HA := Lib.hid hall
      clear hall
      go_wp2
      go_ret
      have hFl : F = l := HF.out.symm.trans (filter_none HA.out)
      subst hFl
      refine ⟨_, rfl, .inr ⟨g, n, cur0, ?_, HH.out.1, HK.out.2.heap HH.out.2.1 (fun f => f), ?_, HH.out.2.2.1, by omega, ?_⟩, HK.out.2.mono (fun _ _ h => h.elim)⟩
      · rw [HH.out.2.2.2.2.1]; rfl
      · rw [HH.out.2.2.2.2.1]; exact Nat.le_refl _
      · rw [HH.out.2.2.2.2.1]; exact HH.out.2.2.2.1
    · subst hk
      have hi0 : i0 < n := by rw [← HH.out.2.2.2.2.1]; exact (List.getElem?_eq_some_iff.1 hp0).1
      have hi0' : (i0 : Int) < n := by omega
      have HP0 := Lib.hid (And.intro hp0 hpc)
      clear hp0 hpc
      go_wp2
      go_loopg [6, 5] (n - i0 - 1) (fun g' s6 s5 wr => ∃ k : Nat, s6 = .int .i64 ((k : Int) + 1) ∧ s5 = .int .i64 k ∧ i0 ≤ k ∧ k + 1 + g' = n ∧ Hid ((∃ cur, wr.heap[g]? = some (.cells cur 29 (0, 0)) ∧ cur.size = cur0.size ∧ cur.toList.take (n * 2) = prCells (mid l i0 (k + 1))) ∧ Ux.Touch (fun b => b = g) w wr))
      case atStart =>
        refine ⟨i0, rfl, rfl, Nat.le_refl _, by omega, Lib.hid ⟨⟨cur0, HK.out.2.heap HH.out.2.1 (fun f => f), rfl, ?_⟩, HK.out.2.mono (fun _ _ h => h.elim)⟩⟩
        rw [mid_start]; exact HH.out.2.2.2.1
      case round =>
        obtain ⟨k, rfl, rfl, hik, hkg, HX⟩ := hrel
        have p0 : (0 : Int) ≤ k := by omega
        obtain ⟨⟨cur, hblk, hsize, htake⟩, hT⟩ := HX.out
        obtain ⟨hg, hh, hsz, htk, hn, ha, hc, hbc⟩ := HH.out
        by_cases hlt : k + 1 < n
        · obtain ⟨g', rfl⟩ : ∃ g', gk = g' + 1 := ⟨gk - 1, by omega⟩
          have j1 : (k : Int) + 1 < n := by omega
          obtain ⟨p, hp⟩ : ∃ p, l[k + 1]? = some p := ⟨l[k + 1]'(by omega), List.getElem?_eq_getElem (by omega)⟩
          have hml : (mid l i0 (k + 1)).length = n := by rw [mid_length (by omega) (by omega), hn]
          have hmp : (mid l i0 (k + 1))[k + 1]? = some p := by rw [mid_get (by omega) (by omega), if_neg (by omega), if_neg (by omega), hp]
          obtain ⟨q, hq⟩ : ∃ q, (mid l i0 (k + 1))[k]? = some q := ⟨(mid l i0 (k + 1))[k]'(by omega), List.getElem?_eq_getElem (by omega)⟩
          obtain ⟨m1, m2⟩ := prCells_get hmp
          obtain ⟨o1, o2⟩ := prCells_get hq
          have c1 := Ux.row_cell hblk htake _ _ m1
          have c2 := Ux.row_cell hblk htake _ _ m2
          have hne : p.1 ≠ c := by
            intro e
            obtain ⟨hx, e1⟩ := List.getElem?_eq_some_iff.1 hp
            obtain ⟨hy, e2⟩ := List.getElem?_eq_some_iff.1 HP0.out.1
            have := List.pairwise_iff_getElem.1 ha i0 (k + 1) hy hx (by omega)
            rw [e1, e2] at this
            exact this (HP0.out.2.trans e.symm)
          obtain ⟨pc, pv⟩ := p
          dsimp only at c1 c2 hne
          have hgl : g < wr.heap.size := Ux.lt_of_heap hblk
          have hbl := block_lt_of_cell hc
          have hcw : (wr.alloc (.cells #[.int .i64 pc, .int .i64 pv] 29)).cell? ⟨bc, 0, none⟩ = some (.int .i64 c) := by
            have := hT.cell hc (by show ¬ bc = g; omega)
            rw [World.cell?_alloc_lt _ _ _ (block_lt_of_cell this)]
            exact this
          have CB := Lib.hid (same23 bc c pc pv _ hcw)
          rw [decide_eq_false hne] at CB
          have HQ := Lib.hid (And.intro hp (And.intro o1 (And.intro o2 (And.intro hblk (And.intro hsize (And.intro htake hT))))))
          clear hcw hne hp hmp hq hml m1 m2 o1 o2 hblk hsize htake hT hg hh hsz htk hn ha hc hbc hbl
          go_wp2_with (go_at_call 23; refine CB.out.mono ?_; rintro e w2 ⟨rfl, hb⟩; have tb : Ux.Touch (fun _ => False) (wr.alloc (.cells #[.int .i64 pc, .int .i64 pv] 29)) w2 := Ux.Touch.of_below hb; have d1 := tb.cell (show (wr.alloc (.cells #[.int .i64 pc, .int .i64 pv] 29)).cell? ⟨wr.heap.size, 0, none⟩ = some (.int .i64 pc) by rw [Ux.cell_new]; rfl) (fun f => f); have d2 := tb.cell (show (wr.alloc (.cells #[.int .i64 pc, .int .i64 pv] 29)).cell? ⟨wr.heap.size, 1, none⟩ = some (.int .i64 pv) by rw [Ux.cell_new]; rfl) (fun f => f); have ta : Ux.Touch (fun _ => False) wr w2 := ((Ux.Touch.refl (fun _ => False) wr).alloc _).trans tb (fun _ _ h => h); have hb2 := ta.heap HQ.out.2.2.2.1 (fun f => f); have x1 := Ux.row_cell hb2 HQ.out.2.2.2.2.2.1 _ _ HQ.out.2.1; have x2 := Ux.row_cell hb2 HQ.out.2.2.2.2.2.1 _ _ HQ.out.2.2.1; have fr : ∀ j, w2.frozen? ⟨g, j, none⟩ = false := fun j => frozen_of_row w2 g j _ 29 hb2; have HB := Lib.hid (And.intro ta hb2); clear hb tb ta hb2)
          go_roundg g'
          case measure => omega
          case rel =>
            obtain ⟨hp, o1, o2, hblk, hsize, htake, hT⟩ := HQ.out
            obtain ⟨hg, hh, hsz, htk, hn, ha, hc, hbc⟩ := HH.out
            obtain ⟨ta, hb2⟩ := HB.out
            refine ⟨k + 1, by simp, by simp, by omega, by omega, Lib.hid ⟨⟨(cur.setIfInBounds (k * 2) (.int .i64 pc)).setIfInBounds (k * 2 + 1) (.int .i64 pv), ?_, by simp [hsize], ?_⟩, ((hT.trans ta (fun _ _ h => h.elim)).setCell (fun _ => rfl) _).setCell (fun _ => rfl) _⟩⟩
            · exact heap_setCell_same _ g _ _ 29 _ (heap_setCell_same _ g _ _ 29 _ hb2)
            · simp only [Array.toList_setIfInBounds]
              have hps := prCells_set (mid l i0 (k + 1)) k (pc, pv)
              simp only at hps
              rw [List.take_set, List.take_set, htake, hps, mid_step' (by omega) hp]
        · have hkn : n = k + 1 := by omega
          subst hkn
          have q1 : ¬ (k : Int) + 1 < ((k + 1 : Nat) : Int) := by omega
          have hcl := Ux.run_clear_one (P := Try.prog) wr 22 29 0 #[.int .i64 0, .int .i64 0] Try.underlying22 zero29 (fun v hv => by
            rcases List.mem_cons.1 hv with rfl | hv
            · rfl
            · rw [List.mem_singleton.1 hv]; rfl) g (k * 2) 1 cur 29 hblk (by simp; omega)
          obtain ⟨w9, hw9⟩ : ∃ w9, wr.setRow g (cur.toList.take (k * 2) ++ #[Value.int .i64 0, Value.int .i64 0].toList ++ cur.toList.drop (k * 2 + #[Value.int .i64 0, Value.int .i64 0].size)).toArray = w9 := ⟨_, rfl⟩
          rw [hw9] at hcl
          have hb9 : w9.heap[g]? = some (.cells (cur.toList.take (k * 2) ++ #[Value.int .i64 0, Value.int .i64 0].toList ++ cur.toList.drop (k * 2 + #[Value.int .i64 0, Value.int .i64 0].size)).toArray 29 (0, 0)) := by
            rw [← hw9]; exact setRow_heap wr g cur _ 29 _ hblk
          have ht9 : Ux.Touch (fun b => b = g) wr w9 := by rw [← hw9]; exact (Ux.Touch.refl (fun b => b = g) wr).setRow (fun _ => rfl) _
          have hFm : F = (mid l i0 (k + 1)).take k := by
            have := mid_end HP0.out.1 ha
            rw [hn] at this
            rw [← HF.out, ← HP0.out.2]
            simpa using this.symm
          have hFl : F.length = k := by rw [hFm, List.length_take, mid_length (by omega) (by omega), hn]; omega
          have htk9 : (cur.toList.take (k * 2) ++ #[Value.int .i64 0, Value.int .i64 0].toList ++ cur.toList.drop (k * 2 + #[Value.int .i64 0, Value.int .i64 0].size)).take (k * 2) = prCells F := by
            have h1 : (cur.toList.take (k * 2)).length = k * 2 := by rw [List.length_take, Array.length_toList]; omega
            rw [List.append_assoc, List.take_append_of_le_length (by omega), List.take_of_length_le (by omega), hFm, ← prCells_take, ← htake, List.take_take, Nat.min_eq_left (by omega)]
          have hlen9 : (cur.toList.take (k * 2) ++ #[Value.int .i64 0, Value.int .i64 0].toList ++ cur.toList.drop (k * 2 + #[Value.int .i64 0, Value.int .i64 0].size)).length = cur.size := by
            simp
            omega
          have HL := Lib.hid (And.intro hb9 (And.intro (hT.trans ht9 (fun _ _ h => h)) (And.intro hFl (And.intro htk9 (And.intro hlen9 (And.intro hg hsz))))))
          clear hblk htake hT hg hh hsz htk hn ha hc hbc hlt hw9 hb9 ht9 hFm hFl htk9 hlen9
          go_wp2
          go_ret
          obtain ⟨hb9, ht, hFl, htk9, hlen9, hg, hsz⟩ := HL.out
          refine ⟨_, rfl, .inr ⟨g, k + 1, _, ?_, hg, hb9, by omega, ?_, by omega, ?_⟩, ht.mono (fun _ _ h => by rw [h]; exact hg)⟩
          · rw [hFl]; rfl
          · rw [List.size_toArray, hlen9]; omega
          · rw [hFl]; exact htk9

end Go.Proofs.Ythkaifgepkfheaa
