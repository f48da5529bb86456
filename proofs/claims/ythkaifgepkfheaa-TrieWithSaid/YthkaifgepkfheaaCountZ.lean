/- PART OF THE PROOF THAT THIS CLAIM HOLDS OF THE GIVEN PROGRAM, FOR EVERY INPUT THAT THE STATEMENT NAMES. No condition besides the statement's own. -/
import Derived.Test.YthkaifgepkfheaaGetZ
import Derived.Test.YthkaifgepkfheaaRows
import Derived.WalkKit
import Derived.Handy
import Derived.Laws.EntriesVeiled
import Derived.WalkSpells
import Derived.WalkLawsBesides
import Derived.BigQuiet
import Derived.Deep.QuietTactic
import Derived.Deep.Cut
import Derived.Deep.DeepCutAuto
import Derived.Lib.Overlaps
import Derived.Laws.Externs
import Derived.Lib.Hide
import Derived.Test.YthkaifgepkfheaaUxPlanAllZ
import Derived.Test.YthkaifgepkfheaaUxTreeAllZ
import Derived.Deep.LoopGhost
namespace Go.Proofs.Ythkaifgepkfheaa
open Go.RowKit
-- imports: YthkaifgepkfheaaGet
open Ux.Trie (fnd Pr blk zero64 ats addB addAll)

theorem ats_step {l : List Pr} {i : Nat} {p : Pr} (h : l[i]? = some p) : ats (l.take (i + 1)) = if p.2 = 0 then ats (l.take i) else addB (ats (l.take i)) (p.1 / 64) := by
  unfold ats
  rw [take_snoc h, List.foldl_append]
  rfl
theorem ints_row {w : World} {v : Value} {n : Nat} {ks : List Int} (h : w.ownsRow 0 3 1 v n (ks.map (Value.int .i64))) (hn : ks.length = n) : ∃ (gk : Nat) (ak : Option Addr) (ck : Nat), v = .slice ak n ck ∧
    (∀ g, v.ownBlock = some g → ak = some ⟨g, 0, none⟩) ∧ ∀ (j : Nat) (x : Int), ks[j]? = some x → ak = some ⟨gk, 0, none⟩ ∧ w.cell? ⟨gk, j, none⟩ = some (.int .i64 x) := by
  rcases h.2 with ⟨hv, h0⟩ | ⟨g, cap, cur, hv, hb, hh, _, _, _, ht⟩
  · subst hv
    subst h0
    refine ⟨0, none, 0, rfl, (fun g hg => by cases hg), fun j x hj => ?_⟩
    have : ks = [] := List.eq_nil_of_length_eq_zero (by omega)
    subst this
    simp at hj
  · subst hv
    refine ⟨g, _, cap, rfl, (fun g' hg => by simp only [Value.ownBlock, Option.map_some, Option.some.injEq] at hg; rw [hg]), fun j x hj => ⟨rfl, ?_⟩⟩
    exact Ux.row_cell (xs := ks.map (Value.int .i64)) hh (by simpa using ht) j _ (by rw [List.getElem?_map, hj]; rfl)

theorem ats_length (l : List Pr) : (ats l).length ≤ l.length := by
  have key : ∀ (l : List Pr) (a : List Int), (l.foldl (fun at_ p => if p.2 = 0 then at_ else addB at_ (p.1 / 64)) a).length ≤ a.length + l.length := by
    intro l
    induction l with
    | nil => intro a; simp
    | cons p l ih =>
      intro a
      rw [List.foldl_cons]
      refine Nat.le_trans (ih _) ?_
      split
      · simp only [List.length_cons]; omega
      · unfold addB
        split
        · simp only [List.length_cons]; omega
        · simp only [List.length_cons, List.length_append, List.length_nil]; omega
  simpa [ats] using key l []
theorem ats_range {l : List Pr} (h : ∀ p ∈ l, Ux.Trie.may p = true) {k : Int} (hk : k ∈ ats l) : 0 ≤ k ∧ k ≤ 17412 := by
  obtain ⟨p, hp, _, rfl⟩ := (Ux.Trie.mem_ats l k).1 hk
  exact key_range h ((keys0_mem l _).2 (List.mem_map.2 ⟨p, hp, rfl⟩))
theorem blk_eq_iff {f : Int → Int} {a b : Int} : blk f a = blk f b ↔ ∀ u : Nat, u < 64 → f (64 * a + (u : Int)) = f (64 * b + (u : Int)) := by
  constructor
  · intro h u hu
    have h1 := Ux.Trie.blk_get f a hu
    rw [h, Ux.Trie.blk_get f b hu] at h1
    exact (Option.some.inj h1).symm
  · intro h
    apply List.ext_getElem?
    intro u
    by_cases hu : u < 64
    · rw [Ux.Trie.blk_get f a hu, Ux.Trie.blk_get f b hu, h u hu]
    · rw [List.getElem?_eq_none (by rw [Ux.Trie.blk_length]; omega), List.getElem?_eq_none (by rw [Ux.Trie.blk_length]; omega)]
theorem mem_take_step {A : List Int} {j : Nat} {x : Int} (h : A[j]? = some x) (k : Int) : (k ∈ A.take (j + 1)) ↔ (k ∈ A.take j ∨ x = k) := by
  rw [List.take_add_one, h]
  simp [eq_comm]
theorem info3 : (Try.prog.info? 3).map (fun i => (i.zero, i.size, i.bytes)) = some (some (.int .i64 0), 1, 8) := by kernel_rfl
/-- append of one number -/
theorem app50 (v : Value) (n : Nat) (xs : List Value) (w : World) (h : w.ownsRow 0 3 1 v n xs) (hn : n ≤ 1000000) (k : Int) :
    ∃ r w', (∀ ty, (Builtin.append_ #[50, 50] ty #[v, .slice (some ⟨w.heap.size, 0, none⟩) 1 1]).run Try.prog (w.alloc (.cells #[.int .i64 k] 3)) = .ok r w') ∧ w'.ownsRow 0 3 1 r (n + 1) (xs ++ [.int .i64 k]) ∧ Ux.Touch (fun b => v.ownBlock = some b) w w' ∧ (r.ownBlock = v.ownBlock ∨ ∃ g, r.ownBlock = some g ∧ w.heap.size ≤ g) := by
  obtain ⟨i0, hi0, hz0, hz1, hz2⟩ := info_parts info3
  have ta : Ux.Touch (fun b => v.ownBlock = some b) w (w.alloc (.cells #[.int .i64 k] 3)) := (Ux.Touch.refl _ w).alloc _
  have ta0 : Ux.Touch (fun _ => False) w (w.alloc (.cells #[.int .i64 k] 3)) := (Ux.Touch.refl _ w).alloc _
  have src : Src Try.prog 1 50 (.slice (some ⟨w.heap.size, 0, none⟩) 1 1) 1 [.int .i64 k] (w.alloc (.cells #[.int .i64 k] 3)) := Src.ofSlice _ Try.underlying50 ⟨w.heap.size, 0, none⟩ 1 1 [.int .i64 k] rfl (fun j u hj => by
      have e : (⟨w.heap.size, 0, none⟩ : Addr).add j = ⟨w.heap.size, j, none⟩ := by rw [Addr.add_mid]; simp
      rw [e, Ux.cell_new]
      simpa using hj) (fun u hu => by rw [List.mem_singleton.1 hu]; rfl)
  have key := fun ty => Ux.run_app (P := Try.prog) (w.alloc (.cells #[.int .i64 k] 3)) 50 ty 3 i0 (.int .i64 0) 1 8 Try.underlying50 hi0 hz0 hz1 hz2 rfl (by omega) v n xs (Ux.own_touch h ta0 (fun _ _ h => h)) _ 1 [.int .i64 k] src (by simp only [maxLen]; omega) (by omega)
  obtain ⟨r, w', hr, ho, ht, hbk, _⟩ := key 50
  refine ⟨r, w', fun ty => hr, ho, ta.trans ht (fun _ _ h => h), hbk.imp id fun ⟨g, h1, h2⟩ => ⟨g, h1, by have := ta.size; omega⟩⟩

set_option maxHeartbeats 4000000 in
theorem blocks12 (v : Value) (l : List Pr) (w : World) (h : PrsAt w v l) (hl : l.length ≤ 64) (hmay : ∀ p ∈ l, Ux.Trie.may p = true) :
    Calls Try.prog 12 #[v] w fun e w' => e = .returned (.int .i64 (1 + (addAll [] ((ats l).map (blk (fnd l)))).length)) ∧ Ux.Touch (fun _ => False) w w' := by
  have H0 := Lib.hid h
  obtain ⟨a, cp, rfl, hcell⟩ := h
  obtain ⟨n, hn⟩ : ∃ n, l.length = n := ⟨_, rfl⟩
  obtain ⟨r, hr⟩ : ∃ r, 1 + (addAll [] ((ats l).map (blk (fnd l)))).length = r := ⟨_, rfl⟩
  have j0 : (n : Int) ≤ 64 := by omega
  have hr' : ((1 : Int) + ((addAll [] ((ats l).map (blk (fnd l)))).length : Int)) = (r : Int) := by omega
  rw [hr', hn]
  have HC := Lib.hid hcell
  have HN := Lib.hid (And.intro hn (And.intro hr hmay))
  clear hcell hn hr hr' hl hmay
  go_enter Try.func12, Try.ntmps12
  go_wp2
  go_loopg [4, 3] n (fun g s4 s3 wr => ∃ i : Nat, s4 = .int .i64 i ∧ i + g = n ∧ Hid (wr.ownsRow 0 3 1 s3 (ats (l.take i)).length ((ats (l.take i)).map (Value.int .i64)) ∧ (∀ b, s3.ownBlock = some b → w.heap.size ≤ b) ∧ Ux.Touch (fun _ => False) w wr))
  case atStart => exact ⟨0, rfl, by omega, Lib.hid ⟨World.ownsRow_nil _ 0 3 1, fun b hb => (by cases hb), Ux.Touch.refl _ _⟩⟩
  case round =>
    obtain ⟨i, rfl, hig, HI⟩ := hrel
    have p0 : (0 : Int) ≤ i := by omega
    obtain ⟨ka, aa, ca, rfl, hka, hkc⟩ := ints_row HI.out.1 rfl
    obtain ⟨A, hA⟩ : ∃ A, ats (l.take i) = A := ⟨_, rfl⟩
    obtain ⟨na, hna⟩ : ∃ na, A.length = na := ⟨_, rfl⟩
    rw [hA] at HI hkc
    rw [hA, hna]
    have HE := Lib.hid (And.intro hA (And.intro hna hkc))
    clear hkc hA
    by_cases hlt : i < n
    · obtain ⟨g', rfl⟩ : ∃ g', gk = g' + 1 := ⟨gk - 1, by omega⟩
      obtain ⟨p, hp⟩ : ∃ p, l[i]? = some p := ⟨l[i]'(by have := HN.out.1; omega), List.getElem?_eq_getElem (by have := HN.out.1; omega)⟩
      obtain ⟨b, f, ha, c1, c2⟩ := HC.out i p hp
      subst ha
      have c1 := HI.out.2.2.cell c1 (fun f => f)
      have c2 := HI.out.2.2.cell c2 (fun f => f)
      have j1 : (i : Int) < n := by omega
      have hmp := HN.out.2.2 p (List.mem_of_getElem? hp)
      have hst := ats_step hp
      rw [HE.out.1] at hst
      have HP := Lib.hid (And.intro hp hst)
      obtain ⟨pc, pv⟩ := p
      have hb0 : 0 ≤ pc ∧ pc ≤ 1114367 := by
        unfold Ux.Trie.may at hmp
        simp only [Bool.and_eq_true, decide_eq_true_eq] at hmp
        exact hmp.1.1
      obtain ⟨q1, q2⟩ := hb0
      clear hp hmp hst
      dsimp only at c1 c2
      have hna64 : (na : Int) ≤ 64 := by
        have := ats_length (l.take i)
        rw [HE.out.1, HE.out.2.1, List.length_take] at this
        omega
      obtain ⟨b0, hb0⟩ : ∃ b0, (pv == 0) = b0 := ⟨_, rfl⟩
      have HB0 := Lib.hid hb0
      clear hb0
      go_upto_region 7 with (fail)
      simp only [HB0.out]
      go_wp2
      go_loopg [7, 6] na (fun g s7 s6 w' => ∃ (j : Nat) (m : Bool), s7 = .int .i64 j ∧ s6 = .bool m ∧ j + g = na ∧ w' = wr ∧ Hid (m = (b0 || decide (pc / 64 ∈ A.take j))))
      case atStart => exact ⟨0, b0, rfl, rfl, by omega, rfl, Lib.hid (by simp)⟩
      case round =>
        obtain ⟨j, m, rfl, rfl, hjg, rfl, HM⟩ := hrel
        have p1 : (0 : Int) ≤ j := by omega
        by_cases hjl : j < na
        · obtain ⟨g'', rfl⟩ : ∃ g', gk = g' + 1 := ⟨gk - 1, by omega⟩
          have j2 : (j : Int) < na := by omega
          obtain ⟨x, hx⟩ : ∃ x, A[j]? = some x := ⟨A[j]'(by have := HE.out.2.1; omega), List.getElem?_eq_getElem (by have := HE.out.2.1; omega)⟩
          obtain ⟨haa, cx⟩ := HE.out.2.2 j x hx
          subst haa
          have HX := Lib.hid hx
          clear hx
          cases m with
          | true =>
            go_wp2
            go_roundg g''
            case measure => omega
            case rel =>
              refine ⟨j + 1, true, rfl, rfl, by omega, rfl, Lib.hid ?_⟩
              have := HM.out
              rw [eq_comm, Bool.or_eq_true] at this ⊢
              rcases this with h | h
              · exact .inl h
              · rw [decide_eq_true_eq] at h ⊢
                exact .inr ((mem_take_step HX.out _).2 (.inl h))
          | false =>
            go_wp2
            go_roundg g''
            case measure => omega
            case rel =>
              refine ⟨j + 1, _, rfl, rfl, by omega, rfl, Lib.hid ?_⟩
              have := HM.out
              rw [eq_comm, Bool.or_eq_false_iff] at this
              obtain ⟨h1, h2⟩ := this
              rw [decide_eq_false_iff_not] at h2
              rw [h1, Bool.false_or]
              rw [Bool.eq_iff_iff]
              simp only [beq_iff_eq, decide_eq_true_eq]
              rw [mem_take_step HX.out]
              exact ⟨.inr, fun h => h.resolve_left h2⟩
        · have q3 : ¬ (j : Int) < na := by omega
          clear hjl
          have hmm : m = (b0 || decide (pc / 64 ∈ A)) := by
            have := HM.out
            rwa [List.take_of_length_le (by have := HE.out.2.1; omega)] at this
          clear HM
          have hst := HP.out.2
          cases m with
          | true =>
            have e1 : ats (l.take (i + 1)) = A := by
              rw [hst]
              rw [eq_comm, Bool.or_eq_true] at hmm
              rcases hmm with h | h
              · rw [← HB0.out, beq_iff_eq] at h
                rw [if_pos h]
              · rw [decide_eq_true_eq] at h
                split
                · rfl
                · unfold addB; rw [if_pos h]
            have HE1 := Lib.hid e1
            clear e1 hmm hst
            go_wp2
            go_roundg g'
            case measure => omega
            case rel => exact ⟨i + 1, rfl, by omega, Lib.hid (by rw [HE1.out]; have := HI.out; rw [HE.out.2.1] at this; rw [HE.out.2.1]; exact this)⟩
          | false =>
            have e1 : ats (l.take (i + 1)) = A ++ [pc / 64] := by
              rw [hst]
              rw [eq_comm, Bool.or_eq_false_iff] at hmm
              obtain ⟨h1, h2⟩ := hmm
              rw [← HB0.out] at h1
              have h1 : ¬ pv = 0 := by simpa using h1
              rw [decide_eq_false_iff_not] at h2
              rw [if_neg h1]
              unfold addB; rw [if_neg h2]
            have HE1 := Lib.hid e1
            clear e1 hmm hst
            obtain ⟨r2, w2, run2, row2, t2, own2⟩ := app50 (.slice aa na ca) na (A.map (.int .i64)) wr (by have := HI.out.1; rwa [HE.out.2.1] at this) (by omega) (pc / 64)
            obtain ⟨g2, c2', cur2, rfl, _⟩ := Ux.own_pos row2 (by omega)
            have R2 := Lib.hid run2
            have HR2 := Lib.hid (And.intro row2 (And.intro t2 own2))
            clear run2 row2 t2 own2
            go_wp2_with (at_builtin; refine Ux.wpList_app (v1 := .slice aa na ca) (x1 := .slice (some ⟨wr.heap.size, 0, none⟩) 1 1) rfl _ _ _ _ rfl rfl rfl (R2.out _) ?_)
            go_roundg g'
            case measure => omega
            case rel =>
              obtain ⟨row2, t2, own2⟩ := HR2.out
              refine ⟨i + 1, rfl, by omega, Lib.hid ⟨?_, ?_, HI.out.2.2.trans t2 (fun b hb h => by have := HI.out.2.1 b (by rw [HE.out.2.1]; exact h); omega)⟩⟩
              · rw [HE1.out, List.map_append, List.length_append, HE.out.2.1]
                exact row2
              · intro b hb
                rcases own2 with h | ⟨g, h, h'⟩
                · exact HI.out.2.1 b (by rw [HE.out.2.1, ← h]; exact hb)
                · rw [h] at hb
                  cases hb
                  have := HI.out.2.2.size
                  omega
    · have hi : i = n := by omega
      subst hi
      have q1 : ¬ (i : Int) < i := by omega
      have hA : ats l = A := by
        have := HE.out.1
        rwa [List.take_of_length_le (by have := HN.out.1; omega)] at this
      have hna64 : (na : Int) ≤ 64 := by
        have := ats_length l
        rw [hA, HE.out.2.1] at this
        have := HN.out.1
        omega
      have hrr := HN.out.2.1
      rw [hA] at hrr
      have HAL := Lib.hid (And.intro hA hrr)
      clear hA hlt hrr
      obtain ⟨W0, hW0⟩ : ∃ W0 : World, W0 = wr := ⟨_, rfl⟩
      subst hW0
      have C10 : Hid (∀ c w', Ux.Touch (fun _ => False) W0 w' → Calls Try.prog 10 #[.slice a i cp, .int .i64 c] w' fun e w'' => e = .returned (.int .i64 (fnd l c)) ∧ w'' = w') := Lib.hid fun c w' ht => by
        have hP := (H0.out.touch (HI.out.2.2.trans ht (fun _ _ h => h)) (fun _ _ _ _ _ f => f))
        have := find10 _ l c w' hP (by have := HN.out.1; omega)
        rwa [HN.out.1] at this
      go_wp2
      go_loopg [9, 8] na (fun g s9 s8 w1 => ∃ (x : Nat) (cnt : Int), s9 = .int .i64 x ∧ s8 = .int .i64 cnt ∧ x + g = na ∧ 1 ≤ cnt ∧ cnt ≤ 1 + x ∧ Hid (cnt = 1 + ((addAll [] ((A.take x).map (blk (fnd l)))).length : Int) ∧ Ux.Touch (fun _ => False) W0 w1))
      case atStart => exact ⟨0, 1, rfl, rfl, by omega, by omega, by omega, Lib.hid ⟨by simp [addAll], Ux.Touch.refl _ _⟩⟩
      case round =>
        obtain ⟨x, cnt, rfl, rfl, hxg, hc1, hc2, HX⟩ := hrel
        have p2 : (0 : Int) ≤ x := by omega
        by_cases hlx : x < na
        · obtain ⟨g', rfl⟩ : ∃ g', gk = g' + 1 := ⟨gk - 1, by omega⟩
          have j2 : (x : Int) < na := by omega
          obtain ⟨ax, hax⟩ : ∃ ax, A[x]? = some ax := ⟨A[x]'(by have := HE.out.2.1; omega), List.getElem?_eq_getElem (by have := HE.out.2.1; omega)⟩
          obtain ⟨haa, cx⟩ := HE.out.2.2 x ax hax
          subst haa
          obtain ⟨r1, r2⟩ := ats_range HN.out.2.2 (k := ax) (by rw [HAL.out.1]; exact List.mem_of_getElem? hax)
          have HAX := Lib.hid (And.intro hax cx)
          clear hax cx
          go_wp2
          go_loopg [11, 10] x (fun g s11 s10 w2 => ∃ (y : Nat) (m : Bool), s11 = .int .i64 y ∧ s10 = .bool m ∧ y + g = x ∧ Hid (m = decide (blk (fnd l) ax ∈ (A.take y).map (blk (fnd l))) ∧ Ux.Touch (fun _ => False) W0 w2))
          case atStart => exact ⟨0, false, rfl, rfl, by omega, Lib.hid ⟨by simp, HX.out.2⟩⟩
          case round =>
            obtain ⟨y, m, rfl, rfl, hyg, HY⟩ := hrel
            have p3 : (0 : Int) ≤ y := by omega
            have j3 : (y : Int) ≤ x := by omega
            by_cases hcont : y < x ∧ m = false
            · obtain ⟨hyx, rfl⟩ := hcont
              obtain ⟨g'', rfl⟩ : ∃ g', gk = g' + 1 := ⟨gk - 1, by omega⟩
              have j4 : (y : Int) < x := by omega
              obtain ⟨ay, hay⟩ : ∃ ay, A[y]? = some ay := ⟨A[y]'(by have := HE.out.2.1; omega), List.getElem?_eq_getElem (by have := HE.out.2.1; omega)⟩
              obtain ⟨_, cy⟩ := HE.out.2.2 y ay hay
              obtain ⟨r3, r4⟩ := ats_range HN.out.2.2 (k := ay) (by rw [HAL.out.1]; exact List.mem_of_getElem? hay)
              have HAY := Lib.hid (And.intro hay cy)
              clear hay cy
              go_wp2
              go_loopg [12, 10] 64 (fun g s12 s10 w3 => ∃ (z : Nat) (m : Bool), s12 = .int .i64 z ∧ s10 = .bool m ∧ z + g = 64 ∧ Hid (m = decide (∀ u : Nat, u < z → fnd l (64 * ay + (u : Int)) = fnd l (64 * ax + (u : Int))) ∧ Ux.Touch (fun _ => False) W0 w3))
              case atStart => exact ⟨0, true, rfl, rfl, by omega, Lib.hid ⟨by simp, HY.out.2⟩⟩
              case round =>
                obtain ⟨z, m, rfl, rfl, hzg, HZ⟩ := hrel
                have p4 : (0 : Int) ≤ z := by omega
                by_cases hcz : z < 64 ∧ m = true
                · obtain ⟨hz64, rfl⟩ := hcz
                  obtain ⟨g3, rfl⟩ : ∃ g', gk = g' + 1 := ⟨gk - 1, by omega⟩
                  have j5 : (z : Int) < 64 := by omega
                  have cx := HZ.out.2.cell HAX.out.2 (fun f => f)
                  have cy := HZ.out.2.cell HAY.out.2 (fun f => f)
                  have T1 := Lib.hid HZ.out.2.drew
                  go_upto_region 25 with (fail)
                  refine Ux.wp_region_plan (fun _ w' => w'.cell? ⟨ka, x, none⟩ = some (.int .i64 ax) ∧ w'.cell? ⟨ka, y, none⟩ = some (.int .i64 ay)) (.q [0, 1, 2, 3, 6, 9, 10, 11, 12, 15] (.h false [4, 13] (.q [5, 7, 14, 16] (.e 8 true false (.e 17 true false (.q [18] (.line [19])))))))
                    (by kernel_rfl) (by kernel_rfl) (by intro _ _ d _ _ h; cases d <;> exact h) ?hS ?_
                  case hS => (intro c; cases c <;> (simp only [World.cell?_drew]; first | exact True.intro | (refine ⟨?_, ?_⟩ <;> assumption) | assumption | (repeat (first | assumption | (refine And.intro ?_ ?_)))))
                  simp only [Ux.wpPlan, Ux.pickOps, Ux.keeps, List.getElem?_toArray, List.getElem?_cons_succ, List.getElem?_cons_zero]
                  repeat (first
                    | go_big_quiet_step (fail)
                    | (with_reducible refine wpQuiet_nil ?_)
                    | (refine Ux.quiet_held rfl ?_; apply Exists.intro; refine ⟨fun w' hS => ?_, ?_⟩; (focus ((try dsimp only at hS); go_simp; first | done | with_reducible rfl)); simp only [Act.put, List.setIfInBounds_toArray, List.set_cons_zero, List.set_cons_succ]))
                  go_wp2_with (go_at_call 10; refine (C10.out _ _ T1.out).mono ?_; rintro e w' ⟨rfl, rfl⟩)
                  refine ⟨⟨by simpa using cx, by simpa using cy⟩, ?_⟩
                  go_wp2_with (go_at_call 10; refine (C10.out _ _ T1.out).mono ?_; rintro e w' ⟨rfl, rfl⟩)
                  refine ⟨⟨by simpa using cx, by simpa using cy⟩, ?_⟩
                  repeat (first
                    | go_big_quiet_step (fail)
                    | (with_reducible refine wpQuiet_nil ?_)
                    | (refine Ux.quiet_held rfl ?_; apply Exists.intro; refine ⟨fun w' hS => ?_, ?_⟩; (focus ((try dsimp only at hS); go_simp; first | done | with_reducible rfl)); simp only [Act.put, List.setIfInBounds_toArray, List.set_cons_zero, List.set_cons_succ]))
                  go_wp2
                  go_roundg g3
                  case measure => omega
                  case rel =>
                    refine ⟨z + 1, _, rfl, rfl, by omega, Lib.hid ⟨?_, T1.out⟩⟩
                    have hall := HZ.out.1
                    rw [eq_comm, decide_eq_true_eq] at hall
                    rw [Bool.eq_iff_iff]
                    simp only [beq_iff_eq, decide_eq_true_eq]
                    constructor
                    · intro h u hu
                      by_cases e : u = z
                      · rw [e]; exact h.symm
                      · exact hall u (by omega)
                    · intro h
                      exact (h z (by omega)).symm
                · have hm : m = decide (blk (fnd l) ax ∈ (A.take (y + 1)).map (blk (fnd l))) := by
                    have h1 := HY.out.1
                    rw [eq_comm, decide_eq_false_iff_not] at h1
                    have h2 : (blk (fnd l) ax ∈ (A.take (y + 1)).map (blk (fnd l))) ↔ blk (fnd l) ay = blk (fnd l) ax := by
                      rw [List.take_add_one, HAY.out.1, List.map_append, List.mem_append]
                      constructor
                      · rintro (h | h)
                        · exact absurd h h1
                        · simpa [eq_comm] using h
                      · intro h
                        exact .inr (by simp [h])
                    rw [HZ.out.1, Bool.eq_iff_iff, decide_eq_true_eq, decide_eq_true_eq, h2, blk_eq_iff]
                    constructor
                    · intro h
                      cases hmm : m with
                      | true => exact fun u hu => h u (by
                          have : ¬ z < 64 := fun hz => hcz ⟨hz, hmm⟩
                          omega)
                      | false =>
                        have := HZ.out.1
                        rw [hmm, eq_comm, decide_eq_false_iff_not] at this
                        exact absurd h this
                    · exact fun h u hu => h u (by omega)
                  have HMM := Lib.hid hm
                  clear hm
                  by_cases hz64 : z < 64
                  · have hmf : m = false := by
                      cases m
                      · rfl
                      · exact absurd ⟨hz64, rfl⟩ hcz
                    subst hmf
                    have j5 : (z : Int) < 64 := by omega
                    clear hcz
                    go_wp2
                    go_roundg g''
                    case measure => omega
                    case rel => exact ⟨y + 1, _, rfl, rfl, by omega, Lib.hid ⟨HMM.out, HZ.out.2⟩⟩
                  · have j5 : ¬ (z : Int) < 64 := by omega
                    clear hcz hz64
                    go_wp2
                    go_roundg g''
                    case measure => omega
                    case rel => exact ⟨y + 1, _, rfl, rfl, by omega, Lib.hid ⟨HMM.out, HZ.out.2⟩⟩
            · have hstep : addAll [] ((A.take (x + 1)).map (blk (fnd l))) = addB (addAll [] ((A.take x).map (blk (fnd l)))) (blk (fnd l) ax) := by
                rw [List.take_add_one, HAX.out.1, List.map_append]
                exact Ux.Trie.addAll_snoc _ _ _
              cases m with
              | true =>
                have hcn : addAll [] ((A.take (x + 1)).map (blk (fnd l))) = addAll [] ((A.take x).map (blk (fnd l))) := by
                  rw [hstep]
                  refine addB_in ((Ux.Trie.mem_addAll _ _).2 (.inr ?_))
                  have h1 := HY.out.1
                  rw [eq_comm, decide_eq_true_eq] at h1
                  obtain ⟨z, hz, e⟩ := List.mem_map.1 h1
                  refine List.mem_map.2 ⟨z, ?_, e⟩
                  have e2 : A.take y = (A.take x).take y := by rw [List.take_take, Nat.min_eq_left (by omega)]
                  rw [e2] at hz
                  exact List.mem_of_mem_take hz
                have HCN := Lib.hid hcn
                clear hstep hcn hcont
                by_cases hyx : (y : Int) < x
                · go_wp2
                  go_roundg g'
                  case measure => omega
                  case rel => exact ⟨x + 1, cnt, rfl, rfl, by omega, by omega, by omega, Lib.hid ⟨by rw [HCN.out]; exact HX.out.1, HY.out.2⟩⟩
                · go_wp2
                  go_roundg g'
                  case measure => omega
                  case rel => exact ⟨x + 1, cnt, rfl, rfl, by omega, by omega, by omega, Lib.hid ⟨by rw [HCN.out]; exact HX.out.1, HY.out.2⟩⟩
              | false =>
                have hyx : ¬ (y : Int) < x := by
                  intro h
                  exact hcont ⟨by omega, rfl⟩
                have hcn : ((addAll [] ((A.take (x + 1)).map (blk (fnd l)))).length : Int) = ((addAll [] ((A.take x).map (blk (fnd l)))).length : Int) + 1 := by
                  rw [hstep, addB_out]
                  · simp
                  · rw [Ux.Trie.mem_addAll]
                    have h1 := HY.out.1
                    rw [eq_comm, decide_eq_false_iff_not] at h1
                    have e2 : y = x := by omega
                    rw [e2] at h1
                    rintro (h | h)
                    · simp at h
                    · exact h1 h
                have HCN := Lib.hid hcn
                clear hstep hcn hcont
                go_wp2
                go_roundg g'
                case measure => omega
                case rel => exact ⟨x + 1, cnt + 1, rfl, rfl, by omega, by omega, by omega, Lib.hid ⟨by rw [HCN.out]; have := HX.out.1; omega, HY.out.2⟩⟩
        · have hx : x = na := by omega
          subst hx
          have q4 : ¬ (x : Int) < x := by omega
          have hcr : cnt = (r : Int) := by
            have := HX.out.1
            rw [List.take_of_length_le (by have := HE.out.2.1; omega)] at this
            have := HAL.out.2
            omega
          subst hcr
          clear hlx
          go_wp2
          go_ret
          exact ⟨rfl, HI.out.2.2.trans HX.out.2 (fun _ _ h => h)⟩

end Go.Proofs.Ythkaifgepkfheaa
