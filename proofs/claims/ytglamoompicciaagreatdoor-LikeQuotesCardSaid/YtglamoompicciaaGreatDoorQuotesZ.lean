/- PART OF THE PROOF THAT THIS CLAIM HOLDS OF THE GIVEN PROGRAM, FOR EVERY INPUT THAT THE STATEMENT NAMES. No condition besides the statement's own. -/
import Derived.Test.YtglamoompicciaaGreatDoorAwakeZ
import Derived.Test.YtglamoompicciaaGreatDoorQuoteZ
import Derived.Test.YtglamoompicciaaGreatDoorPrefixZ
import Derived.Test.YtglamoompicciaaGreatDoorRows
import Derived.WalkKit
import Derived.Handy
import Derived.Laws.EntriesVeiled
import Derived.WalkSpells
import Derived.WalkLawsBesides
import Derived.BigQuiet
import Derived.Deep.QuietTactic
import Derived.Deep.Cut
import Derived.Deep.DeepCutAuto
import Derived.Lib.Overlaps
import Derived.Laws.Externs
import Derived.Lib.Hide
import Derived.Test.YtglamoompicciaaGreatDoorUxPlanAllZ
import Derived.Test.YtglamoompicciaaGreatDoorUxTreeAllZ
import Derived.Deep.LoopGhost
namespace Go.Proofs.YtglamoompicciaaGreatDoor
open Go.RowKit
open Go.RowKit
open Ux (Row iv sv bv)
open Ux.Sign (signs put quote)
open Ux.Like (mat pat elt special)

theorem eqvK1 : eqvK 1 = Ux.Like.same := by
  funext a b
  unfold eqvK Ux.Like.same
  rw [if_neg (by decide)]

def QPost (w : World) (e : Ending) (w' : World) : Prop := e = .returned (.bool true) ∧ Ux.Touch (fun _ => False) w w'

set_option maxHeartbeats 4000000 in
set_option maxRecDepth 100000 in
theorem quotes_big (s other esc : ByteArray) (w : World) (hT : Tabs w) (h1 : s.size ≤ 140737488355328) (h2 : other.size ≤ 140737488355328) (h3 : esc.size ≤ 140737488355328) (h : s.size + other.size > 200 ∨ esc.size > 10) :
    Calls Tryz.prog 7 #[.string s, .string other, .string esc] w (QPost w) := by
  have AW := Lib.hid (awake_ w hT)
  unfold QPost
  obtain ⟨n1, e1⟩ : ∃ n, s.size = n := ⟨_, rfl⟩
  obtain ⟨n2, e2⟩ : ∃ n, other.size = n := ⟨_, rfl⟩
  obtain ⟨n3, e3⟩ : ∃ n, esc.size = n := ⟨_, rfl⟩
  have t0 : ((n1 : Int) + n2 > 200) ∨ (¬ ((n1 : Int) + n2 > 200) ∧ (n3 : Int) > 10) := by omega
  have g1 : (n1 : Int) ≤ 140737488355328 := by omega
  have g2 : (n2 : Int) ≤ 140737488355328 := by omega
  have g3 : (n3 : Int) ≤ 140737488355328 := by omega
  clear h h1 h2 h3 hT
  rcases t0 with t0 | ⟨t0, t1⟩
  all_goals
    go_enter Tryz.func7, Tryz.ntmps7
    go_wp2_with (go_at_call 9; fail)
    refine AW.out.mono ?_
    rintro e w7 ⟨rfl, T7⟩
    have H7 := Lib.hid T7
    clear T7
    go_wp2
    go_ret
    exact ⟨rfl, H7.out⟩

/-- what the document's signs tell of the only sign -/
theorem only_none {l : List Nat} (h : onlyS l = none) : l.length ≠ 1 ∨ ∃ c, l = [c] ∧ 1114111 < c := by
  match l, h with
  | [], _ => exact .inl (by simp)
  | [c], h =>
    have h2 : (if c < 1114112 then some c else none) = none := h
    split at h2
    · cases h2
    · exact .inr ⟨c, rfl, by omega⟩
  | _ :: _ :: _, _ => exact .inl (by simp)
theorem only_some {l : List Nat} {x : Nat} (h : onlyS l = some x) : l = [x] ∧ x < 1114112 := by
  match l, h with
  | [], h => cases h
  | [c], h =>
    have h2 : (if c < 1114112 then some c else none) = some x := h
    split at h2
    · cases h2; exact ⟨rfl, by assumption⟩
    · cases h2
  | _ :: _ :: _, h => cases h

set_option maxHeartbeats 8000000 in
set_option maxRecDepth 100000 in
theorem quotes_none (s other esc : ByteArray) (w : World) (hT : Tabs w) (h1 : s.size + other.size ≤ 200) (h2 : esc.size ≤ 10) (hoe : only esc.data.toList = none) :
    Calls Tryz.prog 7 #[.string s, .string other, .string esc] w (QPost w) := by
  have AW := Lib.hid fun w' (T : Ux.Touch (fun _ => False) w w') => awake_ w' (hT.touch T)
  have CL := Lib.hid (lawMake_ 1 0 (.inl rfl) false false ⟨#[]⟩ w)
  have CR := Lib.hid fun w' => rsigns_ esc w' (by omega)
  have CQ := Lib.hid fun w' (T : Ux.Touch (fun _ => False) w w') => quote_ s esc w' (by omega) (by omega) (hT.touch T) none hoe
  unfold quoteV at CQ
  unfold collV rcollV at CL
  unfold only at hoe
  have hon := only_none hoe
  obtain ⟨l, hl⟩ : ∃ l, signs esc.data.toList = l := ⟨_, rfl⟩
  have hll : l.length ≤ 10 := by rw [← hl]; have := signs_len esc.data.toList; have e : esc.data.toList.length = esc.size := by simp
                                 omega
  have hlt : ∀ c ∈ l, c < 1114368 := by rw [← hl]; exact signs_lt _
  rw [hl] at CR hon
  obtain ⟨n1, e1⟩ : ∃ n, s.size = n := ⟨_, rfl⟩
  obtain ⟨n2, e2⟩ : ∃ n, other.size = n := ⟨_, rfl⟩
  obtain ⟨n3, e3⟩ : ∃ n, esc.size = n := ⟨_, rfl⟩
  have t0 : ¬ ((n1 : Int) + n2 > 200) := by omega
  have t1 : ¬ ((n3 : Int) > 10) := by omega
  have g1 : (n1 : Int) ≤ 200 := by omega
  have g2 : (n2 : Int) ≤ 200 := by omega
  unfold QPost
  clear hT h1 h2 hoe hl
  go_enter Tryz.func7, Tryz.ntmps7
  go_wp2_with (go_at_call 10; fail)
  refine CL.out.mono ?_
  rintro e w1 ⟨rfl, T1⟩
  have H1 := Lib.hid T1
  clear T1
  go_wp2_with (go_at_call 14; fail)
  refine (CR.out _).mono ?_
  rintro e w2 ⟨lv, rfl, hR, T2⟩
  obtain ⟨la, lc, rfl, _⟩ := hR.is
  obtain ⟨n, hn⟩ : ∃ n, l.length = n := ⟨_, rfl⟩
  rw [Ux.iv_length, Ux.sv_length, hn] at hR ⊢
  have H2 := Lib.hid (And.intro (((H1.out.alloc _).alloc _).trans T2 fun _ _ f => f) hR)
  clear T2 hR
  go_wp2_with (go_at_call 19; fail)
  refine (CQ.out _ H2.out.1).mono ?_
  rintro e w3 ⟨rfl, T3⟩
  have T03 := H2.out.1.trans T3 fun _ _ f => f
  have hR3 := H2.out.2.touch0 T3
  have H3 := Lib.hid T03
  have gn : (n : Int) ≤ 10 := by omega
  clear T3 T03
  rcases hon with hon | ⟨c, rfl, hc⟩
  · have z1 : ((n : Int) == 1) = false := by simp; omega
    have z3 : ((n : Int) != 1) = true := by simp; omega
    clear hR3 hon hn hlt hll
    go_wp2_with (go_at_call 9; fail)
    refine (AW.out _ H3.out).mono ?_
    rintro e w7 ⟨rfl, T7⟩
    have H7 := Lib.hid (H3.out.trans T7 fun _ _ f => f)
    clear T7
    go_wp2
    go_ret
    exact ⟨rfl, H7.out⟩
  · obtain rfl : n = 1 := by simpa using hn.symm
    obtain ⟨gl, rfl, _, cl⟩ := hR3.at (Ux.iv_get (Ux.sv_get (l := [c]) (i := 0) rfl))
    have z2 : (c : Int) > 1114111 := by omega
    clear hR3 hc hn hlt hll
    go_wp2_with (go_at_call 9; fail)
    refine (AW.out _ H3.out).mono ?_
    rintro e w7 ⟨rfl, T7⟩
    have H7 := Lib.hid (H3.out.trans T7 fun _ _ f => f)
    clear T7
    go_wp2
    go_ret
    exact ⟨rfl, H7.out⟩

/-- Make of a text whose elements are known -/
theorem makeP_ (p esc : ByteArray) (oe : Option Nat) (P : List Int) (w : World) (hp : p.size ≤ 1000000) (he : esc.size ≤ 1000000) (hT : Tabs w) (hoe : only esc.data.toList = oe) (hok : esc.size = 0 ∨ oe ≠ none) (hP : pat oe (signs p.data.toList) = some P) :
    Calls Tryz.prog 11 #[.string p, .string esc] w fun e w' => ∃ a n c, e = .returned (.tuple #[.agg #[.slice a n c], .int .i64 0]) ∧ Row w' w.heap.size 3 (.slice a n c) (iv P) ∧ Ux.Touch (fun _ => False) w w' := by
  refine (make_ p esc w hp hT he oe hoe _ hP).mono ?_
  rintro e w' ⟨x, rfl, hx, ht⟩
  unfold MakeSays at hx
  rw [if_neg (fun h => hok.elim h.1 fun h' => h' h.2)] at hx
  obtain ⟨v, rfl, hR⟩ := hx
  obtain ⟨a, c, rfl, _⟩ := hR.is
  exact ⟨a, _, c, rfl, hR, ht⟩

set_option maxHeartbeats 8000000 in
set_option maxRecDepth 100000 in
theorem quotes_some (s other esc : ByteArray) (x : Nat) (w : World) (hT : Tabs w) (h1 : s.size + other.size ≤ 200) (h2 : esc.size ≤ 10) (hoe : only esc.data.toList = some x) :
    Calls Tryz.prog 7 #[.string s, .string other, .string esc] w (QPost w) := by
  have AW := Lib.hid fun w' (T : Ux.Touch (fun _ => False) w w') => awake_ w' (hT.touch T)
  have CL := Lib.hid (lawMake_ 1 0 (.inl rfl) false false ⟨#[]⟩ w)
  have CR := Lib.hid fun w' => rsigns_ esc w' (by omega)
  obtain ⟨l, hl⟩ : ∃ l, signs s.data.toList = l := ⟨_, rfl⟩
  have hll : l.length ≤ 200 := by rw [← hl]; have := signs_len s.data.toList; have e : s.data.toList.length = s.size := by simp
                                  omega
  have hlt : ∀ c ∈ l, c < 1114368 := by rw [← hl]; exact signs_lt _
  have hgd : Ux.Sign.good l := by rw [← hl]; exact Ux.Sign.good_signs _
  have hx := only_some hoe
  have hcp : Ux.Sign.cp x := by
    have := Ux.Sign.good_all (Ux.Sign.good_signs esc.data.toList) x (by rw [hx.1]; simp)
    rcases this with h | h
    · exact h
    · unfold Ux.Sign.raw at h; have := hx.2; omega
  have hps : put l = s.data.toList := by rw [← hl]; exact Ux.Sign.put_signs _
  obtain ⟨q, hq⟩ : ∃ q : ByteArray, (⟨(put (quote (special x) x l)).toArray⟩ : ByteArray) = q := ⟨_, rfl⟩
  have hqs : signs q.data.toList = quote (special x) x l := by rw [← hq]; exact Ux.Sign.signs_put (Ux.Sign.good_quote hcp hgd)
  have hql : q.size ≤ 1000000 := by
    rw [← hq]
    show (put (quote (special x) x l)).toArray.size ≤ _
    have := quote_len x l
    simp
    omega
  have CQ : Hid (∀ w', Ux.Touch (fun _ => False) w w' → Calls Tryz.prog 19 #[.string s, .string esc] w' fun e w'' => e = .returned (.tuple #[.string q, .int .i64 0]) ∧ Ux.Touch (fun _ => False) w' w'') := Lib.hid fun w' T => by
    have h := quote_ s esc w' (by omega) (by omega) (hT.touch T) (some x) hoe
    rw [hl] at h
    have e : quoteV l (some x) = .tuple #[.string q, .int .i64 0] := by rw [← hq]; rfl
    rw [e] at h
    exact h
  have CM := Lib.hid fun w' (T : Ux.Touch (fun _ => False) w w') => makeP_ q esc (some x) (sv l) w' hql (by omega) (hT.touch T) hoe (.inr (by simp)) (by rw [hqs]; exact Ux.Like.pat_quote x l)
  have hs0 : (⟨(put l).toArray⟩ : ByteArray) = s := (Ux.txt_of hps.symm).symm
  have CP : Hid (∀ (v : Value) (lo : Nat) (w' : World), Row w' lo 3 v (iv (sv l)) → Calls Tryz.prog 16 #[.agg #[v]] w' fun e w'' => e = .returned (.tuple #[.string s, .bool true]) ∧ Ux.Touch (fun _ => False) w' w'') := Lib.hid fun v lo w' hR => by
    have h := prefix_ v l [] (.inl rfl) hlt lo w' (by rw [List.append_nil]; exact hR) (by rw [List.append_nil, Ux.sv_length]; omega)
    rw [hs0] at h
    exact h
  have CK : Hid (∀ (pv : Value) (lo : Nat) (t : ByteArray) (w' : World), t.size ≤ 1000000 → Ux.Touch (fun _ => False) w w' → Row w' lo 3 pv (iv (sv l)) → Calls Tryz.prog 13 #[.agg #[pv], collV 1, .string t] w' fun e w'' => e = .returned (.bool (mat (eqvK 1) (sv l) (sv (signs t.data.toList)))) ∧ Ux.Touch (fun _ => False) w' w'') :=
    Lib.hid fun pv lo t w' ht T hR => matchK 1 (.inl rfl) _ pv lo t w' ht (hT.touch T) hR (by rw [Ux.sv_length]; omega) (fun a ha => by
      unfold sv at ha
      obtain ⟨c, hc, rfl⟩ := List.mem_map.1 ha
      have := hlt c hc
      omega)
  have hm1 : mat (eqvK 1) (sv l) (sv (signs s.data.toList)) = true := by rw [eqvK1, hl]; exact Ux.Like.mat_signs.2 rfl
  have hm2 : mat (eqvK 1) (sv l) (sv (signs other.data.toList)) = true ↔ s = other := by
    rw [eqvK1]
    constructor
    · intro h
      have := Ux.Like.mat_signs.1 h
      rw [← hl] at this
      exact ByteArray.ext (by rw [← Array.toList_inj]; exact Ux.Sign.signs_inj this)
    · rintro rfl
      rw [hl]
      exact Ux.Like.mat_signs.2 rfl
  have HM := Lib.hid (And.intro hm1 hm2)
  unfold collV rcollV at CL
  unfold collV at CK
  rw [hx.1] at CR
  obtain ⟨n1, e1⟩ : ∃ n, s.size = n := ⟨_, rfl⟩
  obtain ⟨n2, e2⟩ : ∃ n, other.size = n := ⟨_, rfl⟩
  obtain ⟨n3, e3⟩ : ∃ n, esc.size = n := ⟨_, rfl⟩
  have t0 : ¬ ((n1 : Int) + n2 > 200) := by omega
  have t1 : ¬ ((n3 : Int) > 10) := by omega
  have g1 : (n1 : Int) ≤ 200 := by omega
  have g2 : (n2 : Int) ≤ 200 := by omega
  have HSZ := Lib.hid (And.intro e1 (And.intro e2 (And.intro g1 g2)))
  have z2 : ¬ ((x : Int) > 1114111) := by have := hx.2; omega
  unfold QPost
  clear hT h1 h2 hoe hl hll hlt hgd hx hcp hps hq hqs hql hs0 hm1 hm2
  go_enter Tryz.func7, Tryz.ntmps7
  go_wp2_with (go_at_call 10; fail)
  refine CL.out.mono ?_
  rintro e w1 ⟨rfl, T1⟩
  have H1 := Lib.hid T1
  clear T1
  go_wp2_with (go_at_call 14; fail)
  refine (CR.out _).mono ?_
  rintro e w2 ⟨lv, rfl, hR, T2⟩
  obtain ⟨la, lc, rfl, _⟩ := hR.is
  obtain ⟨gl, rfl, _, cl⟩ := hR.at (Ux.iv_get (Ux.sv_get (l := [x]) (i := 0) rfl))
  have e1' : (iv (sv [x])).length = 1 := rfl
  rw [e1']
  obtain ⟨B, hB⟩ : ∃ B, w1.heap.size = B := ⟨_, rfl⟩
  have hc : w2.heap[B]? = some (.cells #[.int .i64 1, .int .i64 0, .bool false, .bool false, .pointer none] 25 (0, 0)) := by
    rw [← hB]
    exact T2.heap (((Ux.Touch.refl (fun _ => False) _).alloc _).heap (heap_alloc_new w1 _) (fun f => f)) (fun f => f)
  have H2 := Lib.hid (And.intro (((H1.out.alloc _).alloc _).trans T2 fun _ _ f => f) hc)
  clear T2 hR hc
  rw [hB]
  go_wp2_with (go_at_call 19; fail)
  refine (CQ.out _ H2.out.1).mono ?_
  rintro e w3 ⟨rfl, T3⟩
  have cl3 := T3.cell cl (fun f => f)
  have H3 := Lib.hid (And.intro (H2.out.1.trans T3 fun _ _ f => f) (T3.heap H2.out.2 (fun f => f)))
  clear T3 cl
  go_wp2_with (go_at_call 11; fail)
  refine (CM.out _ H3.out.1).mono ?_
  rintro e w4 ⟨a, n, c, rfl, hR, T4⟩
  have hc4 := T4.heap H3.out.2 (fun f => f)
  have TW4 := H3.out.1.trans T4 fun _ _ f => f
  obtain ⟨B2, hB2⟩ : ∃ B2, w4.heap.size = B2 := ⟨_, rfl⟩
  obtain ⟨w5, hw5⟩ : ∃ w5, w4.alloc (.cells #[.slice a n c] 35) = w5 := ⟨_, rfl⟩
  have T5 : Ux.Touch (fun _ => False) w4 w5 := by rw [← hw5]; exact (Ux.Touch.refl _ w4).alloc _
  have hp5 : w5.heap[B2]? = some (.cells #[.slice a n c] 35 (0, 0)) := by rw [← hw5, ← hB2]; exact heap_alloc_new w4 _
  have hc5 := T5.heap hc4 (fun f => f)
  have TW5 := TW4.trans T5 fun _ _ f => f
  have p0 : w5.cell? ⟨B2, 0, none⟩ = some (.slice a n c) := by rw [cell_of_row w5 B2 0 _ _ (0, 0) hp5]; rfl
  have H5 := Lib.hid (And.intro (hR.touch0 T5) (And.intro TW5 (And.intro hp5 hc5)))
  clear hR T4 hc4 TW4 T5 hp5 hc5 TW5 cl3
  go_wp2_with (go_at_call 16; fail)
  refine (CP.out _ _ w5 H5.out.1).mono ?_
  rintro e w6 ⟨rfl, T6⟩
  have p6 := T6.cell p0 (fun f => f)
  obtain ⟨c0, c1, c2, c3, c4⟩ := collCells (T6.heap H5.out.2.2.2 (fun f => f))
  have H6 := Lib.hid (And.intro (H5.out.1.touch0 T6) (H5.out.2.1.trans T6 fun _ _ f => f))
  clear T6 p0 H5 hw5
  go_wp2_with (go_at_call 13; fail)
  have cm := CK.out (.slice a n c) _ s w6 (by have := HSZ.out; omega) H6.out.2 H6.out.1
  rw [HM.out.1] at cm
  refine cm.mono ?_
  rintro e w7 ⟨rfl, T7⟩
  have p7 := T7.cell p6 (fun f => f)
  have d0 := T7.cell c0 (fun f => f)
  have d1 := T7.cell c1 (fun f => f)
  have d2 := T7.cell c2 (fun f => f)
  have d3 := T7.cell c3 (fun f => f)
  have d4 := T7.cell c4 (fun f => f)
  have H7 := Lib.hid (And.intro (H6.out.1.touch0 T7) (H6.out.2.trans T7 fun _ _ f => f))
  clear cm T7 p6 c0 c1 c2 c3 c4 H6
  by_cases hso : s = other
  · subst hso
    go_wp2_with (go_at_call 13; fail)
    have cm := CK.out (.slice a n c) _ s w7 (by have := HSZ.out; omega) H7.out.2 H7.out.1
    rw [HM.out.1] at cm
    refine cm.mono ?_
    rintro e w8 ⟨rfl, T8⟩
    have H8 := Lib.hid (H7.out.2.trans T8 fun _ _ f => f)
    clear cm T8
    go_wp2_with (go_at_call 9; fail)
    refine (AW.out _ H8.out).mono ?_
    rintro e w9 ⟨rfl, T9⟩
    have H9 := Lib.hid (H8.out.trans T9 fun _ _ f => f)
    clear T9
    go_wp2
    go_ret
    exact ⟨rfl, H9.out⟩
  · have hmf : mat (eqvK 1) (sv l) (sv (signs other.data.toList)) = false := by rw [Bool.eq_false_iff]; exact fun h => hso (HM.out.2.1 h)
    have hne : ¬ s.toList = other.toList := fun h => hso (ByteArray.ext (by rw [← Array.toList_inj]; rw [Lib.toList_data, Lib.toList_data] at h; exact h))
    have hnb : (s.toList == other.toList) = false := by simpa using hne
    have HMF := Lib.hid hmf
    clear hmf hso
    go_wp2_with (go_at_call 13; fail)
    have cm := CK.out (.slice a n c) _ other w7 (by have := HSZ.out; omega) H7.out.2 H7.out.1
    rw [HMF.out] at cm
    refine cm.mono ?_
    rintro e w8 ⟨rfl, T8⟩
    have H8 := Lib.hid (H7.out.2.trans T8 fun _ _ f => f)
    clear cm T8
    go_wp2_with (go_at_call 9; fail)
    refine (AW.out _ H8.out).mono ?_
    rintro e w9 ⟨rfl, T9⟩
    have H9 := Lib.hid (H8.out.trans T9 fun _ _ f => f)
    clear T9
    go_wp2
    go_ret
    exact ⟨rfl, H9.out⟩

theorem quotes_ (s other esc : ByteArray) (w : World) (hT : Tabs w) (h1 : s.size ≤ 140737488355328) (h2 : other.size ≤ 140737488355328) (h3 : esc.size ≤ 140737488355328) :
    Calls Tryz.prog 7 #[.string s, .string other, .string esc] w (QPost w) := by
  by_cases h : s.size + other.size > 200 ∨ esc.size > 10
  · exact quotes_big s other esc w hT h1 h2 h3 h
  · cases hoe : only esc.data.toList with
    | none => exact quotes_none s other esc w hT (by omega) (by omega) hoe
    | some x => exact quotes_some s other esc x w hT (by omega) (by omega) hoe

end Go.Proofs.YtglamoompicciaaGreatDoor
