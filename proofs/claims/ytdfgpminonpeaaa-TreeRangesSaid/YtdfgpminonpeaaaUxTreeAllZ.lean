import Derived.WalkKit
import Derived.Deep.AppendSrc
import Derived.Lib.SliceRun
import Derived.Lib.AppendZeros
import Derived.Lib.Strings
/- PART OF THE PROOF THAT THIS CLAIM HOLDS OF THE GIVEN PROGRAM, FOR EVERY INPUT THAT THE STATEMENT NAMES. No condition besides the statement's own. -/
/- What a call may touch; slices that own their block; append, copy and clear upon them. -/
namespace Go.Ux
open Go Go.RowKit

/-- Of what was there only the blocks of R may have changed. -/
structure Touch (R : Nat → Prop) (w w' : World) : Prop where
  os : w'.os = w.os
  tape : w'.tape = w.tape
  output : w'.output = w.output
  size : w.heap.size ≤ w'.heap.size
  block : ∀ k, k < w.heap.size → ¬ R k → w'.heap[k]? = w.heap[k]?

theorem Touch.refl (R : Nat → Prop) (w : World) : Touch R w w := ⟨rfl, rfl, rfl, Nat.le_refl _, fun _ _ _ => rfl⟩
theorem Touch.trans {R R' : Nat → Prop} {a b c : World} (h : Touch R a b) (k : Touch R' b c) (hR : ∀ i, i < a.heap.size → R' i → R i) : Touch R a c :=
  ⟨k.os.trans h.os, k.tape.trans h.tape, k.output.trans h.output, Nat.le_trans h.size k.size, fun i hi hn =>
    (k.block i (Nat.lt_of_lt_of_le hi h.size) (fun h' => hn (hR i hi h'))).trans (h.block i hi hn)⟩
theorem Touch.mono {R R' : Nat → Prop} {a b : World} (h : Touch R a b) (hR : ∀ i, i < a.heap.size → R i → R' i) : Touch R' a b :=
  ⟨h.os, h.tape, h.output, h.size, fun i hi hn => h.block i hi (fun h' => hn (hR i hi h'))⟩
theorem Touch.drew {R : Nat → Prop} {a w : World} (h : Touch R a w) : Touch R a w.drew := ⟨h.os, h.tape, h.output, h.size, h.block⟩
theorem Touch.of_drew {R : Nat → Prop} {a w : World} (h : Touch R a.drew w) : Touch R a w := ⟨h.os, h.tape, h.output, h.size, h.block⟩
theorem Touch.alloc {R : Nat → Prop} {a w : World} (h : Touch R a w) (o : Obj) : Touch R a (w.alloc o) :=
  ⟨h.os, h.tape, h.output, by have := h.size; simp; omega, fun i hi hn => (Below.heap_alloc w o i (Nat.lt_of_lt_of_le hi h.size)).trans (h.block i hi hn)⟩
theorem Touch.setCell {R : Nat → Prop} {a w : World} (h : Touch R a w) {p : Addr} (hp : p.block < a.heap.size → R p.block) (u : Value) : Touch R a (w.setCell p u) :=
  ⟨h.os, h.tape, h.output, by have := h.size; simpa [World.setCell] using this, fun i hi hn => (heap_setCell_other w p i u (fun e => hn (e ▸ hp (e ▸ hi)))).trans (h.block i hi hn)⟩
theorem Touch.setRow {R : Nat → Prop} {a w : World} (h : Touch R a w) {g : Nat} (hp : g < a.heap.size → R g) (cs : Array Value) : Touch R a (w.setRow g cs) :=
  ⟨h.os, h.tape, h.output, by have := h.size; simpa using this, fun i hi hn => (setRow_other w g i cs (fun e => hn (e ▸ hp (e ▸ hi)))).trans (h.block i hi hn)⟩
theorem Touch.below {w w' : World} (h : Touch (fun _ => False) w w') : Below w.heap.size w w' := ⟨h.os, h.tape, h.output, h.size, fun k hk => h.block k hk (fun f => f)⟩
theorem Touch.of_below {R : Nat → Prop} {w w' : World} (h : Below w.heap.size w w') : Touch R w w' := ⟨h.os, h.tape, h.output, h.size, fun k hk _ => h.block k hk⟩
theorem lt_of_heap {w : World} {b : Nat} {o : Obj} (h : w.heap[b]? = some o) : b < w.heap.size := (Array.getElem?_eq_some_iff.1 h).1
theorem Touch.heap {R : Nat → Prop} {w w' : World} (h : Touch R w w') {b : Nat} {o : Obj} (hb : w.heap[b]? = some o) (hn : ¬ R b) : w'.heap[b]? = some o :=
  (h.block b (lt_of_heap hb) hn).trans hb
theorem Touch.cell {R : Nat → Prop} {w w' : World} (h : Touch R w w') {a : Addr} {v : Value} (hb : w.cell? a = some v) (hn : ¬ R a.block) : w'.cell? a = some v :=
  (World.cell?_of_block (h.block a.block (block_lt_of_cell hb) hn)).trans hb

section own
variable {w : World} {e : TypeId} {size : Nat} {v : Value} {n : Nat} {xs : List Value}

theorem own_touch {R : Nat → Prop} {w' : World} (h : w.ownsRow 0 e size v n xs) (ht : Touch R w w') (hn : ∀ b, v.ownBlock = some b → ¬ R b) : w'.ownsRow 0 e size v n xs := by
  obtain ⟨h1, h2⟩ := h
  refine ⟨h1, h2.imp id fun ⟨g, cap, cur, hv, hg, hh, r⟩ => ⟨g, cap, cur, hv, hg, ht.heap hh (hn g (by rw [hv]; rfl)), r⟩⟩

theorem own_pos (h : w.ownsRow 0 e size v n xs) (hn : 0 < n) : ∃ g cap cur, v = .slice (some ⟨g, 0, none⟩) n cap ∧ n ≤ cap ∧ cap ≤ maxLen ∧ w.heap[g]? = some (.cells cur e (0, 0)) ∧ cur.size = cap * size ∧ cur.toList.take (n * size) = xs := by
  rcases h.2 with ⟨_, h0⟩ | ⟨g, cap, cur, hv, _, hh, h1, h2, h3, h4⟩
  · omega
  · exact ⟨g, cap, cur, hv, h1, h2, hh, h3, h4⟩

theorem own_lt (h : w.ownsRow 0 e size v n xs) : ∀ b, v.ownBlock = some b → b < w.heap.size := fun b hb => (h.lt b hb).2

/-- a row cut at its end -/
theorem own_take {g c i : Nat} (h : w.ownsRow 0 e 1 (.slice (some ⟨g, 0, none⟩) n c) n xs) (hi : i ≤ n) : w.ownsRow 0 e 1 (.slice (some ⟨g, 0, none⟩) i c) i (xs.take i) := by
  obtain ⟨h1, h2⟩ := h
  refine ⟨by simp; omega, .inr ?_⟩
  rcases h2 with ⟨hv, _⟩ | ⟨g', cap, cur, hv, hb, hh, h3, h4, h5, h6⟩
  · cases hv
  · cases hv
    exact ⟨g, c, cur, rfl, hb, hh, by omega, h4, h5, by rw [← h6, List.take_take, Nat.mul_one, Nat.mul_one, Nat.min_eq_left hi]⟩

/-- the cells of a row -/
theorem row_cell {g : Nat} {cur : Array Value} {k : Nat} {t : TypeId} (hh : w.heap[g]? = some (.cells cur t (0, 0))) (ht : cur.toList.take k = xs) (j : Nat) (u : Value) (hj : xs[j]? = some u) : w.cell? ⟨g, j, none⟩ = some u := by
  rw [cell_of_row w g j cur t (0, 0) hh]
  have hlt : j < xs.length := (List.getElem?_eq_some_iff.1 hj).1
  rw [← ht, List.getElem?_take] at hj
  split at hj
  · simpa using hj
  · cases hj
end own

section app
variable {P : Program} (w : World)

/-- append upon a row that is owned: the same row, or a new one. -/
theorem run_app (t ty e : TypeId) (i : TypeInfo) (z : Value) (size bytes : Nat) (ht : P.underlying t = some (.slice e)) (hi : P.info? e = some i) (hz : i.zero = some z)
    (hsize : i.size = size) (hby : i.bytes = bytes) (hzs : z.cells.size = size) (hsz : 0 < size)
    (v : Value) (n : Nat) (xs : List Value) (hown : w.ownsRow 0 e size v n xs) (x : Value) (m : Nat) (news : List Value) (hs : Src P size t x m news w)
    (h63 : n + m ≤ maxLen) (hbytes : (n + m) * bytes ≤ 140737488355328) :
    ∃ v' w', (Builtin.append_ #[t, t] ty #[v, x]).run P w = .ok v' w' ∧ w'.ownsRow 0 e size v' (n + m) (xs ++ news) ∧ Touch (fun k => v.ownBlock = some k) w w' ∧
      (v'.ownBlock = v.ownBlock ∨ ∃ g, v'.ownBlock = some g ∧ w.heap.size ≤ g) ∧ (v' = .slice none 0 0 → v = .slice none 0 0 ∧ m = 0) := by
  subst hsize
  subst hby
  have hsmall : n + m ≤ 9223372036854775807 := by simp only [maxLen] at h63; omega
  have hlen : (xs ++ news).length = (n + m) * i.size := by rw [List.length_append, hown.1, hs.newsLen, Nat.add_mul]
  have grown : ∀ (old : Nat), old < n + m → ∀ (R : Nat → Prop),
      (w.drew.alloc (.cells ((xs ++ news).toArray ++ Builtin.zeroCells z.cells (grownCap w (n + m) old e - (n + m))) e)).ownsRow 0 e i.size
        (.slice (some ⟨w.heap.size, 0, none⟩) (n + m) (grownCap w (n + m) old e)) (n + m) (xs ++ news) ∧
      Touch R w (w.drew.alloc (.cells ((xs ++ news).toArray ++ Builtin.zeroCells z.cells (grownCap w (n + m) old e - (n + m))) e)) := by
    intro old ho R
    have hge := grownCap_ge w (n + m) old e
    have hcm : grownCap w (n + m) old e ≤ maxLen := grownCap_le_maxLen w (n + m) old e h63
    refine ⟨⟨hlen, .inr ⟨w.heap.size, _, _, rfl, Nat.zero_le _, heap_alloc_new w.drew _, hge, hcm, ?_, ?_⟩⟩, ((Touch.refl R w).drew).alloc _⟩
    · simp only [Array.size_append, List.size_toArray, size_zeroCells, hzs, hlen, ← Nat.add_mul]
      congr 1
      omega
    · simp only [Array.toList_append]
      rw [← hlen]
      exact List.take_left
  rcases hown.2 with ⟨rfl, rfl⟩ | ⟨g, cap, cur, rfl, _, hg, hnc, hcm, hcs, htake⟩
  · have hx : xs = [] := List.eq_nil_of_length_eq_zero (by simpa using hown.1)
    subst hx
    by_cases hm : m = 0
    · subst hm
      have hn : news = [] := List.eq_nil_of_length_eq_zero (by simpa using hs.newsLen)
      subst hn
      have h0 := hs.cells
      refine ⟨.slice none 0 0, w, ?_, World.ownsRow_nil w 0 e i.size, Touch.refl _ _, .inl rfl, fun _ => ⟨rfl, rfl⟩⟩
      rcases hs.kind with ⟨e', hk⟩ | hk <;> simp [Builtin.append_, run_underlying ht, run_underlying hk, sizeOf, typeInfo, hi, hs.len, h0]
    · have hr := run_append_grow_src (P := P) w t t ty e i z ht hi hz none 0 0 [] (run_firstCells_none w.drew i.size 0 0 0) x m news hs (by omega) (by omega) (growslice_fits (by omega) hbytes)
      have hgr := grown 0 (by omega) (fun k => Value.ownBlock (.slice none 0 0) = some k)
      simp only [Nat.zero_add, List.nil_append] at hgr hr ⊢
      exact ⟨_, _, hr, hgr.1, hgr.2, .inr ⟨_, rfl, Nat.le_refl _⟩, fun h => by cases h⟩
  · by_cases hroom : n + m ≤ cap
    · have hfit : n * i.size + news.length ≤ cur.size := by rw [hs.newsLen, hcs, ← Nat.add_mul]; exact Nat.mul_le_mul_right _ hroom
      have hst := run_storeCells_at P g (n * i.size) e news 0 cur w hg (by simpa using hfit) hs.one
      simp only [Nat.add_zero] at hst
      have hr : (Builtin.append_ #[t, t] ty #[.slice (some ⟨g, 0, none⟩) n cap, x]).run P w = .ok (.slice (some ⟨g, 0, none⟩) (n + m) cap) (w.setRow g (cur.toList.take (n * i.size) ++ news ++ cur.toList.drop (n * i.size + news.length)).toArray) := by
        rcases hs.kind with ⟨e', hk⟩ | hk <;> simp [Builtin.append_, run_underlying ht, run_underlying hk, sizeOf, typeInfo, hi, hs.len, hroom, hs.cells, Addr.add_lit, hst]
      refine ⟨_, _, hr, ⟨hlen, .inr ⟨g, cap, _, rfl, Nat.zero_le _, setRow_heap w g cur _ e _ hg, hroom, hcm, ?_, ?_⟩⟩, (Touch.refl (fun k => Value.ownBlock (.slice (some ⟨g, 0, none⟩) n cap) = some k) w).setRow (fun _ => rfl) _, .inl rfl, fun h => by cases h⟩
      · simp only [List.size_toArray, List.length_append, List.length_take, List.length_drop, Array.length_toList]
        omega
      · rw [htake, ← hlen]
        exact List.take_left
    · have hold : (Builtin.firstCells i.size n (.slice (some ⟨g, 0, none⟩) n cap)).run P w.drew = .ok xs.toArray w.drew :=
        run_firstCells_some w.drew i.size n ⟨g, 0, none⟩ n cap xs hown.1 (by simpa using hown.cells (g := g) rfl)
      have hr := run_append_grow_src (P := P) w t t ty e i z ht hi hz (some ⟨g, 0, none⟩) n cap xs hold x m news hs (by omega) (by omega) (growslice_fits (by omega) hbytes)
      have hgr := grown cap (by omega) (fun k => Value.ownBlock (.slice (some ⟨g, 0, none⟩) n cap) = some k)
      exact ⟨_, _, hr, hgr.1, hgr.2, .inr ⟨_, rfl, Nat.le_refl _⟩, fun h => by cases h⟩
/-- append of m zeros where there is no room: a new row. -/
theorem run_app_zeros (t tn ty e : TypeId) (i : TypeInfo) (z : Value) (k kn : IntKind) (ht : P.underlying t = some (.slice e)) (htn : P.underlying tn = some (.int kn)) (hi : P.info? e = some i) (hz : i.zero = some z)
    (hs : 0 < i.size) (base : Option Addr) (n c m : Nat) (olds : List Value) (hl : olds.length = n * i.size) (hold : ∀ j u, olds[j]? = some u → ∃ a, base = some a ∧ w.cell? (a.add j) = some u)
    (h0 : 0 < m) (hno : c < n + m) (h63 : n + m ≤ maxLen) (h47 : (n + m) * i.bytes ≤ 140737488355328) :
    (Builtin.append_ #[t, tn] ty #[.slice base n c, .int k m]).run P w =
      .ok (.slice (some ⟨w.heap.size, 0, none⟩) (n + m) (grownCap w (n + m) c e)) (w.drew.alloc (.cells (olds.toArray ++ Builtin.zeroCells z.cells m ++ Builtin.zeroCells z.cells (grownCap w (n + m) c e - (n + m))) e)) := by
  have hsm : n + m ≤ 9223372036854775807 := by simp only [maxLen] at h63; omega
  have hn : ¬ (n + m ≤ c) := by omega
  have hw : IntKind.i64.wrap (m : Int) = m := by rw [IntKind.wrap_i64]; omega
  have h63' : ¬ (9223372036854775807 < ((n : Int) + (m : Int))) := by omega
  have hfit := growslice_fits (bytes := i.bytes) hno h47
  have h48' : ¬ (281474976710656 < Builtin.nextslicecap (n + m) c * i.bytes) := by omega
  have hmb : m * i.bytes ≤ (n + m) * i.bytes := Nat.mul_le_mul_right _ (by omega)
  have h48i : ¬ (281474976710656 < (m : Int) * (i.bytes : Int)) := by
    rw [← Int.natCast_mul]
    omega
  have hneg : ¬ ((m : Int) < 0) := by omega
  have hns : ¬ (m * i.size = 0) := Nat.mul_ne_zero (by omega) (by omega)
  have hfo : (Builtin.firstCells i.size n (.slice base n c)).run P w.drew = .ok olds.toArray w.drew := by
    cases base with
    | none =>
      have : olds = [] := by
        cases olds with
        | nil => rfl
        | cons u us => obtain ⟨a, ha, _⟩ := hold 0 u rfl; cases ha
      subst this
      exact run_firstCells_none w.drew i.size n n c
    | some a => exact run_firstCells_some w.drew i.size n a n c olds hl (fun j u hj => by
        obtain ⟨a', ha, hc⟩ := hold j u hj
        cases ha
        simpa using hc)
  simp [Builtin.append_, run_underlying ht, run_underlying htn, sizeOf, typeInfo, zeroValue, hi, hz, asInt, asIntOf, hw, hn, hneg, hns, h63', h48', h48i, Question.forced, hfo, newRow, grownCap]

/-- copy into a row. -/
theorem run_copy_own (dT sT ty elem : TypeId) (hu : P.underlying dT = some (.slice elem)) (hsz : (P.info? elem).map (·.size) = some 1)
    (g o dLen dCap : Nat) (sp : Option Addr) (sLen sCap : Nat) (cur : Array Value) (t : TypeId) (hg : w.heap[g]? = some (.cells cur t (0, 0))) (cs : List Value) (hn : cs.length = Nat.min sLen dLen)
    (hsrc : ∀ j u, cs[j]? = some u → ∃ a, sp = some a ∧ w.cell? (a.add j) = some u) (hfit : o + cs.length ≤ cur.size) (h1 : ∀ v ∈ cs, v.oneCell' = true) :
    (Builtin.copy_ #[dT, sT] ty #[.slice (some ⟨g, o, none⟩) dLen dCap, .slice sp sLen sCap]).run P w =
      .ok (goInt cs.length) (w.setRow g (cur.toList.take o ++ cs ++ cur.toList.drop (o + cs.length)).toArray) := by
  have hst := run_storeCells_at P g o t cs 0 cur w hg (by simpa using hfit) h1
  cases hq : P.info? elem with
  | none => simp [hq] at hsz
  | some i =>
    have hi : i.size = 1 := by simpa [hq] using hsz
    have hl : (Builtin.firstCells 1 cs.length (.slice sp sLen sCap)).run P w = .ok cs.toArray w := by
      cases sp with
      | none =>
        have : cs = [] := by
          cases cs with
          | nil => rfl
          | cons u us => obtain ⟨a, ha, _⟩ := hsrc 0 u rfl; cases ha
        subst this
        exact run_firstCells_none w 1 0 sLen sCap
      | some a =>
        have := run_loadCells_list (P := P) w a cs (fun j u hj => by
          obtain ⟨a', ha, hc⟩ := hsrc j u hj
          cases ha
          exact hc)
        simpa [Builtin.firstCells] using this
    simp [Builtin.copy_, run_underlying hu, Builtin.lenOf, sizeOf, typeInfo, hq, hi, ← hn, hl, hst]

/-- clear of a piece of a row. -/
theorem run_clear_own (t e ty : TypeId) (z : Value) (ht : P.underlying t = some (.slice e)) (hv : ∀ w, (zeroValue e).run P w = .ok z w) (hz : z.cells = #[z]) (h1 : z.oneCell' = true)
    (g o n c : Nat) (cur : Array Value) (tt : TypeId) (hg : w.heap[g]? = some (.cells cur tt (0, 0))) (hfit : o + n ≤ cur.size) :
    (Builtin.clear_ #[t] ty #[.slice (some ⟨g, o, none⟩) n c]).run P w = .ok (.tuple #[]) (w.setRow g (cur.toList.take o ++ List.replicate n z ++ cur.toList.drop (o + n)).toArray) := by
  have hzc : (Builtin.zeroCells z.cells n).toList = List.replicate n z := by
    rw [hz]
    simp [Builtin.zeroCells]
    apply List.ext_getElem
    · simp
    · intro i h1 h2
      simp [Nat.mod_one]
  cases n with
  | zero =>
    have := setRow_self w g cur tt (0, 0) hg
    simp [Builtin.clear_, run_underlying ht, this]
  | succ n =>
    have hst := run_storeCells_at P g o tt (List.replicate (n + 1) z) 0 cur w hg (by simpa using hfit) (by intro v hv'; rw [List.eq_of_mem_replicate hv']; exact h1)
    simp only [Nat.add_zero, List.length_replicate] at hst
    simp [Builtin.clear_, run_underlying ht, hv, hzc, hst]
end app

@[go_sem] theorem eql_slice_nil {P : Program} (w : World) (t e : TypeId) (a : Option Addr) (n c : Nat) (h : P.underlying t = some (.slice e)) : (binOp .eql t (.slice a n c) (.slice none 0 0)).run P w = .ok (.bool a.isNone) w :=
  Lib.run_eql_slice_nil w t e a n c 0 0 h
end Go.Ux
/- The order of texts, byte by byte; where a key stands in a list in order. -/
namespace Go.Ux
open Go

/-- the model's order of bytes is the lists' -/
theorem bytesLess_dec : ∀ (x y : List UInt8), Op.bytesLess x y = decide (x < y)
  | [], [] => by simp [Op.bytesLess]
  | _ :: _, [] => by simp [Op.bytesLess]
  | [], _ :: _ => by simp [Op.bytesLess]
  | a :: x, b :: y => by
    have ih := bytesLess_dec x y
    simp only [Op.bytesLess, List.cons_lt_cons_iff]
    rw [ih]
    by_cases h : a < b
    · simp [h]
    · by_cases e : a = b
      · subst e; simp
      · simp [h, e]

/-- a stands below b -/
def slt (a b : ByteArray) : Bool := Op.bytesLess a.toList b.toList

theorem ba_ext {a b : ByteArray} (h : a.toList = b.toList) : a = b := by
  rw [Lib.toList_data, Lib.toList_data] at h
  cases a with
  | mk x => cases b with
    | mk y => exact congrArg ByteArray.mk (Array.toList_inj.1 h)

theorem slt_iff (a b : ByteArray) : slt a b = true ↔ a.toList < b.toList := by simp [slt, bytesLess_dec]
theorem slt_irrefl (a : ByteArray) : slt a a = false := by
  cases h : slt a a with
  | false => rfl
  | true => exact absurd ((slt_iff a a).1 h) (List.lt_irrefl _)
theorem slt_trans {a b c : ByteArray} (h : slt a b = true) (k : slt b c = true) : slt a c = true :=
  (slt_iff a c).2 (List.lt_trans ((slt_iff a b).1 h) ((slt_iff b c).1 k))
theorem slt_asymm {a b : ByteArray} (h : slt a b = true) : slt b a = false := by
  cases k : slt b a with
  | false => rfl
  | true => have := slt_trans h k; rw [slt_irrefl] at this; cases this
theorem slt_conn {a b : ByteArray} (h : slt a b = false) (k : slt b a = false) : a = b := by
  have h1 : ¬ a.toList < b.toList := fun x => by rw [(slt_iff a b).2 x] at h; cases h
  have h2 : ¬ b.toList < a.toList := fun x => by rw [(slt_iff b a).2 x] at k; cases k
  exact ba_ext (List.le_antisymm (List.not_lt.1 h2) (List.not_lt.1 h1))
theorem slt_of_le {a b c : ByteArray} (h : slt b a = false) (k : slt b c = true) : slt a c = true := by
  cases hac : slt a c with
  | true => rfl
  | false =>
    cases hab : slt a b with
    | true => rw [slt_trans hab k] at hac; cases hac
    | false => have := slt_conn hab h; subst this; rw [k] at hac; cases hac
theorem slt_of_le' {a b c : ByteArray} (h : slt a b = true) (k : slt c b = false) : slt a c = true := by
  cases hac : slt a c with
  | true => rfl
  | false =>
    cases hca : slt c a with
    | true => rw [slt_trans hca h] at k; cases k
    | false => have := slt_conn hac hca; subst this; rw [h] at k; cases k

/-- keys in order -/
def Rises (ks : List ByteArray) : Prop := ks.Pairwise fun a b => slt a b = true

/-- how many keys stand below one -/
def lb (ks : List ByteArray) (k : ByteArray) : Nat := (ks.takeWhile (slt · k)).length

theorem lb_le (ks : List ByteArray) (k : ByteArray) : lb ks k ≤ ks.length := by
  unfold lb; exact (List.takeWhile_prefix _).length_le

theorem lb_below (ks : List ByteArray) (k : ByteArray) (i : Nat) (x : ByteArray) (h : ks[i]? = some x) (hi : i < lb ks k) : slt x k = true := by
  induction ks generalizing i with
  | nil => simp at h
  | cons a l ih =>
    unfold lb at hi
    rw [List.takeWhile_cons] at hi
    cases ha : slt a k with
    | false => simp [ha] at hi
    | true =>
      simp only [ha, if_true, List.length_cons] at hi
      cases i with
      | zero => simp at h; subst h; exact ha
      | succ i => exact ih i (by simpa using h) (by unfold lb; omega)

theorem lb_at (ks : List ByteArray) (k : ByteArray) (x : ByteArray) (h : ks[lb ks k]? = some x) : slt x k = false := by
  induction ks with
  | nil => simp at h
  | cons a l ih =>
    unfold lb at h
    rw [List.takeWhile_cons] at h
    cases ha : slt a k with
    | false => simp [ha] at h; subst h; exact ha
    | true =>
      simp only [ha, if_true, List.length_cons, List.getElem?_cons_succ] at h
      exact ih h

theorem lb_above {ks : List ByteArray} (hs : Rises ks) (k : ByteArray) (i : Nat) (x : ByteArray) (h : ks[i]? = some x) (hi : lb ks k ≤ i) : slt x k = false := by
  rcases Nat.eq_or_lt_of_le hi with rfl | hlt
  · exact lb_at ks k x h
  · have hil : i < ks.length := (List.getElem?_eq_some_iff.1 h).1
    have hx : ks[lb ks k]? = some ks[lb ks k] := List.getElem?_eq_getElem (by omega)
    have h1 := lb_at ks k _ hx
    have h2 := List.pairwise_iff_getElem.1 hs (lb ks k) i (by omega) hil hlt
    rw [(List.getElem?_eq_some_iff.1 h).2] at h2
    cases hxk : slt x k with
    | false => rfl
    | true => rw [slt_trans h2 hxk] at h1; cases h1

theorem lb_unique {ks : List ByteArray} {k : ByteArray} {p : Nat} (hp : p ≤ ks.length) (h1 : ∀ i x, ks[i]? = some x → i < p → slt x k = true) (h2 : ∀ x, ks[p]? = some x → slt x k = false) : lb ks k = p := by
  rcases Nat.lt_trichotomy (lb ks k) p with h | h | h
  · have hx : ks[lb ks k]? = some ks[lb ks k] := List.getElem?_eq_getElem (by omega)
    have a := h1 _ _ hx h
    rw [lb_at ks k _ hx] at a; cases a
  · exact h
  · have hl := lb_le ks k
    have hx : ks[p]? = some ks[p] := List.getElem?_eq_getElem (by omega)
    have a := h2 _ hx
    rw [lb_below ks k p _ hx h] at a; cases a

/-- is a key there? -/
def has (ks : List ByteArray) (k : ByteArray) : Bool := decide (ks[lb ks k]? = some k)

theorem has_iff {ks : List ByteArray} (hs : Rises ks) (k : ByteArray) : has ks k = true ↔ k ∈ ks := by
  unfold has
  rw [decide_eq_true_iff]
  constructor
  · intro h; exact List.mem_of_getElem? h
  · intro h
    obtain ⟨i, hi, rfl⟩ := List.getElem_of_mem h
    have hx : ks[i]? = some ks[i] := List.getElem?_eq_getElem hi
    have : lb ks ks[i] = i := by
      rcases Nat.lt_trichotomy (lb ks ks[i]) i with h' | h' | h'
      · have hl := lb_le ks ks[i]
        have hy : ks[lb ks ks[i]]? = some ks[lb ks ks[i]] := List.getElem?_eq_getElem (by omega)
        have a := lb_at ks ks[i] _ hy
        have b := List.pairwise_iff_getElem.1 hs (lb ks ks[i]) i (by omega) hi h'
        rw [b] at a; cases a
      · exact h'
      · have a := lb_below ks ks[i] i _ hx h'
        rw [slt_irrefl] at a; cases a
    rw [this]; exact hx
end Go.Ux
/- Trees of keys, and how they lie in memory: each node and each of its rows in a block of its own. -/
namespace Go.Ux
open Go Go.RowKit

/-- a tree: keys and rows, or keys and the trees between them -/
inductive T where
  | leaf (l : List (ByteArray × Int))
  | node (ks : List ByteArray) (cs : List T)

def T.size : T → Nat
  | .leaf l => l.length
  | .node _ cs => cs.length

/-- the block of a slice, if it has one -/
def blk (v : Value) : List Nat := v.ownBlock.toList

def ptr (x : Nat) : Value := .pointer (some ⟨x, 0, none⟩)

mutual
/-- The tree t lies at block x; fp: all of its blocks. -/
def NodeAt (w : World) : T → Nat → List Nat → Prop
  | .leaf l, x, fp => ∃ kv rv, w.heap[x]? = some (.cells #[kv, rv, .slice none 0 0] 62 (0, 0)) ∧ w.ownsRow 0 9 1 kv l.length (l.map fun p => .string p.1) ∧
      w.ownsRow 0 3 1 rv l.length (l.map fun p => .int .i64 p.2) ∧ fp = x :: (blk kv ++ blk rv)
  | .node ks cs, x, fp => ∃ kv cv xs fs, w.heap[x]? = some (.cells #[kv, .slice none 0 0, cv] 62 (0, 0)) ∧ w.ownsRow 0 9 1 kv ks.length (ks.map .string) ∧
      w.ownsRow 0 59 1 cv cs.length (xs.map ptr) ∧ NodesAt w cs xs fs ∧ fp = x :: (blk kv ++ blk cv ++ fs)
/-- The trees lie at the blocks xs. -/
def NodesAt (w : World) : List T → List Nat → List Nat → Prop
  | [], xs, fs => xs = [] ∧ fs = []
  | t :: ts, xs, fs => ∃ x xs' f fs', xs = x :: xs' ∧ fs = f ++ fs' ∧ NodeAt w t x f ∧ NodesAt w ts xs' fs'
end

theorem own_blk {w : World} {e : TypeId} {size : Nat} {v : Value} {n : Nat} {xs : List Value} {R : Nat → Prop} {w' : World} (h : w.ownsRow 0 e size v n xs) (ht : Touch R w w') (hn : ∀ b ∈ blk v, ¬ R b) : w'.ownsRow 0 e size v n xs :=
  own_touch h ht fun b hb => hn b (by simp [blk, hb])

theorem blk_lt {w : World} {e : TypeId} {size : Nat} {v : Value} {n : Nat} {xs : List Value} (h : w.ownsRow 0 e size v n xs) : ∀ b ∈ blk v, b < w.heap.size := fun b hb =>
  own_lt h b (by simpa [blk] using hb)

mutual
theorem NodeAt.lt {w : World} : ∀ {t : T} {x : Nat} {fp : List Nat}, NodeAt w t x fp → ∀ b ∈ fp, b < w.heap.size
  | .leaf l, x, fp, h => by
    obtain ⟨kv, rv, h1, h2, h3, rfl⟩ := h
    intro b hb
    rcases List.mem_cons.1 hb with rfl | hb
    · exact lt_of_heap h1
    · rcases List.mem_append.1 hb with hb | hb
      · exact blk_lt h2 b hb
      · exact blk_lt h3 b hb
  | .node ks cs, x, fp, h => by
    obtain ⟨kv, cv, xs, fs, h1, h2, h3, h4, rfl⟩ := h
    intro b hb
    rcases List.mem_cons.1 hb with rfl | hb
    · exact lt_of_heap h1
    · rcases List.mem_append.1 hb with hb | hb
      · rcases List.mem_append.1 hb with hb | hb
        · exact blk_lt h2 b hb
        · exact blk_lt h3 b hb
      · exact NodesAt.lt h4 b hb
theorem NodesAt.lt {w : World} : ∀ {cs : List T} {xs fs : List Nat}, NodesAt w cs xs fs → ∀ b ∈ fs, b < w.heap.size
  | [], xs, fs, h => by obtain ⟨rfl, rfl⟩ := h; intro b hb; cases hb
  | t :: ts, xs, fs, h => by
    obtain ⟨x, xs', f, fs', rfl, rfl, h1, h2⟩ := h
    intro b hb
    rcases List.mem_append.1 hb with hb | hb
    · exact NodeAt.lt h1 b hb
    · exact NodesAt.lt h2 b hb
end

mutual
theorem NodeAt.touch {w w' : World} {R : Nat → Prop} (ht : Touch R w w') : ∀ {t : T} {x : Nat} {fp : List Nat}, NodeAt w t x fp → (∀ b ∈ fp, ¬ R b) → NodeAt w' t x fp
  | .leaf l, x, fp, h, hn => by
    obtain ⟨kv, rv, h1, h2, h3, rfl⟩ := h
    exact ⟨kv, rv, ht.heap h1 (hn x (by simp)), own_blk h2 ht (fun b hb => hn b (by simp [hb])), own_blk h3 ht (fun b hb => hn b (by simp [hb])), rfl⟩
  | .node ks cs, x, fp, h, hn => by
    obtain ⟨kv, cv, xs, fs, h1, h2, h3, h4, rfl⟩ := h
    exact ⟨kv, cv, xs, fs, ht.heap h1 (hn x (by simp)), own_blk h2 ht (fun b hb => hn b (by simp [hb])), own_blk h3 ht (fun b hb => hn b (by simp [hb])), NodesAt.touch ht h4 (fun b hb => hn b (by simp [hb])), rfl⟩
theorem NodesAt.touch {w w' : World} {R : Nat → Prop} (ht : Touch R w w') : ∀ {cs : List T} {xs fs : List Nat}, NodesAt w cs xs fs → (∀ b ∈ fs, ¬ R b) → NodesAt w' cs xs fs
  | [], xs, fs, h, _ => h
  | t :: ts, xs, fs, h, hn => by
    obtain ⟨x, xs', f, fs', rfl, rfl, h1, h2⟩ := h
    exact ⟨x, xs', f, fs', rfl, rfl, NodeAt.touch ht h1 (fun b hb => hn b (by simp [hb])), NodesAt.touch ht h2 (fun b hb => hn b (by simp [hb]))⟩
end

theorem NodesAt.length {w : World} : ∀ {cs : List T} {xs fs : List Nat}, NodesAt w cs xs fs → xs.length = cs.length
  | [], xs, fs, h => by obtain ⟨rfl, rfl⟩ := h; rfl
  | t :: ts, xs, fs, h => by obtain ⟨x, xs', f, fs', rfl, rfl, h1, h2⟩ := h; simp [NodesAt.length h2]

theorem NodesAt.append {w : World} : ∀ {A B : List T} {xa xb fa fb : List Nat}, NodesAt w A xa fa → NodesAt w B xb fb → NodesAt w (A ++ B) (xa ++ xb) (fa ++ fb)
  | [], B, xa, xb, fa, fb, h, k => by obtain ⟨rfl, rfl⟩ := h; exact k
  | t :: ts, B, xa, xb, fa, fb, h, k => by
    obtain ⟨x, xs', f, fs', rfl, rfl, h1, h2⟩ := h
    exact ⟨x, xs' ++ xb, f, fs' ++ fb, rfl, by rw [List.append_assoc], h1, NodesAt.append h2 k⟩

theorem NodesAt.split {w : World} : ∀ {A B : List T} {xs fs : List Nat}, NodesAt w (A ++ B) xs fs → ∃ xa xb fa fb, xs = xa ++ xb ∧ fs = fa ++ fb ∧ NodesAt w A xa fa ∧ NodesAt w B xb fb
  | [], B, xs, fs, h => ⟨[], xs, [], fs, rfl, rfl, ⟨rfl, rfl⟩, h⟩
  | t :: ts, B, xs, fs, h => by
    obtain ⟨x, xs', f, fs', rfl, rfl, h1, h2⟩ := h
    obtain ⟨xa, xb, fa, fb, rfl, rfl, h3, h4⟩ := NodesAt.split h2
    exact ⟨x :: xa, xb, f ++ fa, fb, rfl, by rw [List.append_assoc], ⟨x, xa, f, fa, rfl, rfl, h1, h3⟩, h4⟩

/-- the trees ahead of one, it, and those behind it -/
theorem NodesAt.at {w : World} {A B : List T} {c : T} {xs fs : List Nat} (h : NodesAt w (A ++ c :: B) xs fs) :
    ∃ xa x xb fa f fb, xs = xa ++ x :: xb ∧ fs = fa ++ (f ++ fb) ∧ NodesAt w A xa fa ∧ NodeAt w c x f ∧ NodesAt w B xb fb := by
  obtain ⟨xa, xb, fa, fb, rfl, rfl, h1, x, xb', f, fb', rfl, rfl, h2, h3⟩ := NodesAt.split h
  exact ⟨xa, x, xb', fa, f, fb', rfl, rfl, h1, h2, h3⟩

theorem NodesAt.mk {w : World} {A B : List T} {c : T} {xa xb fa f fb : List Nat} {x : Nat} (h1 : NodesAt w A xa fa) (h2 : NodeAt w c x f) (h3 : NodesAt w B xb fb) : NodesAt w (A ++ c :: B) (xa ++ x :: xb) (fa ++ (f ++ fb)) :=
  NodesAt.append h1 ⟨x, xb, f, fb, rfl, rfl, h2, h3⟩

theorem NodeAt.mem {w : World} {t : T} {x : Nat} {fp : List Nat} (h : NodeAt w t x fp) : x ∈ fp := by
  cases t with
  | leaf l => obtain ⟨_, _, _, _, _, rfl⟩ := h; simp
  | node ks cs => obtain ⟨_, _, _, _, _, _, _, _, rfl⟩ := h; simp

/-- the first half, the key between, the second half -/
def half1 : T → T
  | .leaf l => .leaf (l.take (l.length / 2))
  | .node ks cs => .node (ks.take (cs.length / 2 - 1)) (cs.take (cs.length / 2))
def half2 : T → T
  | .leaf l => .leaf (l.drop (l.length / 2))
  | .node ks cs => .node (ks.drop (cs.length / 2)) (cs.drop (cs.length / 2))
def halfK : T → ByteArray
  | .leaf l => ((l[l.length / 2]?).map (·.1)).getD ⟨#[]⟩
  | .node ks cs => (ks[cs.length / 2 - 1]?).getD ⟨#[]⟩

mutual
/-- one more tree than keys between them, at each node -/
def Shp : T → Prop
  | .leaf _ => True
  | .node ks cs => cs.length = ks.length + 1 ∧ Shps cs
def Shps : List T → Prop
  | [] => True
  | t :: ts => Shp t ∧ Shps ts
end

theorem Shps.mem : ∀ {cs : List T}, Shps cs → ∀ t ∈ cs, Shp t
  | _ :: _, h, t, ht => by
    rcases List.mem_cons.1 ht with rfl | h'
    · exact h.1
    · exact Shps.mem h.2 t h'
theorem Shps.mk : ∀ {cs : List T}, (∀ t ∈ cs, Shp t) → Shps cs
  | [], _ => trivial
  | _ :: _, h => ⟨h _ (by simp), Shps.mk fun t ht => h t (by simp [ht])⟩

/-- the child that has a key -/
def wayN (ks : List ByteArray) (k : ByteArray) : Nat := lb ks k + if has ks k = true then 1 else 0
end Go.Ux
/- Trees of keys, the plain law: what put and del make of a tree is what they make of a list in order. -/
namespace Go.Ux
open Go

abbrev Ent := ByteArray × Int

mutual
def flat : T → List Ent
  | .leaf l => l
  | .node _ cs => flats cs
def flats : List T → List Ent
  | [] => []
  | t :: ts => flat t ++ flats ts
end

theorem flats_append (A B : List T) : flats (A ++ B) = flats A ++ flats B := by
  induction A with
  | nil => rfl
  | cons t A ih => simp only [List.cons_append, flats, ih, List.append_assoc]
theorem flats_cons (t : T) (B : List T) : flats (t :: B) = flat t ++ flats B := rfl
theorem flats_at (A B : List T) (c : T) : flats (A ++ c :: B) = flats A ++ (flat c ++ flats B) := by rw [flats_append]; rfl
theorem mem_flats {p : Ent} {cs : List T} : p ∈ flats cs ↔ ∃ (j : Nat) (c : T), cs[j]? = some c ∧ p ∈ flat c := by
  induction cs with
  | nil => simp [flats]
  | cons t ts ih =>
    rw [flats_cons, List.mem_append, ih]
    constructor
    · rintro (h | ⟨j, c, hc, hp⟩)
      · exact ⟨0, t, rfl, h⟩
      · exact ⟨j + 1, c, by simpa using hc, hp⟩
    · rintro ⟨j, c, hc, hp⟩
      cases j with
      | zero => simp at hc; subst hc; exact .inl hp
      | succ j => exact .inr ⟨j, c, by simpa using hc, hp⟩

/-- all keys below one; none below it -/
def AllLt (l : List Ent) (s : ByteArray) : Prop := ∀ p ∈ l, slt p.1 s = true
def AllGe (l : List Ent) (s : ByteArray) : Prop := ∀ p ∈ l, slt p.1 s = false
def Up (l : List Ent) : Prop := l.Pairwise fun p q => slt p.1 q.1 = true

/-- each key between two trees parts what is ahead of it from what is behind it -/
def Sep (ks : List ByteArray) (cs : List T) : Prop := ∀ (i : Nat) (s : ByteArray) (j : Nat) (c : T), ks[i]? = some s → cs[j]? = some c → (j ≤ i → AllLt (flat c) s) ∧ (i < j → AllGe (flat c) s)

/-- all nodes below the root have what they should; d: how many nodes stand on one another -/
def Good (fan : Nat) : Nat → T → Prop
  | 0, t => ∃ l, t = .leaf l
  | d + 1, t => ∃ ks cs, t = .node ks cs ∧ cs.length = ks.length + 1 ∧ Sep ks cs ∧ ∀ c ∈ cs, Good fan d c ∧ fan / 2 ≤ c.size ∧ c.size ≤ fan

/-! ### lists in order -/
def keys (l : List Ent) : List ByteArray := l.map (·.1)
theorem Up.rises {l : List Ent} (h : Up l) : Rises (keys l) := by unfold Rises keys; rw [List.pairwise_map]; exact h

/-- put, and take away -/
def ins (k : ByteArray) (v : Int) (l : List Ent) : List Ent := if has (keys l) k = true then l.take (lb (keys l) k) ++ (k, v) :: l.drop (lb (keys l) k + 1) else l.take (lb (keys l) k) ++ (k, v) :: l.drop (lb (keys l) k)
def del (k : ByteArray) (l : List Ent) : List Ent := if has (keys l) k = true then l.take (lb (keys l) k) ++ l.drop (lb (keys l) k + 1) else l

theorem keys_append (A B : List Ent) : keys (A ++ B) = keys A ++ keys B := List.map_append
theorem keys_length (A : List Ent) : (keys A).length = A.length := List.length_map _
theorem mem_keys {A : List Ent} {x : ByteArray} (h : x ∈ keys A) : ∃ p ∈ A, p.1 = x := by
  obtain ⟨p, hp, rfl⟩ := List.mem_map.1 h
  exact ⟨p, hp, rfl⟩

theorem lb_append {A B : List ByteArray} {k : ByteArray} (h : ∀ x ∈ A, slt x k = true) : lb (A ++ B) k = A.length + lb B k := by
  induction A with
  | nil => simp
  | cons a A ih =>
    have ha := h a (by simp)
    have := ih (fun x hx => h x (by simp [hx]))
    unfold lb at this ⊢
    rw [List.cons_append, List.takeWhile_cons]
    simp only [ha, if_true, List.length_cons, this]
    omega
theorem lb_right {C B : List ByteArray} {k : ByteArray} (h : ∀ x ∈ B, slt x k = false) : lb (C ++ B) k = lb C k := by
  induction C with
  | nil =>
    cases B with
    | nil => rfl
    | cons b B => unfold lb; rw [List.nil_append, List.takeWhile_cons]; simp [h b (by simp)]
  | cons a C ih =>
    unfold lb at ih ⊢
    rw [List.cons_append, List.takeWhile_cons, List.takeWhile_cons]
    cases slt a k with
    | true => simp only [if_true, List.length_cons, ih]
    | false => rfl
theorem has_left {A C : List ByteArray} {k : ByteArray} (h : ∀ x ∈ A, slt x k = true) : has (A ++ C) k = has C k := by
  unfold has
  rw [lb_append h, List.getElem?_append_right (by omega), Nat.add_sub_cancel_left]
theorem has_right {C B : List ByteArray} {k : ByteArray} (h : ∀ x ∈ B, slt k x = true) : has (C ++ B) k = has C k := by
  unfold has
  rw [lb_right (fun x hx => slt_asymm (h x hx))]
  have hl := lb_le C k
  rcases Nat.lt_or_ge (lb C k) C.length with h' | h'
  · rw [List.getElem?_append_left h']
  · have e : lb C k = C.length := by omega
    have hC : C[C.length]? = none := List.getElem?_eq_none (Nat.le_refl _)
    rw [e, List.getElem?_append_right (Nat.le_refl _), Nat.sub_self, hC]
    cases B with
    | nil => rfl
    | cons b B =>
      have hb := h b (by simp)
      simp
      intro e'
      rw [e', slt_irrefl] at hb
      cases hb

theorem ins_left {A C : List Ent} {k : ByteArray} {v : Int} (h : AllLt A k) : ins k v (A ++ C) = A ++ ins k v C := by
  have hA : ∀ x ∈ keys A, slt x k = true := fun x hx => by obtain ⟨p, hp, rfl⟩ := mem_keys hx; exact h p hp
  have e1 : (keys A).length = A.length := keys_length A
  unfold ins
  rw [keys_append, has_left hA, lb_append hA, e1]
  have t : ∀ n, (A ++ C).take (A.length + n) = A ++ C.take n := fun n => by rw [List.take_length_add_append]
  have d : ∀ n, (A ++ C).drop (A.length + n) = C.drop n := fun n => by rw [List.drop_length_add_append]
  rw [Nat.add_assoc, t, d, d]
  split <;> rw [List.append_assoc]
theorem ins_right {C B : List Ent} {k : ByteArray} {v : Int} (h : ∀ p ∈ B, slt k p.1 = true) : ins k v (C ++ B) = ins k v C ++ B := by
  have hB : ∀ x ∈ keys B, slt k x = true := fun x hx => by obtain ⟨p, hp, rfl⟩ := mem_keys hx; exact h p hp
  have hl := lb_le (keys C) k
  rw [keys_length] at hl
  unfold ins
  rw [keys_append, has_right hB, lb_right (fun x hx => slt_asymm (hB x hx))]
  split
  · rename_i hh
    have hlt : lb (keys C) k < C.length := by
      unfold has at hh
      rw [decide_eq_true_iff] at hh
      have := (List.getElem?_eq_some_iff.1 hh).1
      rwa [keys_length] at this
    rw [List.take_append_of_le_length hl, List.drop_append_of_le_length (by omega)]
    simp
  · rw [List.take_append_of_le_length hl, List.drop_append_of_le_length hl]
    simp
theorem ins_mid {A C B : List Ent} {k : ByteArray} {v : Int} (hA : AllLt A k) (hB : ∀ p ∈ B, slt k p.1 = true) : ins k v (A ++ (C ++ B)) = A ++ (ins k v C ++ B) := by
  rw [ins_left hA, ins_right hB]

theorem del_left {A C : List Ent} {k : ByteArray} (h : AllLt A k) : del k (A ++ C) = A ++ del k C := by
  have hA : ∀ x ∈ keys A, slt x k = true := fun x hx => by obtain ⟨p, hp, rfl⟩ := mem_keys hx; exact h p hp
  have e1 : (keys A).length = A.length := keys_length A
  unfold del
  rw [keys_append, has_left hA, lb_append hA, e1]
  have t : ∀ n, (A ++ C).take (A.length + n) = A ++ C.take n := fun n => by rw [List.take_length_add_append]
  have d : ∀ n, (A ++ C).drop (A.length + n) = C.drop n := fun n => by rw [List.drop_length_add_append]
  rw [Nat.add_assoc, t, d]
  split
  · rw [List.append_assoc]
  · rfl
theorem del_right {C B : List Ent} {k : ByteArray} (h : ∀ p ∈ B, slt k p.1 = true) : del k (C ++ B) = del k C ++ B := by
  have hB : ∀ x ∈ keys B, slt k x = true := fun x hx => by obtain ⟨p, hp, rfl⟩ := mem_keys hx; exact h p hp
  have hl := lb_le (keys C) k
  rw [keys_length] at hl
  unfold del
  rw [keys_append, has_right hB, lb_right (fun x hx => slt_asymm (hB x hx))]
  split
  · rename_i hh
    have hlt : lb (keys C) k < C.length := by
      unfold has at hh
      rw [decide_eq_true_iff] at hh
      have := (List.getElem?_eq_some_iff.1 hh).1
      rwa [keys_length] at this
    rw [List.take_append_of_le_length hl, List.drop_append_of_le_length (by omega)]
    simp
  · rfl
theorem del_mid {A C B : List Ent} {k : ByteArray} (hA : AllLt A k) (hB : ∀ p ∈ B, slt k p.1 = true) : del k (A ++ (C ++ B)) = A ++ (del k C ++ B) := by
  rw [del_left hA, del_right hB]

theorem mem_ins {k : ByteArray} {v : Int} {l : List Ent} {p : Ent} (h : p ∈ ins k v l) : p ∈ l ∨ p = (k, v) := by
  unfold ins at h
  split at h <;> simp only [List.mem_append, List.mem_cons] at h <;> rcases h with h | h | h
  · exact .inl (List.mem_of_mem_take h)
  · exact .inr h
  · exact .inl (List.mem_of_mem_drop h)
  · exact .inl (List.mem_of_mem_take h)
  · exact .inr h
  · exact .inl (List.mem_of_mem_drop h)
theorem mem_del {k : ByteArray} {l : List Ent} {p : Ent} (h : p ∈ del k l) : p ∈ l := by
  unfold del at h
  split at h
  · rw [List.mem_append] at h
    rcases h with h | h
    · exact List.mem_of_mem_take h
    · exact List.mem_of_mem_drop h
  · exact h

theorem getElem?_keys (l : List Ent) (i : Nat) : (keys l)[i]? = (l[i]?).map (·.1) := by unfold keys; rw [List.getElem?_map]

theorem up_ins {k : ByteArray} {v : Int} {l : List Ent} (h : Up l) : Up (ins k v l) := by
  have hr := h.rises
  have lo : ∀ p ∈ l.take (lb (keys l) k), slt p.1 k = true := fun p hp => by
    obtain ⟨i, hi, rfl⟩ := List.getElem_of_mem hp
    simp only [List.length_take] at hi
    exact lb_below (keys l) k i _ (by rw [getElem?_keys, List.getElem?_eq_getElem (by omega)]; simp) (by omega)
  have hi : ∀ n, lb (keys l) k ≤ n → ∀ p ∈ l.drop n, slt p.1 k = false := fun n hn p hp => by
    obtain ⟨i, hi, rfl⟩ := List.getElem_of_mem hp
    simp only [List.length_drop] at hi
    exact lb_above hr k (n + i) _ (by rw [getElem?_keys, List.getElem?_eq_getElem (by omega)]; simp) (by omega)
  have up2 : ∀ n, lb (keys l) k ≤ n → (∀ p ∈ l.drop n, slt k p.1 = true) → Up (l.take (lb (keys l) k) ++ (k, v) :: l.drop n) := fun n hn hk => by
    unfold Up
    rw [List.pairwise_append, List.pairwise_cons]
    refine ⟨h.sublist (List.take_sublist _ _), ⟨fun p hp => hk p hp, h.sublist (List.drop_sublist _ _)⟩, fun p hp q hq => ?_⟩
    rcases List.mem_cons.1 hq with rfl | hq
    · exact lo p hp
    · exact slt_trans (lo p hp) (hk q hq)
  unfold ins
  split
  · rename_i hh
    refine up2 _ (by omega) fun p hp => ?_
    unfold has at hh
    rw [decide_eq_true_iff] at hh
    obtain ⟨i, hi, rfl⟩ := List.getElem_of_mem hp
    simp only [List.length_drop] at hi
    have hl := (List.getElem?_eq_some_iff.1 hh).1
    have := List.pairwise_iff_getElem.1 hr (lb (keys l) k) (lb (keys l) k + 1 + i) hl (by rw [keys_length]; omega) (by omega)
    rw [(List.getElem?_eq_some_iff.1 hh).2] at this
    simpa [keys] using this
  · rename_i hh
    refine up2 _ (by omega) fun p hp => ?_
    have hge := hi _ (Nat.le_refl _) p hp
    cases hkp : slt k p.1 with
    | true => rfl
    | false =>
      exfalso
      have e := slt_conn hkp hge
      apply hh
      rw [has_iff hr, e]
      exact List.mem_map.2 ⟨p, List.mem_of_mem_drop hp, rfl⟩
theorem up_del {k : ByteArray} {l : List Ent} (h : Up l) : Up (del k l) := by
  unfold del
  split
  · have : (l.take (lb (keys l) k) ++ l.drop (lb (keys l) k + 1)).Sublist l := by
      have h1 : (l.drop (lb (keys l) k + 1)).Sublist (l.drop (lb (keys l) k)) := by
        rw [← List.drop_drop]
        exact List.drop_sublist _ _
      have := (List.Sublist.refl (l.take (lb (keys l) k))).append h1
      rwa [List.take_append_drop] at this
    exact h.sublist this
  · exact h
end Go.Ux
/- Put and Del, node by node: the same as upon the list of all keys; the nodes keep their shape. -/
namespace Go.Ux
open Go

theorem AllLt.mono {l : List Ent} {s s' : ByteArray} (h : AllLt l s) (k : slt s s' = true) : AllLt l s' := fun p hp => slt_trans (h p hp) k
theorem AllGe.mono {l : List Ent} {s s' : ByteArray} (h : AllGe l s) (k : slt s s' = false) : AllGe l s' := fun p hp => by
  cases e : slt p.1 s' with
  | false => rfl
  | true => have a := h p hp; rw [slt_of_le' e k] at a; cases a

theorem Good.shp {fan : Nat} : ∀ {d : Nat} {t : T}, Good fan d t → Shp t
  | 0, _, h => by obtain ⟨l, rfl⟩ := h; trivial
  | d + 1, _, h => by
    obtain ⟨ks, cs, rfl, h1, _, h3⟩ := h
    exact ⟨h1, Shps.mk fun c hc => Good.shp (h3 c hc).1⟩

/-- a tree that has something has a key -/
theorem good_some {fan : Nat} (hf : 4 ≤ fan) : ∀ {d : Nat} {t : T}, Good fan d t → 1 ≤ t.size → ∃ p, p ∈ flat t
  | 0, _, h, hs => by
    obtain ⟨l, rfl⟩ := h
    cases l with
    | nil => simp [T.size] at hs
    | cons p l => exact ⟨p, by simp [flat]⟩
  | d + 1, _, h, hs => by
    obtain ⟨ks, cs, rfl, h1, _, h3⟩ := h
    cases cs with
    | nil => simp at h1
    | cons c cs =>
      obtain ⟨g, hz, _⟩ := h3 c (by simp)
      obtain ⟨p, hp⟩ := good_some hf g (by omega)
      exact ⟨p, by simp [flat, flats, hp]⟩

/-- the keys between rise -/
theorem Good.rises {fan : Nat} (hf : 4 ≤ fan) {d : Nat} {ks : List ByteArray} {cs : List T} (h : Good fan (d + 1) (.node ks cs)) : Rises ks := by
  obtain ⟨ks', cs', e, h1, h2, h3⟩ := h
  cases e
  unfold Rises
  rw [List.pairwise_iff_getElem]
  intro i j hi hj hij
  obtain ⟨c, hc⟩ : ∃ c, cs[i + 1]? = some c := ⟨cs[i + 1]'(by omega), List.getElem?_eq_getElem _⟩
  obtain ⟨g, hz, _⟩ := h3 c (List.mem_of_getElem? hc)
  obtain ⟨p, hp⟩ := good_some hf g (by omega)
  have a := (h2 i ks[i] (i + 1) c (List.getElem?_eq_getElem hi) hc).2 (by omega) p hp
  have b := (h2 j ks[j] (i + 1) c (List.getElem?_eq_getElem hj) hc).1 (by omega) p hp
  exact slt_of_le a b

/-! ### the way down -/
theorem wayN_le (ks : List ByteArray) (k : ByteArray) : wayN ks k ≤ ks.length := by
  unfold wayN
  have := lb_le ks k
  split
  · rename_i h
    unfold has at h
    rw [decide_eq_true_iff] at h
    have := (List.getElem?_eq_some_iff.1 h).1
    omega
  · omega
theorem wayN_lo {ks : List ByteArray} {k : ByteArray} {j : Nat} {s : ByteArray} (hs : ks[j]? = some s) (h : j < wayN ks k) : slt k s = false := by
  unfold wayN at h
  rcases Nat.lt_or_ge j (lb ks k) with h' | h'
  · exact slt_asymm (lb_below ks k j s hs h')
  · split at h
    · rename_i hh
      have : j = lb ks k := by omega
      subst this
      unfold has at hh
      rw [decide_eq_true_iff, hs] at hh
      cases hh
      exact slt_irrefl _
    · omega
theorem wayN_hi {ks : List ByteArray} (hr : Rises ks) {k : ByteArray} {j : Nat} {s : ByteArray} (hs : ks[j]? = some s) (h : wayN ks k ≤ j) : slt k s = true := by
  unfold wayN at h
  have hl : lb ks k ≤ j := by split at h <;> omega
  have hge := lb_above hr k j s hs hl
  cases hk : slt k s with
  | true => rfl
  | false =>
    exfalso
    have e := slt_conn hk hge
    subst e
    have hh : has ks k = true := (has_iff hr k).2 (List.mem_of_getElem? hs)
    rw [if_pos hh] at h
    have h1 := (has_iff hr k).1 hh
    unfold has at hh
    rw [decide_eq_true_iff] at hh
    have := List.pairwise_iff_getElem.1 hr (lb ks k) j (List.getElem?_eq_some_iff.1 hh).1 (List.getElem?_eq_some_iff.1 hs).1 (by omega)
    rw [(List.getElem?_eq_some_iff.1 hh).2, (List.getElem?_eq_some_iff.1 hs).2, slt_irrefl] at this
    cases this

/-- what is ahead of the way is below the key, what is behind it above -/
theorem way_ahead {ks : List ByteArray} {A B : List T} {c : T} {k : ByteArray} (h : Sep ks (A ++ c :: B)) (hl : (A ++ c :: B).length = ks.length + 1) (hw : A.length = wayN ks k) : AllLt (flats A) k := by
  intro p hp
  obtain ⟨j, t, hj, hp⟩ := mem_flats.1 hp
  have hjA := (List.getElem?_eq_some_iff.1 hj).1
  obtain ⟨s, hs⟩ : ∃ s, ks[A.length - 1]? = some s := ⟨ks[A.length - 1]'(by simp at hl; omega), List.getElem?_eq_getElem _⟩
  have a := (h (A.length - 1) s j t hs (by rw [List.getElem?_append_left hjA]; exact hj)).1 (by omega) p hp
  have b := wayN_lo hs (by omega : A.length - 1 < wayN ks k)
  exact slt_of_le' a b
theorem way_behind {ks : List ByteArray} (hr : Rises ks) {A B : List T} {c : T} {k : ByteArray} (h : Sep ks (A ++ c :: B)) (hl : (A ++ c :: B).length = ks.length + 1) (hw : A.length = wayN ks k) : ∀ p ∈ flats B, slt k p.1 = true := by
  intro p hp
  obtain ⟨j, t, hj, hp⟩ := mem_flats.1 hp
  have hjB := (List.getElem?_eq_some_iff.1 hj).1
  obtain ⟨s, hs⟩ : ∃ s, ks[A.length]? = some s := ⟨ks[A.length]'(by simp at hl; omega), List.getElem?_eq_getElem _⟩
  have a := (h A.length s (A.length + 1 + j) t hs (by rw [List.getElem?_append_right (by omega), show A.length + 1 + j - A.length = j + 1 by omega]; simpa using hj)).2 (by omega) p hp
  have b := wayN_hi hr hs (by omega : wayN ks k ≤ A.length)
  cases e : slt k p.1 with
  | true => rfl
  | false => rw [slt_of_le e b] at a; cases a

theorem getElem?_mid {A B : List T} {c : T} {j : Nat} {t : T} (h : (A ++ c :: B)[j]? = some t) : (j < A.length ∧ A[j]? = some t) ∨ (j = A.length ∧ t = c) ∨ (A.length < j ∧ B[j - A.length - 1]? = some t) := by
  rcases Nat.lt_or_ge j A.length with h' | h'
  · rw [List.getElem?_append_left h'] at h; exact .inl ⟨h', h⟩
  · rw [List.getElem?_append_right h'] at h
    rcases Nat.eq_or_lt_of_le h' with e | e
    · rw [← e, Nat.sub_self] at h; simp at h; exact .inr (.inl ⟨e.symm, h.symm⟩)
    · obtain ⟨n, hn⟩ : ∃ n, j - A.length = n + 1 := ⟨j - A.length - 1, by omega⟩
      rw [hn] at h
      rw [show j - A.length - 1 = n by omega]
      exact .inr (.inr ⟨e, by simpa using h⟩)
theorem at_left {A B : List T} {c : T} {j : Nat} {t : T} (h : A[j]? = some t) : (A ++ c :: B)[j]? = some t := by
  rw [List.getElem?_append_left (List.getElem?_eq_some_iff.1 h).1]; exact h
theorem at_mid {A B : List T} {c : T} : (A ++ c :: B)[A.length]? = some c := by
  rw [List.getElem?_append_right (Nat.le_refl _), Nat.sub_self]; rfl
theorem at_right {A B : List T} {c : T} {j : Nat} {t : T} (h : B[j]? = some t) : (A ++ c :: B)[A.length + 1 + j]? = some t := by
  rw [List.getElem?_append_right (by omega), show A.length + 1 + j - A.length = j + 1 by omega]; simpa using h

/-- one tree put in another's place -/
theorem Sep.set {ks : List ByteArray} {A B : List T} {c c' : T} (h : Sep ks (A ++ c :: B)) (hc : ∀ j s, ks[j]? = some s → (A.length ≤ j → AllLt (flat c) s → AllLt (flat c') s) ∧ (j < A.length → AllGe (flat c) s → AllGe (flat c') s)) : Sep ks (A ++ c' :: B) := by
  intro i s j t hs ht
  rcases getElem?_mid ht with ⟨h1, h2⟩ | ⟨rfl, rfl⟩ | ⟨h1, h2⟩
  · exact h i s j t hs (at_left h2)
  · have a := h i s _ c hs at_mid
    exact ⟨fun hi => (hc i s hs).1 hi (a.1 hi), fun hi => (hc i s hs).2 hi (a.2 hi)⟩
  · have := h i s (A.length + 1 + (j - A.length - 1)) t hs (at_right h2)
    rw [show A.length + 1 + (j - A.length - 1) = j by omega] at this
    exact this

/-- one tree parted in two -/
theorem Sep.part {Ka Kb : List ByteArray} {m : ByteArray} {A B : List T} {c c1 c2 : T} (h : Sep (Ka ++ Kb) (A ++ c :: B)) (hlen : Ka.length = A.length) (he : flat c = flat c1 ++ flat c2)
    (h1 : AllLt (flat c1) m) (h2 : AllGe (flat c2) m) (hA : AllLt (flats A) m) (hB : AllGe (flats B) m) : Sep (Ka ++ m :: Kb) (A ++ c1 :: c2 :: B) := by
  have ge : ∀ i s j t, (Ka ++ Kb)[i]? = some s → (A ++ c1 :: c2 :: B)[j]? = some t → ((j ≤ A.length → j ≤ i → AllLt (flat t) s) ∧ (A.length < j → j ≤ i + 1 → AllLt (flat t) s)) ∧ ((j ≤ A.length → i < j → AllGe (flat t) s) ∧ (A.length < j → i + 1 < j → AllGe (flat t) s)) := by
    intro i s j t hs ht
    rcases getElem?_mid ht with ⟨a1, a2⟩ | ⟨rfl, rfl⟩ | ⟨a1, a2⟩
    · have := h i s j t hs (at_left a2)
      exact ⟨⟨fun _ => this.1, fun x => by omega⟩, ⟨fun _ => this.2, fun x => by omega⟩⟩
    · have a := h i s _ c hs at_mid
      rw [he] at a
      exact ⟨⟨fun _ hi p hp => a.1 hi p (List.mem_append_left _ hp), fun x => by omega⟩, ⟨fun _ hi p hp => a.2 hi p (List.mem_append_left _ hp), fun x => by omega⟩⟩
    · obtain ⟨n, hn⟩ : ∃ n, j - A.length - 1 = n := ⟨_, rfl⟩
      rw [hn] at a2
      cases n with
      | zero =>
        simp at a2
        subst a2
        have a := h i s _ c hs at_mid
        rw [he] at a
        exact ⟨⟨fun x => by omega, fun _ hi p hp => a.1 (by omega) p (List.mem_append_right _ hp)⟩, ⟨fun x => by omega, fun _ hi p hp => a.2 (by omega) p (List.mem_append_right _ hp)⟩⟩
      | succ n =>
        have := h i s (A.length + 1 + n) t hs (at_right (by simpa using a2))
        exact ⟨⟨fun x => by omega, fun _ hi => this.1 (by omega)⟩, ⟨fun x => by omega, fun _ hi => this.2 (by omega)⟩⟩
  intro i s j t hs ht
  rcases Nat.lt_trichotomy i Ka.length with hi | hi | hi
  · have hs' : (Ka ++ Kb)[i]? = some s := by rw [List.getElem?_append_left hi] at hs ⊢; exact hs
    have g := ge i s j t hs' ht
    exact ⟨fun hj => g.1.1 (by omega) hj, fun hj => by
      rcases Nat.lt_or_ge A.length j with x | x
      · exact g.2.2 x (by omega)
      · exact g.2.1 x hj⟩
  · rw [hi, List.getElem?_append_right (Nat.le_refl _), Nat.sub_self] at hs
    simp at hs
    subst hs
    rcases getElem?_mid ht with ⟨a1, a2⟩ | ⟨rfl, rfl⟩ | ⟨a1, a2⟩
    · exact ⟨fun _ p hp => hA p (mem_flats.2 ⟨j, t, a2, hp⟩), fun x => by omega⟩
    · exact ⟨fun _ => h1, fun x => by omega⟩
    · refine ⟨fun x => by omega, fun _ => ?_⟩
      cases hn : j - A.length - 1 with
      | zero => rw [hn] at a2; simp at a2; subst a2; exact h2
      | succ n => rw [hn] at a2; exact fun p hp => hB p (mem_flats.2 ⟨n, t, by simpa using a2, hp⟩)
  · obtain ⟨n, rfl⟩ : ∃ n, i = n + 1 := ⟨i - 1, by omega⟩
    have hs' : (Ka ++ Kb)[n]? = some s := by
      rw [List.getElem?_append_right (by omega), show n + 1 - Ka.length = (n - Ka.length) + 1 by omega] at hs
      rw [List.getElem?_append_right (by omega)]
      simpa using hs
    have g := ge n s j t hs' ht
    exact ⟨fun hj => by
      rcases Nat.lt_or_ge A.length j with x | x
      · exact g.1.2 x hj
      · exact g.1.1 x (by omega), fun hj => g.2.2 (by omega) hj⟩

/-! ### parted in two -/
theorem half_good {fan : Nat} (hf : 4 ≤ fan) : ∀ {d : Nat} {t : T}, Good fan d t → Up (flat t) → fan < t.size → t.size ≤ 2 * fan →
    Good fan d (half1 t) ∧ Good fan d (half2 t) ∧ flat t = flat (half1 t) ++ flat (half2 t) ∧ AllLt (flat (half1 t)) (halfK t) ∧ AllGe (flat (half2 t)) (halfK t) ∧
    (fan / 2 ≤ (half1 t).size ∧ (half1 t).size ≤ fan) ∧ (fan / 2 ≤ (half2 t).size ∧ (half2 t).size ≤ fan)
  | 0, _, h, hu, h1, h2 => by
    obtain ⟨l, rfl⟩ := h
    simp only [T.size] at h1 h2
    simp only [half1, half2, halfK, flat] at hu ⊢
    obtain ⟨p, hp⟩ : ∃ p, l[l.length / 2]? = some p := ⟨l[l.length / 2]'(by omega), List.getElem?_eq_getElem _⟩
    have hp' := (List.getElem?_eq_some_iff.1 hp)
    rw [hp]
    refine ⟨⟨_, rfl⟩, ⟨_, rfl⟩, (List.take_append_drop _ _).symm, ?_, ?_, ?_, ?_⟩
    · intro q hq
      obtain ⟨i, hi, rfl⟩ := List.getElem_of_mem hq
      simp only [List.length_take] at hi
      have := List.pairwise_iff_getElem.1 hu i (l.length / 2) (by omega) (by omega) (by omega)
      simpa [hp'.2] using this
    · intro q hq
      obtain ⟨i, hi, rfl⟩ := List.getElem_of_mem hq
      simp only [List.length_drop] at hi
      cases i with
      | zero => simp [hp'.2, slt_irrefl]
      | succ i =>
        have := List.pairwise_iff_getElem.1 hu (l.length / 2) (l.length / 2 + (i + 1)) (by omega) (by omega) (by omega)
        rw [hp'.2] at this
        simpa using slt_asymm this
    · simp only [T.size, List.length_take]; omega
    · simp only [T.size, List.length_drop]; omega
  | d + 1, _, h, hu, h1, h2 => by
    obtain ⟨ks, cs, rfl, e1, e2, e3⟩ := h
    simp only [T.size] at h1 h2
    simp only [half1, half2, halfK, flat] at hu ⊢
    obtain ⟨m, hm⟩ : ∃ m, cs.length / 2 = m := ⟨_, rfl⟩
    rw [hm]
    obtain ⟨s, hs⟩ : ∃ s, ks[m - 1]? = some s := ⟨ks[m - 1]'(by omega), List.getElem?_eq_getElem _⟩
    rw [hs]
    have hd : ∀ (i : Nat) (s : ByteArray), (ks.drop m)[i]? = some s → ks[m + i]? = some s := fun i s h => by rw [List.getElem?_drop] at h; exact h
    have hd' : ∀ (i : Nat) (c : T), (cs.drop m)[i]? = some c → cs[m + i]? = some c := fun i c h => by rw [List.getElem?_drop] at h; exact h
    have ht : ∀ (i n : Nat) (s : ByteArray), (ks.take n)[i]? = some s → ks[i]? = some s ∧ i < n := fun i n s h => by
      rw [List.getElem?_take] at h
      split at h
      · exact ⟨h, by assumption⟩
      · cases h
    have ht' : ∀ (i : Nat) (c : T), (cs.take m)[i]? = some c → cs[i]? = some c ∧ i < m := fun i c h => by
      rw [List.getElem?_take] at h
      split at h
      · exact ⟨h, by assumption⟩
      · cases h
    refine ⟨⟨_, _, rfl, ?_, ?_, fun c hc => e3 c (List.mem_of_mem_take hc)⟩, ⟨_, _, rfl, ?_, ?_, fun c hc => e3 c (List.mem_of_mem_drop hc)⟩, ?_, ?_, ?_, ?_, ?_⟩
    · simp only [List.length_take]; omega
    · intro i s j c hs hc
      exact e2 i s j c (ht i _ s hs).1 (ht' j c hc).1
    · simp only [List.length_drop]; omega
    · intro i s j c hs hc
      have := e2 (m + i) s (m + j) c (hd i s hs) (hd' j c hc)
      exact ⟨fun h => this.1 (by omega), fun h => this.2 (by omega)⟩
    · rw [← flats_append, List.take_append_drop]
    · intro p hp
      obtain ⟨j, c, hc, hp⟩ := mem_flats.1 hp
      have := ht' j c hc
      exact (e2 (m - 1) s j c hs this.1).1 (by omega) p hp
    · intro p hp
      obtain ⟨j, c, hc, hp⟩ := mem_flats.1 hp
      exact (e2 (m - 1) s (m + j) c hs (hd' j c hc)).2 (by omega) p hp
    · simp only [T.size, List.length_take]; omega
    · simp only [T.size, List.length_drop]; omega
end Go.Ux
namespace Go.Ux
open Go

/-- a child after a put, back into its node -/
def back (fan : Nat) (ks : List ByteArray) (cs : List T) (i : Nat) (c' : T) : T :=
  if fan < c'.size then .node (ks.take i ++ halfK c' :: ks.drop i) (cs.take i ++ half1 c' :: half2 c' :: cs.drop (i + 1))
  else .node ks (cs.take i ++ c' :: cs.drop (i + 1))

/-- Put's way: d nodes down to a leaf -/
def putT (fan : Nat) (k : ByteArray) (v : Int) : Nat → T → T
  | _, .leaf l => .leaf (ins k v l)
  | 0, t => t
  | d + 1, .node ks cs => match cs[wayN ks k]? with
    | none => .node ks cs
    | some c => back fan ks cs (wayN ks k) (putT fan k v d c)

theorem split_at {α : Type} {cs : List α} {i : Nat} {c : α} (h : cs[i]? = some c) : cs = cs.take i ++ c :: cs.drop (i + 1) := by
  obtain ⟨hl, rfl⟩ := List.getElem?_eq_some_iff.1 h
  rw [List.getElem_cons_drop, List.take_append_drop]

theorem up_append {A B : List Ent} (h : Up (A ++ B)) : Up A ∧ Up B := by
  unfold Up at h
  rw [List.pairwise_append] at h
  exact ⟨h.1, h.2.1⟩

theorem ins_length {k : ByteArray} {v : Int} {l : List Ent} : l.length ≤ (ins k v l).length ∧ (ins k v l).length ≤ l.length + 1 := by
  have hl := lb_le (keys l) k
  rw [keys_length] at hl
  unfold ins
  split
  · rename_i hh
    unfold has at hh
    rw [decide_eq_true_iff] at hh
    have := (List.getElem?_eq_some_iff.1 hh).1
    rw [keys_length] at this
    simp only [List.length_append, List.length_take, List.length_cons, List.length_drop]; omega
  · simp only [List.length_append, List.length_take, List.length_cons, List.length_drop]; omega

/-- a child c at its place has been turned into c': what becomes of its node -/
theorem back_good {fan : Nat} (hf : 4 ≤ fan) {d : Nat} {ks : List ByteArray} {A B : List T} {c c' : T} (hlen : (A ++ c :: B).length = ks.length + 1) (hsep : Sep ks (A ++ c :: B))
    (hall : ∀ t ∈ A ++ c :: B, Good fan d t ∧ fan / 2 ≤ t.size ∧ t.size ≤ fan) (hg : Good fan d c') (hs1 : fan / 2 ≤ c'.size) (hs2 : c'.size ≤ fan + 1)
    (hup : Up (flats A ++ (flat c' ++ flats B)))
    (hc : ∀ j s, ks[j]? = some s → (A.length ≤ j → AllLt (flat c) s → AllLt (flat c') s) ∧ (j < A.length → AllGe (flat c) s → AllGe (flat c') s)) :
    Good fan (d + 1) (back fan ks (A ++ c :: B) A.length c') ∧ flat (back fan ks (A ++ c :: B) A.length c') = flats A ++ (flat c' ++ flats B) ∧
    (A ++ c :: B).length ≤ (back fan ks (A ++ c :: B) A.length c').size ∧ (back fan ks (A ++ c :: B) A.length c').size ≤ (A ++ c :: B).length + 1 := by
  have eT : (A ++ c :: B).take A.length = A := List.take_left
  have eD : (A ++ c :: B).drop (A.length + 1) = B := by rw [List.drop_append, List.drop_eq_nil_of_le (by omega), show A.length + 1 - A.length = 1 by omega]; rfl
  have hsep' := hsep.set hc
  unfold back
  rw [eT, eD]
  simp only [List.length_append, List.length_cons] at hlen
  split
  · rename_i hbig
    have hu := (up_append (up_append hup).2).1
    obtain ⟨g1, g2, he, l1, l2, z1, z2⟩ := half_good hf hg hu hbig (by omega)
    have ne1 := good_some hf g1 (by omega)
    have ne2 := good_some hf g2 (by omega)
    rw [he] at hup
    unfold Up at hup
    rw [List.pairwise_append, List.append_assoc, List.pairwise_append] at hup
    obtain ⟨_, ⟨_, hBu, h1B⟩, hAc⟩ := hup
    rw [List.pairwise_append] at hBu
    have hA : AllLt (flats A) (halfK c') := fun p hp => by
      obtain ⟨q, hq⟩ := ne1
      exact slt_trans (hAc p hp q (by simp [hq])) (l1 q hq)
    have hB : AllGe (flats B) (halfK c') := fun p hp => by
      obtain ⟨q, hq⟩ := ne2
      have a := hBu.2.2 q hq p hp
      cases e : slt p.1 (halfK c') with
      | false => rfl
      | true => have := l2 q hq; rw [slt_trans a e] at this; cases this
    refine ⟨⟨_, _, rfl, ?_, ?_, ?_⟩, ?_, ?_⟩
    · simp only [List.length_append, List.length_cons, List.length_take, List.length_drop]; omega
    · refine Sep.part (c := c') ?_ (by simp only [List.length_take]; omega) he l1 l2 hA hB
      rw [List.take_append_drop]
      exact hsep'
    · intro t ht
      simp only [List.mem_append, List.mem_cons] at ht
      rcases ht with ht | rfl | rfl | ht
      · exact hall t (by simp [ht])
      · exact ⟨g1, z1⟩
      · exact ⟨g2, z2⟩
      · exact hall t (by simp [ht])
    · simp only [flat, flats_append, flats_cons, he, List.append_assoc]
    · simp only [T.size, List.length_append, List.length_cons]; omega
  · rename_i hsm
    refine ⟨⟨_, _, rfl, ?_, hsep', ?_⟩, ?_, ?_⟩
    · simp only [List.length_append, List.length_cons]; omega
    · intro t ht
      simp only [List.mem_append, List.mem_cons] at ht
      rcases ht with ht | rfl | ht
      · exact hall t (by simp [ht])
      · exact ⟨hg, by omega, by omega⟩
      · exact hall t (by simp [ht])
    · simp only [flat, flats_append, flats_cons, List.append_assoc]
    · simp only [T.size, List.length_append, List.length_cons]; omega

theorem way_some {fan d : Nat} {ks : List ByteArray} {cs : List T} (h : cs.length = ks.length + 1) (k : ByteArray) : ∃ c, cs[wayN ks k]? = some c :=
  ⟨cs[wayN ks k]'(by have := wayN_le ks k; omega), List.getElem?_eq_getElem _⟩

/-- Put upon a tree is put upon the list of its keys. -/
theorem put_good {fan : Nat} (hf : 4 ≤ fan) (k : ByteArray) (v : Int) : ∀ {d : Nat} {t : T}, Good fan d t → Up (flat t) →
    Good fan d (putT fan k v d t) ∧ flat (putT fan k v d t) = ins k v (flat t) ∧ t.size ≤ (putT fan k v d t).size ∧ (putT fan k v d t).size ≤ t.size + 1
  | 0, _, h, hu => by
    obtain ⟨l, rfl⟩ := h
    exact ⟨⟨_, rfl⟩, rfl, ins_length⟩
  | d + 1, _, h, hu => by
    obtain ⟨ks, cs, rfl, e1, e2, e3⟩ := h
    have hr : Rises ks := Good.rises hf ⟨ks, cs, rfl, e1, e2, e3⟩
    obtain ⟨c, hc⟩ := way_some (fan := fan) (d := d) e1 k
    have hi := (List.getElem?_eq_some_iff.1 hc).1
    obtain ⟨A, B, hA, rfl⟩ : ∃ A B, A.length = wayN ks k ∧ cs = A ++ c :: B := ⟨cs.take (wayN ks k), cs.drop (wayN ks k + 1), by simp; omega, split_at hc⟩
    simp only [putT, hc, flat] at hu ⊢
    rw [flats_at] at hu ⊢
    have huc := (up_append (up_append hu).2).1
    obtain ⟨gc, sc1, sc2⟩ := e3 c (by simp)
    obtain ⟨g', f', s1, s2⟩ := put_good hf k v gc huc
    have ahead := way_ahead e2 e1 hA
    have behind := way_behind hr e2 e1 hA
    have hmid := ins_mid (v := v) (C := flat c) ahead behind
    rw [hmid, ← f', ← hA]
    refine back_good hf e1 e2 e3 g' (by omega) (by omega) ?_ ?_
    · rw [f', ← hmid]; exact up_ins hu
    · intro j s hs
      rw [f']
      constructor
      · intro hj ha p hp
        rcases mem_ins hp with h | rfl
        · exact ha p h
        · show slt k s = true
          exact wayN_hi hr hs (by omega)
      · intro hj ha p hp
        rcases mem_ins hp with h | rfl
        · exact ha p h
        · show slt k s = false
          exact wayN_lo hs (by omega)

/-! ### Del -/
/-- two trees made one -/
def mrg : T → ByteArray → T → T
  | .leaf a, _, .leaf b => .leaf (a ++ b)
  | .node ka ca, s, .node kb cb => .node (ka ++ s :: kb) (ca ++ cb)
  | t, _, _ => t

/-- join, at two trees that stand side by side -/
def joinT (fan : Nat) (ks : List ByteArray) (cs : List T) (j : Nat) : T :=
  match cs[j]?, cs[j + 1]?, ks[j]? with
  | some a, some b, some s => if fan < (mrg a s b).size then .node (ks.take j ++ halfK (mrg a s b) :: ks.drop (j + 1)) (cs.take j ++ half1 (mrg a s b) :: half2 (mrg a s b) :: cs.drop (j + 2))
    else .node (ks.take j ++ ks.drop (j + 1)) (cs.take j ++ mrg a s b :: cs.drop (j + 2))
  | _, _, _ => .node ks cs

def delT (fan : Nat) (k : ByteArray) : Nat → T → T
  | _, .leaf l => .leaf (del k l)
  | 0, t => t
  | d + 1, .node ks cs => match cs[wayN ks k]? with
    | none => .node ks cs
    | some c => if (delT fan k d c).size < fan / 2 then joinT fan ks (cs.take (wayN ks k) ++ delT fan k d c :: cs.drop (wayN ks k + 1)) (min (wayN ks k) (cs.length - 2))
      else .node ks (cs.take (wayN ks k) ++ delT fan k d c :: cs.drop (wayN ks k + 1))

theorem del_length {k : ByteArray} {l : List Ent} : (del k l).length ≤ l.length ∧ l.length ≤ (del k l).length + 1 := by
  have hl := lb_le (keys l) k
  rw [keys_length] at hl
  unfold del
  split
  · simp only [List.length_append, List.length_take, List.length_drop]; omega
  · omega

/-- made one: all that both had -/
theorem mrg_good {fan : Nat} (hf : 4 ≤ fan) {d : Nat} {a b : T} {s : ByteArray} (ga : Good fan d a) (gb : Good fan d b) (ha : AllLt (flat a) s) (hb : AllGe (flat b) s) :
    Good fan d (mrg a s b) ∧ flat (mrg a s b) = flat a ++ flat b ∧ (mrg a s b).size = a.size + b.size := by
  cases d with
  | zero =>
    obtain ⟨la, rfl⟩ := ga
    obtain ⟨lb, rfl⟩ := gb
    exact ⟨⟨_, rfl⟩, rfl, by simp [mrg, T.size]⟩
  | succ d =>
    obtain ⟨ka, ca, rfl, a1, a2, a3⟩ := ga
    obtain ⟨kb, cb, rfl, b1, b2, b3⟩ := gb
    simp only [flat] at ha hb
    refine ⟨⟨_, _, rfl, ?_, ?_, ?_⟩, ?_, ?_⟩
    · simp only [List.length_append, List.length_cons]; omega
    · intro i x j c hx hc
      have hcj : (j < ca.length ∧ ca[j]? = some c) ∨ (ca.length ≤ j ∧ cb[j - ca.length]? = some c) := by
        rcases Nat.lt_or_ge j ca.length with h | h
        · rw [List.getElem?_append_left h] at hc; exact .inl ⟨h, hc⟩
        · rw [List.getElem?_append_right h] at hc; exact .inr ⟨h, hc⟩
      rcases Nat.lt_trichotomy i ka.length with hi | hi | hi
      · rw [List.getElem?_append_left hi] at hx
        rcases hcj with ⟨h1, h2⟩ | ⟨h1, h2⟩
        · exact a2 i x j c hx h2
        · refine ⟨fun h => by omega, fun _ p hp => ?_⟩
          have hb' := hb p (mem_flats.2 ⟨_, c, h2, hp⟩)
          obtain ⟨z, hz⟩ : ∃ z, ca[ka.length]? = some z := ⟨ca[ka.length]'(by omega), List.getElem?_eq_getElem _⟩
          obtain ⟨gz, sz, _⟩ := a3 z (List.mem_of_getElem? hz)
          obtain ⟨q, hq⟩ := good_some hf gz (by omega)
          have q1 := (a2 i x ka.length z hx hz).2 hi q hq
          have q2 := ha q (mem_flats.2 ⟨_, z, hz, hq⟩)
          have hxs := slt_of_le q1 q2
          cases e : slt p.1 x with
          | false => rfl
          | true => rw [slt_trans e hxs] at hb'; cases hb'
      · rw [hi, List.getElem?_append_right (Nat.le_refl _), Nat.sub_self] at hx
        simp at hx
        subst hx
        rcases hcj with ⟨h1, h2⟩ | ⟨h1, h2⟩
        · exact ⟨fun _ p hp => ha p (mem_flats.2 ⟨_, c, h2, hp⟩), fun h => by omega⟩
        · exact ⟨fun h => by omega, fun _ p hp => hb p (mem_flats.2 ⟨_, c, h2, hp⟩)⟩
      · obtain ⟨n, hn⟩ : ∃ n, i - ka.length = n + 1 := ⟨i - ka.length - 1, by omega⟩
        rw [List.getElem?_append_right (by omega), hn] at hx
        simp only [List.getElem?_cons_succ] at hx
        rcases hcj with ⟨h1, h2⟩ | ⟨h1, h2⟩
        · refine ⟨fun _ p hp => ?_, fun h => by omega⟩
          obtain ⟨z, hz⟩ : ∃ z, cb[0]? = some z := ⟨cb[0]'(by omega), List.getElem?_eq_getElem _⟩
          obtain ⟨gz, sz, _⟩ := b3 z (List.mem_of_getElem? hz)
          obtain ⟨q, hq⟩ := good_some hf gz (by omega)
          have q1 := (b2 n x 0 z hx hz).1 (by omega) q hq
          have q2 := hb q (mem_flats.2 ⟨_, z, hz, hq⟩)
          have q3 := ha p (mem_flats.2 ⟨_, c, h2, hp⟩)
          exact slt_trans (slt_of_le' q3 q2) q1
        · have := b2 n x _ c hx h2
          exact ⟨fun h => this.1 (by omega), fun h => this.2 (by omega)⟩
    · intro c hc
      rcases List.mem_append.1 hc with h | h
      · exact a3 c h
      · exact b3 c h
    · simp only [mrg, flat, flats_append]
    · simp only [mrg, T.size, List.length_append]

/-- join, of two trees side by side: all that they had -/
theorem join_good {fan : Nat} (hf : 4 ≤ fan) {d : Nat} {Ka Kb : List ByteArray} {s : ByteArray} {A B : List T} {a b : T} (hlen : (A ++ a :: b :: B).length = (Ka ++ s :: Kb).length + 1) (hK : Ka.length = A.length)
    (hsep : Sep (Ka ++ s :: Kb) (A ++ a :: b :: B)) (hA : ∀ t ∈ A, Good fan d t ∧ fan / 2 ≤ t.size ∧ t.size ≤ fan) (hB : ∀ t ∈ B, Good fan d t ∧ fan / 2 ≤ t.size ∧ t.size ≤ fan)
    (ga : Good fan d a) (gb : Good fan d b) (hs1 : fan / 2 ≤ a.size + b.size) (hs2 : a.size + b.size ≤ 2 * fan) (hup : Up (flats (A ++ a :: b :: B))) :
    Good fan (d + 1) (joinT fan (Ka ++ s :: Kb) (A ++ a :: b :: B) A.length) ∧ flat (joinT fan (Ka ++ s :: Kb) (A ++ a :: b :: B) A.length) = flats (A ++ a :: b :: B) ∧
    (joinT fan (Ka ++ s :: Kb) (A ++ a :: b :: B) A.length).size ≤ (A ++ a :: b :: B).length ∧ (A ++ a :: b :: B).length ≤ (joinT fan (Ka ++ s :: Kb) (A ++ a :: b :: B) A.length).size + 1 := by
  have e0 : (A ++ a :: b :: B)[A.length]? = some a := at_mid
  have e1 : (A ++ a :: b :: B)[A.length + 1]? = some b := by
    exact at_right (A := A) (B := b :: B) (c := a) (j := 0) (t := b) rfl
  have e2 : (Ka ++ s :: Kb)[A.length]? = some s := by rw [← hK, List.getElem?_append_right (Nat.le_refl _), Nat.sub_self]; rfl
  have t0 : (A ++ a :: b :: B).take A.length = A := List.take_left
  have t1 : (A ++ a :: b :: B).drop (A.length + 2) = B := by rw [List.drop_append, List.drop_eq_nil_of_le (by omega), show A.length + 2 - A.length = 2 by omega]; rfl
  have t2 : (Ka ++ s :: Kb).take A.length = Ka := by rw [← hK]; exact List.take_left
  have t3 : (Ka ++ s :: Kb).drop (A.length + 1) = Kb := by rw [← hK, List.drop_append, List.drop_eq_nil_of_le (by omega), show Ka.length + 1 - Ka.length = 1 by omega]; rfl
  have sa := hsep A.length s A.length a e2 e0
  have sb := hsep A.length s (A.length + 1) b e2 e1
  obtain ⟨gm, fm, zm⟩ := mrg_good hf ga gb (sa.1 (Nat.le_refl _)) (sb.2 (by omega))
  -- the two as one: what stays parted
  have hsepm : Sep (Ka ++ Kb) (A ++ mrg a s b :: B) := by
    intro i x j c hx hc
    have hx' : ∃ i', (Ka ++ s :: Kb)[i']? = some x ∧ ((i' = i ∧ i < A.length) ∨ (i' = i + 1 ∧ A.length ≤ i)) := by
      rcases Nat.lt_or_ge i Ka.length with h | h
      · rw [List.getElem?_append_left h] at hx
        exact ⟨i, by rw [List.getElem?_append_left h]; exact hx, .inl ⟨rfl, by omega⟩⟩
      · rw [List.getElem?_append_right h] at hx
        exact ⟨i + 1, by rw [List.getElem?_append_right (by omega), show i + 1 - Ka.length = (i - Ka.length) + 1 by omega]; simpa using hx, .inr ⟨rfl, by omega⟩⟩
    obtain ⟨i', hx', hi'⟩ := hx'
    rcases getElem?_mid hc with ⟨h1, h2⟩ | ⟨rfl, rfl⟩ | ⟨h1, h2⟩
    · have := hsep i' x j c hx' (at_left h2)
      exact ⟨fun h => this.1 (by omega), fun h => this.2 (by omega)⟩
    · have a1 := hsep i' x _ a hx' e0
      have b1 := hsep i' x _ b hx' e1
      rw [fm]
      refine ⟨fun h p hp => ?_, fun h p hp => ?_⟩
      · rcases List.mem_append.1 hp with hp | hp
        · exact a1.1 (by omega) p hp
        · exact b1.1 (by omega) p hp
      · rcases List.mem_append.1 hp with hp | hp
        · exact a1.2 (by omega) p hp
        · exact b1.2 (by omega) p hp
    · have hj : (A ++ a :: b :: B)[j + 1]? = some c := by
        have := at_right (A := A) (B := b :: B) (c := a) (j := j - A.length - 1 + 1) (t := c) (by simpa using h2)
        rwa [show A.length + 1 + (j - A.length - 1 + 1) = j + 1 by omega] at this
      have := hsep i' x (j + 1) c hx' hj
      exact ⟨fun h => this.1 (by omega), fun h => this.2 (by omega)⟩
  have hfl : flats (A ++ a :: b :: B) = flats A ++ (flat (mrg a s b) ++ flats B) := by rw [flats_at, flats_cons, fm, List.append_assoc]
  rw [hfl] at hup ⊢
  simp only [List.length_append, List.length_cons] at hlen
  have hjt : joinT fan (Ka ++ s :: Kb) (A ++ a :: b :: B) A.length = if fan < (mrg a s b).size then .node (Ka ++ halfK (mrg a s b) :: Kb) (A ++ half1 (mrg a s b) :: half2 (mrg a s b) :: B) else .node (Ka ++ Kb) (A ++ mrg a s b :: B) := by
    unfold joinT
    simp only [e0, e1, e2, t0, t1, t2, t3]
  rw [hjt]
  split
  · rename_i hbig
    have hu := (up_append (up_append hup).2).1
    obtain ⟨g1, g2, he, l1, l2, z1, z2⟩ := half_good hf gm hu hbig (by omega)
    have ne1 := good_some hf g1 (by omega)
    have ne2 := good_some hf g2 (by omega)
    rw [he] at hup
    unfold Up at hup
    rw [List.pairwise_append, List.append_assoc, List.pairwise_append] at hup
    obtain ⟨_, ⟨_, hBu, h1B⟩, hAc⟩ := hup
    rw [List.pairwise_append] at hBu
    have hA' : AllLt (flats A) (halfK (mrg a s b)) := fun p hp => by
      obtain ⟨q, hq⟩ := ne1
      exact slt_trans (hAc p hp q (by simp [hq])) (l1 q hq)
    have hB' : AllGe (flats B) (halfK (mrg a s b)) := fun p hp => by
      obtain ⟨q, hq⟩ := ne2
      have hqp := hBu.2.2 q hq p hp
      cases e : slt p.1 (halfK (mrg a s b)) with
      | false => rfl
      | true => have := l2 q hq; rw [slt_trans hqp e] at this; cases this
    refine ⟨⟨_, _, rfl, ?_, Sep.part hsepm hK he l1 l2 hA' hB', ?_⟩, ?_, ?_⟩
    · simp only [List.length_append, List.length_cons]; omega
    · intro t ht
      simp only [List.mem_append, List.mem_cons] at ht
      rcases ht with ht | rfl | rfl | ht
      · exact hA t ht
      · exact ⟨g1, z1⟩
      · exact ⟨g2, z2⟩
      · exact hB t ht
    · simp only [flat, flats_append, flats_cons, he, List.append_assoc]
    · simp only [T.size, List.length_append, List.length_cons]; omega
  · rename_i hsm
    refine ⟨⟨_, _, rfl, ?_, hsepm, ?_⟩, ?_, ?_⟩
    · simp only [List.length_append, List.length_cons]; omega
    · intro t ht
      simp only [List.mem_append, List.mem_cons] at ht
      rcases ht with ht | rfl | ht
      · exact hA t ht
      · exact ⟨gm, by omega, by omega⟩
      · exact hB t ht
    · simp only [flat, flats_append, flats_cons, List.append_assoc]
    · simp only [T.size, List.length_append, List.length_cons]; omega
theorem Sep.set_del {ks : List ByteArray} {A B : List T} {c c' : T} (h : Sep ks (A ++ c :: B)) (hm : ∀ p ∈ flat c', p ∈ flat c) : Sep ks (A ++ c' :: B) :=
  h.set fun _ _ _ => ⟨fun _ ha p hp => ha p (hm p hp), fun _ ha p hp => ha p (hm p hp)⟩

/-- Del upon a tree is del upon the list of its keys. -/
theorem del_good {fan : Nat} (hf : 4 ≤ fan) (k : ByteArray) : ∀ {d : Nat} {t : T}, Good fan d t → Up (flat t) → (d = 0 ∨ 2 ≤ t.size) →
    Good fan d (delT fan k d t) ∧ flat (delT fan k d t) = del k (flat t) ∧ (delT fan k d t).size ≤ t.size ∧ t.size ≤ (delT fan k d t).size + 1
  | 0, _, h, hu, _ => by
    obtain ⟨l, rfl⟩ := h
    exact ⟨⟨_, rfl⟩, rfl, del_length⟩
  | d + 1, _, h, hu, h2 => by
    obtain ⟨ks, cs, rfl, e1, e2, e3⟩ := h
    have h2' : 2 ≤ cs.length := by rcases h2 with h2 | h2 <;> simp [T.size] at h2 ⊢ <;> omega
    have hr : Rises ks := Good.rises hf ⟨ks, cs, rfl, e1, e2, e3⟩
    obtain ⟨c, hc⟩ := way_some (fan := fan) (d := d) e1 k
    have hi := (List.getElem?_eq_some_iff.1 hc).1
    obtain ⟨A, B, hA, rfl⟩ : ∃ A B, A.length = wayN ks k ∧ cs = A ++ c :: B := ⟨cs.take (wayN ks k), cs.drop (wayN ks k + 1), by simp; omega, split_at hc⟩
    obtain ⟨gc, sc1, sc2⟩ := e3 c (by simp)
    simp only [delT, hc, flat] at hu ⊢
    rw [← hA]
    have eT : (A ++ c :: B).take A.length = A := List.take_left
    have eD : (A ++ c :: B).drop (A.length + 1) = B := by rw [List.drop_append, List.drop_eq_nil_of_le (by omega), show A.length + 1 - A.length = 1 by omega]; rfl
    rw [eT, eD]
    rw [flats_at] at hu ⊢
    have huc := (up_append (up_append hu).2).1
    obtain ⟨g', f', s1, s2⟩ := del_good hf k gc huc (.inr (by omega))
    have ahead := way_ahead e2 e1 hA
    have behind := way_behind hr e2 e1 hA
    have hmid := del_mid (C := flat c) ahead behind
    have hsep : Sep ks (A ++ delT fan k d c :: B) := e2.set_del fun p hp => by rw [f'] at hp; exact mem_del hp
    have hu' : Up (flats (A ++ delT fan k d c :: B)) := by rw [flats_at, f', ← hmid]; exact up_del hu
    have hfl : flats (A ++ delT fan k d c :: B) = del k (flats A ++ (flat c ++ flats B)) := by rw [flats_at, f', hmid]
    rw [← hfl]
    obtain ⟨c', hc'⟩ : ∃ c', delT fan k d c = c' := ⟨_, rfl⟩
    rw [hc'] at g' f' s1 s2 hsep hu' ⊢
    have oA : ∀ t ∈ A, Good fan d t ∧ fan / 2 ≤ t.size ∧ t.size ≤ fan := fun t ht => e3 t (by simp [ht])
    have oB : ∀ t ∈ B, Good fan d t ∧ fan / 2 ≤ t.size ∧ t.size ≤ fan := fun t ht => e3 t (by simp [ht])
    have hts : (T.node ks (A ++ c :: B)).size = A.length + (B.length + 1) := by simp [T.size]
    rw [hts]
    simp only [List.length_append, List.length_cons] at e1 h2' ⊢
    by_cases hlt : c'.size < fan / 2
    · rw [if_pos hlt]
      cases B with
      | cons b B =>
        have hmin : min A.length (A.length + ((b :: B).length + 1) - 2) = A.length := by simp only [List.length_cons]; omega
        rw [hmin]
        obtain ⟨s, hs⟩ : ∃ s, ks[A.length]? = some s := ⟨ks[A.length]'(by simp only [List.length_cons] at e1; omega), List.getElem?_eq_getElem _⟩
        have hks := split_at hs
        obtain ⟨Ka, Kb, hKa, rfl⟩ : ∃ Ka Kb, Ka.length = A.length ∧ ks = Ka ++ s :: Kb := ⟨ks.take A.length, ks.drop (A.length + 1), by simp; have := (List.getElem?_eq_some_iff.1 hs).1; omega, hks⟩
        obtain ⟨gb, sb1, sb2⟩ := oB b (by simp)
        have := join_good hf (by simp only [List.length_append, List.length_cons] at e1 ⊢; omega) hKa hsep oA (fun t ht => oB t (by simp [ht])) g' gb (by omega) (by omega) hu'
        simpa only [List.length_append, List.length_cons] using this
      | nil =>
        obtain ⟨A', a, rfl⟩ : ∃ A' a, A = A' ++ [a] := ⟨A.dropLast, A.getLast (by intro e; subst e; simp at h2'), (List.dropLast_concat_getLast _).symm⟩
        have hmin : min (A'.length + 1) (A'.length + 1 + (([] : List T).length + 1) - 2) = A'.length := by simp
        simp only [List.length_append, List.length_cons, List.length_nil, Nat.zero_add] at hmin ⊢
        rw [hmin]
        have hr2 : A' ++ [a] ++ c' :: [] = A' ++ a :: c' :: [] := by simp
        rw [hr2] at hsep hu' ⊢
        obtain ⟨s, hs⟩ : ∃ s, ks[A'.length]? = some s := ⟨ks[A'.length]'(by simp at e1; omega), List.getElem?_eq_getElem _⟩
        have hks := split_at hs
        obtain ⟨Ka, Kb, hKa, rfl⟩ : ∃ Ka Kb, Ka.length = A'.length ∧ ks = Ka ++ s :: Kb := ⟨ks.take A'.length, ks.drop (A'.length + 1), by simp; have := (List.getElem?_eq_some_iff.1 hs).1; omega, hks⟩
        obtain ⟨ga, sa1, sa2⟩ := oA a (by simp)
        have := join_good hf (by simp only [List.length_append, List.length_cons, List.length_nil] at e1 ⊢; omega) hKa hsep (fun t ht => oA t (by simp [ht])) (fun t ht => by cases ht) ga g' (by omega) (by omega) hu'
        refine ⟨this.1, this.2.1, ?_⟩
        have t1 := this.2.2
        simp only [List.length_append, List.length_cons, List.length_nil] at t1 ⊢
        omega
    · rw [if_neg hlt]
      refine ⟨⟨_, _, rfl, by simp only [List.length_append, List.length_cons]; omega, hsep, ?_⟩, rfl, ?_⟩
      · intro t ht
        simp only [List.mem_append, List.mem_cons] at ht
        rcases ht with ht | rfl | ht
        · exact oA t ht
        · exact ⟨g', by omega, by omega⟩
        · exact oB t ht
      · simp only [T.size, List.length_append, List.length_cons]; omega
end Go.Ux
/- A cell of a row written anew; what a leaf's put does to its rows. -/
namespace Go.Ux
open Go Go.RowKit

theorem own_set {w : World} {e : TypeId} {g n c i : Nat} {xs : List Value} (h : w.ownsRow 0 e 1 (.slice (some ⟨g, 0, none⟩) n c) n xs) (hi : i < n) (u : Value) : (w.setCell ⟨g, i, none⟩ u).ownsRow 0 e 1 (.slice (some ⟨g, 0, none⟩) n c) n (xs.set i u) := by
  obtain ⟨h1, h2⟩ := h
  refine ⟨by simpa using h1, .inr ?_⟩
  rcases h2 with ⟨hv, _⟩ | ⟨g', cap, cur, hv, hb, hh, h3, h4, h5, h6⟩
  · cases hv
  · cases hv
    have := heap_setCell_same w g i cur e u hh
    refine ⟨g, c, _, rfl, hb, this, h3, h4, ?_, ?_⟩
    · simpa using h5
    · rw [Nat.mul_one] at h6 ⊢
      rw [← h6]
      simp [List.take_set]

theorem ins_has {k : ByteArray} {v : Int} {l : List Ent} (h : has (keys l) k = true) : lb (keys l) k < l.length ∧ ins k v l = l.set (lb (keys l) k) (k, v) ∧ (l[lb (keys l) k]?).map (·.1) = some k := by
  have h' := h
  unfold has at h'
  rw [decide_eq_true_iff] at h'
  have hl := (List.getElem?_eq_some_iff.1 h').1
  rw [keys_length] at hl
  refine ⟨hl, ?_, by rw [← getElem?_keys]; exact h'⟩
  unfold ins
  rw [if_pos h, List.set_eq_take_append_cons_drop, if_pos hl]
theorem ins_not {k : ByteArray} {v : Int} {l : List Ent} (h : has (keys l) k = false) : ins k v l = l.take (lb (keys l) k) ++ (k, v) :: l.drop (lb (keys l) k) := by
  unfold ins
  rw [if_neg (by rw [h]; exact Bool.false_ne_true)]
theorem ins_keys {k : ByteArray} {v : Int} {l : List Ent} (h : has (keys l) k = true) : (ins k v l).map (fun p => Value.string p.1) = l.map fun p => Value.string p.1 := by
  obtain ⟨h1, h2, h3⟩ := ins_has (v := v) h
  rw [h2, List.map_set]
  apply List.ext_getElem?
  intro j
  rw [List.getElem?_set]
  split
  · rename_i hj
    subst hj
    rw [if_pos (by simpa using h1), List.getElem?_map]
    cases e : l[lb (keys l) k]? with
    | none => rw [e] at h3; cases h3
    | some p => rw [e] at h3; simp at h3 ⊢; exact h3.symm
  · rfl
end Go.Ux
namespace Go.Ux
open Go Go.RowKit

/-- blocks in the place of others: old ones of theirs, or new ones -/
theorem fp_swap {pre post fc fc' : List Nat} {N : Nat} (h : (pre ++ (fc ++ post)).Nodup) (hlt : ∀ b ∈ pre ++ (fc ++ post), b < N) (h' : fc'.Nodup) (hs : ∀ b ∈ fc', b ∈ fc ∨ N ≤ b) : (pre ++ (fc' ++ post)).Nodup := by
  obtain ⟨n1, n2, n3⟩ := List.nodup_append.1 h
  obtain ⟨n4, n5, n6⟩ := List.nodup_append.1 n2
  refine List.nodup_append.2 ⟨n1, List.nodup_append.2 ⟨h', n5, ?_⟩, ?_⟩
  · intro a ha b hb e
    subst e
    rcases hs a ha with h | h
    · exact n6 a h a hb rfl
    · have := hlt a (by simp [hb]); omega
  · intro a ha b hb e
    subst e
    rcases List.mem_append.1 hb with hb | hb
    · rcases hs a hb with h | h
      · exact n3 a ha a (by simp [h]) rfl
      · have := hlt a (by simp [ha]); omega
    · exact n3 a ha a (by simp [hb]) rfl

theorem back_small {fan : Nat} {ks : List ByteArray} {A B : List T} {c c' : T} (h : c'.size ≤ fan) : back fan ks (A ++ c :: B) A.length c' = .node ks (A ++ c' :: B) := by
  have eT : (A ++ c :: B).take A.length = A := List.take_left
  have eD : (A ++ c :: B).drop (A.length + 1) = B := by rw [List.drop_append, List.drop_eq_nil_of_le (by omega), show A.length + 1 - A.length = 1 by omega]; rfl
  unfold back
  rw [if_neg (by omega), eT, eD]
theorem back_big {fan : Nat} {ks : List ByteArray} {A B : List T} {c c' : T} (h : fan < c'.size) : back fan ks (A ++ c :: B) A.length c' = .node (ks.take A.length ++ halfK c' :: ks.drop A.length) (A ++ half1 c' :: half2 c' :: B) := by
  have eT : (A ++ c :: B).take A.length = A := List.take_left
  have eD : (A ++ c :: B).drop (A.length + 1) = B := by rw [List.drop_append, List.drop_eq_nil_of_le (by omega), show A.length + 1 - A.length = 1 by omega]; rfl
  unfold back
  rw [if_pos h, eT, eD]
theorem put_length {α : Type} {A B : List α} {c c' : α} : (A ++ c :: B).length = (A ++ c' :: B).length := by simp
end Go.Ux
namespace Go.Ux
open Go Go.RowKit
theorem ins_len_has {k : ByteArray} {v : Int} {l : List Ent} (h : has (keys l) k = true) : (ins k v l).length = l.length := by
  rw [(ins_has h).2.1, List.length_set]
theorem ins_len_not {k : ByteArray} {v : Int} {l : List Ent} (h : has (keys l) k = false) : (ins k v l).length = l.length + 1 := by
  have hl := lb_le (keys l) k
  rw [keys_length] at hl
  rw [ins_not h]
  simp only [List.length_append, List.length_take, List.length_cons, List.length_drop]; omega
end Go.Ux
/- append of one owned row upon another. -/
namespace Go.Ux
open Go Go.RowKit
theorem src_own {P : Program} {w : World} {tx e e' : TypeId} {v : Value} {n : Nat} {xs : List Value} (hk : P.underlying tx = some (.slice e')) (h : w.ownsRow 0 e 1 v n xs) (h1 : ∀ u ∈ xs, u.oneCell' = true) : Src P 1 tx v n xs w := by
  have hl := h.1
  rcases h.2 with ⟨rfl, rfl⟩ | ⟨g, cap, cur, rfl, _, hg, _, _, _, htk⟩
  · have hx : xs = [] := List.eq_nil_of_length_eq_zero (by simpa using hl)
    subst hx
    exact Src.ofNil w hk 0
  · exact Src.ofSlice w hk ⟨g, 0, none⟩ n cap xs hl (fun j u hj => by
      rw [Addr.add_lit, Nat.zero_add]
      exact row_cell hg (by simpa using htk) j u hj) h1
end Go.Ux
/- Two trees side by side made one, in memory: the ends of it. -/
namespace Go.Ux
open Go Go.RowKit

theorem joinT_at {fan : Nat} {Ka Kb : List ByteArray} {s : ByteArray} {A B : List T} {a b : T} (hK : Ka.length = A.length) :
    joinT fan (Ka ++ s :: Kb) (A ++ a :: b :: B) A.length = if fan < (mrg a s b).size then .node (Ka ++ halfK (mrg a s b) :: Kb) (A ++ half1 (mrg a s b) :: half2 (mrg a s b) :: B) else .node (Ka ++ Kb) (A ++ mrg a s b :: B) := by
  have e0 : (A ++ a :: b :: B)[A.length]? = some a := at_mid
  have e1 : (A ++ a :: b :: B)[A.length + 1]? = some b := at_right (A := A) (B := b :: B) (c := a) (j := 0) (t := b) rfl
  have e2 : (Ka ++ s :: Kb)[A.length]? = some s := by rw [← hK, List.getElem?_append_right (Nat.le_refl _), Nat.sub_self]; rfl
  have t0 : (A ++ a :: b :: B).take A.length = A := List.take_left
  have t1 : (A ++ a :: b :: B).drop (A.length + 2) = B := by rw [List.drop_append, List.drop_eq_nil_of_le (by omega), show A.length + 2 - A.length = 2 by omega]; rfl
  have t2 : (Ka ++ s :: Kb).take A.length = Ka := by rw [← hK]; exact List.take_left
  have t3 : (Ka ++ s :: Kb).drop (A.length + 1) = Kb := by rw [← hK, List.drop_append, List.drop_eq_nil_of_le (by omega), show Ka.length + 1 - Ka.length = 1 by omega]; rfl
  unfold joinT
  rw [e0, e1, e2]
  simp only [t0, t1, t2, t3]

/-- what join leaves -/
def JoinLeft (w : World) (t' : T) (x : Nat) (fp : List Nat) (w' : World) : Prop :=
  ∃ fp', NodeAt w' t' x fp' ∧ fp'.Nodup ∧ (∀ b ∈ fp', b ∈ fp ∨ w.heap.size ≤ b) ∧ Touch (fun b => b ∈ fp) w w'

/-- a node ahead of a join: its rows, the two trees at their place, those about them -/
structure JoinAt (w : World) (Ka Kb : List ByteArray) (s : ByteArray) (A B : List T) (x g gk cc ck x1 x2 : Nat) (xa xb fa f1 f2 fb fp : List Nat) : Prop where
  node : w.heap[x]? = some (.cells #[.slice (some ⟨gk, 0, none⟩) (Ka ++ s :: Kb).length ck, .slice none 0 0, .slice (some ⟨g, 0, none⟩) (A.length + (B.length + 2)) cc] 62 (0, 0))
  keys : w.ownsRow 0 9 1 (.slice (some ⟨gk, 0, none⟩) (Ka ++ s :: Kb).length ck) (Ka ++ s :: Kb).length ((Ka ++ s :: Kb).map .string)
  kids : w.ownsRow 0 59 1 (.slice (some ⟨g, 0, none⟩) (A.length + (B.length + 2)) cc) (A.length + (B.length + 2)) ((xa ++ x1 :: x2 :: xb).map ptr)
  left : NodesAt w A xa fa
  right : NodesAt w B xb fb
  lenK : Ka.length = A.length
  lenB : Kb.length = B.length
  fps : fp = x :: ([gk] ++ [g] ++ (fa ++ (f1 ++ (f2 ++ fb))))
  nodup : fp.Nodup
  lt : ∀ b ∈ fp, b < w.heap.size

theorem JoinAt.apart {w : World} {Ka Kb : List ByteArray} {s : ByteArray} {A B : List T} {x g gk cc ck x1 x2 : Nat} {xa xb fa f1 f2 fb fp : List Nat} (h : JoinAt w Ka Kb s A B x g gk cc ck x1 x2 xa xb fa f1 f2 fb fp) :
    (x ≠ g ∧ x ≠ gk ∧ g ≠ gk) ∧ (∀ b ∈ f1 ++ f2, b ≠ x ∧ b ≠ g ∧ b ≠ gk ∧ b ∉ fa ∧ b ∉ fb) ∧ (∀ b ∈ fa ++ fb, b ≠ x ∧ b ≠ g ∧ b ≠ gk) := by
  have hnd := h.nodup
  rw [h.fps] at hnd
  have n1 := List.nodup_cons.1 hnd
  have n2 := List.nodup_append.1 n1.2
  have n3 := List.nodup_append.1 n2.1
  have n4 := List.nodup_append.1 n2.2.1
  have n5 := List.nodup_append.1 n4.2.1
  have n6 := List.nodup_append.1 n5.2.1
  refine ⟨⟨fun e => n1.1 (by simp [e]), fun e => n1.1 (by simp [e]), fun e => n3.2.2 gk (by simp) g (by simp) e.symm⟩, fun b hb => ?_, fun b hb => ?_⟩
  · have hm : b ∈ fa ++ (f1 ++ (f2 ++ fb)) := by rcases List.mem_append.1 hb with h | h <;> simp [h]
    refine ⟨fun e => n1.1 (by rw [← e]; exact List.mem_append_right _ hm), fun e => n2.2.2 g (by simp) b hm e.symm, fun e => n2.2.2 gk (by simp) b hm e.symm, fun h => ?_, fun h => ?_⟩
    · rcases List.mem_append.1 hb with h' | h'
      · exact n4.2.2 b h b (by simp [h']) rfl
      · exact n4.2.2 b h b (by simp [h']) rfl
    · rcases List.mem_append.1 hb with h' | h'
      · exact n5.2.2 b h' b (by simp [h]) rfl
      · exact n6.2.2 b h' b h rfl
  · have hm : b ∈ fa ++ (f1 ++ (f2 ++ fb)) := by rcases List.mem_append.1 hb with h | h <;> simp [h]
    exact ⟨fun e => n1.1 (by rw [← e]; exact List.mem_append_right _ hm), fun e => n2.2.2 g (by simp) b hm e.symm, fun e => n2.2.2 gk (by simp) b hm e.symm⟩

theorem JoinAt.fp_nodup {w : World} {Ka Kb : List ByteArray} {s : ByteArray} {A B : List T} {x g gk cc ck x1 x2 : Nat} {xa xb fa f1 f2 fb fp fm : List Nat} (h : JoinAt w Ka Kb s A B x g gk cc ck x1 x2 xa xb fa f1 f2 fb fp) (hnd : fm.Nodup) (hs : ∀ b ∈ fm, b ∈ f1 ++ f2 ∨ w.heap.size ≤ b) :
    (x :: ([gk] ++ [g] ++ (fa ++ (fm ++ fb)))).Nodup ∧ ∀ b ∈ x :: ([gk] ++ [g] ++ (fa ++ (fm ++ fb))), b ∈ fp ∨ w.heap.size ≤ b := by
  have h1 := h.nodup
  have h2 := h.lt
  have e : fp = (x :: ([gk] ++ [g] ++ fa)) ++ ((f1 ++ f2) ++ fb) := by rw [h.fps]; simp
  rw [e] at h1 h2
  have := fp_swap h1 h2 hnd hs
  refine ⟨by simpa using this, fun b hb => ?_⟩
  rw [h.fps]
  simp only [List.mem_cons, List.mem_append, List.not_mem_nil, or_false] at hb ⊢
  rcases hb with hb | (hb | hb) | hb | hb | hb
  · exact .inl (.inl hb)
  · exact .inl (.inr (.inl (.inl hb)))
  · exact .inl (.inr (.inl (.inr hb)))
  · exact .inl (.inr (.inr (.inl hb)))
  · rcases hs b hb with h | h
    · rcases List.mem_append.1 h with h | h
      · exact .inl (.inr (.inr (.inr (.inl h))))
      · exact .inl (.inr (.inr (.inr (.inr (.inl h)))))
    · exact .inr h
  · exact .inl (.inr (.inr (.inr (.inr (.inr hb)))))

/-- made one, and it stays one -/
theorem join_small {w w3 W : World} {Ka Kb : List ByteArray} {s : ByteArray} {A B : List T} {M : T} {x g gk cc ck x1 x2 ck' cc' : Nat} {xa xb fa f1 f2 fb fp fm : List Nat} (h : JoinAt w Ka Kb s A B x g gk cc ck x1 x2 xa xb fa f1 f2 fb fp)
    (hm : NodeAt w3 M x1 fm) (hnd : fm.Nodup) (hs : ∀ b ∈ fm, b ∈ f1 ++ f2 ∨ w.heap.size ≤ b) (T3 : Touch (fun b => b ∈ f1 ++ f2) w w3) (TW : Touch (fun b => b = g ∨ b = gk ∨ b = x) w3 W)
    (hx : W.heap[x]? = some (.cells #[.slice (some ⟨gk, 0, none⟩) (Ka ++ Kb).length ck', .slice none 0 0, .slice (some ⟨g, 0, none⟩) (A.length + (B.length + 1)) cc'] 62 (0, 0)))
    (ok : W.ownsRow 0 9 1 (.slice (some ⟨gk, 0, none⟩) (Ka ++ Kb).length ck') (Ka ++ Kb).length ((Ka ++ Kb).map .string))
    (oc : W.ownsRow 0 59 1 (.slice (some ⟨g, 0, none⟩) (A.length + (B.length + 1)) cc') (A.length + (B.length + 1)) ((xa ++ x1 :: xb).map ptr)) :
    JoinLeft w (.node (Ka ++ Kb) (A ++ M :: B)) x fp W := by
  obtain ⟨a1, a2, a3⟩ := h.apart
  obtain ⟨n1, n2⟩ := h.fp_nodup hnd hs
  have hfp : ∀ b, b = x ∨ b = g ∨ b = gk → b ∈ fp := fun b hb => by rw [h.fps]; rcases hb with e | e | e <;> simp [e]
  have hlen : (A ++ M :: B).length = A.length + (B.length + 1) := by simp
  have far : ∀ b ∈ fa ++ fb, ¬ (b ∈ f1 ++ f2) := fun b hb hc => by
    have := a2 b hc
    rcases List.mem_append.1 hb with h | h
    · exact this.2.2.2.1 h
    · exact this.2.2.2.2 h
  refine ⟨_, ⟨_, _, xa ++ x1 :: xb, fa ++ (fm ++ fb), hx, ok, by rw [hlen]; exact oc, NodesAt.mk ((h.left.touch T3 (fun b hb => far b (by simp [hb]))).touch TW (fun b hb e => ?_)) (hm.touch TW (fun b hb e => ?_)) ((h.right.touch T3 (fun b hb => far b (by simp [hb]))).touch TW (fun b hb e => ?_)), rfl⟩, n1, n2, (T3.mono (fun b _ hb => ?_) : Touch (fun b => b ∈ fp) w w3).trans TW (fun b _ e => ?_)⟩
  · have := a3 b (by simp [hb]); rcases e with e | e | e <;> simp [e] at this
  · rcases hs b hb with hh | hh
    · have := a2 b hh; rcases e with e | e | e <;> simp [e] at this
    · have := h.lt b (hfp b (by rcases e with e | e | e <;> simp [e])); omega
  · have := a3 b (by simp [hb]); rcases e with e | e | e <;> simp [e] at this
  · rw [h.fps]; rcases List.mem_append.1 hb with hb | hb <;> simp [hb]
  · exact hfp b (by rcases e with e | e | e <;> simp [e])

/-- made one, and parted again -/
theorem join_big {w w4 : World} {Ka Kb : List ByteArray} {s k : ByteArray} {A B : List T} {M1 M2 : T} {x g gk cc ck x1 x2 y i : Nat} {xa xb fa f1 f2 fb fp fm1 fm2 : List Nat} (h : JoinAt w Ka Kb s A B x g gk cc ck x1 x2 xa xb fa f1 f2 fb fp) (hi : A.length = i)
    (hm1 : NodeAt w4 M1 x1 fm1) (hm2 : NodeAt w4 M2 y fm2) (hnd : (fm1 ++ fm2).Nodup) (hs : ∀ b ∈ fm1 ++ fm2, b ∈ f1 ++ f2 ∨ w.heap.size ≤ b) (T4 : Touch (fun b => b ∈ f1 ++ f2) w w4) :
    JoinLeft w (.node (Ka ++ k :: Kb) (A ++ M1 :: M2 :: B)) x fp ((w4.setCell ⟨g, i + 1, none⟩ (.pointer (some ⟨y, 0, none⟩))).setCell ⟨gk, i, none⟩ (.string k)) := by
  subst hi
  obtain ⟨a1, a2, a3⟩ := h.apart
  obtain ⟨n1, n2⟩ := h.fp_nodup hnd hs
  have hla := h.left.length
  have hfp : ∀ b, b = x ∨ b = g ∨ b = gk → b ∈ fp := fun b hb => by rw [h.fps]; rcases hb with e | e | e <;> simp [e]
  have hlen : (A ++ M1 :: M2 :: B).length = A.length + (B.length + 2) := by simp
  have hlenk : (Ka ++ k :: Kb).length = (Ka ++ s :: Kb).length := by simp
  have nof : ∀ b, b = x ∨ b = g ∨ b = gk → ¬ (b ∈ f1 ++ f2) := fun b e hb => by have := a2 b hb; rcases e with e | e | e <;> simp [e] at this
  have far : ∀ b ∈ fa ++ fb, ¬ (b ∈ f1 ++ f2) := fun b hb hc => by
    have := a2 b hc
    rcases List.mem_append.1 hb with h | h
    · exact this.2.2.2.1 h
    · exact this.2.2.2.2 h
  have TW : Touch (fun b => b = g ∨ b = gk) w4 ((w4.setCell ⟨g, A.length + 1, none⟩ (.pointer (some ⟨y, 0, none⟩))).setCell ⟨gk, A.length, none⟩ (.string k)) :=
    ((Touch.refl _ w4).setCell (p := ⟨g, A.length + 1, none⟩) (fun _ => .inl rfl) _).setCell (p := ⟨gk, A.length, none⟩) (fun _ => .inr rfl) _
  have ok4 := own_touch h.keys T4 (fun b hb => by cases hb; exact nof gk (.inr (.inr rfl)))
  have oc4 := own_touch h.kids T4 (fun b hb => by cases hb; exact nof g (.inr (.inl rfl)))
  have ok5 := own_touch ok4 ((Touch.refl (fun b => b = g) w4).setCell (p := ⟨g, A.length + 1, none⟩) (fun _ => rfl) (.pointer (some ⟨y, 0, none⟩))) (fun b hb e => by cases hb; exact a1.2.2 e.symm)
  have ok6 := own_set (i := A.length) ok5 (by simp; have := h.lenK; omega) (.string k)
  have oc5 := own_set (i := A.length + 1) oc4 (by omega) (.pointer (some ⟨y, 0, none⟩))
  have oc6 := own_touch oc5 ((Touch.refl (fun b => b = gk) _).setCell (p := ⟨gk, A.length, none⟩) (fun _ => rfl) (.string k)) (fun b hb e => by cases hb; exact a1.2.2 e)
  have ek : ((Ka ++ s :: Kb).map Value.string).set A.length (.string k) = (Ka ++ k :: Kb).map .string := by
    rw [List.map_append, List.set_append_right _ _ (by simp [h.lenK]), List.length_map, h.lenK, Nat.sub_self]
    simp
  have ec : ((xa ++ x1 :: x2 :: xb).map ptr).set (A.length + 1) (.pointer (some ⟨y, 0, none⟩)) = (xa ++ x1 :: y :: xb).map ptr := by
    rw [List.map_append, List.set_append_right _ _ (by simp [hla]), List.length_map, hla, show A.length + 1 - A.length = 1 by omega]
    simp [ptr]
  rw [ek] at ok6
  rw [ec] at oc6
  have hx4 := TW.heap (T4.heap h.node (nof x (.inl rfl))) (fun e => by rcases e with e | e; exact a1.1 e; exact a1.2.1 e)
  have okf : ∀ b ∈ fm1 ++ fm2, ¬ (b = g ∨ b = gk) := fun b hb e => by
    rcases hs b hb with hh | hh
    · have := a2 b hh; rcases e with e | e <;> simp [e] at this
    · have := h.lt b (hfp b (by rcases e with e | e <;> simp [e])); omega
  have nn : ∀ b ∈ fa ++ fb, ¬ (b = g ∨ b = gk) := fun b hb e => by have := a3 b hb; rcases e with e | e <;> simp [e] at this
  have hK := NodesAt.mk ((h.left.touch T4 (fun b hb => far b (by simp [hb]))).touch TW (fun b hb => nn b (by simp [hb]))) (hm1.touch TW (fun b hb => okf b (by simp [hb])))
    (show NodesAt _ (M2 :: B) (y :: xb) (fm2 ++ fb) from ⟨y, xb, fm2, fb, rfl, rfl, hm2.touch TW (fun b hb => okf b (by simp [hb])), (h.right.touch T4 (fun b hb => far b (by simp [hb]))).touch TW (fun b hb => nn b (by simp [hb]))⟩)
  refine ⟨_, ⟨_, _, xa ++ x1 :: y :: xb, _, hx4, by rw [hlenk]; exact ok6, by rw [hlen]; exact oc6, hK, rfl⟩, by simpa [blk, Value.ownBlock] using n1, fun b hb => n2 b (by simpa [blk, Value.ownBlock] using hb), (T4.mono (fun b _ hb => ?_) : Touch (fun b => b ∈ fp) w w4).trans TW (fun b _ e => hfp b (.inr e))⟩
  rw [h.fps]; rcases List.mem_append.1 hb with hb | hb <;> simp [hb]
end Go.Ux
