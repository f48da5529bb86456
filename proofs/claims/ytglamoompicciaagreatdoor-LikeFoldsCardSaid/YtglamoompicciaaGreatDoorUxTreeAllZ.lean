import Derived.WalkKit
import Derived.Deep.AppendSrc
import Derived.Lib.SliceRun
import Derived.Lib.AppendZeros
import Derived.Lib.Strings
/- PART OF THE PROOF THAT THIS CLAIM HOLDS OF THE GIVEN PROGRAM, FOR EVERY INPUT THAT THE STATEMENT NAMES. No condition besides the statement's own. -/
/- What a call may touch; slices that own their block; append, copy and clear upon them. -/
namespace Go.Ux
open Go Go.RowKit

/-- Of what was there only the blocks of R may have changed. -/
structure Touch (R : Nat → Prop) (w w' : World) : Prop where
  os : w'.os = w.os
  tape : w'.tape = w.tape
  output : w'.output = w.output
  size : w.heap.size ≤ w'.heap.size
  block : ∀ k, k < w.heap.size → ¬ R k → w'.heap[k]? = w.heap[k]?

theorem Touch.refl (R : Nat → Prop) (w : World) : Touch R w w := ⟨rfl, rfl, rfl, Nat.le_refl _, fun _ _ _ => rfl⟩
theorem Touch.trans {R R' : Nat → Prop} {a b c : World} (h : Touch R a b) (k : Touch R' b c) (hR : ∀ i, i < a.heap.size → R' i → R i) : Touch R a c :=
  ⟨k.os.trans h.os, k.tape.trans h.tape, k.output.trans h.output, Nat.le_trans h.size k.size, fun i hi hn =>
    (k.block i (Nat.lt_of_lt_of_le hi h.size) (fun h' => hn (hR i hi h'))).trans (h.block i hi hn)⟩
theorem Touch.mono {R R' : Nat → Prop} {a b : World} (h : Touch R a b) (hR : ∀ i, i < a.heap.size → R i → R' i) : Touch R' a b :=
  ⟨h.os, h.tape, h.output, h.size, fun i hi hn => h.block i hi (fun h' => hn (hR i hi h'))⟩
theorem Touch.drew {R : Nat → Prop} {a w : World} (h : Touch R a w) : Touch R a w.drew := ⟨h.os, h.tape, h.output, h.size, h.block⟩
theorem Touch.of_drew {R : Nat → Prop} {a w : World} (h : Touch R a.drew w) : Touch R a w := ⟨h.os, h.tape, h.output, h.size, h.block⟩
theorem Touch.alloc {R : Nat → Prop} {a w : World} (h : Touch R a w) (o : Obj) : Touch R a (w.alloc o) :=
  ⟨h.os, h.tape, h.output, by have := h.size; simp; omega, fun i hi hn => (Below.heap_alloc w o i (Nat.lt_of_lt_of_le hi h.size)).trans (h.block i hi hn)⟩
theorem Touch.setCell {R : Nat → Prop} {a w : World} (h : Touch R a w) {p : Addr} (hp : p.block < a.heap.size → R p.block) (u : Value) : Touch R a (w.setCell p u) :=
  ⟨h.os, h.tape, h.output, by have := h.size; simpa [World.setCell] using this, fun i hi hn => (heap_setCell_other w p i u (fun e => hn (e ▸ hp (e ▸ hi)))).trans (h.block i hi hn)⟩
theorem Touch.setRow {R : Nat → Prop} {a w : World} (h : Touch R a w) {g : Nat} (hp : g < a.heap.size → R g) (cs : Array Value) : Touch R a (w.setRow g cs) :=
  ⟨h.os, h.tape, h.output, by have := h.size; simpa using this, fun i hi hn => (setRow_other w g i cs (fun e => hn (e ▸ hp (e ▸ hi)))).trans (h.block i hi hn)⟩
theorem Touch.below {w w' : World} (h : Touch (fun _ => False) w w') : Below w.heap.size w w' := ⟨h.os, h.tape, h.output, h.size, fun k hk => h.block k hk (fun f => f)⟩
theorem Touch.of_below {R : Nat → Prop} {w w' : World} (h : Below w.heap.size w w') : Touch R w w' := ⟨h.os, h.tape, h.output, h.size, fun k hk _ => h.block k hk⟩
theorem lt_of_heap {w : World} {b : Nat} {o : Obj} (h : w.heap[b]? = some o) : b < w.heap.size := (Array.getElem?_eq_some_iff.1 h).1
theorem Touch.heap {R : Nat → Prop} {w w' : World} (h : Touch R w w') {b : Nat} {o : Obj} (hb : w.heap[b]? = some o) (hn : ¬ R b) : w'.heap[b]? = some o :=
  (h.block b (lt_of_heap hb) hn).trans hb
theorem Touch.cell {R : Nat → Prop} {w w' : World} (h : Touch R w w') {a : Addr} {v : Value} (hb : w.cell? a = some v) (hn : ¬ R a.block) : w'.cell? a = some v :=
  (World.cell?_of_block (h.block a.block (block_lt_of_cell hb) hn)).trans hb

section own
variable {w : World} {e : TypeId} {size : Nat} {v : Value} {n : Nat} {xs : List Value}

theorem own_touch {R : Nat → Prop} {w' : World} (h : w.ownsRow 0 e size v n xs) (ht : Touch R w w') (hn : ∀ b, v.ownBlock = some b → ¬ R b) : w'.ownsRow 0 e size v n xs := by
  obtain ⟨h1, h2⟩ := h
  refine ⟨h1, h2.imp id fun ⟨g, cap, cur, hv, hg, hh, r⟩ => ⟨g, cap, cur, hv, hg, ht.heap hh (hn g (by rw [hv]; rfl)), r⟩⟩

theorem own_pos (h : w.ownsRow 0 e size v n xs) (hn : 0 < n) : ∃ g cap cur, v = .slice (some ⟨g, 0, none⟩) n cap ∧ n ≤ cap ∧ cap ≤ maxLen ∧ w.heap[g]? = some (.cells cur e (0, 0)) ∧ cur.size = cap * size ∧ cur.toList.take (n * size) = xs := by
  rcases h.2 with ⟨_, h0⟩ | ⟨g, cap, cur, hv, _, hh, h1, h2, h3, h4⟩
  · omega
  · exact ⟨g, cap, cur, hv, h1, h2, hh, h3, h4⟩

theorem own_lt (h : w.ownsRow 0 e size v n xs) : ∀ b, v.ownBlock = some b → b < w.heap.size := fun b hb => (h.lt b hb).2

/-- a row cut at its end -/
theorem own_take {g c i : Nat} (h : w.ownsRow 0 e 1 (.slice (some ⟨g, 0, none⟩) n c) n xs) (hi : i ≤ n) : w.ownsRow 0 e 1 (.slice (some ⟨g, 0, none⟩) i c) i (xs.take i) := by
  obtain ⟨h1, h2⟩ := h
  refine ⟨by simp; omega, .inr ?_⟩
  rcases h2 with ⟨hv, _⟩ | ⟨g', cap, cur, hv, hb, hh, h3, h4, h5, h6⟩
  · cases hv
  · cases hv
    exact ⟨g, c, cur, rfl, hb, hh, by omega, h4, h5, by rw [← h6, List.take_take, Nat.mul_one, Nat.mul_one, Nat.min_eq_left hi]⟩

/-- the cells of a row -/
theorem row_cell {g : Nat} {cur : Array Value} {k : Nat} {t : TypeId} (hh : w.heap[g]? = some (.cells cur t (0, 0))) (ht : cur.toList.take k = xs) (j : Nat) (u : Value) (hj : xs[j]? = some u) : w.cell? ⟨g, j, none⟩ = some u := by
  rw [cell_of_row w g j cur t (0, 0) hh]
  have hlt : j < xs.length := (List.getElem?_eq_some_iff.1 hj).1
  rw [← ht, List.getElem?_take] at hj
  split at hj
  · simpa using hj
  · cases hj
end own

section app
variable {P : Program} (w : World)

/-- append upon a row that is owned: the same row, or a new one. -/
theorem run_app (t ty e : TypeId) (i : TypeInfo) (z : Value) (size bytes : Nat) (ht : P.underlying t = some (.slice e)) (hi : P.info? e = some i) (hz : i.zero = some z)
    (hsize : i.size = size) (hby : i.bytes = bytes) (hzs : z.cells.size = size) (hsz : 0 < size)
    (v : Value) (n : Nat) (xs : List Value) (hown : w.ownsRow 0 e size v n xs) (x : Value) (m : Nat) (news : List Value) (hs : Src P size t x m news w)
    (h63 : n + m ≤ maxLen) (hbytes : (n + m) * bytes ≤ 140737488355328) :
    ∃ v' w', (Builtin.append_ #[t, t] ty #[v, x]).run P w = .ok v' w' ∧ w'.ownsRow 0 e size v' (n + m) (xs ++ news) ∧ Touch (fun k => v.ownBlock = some k) w w' ∧
      (v'.ownBlock = v.ownBlock ∨ ∃ g, v'.ownBlock = some g ∧ w.heap.size ≤ g) ∧ (v' = .slice none 0 0 → v = .slice none 0 0 ∧ m = 0) := by
  subst hsize
  subst hby
  have hsmall : n + m ≤ 9223372036854775807 := by simp only [maxLen] at h63; omega
  have hlen : (xs ++ news).length = (n + m) * i.size := by rw [List.length_append, hown.1, hs.newsLen, Nat.add_mul]
  have grown : ∀ (old : Nat), old < n + m → ∀ (R : Nat → Prop),
      (w.drew.alloc (.cells ((xs ++ news).toArray ++ Builtin.zeroCells z.cells (grownCap w (n + m) old e - (n + m))) e)).ownsRow 0 e i.size
        (.slice (some ⟨w.heap.size, 0, none⟩) (n + m) (grownCap w (n + m) old e)) (n + m) (xs ++ news) ∧
      Touch R w (w.drew.alloc (.cells ((xs ++ news).toArray ++ Builtin.zeroCells z.cells (grownCap w (n + m) old e - (n + m))) e)) := by
    intro old ho R
    have hge := grownCap_ge w (n + m) old e
    have hcm : grownCap w (n + m) old e ≤ maxLen := grownCap_le_maxLen w (n + m) old e h63
    refine ⟨⟨hlen, .inr ⟨w.heap.size, _, _, rfl, Nat.zero_le _, heap_alloc_new w.drew _, hge, hcm, ?_, ?_⟩⟩, ((Touch.refl R w).drew).alloc _⟩
    · simp only [Array.size_append, List.size_toArray, size_zeroCells, hzs, hlen, ← Nat.add_mul]
      congr 1
      omega
    · simp only [Array.toList_append]
      rw [← hlen]
      exact List.take_left
  rcases hown.2 with ⟨rfl, rfl⟩ | ⟨g, cap, cur, rfl, _, hg, hnc, hcm, hcs, htake⟩
  · have hx : xs = [] := List.eq_nil_of_length_eq_zero (by simpa using hown.1)
    subst hx
    by_cases hm : m = 0
    · subst hm
      have hn : news = [] := List.eq_nil_of_length_eq_zero (by simpa using hs.newsLen)
      subst hn
      have h0 := hs.cells
      refine ⟨.slice none 0 0, w, ?_, World.ownsRow_nil w 0 e i.size, Touch.refl _ _, .inl rfl, fun _ => ⟨rfl, rfl⟩⟩
      rcases hs.kind with ⟨e', hk⟩ | hk <;> simp [Builtin.append_, run_underlying ht, run_underlying hk, sizeOf, typeInfo, hi, hs.len, h0]
    · have hr := run_append_grow_src (P := P) w t t ty e i z ht hi hz none 0 0 [] (run_firstCells_none w.drew i.size 0 0 0) x m news hs (by omega) (by omega) (growslice_fits (by omega) hbytes)
      have hgr := grown 0 (by omega) (fun k => Value.ownBlock (.slice none 0 0) = some k)
      simp only [Nat.zero_add, List.nil_append] at hgr hr ⊢
      exact ⟨_, _, hr, hgr.1, hgr.2, .inr ⟨_, rfl, Nat.le_refl _⟩, fun h => by cases h⟩
  · by_cases hroom : n + m ≤ cap
    · have hfit : n * i.size + news.length ≤ cur.size := by rw [hs.newsLen, hcs, ← Nat.add_mul]; exact Nat.mul_le_mul_right _ hroom
      have hst := run_storeCells_at P g (n * i.size) e news 0 cur w hg (by simpa using hfit) hs.one
      simp only [Nat.add_zero] at hst
      have hr : (Builtin.append_ #[t, t] ty #[.slice (some ⟨g, 0, none⟩) n cap, x]).run P w = .ok (.slice (some ⟨g, 0, none⟩) (n + m) cap) (w.setRow g (cur.toList.take (n * i.size) ++ news ++ cur.toList.drop (n * i.size + news.length)).toArray) := by
        rcases hs.kind with ⟨e', hk⟩ | hk <;> simp [Builtin.append_, run_underlying ht, run_underlying hk, sizeOf, typeInfo, hi, hs.len, hroom, hs.cells, Addr.add_lit, hst]
      refine ⟨_, _, hr, ⟨hlen, .inr ⟨g, cap, _, rfl, Nat.zero_le _, setRow_heap w g cur _ e _ hg, hroom, hcm, ?_, ?_⟩⟩, (Touch.refl (fun k => Value.ownBlock (.slice (some ⟨g, 0, none⟩) n cap) = some k) w).setRow (fun _ => rfl) _, .inl rfl, fun h => by cases h⟩
      · simp only [List.size_toArray, List.length_append, List.length_take, List.length_drop, Array.length_toList]
        omega
      · rw [htake, ← hlen]
        exact List.take_left
    · have hold : (Builtin.firstCells i.size n (.slice (some ⟨g, 0, none⟩) n cap)).run P w.drew = .ok xs.toArray w.drew :=
        run_firstCells_some w.drew i.size n ⟨g, 0, none⟩ n cap xs hown.1 (by simpa using hown.cells (g := g) rfl)
      have hr := run_append_grow_src (P := P) w t t ty e i z ht hi hz (some ⟨g, 0, none⟩) n cap xs hold x m news hs (by omega) (by omega) (growslice_fits (by omega) hbytes)
      have hgr := grown cap (by omega) (fun k => Value.ownBlock (.slice (some ⟨g, 0, none⟩) n cap) = some k)
      exact ⟨_, _, hr, hgr.1, hgr.2, .inr ⟨_, rfl, Nat.le_refl _⟩, fun h => by cases h⟩
/-- append of m zeros where there is no room: a new row. -/
theorem run_app_zeros (t tn ty e : TypeId) (i : TypeInfo) (z : Value) (k kn : IntKind) (ht : P.underlying t = some (.slice e)) (htn : P.underlying tn = some (.int kn)) (hi : P.info? e = some i) (hz : i.zero = some z)
    (hs : 0 < i.size) (base : Option Addr) (n c m : Nat) (olds : List Value) (hl : olds.length = n * i.size) (hold : ∀ j u, olds[j]? = some u → ∃ a, base = some a ∧ w.cell? (a.add j) = some u)
    (h0 : 0 < m) (hno : c < n + m) (h63 : n + m ≤ maxLen) (h47 : (n + m) * i.bytes ≤ 140737488355328) :
    (Builtin.append_ #[t, tn] ty #[.slice base n c, .int k m]).run P w =
      .ok (.slice (some ⟨w.heap.size, 0, none⟩) (n + m) (grownCap w (n + m) c e)) (w.drew.alloc (.cells (olds.toArray ++ Builtin.zeroCells z.cells m ++ Builtin.zeroCells z.cells (grownCap w (n + m) c e - (n + m))) e)) := by
  have hsm : n + m ≤ 9223372036854775807 := by simp only [maxLen] at h63; omega
  have hn : ¬ (n + m ≤ c) := by omega
  have hw : IntKind.i64.wrap (m : Int) = m := by rw [IntKind.wrap_i64]; omega
  have h63' : ¬ (9223372036854775807 < ((n : Int) + (m : Int))) := by omega
  have hfit := growslice_fits (bytes := i.bytes) hno h47
  have h48' : ¬ (281474976710656 < Builtin.nextslicecap (n + m) c * i.bytes) := by omega
  have hmb : m * i.bytes ≤ (n + m) * i.bytes := Nat.mul_le_mul_right _ (by omega)
  have h48i : ¬ (281474976710656 < (m : Int) * (i.bytes : Int)) := by
    rw [← Int.natCast_mul]
    omega
  have hneg : ¬ ((m : Int) < 0) := by omega
  have hns : ¬ (m * i.size = 0) := Nat.mul_ne_zero (by omega) (by omega)
  have hfo : (Builtin.firstCells i.size n (.slice base n c)).run P w.drew = .ok olds.toArray w.drew := by
    cases base with
    | none =>
      have : olds = [] := by
        cases olds with
        | nil => rfl
        | cons u us => obtain ⟨a, ha, _⟩ := hold 0 u rfl; cases ha
      subst this
      exact run_firstCells_none w.drew i.size n n c
    | some a => exact run_firstCells_some w.drew i.size n a n c olds hl (fun j u hj => by
        obtain ⟨a', ha, hc⟩ := hold j u hj
        cases ha
        simpa using hc)
  simp [Builtin.append_, run_underlying ht, run_underlying htn, sizeOf, typeInfo, zeroValue, hi, hz, asInt, asIntOf, hw, hn, hneg, hns, h63', h48', h48i, Question.forced, hfo, newRow, grownCap]

/-- copy into a row. -/
theorem run_copy_own (dT sT ty elem : TypeId) (hu : P.underlying dT = some (.slice elem)) (hsz : (P.info? elem).map (·.size) = some 1)
    (g o dLen dCap : Nat) (sp : Option Addr) (sLen sCap : Nat) (cur : Array Value) (t : TypeId) (hg : w.heap[g]? = some (.cells cur t (0, 0))) (cs : List Value) (hn : cs.length = Nat.min sLen dLen)
    (hsrc : ∀ j u, cs[j]? = some u → ∃ a, sp = some a ∧ w.cell? (a.add j) = some u) (hfit : o + cs.length ≤ cur.size) (h1 : ∀ v ∈ cs, v.oneCell' = true) :
    (Builtin.copy_ #[dT, sT] ty #[.slice (some ⟨g, o, none⟩) dLen dCap, .slice sp sLen sCap]).run P w =
      .ok (goInt cs.length) (w.setRow g (cur.toList.take o ++ cs ++ cur.toList.drop (o + cs.length)).toArray) := by
  have hst := run_storeCells_at P g o t cs 0 cur w hg (by simpa using hfit) h1
  cases hq : P.info? elem with
  | none => simp [hq] at hsz
  | some i =>
    have hi : i.size = 1 := by simpa [hq] using hsz
    have hl : (Builtin.firstCells 1 cs.length (.slice sp sLen sCap)).run P w = .ok cs.toArray w := by
      cases sp with
      | none =>
        have : cs = [] := by
          cases cs with
          | nil => rfl
          | cons u us => obtain ⟨a, ha, _⟩ := hsrc 0 u rfl; cases ha
        subst this
        exact run_firstCells_none w 1 0 sLen sCap
      | some a =>
        have := run_loadCells_list (P := P) w a cs (fun j u hj => by
          obtain ⟨a', ha, hc⟩ := hsrc j u hj
          cases ha
          exact hc)
        simpa [Builtin.firstCells] using this
    simp [Builtin.copy_, run_underlying hu, Builtin.lenOf, sizeOf, typeInfo, hq, hi, ← hn, hl, hst]

/-- clear of a piece of a row. -/
theorem run_clear_own (t e ty : TypeId) (z : Value) (ht : P.underlying t = some (.slice e)) (hv : ∀ w, (zeroValue e).run P w = .ok z w) (hz : z.cells = #[z]) (h1 : z.oneCell' = true)
    (g o n c : Nat) (cur : Array Value) (tt : TypeId) (hg : w.heap[g]? = some (.cells cur tt (0, 0))) (hfit : o + n ≤ cur.size) :
    (Builtin.clear_ #[t] ty #[.slice (some ⟨g, o, none⟩) n c]).run P w = .ok (.tuple #[]) (w.setRow g (cur.toList.take o ++ List.replicate n z ++ cur.toList.drop (o + n)).toArray) := by
  have hzc : (Builtin.zeroCells z.cells n).toList = List.replicate n z := by
    rw [hz]
    simp [Builtin.zeroCells]
    apply List.ext_getElem
    · simp
    · intro i h1 h2
      simp [Nat.mod_one]
  cases n with
  | zero =>
    have := setRow_self w g cur tt (0, 0) hg
    simp [Builtin.clear_, run_underlying ht, this]
  | succ n =>
    have hst := run_storeCells_at P g o tt (List.replicate (n + 1) z) 0 cur w hg (by simpa using hfit) (by intro v hv'; rw [List.eq_of_mem_replicate hv']; exact h1)
    simp only [Nat.add_zero, List.length_replicate] at hst
    simp [Builtin.clear_, run_underlying ht, hv, hzc, hst]
end app

@[go_sem] theorem eql_slice_nil {P : Program} (w : World) (t e : TypeId) (a : Option Addr) (n c : Nat) (h : P.underlying t = some (.slice e)) : (binOp .eql t (.slice a n c) (.slice none 0 0)).run P w = .ok (.bool a.isNone) w :=
  Lib.run_eql_slice_nil w t e a n c 0 0 h
end Go.Ux
/- The order of texts, byte by byte; where a key stands in a list in order. -/
namespace Go.Ux
open Go

/-- the model's order of bytes is the lists' -/
theorem bytesLess_dec : ∀ (x y : List UInt8), Op.bytesLess x y = decide (x < y)
  | [], [] => by simp [Op.bytesLess]
  | _ :: _, [] => by simp [Op.bytesLess]
  | [], _ :: _ => by simp [Op.bytesLess]
  | a :: x, b :: y => by
    have ih := bytesLess_dec x y
    simp only [Op.bytesLess, List.cons_lt_cons_iff]
    rw [ih]
    by_cases h : a < b
    · simp [h]
    · by_cases e : a = b
      · subst e; simp
      · simp [h, e]

/-- a stands below b -/
def slt (a b : ByteArray) : Bool := Op.bytesLess a.toList b.toList

theorem ba_ext {a b : ByteArray} (h : a.toList = b.toList) : a = b := by
  rw [Lib.toList_data, Lib.toList_data] at h
  cases a with
  | mk x => cases b with
    | mk y => exact congrArg ByteArray.mk (Array.toList_inj.1 h)

theorem slt_iff (a b : ByteArray) : slt a b = true ↔ a.toList < b.toList := by simp [slt, bytesLess_dec]
theorem slt_irrefl (a : ByteArray) : slt a a = false := by
  cases h : slt a a with
  | false => rfl
  | true => exact absurd ((slt_iff a a).1 h) (List.lt_irrefl _)
theorem slt_trans {a b c : ByteArray} (h : slt a b = true) (k : slt b c = true) : slt a c = true :=
  (slt_iff a c).2 (List.lt_trans ((slt_iff a b).1 h) ((slt_iff b c).1 k))
theorem slt_asymm {a b : ByteArray} (h : slt a b = true) : slt b a = false := by
  cases k : slt b a with
  | false => rfl
  | true => have := slt_trans h k; rw [slt_irrefl] at this; cases this
theorem slt_conn {a b : ByteArray} (h : slt a b = false) (k : slt b a = false) : a = b := by
  have h1 : ¬ a.toList < b.toList := fun x => by rw [(slt_iff a b).2 x] at h; cases h
  have h2 : ¬ b.toList < a.toList := fun x => by rw [(slt_iff b a).2 x] at k; cases k
  exact ba_ext (List.le_antisymm (List.not_lt.1 h2) (List.not_lt.1 h1))
theorem slt_of_le {a b c : ByteArray} (h : slt b a = false) (k : slt b c = true) : slt a c = true := by
  cases hac : slt a c with
  | true => rfl
  | false =>
    cases hab : slt a b with
    | true => rw [slt_trans hab k] at hac; cases hac
    | false => have := slt_conn hab h; subst this; rw [k] at hac; cases hac
theorem slt_of_le' {a b c : ByteArray} (h : slt a b = true) (k : slt c b = false) : slt a c = true := by
  cases hac : slt a c with
  | true => rfl
  | false =>
    cases hca : slt c a with
    | true => rw [slt_trans hca h] at k; cases k
    | false => have := slt_conn hac hca; subst this; rw [h] at k; cases k

/-- keys in order -/
def Rises (ks : List ByteArray) : Prop := ks.Pairwise fun a b => slt a b = true

/-- how many keys stand below one -/
def lb (ks : List ByteArray) (k : ByteArray) : Nat := (ks.takeWhile (slt · k)).length

theorem lb_le (ks : List ByteArray) (k : ByteArray) : lb ks k ≤ ks.length := by
  unfold lb; exact (List.takeWhile_prefix _).length_le

theorem lb_below (ks : List ByteArray) (k : ByteArray) (i : Nat) (x : ByteArray) (h : ks[i]? = some x) (hi : i < lb ks k) : slt x k = true := by
  induction ks generalizing i with
  | nil => simp at h
  | cons a l ih =>
    unfold lb at hi
    rw [List.takeWhile_cons] at hi
    cases ha : slt a k with
    | false => simp [ha] at hi
    | true =>
      simp only [ha, if_true, List.length_cons] at hi
      cases i with
      | zero => simp at h; subst h; exact ha
      | succ i => exact ih i (by simpa using h) (by unfold lb; omega)

theorem lb_at (ks : List ByteArray) (k : ByteArray) (x : ByteArray) (h : ks[lb ks k]? = some x) : slt x k = false := by
  induction ks with
  | nil => simp at h
  | cons a l ih =>
    unfold lb at h
    rw [List.takeWhile_cons] at h
    cases ha : slt a k with
    | false => simp [ha] at h; subst h; exact ha
    | true =>
      simp only [ha, if_true, List.length_cons, List.getElem?_cons_succ] at h
      exact ih h

theorem lb_above {ks : List ByteArray} (hs : Rises ks) (k : ByteArray) (i : Nat) (x : ByteArray) (h : ks[i]? = some x) (hi : lb ks k ≤ i) : slt x k = false := by
  rcases Nat.eq_or_lt_of_le hi with rfl | hlt
  · exact lb_at ks k x h
  · have hil : i < ks.length := (List.getElem?_eq_some_iff.1 h).1
    have hx : ks[lb ks k]? = some ks[lb ks k] := List.getElem?_eq_getElem (by omega)
    have h1 := lb_at ks k _ hx
    have h2 := List.pairwise_iff_getElem.1 hs (lb ks k) i (by omega) hil hlt
    rw [(List.getElem?_eq_some_iff.1 h).2] at h2
    cases hxk : slt x k with
    | false => rfl
    | true => rw [slt_trans h2 hxk] at h1; cases h1

theorem lb_unique {ks : List ByteArray} {k : ByteArray} {p : Nat} (hp : p ≤ ks.length) (h1 : ∀ i x, ks[i]? = some x → i < p → slt x k = true) (h2 : ∀ x, ks[p]? = some x → slt x k = false) : lb ks k = p := by
  rcases Nat.lt_trichotomy (lb ks k) p with h | h | h
  · have hx : ks[lb ks k]? = some ks[lb ks k] := List.getElem?_eq_getElem (by omega)
    have a := h1 _ _ hx h
    rw [lb_at ks k _ hx] at a; cases a
  · exact h
  · have hl := lb_le ks k
    have hx : ks[p]? = some ks[p] := List.getElem?_eq_getElem (by omega)
    have a := h2 _ hx
    rw [lb_below ks k p _ hx h] at a; cases a

/-- is a key there? -/
def has (ks : List ByteArray) (k : ByteArray) : Bool := decide (ks[lb ks k]? = some k)

theorem has_iff {ks : List ByteArray} (hs : Rises ks) (k : ByteArray) : has ks k = true ↔ k ∈ ks := by
  unfold has
  rw [decide_eq_true_iff]
  constructor
  · intro h; exact List.mem_of_getElem? h
  · intro h
    obtain ⟨i, hi, rfl⟩ := List.getElem_of_mem h
    have hx : ks[i]? = some ks[i] := List.getElem?_eq_getElem hi
    have : lb ks ks[i] = i := by
      rcases Nat.lt_trichotomy (lb ks ks[i]) i with h' | h' | h'
      · have hl := lb_le ks ks[i]
        have hy : ks[lb ks ks[i]]? = some ks[lb ks ks[i]] := List.getElem?_eq_getElem (by omega)
        have a := lb_at ks ks[i] _ hy
        have b := List.pairwise_iff_getElem.1 hs (lb ks ks[i]) i (by omega) hi h'
        rw [b] at a; cases a
      · exact h'
      · have a := lb_below ks ks[i] i _ hx h'
        rw [slt_irrefl] at a; cases a
    rw [this]; exact hx
end Go.Ux
