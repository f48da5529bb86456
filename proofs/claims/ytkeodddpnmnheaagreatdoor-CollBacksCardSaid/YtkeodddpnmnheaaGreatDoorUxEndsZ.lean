import Derived.Deep.Slices
import Derived.Deep.Fields
import Derived.ChangeSame
import Derived.ProofKit
import Derived.WideKeyArgs
import Derived.WalkKit
import Derived.OpenShut
import Derived.Carry
/- PART OF THE PROOF THAT THIS CLAIM HOLDS OF THE GIVEN PROGRAM, FOR EVERY INPUT THAT THE STATEMENT NAMES. No condition besides the statement's own. -/
/- Arguments that are slices: of texts, of truths, of structs of a number, a number and a text: their cells. -/
namespace Go.Ux
open Go Go.RowKit Go.ChangeShapes Go.WideShapes Go.Deep
section
variable {H : Type} {enc : TypeId × Value → H} {P : Program} {W : World} {b0 base : Nat} {r : Reach} {spare : Nat → Bool} {held : Bool} {v : Value} {d : DataW H} {p : List MemPlace}

/-- a slice that came in: each element's cells and their reading -/
theorem open_row {t e : TypeId} (ht : P.underlying t = some (.slice e)) (hv : Value.okWide P W r b0 t v) (h : DataW.Trod enc P W base spare held t v d p) :
    ∃ (a : Option Addr) (len c : Nat), v = .slice a len c ∧ len ≤ maxLen ∧ ∀ i, i < len → ∃ ad cs n y, a = some ad ∧ W.cells? base (ad.add (i * P.cellsOf e)) (P.cellsOf e) = some cs ∧ DataW.trod enc P W base spare held n e cs = some y := by
  obtain ⟨a0, len, cap, rfl⟩ := okWide_slice ht hv
  obtain ⟨fuel, hf⟩ := h
  rcases open_slice ht hf with ⟨hcs, _⟩ | ⟨a, len', cap', m, n, D, Pl, hcs, _, hl, hm, hmm, _, hi⟩
  · simp [Value.cells] at hcs
    obtain ⟨rfl, rfl, rfl⟩ := hcs
    exact ⟨none, 0, 0, rfl, Nat.zero_le _, fun i h => by omega⟩
  · simp [Value.cells] at hcs
    obtain ⟨rfl, rfl, rfl⟩ := hcs
    refine ⟨some a, len, cap, rfl, by omega, fun i h => ?_⟩
    obtain ⟨cs, h1, h2⟩ := hi i (by rw [hmm]; split <;> omega)
    exact ⟨a, cs, n, _, rfl, h1, h2⟩

/-- the cells of one element -/
theorem cells_at {ad : Addr} {n : Nat} {cs : List Value} (h : W.cells? base ad n = some cs) : cs.length = n ∧ ∀ j, j < n → W.cell? (ad.add j) = cs[j]? := by
  obtain ⟨_, h1, h2⟩ := World.cells?_some h
  exact ⟨h1, h2⟩

theorem plain_addr {ad : Addr} {u : Value} (h : W.cell? (ad.add 0) = some u) : ∃ b f, ad = ⟨b, f, none⟩ := by
  obtain ⟨b, off, spot⟩ := ad
  have hspot : spot = none := by simpa [Addr.add] using World.cell?_spot h
  subst hspot
  exact ⟨b, off, rfl⟩
theorem plain_row {ad : Addr} {m : Nat} {cs : List Value} (h : W.cells? base (ad.add (0 * (m + 1))) (m + 1) = some cs) : ∃ b f, ad = ⟨b, f, none⟩ := by
  obtain ⟨hl, hc⟩ := cells_at h
  have h0 := hc 0 (by omega)
  rw [Go.Deep.add_add, Nat.zero_mul] at h0
  obtain ⟨c, l, rfl⟩ : ∃ c l, cs = c :: l := by
    cases cs with
    | nil => simp at hl
    | cons c l => exact ⟨c, l, rfl⟩
  exact plain_addr h0

/-- a slice of truths -/
theorem open_truths {t e : TypeId} (ht : P.underlying t = some (.slice e)) (he : P.underlying e = some .bool) (hc : P.cellsOf e = 1) (hv : Value.okWide P W r b0 t v) (h : DataW.Trod enc P W base spare held t v d p) :
    ∃ (a : Option Addr) (c : Nat) (bs : List Bool), v = .slice a bs.length c ∧ bs.length ≤ maxLen ∧ ∀ i k, bs[i]? = some k → ∃ b f, a = some ⟨b, f, none⟩ ∧ b < W.heap.size ∧ W.cell? ⟨b, f + i, none⟩ = some (.bool k) := by
  obtain ⟨a, len, c, rfl, hl, hi⟩ := open_row ht hv h
  obtain ⟨B, hB⟩ := choose_lt (α := Bool) (n := len) (p := fun i k => ∃ b f, a = some ⟨b, f, none⟩ ∧ b < W.heap.size ∧ W.cell? ⟨b, f + i, none⟩ = some (.bool k)) (fun i h => by
    obtain ⟨ad, cs, n, y, rfl, h1, h2⟩ := hi i h
    rw [hc] at h1
    obtain ⟨hl1, hcell⟩ := cells_at h1
    obtain ⟨k, rfl, _⟩ := DataW.trod_bool he h2
    have h0 := hcell 0 (by omega)
    rw [Go.Deep.add_add] at h0
    obtain ⟨b, f, rfl⟩ : ∃ b f, ad = ⟨b, f, none⟩ := by
      obtain ⟨ad', cs', n', y', e', h1', _⟩ := hi 0 (by omega)
      cases e'
      rw [hc] at h1'
      exact plain_row h1'
    rw [add_plain] at h0
    simp only [Nat.mul_one, Nat.add_zero, List.getElem?_cons_zero] at h0
    exact ⟨k, b, f, rfl, block_lt_of_cell h0, h0⟩)
  refine ⟨a, c, (List.range len).map B, by simp, by simpa using hl, fun i k hk => ?_⟩
  rw [List.getElem?_map] at hk
  have hil : i < len := by
    have := (List.getElem?_eq_some_iff.1 (show ((List.range len).map B)[i]? = some k by rw [List.getElem?_map]; exact hk)).1
    simpa using this
  rw [List.getElem?_range hil] at hk
  cases hk
  exact hB i hil

/-- a slice of structs of a number, a number and a text -/
theorem open_calls {t e : TypeId} {f0 f1 f2 : Field} (ht : P.underlying t = some (.slice e)) (he : P.underlying e = some (.struct #[f0, f1, f2])) (hc : P.cellsOf e = 3) (hone : oneCellFields P #[f0, f1, f2] = true)
    (h0 : P.underlying f0.type = some (.int .i64)) (h1 : P.underlying f1.type = some (.int .i64)) (h2 : P.underlying f2.type = some .string) (hv : Value.okWide P W r b0 t v) (h : DataW.Trod enc P W base spare held t v d p) :
    ∃ (a : Option Addr) (c : Nat) (os : List (Int × Int × ByteArray)), v = .slice a os.length c ∧ os.length ≤ maxLen ∧ ∀ i o, os[i]? = some o → ∃ b f, a = some ⟨b, f, none⟩ ∧ b < W.heap.size ∧
      W.cell? ⟨b, f + i * 3, none⟩ = some (.int .i64 o.1) ∧ W.cell? ⟨b, f + i * 3 + 1, none⟩ = some (.int .i64 o.2.1) ∧ W.cell? ⟨b, f + i * 3 + 2, none⟩ = some (.string o.2.2) := by
  obtain ⟨a, len, c, rfl, hl, hi⟩ := open_row ht hv h
  obtain ⟨B, hB⟩ := choose_lt (α := Int × Int × ByteArray) (n := len) (p := fun i o => ∃ b f, a = some ⟨b, f, none⟩ ∧ b < W.heap.size ∧
      W.cell? ⟨b, f + i * 3, none⟩ = some (.int .i64 o.1) ∧ W.cell? ⟨b, f + i * 3 + 1, none⟩ = some (.int .i64 o.2.1) ∧ W.cell? ⟨b, f + i * 3 + 2, none⟩ = some (.string o.2.2)) (fun i h => by
    obtain ⟨ad, cs, n, y, rfl, hcs, htr⟩ := hi i h
    rw [hc] at hcs
    obtain ⟨hl1, hcell⟩ := cells_at hcs
    obtain ⟨c0, c1, c2, rfl⟩ : ∃ c0 c1 c2, cs = [c0, c1, c2] := by
      match cs, hl1 with
      | [c0, c1, c2], _ => exact ⟨c0, c1, c2, rfl⟩
    obtain ⟨xs, m, _, _, _, hlen, hg⟩ := DataW.trod_struct he htr
    obtain ⟨o0, k0⟩ := hone_of hone 0 f0 rfl
    obtain ⟨o1, k1⟩ := hone_of hone 1 f1 rfl
    obtain ⟨o2, k2⟩ := hone_of hone 2 f2 rfl
    obtain ⟨y0, y1, y2, rfl⟩ : ∃ y0 y1 y2, xs = [y0, y1, y2] := by
      match xs, hlen with
      | [c0, c1, c2], _ => exact ⟨c0, c1, c2, rfl⟩
    have g0 := hg 0 f0 rfl
    have g1 := hg 1 f1 rfl
    have g2 := hg 2 f2 rfl
    rw [o0, k0] at g0
    rw [o1, k1] at g1
    rw [o2, k2] at g2
    obtain ⟨n0, e0, _, _⟩ := DataW.trod_int h0 (show DataW.trod enc P W base spare held m f0.type [c0] = some y0 from g0)
    obtain ⟨n1, e1, _, _⟩ := DataW.trod_int h1 (show DataW.trod enc P W base spare held m f1.type [c1] = some y1 from g1)
    obtain ⟨s2, e2, _, _⟩ := DataW.trod_string h2 (show DataW.trod enc P W base spare held m f2.type [c2] = some y2 from g2)
    cases e0; cases e1; cases e2
    have d0 := hcell 0 (by omega)
    have d1 := hcell 1 (by omega)
    have d2 := hcell 2 (by omega)
    rw [Go.Deep.add_add] at d0 d1 d2
    obtain ⟨b, f, rfl⟩ : ∃ b f, ad = ⟨b, f, none⟩ := by
      obtain ⟨ad', cs', n', y', e', h1', _⟩ := hi 0 (by omega)
      cases e'
      rw [hc] at h1'
      exact plain_row h1'
    rw [add_plain] at d0 d1 d2
    exact ⟨(n0, n1, s2), b, f, rfl, block_lt_of_cell d0, d0, d1, d2⟩)
  refine ⟨a, c, (List.range len).map B, by simp, by simpa using hl, fun i k hk => ?_⟩
  have hil : i < len := by
    have := (List.getElem?_eq_some_iff.1 hk).1
    simpa using this
  rw [List.getElem?_map, List.getElem?_range hil] at hk
  cases hk
  exact hB i hil
end
end Go.Ux
/- Arguments that are slices of numbers, and slices of structs of two such slices: their cells. -/
namespace Go.Ux
open Go Go.RowKit Go.ChangeShapes Go.WideShapes Go.Deep
section
variable {H : Type} {enc : TypeId × Value → H} {P : Program} {W : World} {b0 base : Nat} {r : Reach} {spare : Nat → Bool} {held : Bool} {v : Value} {d : DataW H} {p : List MemPlace}

/-- numbers of a kind that stand in memory -/
def NView (ik : IntKind) (w : World) (v : Value) (s : List Int) : Prop := ∃ a c, v = .slice a s.length c ∧ s.length ≤ maxLen ∧ (∀ (j : Nat) (x : Int), s[j]? = some x → ∃ g o, a = some ⟨g, o, none⟩ ∧ g < w.heap.size ∧ w.cell? ⟨g, o + j, none⟩ = some (.int ik x)) ∧ ∀ x ∈ s, ik.min ≤ x ∧ x ≤ ik.max

theorem trod_nums {t e : TypeId} {ik : IntKind} (ht : P.underlying t = some (.slice e)) (he : P.underlying e = some (.int ik)) (hc : P.cellsOf e = 1) {f : Nat} {cs : List Value} {y : DataW H × List MemPlace}
    (h : DataW.trod enc P W base spare held f t cs = some y) : ∃ v s, cs = [v] ∧ NView ik W v s := by
  rcases open_slice ht h with ⟨rfl, _⟩ | ⟨a, len, cap, m, n, D, Pl, rfl, _, hl, hm, hmm, _, hi⟩
  · exact ⟨_, [], rfl, none, 0, rfl, Nat.zero_le _, fun j x hj => by simp at hj, fun x hx => by cases hx⟩
  · obtain ⟨B, hB⟩ := choose_lt (α := Int) (n := len) (p := fun i k => (∃ b f, a = ⟨b, f, none⟩ ∧ b < W.heap.size ∧ W.cell? ⟨b, f + i, none⟩ = some (.int ik k)) ∧ ik.min ≤ k ∧ k ≤ ik.max) (fun i h => by
      obtain ⟨cs, h1, h2⟩ := hi i (by rw [hmm]; split <;> omega)
      rw [hc] at h1
      obtain ⟨hl1, hcell⟩ := cells_at h1
      obtain ⟨k, rfl, _, hw⟩ := DataW.trod_int he h2
      have hk : ik.min ≤ k ∧ k ≤ ik.max := by simpa [Lit.wf] using hw
      have h0 := hcell 0 (by omega)
      rw [Go.Deep.add_add] at h0
      obtain ⟨b, f, rfl⟩ : ∃ b f, a = ⟨b, f, none⟩ := by
        obtain ⟨cs', h1', _⟩ := hi 0 (by rw [hmm]; split <;> omega)
        rw [hc] at h1'
        exact plain_row h1'
      rw [add_plain] at h0
      simp only [Nat.mul_one, Nat.add_zero, List.getElem?_cons_zero] at h0
      exact ⟨k, ⟨b, f, rfl, block_lt_of_cell h0, h0⟩, hk⟩)
    have hget : ∀ (i : Nat) (k : Int), ((List.range len).map B)[i]? = some k → i < len ∧ k = B i := fun i k hk => by
      have hil : i < len := by
        have := (List.getElem?_eq_some_iff.1 hk).1
        simpa using this
      rw [List.getElem?_map, List.getElem?_range hil] at hk
      cases hk
      exact ⟨hil, rfl⟩
    refine ⟨_, (List.range len).map B, rfl, some a, cap, by simp, by simpa using by omega, fun i k hk => ?_, fun x hx => ?_⟩
    · obtain ⟨hil, rfl⟩ := hget i k hk
      obtain ⟨⟨b, f, rfl, h1, h2⟩, _⟩ := hB i hil
      exact ⟨b, f, rfl, h1, h2⟩
    · obtain ⟨i, hi, rfl⟩ := List.mem_iff_getElem.1 hx
      obtain ⟨hil, e⟩ := hget i _ (List.getElem?_eq_getElem hi)
      rw [e]
      exact (hB i hil).2
theorem trod_one {t e : TypeId} (ht : P.underlying t = some (.slice e)) {f : Nat} {cs : List Value} {y : DataW H × List MemPlace} (h : DataW.trod enc P W base spare held f t cs = some y) : ∃ v, cs = [v] := by
  rcases open_slice ht h with ⟨rfl, _⟩ | ⟨a, len, cap, m, n, D, Pl, rfl, _⟩
  · exact ⟨_, rfl⟩
  · exact ⟨_, rfl⟩
/-- a slice of numbers that came in -/
theorem open_nums {t e : TypeId} {ik : IntKind} (ht : P.underlying t = some (.slice e)) (he : P.underlying e = some (.int ik)) (hc : P.cellsOf e = 1) (hv : Value.okWide P W r b0 t v) (h : DataW.Trod enc P W base spare held t v d p) : ∃ s, NView ik W v s := by
  obtain ⟨a0, len, cap, rfl⟩ := okWide_slice ht hv
  obtain ⟨fuel, hf⟩ := h
  obtain ⟨v, s, e1, h1⟩ := trod_nums ht he hc hf
  cases e1
  exact ⟨s, h1⟩

/-- structs of two slices of numbers that stand in memory -/
def OpsView (w : World) (v : Value) (l : List (List Int × List Int)) : Prop := ∃ a c, v = .slice a l.length c ∧ l.length ≤ maxLen ∧ ∀ (i : Nat) (o : List Int × List Int), l[i]? = some o → ∃ g off x y, a = some ⟨g, off, none⟩ ∧ g < w.heap.size ∧
  w.cell? ⟨g, off + i * 2, none⟩ = some x ∧ w.cell? ⟨g, off + i * 2 + 1, none⟩ = some y ∧ NView .i64 w x o.1 ∧ NView .u32 w y o.2
theorem open_ops {t e e0 e1 : TypeId} {f0 f1 : Field} (ht : P.underlying t = some (.slice e)) (he : P.underlying e = some (.struct #[f0, f1])) (hc : P.cellsOf e = 2) (hone : oneCellFields P #[f0, f1] = true)
    (h0 : P.underlying f0.type = some (.slice e0)) (h1 : P.underlying f1.type = some (.slice e1)) (k0 : P.underlying e0 = some (.int .i64)) (k1 : P.underlying e1 = some (.int .u32)) (c0 : P.cellsOf e0 = 1) (c1 : P.cellsOf e1 = 1)
    (hv : Value.okWide P W r b0 t v) (h : DataW.Trod enc P W base spare held t v d p) : ∃ l, OpsView W v l := by
  obtain ⟨a, len, c, rfl, hl, hi⟩ := open_row ht hv h
  obtain ⟨B, hB⟩ := choose_lt (α := List Int × List Int) (n := len) (p := fun i o => ∃ b f x y, a = some ⟨b, f, none⟩ ∧ b < W.heap.size ∧
      W.cell? ⟨b, f + i * 2, none⟩ = some x ∧ W.cell? ⟨b, f + i * 2 + 1, none⟩ = some y ∧ NView .i64 W x o.1 ∧ NView .u32 W y o.2) (fun i h => by
    obtain ⟨ad, cs, n, y, rfl, hcs, htr⟩ := hi i h
    rw [hc] at hcs
    obtain ⟨hl1, hcell⟩ := cells_at hcs
    obtain ⟨u0, u1, rfl⟩ : ∃ c0 c1, cs = [c0, c1] := by
      match cs, hl1 with
      | [c0, c1], _ => exact ⟨c0, c1, rfl⟩
    obtain ⟨xs, m, _, _, _, hlen, hg⟩ := DataW.trod_struct he htr
    obtain ⟨o0, j0⟩ := hone_of hone 0 f0 rfl
    obtain ⟨o1, j1⟩ := hone_of hone 1 f1 rfl
    obtain ⟨y0, y1, rfl⟩ : ∃ y0 y1, xs = [y0, y1] := by
      match xs, hlen with
      | [c0, c1], _ => exact ⟨c0, c1, rfl⟩
    have g0 := hg 0 f0 rfl
    have g1 := hg 1 f1 rfl
    rw [o0, j0] at g0
    rw [o1, j1] at g1
    obtain ⟨x0, s0, e0, n0⟩ := trod_nums h0 k0 c0 (show DataW.trod enc P W base spare held m f0.type [u0] = some y0 from g0)
    obtain ⟨x1, s1, e1, n1⟩ := trod_nums h1 k1 c1 (show DataW.trod enc P W base spare held m f1.type [u1] = some y1 from g1)
    cases e0; cases e1
    have d0 := hcell 0 (by omega)
    have d1 := hcell 1 (by omega)
    rw [Go.Deep.add_add] at d0 d1
    obtain ⟨b, f, rfl⟩ : ∃ b f, ad = ⟨b, f, none⟩ := by
      obtain ⟨ad', cs', n', y', e', h1', _⟩ := hi 0 (by omega)
      cases e'
      rw [hc] at h1'
      exact plain_row h1'
    rw [add_plain] at d0 d1
    exact ⟨(s0, s1), b, f, u0, u1, rfl, block_lt_of_cell d0, d0, d1, n0, n1⟩)
  refine ⟨(List.range len).map B, a, c, by simp, by simpa using hl, fun i k hk => ?_⟩
  have hil : i < len := by
    have := (List.getElem?_eq_some_iff.1 hk).1
    simpa using this
  rw [List.getElem?_map, List.getElem?_range hil] at hk
  cases hk
  exact hB i hil
end
theorem NView.touch0 {ik : IntKind} {w w' : World} {v : Value} {s : List Int} (h : NView ik w v s) (hs : w.heap.size ≤ w'.heap.size) (hc : ∀ g o x, g < w.heap.size → w.cell? ⟨g, o, none⟩ = some x → w'.cell? ⟨g, o, none⟩ = some x) : NView ik w' v s := by
  obtain ⟨a, c, rfl, h0, h1, h2⟩ := h
  refine ⟨a, c, rfl, h0, fun j x hj => ?_, h2⟩
  obtain ⟨g, o, rfl, h3, h4⟩ := h1 j x hj
  exact ⟨g, o, rfl, Nat.lt_of_lt_of_le h3 hs, hc _ _ _ h3 h4⟩
theorem OpsView.touch0 {w w' : World} {v : Value} {l : List (List Int × List Int)} (h : OpsView w v l) (hs : w.heap.size ≤ w'.heap.size) (hc : ∀ g o x, g < w.heap.size → w.cell? ⟨g, o, none⟩ = some x → w'.cell? ⟨g, o, none⟩ = some x) : OpsView w' v l := by
  obtain ⟨a, c, rfl, h0, h1⟩ := h
  refine ⟨a, c, rfl, h0, fun i o hi => ?_⟩
  obtain ⟨g, off, x, y, rfl, h2, h3, h4, h5, h6⟩ := h1 i o hi
  exact ⟨g, off, x, y, rfl, Nat.lt_of_lt_of_le h2 hs, hc _ _ _ h2 h3, hc _ _ _ h2 h4, h5.touch0 hs hc, h6.touch0 hs hc⟩
end Go.Ux
/- The end of a law's proof: the call said true and turned nothing that was there: the arguments read as they did. -/
namespace Go.Ux
open Go Go.RowKit Go.ChangeShapes Go.WideShapes Go.ChangeAt

section
variable {H : Type} {enc : TypeId × Value → H} {P : Program}

/-- the types of which a reading may be carried -/
def bears (P : Program) (ts : List TypeId) : Bool := ts.all fun t => P.readableRec t && decide (t < P.types.size)

theorem trodAll_stays (hl : laidOutB P = true) {W W' : World} {sp : Nat → Bool} : ∀ {ts : List TypeId} {vs : List Value} {ds : List (DataW H)} {ps : List MemPlace}, bears P ts = true →
    DataW.TrodAll enc P W 0 (fun _ => true) true ts vs ds ps → (∀ p ∈ ps, W.sameAt W' p) → (∀ p ∈ ps, sp p.block = true) → DataW.TrodAll enc P W' 0 sp true ts vs ds ps
  | [], _, _, _, _, h, _, _ => by
    obtain ⟨rfl, rfl, rfl⟩ := trodAll_nil h
    exact trodAll_mk0
  | t :: ts, _, _, _, hb, h, hs, hp => by
    obtain ⟨v, vs, d, ds, p, q, rfl, rfl, rfl, h0, h1⟩ := trodAll_cons h
    simp only [bears, List.all_cons, Bool.and_eq_true, decide_eq_true_eq] at hb
    exact trodAll_cons_mk (WideElems.Trod_stays hl hb.1.1 hb.1.2 h0 (fun x hx => hs x (by simp [hx])) (fun x hx => hp x (by simp [hx])))
      (trodAll_stays hl (by simpa [bears] using hb.2) h1 (fun x hx => hs x (by simp [hx])) (fun x hx => hp x (by simp [hx])))

theorem law_post {f : Func} {s : ChangeSpec} {W W' : World} {args : Array Value} {ds gs : List (DataW H)} {before : List MemPlace} {bt : TypeId}
    (hl : laidOutB P = true) (hb : bears P f.params.toList = true) (hrt : f.resultTypes = #[bt]) (hbt : P.underlying bt = some .bool) (hv : s.vars = [])
    (hW : DataW.Whole enc P f.params.toList s.vars false W args.toList ds gs before)
    (hres : (s.fn H (ds ++ gs)).results = [.lit (.bool true)]) (hargs : (s.fn H (ds ++ gs)).args = ds) (hvars : (s.fn H (ds ++ gs)).vars = [])
    (hbel : Below W.heap.size W W') : s.post enc P f false true false false W args (.bool true) W' := by
  have hW' := hW
  have hlt : ∀ p ∈ before, p.block < W.heap.size := fun p hp => by simpa using hW'.lt p hp
  obtain ⟨p, q, hA, hV, rfl, hfz, hnd⟩ := hW
  rw [hv] at hV
  obtain ⟨rfl, rfl⟩ := trodVars_none hV
  refine ⟨ds, [], p ++ [], [], p, [], hW', ?_, ?_, ?_, World.keptBut_mono (fun x hx => ⟨hx, .inr (.inl (by simpa using hx))⟩) (hbel.frame _), fun h => by cases h⟩
  · rw [hres, hrt]
    exact trodAll_mk1 (shut_bool hbt _)
  · rw [hargs]
    exact trodAll_stays hl hb hA (fun x hx => hbel.same (hlt x (by simpa using hx))) (fun x hx => by simpa using hlt x (by simpa using hx))
  · rw [hvars, hv]
    exact hV
end
end Go.Ux
