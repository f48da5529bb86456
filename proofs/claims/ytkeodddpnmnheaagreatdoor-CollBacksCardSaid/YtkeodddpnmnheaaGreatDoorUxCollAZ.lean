import Derived.Test.YtkeodddpnmnheaaGreatDoorUxTabAZ
import Derived.Test.YtkeodddpnmnheaaGreatDoorUxMemAZ
import Derived.Test.YtkeodddpnmnheaaGreatDoorUxNumAZ
import Derived.Laws.IdiomCopy
import Derived.Deep.Draws
import Derived.WalkKit
import Derived.Lib.Strings
/- PART OF THE PROOF THAT THIS CLAIM HOLDS OF THE GIVEN PROGRAM, FOR EVERY INPUT THAT THE STATEMENT NAMES. No condition besides the statement's own. -/
/- A text's elements are words, eight a sign at most. No program. -/
namespace Go.Ux
open Go
theorem ofE_ok {E : List Ent} (h : okT E) {s : List Nat} (hs : ∀ c ∈ s, c < 1114368) : ∀ k i, (ofE E s i k).length ≤ 8 * k ∧ ∀ x ∈ ofE E s i k, x < 4294967296
  | 0, i => ⟨Nat.zero_le _, fun x hx => by cases hx⟩
  | k + 1, i => by
    unfold ofE
    split
    · exact ⟨Nat.zero_le _, fun x hx => by cases hx⟩
    · have h1 := atE_ok h hs (s := s) (i := i) (by omega)
      have h2 := ofE_ok h hs k (i + (atE E s i).2)
      refine ⟨by rw [List.length_append]; omega, fun x hx => ?_⟩
      rcases List.mem_append.1 hx with hx | hx
      · exact h1.2 x hx
      · exact h2.2 x hx
theorem elems_ok {E : List Ent} (h : okT E) {s : List Nat} (hs : ∀ c ∈ s, c < 1114368) : (elemsE E s).length ≤ 8 * s.length ∧ ∀ x ∈ elemsE E s, x < 4294967296 := ofE_ok h hs _ _
end Go.Ux
/- Weights of elements, level by level; how two texts' weights stand; a row written anew. No program. -/
namespace Go.Ux
open Go Go.RowKit

/-- an element's weight of a level -/
def wt8 (lv x : Nat) : Nat := if lv = 1 then eP x else if lv = 2 then eS x else eT x
/-- whether an element's weight of a level counts -/
def keepW (sh : Bool) (lv x : Nat) : Bool := decide (0 < wt8 lv x) && !(sh && eV x)
/-- the weights of a level that count, in order -/
def wF (sh : Bool) (lv : Nat) (l : List Nat) : List Nat := (l.filter (keepW sh lv)).map (wt8 lv)
/-- .. the second ones from the end, if so told -/
def wts (sh bk : Bool) (lv : Nat) (l : List Nat) : List Nat := if lv = 2 ∧ bk = true then (wF sh lv l).reverse else wF sh lv l
theorem wF_snoc (sh : Bool) (lv : Nat) (l : List Nat) (x : Nat) : wF sh lv (l ++ [x]) = wF sh lv l ++ if keepW sh lv x then [wt8 lv x] else [] := by
  unfold wF
  rw [List.filter_append, List.map_append]
  cases h : keepW sh lv x <;> simp [List.filter, h]
theorem wF_len (sh : Bool) (lv : Nat) (l : List Nat) : (wF sh lv l).length ≤ l.length := by
  unfold wF
  rw [List.length_map]
  exact List.length_filter_le _ _
theorem wts_len (sh bk : Bool) (lv : Nat) (l : List Nat) : (wts sh bk lv l).length ≤ l.length := by
  unfold wts
  have := wF_len sh lv l
  split
  · rw [List.length_reverse]; exact this
  · exact this
theorem wts_append {sh bk : Bool} {lv : Nat} (h : ¬ (lv = 2 ∧ bk = true)) (a b : List Nat) : wts sh bk lv (a ++ b) = wts sh bk lv a ++ wts sh bk lv b := by
  unfold wts
  rw [if_neg h, if_neg h, if_neg h]
  unfold wF
  rw [List.filter_append, List.map_append]
/-- how two lists of elements stand by the levels from lv on, n of them -/
def wghC (sh bk : Bool) (a b : List Nat) (lv : Nat) : Nat → Int
  | 0 => 0
  | n + 1 => if cmpL (sv (wts sh bk lv a)) (sv (wts sh bk lv b)) ≠ 0 then cmpL (sv (wts sh bk lv a)) (sv (wts sh bk lv b)) else wghC sh bk a b (lv + 1) n
theorem cmpI_cases (x y : Int) : cmpI x y = -1 ∨ cmpI x y = 0 ∨ cmpI x y = 1 := by
  unfold cmpI
  split
  · exact .inl rfl
  · split
    · exact .inr (.inr rfl)
    · exact .inr (.inl rfl)

variable {w w' : World} {lo : Nat} {t : TypeId}
theorem Touch.drewN {R : Nat → Prop} {a w : World} (h : Touch R a w) (n : Nat) : Touch R a (w.drewN n) := ⟨h.os, h.tape, h.output, h.size, h.block⟩
theorem Touch.setCells {R : Nat → Prop} {a : World} {b : Nat} (hb : b < a.heap.size → R b) : ∀ (vs : List Value) (o : Nat) (w : World), Touch R a w → Touch R a (w.setCells b o vs)
  | [], _, _, h => h
  | v :: vs, o, w, h => by
    rw [World.setCells]
    exact Touch.setCells hb vs (o + 1) _ (h.setCell (p := ⟨b, o, none⟩) hb v)
def setL (xs : List Value) (o : Nat) : List Value → List Value
  | [] => xs
  | v :: vs => setL (xs.set o v) (o + 1) vs
theorem setL_eq : ∀ (vs xs : List Value) (o : Nat), o + vs.length = xs.length → setL xs o vs = xs.take o ++ vs
  | [], xs, o, h => by
    simp only [List.length_nil, Nat.add_zero] at h
    rw [setL, List.append_nil, List.take_of_length_le (by omega)]
  | v :: vs, xs, o, h => by
    simp only [List.length_cons] at h
    rw [setL, setL_eq vs (xs.set o v) (o + 1) (by rw [List.length_set]; omega)]
    rw [List.take_add_one, List.take_set_of_le (Nat.le_refl _), List.getElem?_set_self (by omega)]
    simp
theorem Row.setAll {g n c : Nat} : ∀ (vs : List Value) (o : Nat) (w : World) (xs : List Value), Row w lo t (.slice (some ⟨g, 0, none⟩) n c) xs → Row (w.setCells g o vs) lo t (.slice (some ⟨g, 0, none⟩) n c) (setL xs o vs)
  | [], _, _, _, h => h
  | v :: vs, o, w, xs, h => by
    rw [World.setCells, setL]
    exact Row.setAll vs (o + 1) _ _ (h.set o v)
theorem Row.drewN {v : Value} {xs : List Value} (h : Row w lo t v xs) (n : Nat) : Row (w.drewN n) lo t v xs := h.touch0 ((Touch.refl _ w).drewN n)
end Go.Ux
/- What texts of letters weigh by the first table; how lists of weights stand that share a beginning. No program. -/
namespace Go.Ux
open Go

theorem findE_len {E : List Ent} (h : ∀ e ∈ E, e.1.length = 1) {s : List Nat} (hs : s.length ≠ 1) : findE E s = none := by
  cases hf : findE E s with
  | none => rfl
  | some l => exact absurd (h _ (findE_some hf)) hs
theorem longE_single {E : List Ent} (h : ∀ e ∈ E, e.1.length = 1) (s : List Nat) (i : Nat) : ∀ n, 1 ≤ n → i + n ≤ s.length → longE E s i n = longE E s i 1
  | 0, h1, _ => by omega
  | 1, _, _ => rfl
  | n + 2, _, h2 => by
    rw [longE, findE_len h (by rw [List.length_take, List.length_drop]; omega)]
    exact longE_single h s i (n + 1) (by omega) (by omega)
theorem atE_single {E : List Ent} (h : ∀ e ∈ E, e.1.length = 1) {s : List Nat} {i c : Nat} (hc : s[i]? = some c) : atE E s i = ((findE E [c]).getD (implE c), 1) := by
  have hi : i < s.length := (List.getElem?_eq_some_iff.1 hc).1
  have ht : (s.drop i).take 1 = [c] := by rw [drop_get hc]; rfl
  unfold atE
  rw [longE_single h s i (min 3 (s.length - i)) (by omega) (by omega)]
  unfold longE
  rw [ht, List.getD_eq_getElem?_getD, hc]
  cases findE E [c] with
  | some l => rfl
  | none => rfl
/-- where each entry has one sign a text weighs sign by sign -/
theorem elems_single {E : List Ent} (h : ∀ e ∈ E, e.1.length = 1) (s : List Nat) : elemsE E s = s.flatMap fun c => (findE E [c]).getD (implE c) := by
  have key : ∀ k i, i + k = s.length → ofE E s i k = (s.drop i).flatMap fun c => (findE E [c]).getD (implE c) := by
    intro k
    induction k with
    | zero => intro i hi; rw [List.drop_eq_nil_of_le (by omega)]; rfl
    | succ k ih =>
      intro i hi
      obtain ⟨c, hc⟩ : ∃ c, s[i]? = some c := ⟨_, List.getElem?_eq_getElem (by omega)⟩
      unfold ofE
      rw [if_neg (by omega), atE_single h hc, ih (i + 1) (by omega), drop_get hc, List.flatMap_cons]
  unfold elemsE
  rw [key s.length 0 (by omega), List.drop_zero]
theorem rootE_one : ∀ e ∈ rootE, e.1.length = 1 := by
  have h : (rootE.all fun e => e.1.length == 1) = true := by decide +kernel
  intro e he
  simpa using List.all_eq_true.1 h e he
theorem elems_app {E : List Ent} (h : ∀ e ∈ E, e.1.length = 1) (a b : List Nat) : elemsE E (a ++ b) = elemsE E a ++ elemsE E b := by
  rw [elems_single h, elems_single h, elems_single h, List.flatMap_append]
theorem root_letter : ∀ i, i < 26 → findE rootE [97 + i] = some [eLetter i 2] := by decide +kernel
theorem root_great : ∀ i, i < 26 → findE rootE [65 + i] = some [eLetter i 8] := by decide +kernel
theorem root_sp : ∀ i, i < 6 → findE rootE [rootSp.getD i 0] = some [eMk (16 + 4 * i) 32 2 true] := by decide +kernel
theorem root_zero : findE rootE [48] = some [eMk 128 32 2 false] := by decide +kernel

theorem cmpI_self (x : Int) : cmpI x x = 0 := by unfold cmpI; rw [if_neg (by omega), if_neg (by omega)]
theorem cmpL_self : ∀ l : List Int, cmpL l l = 0
  | [] => rfl
  | x :: l => by unfold cmpL; rw [if_pos (cmpI_self x)]; exact cmpL_self l
theorem cmpL_app : ∀ (p a b : List Int), cmpL (p ++ a) (p ++ b) = cmpL a b
  | [], _, _ => rfl
  | x :: p, a, b => by
    show (if cmpI x x = 0 then cmpL (p ++ a) (p ++ b) else cmpI x x) = _
    rw [if_pos (cmpI_self x)]
    exact cmpL_app p a b
theorem cmpL_lt {x y : Int} (h : x < y) (a b : List Int) : cmpL (x :: a) (y :: b) = -1 := by
  have hc : cmpI x y = -1 := by unfold cmpI; rw [if_pos h]
  unfold cmpL
  rw [hc, if_neg (by decide)]
theorem wgh_same {sh bk : Bool} {a b : List Nat} (h : ∀ lv, wts sh bk lv a = wts sh bk lv b) : ∀ n lv, wghC sh bk a b lv n = 0
  | 0, _ => rfl
  | n + 1, lv => by
    unfold wghC
    rw [h lv, cmpL_self, if_neg (by simp)]
    exact wgh_same h n (lv + 1)
theorem wgh_first {sh bk : Bool} {a b : List Nat} {lv n : Nat} {r : Int} (h : cmpL (sv (wts sh bk lv a)) (sv (wts sh bk lv b)) = r) (hr : r ≠ 0) : wghC sh bk a b lv (n + 1) = r := by
  unfold wghC
  rw [h, if_pos hr]
theorem wts1 (sh bk : Bool) (l : List Nat) : wts sh bk 1 l = wF sh 1 l := by
  unfold wts
  rw [if_neg (by omega)]
theorem wtsF (sh : Bool) (lv : Nat) (l : List Nat) : wts sh false lv l = wF sh lv l := by
  unfold wts
  rw [if_neg (by simp)]
theorem wF_app (sh : Bool) (lv : Nat) (a b : List Nat) : wF sh lv (a ++ b) = wF sh lv a ++ wF sh lv b := by
  unfold wF
  rw [List.filter_append, List.map_append]
theorem wF_cons (sh : Bool) (lv x : Nat) (l : List Nat) : wF sh lv (x :: l) = (if keepW sh lv x then [wt8 lv x] else []) ++ wF sh lv l := by
  unfold wF
  cases h : keepW sh lv x <;> simp [List.filter, h]

/-- a letter's element, and a variable one's, by the first level -/
def lets (l : List Nat) : List Nat := l.map fun i => eLetter i 2
theorem lets_w : ∀ i, i < 26 → keepW false 1 (eLetter i 2) = true ∧ wt8 1 (eLetter i 2) = 256 + 8 * i := by decide +kernel
theorem var_w : ∀ i, i < 6 → keepW false 1 (eMk (16 + 4 * i) 32 2 true) = true ∧ wt8 1 (eMk (16 + 4 * i) 32 2 true) = 16 + 4 * i ∧ (∀ lv, keepW true lv (eMk (16 + 4 * i) 32 2 true) = false) := by
  intro i hi
  have h1 : ∀ i, i < 6 → keepW false 1 (eMk (16 + 4 * i) 32 2 true) = true ∧ wt8 1 (eMk (16 + 4 * i) 32 2 true) = 16 + 4 * i ∧ eV (eMk (16 + 4 * i) 32 2 true) = true := by decide +kernel
  refine ⟨(h1 i hi).1, (h1 i hi).2.1, fun lv => ?_⟩
  unfold keepW
  rw [(h1 i hi).2.2]
  simp
theorem shift_on (i : Nat) (hi : i < 6) (x y : List Nat) (lv : Nat) : wts true false lv (x ++ y) = wts true false lv (x ++ (eMk (16 + 4 * i) 32 2 true :: y)) := by
  rw [wtsF, wtsF, wF_app, wF_app, wF_cons, (var_w i hi).2.2 lv]
  simp
theorem shift_off (i : Nat) (hi : i < 6) (x y : List Nat) (hy : ∀ j ∈ y, j < 26) (n : Nat) : wghC false false (lets x ++ (eMk (16 + 4 * i) 32 2 true :: lets y)) (lets x ++ lets y) 1 (n + 1) = if y = [] then 1 else -1 := by
  refine wgh_first ?_ (by split <;> decide)
  rw [wts1, wts1, wF_app, wF_app, wF_cons, (var_w i hi).1, if_pos rfl, (var_w i hi).2.1]
  simp only [sv_append]
  rw [cmpL_app]
  cases y with
  | nil =>
    rw [if_pos rfl]
    rfl
  | cons j y =>
    rw [if_neg (by simp)]
    have hj := lets_w j (hy j (by simp))
    have e : wF false 1 (lets (j :: y)) = (256 + 8 * j) :: wF false 1 (lets y) := by
      show wF false 1 (eLetter j 2 :: lets y) = _
      rw [wF_cons, hj.1, if_pos rfl, hj.2]
      rfl
    rw [e]
    show cmpL (((16 + 4 * i : Nat) : Int) :: sv ((256 + 8 * j) :: wF false 1 (lets y))) (((256 + 8 * j : Nat) : Int) :: sv (wF false 1 (lets y))) = -1
    exact cmpL_lt (by omega) _ _
theorem shift_zero : ∀ i, i < 6 → wghC false false [eMk (16 + 4 * i) 32 2 true] [eMk 128 32 2 false] 1 1 = -1 := by decide +kernel
theorem shift_zero' (i : Nat) (hi : i < 6) (n : Nat) : wghC false false [eMk (16 + 4 * i) 32 2 true] [eMk 128 32 2 false] 1 (n + 1) = -1 := by
  have h := shift_zero i hi
  unfold wghC at h ⊢
  split at h
  · rename_i h1; rw [if_pos h1]; exact h
  · cases h
end Go.Ux
/- The order of texts, byte by byte; where a key stands in a list in order. -/
namespace Go.Ux
open Go

/-- the model's order of bytes is the lists' -/
theorem bytesLess_dec : ∀ (x y : List UInt8), Op.bytesLess x y = decide (x < y)
  | [], [] => by simp [Op.bytesLess]
  | _ :: _, [] => by simp [Op.bytesLess]
  | [], _ :: _ => by simp [Op.bytesLess]
  | a :: x, b :: y => by
    have ih := bytesLess_dec x y
    simp only [Op.bytesLess, List.cons_lt_cons_iff]
    rw [ih]
    by_cases h : a < b
    · simp [h]
    · by_cases e : a = b
      · subst e; simp
      · simp [h, e]

/-- a stands below b -/
def slt (a b : ByteArray) : Bool := Op.bytesLess a.toList b.toList

theorem ba_ext {a b : ByteArray} (h : a.toList = b.toList) : a = b := by
  rw [Lib.toList_data, Lib.toList_data] at h
  cases a with
  | mk x => cases b with
    | mk y => exact congrArg ByteArray.mk (Array.toList_inj.1 h)

theorem slt_iff (a b : ByteArray) : slt a b = true ↔ a.toList < b.toList := by simp [slt, bytesLess_dec]
theorem slt_irrefl (a : ByteArray) : slt a a = false := by
  cases h : slt a a with
  | false => rfl
  | true => exact absurd ((slt_iff a a).1 h) (List.lt_irrefl _)
theorem slt_trans {a b c : ByteArray} (h : slt a b = true) (k : slt b c = true) : slt a c = true :=
  (slt_iff a c).2 (List.lt_trans ((slt_iff a b).1 h) ((slt_iff b c).1 k))
theorem slt_asymm {a b : ByteArray} (h : slt a b = true) : slt b a = false := by
  cases k : slt b a with
  | false => rfl
  | true => have := slt_trans h k; rw [slt_irrefl] at this; cases this
theorem slt_conn {a b : ByteArray} (h : slt a b = false) (k : slt b a = false) : a = b := by
  have h1 : ¬ a.toList < b.toList := fun x => by rw [(slt_iff a b).2 x] at h; cases h
  have h2 : ¬ b.toList < a.toList := fun x => by rw [(slt_iff b a).2 x] at k; cases k
  exact ba_ext (List.le_antisymm (List.not_lt.1 h2) (List.not_lt.1 h1))
theorem slt_of_le {a b c : ByteArray} (h : slt b a = false) (k : slt b c = true) : slt a c = true := by
  cases hac : slt a c with
  | true => rfl
  | false =>
    cases hab : slt a b with
    | true => rw [slt_trans hab k] at hac; cases hac
    | false => have := slt_conn hab h; subst this; rw [k] at hac; cases hac
theorem slt_of_le' {a b c : ByteArray} (h : slt a b = true) (k : slt c b = false) : slt a c = true := by
  cases hac : slt a c with
  | true => rfl
  | false =>
    cases hca : slt c a with
    | true => rw [slt_trans hca h] at k; cases k
    | false => have := slt_conn hac hca; subst this; rw [h] at k; cases k

/-- keys in order -/
def Rises (ks : List ByteArray) : Prop := ks.Pairwise fun a b => slt a b = true

/-- how many keys stand below one -/
def lb (ks : List ByteArray) (k : ByteArray) : Nat := (ks.takeWhile (slt · k)).length

theorem lb_le (ks : List ByteArray) (k : ByteArray) : lb ks k ≤ ks.length := by
  unfold lb; exact (List.takeWhile_prefix _).length_le

theorem lb_below (ks : List ByteArray) (k : ByteArray) (i : Nat) (x : ByteArray) (h : ks[i]? = some x) (hi : i < lb ks k) : slt x k = true := by
  induction ks generalizing i with
  | nil => simp at h
  | cons a l ih =>
    unfold lb at hi
    rw [List.takeWhile_cons] at hi
    cases ha : slt a k with
    | false => simp [ha] at hi
    | true =>
      simp only [ha, if_true, List.length_cons] at hi
      cases i with
      | zero => simp at h; subst h; exact ha
      | succ i => exact ih i (by simpa using h) (by unfold lb; omega)

theorem lb_at (ks : List ByteArray) (k : ByteArray) (x : ByteArray) (h : ks[lb ks k]? = some x) : slt x k = false := by
  induction ks with
  | nil => simp at h
  | cons a l ih =>
    unfold lb at h
    rw [List.takeWhile_cons] at h
    cases ha : slt a k with
    | false => simp [ha] at h; subst h; exact ha
    | true =>
      simp only [ha, if_true, List.length_cons, List.getElem?_cons_succ] at h
      exact ih h

theorem lb_above {ks : List ByteArray} (hs : Rises ks) (k : ByteArray) (i : Nat) (x : ByteArray) (h : ks[i]? = some x) (hi : lb ks k ≤ i) : slt x k = false := by
  rcases Nat.eq_or_lt_of_le hi with rfl | hlt
  · exact lb_at ks k x h
  · have hil : i < ks.length := (List.getElem?_eq_some_iff.1 h).1
    have hx : ks[lb ks k]? = some ks[lb ks k] := List.getElem?_eq_getElem (by omega)
    have h1 := lb_at ks k _ hx
    have h2 := List.pairwise_iff_getElem.1 hs (lb ks k) i (by omega) hil hlt
    rw [(List.getElem?_eq_some_iff.1 h).2] at h2
    cases hxk : slt x k with
    | false => rfl
    | true => rw [slt_trans h2 hxk] at h1; cases h1

theorem lb_unique {ks : List ByteArray} {k : ByteArray} {p : Nat} (hp : p ≤ ks.length) (h1 : ∀ i x, ks[i]? = some x → i < p → slt x k = true) (h2 : ∀ x, ks[p]? = some x → slt x k = false) : lb ks k = p := by
  rcases Nat.lt_trichotomy (lb ks k) p with h | h | h
  · have hx : ks[lb ks k]? = some ks[lb ks k] := List.getElem?_eq_getElem (by omega)
    have a := h1 _ _ hx h
    rw [lb_at ks k _ hx] at a; cases a
  · exact h
  · have hl := lb_le ks k
    have hx : ks[p]? = some ks[p] := List.getElem?_eq_getElem (by omega)
    have a := h2 _ hx
    rw [lb_below ks k p _ hx h] at a; cases a

/-- is a key there? -/
def has (ks : List ByteArray) (k : ByteArray) : Bool := decide (ks[lb ks k]? = some k)

theorem has_iff {ks : List ByteArray} (hs : Rises ks) (k : ByteArray) : has ks k = true ↔ k ∈ ks := by
  unfold has
  rw [decide_eq_true_iff]
  constructor
  · intro h; exact List.mem_of_getElem? h
  · intro h
    obtain ⟨i, hi, rfl⟩ := List.getElem_of_mem h
    have hx : ks[i]? = some ks[i] := List.getElem?_eq_getElem hi
    have : lb ks ks[i] = i := by
      rcases Nat.lt_trichotomy (lb ks ks[i]) i with h' | h' | h'
      · have hl := lb_le ks ks[i]
        have hy : ks[lb ks ks[i]]? = some ks[lb ks ks[i]] := List.getElem?_eq_getElem (by omega)
        have a := lb_at ks ks[i] _ hy
        have b := List.pairwise_iff_getElem.1 hs (lb ks ks[i]) i (by omega) hi h'
        rw [b] at a; cases a
      · exact h'
      · have a := lb_below ks ks[i] i _ hx h'
        rw [slt_irrefl] at a; cases a
    rw [this]; exact hx
end Go.Ux
