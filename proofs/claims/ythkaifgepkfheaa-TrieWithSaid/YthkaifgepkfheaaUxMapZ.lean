/- PART OF THE PROOF THAT THIS CLAIM HOLDS OF THE GIVEN PROGRAM, FOR EVERY INPUT THAT THE STATEMENT NAMES. No condition besides the statement's own. -/
import Derived.Maps.OwnSet
import Derived.Maps.Views
import Derived.Lib.SlKeysI
/- A map of the call's own as a plain function from keys to values, whatever the values are. No program. -/
namespace Go.Ux
open Go Go.Maps

/-- each value reads as itself -/
def rawE (v : Value) : Option (DataW Value × List MemPlace) := some (.held v, [])

/-- BLOCK b IS A MAP OF AT MOST n ENTRIES: f tells each key's value, none where it is not there. -/
def MapIs (P : Program) (k : TypeId) (w : World) (b n : Nat) (f : Lit → Option Value) : Prop :=
  ∃ D, w.ownsMap P k rawE b n D ∧ Tidy D ∧ (∀ kl z, D.atKey kl (.held z) = .held ((f kl).getD z)) ∧ ∀ kl, has D kl = (f kl).isSome

variable {P : Program} {k t e : TypeId} {w : World} {b n : Nat} {f : Lit → Option Value}

theorem MapIs.made (w : World) (P : Program) (k : TypeId) : MapIs P k (w.alloc (.map #[] 0)) w.heap.size 0 fun _ => none :=
  ⟨_, World.ownsMap_made w P k rawE, tidy_empty, fun _ _ => rfl, fun _ => rfl⟩
theorem MapIs.lt (h : MapIs P k w b n f) : b < w.heap.size := let ⟨_, h, _⟩ := h; h.lt
theorem MapIs.mono (h : MapIs P k w b n f) {n' : Nat} (hn : n ≤ n') : MapIs P k w b n' f := let ⟨D, h, r⟩ := h; ⟨D, h.mono hn, r⟩
theorem MapIs.kept {w' : World} {row : Option Nat} (h : MapIs P k w b n f) (hg : w.grownBy w' row) (hne : some b ≠ row) : MapIs P k w' b n f := let ⟨D, h, r⟩ := h; ⟨D, h.kept hg hne, r⟩
/-- nothing but the block itself counts -/
theorem MapIs.same {w' : World} (h : MapIs P k w b n f) (hb : w'.heap[b]? = w.heap[b]?) : MapIs P k w' b n f := by
  obtain ⟨D, ⟨es, clock, h1, h2⟩, r⟩ := h
  exact ⟨D, ⟨es, clock, hb.trans h1, h2⟩, r⟩
theorem MapIs.ext {f' : Lit → Option Value} (h : MapIs P k w b n f) (he : ∀ kl, f' kl = f kl) : MapIs P k w b n f' := by
  have : f' = f := funext he
  rw [this]; exact h

/-- 'm[k]' -/
theorem MapIs.look (h : MapIs P k w b n f) (K : Keyed P k) (ht : P.underlying t = some (.map k e)) {z : Value} (hz : (zeroValue e).run P w = .ok z w) {key : Value} {kl : Lit} (hkey : keyOf P k key = some kl) :
    (Instr.lookup t (.map (some b)) key false).run P w = .ok ((f kl).getD z) w := by
  obtain ⟨D, h, _, h1, _⟩ := h
  obtain ⟨v, ps, hr, hv⟩ := h.lookup K ht hz (zd := .held z) (zp := []) rfl hkey
  rw [h1] at hv
  unfold rawE at hv
  simp only [Option.some.injEq, Prod.mk.injEq, DataW.held.injEq] at hv
  rw [hr, hv.1]
/-- 'v, ok := m[k]' -/
theorem MapIs.lookOk (h : MapIs P k w b n f) (K : Keyed P k) (ht : P.underlying t = some (.map k e)) {z : Value} (hz : (zeroValue e).run P w = .ok z w) {key : Value} {kl : Lit} (hkey : keyOf P k key = some kl) :
    (Instr.lookup t (.map (some b)) key true).run P w = .ok (.tuple #[(f kl).getD z, .bool (f kl).isSome]) w := by
  obtain ⟨D, h, _, h1, h2⟩ := h
  obtain ⟨v, ps, hr, hv⟩ := h.look_ok K ht hz (zd := .held z) (zp := []) rfl hkey
  rw [h1] at hv
  unfold rawE at hv
  simp only [Option.some.injEq, Prod.mk.injEq, DataW.held.injEq] at hv
  rw [hr, hv.1, h2]
/-- a key's value in the place of the one that stood -/
def upd (f : Lit → Option Value) (kl : Lit) (v : Value) : Lit → Option Value := fun l => if l.sameKey kl then some v else f l

/-- 'm[k] = v' -/
theorem MapIs.store (h : MapIs P k w b n f) (K : Keyed P k) (ht : P.underlying t = some (.map k e)) (hn : n < maxLen) {key val : Value} {kl : Lit} (hkey : keyOf P k key = some kl) :
    ∃ w', (Instr.mapUpdate t (.map (some b)) key val).run P w = .ok () w' ∧ MapIs P k w' b (n + 1) (upd f kl val) ∧ w.mapTurned w' b := by
  obtain ⟨D, h, hT, h1, h2⟩ := h
  obtain ⟨w', hr, h', ht'⟩ := h.store K ht hn (d := .held val) (ps := []) hkey rfl
  have hk := K.key hkey
  refine ⟨w', hr, ⟨_, h', hT.put hk _, fun l z => ?_, fun l => ?_⟩, ht'⟩
  · by_cases hl : l = kl
    · subst hl
      rw [atKey_put_same hT.isMap hk]
      unfold upd
      rw [if_pos (WideAt.sameKey_self hk)]
      rfl
    · rw [atKey_put_other hl, h1]
      unfold upd
      rw [if_neg (fun e => hl (WideAt.sameKey_eq e))]
  · by_cases hl : l = kl
    · subst hl
      rw [has_put_same hT.isMap hk]
      unfold upd
      rw [if_pos (WideAt.sameKey_self hk)]
      rfl
    · rw [has_put_other hl, h2]
      unfold upd
      rw [if_neg (fun e => hl (WideAt.sameKey_eq e))]

/-- what the sorted keys are handed, and how many there are: keys of the kind int -/
theorem MapIs.keys (h : MapIs P k w b n f) (K : Keyed P k) (hk : P.underlying k = some (.int .i64)) {ks : List Int} (hnd : ks.Nodup) (hm : ∀ x, x ∈ ks ↔ (f (.int .i64 x)).isSome = true) :
    ∃ D, w.ownsMap P k rawE b n D ∧ ks.Perm (intKeys D) ∧ Maps.size D = ks.length ∧ Maps.size D ≤ n := by
  obtain ⟨D, h, hT, h1, h2⟩ := h
  have hc : CollectedI D (fun _ => false) ks := ⟨hnd, fun x => by rw [hm, h2]; simp⟩
  have hp := hc.perm h K hk fun _ => rfl
  refine ⟨D, h, hp, ?_, h.size_le⟩
  obtain ⟨es, rfl, _⟩ := hT
  rw [hp.length_eq]
  simp [Maps.size, intKeys]
/-- 'len(m)' -/
theorem MapIs.len (h : MapIs P k w b n f) (K : Keyed P k) (hk : P.underlying k = some (.int .i64)) {ks : List Int} (hnd : ks.Nodup) (hm : ∀ x, x ∈ ks ↔ (f (.int .i64 x)).isSome = true) (ht : P.underlying t = some (.map k e)) (ty : TypeId) :
    (Builtin.len_ #[t] ty #[.map (some b)]).run P w = .ok (.int .i64 ks.length) w := by
  obtain ⟨D, hD, _, hs, _⟩ := h.keys K hk hnd hm
  rw [← hs]
  exact hD.len ht ty

/-- what an array of integers reads as, as a key -/
theorem keyOf_ints {ar m : Nat} {q : IntKind} {e : TypeId} (hk : P.underlying k = some (.array ar e)) (he : P.underlying e = some (.int q)) (hce : P.cellsOf e = 1) (hck : P.cellsOf k = ar) (hkt : P.keyType k = true) (hm : P.types.size = m + 1)
    {zs : List Int} (hl : zs.length = ar) (hw : ∀ z ∈ zs, (Lit.int q z).wf = true) : keyOf P k (.agg (zs.map (Value.int q)).toArray) = some (.string (keyBytes (zs.map (Lit.int q)))) := by
  have hf : (Value.agg (zs.map (Value.int q)).toArray).formed P k = true := by simp [Value.formed, hk, hck, hl]
  have hone : ∀ i, (hi : i < zs.length) → P.keyLits (m + 1) e (((zs.map (Value.int q)).drop i).take 1) = some [.int q zs[i]] := fun i hi => by
    rw [List.drop_eq_getElem_cons (by simpa using hi), List.take_succ_cons, List.take_zero, List.getElem_map]
    unfold Program.keyLits
    simp only [he]
    rw [if_pos ⟨trivial, hw _ (List.getElem_mem hi)⟩]
  have hall : P.keyLits (m + 2) k (zs.map (Value.int q)) = some (zs.map (Lit.int q)) := by
    unfold Program.keyLits
    simp only [hk]
    rw [if_pos (by rw [List.length_map, hl, hck]), hce]
    simp only [Nat.mul_one]
    have e1 : (List.range ar).mapM (fun i => P.keyLits (m + 1) e (((zs.map (Value.int q)).drop i).take 1)) = some (zs.map fun z => [Lit.int q z]) := by
      have key : ∀ n, n ≤ zs.length → (List.range n).mapM (fun i => P.keyLits (m + 1) e (((zs.map (Value.int q)).drop i).take 1)) = some ((zs.take n).map fun z => [Lit.int q z]) := by
        intro n
        induction n with
        | zero => intro _; rfl
        | succ n ih =>
          intro hn
          have e2 : zs.take (n + 1) = zs.take n ++ [zs[n]] := by rw [List.take_add_one, List.getElem?_eq_getElem (by omega)]; rfl
          rw [List.range_succ, List.mapM_append, ih (by omega), e2, List.map_append, List.mapM_cons, hone n (by omega)]
          rfl
      rw [← hl, key zs.length (Nat.le_refl _), List.take_length]
    have e3 : ∀ l : List Int, (l.map fun z => [Lit.int q z]).flatten = l.map (Lit.int q) := fun l => by
      induction l with
      | nil => rfl
      | cons z l ih => rw [List.map_cons, List.flatten_cons, ih]; rfl
    rw [e1]
    show some ((zs.map fun z => [Lit.int q z]).flatten) = _
    rw [e3]
  unfold keyOf
  simp only [hk]
  rw [if_pos (by rw [hkt, hf]; rfl), hm]
  show ((P.keyLits (m + 2) k (zs.map (Value.int q))).map fun ls => Lit.string (keyBytes ls)) = _
  rw [hall]
  rfl

/-- a function on the keys of the kind int -/
def intF (g : Int → Option Value) : Lit → Option Value
  | .int .i64 c => g c
  | _ => none
theorem upd_intF (g : Int → Option Value) (c : Int) (v : Value) (kl : Lit) : upd (intF g) (.int .i64 c) v kl = intF (fun x => if x = c then some v else g x) kl := by
  unfold upd
  cases h : kl.sameKey (.int .i64 c)
  · rw [if_neg (by simp)]
    unfold intF
    split
    · rename_i y
      have : y ≠ c := fun e => by
        subst e
        rw [WideAt.sameKey_self (a := .int .i64 y) trivial] at h
        cases h
      exact (if_neg this).symm
    · rfl
  · have e := WideAt.sameKey_eq h
    subst e
    show some v = intF _ (.int .i64 c)
    unfold intF
    simp
theorem MapIs.intF {g : Int → Option Value} {c : Int} {v : Value} (h : MapIs P k w b n (upd (Ux.intF g) (.int .i64 c) v)) : MapIs P k w b n (Ux.intF fun x => if x = c then some v else g x) := h.ext fun kl => (upd_intF g c v kl).symm
end Go.Ux
