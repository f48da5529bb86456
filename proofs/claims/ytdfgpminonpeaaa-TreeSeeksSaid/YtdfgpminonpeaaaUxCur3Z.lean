/- PART OF THE PROOF THAT TreeSeeksSaid HOLDS OF THE GIVEN PROGRAM, FOR EVERY INPUT THAT THE STATEMENT NAMES. No condition besides the statement's own. -/
import Derived.Test.YtdfgpminonpeaaaUxCur2Z
/- Where a key would stand. -/
namespace Go.Ux
open Go Go.RowKit

theorem FrAt.keysN {w : World} {FP : List Nat} {ks : List ByteArray} {cs : List T} {x : Nat} (h : FrAt w FP (.node ks cs) x) : ∃ kv, w.cell? ⟨x, 0, none⟩ = some kv ∧ w.ownsRow 0 9 1 kv ks.length (ks.map .string) := by
  obtain ⟨f, ⟨kv, cv, xs, fs, h1, h2, h3, h4, rfl⟩, hs⟩ := h
  exact ⟨kv, by rw [cell_of_row w x 0 _ 62 (0, 0) h1]; rfl, h2⟩
theorem FrAt.keysL {w : World} {FP : List Nat} {l : List Ent} {x : Nat} (h : FrAt w FP (.leaf l) x) : ∃ kv, w.cell? ⟨x, 0, none⟩ = some kv ∧ w.ownsRow 0 9 1 kv (keys l).length ((keys l).map .string) := by
  obtain ⟨f, ⟨kv, rv, h1, h2, h3, rfl⟩, hs⟩ := h
  refine ⟨kv, by rw [cell_of_row w x 0 _ 62 (0, 0) h1]; rfl, ?_⟩
  rw [keys_length]
  simp only [keys, List.map_map]
  exact h2
theorem FrAt.mem {w : World} {FP : List Nat} {t : T} {x : Nat} (h : FrAt w FP t x) : x ∈ FP := by
  obtain ⟨f, h1, h2⟩ := h
  exact h2 x h1.mem

/-- where a key is, or would be; behind it, if it is there and that is asked for -/
def seekN (l : List Ent) (k : ByteArray) (over : Bool) : Nat := lb (keys l) k + if (has (keys l) k && over) = true then 1 else 0

theorem seekN_mid {A C B : List Ent} {k : ByteArray} {over : Bool} (hA : AllLt A k) (hB : ∀ p ∈ B, slt k p.1 = true) : seekN (A ++ (C ++ B)) k over = A.length + seekN C k over := by
  have h1 : ∀ x ∈ keys A, slt x k = true := fun x hx => by obtain ⟨p, hp, rfl⟩ := mem_keys hx; exact hA p hp
  have h2 : ∀ x ∈ keys B, slt k x = true := fun x hx => by obtain ⟨p, hp, rfl⟩ := mem_keys hx; exact hB p hp
  unfold seekN
  rw [keys_append, keys_append, has_left h1, has_right h2, lb_append h1, lb_right (fun x hx => slt_asymm (h2 x hx)), keys_length, Nat.add_assoc]
theorem seekN_le (l : List Ent) (k : ByteArray) (over : Bool) : seekN l k over ≤ l.length := by
  unfold seekN
  have h1 := lb_le (keys l) k
  rw [keys_length] at h1
  split
  · rename_i h
    rw [Bool.and_eq_true] at h
    have h2 := h.1
    unfold has at h2
    rw [decide_eq_true_iff] at h2
    have := (List.getElem?_eq_some_iff.1 h2).1
    rw [keys_length] at this
    omega
  · omega

/-- On the way down to a key: the frames so far, the node y that they lead to. -/
def SeekRel (fan : Nat) (w0 : World) (cb : Nat) (root : T) (FP : List Nat) (k : ByteArray) (g : Nat) (y : Nat) (w : World) : Prop :=
  ∃ pre t lv a b, w.heap[cb]? = some (.cells #[lv] 75 (0, 0)) ∧ w.ownsRow 0 77 2 lv pre.length (frCells pre) ∧ (∀ b ∈ blk lv, w0.heap.size ≤ b) ∧ Touch (fun _ => False) w0 w ∧
    (∀ f ∈ pre, FrAt w0 FP f.1 f.2.1) ∧ FrAt w0 FP t y ∧ Ctx root pre t a b ∧ Good fan g t ∧ AllLt a k ∧ ∀ p ∈ b, slt k p.1 = true

theorem seek_step {fan g y z : Nat} {w w1 W : World} {cb : Nat} {root : T} {FP : List Nat} {k : ByteArray} {pre : List Fr} {ks : List ByteArray} {cs : List T} {c : T} {a b : List Ent} {lv' : Value} (hcb : w.heap.size ≤ cb) (hf : 4 ≤ fan)
    (h1 : ∀ f ∈ pre, FrAt w FP f.1 f.2.1) (h2 : FrAt w FP (.node ks cs) y) (h3 : Ctx root pre (.node ks cs) a b) (hc : cs[wayN ks k]? = some c) (hg : Good fan (g + 1) (.node ks cs))
    (ha : AllLt a k) (hb : ∀ p ∈ b, slt k p.1 = true)
    (hz : FrAt w FP c z) (ho : w1.ownsRow 0 77 2 lv' (pre.length + 1) (frCells pre ++ [.pointer (some ⟨y, 0, none⟩), .int .i64 (wayN ks k)]))
    (hT : Touch (fun _ => False) w w1) (hW : Touch (fun b => b = cb) w1 W) (hcW : W.heap[cb]? = some (.cells #[lv'] 75 (0, 0))) (hbk : ∀ b ∈ blk lv', w.heap.size ≤ b ∧ b ≠ cb) :
    SeekRel fan w cb root FP k g z W := by
  have hg0 := hg
  obtain ⟨ks', cs', e, hl, hsep, hk⟩ := hg
  cases e
  have hr := Good.rises hf hg0
  obtain ⟨gc, zc, _⟩ := hk c (List.mem_of_getElem? hc)
  have hil := (List.getElem?_eq_some_iff.1 hc).1
  have hA : (cs.take (wayN ks k)).length = wayN ks k := by simp; omega
  have hsp := split_at hc
  have hsep' := hsep
  have hl' := hl
  rw [hsp] at hsep' hl'
  have l1 := way_ahead hsep' hl' hA
  have l2 := way_behind hr hsep' hl' hA
  refine ⟨pre ++ [(.node ks cs, y, wayN ks k)], c, lv', _, _, hcW, ?_, fun b hb => (hbk b hb).1, hT.trans hW (fun b hb e => by omega), ?_, hz, h3.snoc hc, gc, ?_, ?_⟩
  · rw [frCells_snoc]
    simp only [List.length_append, List.length_cons, List.length_nil]
    exact own_blk ho hW (fun b hb => (hbk b hb).2)
  · intro f hf
    rcases List.mem_append.1 hf with hf | hf
    · exact h1 f hf
    · simp at hf; subst hf; exact h2
  · intro p hp
    rcases List.mem_append.1 hp with hp | hp
    · exact ha p hp
    · exact l1 p hp
  · intro p hp
    rcases List.mem_append.1 hp with hp | hp
    · exact l2 p hp
    · exact hb p hp
end Go.Ux
