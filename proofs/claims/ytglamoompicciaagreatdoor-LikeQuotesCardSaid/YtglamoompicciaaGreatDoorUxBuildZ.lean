/- PART OF THE PROOF THAT THIS CLAIM HOLDS OF THE GIVEN PROGRAM, FOR EVERY INPUT THAT THE STATEMENT NAMES. No condition besides the statement's own. -/
import Derived.Test.YtglamoompicciaaGreatDoorUxGenZ
import Derived.Lib.Builder
import Derived.Lib.UnsafeStr
/- Append from any source upon a row that is owned; a builder of bytes in a block of its own. -/
namespace Go.Ux
open Go Go.RowKit
section
variable {P : Program}
/-- append upon a row that is owned: the same row, or a new one. -/
theorem run_appX (w : World) (t tx ty e : TypeId) (i : TypeInfo) (z : Value) (size bytes : Nat) (ht : P.underlying t = some (.slice e)) (hi : P.info? e = some i) (hz : i.zero = some z)
    (hsize : i.size = size) (hby : i.bytes = bytes) (hzs : z.cells.size = size) (hsz : 0 < size)
    (v : Value) (n : Nat) (xs : List Value) (hown : w.ownsRow 0 e size v n xs) (x : Value) (m : Nat) (news : List Value) (hs : Src P size tx x m news w)
    (h63 : n + m ≤ maxLen) (hbytes : (n + m) * bytes ≤ 140737488355328) :
    ∃ v' w', (Builtin.append_ #[t, tx] ty #[v, x]).run P w = .ok v' w' ∧ w'.ownsRow 0 e size v' (n + m) (xs ++ news) ∧ Touch (fun k => v.ownBlock = some k) w w' ∧
      (v'.ownBlock = v.ownBlock ∨ ∃ g, v'.ownBlock = some g ∧ w.heap.size ≤ g) ∧ (v' = .slice none 0 0 → v = .slice none 0 0 ∧ m = 0) := by
  subst hsize
  subst hby
  have hsmall : n + m ≤ 9223372036854775807 := by simp only [maxLen] at h63; omega
  have hlen : (xs ++ news).length = (n + m) * i.size := by rw [List.length_append, hown.1, hs.newsLen, Nat.add_mul]
  have grown : ∀ (old : Nat), old < n + m → ∀ (R : Nat → Prop),
      (w.drew.alloc (.cells ((xs ++ news).toArray ++ Builtin.zeroCells z.cells (grownCap w (n + m) old e - (n + m))) e)).ownsRow 0 e i.size
        (.slice (some ⟨w.heap.size, 0, none⟩) (n + m) (grownCap w (n + m) old e)) (n + m) (xs ++ news) ∧
      Touch R w (w.drew.alloc (.cells ((xs ++ news).toArray ++ Builtin.zeroCells z.cells (grownCap w (n + m) old e - (n + m))) e)) := by
    intro old ho R
    have hge := grownCap_ge w (n + m) old e
    have hcm : grownCap w (n + m) old e ≤ maxLen := grownCap_le_maxLen w (n + m) old e h63
    refine ⟨⟨hlen, .inr ⟨w.heap.size, _, _, rfl, Nat.zero_le _, heap_alloc_new w.drew _, hge, hcm, ?_, ?_⟩⟩, ((Touch.refl R w).drew).alloc _⟩
    · simp only [Array.size_append, List.size_toArray, size_zeroCells, hzs, hlen, ← Nat.add_mul]
      congr 1
      omega
    · simp only [Array.toList_append]
      rw [← hlen]
      exact List.take_left
  rcases hown.2 with ⟨rfl, rfl⟩ | ⟨g, cap, cur, rfl, _, hg, hnc, hcm, hcs, htake⟩
  · have hx : xs = [] := List.eq_nil_of_length_eq_zero (by simpa using hown.1)
    subst hx
    by_cases hm : m = 0
    · subst hm
      have hn : news = [] := List.eq_nil_of_length_eq_zero (by simpa using hs.newsLen)
      subst hn
      have h0 := hs.cells
      refine ⟨.slice none 0 0, w, ?_, World.ownsRow_nil w 0 e i.size, Touch.refl _ _, .inl rfl, fun _ => ⟨rfl, rfl⟩⟩
      rcases hs.kind with ⟨e', hk⟩ | hk <;> simp [Builtin.append_, run_underlying ht, run_underlying hk, sizeOf, typeInfo, hi, hs.len, h0]
    · have hr := run_append_grow_src (P := P) w t tx ty e i z ht hi hz none 0 0 [] (run_firstCells_none w.drew i.size 0 0 0) x m news hs (by omega) (by omega) (growslice_fits (by omega) hbytes)
      have hgr := grown 0 (by omega) (fun k => Value.ownBlock (.slice none 0 0) = some k)
      simp only [Nat.zero_add, List.nil_append] at hgr hr ⊢
      exact ⟨_, _, hr, hgr.1, hgr.2, .inr ⟨_, rfl, Nat.le_refl _⟩, fun h => by cases h⟩
  · by_cases hroom : n + m ≤ cap
    · have hfit : n * i.size + news.length ≤ cur.size := by rw [hs.newsLen, hcs, ← Nat.add_mul]; exact Nat.mul_le_mul_right _ hroom
      have hst := run_storeCells_at P g (n * i.size) e news 0 cur w hg (by simpa using hfit) hs.one
      simp only [Nat.add_zero] at hst
      have hr : (Builtin.append_ #[t, tx] ty #[.slice (some ⟨g, 0, none⟩) n cap, x]).run P w = .ok (.slice (some ⟨g, 0, none⟩) (n + m) cap) (w.setRow g (cur.toList.take (n * i.size) ++ news ++ cur.toList.drop (n * i.size + news.length)).toArray) := by
        rcases hs.kind with ⟨e', hk⟩ | hk <;> simp [Builtin.append_, run_underlying ht, run_underlying hk, sizeOf, typeInfo, hi, hs.len, hroom, hs.cells, Addr.add_lit, hst]
      refine ⟨_, _, hr, ⟨hlen, .inr ⟨g, cap, _, rfl, Nat.zero_le _, setRow_heap w g cur _ e _ hg, hroom, hcm, ?_, ?_⟩⟩, (Touch.refl (fun k => Value.ownBlock (.slice (some ⟨g, 0, none⟩) n cap) = some k) w).setRow (fun _ => rfl) _, .inl rfl, fun h => by cases h⟩
      · simp only [List.size_toArray, List.length_append, List.length_take, List.length_drop, Array.length_toList]
        omega
      · rw [htake, ← hlen]
        exact List.take_left
    · have hold : (Builtin.firstCells i.size n (.slice (some ⟨g, 0, none⟩) n cap)).run P w.drew = .ok xs.toArray w.drew :=
        run_firstCells_some w.drew i.size n ⟨g, 0, none⟩ n cap xs hown.1 (by simpa using hown.cells (g := g) rfl)
      have hr := run_append_grow_src (P := P) w t tx ty e i z ht hi hz (some ⟨g, 0, none⟩) n cap xs hold x m news hs (by omega) (by omega) (growslice_fits (by omega) hbytes)
      have hgr := grown cap (by omega) (fun k => Value.ownBlock (.slice (some ⟨g, 0, none⟩) n cap) = some k)
      exact ⟨_, _, hr, hgr.1, hgr.2, .inr ⟨_, rfl, Nat.le_refl _⟩, fun h => by cases h⟩

/-- append of a text's bytes -/
theorem Grow.appStr {w : World} {lo : Nat} {e : TypeId} {v : Value} {xs : List UInt8} (h : Grow w lo e v (bv xs)) (t tx : TypeId) (ht : P.underlying t = some (.slice e)) (htx : P.underlying tx = some .string)
    (hi : (P.info? e).map (fun i => (i.zero, i.size, i.bytes)) = some (some (.int .u8 0), 1, 1)) (s : ByteArray) (hlo : lo ≤ w.heap.size) (hb : xs.length + s.size ≤ 140737488355328) :
    ∃ r w', (∀ ty, (Builtin.append_ #[t, tx] ty #[v, .string s]).run P w = .ok r w') ∧ Grow w' lo e r (bv (xs ++ s.data.toList)) ∧ Touch (fun b => lo ≤ b ∧ v.ownBlock = some b) w w' := by
  obtain ⟨i0, hi0, hz0⟩ := Option.map_eq_some_iff.1 hi
  simp only [Prod.mk.injEq] at hz0
  obtain ⟨hz0, hz1, hz2⟩ := hz0
  have src : Src P 1 tx (.string s) s.size (byteCells s) w := Src.ofString w htx s
  have eb : byteCells s = bv s.data.toList := by unfold bv byteCells; rfl
  rw [eb] at src
  have key := fun ty => run_appX (P := P) w t tx ty e i0 (.int .u8 0) 1 1 ht hi0 hz0 hz1 hz2 rfl (by omega) v (bv xs).length (bv xs) h.1 _ s.size _ src (by simp only [maxLen, bv_length]; omega) (by rw [bv_length]; omega)
  obtain ⟨r, w', hr, ho, htt, hbk, _⟩ := key t
  refine ⟨r, w', fun ty => hr, ⟨?_, ?_⟩, htt.mono fun b _ hb => ⟨h.2 b hb, hb⟩⟩
  · rw [bv_append, List.length_append, bv_length s.data.toList]
    have e2 : s.data.toList.length = s.size := by simp
    rw [e2]
    exact ho
  · intro b hb
    rcases hbk with e | ⟨g, e, hg⟩
    · exact h.2 b (by rw [← e]; exact hb)
    · rw [e] at hb
      cases hb
      omega
end
theorem Touch.of_belowB {B : Nat} {w w' : World} (h : Below B w w') : Touch (fun k => B ≤ k) w w' := ⟨h.os, h.tape, h.output, h.size, fun k _ hn => h.block k (by omega)⟩
/-- a builder in block b, its bytes in a block from lo on -/
def BAt (T e : TypeId) (w : World) (b lo : Nat) (l : List UInt8) : Prop := b < lo ∧ ∃ p v, w.heap[b]? = some (.cells #[p, v] T (0, 0)) ∧ (p = .pointer none ∨ p = .pointer (some ⟨b, 0, none⟩)) ∧ Grow w lo e v (bv l)
theorem BAt.is {T e : TypeId} {w : World} {b lo : Nat} {l : List UInt8} (h : BAt T e w b lo l) : Lib.IsBuilder T e b b (Lib.byteCells l) w := by
  obtain ⟨hb, p, v, hh, hp, hG⟩ := h
  have eb : Lib.byteCells l = bv l := rfl
  have ho : w.ownsRow b e 1 v (Lib.byteCells l).length (Lib.byteCells l) := by
    rw [eb]
    obtain ⟨h1, h2⟩ := hG.1
    exact ⟨h1, h2.imp id fun ⟨g, cap, cur, hv, _, r⟩ => ⟨g, cap, cur, hv, by have := hG.2 g (by rw [hv]; rfl); omega, r⟩⟩
  have hne : v.ownBlock ≠ some b := fun h => by have := hG.2 b h; omega
  rcases hp with rfl | rfl
  · exact .inl ⟨Nat.le_refl _, v, hh, ho, hne⟩
  · exact .inr ⟨Nat.le_refl _, v, hh, ho, hne⟩
theorem BAt.touch {R : Nat → Prop} {T e : TypeId} {w w' : World} {b lo : Nat} {l : List UInt8} (h : BAt T e w b lo l) (ht : Touch R w w') (hR : ∀ k, k = b ∨ lo ≤ k → ¬ R k) : BAt T e w' b lo l := by
  obtain ⟨hb, p, v, hh, hp, hG⟩ := h
  exact ⟨hb, p, v, ht.heap hh (hR b (.inl rfl)), hp, hG.touch ht fun k hk => hR k (.inr hk)⟩
end Go.Ux
