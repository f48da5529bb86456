/- PART OF THE PROOF THAT TreeSeeksSaid HOLDS OF THE GIVEN PROGRAM, FOR EVERY INPUT THAT THE STATEMENT NAMES. No condition besides the statement's own. -/
import Derived.Test.YtdfgpminonpeaaaUxJoin2Z
import Derived.Test.YtdfgpminonpeaaaUxKeysZ
/- Del at a node, in memory. -/
namespace Go.Ux
open Go Go.RowKit

theorem delT_node {fan d : Nat} {k : ByteArray} {ks : List ByteArray} {A B : List T} {c : T} (hw : A.length = wayN ks k) : delT fan k (d + 1) (.node ks (A ++ c :: B)) =
    if (delT fan k d c).size < fan / 2 then joinT fan ks (A ++ delT fan k d c :: B) (min A.length ((A ++ c :: B).length - 2)) else .node ks (A ++ delT fan k d c :: B) := by
  have e0 : (A ++ c :: B)[wayN ks k]? = some c := by rw [← hw]; exact at_mid
  have eT : (A ++ c :: B).take A.length = A := List.take_left
  have eD : (A ++ c :: B).drop (A.length + 1) = B := by rw [List.drop_append, List.drop_eq_nil_of_le (by omega), show A.length + 1 - A.length = 1 by omega]; rfl
  simp only [delT, e0]
  rw [← hw, eT, eD]

/-- one child in another's place -/
theorem kid_swap {w w1 : World} {ks : List ByteArray} {A B : List T} {c c' : T} {x xc bg : Nat} {kv cv : Value} {xa xb fa fc fb fc' fp : List Nat}
    (h1 : w.heap[x]? = some (.cells #[kv, .slice none 0 0, cv] 62 (0, 0))) (h2 : w.ownsRow 0 9 1 kv ks.length (ks.map .string)) (h3 : w.ownsRow 0 59 1 cv (A ++ c :: B).length ((xa ++ xc :: xb).map ptr))
    (na : NodesAt w A xa fa) (nb : NodesAt w B xb fb) (hfp : fp = x :: (blk kv ++ blk cv ++ (fa ++ (fc ++ fb)))) (hnd : fp.Nodup) (hlt : ∀ b ∈ fp, b < w.heap.size) (hbg : bg ∉ fp)
    (hn : NodeAt w1 c' xc fc') (hnd' : fc'.Nodup) (hs : ∀ b ∈ fc', b ∈ fc ∨ w.heap.size ≤ b) (T1 : Touch (fun b => b ∈ fc ∨ b = bg) w w1) :
    NodeAt w1 (.node ks (A ++ c' :: B)) x (x :: (blk kv ++ blk cv ++ (fa ++ (fc' ++ fb)))) ∧ (x :: (blk kv ++ blk cv ++ (fa ++ (fc' ++ fb)))).Nodup ∧
    (∀ b ∈ x :: (blk kv ++ blk cv ++ (fa ++ (fc' ++ fb))), b ∈ fp ∨ w.heap.size ≤ b) ∧ Touch (fun b => b ∈ fp ∨ b = bg) w w1 := by
  have e : fp = (x :: (blk kv ++ blk cv ++ fa)) ++ (fc ++ fb) := by rw [hfp]; simp
  have hnd0 := hnd
  have hlt0 := hlt
  rw [e] at hnd hlt
  have L := fp_swap hnd hlt hnd' hs
  have hno : ∀ b, b ∈ x :: (blk kv ++ blk cv ++ fa) ∨ b ∈ fb → ¬ (b ∈ fc ∨ b = bg) := fun b hb h => by
    have n1 := List.nodup_append.1 hnd
    have n2 := List.nodup_append.1 n1.2.1
    rcases h with h | h
    · rcases hb with hb | hb
      · exact n1.2.2 b hb b (by simp [h]) rfl
      · exact n2.2.2 b h b hb rfl
    · subst h
      apply hbg
      rw [e]
      rcases hb with hb | hb
      · exact List.mem_append_left _ hb
      · exact List.mem_append_right _ (by simp [hb])
  have hl : (A ++ c' :: B).length = (A ++ c :: B).length := by simp
  refine ⟨⟨kv, cv, xa ++ xc :: xb, fa ++ (fc' ++ fb), T1.heap h1 (hno x (.inl (by simp))), own_blk h2 T1 (fun b hb => hno b (.inl (by simp [hb]))), ?_, NodesAt.mk (na.touch T1 (fun b hb => hno b (.inl (by simp [hb])))) hn (nb.touch T1 (fun b hb => hno b (.inr hb))), rfl⟩, ?_, ?_, ?_⟩
  · rw [hl]
    exact own_blk h3 T1 (fun b hb => hno b (.inl (by simp [hb])))
  · simpa using L
  · intro b hb
    rw [e]
    simp only [List.mem_cons, List.mem_append] at hb ⊢
    rcases hb with hb | (hb | hb) | hb | hb | hb
    · exact .inl (.inl (.inl hb))
    · exact .inl (.inl (.inr (.inl (.inl hb))))
    · exact .inl (.inl (.inr (.inl (.inr hb))))
    · exact .inl (.inl (.inr (.inr hb)))
    · rcases hs b hb with h | h
      · exact .inl (.inr (.inl h))
      · exact .inr h
    · exact .inl (.inr (.inr hb))
  · refine T1.mono fun b _ h => h.imp (fun h => ?_) id
    rw [e]
    simp [h]

/-- where join is to work: the two trees -/
theorem join_split {ks : List ByteArray} {A B : List T} {c : T} (hl : (A ++ c :: B).length = ks.length + 1) (h2 : 2 ≤ (A ++ c :: B).length) : ∃ Ka Kb s A' B' a b, ks = Ka ++ s :: Kb ∧ A ++ c :: B = A' ++ a :: b :: B' ∧ Ka.length = A'.length ∧
    A'.length = min A.length ((A ++ c :: B).length - 2) ∧ ((a = c ∧ b ∈ B) ∨ (b = c ∧ a ∈ A)) := by
  simp only [List.length_append, List.length_cons] at hl h2
  have key : ∀ j, j < ks.length → ∃ Ka Kb s, ks = Ka ++ s :: Kb ∧ Ka.length = j := fun j hj =>
    ⟨ks.take j, ks.drop (j + 1), ks[j], split_at (List.getElem?_eq_getElem hj), by simp; omega⟩
  cases B with
  | cons b B =>
    obtain ⟨Ka, Kb, s, e, hK⟩ := key A.length (by simp only [List.length_cons] at hl; omega)
    exact ⟨Ka, Kb, s, A, B, c, b, e, rfl, hK, by simp only [List.length_append, List.length_cons]; omega, .inl ⟨rfl, by simp⟩⟩
  | nil =>
    obtain ⟨A', a, rfl⟩ : ∃ A' a, A = A' ++ [a] := ⟨A.dropLast, A.getLast (by intro e; subst e; simp at h2), (List.dropLast_concat_getLast _).symm⟩
    obtain ⟨Ka, Kb, s, e, hK⟩ := key A'.length (by simp at hl; omega)
    exact ⟨Ka, Kb, s, A', [], a, c, e, by simp, hK, by simp, .inr ⟨rfl, by simp⟩⟩
end Go.Ux
