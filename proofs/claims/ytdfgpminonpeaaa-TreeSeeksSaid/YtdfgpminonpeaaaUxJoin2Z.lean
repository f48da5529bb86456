/- PART OF THE PROOF THAT TreeSeeksSaid HOLDS OF THE GIVEN PROGRAM, FOR EVERY INPUT THAT THE STATEMENT NAMES. No condition besides the statement's own. -/
import Derived.Test.YtdfgpminonpeaaaUxTree4Z
import Derived.Test.YtdfgpminonpeaaaUxJoinZ
/- Two trees side by side made one, in memory: the ends of it. -/
namespace Go.Ux
open Go Go.RowKit

theorem joinT_at {fan : Nat} {Ka Kb : List ByteArray} {s : ByteArray} {A B : List T} {a b : T} (hK : Ka.length = A.length) :
    joinT fan (Ka ++ s :: Kb) (A ++ a :: b :: B) A.length = if fan < (mrg a s b).size then .node (Ka ++ halfK (mrg a s b) :: Kb) (A ++ half1 (mrg a s b) :: half2 (mrg a s b) :: B) else .node (Ka ++ Kb) (A ++ mrg a s b :: B) := by
  have e0 : (A ++ a :: b :: B)[A.length]? = some a := at_mid
  have e1 : (A ++ a :: b :: B)[A.length + 1]? = some b := at_right (A := A) (B := b :: B) (c := a) (j := 0) (t := b) rfl
  have e2 : (Ka ++ s :: Kb)[A.length]? = some s := by rw [← hK, List.getElem?_append_right (Nat.le_refl _), Nat.sub_self]; rfl
  have t0 : (A ++ a :: b :: B).take A.length = A := List.take_left
  have t1 : (A ++ a :: b :: B).drop (A.length + 2) = B := by rw [List.drop_append, List.drop_eq_nil_of_le (by omega), show A.length + 2 - A.length = 2 by omega]; rfl
  have t2 : (Ka ++ s :: Kb).take A.length = Ka := by rw [← hK]; exact List.take_left
  have t3 : (Ka ++ s :: Kb).drop (A.length + 1) = Kb := by rw [← hK, List.drop_append, List.drop_eq_nil_of_le (by omega), show Ka.length + 1 - Ka.length = 1 by omega]; rfl
  unfold joinT
  rw [e0, e1, e2]
  simp only [t0, t1, t2, t3]

/-- what join leaves -/
def JoinLeft (w : World) (t' : T) (x : Nat) (fp : List Nat) (w' : World) : Prop :=
  ∃ fp', NodeAt w' t' x fp' ∧ fp'.Nodup ∧ (∀ b ∈ fp', b ∈ fp ∨ w.heap.size ≤ b) ∧ Touch (fun b => b ∈ fp) w w'

/-- a node ahead of a join: its rows, the two trees at their place, those about them -/
structure JoinAt (w : World) (Ka Kb : List ByteArray) (s : ByteArray) (A B : List T) (x g gk cc ck x1 x2 : Nat) (xa xb fa f1 f2 fb fp : List Nat) : Prop where
  node : w.heap[x]? = some (.cells #[.slice (some ⟨gk, 0, none⟩) (Ka ++ s :: Kb).length ck, .slice none 0 0, .slice (some ⟨g, 0, none⟩) (A.length + (B.length + 2)) cc] 62 (0, 0))
  keys : w.ownsRow 0 9 1 (.slice (some ⟨gk, 0, none⟩) (Ka ++ s :: Kb).length ck) (Ka ++ s :: Kb).length ((Ka ++ s :: Kb).map .string)
  kids : w.ownsRow 0 59 1 (.slice (some ⟨g, 0, none⟩) (A.length + (B.length + 2)) cc) (A.length + (B.length + 2)) ((xa ++ x1 :: x2 :: xb).map ptr)
  left : NodesAt w A xa fa
  right : NodesAt w B xb fb
  lenK : Ka.length = A.length
  lenB : Kb.length = B.length
  fps : fp = x :: ([gk] ++ [g] ++ (fa ++ (f1 ++ (f2 ++ fb))))
  nodup : fp.Nodup
  lt : ∀ b ∈ fp, b < w.heap.size

theorem JoinAt.apart {w : World} {Ka Kb : List ByteArray} {s : ByteArray} {A B : List T} {x g gk cc ck x1 x2 : Nat} {xa xb fa f1 f2 fb fp : List Nat} (h : JoinAt w Ka Kb s A B x g gk cc ck x1 x2 xa xb fa f1 f2 fb fp) :
    (x ≠ g ∧ x ≠ gk ∧ g ≠ gk) ∧ (∀ b ∈ f1 ++ f2, b ≠ x ∧ b ≠ g ∧ b ≠ gk ∧ b ∉ fa ∧ b ∉ fb) ∧ (∀ b ∈ fa ++ fb, b ≠ x ∧ b ≠ g ∧ b ≠ gk) := by
  have hnd := h.nodup
  rw [h.fps] at hnd
  have n1 := List.nodup_cons.1 hnd
  have n2 := List.nodup_append.1 n1.2
  have n3 := List.nodup_append.1 n2.1
  have n4 := List.nodup_append.1 n2.2.1
  have n5 := List.nodup_append.1 n4.2.1
  have n6 := List.nodup_append.1 n5.2.1
  refine ⟨⟨fun e => n1.1 (by simp [e]), fun e => n1.1 (by simp [e]), fun e => n3.2.2 gk (by simp) g (by simp) e.symm⟩, fun b hb => ?_, fun b hb => ?_⟩
  · have hm : b ∈ fa ++ (f1 ++ (f2 ++ fb)) := by rcases List.mem_append.1 hb with h | h <;> simp [h]
    refine ⟨fun e => n1.1 (by rw [← e]; exact List.mem_append_right _ hm), fun e => n2.2.2 g (by simp) b hm e.symm, fun e => n2.2.2 gk (by simp) b hm e.symm, fun h => ?_, fun h => ?_⟩
    · rcases List.mem_append.1 hb with h' | h'
      · exact n4.2.2 b h b (by simp [h']) rfl
      · exact n4.2.2 b h b (by simp [h']) rfl
    · rcases List.mem_append.1 hb with h' | h'
      · exact n5.2.2 b h' b (by simp [h]) rfl
      · exact n6.2.2 b h' b h rfl
  · have hm : b ∈ fa ++ (f1 ++ (f2 ++ fb)) := by rcases List.mem_append.1 hb with h | h <;> simp [h]
    exact ⟨fun e => n1.1 (by rw [← e]; exact List.mem_append_right _ hm), fun e => n2.2.2 g (by simp) b hm e.symm, fun e => n2.2.2 gk (by simp) b hm e.symm⟩

theorem JoinAt.fp_nodup {w : World} {Ka Kb : List ByteArray} {s : ByteArray} {A B : List T} {x g gk cc ck x1 x2 : Nat} {xa xb fa f1 f2 fb fp fm : List Nat} (h : JoinAt w Ka Kb s A B x g gk cc ck x1 x2 xa xb fa f1 f2 fb fp) (hnd : fm.Nodup) (hs : ∀ b ∈ fm, b ∈ f1 ++ f2 ∨ w.heap.size ≤ b) :
    (x :: ([gk] ++ [g] ++ (fa ++ (fm ++ fb)))).Nodup ∧ ∀ b ∈ x :: ([gk] ++ [g] ++ (fa ++ (fm ++ fb))), b ∈ fp ∨ w.heap.size ≤ b := by
  have h1 := h.nodup
  have h2 := h.lt
  have e : fp = (x :: ([gk] ++ [g] ++ fa)) ++ ((f1 ++ f2) ++ fb) := by rw [h.fps]; simp
  rw [e] at h1 h2
  have := fp_swap h1 h2 hnd hs
  refine ⟨by simpa using this, fun b hb => ?_⟩
  rw [h.fps]
  simp only [List.mem_cons, List.mem_append, List.not_mem_nil, or_false] at hb ⊢
  rcases hb with hb | (hb | hb) | hb | hb | hb
  · exact .inl (.inl hb)
  · exact .inl (.inr (.inl (.inl hb)))
  · exact .inl (.inr (.inl (.inr hb)))
  · exact .inl (.inr (.inr (.inl hb)))
  · rcases hs b hb with h | h
    · rcases List.mem_append.1 h with h | h
      · exact .inl (.inr (.inr (.inr (.inl h))))
      · exact .inl (.inr (.inr (.inr (.inr (.inl h)))))
    · exact .inr h
  · exact .inl (.inr (.inr (.inr (.inr (.inr hb)))))

/-- made one, and it stays one -/
theorem join_small {w w3 W : World} {Ka Kb : List ByteArray} {s : ByteArray} {A B : List T} {M : T} {x g gk cc ck x1 x2 ck' cc' : Nat} {xa xb fa f1 f2 fb fp fm : List Nat} (h : JoinAt w Ka Kb s A B x g gk cc ck x1 x2 xa xb fa f1 f2 fb fp)
    (hm : NodeAt w3 M x1 fm) (hnd : fm.Nodup) (hs : ∀ b ∈ fm, b ∈ f1 ++ f2 ∨ w.heap.size ≤ b) (T3 : Touch (fun b => b ∈ f1 ++ f2) w w3) (TW : Touch (fun b => b = g ∨ b = gk ∨ b = x) w3 W)
    (hx : W.heap[x]? = some (.cells #[.slice (some ⟨gk, 0, none⟩) (Ka ++ Kb).length ck', .slice none 0 0, .slice (some ⟨g, 0, none⟩) (A.length + (B.length + 1)) cc'] 62 (0, 0)))
    (ok : W.ownsRow 0 9 1 (.slice (some ⟨gk, 0, none⟩) (Ka ++ Kb).length ck') (Ka ++ Kb).length ((Ka ++ Kb).map .string))
    (oc : W.ownsRow 0 59 1 (.slice (some ⟨g, 0, none⟩) (A.length + (B.length + 1)) cc') (A.length + (B.length + 1)) ((xa ++ x1 :: xb).map ptr)) :
    JoinLeft w (.node (Ka ++ Kb) (A ++ M :: B)) x fp W := by
  obtain ⟨a1, a2, a3⟩ := h.apart
  obtain ⟨n1, n2⟩ := h.fp_nodup hnd hs
  have hfp : ∀ b, b = x ∨ b = g ∨ b = gk → b ∈ fp := fun b hb => by rw [h.fps]; rcases hb with e | e | e <;> simp [e]
  have hlen : (A ++ M :: B).length = A.length + (B.length + 1) := by simp
  have far : ∀ b ∈ fa ++ fb, ¬ (b ∈ f1 ++ f2) := fun b hb hc => by
    have := a2 b hc
    rcases List.mem_append.1 hb with h | h
    · exact this.2.2.2.1 h
    · exact this.2.2.2.2 h
  refine ⟨_, ⟨_, _, xa ++ x1 :: xb, fa ++ (fm ++ fb), hx, ok, by rw [hlen]; exact oc, NodesAt.mk ((h.left.touch T3 (fun b hb => far b (by simp [hb]))).touch TW (fun b hb e => ?_)) (hm.touch TW (fun b hb e => ?_)) ((h.right.touch T3 (fun b hb => far b (by simp [hb]))).touch TW (fun b hb e => ?_)), rfl⟩, n1, n2, (T3.mono (fun b _ hb => ?_) : Touch (fun b => b ∈ fp) w w3).trans TW (fun b _ e => ?_)⟩
  · have := a3 b (by simp [hb]); rcases e with e | e | e <;> simp [e] at this
  · rcases hs b hb with hh | hh
    · have := a2 b hh; rcases e with e | e | e <;> simp [e] at this
    · have := h.lt b (hfp b (by rcases e with e | e | e <;> simp [e])); omega
  · have := a3 b (by simp [hb]); rcases e with e | e | e <;> simp [e] at this
  · rw [h.fps]; rcases List.mem_append.1 hb with hb | hb <;> simp [hb]
  · exact hfp b (by rcases e with e | e | e <;> simp [e])

/-- made one, and parted again -/
theorem join_big {w w4 : World} {Ka Kb : List ByteArray} {s k : ByteArray} {A B : List T} {M1 M2 : T} {x g gk cc ck x1 x2 y i : Nat} {xa xb fa f1 f2 fb fp fm1 fm2 : List Nat} (h : JoinAt w Ka Kb s A B x g gk cc ck x1 x2 xa xb fa f1 f2 fb fp) (hi : A.length = i)
    (hm1 : NodeAt w4 M1 x1 fm1) (hm2 : NodeAt w4 M2 y fm2) (hnd : (fm1 ++ fm2).Nodup) (hs : ∀ b ∈ fm1 ++ fm2, b ∈ f1 ++ f2 ∨ w.heap.size ≤ b) (T4 : Touch (fun b => b ∈ f1 ++ f2) w w4) :
    JoinLeft w (.node (Ka ++ k :: Kb) (A ++ M1 :: M2 :: B)) x fp ((w4.setCell ⟨g, i + 1, none⟩ (.pointer (some ⟨y, 0, none⟩))).setCell ⟨gk, i, none⟩ (.string k)) := by
  subst hi
  obtain ⟨a1, a2, a3⟩ := h.apart
  obtain ⟨n1, n2⟩ := h.fp_nodup hnd hs
  have hla := h.left.length
  have hfp : ∀ b, b = x ∨ b = g ∨ b = gk → b ∈ fp := fun b hb => by rw [h.fps]; rcases hb with e | e | e <;> simp [e]
  have hlen : (A ++ M1 :: M2 :: B).length = A.length + (B.length + 2) := by simp
  have hlenk : (Ka ++ k :: Kb).length = (Ka ++ s :: Kb).length := by simp
  have nof : ∀ b, b = x ∨ b = g ∨ b = gk → ¬ (b ∈ f1 ++ f2) := fun b e hb => by have := a2 b hb; rcases e with e | e | e <;> simp [e] at this
  have far : ∀ b ∈ fa ++ fb, ¬ (b ∈ f1 ++ f2) := fun b hb hc => by
    have := a2 b hc
    rcases List.mem_append.1 hb with h | h
    · exact this.2.2.2.1 h
    · exact this.2.2.2.2 h
  have TW : Touch (fun b => b = g ∨ b = gk) w4 ((w4.setCell ⟨g, A.length + 1, none⟩ (.pointer (some ⟨y, 0, none⟩))).setCell ⟨gk, A.length, none⟩ (.string k)) :=
    ((Touch.refl _ w4).setCell (p := ⟨g, A.length + 1, none⟩) (fun _ => .inl rfl) _).setCell (p := ⟨gk, A.length, none⟩) (fun _ => .inr rfl) _
  have ok4 := own_touch h.keys T4 (fun b hb => by cases hb; exact nof gk (.inr (.inr rfl)))
  have oc4 := own_touch h.kids T4 (fun b hb => by cases hb; exact nof g (.inr (.inl rfl)))
  have ok5 := own_touch ok4 ((Touch.refl (fun b => b = g) w4).setCell (p := ⟨g, A.length + 1, none⟩) (fun _ => rfl) (.pointer (some ⟨y, 0, none⟩))) (fun b hb e => by cases hb; exact a1.2.2 e.symm)
  have ok6 := own_set (i := A.length) ok5 (by simp; have := h.lenK; omega) (.string k)
  have oc5 := own_set (i := A.length + 1) oc4 (by omega) (.pointer (some ⟨y, 0, none⟩))
  have oc6 := own_touch oc5 ((Touch.refl (fun b => b = gk) _).setCell (p := ⟨gk, A.length, none⟩) (fun _ => rfl) (.string k)) (fun b hb e => by cases hb; exact a1.2.2 e)
  have ek : ((Ka ++ s :: Kb).map Value.string).set A.length (.string k) = (Ka ++ k :: Kb).map .string := by
    rw [List.map_append, List.set_append_right _ _ (by simp [h.lenK]), List.length_map, h.lenK, Nat.sub_self]
    simp
  have ec : ((xa ++ x1 :: x2 :: xb).map ptr).set (A.length + 1) (.pointer (some ⟨y, 0, none⟩)) = (xa ++ x1 :: y :: xb).map ptr := by
    rw [List.map_append, List.set_append_right _ _ (by simp [hla]), List.length_map, hla, show A.length + 1 - A.length = 1 by omega]
    simp [ptr]
  rw [ek] at ok6
  rw [ec] at oc6
  have hx4 := TW.heap (T4.heap h.node (nof x (.inl rfl))) (fun e => by rcases e with e | e; exact a1.1 e; exact a1.2.1 e)
  have okf : ∀ b ∈ fm1 ++ fm2, ¬ (b = g ∨ b = gk) := fun b hb e => by
    rcases hs b hb with hh | hh
    · have := a2 b hh; rcases e with e | e <;> simp [e] at this
    · have := h.lt b (hfp b (by rcases e with e | e <;> simp [e])); omega
  have nn : ∀ b ∈ fa ++ fb, ¬ (b = g ∨ b = gk) := fun b hb e => by have := a3 b hb; rcases e with e | e <;> simp [e] at this
  have hK := NodesAt.mk ((h.left.touch T4 (fun b hb => far b (by simp [hb]))).touch TW (fun b hb => nn b (by simp [hb]))) (hm1.touch TW (fun b hb => okf b (by simp [hb])))
    (show NodesAt _ (M2 :: B) (y :: xb) (fm2 ++ fb) from ⟨y, xb, fm2, fb, rfl, rfl, hm2.touch TW (fun b hb => okf b (by simp [hb])), (h.right.touch T4 (fun b hb => far b (by simp [hb]))).touch TW (fun b hb => nn b (by simp [hb]))⟩)
  refine ⟨_, ⟨_, _, xa ++ x1 :: y :: xb, _, hx4, by rw [hlenk]; exact ok6, by rw [hlen]; exact oc6, hK, rfl⟩, by simpa [blk, Value.ownBlock] using n1, fun b hb => n2 b (by simpa [blk, Value.ownBlock] using hb), (T4.mono (fun b _ hb => ?_) : Touch (fun b => b ∈ fp) w w4).trans TW (fun b _ e => hfp b (.inr e))⟩
  rw [h.fps]; rcases List.mem_append.1 hb with hb | hb <;> simp [hb]
end Go.Ux
