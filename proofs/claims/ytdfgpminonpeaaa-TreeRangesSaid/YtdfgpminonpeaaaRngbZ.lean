/- PART OF THE PROOF THAT THIS CLAIM HOLDS OF THE GIVEN PROGRAM, FOR EVERY INPUT THAT THE STATEMENT NAMES. No condition besides the statement's own. -/
import Derived.Test.YtdfgpminonpeaaaRngZ
import Derived.Test.YtdfgpminonpeaaaRows
import Derived.WalkKit
import Derived.Handy
import Derived.Laws.EntriesVeiled
import Derived.WalkSpells
import Derived.WalkLawsBesides
import Derived.BigQuiet
import Derived.Deep.QuietTactic
import Derived.Deep.Cut
import Derived.Deep.DeepCutAuto
import Derived.Lib.Overlaps
import Derived.Laws.Externs
import Derived.Lib.Hide
import Derived.Test.YtdfgpminonpeaaaUxPlanAllZ
import Derived.Test.YtdfgpminonpeaaaUxTreeAllZ
import Derived.Deep.LoopGhost
namespace Go.Proofs.Ytdfgpminonpeaaa
open Go.RowKit
-- imports: YtdfgpminonpeaaaRng
open Ux (slt lb has Rises keys ins del seekN)
attribute [local go_sem] Oper.semAt_some

theorem touch_putObj {R : Nat → Prop} {a w : World} (h : Ux.Touch R a w) (l : Nat) (hl : R l) (o : Obj) : Ux.Touch R a (w.putObj l o) :=
  ⟨h.os, h.tape, h.output, by have := h.size; simpa using this, fun i hi hn => by
    by_cases e : i = l
    · subst e; exact absurd hl hn
    · exact (World.putObj_heap_other (by first | exact e | exact fun h => e h.symm)).trans (h.block i hi hn)⟩

theorem range27 (w : World) (tb : Nat) (lo hi : ByteArray) (op : Bool) : Calls Try.prog 27 #[.pointer (some ⟨tb, 0, none⟩), .string lo, .string hi, .bool op] w fun e w' =>
    e = .returned (.func (.func 43) #[] #[.pointer (some ⟨w.heap.size, 0, none⟩), .pointer (some ⟨w.heap.size + 1, 0, none⟩), .pointer (some ⟨w.heap.size + 1 + 1 + 1, 0, none⟩), .pointer (some ⟨w.heap.size + 1 + 1, 0, none⟩)]) ∧
    RngEnv w' w.heap.size (w.heap.size + 1) (w.heap.size + 1 + 1 + 1) (w.heap.size + 1 + 1) tb lo hi op ∧ Ux.Touch (fun _ => False) w w' ∧ w.heap.size + 1 + 1 + 1 + 1 = w'.heap.size := by
  have F := four w (.cells #[.pointer (some ⟨tb, 0, none⟩)] 23) (.cells #[.string lo] 9) (.cells #[.string hi] 9) (.cells #[.bool op] 4)
  simp only [] at F
  obtain ⟨W, hW⟩ : ∃ W, (((w.alloc (.cells #[.pointer (some ⟨tb, 0, none⟩)] 23)).alloc (.cells #[.string lo] 9)).alloc (.cells #[.string hi] 9)).alloc (.cells #[.bool op] 4) = W := ⟨_, rfl⟩
  have T : Ux.Touch (fun _ => False) w W := by rw [← hW]; exact ((((Ux.Touch.refl _ w).alloc _).alloc _).alloc _).alloc _
  have hs : w.heap.size + 1 + 1 + 1 + 1 = W.heap.size := by rw [← hW]; simp
  rw [hW] at F
  have E : RngEnv W w.heap.size (w.heap.size + 1) (w.heap.size + 1 + 1 + 1) (w.heap.size + 1 + 1) tb lo hi op :=
    ⟨by rw [cell_of_row W _ 0 _ 23 (0, 0) F.1]; rfl, by rw [cell_of_row W _ 0 _ 9 (0, 0) F.2.1]; rfl, by rw [cell_of_row W _ 0 _ 4 (0, 0) F.2.2.2]; rfl, by rw [cell_of_row W _ 0 _ 9 (0, 0) F.2.2.1]; rfl⟩
  have HW := Lib.hid (And.intro hW (And.intro E (And.intro T hs)))
  clear F E T hs hW
  go_enter Try.func27, Try.ntmps27
  go_wp2
  go_ret
  rw [HW.out.1]
  exact ⟨rfl, HW.out.2⟩

/-- how a round's body may be left -/
def BodyPost (CC : Nat → Prop) (I : List (ByteArray × Int) → World → Prop) (Ix : Code → List (ByteArray × Int) → World → Prop) (xs : List (ByteArray × Int)) (W : World) : Exit → Act → World → Prop
  | .normal, _, W' => Ux.Touch CC W W' ∧ I xs W'
  | .ret, _, W' => Ux.Touch CC W W' ∧ Ix .ret xs W'
  | .exit id, _, W' => Ux.Touch CC W W' ∧ Ix (.exit id) xs W'
  | _, _, _ => False

set_option maxHeartbeats 1000000 in
/-- the statement 'for k, r := range t.Range(lo, hi, op) { .. }' -/
theorem wp_range {g : Operand} {ps : Array Tmp} {assign body : Code} {Q : Exit → Act → World → Prop} {a : Act} {w : World} {b1 b2 b3 b4 tb F N B : Nat} {L : List (ByteArray × Int)} {lo hi : ByteArray} {op : Bool}
    (hg : a.eval g = .func (.func 43) #[] #[.pointer (some ⟨b1, 0, none⟩), .pointer (some ⟨b2, 0, none⟩), .pointer (some ⟨b3, 0, none⟩), .pointer (some ⟨b4, 0, none⟩)])
    (he : RngEnv w b1 b2 b3 b4 tb lo hi op) (hT : HasTreeB w tb F L N B) (hBw : B ≤ w.heap.size) (hL : L.length ≤ 100000) (hps : ps.size = 2)
    (CC : Nat → Prop) (hCC : ∀ b, CC b → B ≤ b ∧ b < w.heap.size ∧ b ≠ b3 ∧ b ≠ b4)
    (I : List (ByteArray × Int) → World → Prop) (Ix : Code → List (ByteArray × Int) → World → Prop)
    (hI : ∀ pre W W', I pre W → Ux.Touch (fun b => w.heap.size ≤ b) W W' → I pre W') (hIx : ∀ c pre W W', Ix c pre W → Ux.Touch (fun b => w.heap.size ≤ b) W W' → Ix c pre W') (h0 : I [] w) (a₁ : ByteArray × Int → Act)
    (hassign : ∀ (l : Nat) (x : ByteArray × Int) (W : World) (K : Act → World → Prop), K (a₁ x) W →
      assign.wpIn (Fence.wide.inRound l) 5 Try.prog (Exit.then K (fun _ _ _ => False)) { tmps := (ps.zip #[.string x.1, .int .i64 x.2]).foldl (fun t (p, v) => t.setIfInBounds p v) a.tmps, defers := [] } W)
    (hbody : ∀ (l j : Nat) (x : ByteArray × Int) (W : World), (Ux.wantOf L lo hi op)[j]? = some x → I ((Ux.wantOf L lo hi op).take j) W → body.wpIn (Fence.wide.inRound l) 5 Try.prog (BodyPost CC I Ix ((Ux.wantOf L lo hi op).take (j + 1)) W) (a₁ x) W)
    (hdone : ∀ (D : Nat) (W : World), I (Ux.wantOf L lo hi op) W → W.heap[D]? = some (.deferred (some [])) → w.heap.size ≤ D → Q .normal { a with defers := { target := .collected D, args := #[] } :: a.defers } W)
    (hstop : ∀ (D : Nat) (c : Code) (j : Nat) (W : World), j < (Ux.wantOf L lo hi op).length → Ix c ((Ux.wantOf L lo hi op).take (j + 1)) W → W.heap[D]? = some (.deferred (some [])) → w.heap.size ≤ D → c.wp Try.prog Q { a with defers := { target := .collected D, args := #[] } :: a.defers } W) :
    (Code.rangeFunc g ps assign body).wp Try.prog Q a w := by
  obtain ⟨want, hwant⟩ : ∃ want, Ux.wantOf L lo hi op = want := ⟨_, rfl⟩
  rw [hwant] at hbody hdone hstop
  refine (wpIn_wide (n := 6)).1 (wpIn_rangeFunc ?_)
  intro fn _
  obtain ⟨rec, hrec⟩ : ∃ rec : LoopState → Option Code → Loop, rec = fun st pe => { state := st, pending := pe, fn, tmps := a.tmps, params := ps, assign, body, defers := w.heap.size } := ⟨_, rfl⟩
  obtain ⟨W1, hW1⟩ : ∃ W1, (w.alloc (.deferred (some []))).alloc (.loop (rec .ready none)) = W1 := ⟨_, rfl⟩
  have hL1 : W1.heap[w.heap.size + 1]? = some (.loop (rec .ready none)) := by
    rw [← hW1]; have := World.alloc_heap_new (w.alloc (.deferred (some []))) (.loop (rec .ready none)); rwa [World.size_alloc] at this
  have hK1 : W1.heap[w.heap.size]? = some (.deferred (some [])) := by
    rw [← hW1]; exact (Below.heap_alloc _ _ _ (by simp)).trans (World.alloc_heap_new w _)
  have T1 : Ux.Touch (fun _ => False) w W1 := by rw [← hW1]; exact ((Ux.Touch.refl _ w).alloc _).alloc _
  have hS1 : W1.heap.size = w.heap.size + 2 := by rw [← hW1]; simp
  have hk3 := block_lt_of_cell he.op
  have hk4 := block_lt_of_cell he.hi
  simp only [] at hk3 hk4
  refine ⟨w.heap.size + 1, [{ target := .collected w.heap.size, args := #[] }], W1, { target := .fn (.func 43) #[.pointer (some ⟨b1, 0, none⟩), .pointer (some ⟨b2, 0, none⟩), .pointer (some ⟨b3, 0, none⟩), .pointer (some ⟨b4, 0, none⟩)], args := #[.func (.yield (w.heap.size + 1)) #[] #[]] }, W1, 43,
    #[.func (.yield (w.heap.size + 1)) #[] #[]] ++ #[.pointer (some ⟨b1, 0, none⟩), .pointer (some ⟨b2, 0, none⟩), .pointer (some ⟨b3, 0, none⟩), .pointer (some ⟨b4, 0, none⟩)], W1, ?_, ?_, ?_, ?_, (fun _ => by omega), ?_⟩
  · rw [← hW1, hrec]; exact run_enterLoop_outer _ _ _ _ _
  · simp only [resolve, hg]
    simp [go_sem]
  · intro f' _; trivial
  · simp [invoke, go_sem, Go.Proofs.enters_of Try.func43 (by kernel_rfl) rfl]
  · refine callsIn_wide.2 ?_
    refine (range43 (w.heap.size + 1) L lo hi op (fun b => CC b ∨ b = w.heap.size + 1) (w.heap.size + 2) B N tb F
      (fun pre W => I pre W ∧ W.heap[w.heap.size + 1]? = some (.loop (rec .ready none)) ∧ W.heap[w.heap.size]? = some (.deferred (some [])))
      (fun pre W => ∃ c, Ix c pre W ∧ W.heap[w.heap.size + 1]? = some (.loop (rec .done (some c))) ∧ W.heap[w.heap.size]? = some (.deferred (some [])))
      W1 b1 b2 b3 b4 ?_ (fun b hb => ?_) (fun hb => ?_) (fun hb => ?_) hS1 (hT.touch T1 (fun _ _ f => f)) hL ⟨T1.cell he.t (fun f => f), T1.cell he.lo (fun f => f), T1.cell he.op (fun f => f), T1.cell he.hi (fun f => f)⟩ ⟨hI _ _ _ h0 (T1.mono (fun _ _ f => f.elim)), hL1, hK1⟩).mono ?_
    · rw [hwant]
      refine ⟨fun j x W hx hJ => ?_, fun pre W W' hJ T => ⟨hI _ _ _ hJ.1 (T.mono (fun b _ h => by omega)), T.heap hJ.2.1 (by omega), T.heap hJ.2.2 (by omega)⟩, fun pre W W' hJ T => ?_⟩
      · obtain ⟨hi', hl, hk⟩ := hJ
        have hlt : w.heap.size + 1 < W.heap.size := (Array.getElem?_eq_some_iff.1 hl).1
        have hy := run_yield (P := Try.prog) (args := #[.string x.1, .int .i64 x.2]) hl (by rw [hrec]; exact hps.symm)
        rw [hrec] at hy
        refine ⟨fn, _, assign, body, hy, roundIn_of_wpIn trivial (hassign _ x W _ ⟨_, run_beginRound hl (by rw [hrec]), ?_⟩)⟩
        have hl2 : (W.putObj (w.heap.size + 1) (.loop { rec .ready none with state := .busy })).heap[w.heap.size + 1]? = some (.loop { rec .ready none with state := .busy }) := World.putObj_heap_same hlt
        have hk2 : (W.putObj (w.heap.size + 1) (.loop { rec .ready none with state := .busy })).heap[w.heap.size]? = some (.deferred (some [])) := (World.putObj_heap_other (by omega)).trans hk
        have T2 : Ux.Touch (fun b => b = w.heap.size + 1) W (W.putObj (w.heap.size + 1) (.loop { rec .ready none with state := .busy })) := touch_putObj (Ux.Touch.refl (fun b => b = w.heap.size + 1) W) (w.heap.size + 1) rfl _
        refine wpIn_mono (hbody _ j x _ hx (hI _ _ _ hi' (T2.mono (fun b _ h => by omega)))) ?_
        have fin : ∀ (jump : Option Code) (W3 : World), Ux.Touch CC (W.putObj (w.heap.size + 1) (.loop { rec .ready none with state := .busy })) W3 →
            (Instr.endRound (w.heap.size + 1) jump).run Try.prog W3 = .ok (.bool jump.isNone) (W3.putObj (w.heap.size + 1) (.loop (rec (if jump.isNone then .ready else .done) jump))) ∧
            (W3.putObj (w.heap.size + 1) (.loop (rec (if jump.isNone then .ready else .done) jump))).heap[w.heap.size + 1]? = some (.loop (rec (if jump.isNone then .ready else .done) jump)) ∧
            (W3.putObj (w.heap.size + 1) (.loop (rec (if jump.isNone then .ready else .done) jump))).heap[w.heap.size]? = some (.deferred (some [])) ∧
            Ux.Touch (fun b => b = w.heap.size + 1) W3 (W3.putObj (w.heap.size + 1) (.loop (rec (if jump.isNone then .ready else .done) jump))) := fun jump W3 T3 => by
          have hl3 := T3.heap hl2 (fun h => by have := hCC _ h; omega)
          have hk3' := T3.heap hk2 (fun h => by have := hCC _ h; omega)
          have := run_endRound (P := Try.prog) jump hl3
          rw [hrec] at this ⊢
          exact ⟨this, World.putObj_heap_same (Array.getElem?_eq_some_iff.1 hl3).1, (World.putObj_heap_other (by omega)).trans hk3', touch_putObj (Ux.Touch.refl (fun b => b = w.heap.size + 1) W3) (w.heap.size + 1) rfl _⟩
        have up : ∀ W3 : World, Ux.Touch (fun b => b = w.heap.size + 1) W3 W3 := fun W3 => Ux.Touch.refl _ W3
        rintro e a3 W3 hp
        cases e with
        | normal =>
          obtain ⟨T3, hi3⟩ := hp
          obtain ⟨hr, hl4, hk4', T4⟩ := fin none W3 T3
          exact ⟨_, _, hr, .inl ⟨rfl, ⟨hI _ _ _ hi3 (T4.mono (fun b _ h => by omega)), hl4, hk4'⟩, ((T2.mono (fun b _ h => .inr h) : Ux.Touch (fun b => CC b ∨ b = w.heap.size + 1) _ _).trans T3 (fun b _ h => .inl h)).trans T4 (fun b _ h => .inr h)⟩⟩
        | ret =>
          obtain ⟨T3, hi3⟩ := hp
          obtain ⟨hr, hl4, hk4', T4⟩ := fin (some .ret) W3 T3
          exact ⟨_, _, hr, .inr ⟨rfl, .ret, hIx _ _ _ _ hi3 (T4.mono (fun b _ h => by omega)), hl4, hk4'⟩⟩
        | exit id =>
          obtain ⟨T3, hi3⟩ := hp
          obtain ⟨hr, hl4, hk4', T4⟩ := fin (some (.exit id)) W3 T3
          exact ⟨_, _, hr, .inr ⟨rfl, .exit id, hIx _ _ _ _ hi3 (T4.mono (fun b _ h => by omega)), hl4, hk4'⟩⟩
        | goto t => exact hp.elim
        | panic ch => exact hp.elim
        | outgrown => exact hp.elim
      · obtain ⟨c, h1, h2, h3⟩ := hJ
        exact ⟨c, hIx _ _ _ _ h1 (T.mono (fun b _ h => by omega)), T.heap h2 (by omega), T.heap h3 (by omega)⟩
    · rcases hb with hb | hb
      · have := hCC b hb; omega
      · omega
    · rcases hb with hb | hb
      · exact (hCC _ hb).2.2.1 rfl
      · omega
    · rcases hb with hb | hb
      · exact (hCC _ hb).2.2.2 rfl
      · omega
    · rw [hwant]
      rintro e W2 ⟨⟨v, rfl⟩, (⟨hi', hl, hk⟩ | ⟨j, hj, c, hi', hl, hk⟩)⟩
      · exact ⟨none, _, by have := run_endLoop (P := Try.prog) hl (by rw [hrec]; simp); rw [hrec] at this; exact this, hdone _ _ (hI _ _ _ hi' (touch_putObj (Ux.Touch.refl (fun b => w.heap.size ≤ b) W2) (w.heap.size + 1) (by omega) _)) ((World.putObj_heap_other (by omega)).trans hk) (Nat.le_refl _)⟩
      · exact ⟨some c, _, by have := run_endLoop (P := Try.prog) hl (by rw [hrec]; simp); rw [hrec] at this; exact this, (wpIn_wide (n := 6)).2 (hstop _ c j _ hj (hIx _ _ _ _ hi' (touch_putObj (Ux.Touch.refl (fun b => w.heap.size ≤ b) W2) (w.heap.size + 1) (by omega) _)) ((World.putObj_heap_other (by omega)).trans hk) (Nat.le_refl _))⟩

end Go.Proofs.Ytdfgpminonpeaaa
