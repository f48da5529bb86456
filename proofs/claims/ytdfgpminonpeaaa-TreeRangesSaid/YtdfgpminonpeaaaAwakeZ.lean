/- PART OF THE PROOF THAT THIS CLAIM HOLDS OF THE GIVEN PROGRAM, FOR EVERY INPUT THAT THE STATEMENT NAMES. No condition besides the statement's own. -/
import Derived.Test.YtdfgpminonpeaaaCheckfZ
import Derived.Test.YtdfgpminonpeaaaRows
import Derived.WalkKit
import Derived.Handy
import Derived.Laws.EntriesVeiled
import Derived.WalkSpells
import Derived.WalkLawsBesides
import Derived.BigQuiet
import Derived.Deep.QuietTactic
import Derived.Deep.Cut
import Derived.Lib.Overlaps
import Derived.Laws.Externs
import Derived.Lib.Hide
import Derived.Test.YtdfgpminonpeaaaUxPlanAllZ
import Derived.Test.YtdfgpminonpeaaaUxTreeAllZ
import Derived.Deep.LoopGhost
namespace Go.Proofs.Ytdfgpminonpeaaa
open Go.RowKit
-- imports: YtdfgpminonpeaaaCheckf
open Ux (slt lb has Rises T NodeAt NodesAt Shp wayN blk ptr flat flats keys ins Up CurAt FrAt CurLeft seekN)

/-- a tree at block tb that holds l; all of its blocks are N or behind -/
def HasTree (w : World) (tb fan : Nat) (l : List (ByteArray × Int)) (N : Nat) : Prop := N ≤ tb ∧ ∃ t d x fp, TreeAt w tb fan l t d x fp ∧ ∀ b ∈ fp, N ≤ b

theorem HasTree.touch {w w' : World} {tb fan : Nat} {l : List (ByteArray × Int)} {N : Nat} {R : Nat → Prop} (h : HasTree w tb fan l N) (ht : Ux.Touch R w w') (hn : ∀ b, N ≤ b → b < w.heap.size → ¬ R b) : HasTree w' tb fan l N := by
  obtain ⟨h1, t, d, x, fp, h2, h3⟩ := h
  exact ⟨h1, t, d, x, fp, h2.touch ht (hn tb h1 (Ux.lt_of_heap h2.cell)) (fun b hb => hn b (h3 b hb) (h2.node.lt b hb)), h3⟩
theorem HasTree.still {w w' : World} {tb fan : Nat} {l : List (ByteArray × Int)} {N : Nat} (h : HasTree w tb fan l N) (ht : Ux.Touch (fun _ => False) w w') : HasTree w' tb fan l N := h.touch ht (fun _ _ _ f => f)

theorem newL (fan : Nat) (w : World) (h : 4 ≤ fan) (h' : fan ≤ 64) : Calls Try.prog 9 #[.int .i64 fan] w fun e w' => ∃ tb, e = .returned (.tuple #[.pointer (some ⟨tb, 0, none⟩), .int .i64 0]) ∧ HasTree w' tb fan [] w.heap.size ∧ Ux.Touch (fun _ => False) w w' :=
  (new9 fan w h h').mono fun e w' ⟨tb, he, h1, ⟨x, fp, h2, h3⟩, ht⟩ => ⟨tb, he, ⟨h1, _, _, x, fp, h2, h3⟩, ht⟩

theorem putL {w : World} {tb fan : Nat} {l : List (ByteArray × Int)} {N : Nat} (h : HasTree w tb fan l N) (hN : N ≤ w.heap.size) (hl : l.length ≤ 1048576) (k : ByteArray) (v : Int) :
    Calls Try.prog 10 #[.pointer (some ⟨tb, 0, none⟩), .string k, .int .i64 v] w fun e w' => e = .returned (.bool (!has (keys l) k)) ∧ HasTree w' tb fan (ins k v l) N ∧ Ux.Touch (fun b => N ≤ b) w w' := by
  obtain ⟨h1, t, d, x, fp, h2, h3⟩ := h
  refine (put10 w tb fan l t d x fp k v h2 hl).mono fun e w' ⟨he, ⟨t', d', x', fp', h4, h5⟩, ht⟩ => ⟨he, ⟨h1, t', d', x', fp', h4, fun b hb => (h5 b hb).elim (h3 b) (fun h => Nat.le_trans hN h)⟩, ht.mono (fun b _ h => h.elim (h3 b) (fun e => e ▸ h1))⟩

theorem getL {w : World} {tb fan : Nat} {l : List (ByteArray × Int)} {N : Nat} (h : HasTree w tb fan l N) (hl : l.length ≤ 1048576) (k : ByteArray) :
    Calls Try.prog 17 #[.pointer (some ⟨tb, 0, none⟩), .string k] w fun e w' => e = .returned (.tuple #[.int .i64 (getV l k), .bool (has (keys l) k)]) ∧ Ux.Touch (fun _ => False) w w' := by
  obtain ⟨h1, t, d, x, fp, h2, h3⟩ := h
  exact getT h2 hl k
theorem lenL {w : World} {tb fan : Nat} {l : List (ByteArray × Int)} {N : Nat} (h : HasTree w tb fan l N) : Calls Try.prog 15 #[.pointer (some ⟨tb, 0, none⟩)] w fun e w' => e = .returned (.int .i64 l.length) ∧ w = w' := by
  obtain ⟨h1, t, d, x, fp, h2, h3⟩ := h
  exact len15 tb l.length w h2.cells.2.1
theorem checkL {w : World} {tb fan : Nat} {l : List (ByteArray × Int)} {N : Nat} (h : HasTree w tb fan l N) (hl : l.length ≤ 1048576) : Calls Try.prog 22 #[.pointer (some ⟨tb, 0, none⟩)] w fun e w' => e = .returned (.int .i64 0) ∧ Ux.Touch (fun _ => False) w w' := by
  obtain ⟨h1, t, d, x, fp, h2, h3⟩ := h
  exact checkT h2 hl

/-- a cursor of a tree: the tree's blocks are N or behind, the cursor's M or behind -/
def HasCur (w : World) (tb fan : Nat) (l : List (ByteArray × Int)) (N M cb : Nat) (o : Option Nat) (fc : List Nat) : Prop := (N ≤ tb ∧ tb < M) ∧ l.length ≤ 1048576 ∧ ∃ t d x fp, CurOk w tb fan l t d x fp cb o fc ∧ ∀ b ∈ fp, N ≤ b ∧ b < M

theorem HasCur.tree {w : World} {tb fan : Nat} {l : List (ByteArray × Int)} {N M cb : Nat} {o : Option Nat} {fc : List Nat} (h : HasCur w tb fan l N M cb o fc) : HasTree w tb fan l N := by
  obtain ⟨h1, _, t, d, x, fp, h2, h3⟩ := h
  exact ⟨h1.1, t, d, x, fp, h2.tree, fun b hb => (h3 b hb).1⟩
theorem HasCur.types {w : World} {tb fan : Nat} {l : List (ByteArray × Int)} {N M cb : Nat} {o : Option Nat} {fc : List Nat} (h : HasCur w tb fan l N M cb o fc) : ∀ b ∈ fc, Ux.TypeIn w b [75, 77] := by
  obtain ⟨h1, _, t, d, x, fp, h2, h3⟩ := h
  exact h2.cur.types
theorem HasCur.lt {w : World} {tb fan : Nat} {l : List (ByteArray × Int)} {N M cb q : Nat} {fc : List Nat} (h : HasCur w tb fan l N M cb (some q) fc) : q < l.length := by
  obtain ⟨h1, _, t, d, x, fp, h2, h3⟩ := h
  exact h2.lt
/-- what turns neither the tree's blocks nor the cursor's -/
theorem HasCur.touch {w w' : World} {tb fan : Nat} {l : List (ByteArray × Int)} {N M cb : Nat} {o : Option Nat} {fc : List Nat} {R : Nat → Prop} (h : HasCur w tb fan l N M cb o fc) (ht : Ux.Touch R w w') (hn : ∀ b, N ≤ b → b < M → ¬ R b) (hc : ∀ b ∈ fc, ¬ R b) : HasCur w' tb fan l N M cb o fc := by
  obtain ⟨h1, h0, t, d, x, fp, h2, h3⟩ := h
  exact ⟨h1, h0, t, d, x, fp, h2.touch ht (hn tb h1.1 h1.2) (fun b hb => hn b (h3 b hb).1 (h3 b hb).2) hc, h3⟩
theorem HasCur.still {w w' : World} {tb fan : Nat} {l : List (ByteArray × Int)} {N M cb : Nat} {o : Option Nat} {fc : List Nat} (h : HasCur w tb fan l N M cb o fc) (ht : Ux.Touch (fun _ => False) w w') : HasCur w' tb fan l N M cb o fc := h.touch ht (fun _ _ _ f => f) (fun _ _ f => f)

def seekO (l : List (ByteArray × Int)) (k : ByteArray) (over : Bool) : Option Nat := if seekN l k over < l.length then some (seekN l k over) else none

/-- what Seek and Last give -/
def CurNew (w : World) (tb fan : Nat) (l : List (ByteArray × Int)) (N : Nat) (o : Option Nat) (e : Ending) (w' : World) : Prop := ∃ cb fc, e = .returned (.pointer (some ⟨cb, 0, none⟩)) ∧ HasCur w' tb fan l N w.heap.size cb o fc ∧ (∀ b ∈ fc, w.heap.size ≤ b) ∧ Ux.Touch (fun _ => False) w w'

theorem seekL {w : World} {tb fan : Nat} {l : List (ByteArray × Int)} {N : Nat} (h : HasTree w tb fan l N) (hl : l.length ≤ 1048576) (k : ByteArray) (over : Bool) :
    Calls Try.prog 11 #[.pointer (some ⟨tb, 0, none⟩), .string k, .bool over] w (CurNew w tb fan l N (seekO l k over)) := by
  obtain ⟨h1, t, d, x, fp, h2, h3⟩ := h
  refine (seekT h2 hl k over).mono fun e w' ⟨cb, fc, he, hc, hf, ht⟩ => ⟨cb, fc, he, ⟨⟨h1, Ux.lt_of_heap h2.cell⟩, hl, t, d, x, fp, ⟨h2.touch ht (fun f => f) (fun _ _ f => f), hl, ?_⟩, fun b hb => ⟨h3 b hb, h2.node.lt b hb⟩⟩, hf, ht⟩
  rw [h2.is] at hc
  exact hc
theorem lastL {w : World} {tb fan : Nat} {l : List (ByteArray × Int)} {N : Nat} (h : HasTree w tb fan l N) (hl : l.length ≤ 1048576) :
    Calls Try.prog 16 #[.pointer (some ⟨tb, 0, none⟩)] w (CurNew w tb fan l N (if l = [] then none else some (l.length - 1))) := by
  obtain ⟨h1, t, d, x, fp, h2, h3⟩ := h
  exact (lastT h2 hl).mono fun e w' ⟨cb, fc, he, hc, hf, ht⟩ => ⟨cb, fc, he, ⟨⟨h1, Ux.lt_of_heap h2.cell⟩, hl, t, d, x, fp, ⟨h2.touch ht (fun f => f) (fun _ _ f => f), hl, hc⟩, fun b hb => ⟨h3 b hb, h2.node.lt b hb⟩⟩, hf, ht⟩
theorem okL {w : World} {tb fan : Nat} {l : List (ByteArray × Int)} {N M cb : Nat} {o : Option Nat} {fc : List Nat} (h : HasCur w tb fan l N M cb o fc) : Calls Try.prog 12 #[.pointer (some ⟨cb, 0, none⟩)] w fun e w' => e = .returned (.bool o.isSome) ∧ w = w' := by
  obtain ⟨h1, _, t, d, x, fp, h2, h3⟩ := h
  exact ok12 h2.cur
theorem keyL {w : World} {tb fan : Nat} {l : List (ByteArray × Int)} {N M cb q : Nat} {fc : List Nat} (h : HasCur w tb fan l N M cb (some q) fc) (p : ByteArray × Int) (hp : l[q]? = some p) :
    (Calls Try.prog 13 #[.pointer (some ⟨cb, 0, none⟩)] w fun e w' => e = .returned (.string p.1) ∧ Ux.Touch (fun _ => False) w w') ∧
    (Calls Try.prog 18 #[.pointer (some ⟨cb, 0, none⟩)] w fun e w' => e = .returned (.int .i64 p.2) ∧ Ux.Touch (fun _ => False) w w') := by
  obtain ⟨h1, _, t, d, x, fp, h2, h3⟩ := h
  exact keyT h2 p hp
theorem keyL_none {w : World} {tb fan : Nat} {l : List (ByteArray × Int)} {N M cb : Nat} {fc : List Nat} (h : HasCur w tb fan l N M cb none fc) :
    (Calls Try.prog 13 #[.pointer (some ⟨cb, 0, none⟩)] w fun e w' => e = .returned (.string ⟨#[]⟩) ∧ w = w') ∧ (Calls Try.prog 18 #[.pointer (some ⟨cb, 0, none⟩)] w fun e w' => e = .returned (.int .i64 0) ∧ w = w') := by
  obtain ⟨h1, _, t, d, x, fp, h2, h3⟩ := h
  exact keyT_none h2

/-- what Next and Prev give -/
def CurStep (w : World) (tb fan : Nat) (l : List (ByteArray × Int)) (N M cb : Nat) (o : Option Nat) (fc : List Nat) (e : Ending) (w' : World) : Prop := e = .returned (.bool o.isSome) ∧ ∃ fc', HasCur w' tb fan l N M cb o fc' ∧ (∀ b ∈ fc', b ∈ fc ∨ w.heap.size ≤ b) ∧ Ux.Touch (fun b => b ∈ fc) w w'

theorem nextL {w : World} {tb fan : Nat} {l : List (ByteArray × Int)} {N M cb : Nat} {o : Option Nat} {fc : List Nat} (h : HasCur w tb fan l N M cb o fc) : Calls Try.prog 14 #[.pointer (some ⟨cb, 0, none⟩)] w (CurStep w tb fan l N M cb (nextO l.length o) fc) := by
  obtain ⟨h1, h0, t, d, x, fp, h2, h3⟩ := h
  exact (nextT h2).mono fun e w' ⟨he, hl⟩ => ⟨he, by
    obtain ⟨fc', a, b, c⟩ := h2.left hl
    exact ⟨fc', ⟨h1, h0, t, d, x, fp, a, h3⟩, b, c⟩⟩
theorem prevL {w : World} {tb fan : Nat} {l : List (ByteArray × Int)} {N M cb : Nat} {o : Option Nat} {fc : List Nat} (h : HasCur w tb fan l N M cb o fc) : Calls Try.prog 19 #[.pointer (some ⟨cb, 0, none⟩)] w (CurStep w tb fan l N M cb (prevO o) fc) := by
  obtain ⟨h1, h0, t, d, x, fp, h2, h3⟩ := h
  exact (prevT h2).mono fun e w' ⟨he, hl⟩ => ⟨he, by
    obtain ⟨fc', a, b, c⟩ := h2.left hl
    exact ⟨fc', ⟨h1, h0, t, d, x, fp, a, h3⟩, b, c⟩⟩

theorem ev1 : has (keys []) (⟨#[98]⟩ : ByteArray) = false := by decide
theorem ev2 : ins (⟨#[98]⟩ : ByteArray) 1 [] = [(⟨#[98]⟩, 1)] := rfl
theorem ev3 : has (keys [((⟨#[98]⟩ : ByteArray), (1 : Int))]) (⟨#[97]⟩ : ByteArray) = false := by kernel_rfl
theorem ev4 : ins (⟨#[97]⟩ : ByteArray) 2 [(⟨#[98]⟩, 1)] = [(⟨#[97]⟩, 2), (⟨#[98]⟩, 1)] := by kernel_rfl
theorem ev5 : seekO [((⟨#[97]⟩ : ByteArray), (2 : Int)), (⟨#[98]⟩, 1)] (⟨#[97, 97]⟩ : ByteArray) false = some 1 := by kernel_rfl

set_option maxHeartbeats 2000000 in
set_option maxRecDepth 100000 in
theorem awake20 (w : World) : Calls Try.prog 20 #[] w fun e w' => e = .returned (.bool true) ∧ Ux.Touch (fun _ => False) w w' := by
  have HN := Lib.hid (newL 4 w (by omega) (by omega))
  go_enter Try.func20, Try.ntmps20
  go_wp2_with (go_at_call 9; fail)
  refine HN.out.mono ?_
  rintro e w1 ⟨tb, rfl, t1, T1⟩
  have HP1 := Lib.hid (putL t1 T1.size (by simp) ⟨#[98]⟩ 1)
  rw [ev1, ev2] at HP1
  have HT1 := Lib.hid T1
  clear t1 T1 HN
  go_wp2_with (go_at_call 10; fail)
  refine HP1.out.mono ?_
  rintro e w2 ⟨rfl, t2, T2⟩
  have HP2 := Lib.hid (putL t2 (Nat.le_trans HT1.out.size T2.size) (by simp) ⟨#[97]⟩ 2)
  rw [ev3, ev4] at HP2
  have HT2 := Lib.hid T2
  clear t2 T2 HP1
  go_wp2_with (go_at_call 10; fail)
  refine HP2.out.mono ?_
  rintro e w3 ⟨rfl, t3, T3⟩
  have HS := Lib.hid (seekL t3 (by simp) ⟨#[97, 97]⟩ false)
  rw [ev5] at HS
  have HT3 := Lib.hid T3
  clear t3 T3 HP2
  go_wp2_with (go_at_call 11; fail)
  refine HS.out.mono ?_
  rintro e w4 ⟨cb, fc, rfl, c4, hfc, T4⟩
  have HO := Lib.hid (okL c4)
  have HK := Lib.hid (keyL c4 (⟨#[98]⟩, 1) rfl)
  have HC4 := Lib.hid c4
  have HT4 := Lib.hid T4
  clear c4 hfc T4 HS
  go_wp2_with (first | (go_at_call 12; refine HO.out.mono ?_; rintro e w' ⟨rfl, rfl⟩) | (go_at_call 13; fail))
  refine HK.out.1.mono ?_
  rintro e w5 ⟨rfl, T5⟩
  have HR := Lib.hid (keyL (HC4.out.still T5) (⟨#[98]⟩, 1) rfl)
  have HT5 := Lib.hid T5
  clear T5
  go_wp2_with (go_at_call 18; fail)
  refine HR.out.2.mono ?_
  rintro e w6 ⟨rfl, T6⟩
  have HL := Lib.hid (lenL ((HC4.out.still HT5.out).still T6).tree)
  have HCK := Lib.hid (checkL ((HC4.out.still HT5.out).still T6).tree (by simp))
  have HT6 := Lib.hid T6
  clear T6
  go_wp2_with (first | (go_at_call 15; refine HL.out.mono ?_; rintro e w' ⟨rfl, rfl⟩) | (go_at_call 22; fail))
  refine HCK.out.mono ?_
  rintro e w7 ⟨rfl, T7⟩
  have HT7 := Lib.hid T7
  clear T7
  go_wp2
  go_ret
  refine ⟨rfl, ?_⟩
  have A := HT1.out.trans HT2.out (fun b hb h => absurd hb (by have h' : w.heap.size ≤ b := h; omega))
  have B := A.trans HT3.out (fun b hb h => absurd hb (by have h' : w.heap.size ≤ b := h; omega))
  exact (((B.trans HT4.out (fun _ _ f => f)).trans HT5.out (fun _ _ f => f)).trans HT6.out (fun _ _ f => f)).trans HT7.out (fun _ _ f => f)

end Go.Proofs.Ytdfgpminonpeaaa
