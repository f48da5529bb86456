/- PART OF THE PROOF THAT THIS CLAIM HOLDS OF THE GIVEN PROGRAM, FOR EVERY INPUT THAT THE STATEMENT NAMES. No condition besides the statement's own. -/
import Derived.Test.YtdfgpminonpeaaaUxTreeAllZ
import Derived.Test.YtdfgpminonpeaaaSmallZ
import Derived.Test.YtdfgpminonpeaaaInsZ
import Derived.Test.YtdfgpminonpeaaaNodeZ
import Derived.Test.YtdfgpminonpeaaaHalfZ
import Derived.Test.YtdfgpminonpeaaaPutZ
import Derived.Test.YtdfgpminonpeaaaPutnZ
import Derived.Test.YtdfgpminonpeaaaRows
import Derived.WalkKit
import Derived.Handy
import Derived.Laws.EntriesVeiled
import Derived.WalkSpells
import Derived.WalkLawsBesides
import Derived.BigQuiet
import Derived.Deep.QuietTactic
import Derived.Deep.Cut
import Derived.Lib.Overlaps
import Derived.Laws.Externs
import Derived.Lib.Hide
import Derived.Test.YtdfgpminonpeaaaUxPlanAllZ
import Derived.Deep.LoopGhost
namespace Go.Proofs.Ytdfgpminonpeaaa
open Go.RowKit
-- imports: UxTree4 YtdfgpminonpeaaaSmall YtdfgpminonpeaaaIns YtdfgpminonpeaaaNode YtdfgpminonpeaaaHalf YtdfgpminonpeaaaPut YtdfgpminonpeaaaPutn
open Ux (slt lb has Rises T NodeAt NodesAt Shp wayN half1 half2 halfK blk ptr flat flats keys ins putT back Up)

/-- a tree at its block, and the list that it holds; fp: all of its blocks but its own -/
structure TreeAt (w : World) (tb : Nat) (fan : Nat) (l : List (ByteArray × Int)) (t : T) (d x : Nat) (fp : List Nat) : Prop where
  cell : w.heap[tb]? = some (.cells #[.int .i64 fan, .int .i64 l.length, .pointer (some ⟨x, 0, none⟩)] 64 (0, 0))
  node : NodeAt w t x fp
  nodup : fp.Nodup
  off : tb ∉ fp
  good : Ux.Good fan d t
  up : Up l
  is : flat t = l
  size : t.size ≤ fan
  root : d = 0 ∨ 2 ≤ t.size
  fan4 : 4 ≤ fan
  fan64 : fan ≤ 64

def PutDone (w : World) (tb fan : Nat) (l : List (ByteArray × Int)) (k : ByteArray) (v : Int) (fp : List Nat) (e : Ending) (w' : World) : Prop :=
  e = .returned (.bool (!has (keys l) k)) ∧ (∃ t d x fp', TreeAt w' tb fan (ins k v l) t d x fp' ∧ ∀ b ∈ fp', b ∈ fp ∨ w.heap.size ≤ b) ∧ Ux.Touch (fun b => b ∈ fp ∨ b = tb) w w'

theorem five (w : World) (o0 o1 o2 o3 o4 : Obj) : let W := ((((w.alloc o0).alloc o1).alloc o2).alloc o3).alloc o4
    W.heap[w.heap.size]? = some o0 ∧ W.heap[w.heap.size + 1]? = some o1 ∧ W.heap[w.heap.size + 1 + 1]? = some o2 ∧ W.heap[w.heap.size + 1 + 1 + 1]? = some o3 ∧ W.heap[w.heap.size + 1 + 1 + 1 + 1]? = some o4 := by
  intro W
  have s1 : (w.alloc o0).heap.size = w.heap.size + 1 := World.size_alloc ..
  have s2 : ((w.alloc o0).alloc o1).heap.size = w.heap.size + 1 + 1 := by rw [World.size_alloc, s1]
  have s3 : (((w.alloc o0).alloc o1).alloc o2).heap.size = w.heap.size + 1 + 1 + 1 := by rw [World.size_alloc, s2]
  have s4 : ((((w.alloc o0).alloc o1).alloc o2).alloc o3).heap.size = w.heap.size + 1 + 1 + 1 + 1 := by rw [World.size_alloc, s3]
  refine ⟨(((((Ux.Touch.refl (fun _ => False) (w.alloc o0)).alloc o1).alloc o2).alloc o3).alloc o4).heap (heap_alloc_new w o0) (fun f => f), ?_, ?_, ?_, ?_⟩
  · rw [← s1]; exact ((((Ux.Touch.refl (fun _ => False) _).alloc o2).alloc o3).alloc o4).heap (heap_alloc_new _ o1) (fun f => f)
  · rw [← s2]; exact (((Ux.Touch.refl (fun _ => False) _).alloc o3).alloc o4).heap (heap_alloc_new _ o2) (fun f => f)
  · rw [← s3]; exact ((Ux.Touch.refl (fun _ => False) _).alloc o4).heap (heap_alloc_new _ o3) (fun f => f)
  · rw [← s4]; exact heap_alloc_new _ o4

theorem put_done {w W : World} {tb fan : Nat} {l : List (ByteArray × Int)} {t : T} {d x : Nat} {fp : List Nat} {k : ByteArray} {v : Int} (HT : TreeAt w tb fan l t d x fp) {t' : T} {d' x' : Nat} {fp' : List Nat}
    (hc : W.heap[tb]? = some (.cells #[.int .i64 fan, .int .i64 (ins k v l).length, .pointer (some ⟨x', 0, none⟩)] 64 (0, 0))) (hn : NodeAt W t' x' fp') (hnd : fp'.Nodup) (hoff : tb ∉ fp') (hg : Ux.Good fan d' t') (hfl : flat t' = ins k v l)
    (hs : t'.size ≤ fan) (hr : d' = 0 ∨ 2 ≤ t'.size) (hsub : ∀ b ∈ fp', b ∈ fp ∨ w.heap.size ≤ b) (TT : Ux.Touch (fun b => b ∈ fp ∨ b = tb) w W) :
    PutDone w tb fan l k v fp (.returned (.bool (!has (keys l) k))) W :=
  ⟨rfl, ⟨t', d', x', fp', ⟨hc, hn, hnd, hoff, hg, Ux.up_ins HT.up, hfl, hs, hr, HT.fan4, HT.fan64⟩, hsub⟩, TT⟩

theorem root_good {fan d : Nat} {t : T} (hf : 4 ≤ fan) (hg : Ux.Good fan d t) (hu : Up (flat t)) (h1 : fan < t.size) (h2 : t.size ≤ 2 * fan) :
    Ux.Good fan (d + 1) (.node [halfK t] [half1 t, half2 t]) ∧ flat (.node [halfK t] [half1 t, half2 t]) = flat t := by
  obtain ⟨g1, g2, he, l1, l2, z1, z2⟩ := Ux.half_good hf hg hu h1 h2
  refine ⟨⟨_, _, rfl, rfl, ?_, ?_⟩, ?_⟩
  · intro i s j c hs hc
    have hi : i = 0 := by
      rcases i with _ | i
      · rfl
      · simp at hs
    subst hi
    simp at hs
    subst hs
    rcases j with _ | _ | j
    · simp at hc; subst hc; exact ⟨fun _ => l1, fun h => by omega⟩
    · simp at hc; subst hc; exact ⟨fun h => by omega, fun _ => l2⟩
    · simp at hc
  · intro c hc
    simp at hc
    rcases hc with rfl | rfl
    · exact ⟨g1, z1⟩
    · exact ⟨g2, z2⟩
  · rw [he]; simp [flat, flats]

theorem root_world (w3 : World) (x y : Nat) (mid : ByteArray) : let W := ((w3.alloc (.cells #[.string mid] 9)).alloc (.cells #[.pointer (some ⟨x, 0, none⟩), .pointer (some ⟨y, 0, none⟩)] 59)).alloc (.cells #[.slice (some ⟨w3.heap.size, 0, none⟩) 1 1, .slice none 0 0, .slice (some ⟨w3.heap.size + 1, 0, none⟩) 2 2] 62)
    Ux.Touch (fun _ => False) w3 W ∧ W.heap[w3.heap.size]? = some (.cells #[.string mid] 9 (0, 0)) ∧ W.heap[w3.heap.size + 1]? = some (.cells #[.pointer (some ⟨x, 0, none⟩), .pointer (some ⟨y, 0, none⟩)] 59 (0, 0)) ∧
    W.heap[w3.heap.size + 1 + 1]? = some (.cells #[.slice (some ⟨w3.heap.size, 0, none⟩) 1 1, .slice none 0 0, .slice (some ⟨w3.heap.size + 1, 0, none⟩) 2 2] 62 (0, 0)) := by
  intro W
  have s1 : (w3.alloc (.cells #[.string mid] 9)).heap.size = w3.heap.size + 1 := World.size_alloc ..
  have s2 : ((w3.alloc (.cells #[.string mid] 9)).alloc (.cells #[.pointer (some ⟨x, 0, none⟩), .pointer (some ⟨y, 0, none⟩)] 59)).heap.size = w3.heap.size + 1 + 1 := by rw [World.size_alloc, s1]
  refine ⟨(((Ux.Touch.refl _ w3).alloc _).alloc _).alloc _, (((Ux.Touch.refl (fun _ => False) _).alloc _).alloc _).heap (heap_alloc_new w3 _) (fun f => f), ?_, ?_⟩
  · rw [← s1]; exact ((Ux.Touch.refl (fun _ => False) _).alloc _).heap (heap_alloc_new _ _) (fun f => f)
  · rw [← s2]; exact heap_alloc_new _ _

theorem put_big_end {w w2 w3 W4 W : World} {tb fan : Nat} {l : List (ByteArray × Int)} {t t' : T} {d x y : Nat} {fp fp' f1 f2 : List Nat} {k : ByteArray} {v : Int} (HT : TreeAt w tb fan l t d x fp) (hbig : fan < t'.size)
    (htl : tb < w.heap.size)
    (H2 : NodeAt w2 t' x fp' ∧ fp'.Nodup ∧ (∀ b ∈ fp', b ∈ fp ∨ w.heap.size ≤ b) ∧ Ux.Touch (fun b => b ∈ fp ∨ b = tb) w w2 ∧ w2.heap[tb]? = some (.cells #[.int .i64 fan, .int .i64 l.length, .pointer (some ⟨x, 0, none⟩)] 64 (0, 0)) ∧ tb ∉ fp')
    (HPG : Ux.Good fan d t' ∧ flat t' = ins k v l ∧ t.size ≤ t'.size ∧ t'.size ≤ t.size + 1)
    (H3 : NodeAt w3 (half1 t') x f1 ∧ NodeAt w3 (half2 t') y f2 ∧ (f1 ++ f2).Nodup ∧ (∀ b ∈ f1, b ∈ fp') ∧ (∀ b ∈ f2, b ∈ fp' ∨ w2.drew.heap.size ≤ b) ∧ Ux.Touch (fun b => b ∈ fp') w2.drew w3)
    (H4 : Ux.Touch (fun _ => False) w3 W4 ∧ W4.heap[w3.heap.size]? = some (.cells #[.string (halfK t')] 9 (0, 0)) ∧ W4.heap[w3.heap.size + 1]? = some (.cells #[.pointer (some ⟨x, 0, none⟩), .pointer (some ⟨y, 0, none⟩)] 59 (0, 0)) ∧
      W4.heap[w3.heap.size + 1 + 1]? = some (.cells #[.slice (some ⟨w3.heap.size, 0, none⟩) 1 1, .slice none 0 0, .slice (some ⟨w3.heap.size + 1, 0, none⟩) 2 2] 62 (0, 0)) ∧ W4.heap[tb]? = some (.cells #[.int .i64 fan, .int .i64 l.length, .pointer (some ⟨x, 0, none⟩)] 64 (0, 0)))
    (TX : Ux.Touch (fun b => b = tb) W4 W) (hW : W.heap[tb]? = some (.cells #[.int .i64 fan, .int .i64 (ins k v l).length, .pointer (some ⟨w3.heap.size + 1 + 1, 0, none⟩)] 64 (0, 0))) :
    PutDone w tb fan l k v fp (.returned (.bool (!has (keys l) k))) W := by
  obtain ⟨n', nd', sub, TW2, htb2, hoff'⟩ := H2
  obtain ⟨hn1, hn2, hnd2, hf1, hf2, T3⟩ := H3
  obtain ⟨T4, q1, q2, q3, htb4⟩ := H4
  have hf4 := HT.fan4
  have hup : Up (flat t') := by rw [HPG.2.1]; exact Ux.up_ins HT.up
  have hst := HT.size
  have rg := root_good hf4 HPG.1 hup hbig (by omega)
  have w23 : w2.heap.size ≤ w3.heap.size := T3.size
  have hw2 := TW2.size
  have htl3 : tb < w3.heap.size := by omega
  have sub12 : ∀ b ∈ f1 ++ f2, (b ∈ fp ∨ w.heap.size ≤ b) ∧ b ≠ tb ∧ b < w3.heap.size := fun b hb => by
    rcases List.mem_append.1 hb with h | h
    · exact ⟨sub b (hf1 b h), fun e => hoff' (e ▸ hf1 b h), NodeAt.lt hn1 b h⟩
    · refine ⟨?_, ?_, NodeAt.lt hn2 b h⟩
      · rcases hf2 b h with h' | h'
        · exact sub b h'
        · have h'' : w2.heap.size ≤ b := h'
          right; omega
      · rcases hf2 b h with h' | h'
        · exact fun e => hoff' (e ▸ h')
        · have h'' : w2.heap.size ≤ b := h'
          omega
  have TT : Ux.Touch (fun b => b ∈ fp ∨ b = tb) w W := ((TW2.drew.trans T3 (fun b hb h => (sub b h).elim .inl (fun h => by omega))).trans T4 (fun _ _ f => f.elim)).trans TX (fun _ _ h => .inr h)
  refine put_done HT (t' := .node [halfK t'] [half1 t', half2 t']) (d' := d + 1) (x' := w3.heap.size + 1 + 1) (fp' := (w3.heap.size + 1 + 1) :: ([w3.heap.size] ++ [w3.heap.size + 1] ++ (f1 ++ (f2 ++ [])))) hW ?_ ?_ ?_ rg.1 (rg.2.trans HPG.2.1) (by simp [T.size]; omega) (.inr (by simp [T.size])) ?_ TT
  · refine ⟨.slice (some ⟨w3.heap.size, 0, none⟩) 1 1, .slice (some ⟨w3.heap.size + 1, 0, none⟩) 2 2, [x, y], f1 ++ (f2 ++ []), TX.heap q3 (by omega), ?_, ?_, ?_, rfl⟩
    · exact ⟨rfl, .inr ⟨_, 1, _, rfl, Nat.zero_le _, TX.heap q1 (by omega), Nat.le_refl _, by simp [maxLen], rfl, rfl⟩⟩
    · exact ⟨rfl, .inr ⟨_, 2, _, rfl, Nat.zero_le _, TX.heap q2 (by omega), Nat.le_refl _, by simp [maxLen], rfl, rfl⟩⟩
    · exact ⟨x, [y], f1, f2 ++ [], rfl, rfl, (hn1.touch T4 (fun _ _ f => f)).touch TX (fun b hb => (sub12 b (by simp [hb])).2.1), y, [], f2, [], rfl, rfl, (hn2.touch T4 (fun _ _ f => f)).touch TX (fun b hb => (sub12 b (by simp [hb])).2.1), rfl, rfl⟩
  · simp only [List.append_nil, List.cons_append, List.nil_append, List.nodup_cons, List.mem_cons, not_or]
    exact ⟨⟨by omega, by omega, fun h => by have := (sub12 _ h).2.2; omega⟩, ⟨by omega, fun h => by have := (sub12 _ h).2.2; omega⟩, fun h => by have := (sub12 _ h).2.2; omega, hnd2⟩
  · intro h
    simp only [List.append_nil, List.cons_append, List.nil_append, List.mem_cons] at h
    rcases h with h | h | h | h
    · omega
    · omega
    · omega
    · exact (sub12 tb h).2.1 rfl
  · intro b h
    simp only [List.append_nil, List.cons_append, List.nil_append, List.mem_cons] at h
    rcases h with h | h | h | h
    · right; omega
    · right; omega
    · right; omega
    · exact (sub12 b h).1

set_option maxHeartbeats 2000000 in
set_option maxRecDepth 100000 in
theorem put10 (w : World) (tb fan : Nat) (l : List (ByteArray × Int)) (t : T) (d x : Nat) (fp : List Nat) (k : ByteArray) (v : Int) (h : TreeAt w tb fan l t d x fp) (hb : l.length ≤ 1048576) :
    Calls Try.prog 10 #[.pointer (some ⟨tb, 0, none⟩), .string k, .int .i64 v] w (PutDone w tb fan l k v fp) := by
  have HT := Lib.hid h
  clear h
  have HB := Lib.hid hb
  clear hb
  obtain ⟨W0, hW0⟩ : ∃ W0, (((((w.alloc (.cells #[.pointer (some ⟨tb, 0, none⟩)] 23)).alloc (.cells #[.string k] 9)).alloc (.cells #[.int .i64 v] 3)).alloc (.cells #[.bool false] 4)).alloc (.cells #[.nilFunc] 65)) = W0 := ⟨_, rfl⟩
  have F := five w (.cells #[.pointer (some ⟨tb, 0, none⟩)] 23) (.cells #[.string k] 9) (.cells #[.int .i64 v] 3) (.cells #[.bool false] 4) (.cells #[.nilFunc] 65)
  simp only [] at F
  rw [hW0] at F
  have T0 : Ux.Touch (fun _ => False) w W0 := by rw [← hW0]; exact (((((Ux.Touch.refl _ w).alloc _).alloc _).alloc _).alloc _).alloc _
  have c4 : W0.cell? ⟨w.heap.size + 1 + 1 + 1 + 1, 0, none⟩ = some .nilFunc := by rw [cell_of_row W0 _ 0 _ 65 (0, 0) F.2.2.2.2]; rfl
  have f4 : W0.frozen? ⟨w.heap.size + 1 + 1 + 1 + 1, 0, none⟩ = false := frozen_of_row W0 _ 0 _ 65 F.2.2.2.2
  have HF := Lib.hid F
  clear F
  go_enter Try.func10, Try.ntmps10
  go_wp2_with fail
  obtain ⟨W1, hW1⟩ : ∃ W1, W0.setCell ⟨w.heap.size + 1 + 1 + 1 + 1, 0, none⟩ (.func (.func 29) #[] #[.pointer (some ⟨w.heap.size + 1, 0, none⟩), .pointer (some ⟨w.heap.size + 1 + 1, 0, none⟩), .pointer (some ⟨w.heap.size + 1 + 1 + 1, 0, none⟩), .pointer (some ⟨w.heap.size + 1 + 1 + 1 + 1, 0, none⟩), .pointer (some ⟨w.heap.size, 0, none⟩)]) = W1 := ⟨_, rfl⟩
  rw [hW1]
  have T1 : Ux.Touch (fun b => b = w.heap.size + 1 + 1 + 1 + 1) W0 W1 := by rw [← hW1]; exact (Ux.Touch.refl (fun b => b = w.heap.size + 1 + 1 + 1 + 1) W0).setCell (p := ⟨w.heap.size + 1 + 1 + 1 + 1, 0, none⟩) (fun _ => rfl) _
  have hput : W1.heap[w.heap.size + 1 + 1 + 1 + 1]? = some (.cells #[.func (.func 29) #[] #[.pointer (some ⟨w.heap.size + 1, 0, none⟩), .pointer (some ⟨w.heap.size + 1 + 1, 0, none⟩), .pointer (some ⟨w.heap.size + 1 + 1 + 1, 0, none⟩), .pointer (some ⟨w.heap.size + 1 + 1 + 1 + 1, 0, none⟩), .pointer (some ⟨w.heap.size, 0, none⟩)]] 65 (0, 0)) := by
    rw [← hW1]
    have := heap_setCell_same W0 (w.heap.size + 1 + 1 + 1 + 1) 0 _ 65 (.func (.func 29) #[] #[.pointer (some ⟨w.heap.size + 1, 0, none⟩), .pointer (some ⟨w.heap.size + 1 + 1, 0, none⟩), .pointer (some ⟨w.heap.size + 1 + 1 + 1, 0, none⟩), .pointer (some ⟨w.heap.size + 1 + 1 + 1 + 1, 0, none⟩), .pointer (some ⟨w.heap.size, 0, none⟩)]) HF.out.2.2.2.2
    simpa using this
  have TW1 : Ux.Touch (fun _ => False) w W1 := T0.trans T1 (fun b hb h => by omega)
  have htb := TW1.heap HT.out.cell (fun f => f)
  have hlt := NodeAt.lt HT.out.node
  have htl := Ux.lt_of_heap HT.out.cell
  have hbox := T1.heap HF.out.1 (by omega)
  have hfr := T1.heap HF.out.2.2.2.1 (by omega)
  have env : PutEnv W1.drew (w.heap.size + 1) (w.heap.size + 1 + 1) (w.heap.size + 1 + 1 + 1) (w.heap.size + 1 + 1 + 1 + 1) w.heap.size tb k v fan :=
    ⟨T1.heap HF.out.2.1 (by omega), T1.heap HF.out.2.2.1 (by omega), hput, hbox, ⟨_, _, htb⟩, by omega⟩
  have off : PutOff (w.heap.size + 1) (w.heap.size + 1 + 1) (w.heap.size + 1 + 1 + 1) (w.heap.size + 1 + 1 + 1 + 1) w.heap.size tb fp :=
    ⟨fun h => by have := hlt _ h; omega, fun h => by have := hlt _ h; omega, fun h => by have := hlt _ h; omega, fun h => by have := hlt _ h; omega, fun h => by have := hlt _ h; omega, HT.out.off⟩
  have call := put29 HT.out.fan4 HT.out.fan64 k v d t x fp W1.drew _ _ _ _ _ tb env hfr ((HT.out.node.touch TW1 (fun _ _ f => f)).touch (Ux.Touch.refl (fun _ => False) W1).drew (fun _ _ f => f)) HT.out.nodup HT.out.good (HT.out.is ▸ HT.out.up) HT.out.size off
  have cbox : W1.cell? ⟨w.heap.size, 0, none⟩ = some (.pointer (some ⟨tb, 0, none⟩)) := by rw [cell_of_row W1 _ 0 _ 23 (0, 0) hbox]; rfl
  have cput := cell_of_row W1 (w.heap.size + 1 + 1 + 1 + 1) 0 _ 65 (0, 0) hput
  have croot : W1.cell? ⟨tb, 2, none⟩ = some (.pointer (some ⟨x, 0, none⟩)) := by rw [cell_of_row W1 tb 2 _ 64 (0, 0) htb]; rfl
  simp only [List.getElem?_toArray, List.getElem?_cons_zero] at cput
  have CALL := Lib.hid call
  have HPUT := Lib.hid hput
  have HH := Lib.hid (And.intro TW1 (And.intro htb (And.intro hbox (And.intro hlt htl))))
  clear env off call hbox hfr htb hput hlt htl T1 TW1 hW1 hW0 c4 f4 T0 HF
  refine Ux.wp_region_plan (fun _ w' => w'.cell? ⟨w.heap.size, 0, none⟩ = some (.pointer (some ⟨tb, 0, none⟩)) ∧ w'.cell? ⟨w.heap.size + 1 + 1 + 1 + 1, 0, none⟩ = some (.func (.func 29) #[] #[.pointer (some ⟨w.heap.size + 1, 0, none⟩), .pointer (some ⟨w.heap.size + 1 + 1, 0, none⟩), .pointer (some ⟨w.heap.size + 1 + 1 + 1, 0, none⟩), .pointer (some ⟨w.heap.size + 1 + 1 + 1 + 1, 0, none⟩), .pointer (some ⟨w.heap.size, 0, none⟩)]) ∧ w'.cell? ⟨tb, 2, none⟩ = some (.pointer (some ⟨x, 0, none⟩))) (.h false [0, 1] (.q [2, 3] (.h false [4] (.e 5 true false (.line [])))))
    (by kernel_rfl) (by kernel_rfl) (by intro _ _ d _ _ h; cases d <;> exact h) ?hS ?_
  case hS => (intro c; cases c <;> (simp only [World.cell?_drew]; first | exact True.intro | (refine ⟨?_, ?_⟩ <;> assumption) | assumption | (repeat (first | assumption | (refine And.intro ?_ ?_)))))
  simp only [Ux.wpPlan, Ux.pickOps, Ux.keeps, List.getElem?_toArray, List.getElem?_cons_succ, List.getElem?_cons_zero]
  repeat (first
    | go_big_quiet_step (fail)
    | (with_reducible refine wpQuiet_nil ?_)
    | (refine Ux.quiet_held rfl ?_; apply Exists.intro; refine ⟨fun w' hS => ?_, ?_⟩; (focus ((try dsimp only at hS); go_simp; first | done | with_reducible rfl)); simp only [Act.put, List.setIfInBounds_toArray, List.set_cons_zero, List.set_cons_succ]))
  go_wp2_with fail
  refine CALL.out.mono ?_
  obtain ⟨t', ht'⟩ : ∃ t', putT fan k v d t = t' := ⟨_, rfl⟩
  rw [ht']
  rintro e w2 ⟨fp', rfl, n', nd', sub', T2, hf2⟩
  have nofr : ∀ b, b < w.heap.size → b ∉ fp → ¬ (b ∈ fp ∨ b = w.heap.size + 1 + 1 + 1) := fun b hb hn h => h.elim hn (fun e => by omega)
  have htb2 := T2.heap HH.out.2.1 (nofr tb HH.out.2.2.2.2 HT.out.off)
  have hbox2 := T2.heap HH.out.2.2.1 (fun h => h.elim (fun h => by have := HH.out.2.2.2.1 _ h; omega) (fun e => by omega))
  have d0 : w2.cell? ⟨tb, 0, none⟩ = some (.int .i64 fan) := by rw [cell_of_row w2 tb 0 _ 64 (0, 0) htb2]; rfl
  have d1 : w2.cell? ⟨tb, 1, none⟩ = some (.int .i64 l.length) := by rw [cell_of_row w2 tb 1 _ 64 (0, 0) htb2]; rfl
  have d2 : w2.cell? ⟨tb, 2, none⟩ = some (.pointer (some ⟨x, 0, none⟩)) := by rw [cell_of_row w2 tb 2 _ 64 (0, 0) htb2]; rfl
  have fr : ∀ i, w2.frozen? ⟨tb, i, none⟩ = false := fun i => frozen_of_row w2 tb i _ 64 htb2
  have db : w2.cell? ⟨w.heap.size, 0, none⟩ = some (.pointer (some ⟨tb, 0, none⟩)) := by rw [cell_of_row w2 _ 0 _ 23 (0, 0) hbox2]; rfl
  have dput := cell_of_row w2 (w.heap.size + 1 + 1 + 1 + 1) 0 _ 65 (0, 0) (T2.heap HPUT.out (fun h => h.elim (fun h => by have := HH.out.2.2.2.1 _ h; omega) (fun e => by omega)))
  simp only [List.getElem?_toArray, List.getElem?_cons_zero] at dput
  rw [HT.out.is] at hf2
  have TW2 : Ux.Touch (fun b => b ∈ fp ∨ b = tb) w w2 := (HH.out.1.drew.mono (fun _ _ f => f.elim) : Ux.Touch (fun b => b ∈ fp ∨ b = tb) w W1.drew).trans T2 (fun b hb h => h.elim .inl (fun e => by omega))
  have sub : ∀ b ∈ fp', b ∈ fp ∨ w.heap.size ≤ b := fun b hb => (sub' b hb).imp id (fun h => Nat.le_trans HH.out.1.size h)
  have hsz5 := Ux.lt_of_heap HPUT.out
  have sub5 : ∀ b ∈ fp', b ∈ fp ∨ w.heap.size + 5 ≤ b := fun b hb => (sub' b hb).imp id (fun h => by have h' : W1.heap.size ≤ b := h; omega)
  have HS5 := Lib.hid (And.intro sub5 HH.out.2.2.2.1)
  clear sub5 hsz5
  have pg := Ux.put_good HT.out.fan4 k v HT.out.good (HT.out.is ▸ HT.out.up)
  rw [ht', HT.out.is] at pg
  have SZ := size34 w2.drew (n'.touch (Ux.Touch.refl (fun _ => False) w2).drew (fun _ _ f => f)) (Ux.Good.shp pg.1)
  have hoff' : tb ∉ fp' := fun h => (sub tb h).elim HT.out.off (fun h => by have := HH.out.2.2.2.2; omega)
  have HSZ := Lib.hid SZ
  have HPG := Lib.hid pg
  have H2 := Lib.hid (And.intro n' (And.intro nd' (And.intro sub (And.intro TW2 (And.intro htb2 hoff')))))
  have HLT := Lib.hid (And.intro HH.out.2.2.2.1 HH.out.2.2.2.2)
  have jl : (l.length : Int) ≤ 1048576 := by have := HB.out; omega
  have hh : ∃ f, has (keys l) k = f := ⟨_, rfl⟩
  obtain ⟨f, hf⟩ := hh
  rw [hf] at hf2
  have df : w2.cell? ⟨w.heap.size + 1 + 1 + 1, 0, none⟩ = some (.bool (!f)) := by rw [cell_of_row w2 _ 0 _ 4 (0, 0) hf2]; rfl
  have HF := Lib.hid hf
  clear n' nd' sub' T2 hf2 htb2 hbox2 TW2 sub pg SZ hoff' hf nofr CALL cput cbox croot HH
  go_wp2_with fail
  refine ⟨⟨db, dput, d2⟩, ?_⟩
  clear dput
  go_wp2_with fail
  refine Ux.wp_region_plan (fun _ w' => w'.cell? ⟨w.heap.size, 0, none⟩ = some (.pointer (some ⟨tb, 0, none⟩)) ∧ w'.cell? ⟨tb, 2, none⟩ = some (.pointer (some ⟨x, 0, none⟩)) ∧ w'.cell? ⟨tb, 0, none⟩ = some (.int .i64 fan)) (.h false [0, 5] (.q [1, 2, 6, 7] (.h false [3, 8] (.e 4 true false (.q [9] (.line []))))))
    (by kernel_rfl) (by kernel_rfl) (by intro _ _ d _ _ h; cases d <;> exact h) ?hS ?_
  case hS => (intro c; cases c <;> (simp only [World.cell?_drew]; first | exact True.intro | (refine ⟨?_, ?_⟩ <;> assumption) | assumption | (repeat (first | assumption | (refine And.intro ?_ ?_)))))
  simp only [Ux.wpPlan, Ux.pickOps, Ux.keeps, List.getElem?_toArray, List.getElem?_cons_succ, List.getElem?_cons_zero]
  repeat (first
    | go_big_quiet_step (fail)
    | (with_reducible refine wpQuiet_nil ?_)
    | (refine Ux.quiet_held rfl ?_; apply Exists.intro; refine ⟨fun w' hS => ?_, ?_⟩; (focus ((try dsimp only at hS); go_simp; first | done | with_reducible rfl)); simp only [Act.put, List.setIfInBounds_toArray, List.set_cons_zero, List.set_cons_succ]))
  go_wp2_with (go_at_call 34; refine HSZ.out.mono ?_; rintro e w3 ⟨rfl, rfl⟩)
  refine ⟨⟨db, d2, d0⟩, ?_⟩
  repeat (first
    | go_big_quiet_step (fail)
    | (with_reducible refine wpQuiet_nil ?_)
    | (refine Ux.quiet_held rfl ?_; apply Exists.intro; refine ⟨fun w' hS => ?_, ?_⟩; (focus ((try dsimp only at hS); go_simp; first | done | with_reducible rfl)); simp only [Act.put, List.setIfInBounds_toArray, List.set_cons_zero, List.set_cons_succ]))
  by_cases hbig : fan < t'.size
  · have HALF := half35 t' x fp' w2.drew (H2.out.1.touch (Ux.Touch.refl (fun _ => False) w2).drew (fun _ _ f => f)) (Ux.Good.shp HPG.out.1) H2.out.2.1 (by have := HT.out.fan4; omega) (by have := HPG.out.2.2.2; have := HT.out.size; have := HT.out.fan64; omega)
    have HH := Lib.hid HALF
    clear HALF
    have nb : w.heap.size ∉ fp' := fun h => (HS5.out.1 _ h).elim (fun h => by have := HS5.out.2 _ h; omega) (fun h => by omega)
    have nf : w.heap.size + 1 + 1 + 1 ∉ fp' := fun h => (HS5.out.1 _ h).elim (fun h => by have := HS5.out.2 _ h; omega) (fun h => by omega)
    have HNB := Lib.hid (And.intro nb nf)
    clear nb nf
    cases f
    all_goals
      go_wp2_with (go_at_call 35; fail)
      refine HH.out.mono ?_
      rintro e w3 ⟨y, f1, f2, rfl, hn1, hn2, hnd2, hf1', hf2', T3⟩
      simp only [ptr]
      have htb3 := T3.heap H2.out.2.2.2.2.1 H2.out.2.2.2.2.2
      obtain ⟨T4, q1, q2, q3⟩ := root_world w3 x y (halfK t')
      obtain ⟨W4, hW4⟩ : ∃ W4, ((w3.alloc (.cells #[.string (halfK t')] 9)).alloc (.cells #[.pointer (some ⟨x, 0, none⟩), .pointer (some ⟨y, 0, none⟩)] 59)).alloc (.cells #[.slice (some ⟨w3.heap.size, 0, none⟩) 1 1, .slice none 0 0, .slice (some ⟨w3.heap.size + 1, 0, none⟩) 2 2] 62) = W4 := ⟨_, rfl⟩
      rw [hW4] at T4 q1 q2 q3
      have htb4 := T4.heap htb3 (fun f => f)
      have eb : w3.cell? ⟨w.heap.size, 0, none⟩ = some (.pointer (some ⟨tb, 0, none⟩)) := T3.cell db HNB.out.1
      have gb := T4.cell eb (fun f => f)
      have gf := T4.cell (T3.cell (a := ⟨w.heap.size + 1 + 1 + 1, 0, none⟩) df HNB.out.2) (fun f => f)
      have g1 : W4.cell? ⟨tb, 1, none⟩ = some (.int .i64 l.length) := T4.cell (T3.cell d1 H2.out.2.2.2.2.2) (fun f => f)
      have g2 : W4.cell? ⟨tb, 2, none⟩ = some (.pointer (some ⟨x, 0, none⟩)) := T4.cell (T3.cell d2 H2.out.2.2.2.2.2) (fun f => f)
      have er : ∀ i, W4.frozen? ⟨tb, i, none⟩ = false := fun i => frozen_of_row W4 tb i _ 64 htb4
      have m1 : ¬ w.heap.size = tb := by have := HLT.out.2; omega
      have m2 : ¬ w.heap.size + 1 + 1 + 1 = tb := by have := HLT.out.2; omega
      have m3 : ¬ tb = w.heap.size := by have := HLT.out.2; omega
      have m4 : ¬ tb = w.heap.size + 1 + 1 + 1 := by have := HLT.out.2; omega
      have H3 := Lib.hid (And.intro hn1 (And.intro hn2 (And.intro hnd2 (And.intro hf1' (And.intro hf2' T3)))))
      have H4 := Lib.hid (And.intro T4 (And.intro q1 (And.intro q2 (And.intro q3 htb4))))
      clear T4 q1 q2 q3 htb4
      clear hn1 hn2 hnd2 hf1' hf2' T3 htb3
      go_wp2
      go_returns
      have key := fun W => put_big_end (k := k) (v := v) (W := W) HT.out hbig HLT.out.2 H2.out HPG.out H3.out H4.out
      rw [HF.out] at key
      first
        | (have hl := Ux.ins_len_not (v := v) HF.out
           rw [hl] at key
           refine key _ ?_ ?_
           · exact (((Ux.Touch.refl (fun b => b = tb) W4).setCell (p := ⟨tb, 2, none⟩) (fun _ => rfl) _).setCell (p := ⟨tb, 1, none⟩) (fun _ => rfl) _)
           · have a := heap_setCell_same W4 tb 2 _ 64 (.pointer (some ⟨w3.heap.size + 1 + 1, 0, none⟩)) H4.out.2.2.2.2
             have b := heap_setCell_same _ tb 1 _ 64 (.int .i64 (l.length + 1 : Int)) a
             simpa using b)
        | (have hl := Ux.ins_len_has (v := v) HF.out
           rw [hl] at key
           refine key _ ?_ ?_
           · exact ((Ux.Touch.refl (fun b => b = tb) W4).setCell (p := ⟨tb, 2, none⟩) (fun _ => rfl) _)
           · have a := heap_setCell_same W4 tb 2 _ 64 (.pointer (some ⟨w3.heap.size + 1 + 1, 0, none⟩)) H4.out.2.2.2.2
             simpa using a)
  · have hsm : t'.size ≤ fan := by omega
    have hroot : d = 0 ∨ 2 ≤ t'.size := HT.out.root.imp id (fun h => Nat.le_trans h HPG.out.2.2.1)
    obtain ⟨n', nd', sub, TW2, htb2, hoff'⟩ := H2.out
    cases f
    · go_wp2
      go_returns
      have key : ∀ W, Ux.Touch (fun b => b = tb) w2 W → W.heap[tb]? = some (.cells #[.int .i64 fan, .int .i64 (l.length + 1 : Int), .pointer (some ⟨x, 0, none⟩)] 64 (0, 0)) → PutDone w tb fan l k v fp (.returned (.bool true)) W := fun W TX hW => by
        have := put_done (k := k) (v := v) HT.out (W := W) (t' := t') (d' := d) (x' := x) (fp' := fp') (by rw [Ux.ins_len_not HF.out]; simpa using hW) (n'.touch TX (fun b hb e => hoff' (e ▸ hb))) nd' hoff' HPG.out.1 HPG.out.2.1 hsm hroot sub (TW2.trans TX (fun b _ h => .inr h))
        rw [HF.out] at this
        exact this
      refine key _ ?_ ?_
      · exact ((Ux.Touch.refl (fun b => b = tb) w2).setCell (p := ⟨tb, 1, none⟩) (fun _ => rfl) _).drew
      · have a := heap_setCell_same w2 tb 1 _ 64 (.int .i64 (l.length + 1 : Int)) htb2
        have b : (w2.setCell ⟨tb, 1, none⟩ (.int .i64 (l.length + 1 : Int))).heap[tb]? = some (.cells #[.int .i64 fan, .int .i64 (l.length + 1 : Int), .pointer (some ⟨x, 0, none⟩)] 64 (0, 0)) := by simpa using a
        exact b
    · go_wp2
      go_returns
      have this := put_done (k := k) (v := v) HT.out (W := w2.drew) (t' := t') (d' := d) (x' := x) (fp' := fp') (by rw [Ux.ins_len_has HF.out]; exact htb2) (n'.touch (Ux.Touch.refl (fun _ => False) w2).drew (fun _ _ f => f)) nd' hoff' HPG.out.1 HPG.out.2.1 hsm hroot sub TW2.drew
      rw [HF.out] at this
      exact this

end Go.Proofs.Ytdfgpminonpeaaa
