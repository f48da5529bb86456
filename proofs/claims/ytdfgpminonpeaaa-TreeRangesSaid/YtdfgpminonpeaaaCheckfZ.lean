/- PART OF THE PROOF THAT THIS CLAIM HOLDS OF THE GIVEN PROGRAM, FOR EVERY INPUT THAT THE STATEMENT NAMES. No condition besides the statement's own. -/
import Derived.Test.YtdfgpminonpeaaaChecknZ
import Derived.Test.YtdfgpminonpeaaaRows
import Derived.WalkKit
import Derived.Handy
import Derived.Laws.EntriesVeiled
import Derived.WalkSpells
import Derived.WalkLawsBesides
import Derived.BigQuiet
import Derived.Deep.QuietTactic
import Derived.Deep.Cut
import Derived.Lib.Overlaps
import Derived.Laws.Externs
import Derived.Lib.Hide
import Derived.Test.YtdfgpminonpeaaaUxPlanAllZ
import Derived.Test.YtdfgpminonpeaaaUxTreeAllZ
import Derived.Deep.LoopGhost
namespace Go.Proofs.Ytdfgpminonpeaaa
open Go.RowKit
-- imports: YtdfgpminonpeaaaCheckn
open Ux (slt lb has Rises T NodeAt NodesAt Shp wayN blk ptr flat flats keys ins Up FrAt after Pre)

theorem seven (w : World) (o0 o1 o2 o3 o4 o5 o6 : Obj) : let W := ((((((w.alloc o0).alloc o1).alloc o2).alloc o3).alloc o4).alloc o5).alloc o6
    W.heap[w.heap.size]? = some o0 ∧ W.heap[w.heap.size + 1]? = some o1 ∧ W.heap[w.heap.size + 1 + 1]? = some o2 ∧ W.heap[w.heap.size + 1 + 1 + 1]? = some o3 ∧ W.heap[w.heap.size + 1 + 1 + 1 + 1]? = some o4 ∧ W.heap[w.heap.size + 1 + 1 + 1 + 1 + 1]? = some o5 ∧ W.heap[w.heap.size + 1 + 1 + 1 + 1 + 1 + 1]? = some o6 := by
  intro W
  have s1 : (w.alloc o0).heap.size = w.heap.size + 1 := by rw [World.size_alloc]
  have s2 : ((w.alloc o0).alloc o1).heap.size = w.heap.size + 1 + 1 := by rw [World.size_alloc, s1]
  have s3 : (((w.alloc o0).alloc o1).alloc o2).heap.size = w.heap.size + 1 + 1 + 1 := by rw [World.size_alloc, s2]
  have s4 : ((((w.alloc o0).alloc o1).alloc o2).alloc o3).heap.size = w.heap.size + 1 + 1 + 1 + 1 := by rw [World.size_alloc, s3]
  have s5 : (((((w.alloc o0).alloc o1).alloc o2).alloc o3).alloc o4).heap.size = w.heap.size + 1 + 1 + 1 + 1 + 1 := by rw [World.size_alloc, s4]
  have s6 : ((((((w.alloc o0).alloc o1).alloc o2).alloc o3).alloc o4).alloc o5).heap.size = w.heap.size + 1 + 1 + 1 + 1 + 1 + 1 := by rw [World.size_alloc, s5]
  exact ⟨((((((((Ux.Touch.refl (fun _ => False) (w.alloc o0)).alloc o1).alloc o2).alloc o3).alloc o4).alloc o5).alloc o6).heap (heap_alloc_new w o0) (fun f => f)),
    (by rw [← s1]; exact ((((((Ux.Touch.refl (fun _ => False) ((w.alloc o0).alloc o1)).alloc o2).alloc o3).alloc o4).alloc o5).alloc o6).heap (heap_alloc_new (w.alloc o0) o1) (fun f => f)),
    (by rw [← s2]; exact (((((Ux.Touch.refl (fun _ => False) (((w.alloc o0).alloc o1).alloc o2)).alloc o3).alloc o4).alloc o5).alloc o6).heap (heap_alloc_new ((w.alloc o0).alloc o1) o2) (fun f => f)),
    (by rw [← s3]; exact ((((Ux.Touch.refl (fun _ => False) ((((w.alloc o0).alloc o1).alloc o2).alloc o3)).alloc o4).alloc o5).alloc o6).heap (heap_alloc_new (((w.alloc o0).alloc o1).alloc o2) o3) (fun f => f)),
    (by rw [← s4]; exact (((Ux.Touch.refl (fun _ => False) (((((w.alloc o0).alloc o1).alloc o2).alloc o3).alloc o4)).alloc o5).alloc o6).heap (heap_alloc_new ((((w.alloc o0).alloc o1).alloc o2).alloc o3) o4) (fun f => f)),
    (by rw [← s5]; exact ((Ux.Touch.refl (fun _ => False) ((((((w.alloc o0).alloc o1).alloc o2).alloc o3).alloc o4).alloc o5)).alloc o6).heap (heap_alloc_new (((((w.alloc o0).alloc o1).alloc o2).alloc o3).alloc o4) o5) (fun f => f)),
    (by rw [← s6]; exact heap_alloc_new ((((((w.alloc o0).alloc o1).alloc o2).alloc o3).alloc o4).alloc o5) o6)⟩

set_option maxHeartbeats 4000000 in
set_option maxRecDepth 100000 in
theorem checkT {w : World} {tb fan : Nat} {l : List (ByteArray × Int)} {t : T} {d x : Nat} {fp : List Nat} (h : TreeAt w tb fan l t d x fp) (hl : l.length ≤ 1048576) :
    Calls Try.prog 22 #[.pointer (some ⟨tb, 0, none⟩)] w fun e w' => e = .returned (.int .i64 0) ∧ Ux.Touch (fun _ => False) w w' := by
  have HT := Lib.hid h
  obtain ⟨D, hD⟩ : ∃ D : Int, ((if l = [] then 0 else d + 1 : Nat) : Int) = D := ⟨_, rfl⟩
  have DP : Calls Try.prog 24 #[.pointer (some ⟨tb, 0, none⟩)] (w.alloc (.cells #[.pointer (some ⟨tb, 0, none⟩)] 23)) fun e w' => e = .returned (.int .i64 D) ∧ (w.alloc (.cells #[.pointer (some ⟨tb, 0, none⟩)] 23)) = w' := by
    rw [← hD]
    exact depthT (h.touch ((Ux.Touch.refl (fun _ => False) w).alloc _) (fun f => f) (fun _ _ f => f)) hl
  have HDP := Lib.hid DP
  have HDD := Lib.hid hD
  have HL := Lib.hid hl
  clear DP h hl hD
  go_enter Try.func22, Try.ntmps22
  go_wp2_with (go_at_call 24; refine HDP.out.mono ?_; rintro e w1 ⟨rfl, rfl⟩)
  obtain ⟨W0, hW0⟩ : ∃ W0, (((((((w.alloc (.cells #[.pointer (some ⟨tb, 0, none⟩)] 23)).alloc (.cells #[.string ⟨#[]⟩] 9)).alloc (.cells #[.bool false] 4)).alloc (.cells #[.int .i64 0] 3)).alloc (.cells #[.int .i64 D] 3)).alloc (.cells #[.bool true] 4)).alloc
      (.cells #[.func (.func 38) #[] #[.pointer (some ⟨w.heap.size, 0, none⟩), .pointer (some ⟨w.heap.size + 1 + 1 + 1 + 1 + 1, 0, none⟩), .pointer (some ⟨w.heap.size + 1 + 1 + 1 + 1, 0, none⟩), .pointer (some ⟨w.heap.size + 1 + 1, 0, none⟩), .pointer (some ⟨w.heap.size + 1, 0, none⟩), .pointer (some ⟨w.heap.size + 1 + 1 + 1, 0, none⟩), .pointer (some ⟨w.heap.size + 1 + 1 + 1 + 1 + 1 + 1, 0, none⟩)]] 79)) = W0 := ⟨_, rfl⟩
  rw [hW0]
  have F := seven w (.cells #[.pointer (some ⟨tb, 0, none⟩)] 23) (.cells #[.string ⟨#[]⟩] 9) (.cells #[.bool false] 4) (.cells #[.int .i64 0] 3) (.cells #[.int .i64 D] 3) (.cells #[.bool true] 4)
      (.cells #[.func (.func 38) #[] #[.pointer (some ⟨w.heap.size, 0, none⟩), .pointer (some ⟨w.heap.size + 1 + 1 + 1 + 1 + 1, 0, none⟩), .pointer (some ⟨w.heap.size + 1 + 1 + 1 + 1, 0, none⟩), .pointer (some ⟨w.heap.size + 1 + 1, 0, none⟩), .pointer (some ⟨w.heap.size + 1, 0, none⟩), .pointer (some ⟨w.heap.size + 1 + 1 + 1, 0, none⟩), .pointer (some ⟨w.heap.size + 1 + 1 + 1 + 1 + 1 + 1, 0, none⟩)]] 79)
  simp only [] at F
  rw [hW0] at F
  have T0 : Ux.Touch (fun _ => False) w W0 := by rw [← hW0]; exact (((((((Ux.Touch.refl _ w).alloc _).alloc _).alloc _).alloc _).alloc _).alloc _).alloc _
  have HT0 := HT.out.touch T0 (fun f => f) (fun _ _ f => f)
  have htb := Ux.lt_of_heap HT.out.cell
  obtain ⟨B, hB⟩ : ∃ B, w.heap.size = B := ⟨_, rfl⟩
  rw [hB] at F htb
  have ENV : ChkEnv W0.drew B tb (B + 1 + 1 + 1 + 1 + 1) (B + 1 + 1 + 1 + 1) (B + 1 + 1) (B + 1) (B + 1 + 1 + 1) (B + 1 + 1 + 1 + 1 + 1 + 1) fan l.length x D (false, ⟨#[]⟩) 0 :=
    ⟨F.1, HT0.cell, F.2.2.2.2.2.1, F.2.2.2.2.1, F.2.2.1, F.2.1, F.2.2.2.1, F.2.2.2.2.2.2, by omega⟩
  have hfp : ∀ b ∈ fp, b < B ∧ b ≠ tb := fun b hb => ⟨hB ▸ HT.out.node.lt b hb, fun e => HT.out.off (e ▸ hb)⟩
  have hxf := HT.out.node.mem
  have hxr : ∃ cr, W0.drew.heap[x]? = some (.cells cr 62 (0, 0)) := by
    have hn := HT0.node
    cases t with
    | leaf l' => obtain ⟨_, _, h1, _⟩ := hn; exact ⟨_, h1⟩
    | node ks cs => obtain ⟨_, _, _, _, h1, _⟩ := hn; exact ⟨_, h1⟩
  have hN := HT0.node.touch (Ux.Touch.refl (fun _ => False) W0).drew (fun _ _ f => f)
  have CALL : Calls Try.prog 38 #[.pointer (some ⟨x, 0, none⟩), .int .i64 1, .pointer (some ⟨B, 0, none⟩), .pointer (some ⟨B + 1 + 1 + 1 + 1 + 1, 0, none⟩), .pointer (some ⟨B + 1 + 1 + 1 + 1, 0, none⟩), .pointer (some ⟨B + 1 + 1, 0, none⟩), .pointer (some ⟨B + 1, 0, none⟩), .pointer (some ⟨B + 1 + 1 + 1, 0, none⟩), .pointer (some ⟨B + 1 + 1 + 1 + 1 + 1 + 1, 0, none⟩)] W0.drew
      (ChkPost W0.drew B tb (B + 1 + 1 + 1 + 1 + 1) (B + 1 + 1 + 1 + 1) (B + 1 + 1) (B + 1) (B + 1 + 1 + 1) (B + 1 + 1 + 1 + 1 + 1 + 1) fan l.length x D (false, ⟨#[]⟩) 0 l) := by
    rcases HT.out.some with ⟨e, et, ed⟩ | ⟨e, h1⟩
    · obtain ⟨cr, hcr⟩ := hxr
      subst et
      subst e
      exact chk_leaf _ _ _ _ _ _ _ _ fan _ x D 1 _ 0 [] x fp _ HT.out.fan4 HT.out.fan64 ENV hN hfp HT.out.size (.inr (.inl ⟨rfl, by have := HDD.out; simp at this; omega, rfl⟩)) (by simp [Up, Ux.Up]) (fun h => by cases h) (by omega) (by omega) cr hcr
    · have hd := HT.out.deep HL.out
      have hDD := HDD.out
      rw [if_neg e] at hDD
      have := chk38 B tb (B + 1 + 1 + 1 + 1 + 1) (B + 1 + 1 + 1 + 1) (B + 1 + 1) (B + 1) (B + 1 + 1 + 1) (B + 1 + 1 + 1 + 1 + 1 + 1) fan l.length x D HT.out.fan4 HT.out.fan64 (by omega) (hfp x hxf).1 d 1 (false, ⟨#[]⟩) 0 t x fp _ ENV hN hfp HT.out.good HT.out.size HT.out.root (.inl rfl) (by omega) (by omega) (by rw [HT.out.is]; exact HT.out.up) (fun h => by cases h) (by omega) (by rw [HT.out.is]; have := HL.out; omega) hxr
      rw [HT.out.is] at this
      exact this
  rw [hB]
  have cbt : W0.cell? ⟨B, 0, none⟩ = some (.pointer (some ⟨tb, 0, none⟩)) := ENV.cells.1
  have cck : W0.cell? ⟨B + 1 + 1 + 1 + 1 + 1 + 1, 0, none⟩ = some (.func (.func 38) #[] #[.pointer (some ⟨B, 0, none⟩), .pointer (some ⟨B + 1 + 1 + 1 + 1 + 1, 0, none⟩), .pointer (some ⟨B + 1 + 1 + 1 + 1, 0, none⟩), .pointer (some ⟨B + 1 + 1, 0, none⟩), .pointer (some ⟨B + 1, 0, none⟩), .pointer (some ⟨B + 1 + 1 + 1, 0, none⟩), .pointer (some ⟨B + 1 + 1 + 1 + 1 + 1 + 1, 0, none⟩)]) := by
    rw [cell_of_row W0 _ 0 _ 79 (0, 0) F.2.2.2.2.2.2]; rfl
  have crt := HT0.cells.2.2
  have HCALL := Lib.hid CALL
  have H0 := Lib.hid (And.intro T0 (And.intro htb hB))
  clear CALL ENV hfp hxf hxr hN HT0 T0 F hW0 htb hB HDP
  refine Ux.wp_region_plan (fun _ w' => w'.cell? ⟨B, 0, none⟩ = some (.pointer (some ⟨tb, 0, none⟩)) ∧ w'.cell? ⟨tb, 2, none⟩ = some (.pointer (some ⟨x, 0, none⟩)) ∧ w'.cell? ⟨B + 1 + 1 + 1 + 1 + 1 + 1, 0, none⟩ = some (.func (.func 38) #[] #[.pointer (some ⟨B, 0, none⟩), .pointer (some ⟨B + 1 + 1 + 1 + 1 + 1, 0, none⟩), .pointer (some ⟨B + 1 + 1 + 1 + 1, 0, none⟩), .pointer (some ⟨B + 1 + 1, 0, none⟩), .pointer (some ⟨B + 1, 0, none⟩), .pointer (some ⟨B + 1 + 1 + 1, 0, none⟩), .pointer (some ⟨B + 1 + 1 + 1 + 1 + 1 + 1, 0, none⟩)])) (.h false [0, 1] (.q [2, 3] (.h false [4] (.e 5 true false (.line [])))))
    (by kernel_rfl) (by kernel_rfl) (by intro _ _ d _ _ h; cases d <;> exact h) ?hS ?_
  case hS => (intro c; cases c <;> (simp only [World.cell?_drew]; first | exact True.intro | (refine ⟨?_, ?_⟩ <;> assumption) | assumption | (repeat (first | assumption | (refine And.intro ?_ ?_)))))
  simp only [Ux.wpPlan, Ux.pickOps, Ux.keeps, List.getElem?_toArray, List.getElem?_cons_succ, List.getElem?_cons_zero]
  repeat (first
    | go_big_quiet_step (fail)
    | (with_reducible refine wpQuiet_nil ?_)
    | (refine Ux.quiet_held rfl ?_; apply Exists.intro; refine ⟨fun w' hS => ?_, ?_⟩; (focus ((try dsimp only at hS); go_simp; first | done | with_reducible rfl)); simp only [Act.put, List.setIfInBounds_toArray, List.set_cons_zero, List.set_cons_succ]))
  go_wp2_with fail
  refine HCALL.out.mono ?_
  rintro e w2 ⟨rfl, e2, t2⟩
  obtain ⟨d1, _, d3, d4, d5, _, _, _, d9⟩ := e2.cells
  have dck := cell_of_row w2 _ 0 _ 79 (0, 0) e2.chk
  simp only [List.getElem?_toArray, List.getElem?_cons_zero] at dck
  have TF := Lib.hid (show Ux.Touch (fun _ => False) w w2 from H0.out.1.drew.trans t2 (fun b hb h => by
    have := H0.out.2.2
    rcases (show b = B + 1 + 1 + 1 + 1 + 1 ∨ b = B + 1 + 1 ∨ b = B + 1 ∨ b = B + 1 + 1 + 1 from h) with h | h | h | h <;> omega))
  have d9' : w2.cell? ⟨B + 1 + 1 + 1, 0, none⟩ = some (.int .i64 l.length) := by rw [d9]; simp
  clear e2 t2 cbt cck crt HCALL d9
  obtain ⟨L, hL⟩ : ∃ L, l.length = L := ⟨_, rfl⟩
  rw [hL] at d9' d3
  clear hL
  go_wp2_with fail
  refine ⟨⟨d1, d4, dck⟩, ?_⟩
  clear dck d4
  go_wp2_with fail
  refine Ux.wp_region_plan (fun _ w' => w'.cell? ⟨B, 0, none⟩ = some (.pointer (some ⟨tb, 0, none⟩)) ∧ w'.cell? ⟨tb, 1, none⟩ = some (.int .i64 L) ∧ w'.cell? ⟨B + 1 + 1 + 1 + 1 + 1, 0, none⟩ = some (.bool true) ∧ w'.cell? ⟨B + 1 + 1 + 1, 0, none⟩ = some (.int .i64 L)) (.h false [0] (.q [1, 2] (.h false [3, 4] (.q [5, 6] (.h false [7] (.q [8, 9] (.line [])))))))
    (by kernel_rfl) (by kernel_rfl) (by intro _ _ d _ _ h; cases d <;> exact h) ?hS ?_
  case hS => (intro c; cases c <;> (simp only [World.cell?_drew]; first | exact True.intro | (refine ⟨?_, ?_⟩ <;> assumption) | assumption | (repeat (first | assumption | (refine And.intro ?_ ?_)))))
  simp only [Ux.wpPlan, Ux.pickOps, Ux.keeps, List.getElem?_toArray, List.getElem?_cons_succ, List.getElem?_cons_zero]
  repeat (first
    | go_big_quiet_step (fail)
    | (with_reducible refine wpQuiet_nil ?_)
    | (refine Ux.quiet_held rfl ?_; apply Exists.intro; refine ⟨fun w' hS => ?_, ?_⟩; (focus ((try dsimp only at hS); go_simp; first | done | with_reducible rfl)); simp only [Act.put, List.setIfInBounds_toArray, List.set_cons_zero, List.set_cons_succ]))
  go_wp2
  go_ret
  exact ⟨rfl, TF.out.drew⟩

end Go.Proofs.Ytdfgpminonpeaaa
