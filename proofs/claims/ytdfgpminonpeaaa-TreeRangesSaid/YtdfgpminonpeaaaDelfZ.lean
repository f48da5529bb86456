/- PART OF THE PROOF THAT THIS CLAIM HOLDS OF THE GIVEN PROGRAM, FOR EVERY INPUT THAT THE STATEMENT NAMES. No condition besides the statement's own. -/
import Derived.Test.YtdfgpminonpeaaaDelnZ
import Derived.Test.YtdfgpminonpeaaaAwakeZ
import Derived.Test.YtdfgpminonpeaaaRows
import Derived.WalkKit
import Derived.Handy
import Derived.Laws.EntriesVeiled
import Derived.WalkSpells
import Derived.WalkLawsBesides
import Derived.BigQuiet
import Derived.Deep.QuietTactic
import Derived.Deep.Cut
import Derived.Lib.Overlaps
import Derived.Laws.Externs
import Derived.Lib.Hide
import Derived.Test.YtdfgpminonpeaaaUxPlanAllZ
import Derived.Test.YtdfgpminonpeaaaUxTreeAllZ
import Derived.Deep.LoopGhost
namespace Go.Proofs.Ytdfgpminonpeaaa
open Go.RowKit
-- imports: YtdfgpminonpeaaaDeln YtdfgpminonpeaaaAwake
open Ux (slt lb has Rises T NodeAt NodesAt Shp wayN blk ptr flat flats keys del delT Up FrAt)

theorem four (w : World) (o0 o1 o2 o3 : Obj) : let W := (((w.alloc o0).alloc o1).alloc o2).alloc o3
    W.heap[w.heap.size]? = some o0 ∧ W.heap[w.heap.size + 1]? = some o1 ∧ W.heap[w.heap.size + 1 + 1]? = some o2 ∧ W.heap[w.heap.size + 1 + 1 + 1]? = some o3 := by
  intro W
  have s1 : (w.alloc o0).heap.size = w.heap.size + 1 := by rw [World.size_alloc]
  have s2 : ((w.alloc o0).alloc o1).heap.size = w.heap.size + 1 + 1 := by rw [World.size_alloc, s1]
  have s3 : (((w.alloc o0).alloc o1).alloc o2).heap.size = w.heap.size + 1 + 1 + 1 := by rw [World.size_alloc, s2]
  exact ⟨(((((Ux.Touch.refl (fun _ => False) (w.alloc o0)).alloc o1).alloc o2).alloc o3).heap (heap_alloc_new w o0) (fun f => f)),
    (by rw [← s1]; exact (((Ux.Touch.refl (fun _ => False) ((w.alloc o0).alloc o1)).alloc o2).alloc o3).heap (heap_alloc_new (w.alloc o0) o1) (fun f => f)),
    (by rw [← s2]; exact ((Ux.Touch.refl (fun _ => False) (((w.alloc o0).alloc o1).alloc o2)).alloc o3).heap (heap_alloc_new ((w.alloc o0).alloc o1) o2) (fun f => f)),
    (by rw [← s3]; exact heap_alloc_new (((w.alloc o0).alloc o1).alloc o2) o3)⟩

def DelDone (w : World) (tb fan : Nat) (l : List (ByteArray × Int)) (k : ByteArray) (fp : List Nat) (e : Ending) (w' : World) : Prop :=
  e = .returned (.bool (has (keys l) k)) ∧ (∃ t d x fp', TreeAt w' tb fan (del k l) t d x fp' ∧ ∀ b ∈ fp', b ∈ fp ∨ w.heap.size ≤ b) ∧ Ux.Touch (fun b => b ∈ fp ∨ b = tb) w w'

/-- the tree behind the taking away, its root as it was or one node down -/
theorem del_done {w w2 W : World} {tb fan : Nat} {l : List (ByteArray × Int)} {t : T} {d x : Nat} {fp : List Nat} {k : ByteArray} (HT : TreeAt w tb fan l t d x fp) {t' t'' : T} {d'' x'' : Nat} {fp' fp'' : List Nat} {n : Int}
    (htl : tb < w.heap.size) (hsub : ∀ b ∈ fp', b ∈ fp ∨ w.heap.size ≤ b) (hs2 : ∀ b ∈ fp'', b ∈ fp') (hnd : fp''.Nodup) (hn : NodeAt w2 t'' x'' fp'') (T2 : Ux.Touch (fun b => b ∈ fp ∨ b = tb) w w2) (TW : Ux.Touch (fun b => b = tb) w2 W)
    (hc : W.heap[tb]? = some (.cells #[.int .i64 fan, .int .i64 n, .pointer (some ⟨x'', 0, none⟩)] 64 (0, 0))) (hnn : n = ((del k l).length : Int)) (hg : Ux.Good fan d'' t'') (hfl : flat t'' = del k l) (hsz : t''.size ≤ fan) (hrt : d'' = 0 ∨ 2 ≤ t''.size) :
    DelDone w tb fan l k fp (.returned (.bool (has (keys l) k))) W := by
  subst hnn
  have hoff : tb ∉ fp'' := fun h => (hsub tb (hs2 tb h)).elim HT.off (fun h => by omega)
  exact ⟨rfl, ⟨t'', d'', x'', fp'', ⟨hc, hn.touch TW (fun b hb e => hoff (e ▸ hb)), hnd, hoff, hg, Ux.up_del HT.up, hfl, hsz, hrt, HT.fan4, HT.fan64⟩, fun b hb => hsub b (hs2 b hb)⟩, T2.trans TW (fun b _ e => .inr e)⟩

set_option maxHeartbeats 4000000 in
set_option maxRecDepth 100000 in
theorem del23 (w : World) (tb fan : Nat) (l : List (ByteArray × Int)) (t : T) (d x : Nat) (fp : List Nat) (k : ByteArray) (h : TreeAt w tb fan l t d x fp) (hb : l.length ≤ 1048576) :
    Calls Try.prog 23 #[.pointer (some ⟨tb, 0, none⟩), .string k] w (DelDone w tb fan l k fp) := by
  have HT := Lib.hid h
  have HLB := Lib.hid hb
  clear h hb
  obtain ⟨W0, hW0⟩ : ∃ W0, ((((w.alloc (.cells #[.pointer (some ⟨tb, 0, none⟩)] 23)).alloc (.cells #[.string k] 9)).alloc (.cells #[.bool false] 4)).alloc (.cells #[.func (.func 39) #[] #[.pointer (some ⟨w.heap.size + 1, 0, none⟩), .pointer (some ⟨w.heap.size + 1 + 1, 0, none⟩), .pointer (some ⟨w.heap.size + 1 + 1 + 1, 0, none⟩), .pointer (some ⟨w.heap.size, 0, none⟩)]] 65)) = W0 := ⟨_, rfl⟩
  have F := four w (.cells #[.pointer (some ⟨tb, 0, none⟩)] 23) (.cells #[.string k] 9) (.cells #[.bool false] 4) (.cells #[.func (.func 39) #[] #[.pointer (some ⟨w.heap.size + 1, 0, none⟩), .pointer (some ⟨w.heap.size + 1 + 1, 0, none⟩), .pointer (some ⟨w.heap.size + 1 + 1 + 1, 0, none⟩), .pointer (some ⟨w.heap.size, 0, none⟩)]] 65)
  simp only [] at F
  rw [hW0] at F
  have T0 : Ux.Touch (fun _ => False) w W0 := by rw [← hW0]; exact ((((Ux.Touch.refl _ w).alloc _).alloc _).alloc _).alloc _
  have HT0 := HT.out.touch T0 (fun f => f) (fun _ _ f => f)
  have htl := Ux.lt_of_heap HT.out.cell
  have hlt := NodeAt.lt HT.out.node
  obtain ⟨B, hB⟩ : ∃ B, w.heap.size = B := ⟨_, rfl⟩
  rw [hB] at F htl hlt
  have env : DelEnv W0.drew (B + 1) (B + 1 + 1) (B + 1 + 1 + 1) B tb k fan := ⟨F.2.1, F.2.2.2, F.1, ⟨_, _, HT0.cell⟩, by omega⟩
  have off : DelOff (B + 1) (B + 1 + 1) (B + 1 + 1 + 1) B tb fp := ⟨fun h => by have := hlt _ h; omega, fun h => by have := hlt _ h; omega, fun h => by have := hlt _ h; omega, fun h => by have := hlt _ h; omega, HT.out.off⟩
  have call := del39 HT.out.fan4 HT.out.fan64 k d t x fp W0.drew _ _ _ _ tb env F.2.2.1 (HT0.node.touch (Ux.Touch.refl (fun _ => False) W0).drew (fun _ _ f => f)) HT.out.nodup HT.out.good (by rw [HT.out.is]; exact HT.out.up) HT.out.size HT.out.root off
  have cbox : W0.cell? ⟨B, 0, none⟩ = some (.pointer (some ⟨tb, 0, none⟩)) := by rw [cell_of_row W0 _ 0 _ 23 (0, 0) F.1]; rfl
  have cdel : W0.cell? ⟨B + 1 + 1 + 1, 0, none⟩ = some (.func (.func 39) #[] #[.pointer (some ⟨B + 1, 0, none⟩), .pointer (some ⟨B + 1 + 1, 0, none⟩), .pointer (some ⟨B + 1 + 1 + 1, 0, none⟩), .pointer (some ⟨B, 0, none⟩)]) := by rw [cell_of_row W0 _ 0 _ 65 (0, 0) F.2.2.2]; rfl
  have croot := HT0.cells.2.2
  have CALL := Lib.hid call
  have H0 := Lib.hid (And.intro T0 (And.intro F.1 (And.intro htl (And.intro hlt (And.intro hB HT0.cell)))))
  rw [hB] at hW0
  have HW0 := Lib.hid hW0
  have dg := Ux.del_good HT.out.fan4 k HT.out.good (by rw [HT.out.is]; exact HT.out.up) HT.out.root
  rw [HT.out.is] at dg
  obtain ⟨t', ht'⟩ : ∃ t', delT fan k d t = t' := ⟨_, rfl⟩
  rw [ht'] at dg CALL
  have HDG := Lib.hid dg
  clear call env off T0 F htl hlt HT0 hW0 ht' dg
  go_enter Try.func23, Try.ntmps23
  go_wp2_with (fail)
  rw [HW0.out]
  clear hB
  refine Ux.wp_region_plan (fun _ w' => w'.cell? ⟨B, 0, none⟩ = some (.pointer (some ⟨tb, 0, none⟩)) ∧ w'.cell? ⟨tb, 2, none⟩ = some (.pointer (some ⟨x, 0, none⟩)) ∧ w'.cell? ⟨B + 1 + 1 + 1, 0, none⟩ = some (.func (.func 39) #[] #[.pointer (some ⟨B + 1, 0, none⟩), .pointer (some ⟨B + 1 + 1, 0, none⟩), .pointer (some ⟨B + 1 + 1 + 1, 0, none⟩), .pointer (some ⟨B, 0, none⟩)])) (.h false [0, 1] (.q [2, 3] (.h false [4] (.e 5 true false (.line [])))))
    (by kernel_rfl) (by kernel_rfl) (by intro _ _ d _ _ h; cases d <;> exact h) ?hS ?_
  case hS => (intro c; cases c <;> (simp only [World.cell?_drew]; first | exact True.intro | (refine ⟨?_, ?_⟩ <;> assumption) | assumption | (repeat (first | assumption | (refine And.intro ?_ ?_)))))
  simp only [Ux.wpPlan, Ux.pickOps, Ux.keeps, List.getElem?_toArray, List.getElem?_cons_succ, List.getElem?_cons_zero]
  repeat (first
    | go_big_quiet_step (fail)
    | (with_reducible refine wpQuiet_nil ?_)
    | (refine Ux.quiet_held rfl ?_; apply Exists.intro; refine ⟨fun w' hS => ?_, ?_⟩; (focus ((try dsimp only at hS); go_simp; first | done | with_reducible rfl)); simp only [Act.put, List.setIfInBounds_toArray, List.set_cons_zero, List.set_cons_succ]))
  go_wp2_with (fail)
  refine CALL.out.mono ?_
  rintro e w2 ⟨fp', rfl, n', nd', sub', T2, hf2⟩
  have hbg : ∀ b, b < B → b ∉ fp → ¬ (b ∈ fp ∨ b = B + 1 + 1) := fun b hb hn h => h.elim hn (fun e => by omega)
  have htb2 := T2.heap H0.out.2.2.2.2.2 (hbg tb H0.out.2.2.1 HT.out.off)
  have hbox2 := T2.heap H0.out.2.1 (fun h => h.elim (fun h => by have := H0.out.2.2.2.1 _ h; omega) (fun e => by omega))
  have d1 : w2.cell? ⟨tb, 1, none⟩ = some (.int .i64 l.length) := by rw [cell_of_row w2 tb 1 _ 64 (0, 0) htb2]; rfl
  have d2 : w2.cell? ⟨tb, 2, none⟩ = some (.pointer (some ⟨x, 0, none⟩)) := by rw [cell_of_row w2 tb 2 _ 64 (0, 0) htb2]; rfl
  have db : w2.cell? ⟨B, 0, none⟩ = some (.pointer (some ⟨tb, 0, none⟩)) := by rw [cell_of_row w2 _ 0 _ 23 (0, 0) hbox2]; rfl
  have ddel : w2.cell? ⟨B + 1 + 1 + 1, 0, none⟩ = some (.func (.func 39) #[] #[.pointer (some ⟨B + 1, 0, none⟩), .pointer (some ⟨B + 1 + 1, 0, none⟩), .pointer (some ⟨B + 1 + 1 + 1, 0, none⟩), .pointer (some ⟨B, 0, none⟩)]) := T2.cell cdel (fun h => by
    rcases h with (h : B + 1 + 1 + 1 ∈ fp) | (h : B + 1 + 1 + 1 = B + 1 + 1)
    · have := H0.out.2.2.2.1 _ h; omega
    · omega)
  have fr : ∀ i, w2.frozen? ⟨tb, i, none⟩ = false := fun i => frozen_of_row w2 tb i _ 64 htb2
  rw [HT.out.is] at hf2
  have TW2 : Ux.Touch (fun b => b ∈ fp ∨ b = tb) w w2 := ((H0.out.1.drew).mono (fun _ _ f => f.elim) : Ux.Touch (fun b => b ∈ fp ∨ b = tb) w W0.drew).trans T2 (fun b hb h => h.elim .inl (fun e => by have := H0.out.2.2.2.2.1; omega))
  have sub : ∀ b ∈ fp', b ∈ fp ∨ w.heap.size ≤ b := fun b hb => (sub' b hb).imp id (fun h => Nat.le_trans H0.out.1.size h)
  have hh : ∃ f, has (keys l) k = f := ⟨_, rfl⟩
  obtain ⟨f, hf⟩ := hh
  rw [hf] at hf2
  have df : w2.cell? ⟨B + 1 + 1, 0, none⟩ = some (.bool f) := by rw [cell_of_row w2 _ 0 _ 4 (0, 0) hf2]; rfl
  have HF := Lib.hid hf
  have H2 := Lib.hid (And.intro n' (And.intro nd' (And.intro sub (And.intro TW2 htb2))))
  have hll : ∃ n : Nat, (l.length : Int) = n ∧ n ≤ 1048576 ∧ ((f = true ∧ (n : Int) - 1 = ((del k l).length : Int)) ∨ (f = false ∧ (n : Int) = ((del k l).length : Int))) := by
    refine ⟨l.length, rfl, HLB.out, ?_⟩
    cases f with
    | true => exact .inl ⟨rfl, by have := Ux.del_len_has hf; omega⟩
    | false => exact .inr ⟨rfl, by rw [Ux.del_not hf]⟩
  obtain ⟨n, hn1, hn2, hn3⟩ := hll
  rw [hn1] at d1
  have HTN := Lib.hid (show w2.heap[tb]? = some (.cells #[.int .i64 fan, .int .i64 n, .pointer (some ⟨x, 0, none⟩)] 64 (0, 0)) from by rw [← hn1]; exact htb2)
  have HN3 := Lib.hid hn3
  have jn : (n : Int) ≤ 1048576 := by omega
  have jn0 : (0 : Int) ≤ n := by omega
  have jn1 : f = true → (1 : Int) ≤ n := fun h => by
    rcases hn3 with ⟨_, h3⟩ | ⟨h3, _⟩
    · omega
    · rw [h] at h3; cases h3
  have HFX := Lib.hid (show ∀ (W : World) (t'' : T) (d'' x'' : Nat) (fp'' : List Nat) (v : Int), (∀ b ∈ fp'', b ∈ fp') → fp''.Nodup → NodeAt w2 t'' x'' fp'' → Ux.Touch (fun b => b = tb) w2 W → W.heap[tb]? = some (.cells #[.int .i64 fan, .int .i64 v, .pointer (some ⟨x'', 0, none⟩)] 64 (0, 0)) → v = ((del k l).length : Int) → Ux.Good fan d'' t'' → flat t'' = del k l → t''.size ≤ fan → (d'' = 0 ∨ 2 ≤ t''.size) → DelDone w tb fan l k fp (.returned (.bool f)) W from
    fun W t'' d'' x'' fp'' v h1 h2 h3 h4 h5 h6 h7 h8 h9 h10 => by rw [← HF.out]; exact del_done (t' := t') HT.out (by have := H0.out.2.2.2.2.1; have := H0.out.2.2.1; omega) H2.out.2.2.1 h1 h2 h3 H2.out.2.2.2.1 h4 h5 h6 h7 h8 h9 h10)
  clear nd' sub' T2 hf2 htb2 hbox2 TW2 sub hf hbg CALL cbox cdel croot hn1 hn2 hn3
  -- the root's shape
  have shape : (∃ lf, t' = .leaf lf ∧ d = 0 ∧ w2.cell? ⟨x, 2, none⟩ = some (.slice none 0 0)) ∨
      (∃ ks cs g cc, t' = .node ks cs ∧ 2 ≤ cs.length ∧ cs.length ≤ 64 ∧ w2.cell? ⟨x, 2, none⟩ = some (.slice (some ⟨g, 0, none⟩) cs.length cc)) ∨
      (∃ ks c d0 g cc y fy, t' = .node ks [c] ∧ d = d0 + 1 ∧ w2.cell? ⟨x, 2, none⟩ = some (.slice (some ⟨g, 0, none⟩) 1 cc) ∧ w2.cell? ⟨g, 0, none⟩ = some (.pointer (some ⟨y, 0, none⟩)) ∧ NodeAt w2 c y fy ∧ (∀ b ∈ fy, b ∈ fp') ∧ fy.Nodup) := by
    have hg := HDG.out.1
    cases t' with
    | leaf lf =>
      obtain ⟨_, _, h1, _⟩ := n'
      refine .inl ⟨lf, rfl, ?_, (blk3 h1).2.2.1⟩
      cases d with
      | zero => rfl
      | succ d => obtain ⟨_, _, e, _⟩ := hg; cases e
    | node ks cs =>
      obtain ⟨d0, rfl⟩ : ∃ d0, d = d0 + 1 := by
        cases d with
        | zero => obtain ⟨_, e⟩ := hg; cases e
        | succ d0 => exact ⟨d0, rfl⟩
      have hs1 : 1 ≤ cs.length := by
        have h1 := HDG.out.2.2.2
        have h2 := HT.out.root.resolve_left (by omega)
        simp only [T.size] at h1 h2 ⊢
        omega
      have hs64 : cs.length ≤ 64 := by
        have h1 := HDG.out.2.2.1
        have h2 := HT.out.size
        have h3 := HT.out.fan64
        simp only [T.size] at h1 h2
        omega
      have nn := n'
      obtain ⟨kv, cv, xs, fs, h1, h2, h3, h4, hfp⟩ := n'
      obtain ⟨g, cc, cur, rfl, _, _, hg', _, htk⟩ := Ux.own_pos h3 (by omega)
      by_cases h1' : cs.length = 1
      · obtain ⟨c, rfl⟩ : ∃ c, cs = [c] := by
          cases cs with
          | nil => simp at h1'
          | cons c cs => cases cs with
            | nil => exact ⟨c, rfl⟩
            | cons _ _ => simp at h1'
        obtain ⟨y, xs', fy, fs', rfl, rfl, hy, hr, rfl⟩ := h4
        subst hr
        refine .inr (.inr ⟨ks, c, d0, g, cc, y, fy, rfl, rfl, (blk3 h1).2.2.1, Ux.row_cell hg' htk 0 _ rfl, hy, fun b hb => by rw [hfp]; simp [hb], ?_⟩)
        have hnd := H2.out.2.1
        rw [hfp] at hnd
        have := (List.nodup_append.1 (List.nodup_cons.1 hnd).2).2.1
        simpa using this
      · exact .inr (.inl ⟨ks, cs, g, cc, rfl, by omega, hs64, (blk3 h1).2.2.1⟩)
  rcases shape with ⟨lf, ht, hd, dk⟩ | ⟨ks, cs, g, cc, ht, hc2, hc64, dk⟩ | ⟨ks, c, d0, g, cc, y, fy, ht, hd, dk, dy, hy, hfy, hndy⟩
  · have HSH := Lib.hid (And.intro ht hd)
    clear ht hd
    cases f with
    | false =>
      go_wp2_with (fail)
      refine ⟨⟨db, d2, ddel⟩, ?_⟩
      repeat (first
        | go_big_quiet_step (fail)
        | (with_reducible refine wpQuiet_nil ?_)
        | (refine Ux.quiet_held rfl ?_; apply Exists.intro; refine ⟨fun w' hS => ?_, ?_⟩; (focus ((try dsimp only at hS); go_simp; first | done | with_reducible rfl)); simp only [Act.put, List.setIfInBounds_toArray, List.set_cons_zero, List.set_cons_succ]))
      go_wp2
      go_ret
      exact HFX.out w2 t' d x fp' n (fun _ h => h) H2.out.2.1 H2.out.1 (Ux.Touch.refl _ _) HTN.out (by rcases HN3.out with ⟨h, _⟩ | ⟨_, h⟩; cases h; exact h) HDG.out.1 HDG.out.2.1 (Nat.le_trans HDG.out.2.2.1 HT.out.size) (.inl HSH.out.2)
    | true =>
      have jn2 := jn1 rfl
      clear jn1
      go_wp2_with (fail)
      refine ⟨⟨db, d2, ddel⟩, ?_⟩
      repeat (first
        | go_big_quiet_step (fail)
        | (with_reducible refine wpQuiet_nil ?_)
        | (refine Ux.quiet_held rfl ?_; apply Exists.intro; refine ⟨fun w' hS => ?_, ?_⟩; (focus ((try dsimp only at hS); go_simp; first | done | with_reducible rfl)); simp only [Act.put, List.setIfInBounds_toArray, List.set_cons_zero, List.set_cons_succ]))
      go_wp2
      go_ret
      exact HFX.out _ t' d x fp' (n - 1) (fun _ h => h) H2.out.2.1 H2.out.1 ((Ux.Touch.refl (fun b => b = tb) w2).setCell (fun _ => rfl) _) (heap_setCell_same w2 tb 1 _ 64 (.int .i64 (n - 1)) HTN.out) (by rcases HN3.out with ⟨_, h⟩ | ⟨h, _⟩; exact h; cases h) HDG.out.1 HDG.out.2.1 (Nat.le_trans HDG.out.2.2.1 HT.out.size) (.inl HSH.out.2)
  · have q2 : (2 : Int) ≤ cs.length := by omega
    have q64 : (cs.length : Int) ≤ 64 := by omega
    have HSH := Lib.hid (And.intro ht hc2)
    clear ht hc2 hc64
    cases f with
    | false =>
      go_wp2_with (fail)
      refine ⟨⟨db, d2, ddel⟩, ?_⟩
      repeat (first
        | go_big_quiet_step (fail)
        | (with_reducible refine wpQuiet_nil ?_)
        | (refine Ux.quiet_held rfl ?_; apply Exists.intro; refine ⟨fun w' hS => ?_, ?_⟩; (focus ((try dsimp only at hS); go_simp; first | done | with_reducible rfl)); simp only [Act.put, List.setIfInBounds_toArray, List.set_cons_zero, List.set_cons_succ]))
      go_wp2
      go_ret
      exact HFX.out w2 t' d x fp' n (fun _ h => h) H2.out.2.1 H2.out.1 (Ux.Touch.refl _ _) HTN.out (by rcases HN3.out with ⟨h, _⟩ | ⟨_, h⟩; cases h; exact h) HDG.out.1 HDG.out.2.1 (Nat.le_trans HDG.out.2.2.1 HT.out.size) (.inr (by rw [HSH.out.1]; exact HSH.out.2))
    | true =>
      have jn2 := jn1 rfl
      clear jn1
      go_wp2_with (fail)
      refine ⟨⟨db, d2, ddel⟩, ?_⟩
      repeat (first
        | go_big_quiet_step (fail)
        | (with_reducible refine wpQuiet_nil ?_)
        | (refine Ux.quiet_held rfl ?_; apply Exists.intro; refine ⟨fun w' hS => ?_, ?_⟩; (focus ((try dsimp only at hS); go_simp; first | done | with_reducible rfl)); simp only [Act.put, List.setIfInBounds_toArray, List.set_cons_zero, List.set_cons_succ]))
      go_wp2
      go_ret
      exact HFX.out _ t' d x fp' (n - 1) (fun _ h => h) H2.out.2.1 H2.out.1 ((Ux.Touch.refl (fun b => b = tb) w2).setCell (fun _ => rfl) _) (heap_setCell_same w2 tb 1 _ 64 (.int .i64 (n - 1)) HTN.out) (by rcases HN3.out with ⟨_, h⟩ | ⟨h, _⟩; exact h; cases h) HDG.out.1 HDG.out.2.1 (Nat.le_trans HDG.out.2.2.1 HT.out.size) (.inr (by rw [HSH.out.1]; exact HSH.out.2))
  · have HSH := Lib.hid (And.intro ht hd)
    have HY := Lib.hid (And.intro hy (And.intro hfy hndy))
    clear ht hd hy hfy hndy
    have dg : Ux.Good fan d0 c ∧ flat c = del k l ∧ c.size ≤ fan ∧ (d0 = 0 ∨ 2 ≤ c.size) := by
      have h1 := HDG.out
      rw [HSH.out.1, HSH.out.2] at h1
      obtain ⟨⟨ks', cs', e, _, _, hall⟩, h2, _, _⟩ := h1
      cases e
      obtain ⟨g1, g2, g3⟩ := hall c (by simp)
      refine ⟨g1, ?_, g3, .inr ?_⟩
      · rw [← h2]; simp [flat, flats]
      · have := HT.out.fan4; omega
    have HDG2 := Lib.hid dg
    clear dg
    cases f with
    | false =>
      go_wp2_with (fail)
      refine ⟨⟨db, d2, ddel⟩, ?_⟩
      repeat (first
        | go_big_quiet_step (fail)
        | (with_reducible refine wpQuiet_nil ?_)
        | (refine Ux.quiet_held rfl ?_; apply Exists.intro; refine ⟨fun w' hS => ?_, ?_⟩; (focus ((try dsimp only at hS); go_simp; first | done | with_reducible rfl)); simp only [Act.put, List.setIfInBounds_toArray, List.set_cons_zero, List.set_cons_succ]))
      go_wp2
      refine Ux.wp_region_plan (fun _ w' => w'.cell? ⟨B, 0, none⟩ = some (.pointer (some ⟨tb, 0, none⟩)) ∧ w'.cell? ⟨tb, 2, none⟩ = some (.pointer (some ⟨x, 0, none⟩)) ∧ w'.cell? ⟨x, 2, none⟩ = some (.slice (some ⟨g, 0, none⟩) 1 cc) ∧ w'.cell? ⟨g, 0, none⟩ = some (.pointer (some ⟨y, 0, none⟩))) (.h false [0, 1] (.q [2, 3] (.h false [4] (.q [5, 6] (.h false [7] (.q [8] (.h false [9] (.line [10, 11, 12]))))))))
        (by kernel_rfl) (by kernel_rfl) (by intro _ _ d _ _ h; cases d <;> exact h) ?hS ?_
      case hS => (intro c; cases c <;> (simp only [World.cell?_drew]; first | exact True.intro | (refine ⟨?_, ?_⟩ <;> assumption) | assumption | (repeat (first | assumption | (refine And.intro ?_ ?_)))))
      simp only [Ux.wpPlan, Ux.pickOps, Ux.keeps, List.getElem?_toArray, List.getElem?_cons_succ, List.getElem?_cons_zero]
      repeat (first
        | go_big_quiet_step (fail)
        | (with_reducible refine wpQuiet_nil ?_)
        | (refine Ux.quiet_held rfl ?_; apply Exists.intro; refine ⟨fun w' hS => ?_, ?_⟩; (focus ((try dsimp only at hS); go_simp; first | done | with_reducible rfl)); simp only [Act.put, List.setIfInBounds_toArray, List.set_cons_zero, List.set_cons_succ]))
      go_wp2
      go_ret
      exact HFX.out _ c d0 y fy n HY.out.2.1 HY.out.2.2 HY.out.1 ((Ux.Touch.refl (fun b => b = tb) w2).setCell (fun _ => rfl) _).drew (heap_setCell_same w2 tb 2 _ 64 (.pointer (some ⟨y, 0, none⟩)) HTN.out) (by rcases HN3.out with ⟨h, _⟩ | ⟨_, h⟩; cases h; exact h) HDG2.out.1 HDG2.out.2.1 HDG2.out.2.2.1 HDG2.out.2.2.2
    | true =>
      have jn2 := jn1 rfl
      clear jn1
      go_wp2_with (fail)
      refine ⟨⟨db, d2, ddel⟩, ?_⟩
      repeat (first
        | go_big_quiet_step (fail)
        | (with_reducible refine wpQuiet_nil ?_)
        | (refine Ux.quiet_held rfl ?_; apply Exists.intro; refine ⟨fun w' hS => ?_, ?_⟩; (focus ((try dsimp only at hS); go_simp; first | done | with_reducible rfl)); simp only [Act.put, List.setIfInBounds_toArray, List.set_cons_zero, List.set_cons_succ]))
      go_wp2
      refine Ux.wp_region_plan (fun _ w' => w'.cell? ⟨B, 0, none⟩ = some (.pointer (some ⟨tb, 0, none⟩)) ∧ w'.cell? ⟨tb, 2, none⟩ = some (.pointer (some ⟨x, 0, none⟩)) ∧ w'.cell? ⟨x, 2, none⟩ = some (.slice (some ⟨g, 0, none⟩) 1 cc) ∧ w'.cell? ⟨g, 0, none⟩ = some (.pointer (some ⟨y, 0, none⟩))) (.h false [0, 1] (.q [2, 3] (.h false [4] (.q [5, 6] (.h false [7] (.q [8] (.h false [9] (.line [10, 11, 12]))))))))
        (by kernel_rfl) (by kernel_rfl) (by intro _ _ d _ _ h; cases d <;> exact h) ?hS ?_
      case hS => (intro c; cases c <;> (simp only [World.cell?_drew]; first | exact True.intro | (refine ⟨?_, ?_⟩ <;> assumption) | assumption | (repeat (first | assumption | (refine And.intro ?_ ?_)))))
      simp only [Ux.wpPlan, Ux.pickOps, Ux.keeps, List.getElem?_toArray, List.getElem?_cons_succ, List.getElem?_cons_zero]
      repeat (first
        | go_big_quiet_step (fail)
        | (with_reducible refine wpQuiet_nil ?_)
        | (refine Ux.quiet_held rfl ?_; apply Exists.intro; refine ⟨fun w' hS => ?_, ?_⟩; (focus ((try dsimp only at hS); go_simp; first | done | with_reducible rfl)); simp only [Act.put, List.setIfInBounds_toArray, List.set_cons_zero, List.set_cons_succ]))
      go_wp2
      go_ret
      exact HFX.out _ c d0 y fy (n - 1) HY.out.2.1 HY.out.2.2 HY.out.1 (((Ux.Touch.refl (fun b => b = tb) w2).setCell (fun _ => rfl) _).setCell (fun _ => rfl) _).drew (heap_setCell_same (w2.setCell ⟨tb, 2, none⟩ (.pointer (some ⟨y, 0, none⟩))) tb 1 _ 64 (.int .i64 (n - 1)) (heap_setCell_same w2 tb 2 _ 64 (.pointer (some ⟨y, 0, none⟩)) HTN.out)) (by rcases HN3.out with ⟨_, h⟩ | ⟨h, _⟩; exact h; cases h) HDG2.out.1 HDG2.out.2.1 HDG2.out.2.2.1 HDG2.out.2.2.2

end Go.Proofs.Ytdfgpminonpeaaa
