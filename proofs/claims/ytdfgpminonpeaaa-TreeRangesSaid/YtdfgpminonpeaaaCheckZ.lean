/- PART OF THE PROOF THAT THIS CLAIM HOLDS OF THE GIVEN PROGRAM, FOR EVERY INPUT THAT THE STATEMENT NAMES. No condition besides the statement's own. -/
import Derived.Test.YtdfgpminonpeaaaUxCurAllZ
import Derived.Test.YtdfgpminonpeaaaGetZ
import Derived.Test.YtdfgpminonpeaaaRows
import Derived.WalkKit
import Derived.Handy
import Derived.Laws.EntriesVeiled
import Derived.WalkSpells
import Derived.WalkLawsBesides
import Derived.BigQuiet
import Derived.Deep.QuietTactic
import Derived.Deep.Cut
import Derived.Lib.Overlaps
import Derived.Laws.Externs
import Derived.Lib.Hide
import Derived.Test.YtdfgpminonpeaaaUxPlanAllZ
import Derived.Test.YtdfgpminonpeaaaUxTreeAllZ
import Derived.Deep.LoopGhost
namespace Go.Proofs.Ytdfgpminonpeaaa
open Go.RowKit
-- imports: UxCheck YtdfgpminonpeaaaGet
open Ux (slt lb has Rises T NodeAt NodesAt Shp wayN blk ptr flat flats keys ins Up FrAt after Pre)

structure ChkEnv (w : World) (bt tb bo bd bs bl bn bc fan : Nat) (n : Int) (xr : Nat) (deep : Int) (st : Bool × ByteArray) (c : Int) : Prop where
  box : w.heap[bt]? = some (.cells #[.pointer (some ⟨tb, 0, none⟩)] 23 (0, 0))
  tree : w.heap[tb]? = some (.cells #[.int .i64 fan, .int .i64 n, .pointer (some ⟨xr, 0, none⟩)] 64 (0, 0))
  ok : w.heap[bo]? = some (.cells #[.bool true] 4 (0, 0))
  deep : w.heap[bd]? = some (.cells #[.int .i64 deep] 3 (0, 0))
  met : w.heap[bs]? = some (.cells #[.bool st.1] 4 (0, 0))
  last : w.heap[bl]? = some (.cells #[.string st.2] 9 (0, 0))
  cnt : w.heap[bn]? = some (.cells #[.int .i64 c] 3 (0, 0))
  chk : w.heap[bc]? = some (.cells #[.func (.func 38) #[] #[.pointer (some ⟨bt, 0, none⟩), .pointer (some ⟨bo, 0, none⟩), .pointer (some ⟨bd, 0, none⟩), .pointer (some ⟨bs, 0, none⟩), .pointer (some ⟨bl, 0, none⟩), .pointer (some ⟨bn, 0, none⟩), .pointer (some ⟨bc, 0, none⟩)]] 79 (0, 0))
  ord : tb < bt ∧ bt < bl ∧ bl < bs ∧ bs < bn ∧ bn < bd ∧ bd < bo ∧ bo < bc

def ChkPost (w : World) (bt tb bo bd bs bl bn bc fan : Nat) (n : Int) (xr : Nat) (deep : Int) (st : Bool × ByteArray) (c : Int) (L : List (ByteArray × Int)) (e : Ending) (w' : World) : Prop :=
  e = .returned (.tuple #[]) ∧ ChkEnv w' bt tb bo bd bs bl bn bc fan n xr deep (after st L) (c + L.length) ∧ Ux.Touch (fun b => b = bo ∨ b = bs ∨ b = bl ∨ b = bn) w w'

theorem pinfo : (Try.prog.info? 62).map (fun i => (i.zero, i.size, i.bytes)) = some (some (.agg #[.slice none 0 0, .slice none 0 0, .slice none 0 0]), 3, 72) := by kernel_rfl
theorem neq_same (x : Nat) (w : World) : (binOp .neq 59 (.pointer (some ⟨x, 0, none⟩)) (.pointer (some ⟨x, 0, none⟩))).run Try.prog w = .ok (.bool false) w := by
  obtain ⟨i0, hi0, _⟩ := info_parts pinfo
  exact Lib.run_neq_ptr_same w _ Try.underlying59 hi0
theorem neq_other (x y : Nat) (w : World) (cx cy : Array Value) (hne : x ≠ y) (hx : w.heap[x]? = some (.cells cx 62 (0, 0))) (hy : w.heap[y]? = some (.cells cy 62 (0, 0))) : (binOp .neq 59 (.pointer (some ⟨x, 0, none⟩)) (.pointer (some ⟨y, 0, none⟩))).run Try.prog w = .ok (.bool true) w := by
  obtain ⟨i0, hi0, _, hs, _⟩ := info_parts pinfo
  exact Ux.neq_ptr_other w Try.underlying59 hi0 (by rw [hs]; decide) (fun e => hne (by cases e; rfl)) hx hy

theorem one_set (w : World) (b : Nat) (v u : Value) (t : TypeId) (h : w.heap[b]? = some (.cells #[v] t (0, 0))) : (w.setCell ⟨b, 0, none⟩ u).heap[b]? = some (.cells #[u] t (0, 0)) := by
  have := heap_setCell_same w b 0 _ t u h
  simpa using this
theorem set_off (w : World) (b k : Nat) (u : Value) (h : k ≠ b) {o : Obj} (hk : w.heap[k]? = some o) : (w.setCell ⟨b, 0, none⟩ u).heap[k]? = some o := by
  rw [heap_setCell_other w ⟨b, 0, none⟩ k u h]
  exact hk

theorem ChkEnv.drew {w : World} {bt tb bo bd bs bl bn bc fan : Nat} {n : Int} {xr : Nat} {deep : Int} {st : Bool × ByteArray} {c : Int} (h : ChkEnv w bt tb bo bd bs bl bn bc fan n xr deep st c) : ChkEnv w.drew bt tb bo bd bs bl bn bc fan n xr deep st c :=
  ⟨h.box, h.tree, h.ok, h.deep, h.met, h.last, h.cnt, h.chk, h.ord⟩
theorem ChkEnv.setOk {w : World} {bt tb bo bd bs bl bn bc fan : Nat} {n : Int} {xr : Nat} {deep : Int} {st : Bool × ByteArray} {c : Int} (h : ChkEnv w bt tb bo bd bs bl bn bc fan n xr deep st c) : ChkEnv (w.setCell ⟨bo, 0, none⟩ (.bool true)) bt tb bo bd bs bl bn bc fan n xr deep st c := by
  have o := h.ord
  exact ⟨set_off _ _ _ _ (by omega) h.box, set_off _ _ _ _ (by omega) h.tree, one_set _ _ _ _ _ h.ok, set_off _ _ _ _ (by omega) h.deep, set_off _ _ _ _ (by omega) h.met, set_off _ _ _ _ (by omega) h.last, set_off _ _ _ _ (by omega) h.cnt, set_off _ _ _ _ (by omega) h.chk, o⟩
theorem ChkEnv.step {w : World} {bt tb bo bd bs bl bn bc fan : Nat} {n : Int} {xr : Nat} {deep : Int} {st : Bool × ByteArray} {c : Int} (h : ChkEnv w bt tb bo bd bs bl bn bc fan n xr deep st c) (k : ByteArray) (c' : Int) :
    ChkEnv (((w.setCell ⟨bl, 0, none⟩ (.string k)).setCell ⟨bs, 0, none⟩ (.bool true)).setCell ⟨bn, 0, none⟩ (.int .i64 c')) bt tb bo bd bs bl bn bc fan n xr deep (true, k) c' := by
  have o := h.ord
  refine ⟨?_, ?_, ?_, ?_, ?_, ?_, ?_, ?_, o⟩
  · exact set_off _ _ _ _ (by omega) (set_off _ _ _ _ (by omega) (set_off _ _ _ _ (by omega) h.box))
  · exact set_off _ _ _ _ (by omega) (set_off _ _ _ _ (by omega) (set_off _ _ _ _ (by omega) h.tree))
  · exact set_off _ _ _ _ (by omega) (set_off _ _ _ _ (by omega) (set_off _ _ _ _ (by omega) h.ok))
  · exact set_off _ _ _ _ (by omega) (set_off _ _ _ _ (by omega) (set_off _ _ _ _ (by omega) h.deep))
  · exact set_off _ _ _ _ (by omega) (one_set _ _ _ _ _ (set_off _ _ _ _ (by omega) h.met))
  · exact set_off _ _ _ _ (by omega) (set_off _ _ _ _ (by omega) (one_set _ _ _ _ _ h.last))
  · exact one_set _ _ _ _ _ (set_off _ _ _ _ (by omega) (set_off _ _ _ _ (by omega) h.cnt))
  · exact set_off _ _ _ _ (by omega) (set_off _ _ _ _ (by omega) (set_off _ _ _ _ (by omega) h.chk))
theorem ChkEnv.cells {w : World} {bt tb bo bd bs bl bn bc fan : Nat} {n : Int} {xr : Nat} {deep : Int} {st : Bool × ByteArray} {c : Int} (h : ChkEnv w bt tb bo bd bs bl bn bc fan n xr deep st c) :
    w.cell? ⟨bt, 0, none⟩ = some (.pointer (some ⟨tb, 0, none⟩)) ∧ w.cell? ⟨tb, 0, none⟩ = some (.int .i64 fan) ∧ w.cell? ⟨tb, 1, none⟩ = some (.int .i64 n) ∧ w.cell? ⟨tb, 2, none⟩ = some (.pointer (some ⟨xr, 0, none⟩)) ∧
    w.cell? ⟨bo, 0, none⟩ = some (.bool true) ∧ w.cell? ⟨bd, 0, none⟩ = some (.int .i64 deep) ∧ w.cell? ⟨bs, 0, none⟩ = some (.bool st.1) ∧ w.cell? ⟨bl, 0, none⟩ = some (.string st.2) ∧ w.cell? ⟨bn, 0, none⟩ = some (.int .i64 c) := by
  refine ⟨?_, ?_, ?_, ?_, ?_, ?_, ?_, ?_, ?_⟩
  · rw [cell_of_row w bt 0 _ 23 (0, 0) h.box]; rfl
  · rw [cell_of_row w tb 0 _ 64 (0, 0) h.tree]; rfl
  · rw [cell_of_row w tb 1 _ 64 (0, 0) h.tree]; rfl
  · rw [cell_of_row w tb 2 _ 64 (0, 0) h.tree]; rfl
  · rw [cell_of_row w bo 0 _ 4 (0, 0) h.ok]; rfl
  · rw [cell_of_row w bd 0 _ 3 (0, 0) h.deep]; rfl
  · rw [cell_of_row w bs 0 _ 4 (0, 0) h.met]; rfl
  · rw [cell_of_row w bl 0 _ 9 (0, 0) h.last]; rfl
  · rw [cell_of_row w bn 0 _ 3 (0, 0) h.cnt]; rfl
theorem ChkEnv.free {w : World} {bt tb bo bd bs bl bn bc fan : Nat} {n : Int} {xr : Nat} {deep : Int} {st : Bool × ByteArray} {c : Int} (h : ChkEnv w bt tb bo bd bs bl bn bc fan n xr deep st c) :
    w.frozen? ⟨bo, 0, none⟩ = false ∧ w.frozen? ⟨bs, 0, none⟩ = false ∧ w.frozen? ⟨bl, 0, none⟩ = false ∧ w.frozen? ⟨bn, 0, none⟩ = false :=
  ⟨frozen_of_row w bo 0 _ 4 h.ok, frozen_of_row w bs 0 _ 4 h.met, frozen_of_row w bl 0 _ 9 h.last, frozen_of_row w bn 0 _ 3 h.cnt⟩

/-- which blocks Check's inner function turns -/
def ChkR (bo bs bl bn : Nat) (b : Nat) : Prop := b = bo ∨ b = bs ∨ b = bl ∨ b = bn

set_option maxHeartbeats 4000000 in
set_option maxRecDepth 100000 in
theorem chk_leaf (bt tb bo bd bs bl bn bc fan : Nat) (n : Int) (xr : Nat) (deep lev : Int) (st : Bool × ByteArray) (c : Int) (l : List (ByteArray × Int)) (x : Nat) (fp : List Nat) (w : World) (hf4 : 4 ≤ fan) (hf64 : fan ≤ 64)
    (he : ChkEnv w bt tb bo bd bs bl bn bc fan n xr deep st c) (h : NodeAt w (.leaf l) x fp) (hfp : ∀ b ∈ fp, b < bt ∧ b ≠ tb) (hs : l.length ≤ fan) (hr : (x = xr ∧ lev = deep) ∨ (x = xr ∧ lev ≠ deep ∧ n = 0) ∨ (x ≠ xr ∧ fan / 2 ≤ l.length ∧ lev = deep)) (hup : Up l) (hpre : Pre st l) (hc0 : 0 ≤ c) (hc1 : c ≤ 1048576)
    (cr : Array Value) (hxr : w.heap[xr]? = some (.cells cr 62 (0, 0))) :
    Calls Try.prog 38 #[.pointer (some ⟨x, 0, none⟩), .int .i64 lev, .pointer (some ⟨bt, 0, none⟩), .pointer (some ⟨bo, 0, none⟩), .pointer (some ⟨bd, 0, none⟩), .pointer (some ⟨bs, 0, none⟩), .pointer (some ⟨bl, 0, none⟩), .pointer (some ⟨bn, 0, none⟩), .pointer (some ⟨bc, 0, none⟩)] w
      (ChkPost w bt tb bo bd bs bl bn bc fan n xr deep st c l) := by
  have SZ := size34 w.drew (h.touch (Ux.Touch.refl (fun _ => False) w).drew (fun _ _ f => f)) trivial
  have HN := Lib.hid h
  obtain ⟨kv, rv, h1, h2, h3, hfpe⟩ := h
  obtain ⟨z0, z1, z2, _⟩ := blk3 h1
  obtain ⟨a0, a1, a3, a2, a4, a5, a6, a7, a8⟩ := he.cells
  obtain ⟨fo, fs, fl, fn⟩ := he.free
  obtain ⟨m, hm⟩ : ∃ m, l.length = m := ⟨_, rfl⟩
  rw [show (T.leaf l).size = l.length from rfl, hm] at SZ
  obtain ⟨ka, kc, rfl, hkey⟩ : ∃ ka kc, kv = .slice ka m kc ∧ ∀ i p, l[i]? = some p → ∃ g, ka = some ⟨g, 0, none⟩ ∧ w.cell? ⟨g, i, none⟩ = some (.string p.1) ∧ g < bt ∧ g ≠ tb := by
    rcases h2.2 with ⟨rfl, h0⟩ | ⟨g, kc, cur, rfl, _, hg, _, _, _, htk⟩
    · exact ⟨none, 0, by rw [← hm, h0], fun i p hp => by have := (List.getElem?_eq_some_iff.1 hp).1; omega⟩
    · refine ⟨_, kc, by rw [hm], fun i p hp => ⟨g, rfl, Ux.row_cell hg htk i _ (by rw [List.getElem?_map, hp]; rfl), hfp g (by rw [hfpe]; simp [blk, Value.ownBlock])⟩⟩
  obtain ⟨ra, rc, rfl⟩ : ∃ ra rc, rv = .slice ra m rc := by
    rcases h3.2 with ⟨rfl, h0⟩ | ⟨g, kc, cur, rfl, _⟩
    · exact ⟨none, 0, by rw [← hm, h0]⟩
    · exact ⟨_, _, by rw [hm]⟩
  have HSZ := Lib.hid SZ
  have HE := Lib.hid he
  have j0 : (m : Int) ≤ fan := by omega
  have j1 : (fan : Int) ≤ 64 := by omega
  have j2 : (4 : Int) ≤ fan := by omega
  have q1 : decide (fan < m) = false := by simp; omega
  have HKEY := Lib.hid hkey
  have HH := Lib.hid (And.intro h1 (And.intro hfpe (And.intro hfp (And.intro hup (And.intro hpre hm)))))
  clear SZ h1 h2 h3 hfpe hfp hup hpre he hm hs hkey
  have y1 : ¬ x = bo := by have := (HH.out.2.2.1 x (by rw [HH.out.2.1]; simp)).1; have := HE.out.ord; omega
  have y2 : ¬ bo = x := by omega
  have START : ChkEnv (w.setCell ⟨bo, 0, none⟩ (.bool true)).drew.drew bt tb bo bd bs bl bn bc fan n xr deep st c ∧ Ux.Touch (fun b => b = bo ∨ b = bs ∨ b = bl ∨ b = bn) w (w.setCell ⟨bo, 0, none⟩ (.bool true)).drew.drew :=
    ⟨HE.out.setOk.drew.drew, (((Ux.Touch.refl _ w).setCell (p := ⟨bo, 0, none⟩) (fun _ => .inl rfl) _).drew).drew⟩
  have HS := Lib.hid START
  clear START
  rcases hr with ⟨hr, hl⟩ | ⟨hr, hl, hn⟩ | ⟨hx, hr, hl⟩
  · subst hr hl
    have NE := neq_same x
    go_enter Try.func38, Try.ntmps38
    go_wp2_with fail
    refine Ux.wp_region_plan (fun _ w' => w'.cell? ⟨bt, 0, none⟩ = some (.pointer (some ⟨tb, 0, none⟩)) ∧ w'.cell? ⟨tb, 0, none⟩ = some (.int .i64 fan) ∧ w'.cell? ⟨tb, 2, none⟩ = some (.pointer (some ⟨x, 0, none⟩))) (.q [0] (.h false [2] (.q [3, 4] (.h false [5] (.e 1 true false (.q [6, 7, 8] (.h false [9] (.q [10, 11] (.h false [12] (.q [13, 14, 15] (.h false [17] (.q [18, 19] (.h false [20] (.q [21] (.e 16 true false (.q [22, 23, 24] (.line [])))))))))))))))))
      (by kernel_rfl) (by kernel_rfl) (by intro _ _ d _ _ h; cases d <;> exact h) ?hS ?_
    case hS => (intro c; cases c <;> (simp only [World.cell?_drew]; first | exact True.intro | (refine ⟨?_, ?_⟩ <;> assumption) | assumption | (repeat (first | assumption | (refine And.intro ?_ ?_)))))
    simp only [Ux.wpPlan, Ux.pickOps, Ux.keeps, List.getElem?_toArray, List.getElem?_cons_succ, List.getElem?_cons_zero]
    repeat (first
      | go_big_quiet_step (fail)
      | (with_reducible refine wpQuiet_nil ?_)
      | (refine Ux.quiet_held rfl ?_; apply Exists.intro; refine ⟨fun w' hS => ?_, ?_⟩; (focus ((try dsimp only at hS); go_simp; first | done | with_reducible rfl)); simp only [Act.put, List.setIfInBounds_toArray, List.set_cons_zero, List.set_cons_succ]))
    go_wp2_with (go_at_call 34; refine HSZ.out.mono ?_; rintro e w4 ⟨rfl, rfl⟩)
    refine ⟨⟨a0, a1, a2⟩, ?_⟩
    repeat (first
      | go_big_quiet_step (fail)
      | (with_reducible refine wpQuiet_nil ?_)
      | (refine Ux.quiet_held rfl ?_; apply Exists.intro; refine ⟨fun w' hS => ?_, ?_⟩; (focus ((try dsimp only at hS); go_simp; first | done | with_reducible rfl)); simp only [Act.put, List.setIfInBounds_toArray, List.set_cons_zero, List.set_cons_succ]))
    go_wp2_with (fail)
    refine ⟨⟨a0, a1, a2⟩, ?_⟩
    repeat (first
      | go_big_quiet_step (fail)
      | (with_reducible refine wpQuiet_nil ?_)
      | (refine Ux.quiet_held rfl ?_; apply Exists.intro; refine ⟨fun w' hS => ?_, ?_⟩; (focus ((try dsimp only at hS); go_simp; first | done | with_reducible rfl)); simp only [Act.put, List.setIfInBounds_toArray, List.set_cons_zero, List.set_cons_succ]))
    go_wp2_with (fail)
    refine Ux.wp_region_plan (fun _ w' => w'.cell? ⟨bo, 0, none⟩ = some (.bool true) ∧ w'.cell? ⟨bd, 0, none⟩ = some (.int .i64 lev) ∧ w'.cell? ⟨x, 0, none⟩ = some (.slice ka m kc) ∧ w'.cell? ⟨x, 1, none⟩ = some (.slice ra m rc)) (.h false [0] (.q [1, 2] (.h false [3] (.q [4, 5] (.h false [6] (.q [7, 8] (.h false [9] (.q [10, 11, 12, 13, 14, 15, 16, 19, 20, 21] (.h false [17, 22] (.q [18, 23, 24, 25] (.line [26])))))))))))
      (by kernel_rfl) (by kernel_rfl) (by intro _ _ d _ _ h; cases d <;> exact h) ?hS ?_
    case hS => (intro c; cases c <;> (simp only [World.cell?_drew]; first | exact True.intro | (refine ⟨?_, ?_⟩ <;> assumption) | assumption | (repeat (first | assumption | (refine And.intro ?_ ?_)))))
    simp only [Ux.wpPlan, Ux.pickOps, Ux.keeps, List.getElem?_toArray, List.getElem?_cons_succ, List.getElem?_cons_zero]
    repeat (first
      | go_big_quiet_step (fail)
      | (with_reducible refine wpQuiet_nil ?_)
      | (refine Ux.quiet_held rfl ?_; apply Exists.intro; refine ⟨fun w' hS => ?_, ?_⟩; (focus ((try dsimp only at hS); go_simp; first | done | with_reducible rfl)); simp only [Act.put, List.setIfInBounds_toArray, List.set_cons_zero, List.set_cons_succ]))
    go_wp2_with (fail)
    go_loopg [76] m (fun g s76 wr => ∃ i : Nat, s76 = .int .i64 i ∧ i + g = m ∧ ChkEnv wr bt tb bo bd bs bl bn bc fan n x lev (after st (l.take i)) (c + i) ∧ Ux.Touch (fun b => b = bo ∨ b = bs ∨ b = bl ∨ b = bn) w wr)
    case atStart => exact ⟨0, rfl, by omega, by simpa [Ux.after_nil] using HS.out.1, HS.out.2⟩
    case round =>
      clear a0 a1 a2 a3 a4 a5 a6 a7 a8 fo fs fl fn z0 z1 z2 NE q1 y1 y2 HSZ
      obtain ⟨i, rfl, hig, k1, k2⟩ := hrel
      rcases Nat.eq_zero_or_pos gk with h0 | h0
      · subst h0
        obtain rfl : i = m := by omega
        have HK := Lib.hid (And.intro k1 k2)
        have HM := Lib.hid HH.out.2.2.2.2.2
        clear k1 k2 hig
        go_wp2
        go_returns
        refine ⟨rfl, ?_, HK.out.2⟩
        have := HK.out.1
        rw [List.take_of_length_le (by rw [HM.out]; exact Nat.le_refl _)] at this
        rw [HM.out]
        exact this
      · obtain ⟨g', rfl⟩ : ∃ g', gk = g' + 1 := ⟨gk - 1, by omega⟩
        have hil : i < l.length := by rw [HH.out.2.2.2.2.2]; omega
        obtain ⟨p, hp⟩ : ∃ p, l[i]? = some p := ⟨l[i], List.getElem?_eq_getElem hil⟩
        obtain ⟨gx, rfl, c1, hg1, hg2⟩ := HKEY.out i p hp
        have c1' := k2.cell c1 (by have := HE.out.ord; intro h; rcases h with h | h | h | h <;> (simp only [] at h; omega))
        have hord := HE.out.ord
        have hspl : l.take i ++ p :: l.drop (i + 1) = l := (Ux.split_at hp).symm
        have hpre := HH.out.2.2.2.2.1
        have hup := HH.out.2.2.2.1
        rw [← hspl] at hpre hup
        have PR := Ux.pre_after hpre hup
        have hnext : after st (l.take (i + 1)) = (true, p.1) := by
          rw [List.take_add_one, hp]
          exact Ux.after_snoc st _ p
        obtain ⟨s1, hs1⟩ : ∃ s1, after st (l.take i) = s1 := ⟨_, rfl⟩
        rw [hs1] at k1 PR
        obtain ⟨met, lastk⟩ := s1
        obtain ⟨_, _, _, _, b4, _, b6, b7, b8⟩ := k1.cells
        obtain ⟨fo, fs, fl, fn⟩ := k1.free
        have n1 : ¬ bl = bo ∧ ¬ bs = bo ∧ ¬ bn = bo ∧ ¬ bs = bl ∧ ¬ bn = bl ∧ ¬ bn = bs := by omega
        have n2 : ¬ bo = bl ∧ ¬ bo = bs ∧ ¬ bo = bn ∧ ¬ bl = bs ∧ ¬ bl = bn ∧ ¬ bs = bn := by omega
        have p0 : (0 : Int) ≤ i := by omega
        have p1 : (i : Int) < m := by omega
        have p2 : c + i ≤ 1048576 + 64 := by omega
        have p3 : 0 ≤ c + i := by omega
        have hcmp : met = true → Op.bytesLess lastk.toList p.1.toList = true := fun h => PR h p (by simp)
        have STEP := Lib.hid (k1.setOk.step p.1 (c + i + 1))
        have TS : ∀ v, Ux.Touch (fun b => b = bo ∨ b = bs ∨ b = bl ∨ b = bn) w ((((wr.setCell ⟨bo, 0, none⟩ (.bool true)).setCell ⟨bl, 0, none⟩ (.string p.1)).setCell ⟨bs, 0, none⟩ (.bool true)).setCell ⟨bn, 0, none⟩ (.int .i64 v)) := fun v =>
          k2.trans (((((Ux.Touch.refl (fun b => b = bo ∨ b = bs ∨ b = bl ∨ b = bn) wr).setCell (p := ⟨bo, 0, none⟩) (fun _ => .inl rfl) _).setCell (p := ⟨bl, 0, none⟩) (fun _ => .inr (.inr (.inl rfl))) _).setCell (p := ⟨bs, 0, none⟩) (fun _ => .inr (.inl rfl)) _).setCell (p := ⟨bn, 0, none⟩) (fun _ => .inr (.inr (.inr rfl))) _) (fun _ _ h => h)
        have HTS := Lib.hid TS
        have HNX := Lib.hid hnext
        clear k1 k2 hil hp c1 hg1 hg2 hord hspl hpre hup PR hnext hs1 TS
        cases met
        · clear hcmp
          go_wp2
          go_roundg g'
          case measure => omega
          case rel =>
            refine ⟨i + 1, by go_num, by omega, ?_, HTS.out _⟩
            rw [HNX.out, show c + ((i + 1 : Nat) : Int) = c + i + 1 by omega]
            exact STEP.out
        · have hcmp' := hcmp rfl
          clear hcmp
          go_wp2
          go_roundg g'
          case measure => omega
          case rel =>
            refine ⟨i + 1, by go_num, by omega, ?_, HTS.out _⟩
            rw [HNX.out, show c + ((i + 1 : Nat) : Int) = c + i + 1 by omega]
            exact STEP.out
  · subst hr hn
    have NE := neq_same x
    have hle : (lev == deep) = false := by simpa using hl
    clear hl
    go_enter Try.func38, Try.ntmps38
    go_wp2_with fail
    refine Ux.wp_region_plan (fun _ w' => w'.cell? ⟨bt, 0, none⟩ = some (.pointer (some ⟨tb, 0, none⟩)) ∧ w'.cell? ⟨tb, 0, none⟩ = some (.int .i64 fan) ∧ w'.cell? ⟨tb, 2, none⟩ = some (.pointer (some ⟨x, 0, none⟩))) (.q [0] (.h false [2] (.q [3, 4] (.h false [5] (.e 1 true false (.q [6, 7, 8] (.h false [9] (.q [10, 11] (.h false [12] (.q [13, 14, 15] (.h false [17] (.q [18, 19] (.h false [20] (.q [21] (.e 16 true false (.q [22, 23, 24] (.line [])))))))))))))))))
      (by kernel_rfl) (by kernel_rfl) (by intro _ _ d _ _ h; cases d <;> exact h) ?hS ?_
    case hS => (intro c; cases c <;> (simp only [World.cell?_drew]; first | exact True.intro | (refine ⟨?_, ?_⟩ <;> assumption) | assumption | (repeat (first | assumption | (refine And.intro ?_ ?_)))))
    simp only [Ux.wpPlan, Ux.pickOps, Ux.keeps, List.getElem?_toArray, List.getElem?_cons_succ, List.getElem?_cons_zero]
    repeat (first
      | go_big_quiet_step (fail)
      | (with_reducible refine wpQuiet_nil ?_)
      | (refine Ux.quiet_held rfl ?_; apply Exists.intro; refine ⟨fun w' hS => ?_, ?_⟩; (focus ((try dsimp only at hS); go_simp; first | done | with_reducible rfl)); simp only [Act.put, List.setIfInBounds_toArray, List.set_cons_zero, List.set_cons_succ]))
    go_wp2_with (go_at_call 34; refine HSZ.out.mono ?_; rintro e w4 ⟨rfl, rfl⟩)
    refine ⟨⟨a0, a1, a2⟩, ?_⟩
    repeat (first
      | go_big_quiet_step (fail)
      | (with_reducible refine wpQuiet_nil ?_)
      | (refine Ux.quiet_held rfl ?_; apply Exists.intro; refine ⟨fun w' hS => ?_, ?_⟩; (focus ((try dsimp only at hS); go_simp; first | done | with_reducible rfl)); simp only [Act.put, List.setIfInBounds_toArray, List.set_cons_zero, List.set_cons_succ]))
    go_wp2_with (fail)
    refine ⟨⟨a0, a1, a2⟩, ?_⟩
    repeat (first
      | go_big_quiet_step (fail)
      | (with_reducible refine wpQuiet_nil ?_)
      | (refine Ux.quiet_held rfl ?_; apply Exists.intro; refine ⟨fun w' hS => ?_, ?_⟩; (focus ((try dsimp only at hS); go_simp; first | done | with_reducible rfl)); simp only [Act.put, List.setIfInBounds_toArray, List.set_cons_zero, List.set_cons_succ]))
    go_wp2_with (fail)
    refine Ux.wp_region_plan (fun _ w' => w'.cell? ⟨bo, 0, none⟩ = some (.bool true) ∧ w'.cell? ⟨bd, 0, none⟩ = some (.int .i64 deep) ∧ w'.cell? ⟨x, 0, none⟩ = some (.slice ka m kc) ∧ w'.cell? ⟨x, 1, none⟩ = some (.slice ra m rc) ∧ w'.cell? ⟨bt, 0, none⟩ = some (.pointer (some ⟨tb, 0, none⟩)) ∧ w'.cell? ⟨tb, 1, none⟩ = some (.int .i64 0)) (.h false [0] (.q [1, 2] (.h false [3] (.q [4, 5] (.h false [6] (.q [7, 8] (.h false [9] (.q [10, 11, 12, 13, 14, 15, 16, 19, 20, 21] (.h false [17, 22] (.q [18, 23, 24, 25] (.line [26])))))))))))
      (by kernel_rfl) (by kernel_rfl) (by intro _ _ d _ _ h; cases d <;> exact h) ?hS ?_
    case hS => (intro c; cases c <;> (simp only [World.cell?_drew]; first | exact True.intro | (refine ⟨?_, ?_⟩ <;> assumption) | assumption | (repeat (first | assumption | (refine And.intro ?_ ?_)))))
    simp only [Ux.wpPlan, Ux.pickOps, Ux.keeps, List.getElem?_toArray, List.getElem?_cons_succ, List.getElem?_cons_zero]
    repeat (first
      | go_big_quiet_step (fail)
      | (with_reducible refine wpQuiet_nil ?_)
      | (refine Ux.quiet_held rfl ?_; apply Exists.intro; refine ⟨fun w' hS => ?_, ?_⟩; (focus ((try dsimp only at hS); go_simp; first | done | with_reducible rfl)); simp only [Act.put, List.setIfInBounds_toArray, List.set_cons_zero, List.set_cons_succ]))
    go_wp2_with (fail)
    go_loopg [76] m (fun g s76 wr => ∃ i : Nat, s76 = .int .i64 i ∧ i + g = m ∧ ChkEnv wr bt tb bo bd bs bl bn bc fan 0 x deep (after st (l.take i)) (c + i) ∧ Ux.Touch (fun b => b = bo ∨ b = bs ∨ b = bl ∨ b = bn) w wr)
    case atStart => exact ⟨0, rfl, by omega, by simpa [Ux.after_nil] using HS.out.1, HS.out.2⟩
    case round =>
      clear a0 a1 a2 a3 a4 a5 a6 a7 a8 fo fs fl fn z0 z1 z2 NE q1 y1 y2 HSZ
      obtain ⟨i, rfl, hig, k1, k2⟩ := hrel
      rcases Nat.eq_zero_or_pos gk with h0 | h0
      · subst h0
        obtain rfl : i = m := by omega
        have HK := Lib.hid (And.intro k1 k2)
        have HM := Lib.hid HH.out.2.2.2.2.2
        clear k1 k2 hig
        go_wp2
        go_returns
        refine ⟨rfl, ?_, HK.out.2⟩
        have := HK.out.1
        rw [List.take_of_length_le (by rw [HM.out]; exact Nat.le_refl _)] at this
        rw [HM.out]
        exact this
      · obtain ⟨g', rfl⟩ : ∃ g', gk = g' + 1 := ⟨gk - 1, by omega⟩
        have hil : i < l.length := by rw [HH.out.2.2.2.2.2]; omega
        obtain ⟨p, hp⟩ : ∃ p, l[i]? = some p := ⟨l[i], List.getElem?_eq_getElem hil⟩
        obtain ⟨gx, rfl, c1, hg1, hg2⟩ := HKEY.out i p hp
        have c1' := k2.cell c1 (by have := HE.out.ord; intro h; rcases h with h | h | h | h <;> (simp only [] at h; omega))
        have hord := HE.out.ord
        have hspl : l.take i ++ p :: l.drop (i + 1) = l := (Ux.split_at hp).symm
        have hpre := HH.out.2.2.2.2.1
        have hup := HH.out.2.2.2.1
        rw [← hspl] at hpre hup
        have PR := Ux.pre_after hpre hup
        have hnext : after st (l.take (i + 1)) = (true, p.1) := by
          rw [List.take_add_one, hp]
          exact Ux.after_snoc st _ p
        obtain ⟨s1, hs1⟩ : ∃ s1, after st (l.take i) = s1 := ⟨_, rfl⟩
        rw [hs1] at k1 PR
        obtain ⟨met, lastk⟩ := s1
        obtain ⟨_, _, _, _, b4, _, b6, b7, b8⟩ := k1.cells
        obtain ⟨fo, fs, fl, fn⟩ := k1.free
        have n1 : ¬ bl = bo ∧ ¬ bs = bo ∧ ¬ bn = bo ∧ ¬ bs = bl ∧ ¬ bn = bl ∧ ¬ bn = bs := by omega
        have n2 : ¬ bo = bl ∧ ¬ bo = bs ∧ ¬ bo = bn ∧ ¬ bl = bs ∧ ¬ bl = bn ∧ ¬ bs = bn := by omega
        have p0 : (0 : Int) ≤ i := by omega
        have p1 : (i : Int) < m := by omega
        have p2 : c + i ≤ 1048576 + 64 := by omega
        have p3 : 0 ≤ c + i := by omega
        have hcmp : met = true → Op.bytesLess lastk.toList p.1.toList = true := fun h => PR h p (by simp)
        have STEP := Lib.hid (k1.setOk.step p.1 (c + i + 1))
        have TS : ∀ v, Ux.Touch (fun b => b = bo ∨ b = bs ∨ b = bl ∨ b = bn) w ((((wr.setCell ⟨bo, 0, none⟩ (.bool true)).setCell ⟨bl, 0, none⟩ (.string p.1)).setCell ⟨bs, 0, none⟩ (.bool true)).setCell ⟨bn, 0, none⟩ (.int .i64 v)) := fun v =>
          k2.trans (((((Ux.Touch.refl (fun b => b = bo ∨ b = bs ∨ b = bl ∨ b = bn) wr).setCell (p := ⟨bo, 0, none⟩) (fun _ => .inl rfl) _).setCell (p := ⟨bl, 0, none⟩) (fun _ => .inr (.inr (.inl rfl))) _).setCell (p := ⟨bs, 0, none⟩) (fun _ => .inr (.inl rfl)) _).setCell (p := ⟨bn, 0, none⟩) (fun _ => .inr (.inr (.inr rfl))) _) (fun _ _ h => h)
        have HTS := Lib.hid TS
        have HNX := Lib.hid hnext
        clear k1 k2 hil hp c1 hg1 hg2 hord hspl hpre hup PR hnext hs1 TS
        cases met
        · clear hcmp
          go_wp2
          go_roundg g'
          case measure => omega
          case rel =>
            refine ⟨i + 1, by go_num, by omega, ?_, HTS.out _⟩
            rw [HNX.out, show c + ((i + 1 : Nat) : Int) = c + i + 1 by omega]
            exact STEP.out
        · have hcmp' := hcmp rfl
          clear hcmp
          go_wp2
          go_roundg g'
          case measure => omega
          case rel =>
            refine ⟨i + 1, by go_num, by omega, ?_, HTS.out _⟩
            rw [HNX.out, show c + ((i + 1 : Nat) : Int) = c + i + 1 by omega]
            exact STEP.out
  · subst hl
    have NE := fun w' => neq_other x xr w' #[.slice ka m kc, .slice ra m rc, .slice none 0 0] cr hx
    have q2 : decide ((m : Int) < (fan : Int) / 2) = false := by have := HH.out.2.2.2.2.2; simp; omega
    have hx0 := HH.out.1
    clear hx hr
    go_enter Try.func38, Try.ntmps38
    go_wp2_with fail
    refine Ux.wp_region_plan (fun _ w' => w'.cell? ⟨bt, 0, none⟩ = some (.pointer (some ⟨tb, 0, none⟩)) ∧ w'.cell? ⟨tb, 0, none⟩ = some (.int .i64 fan) ∧ w'.cell? ⟨tb, 2, none⟩ = some (.pointer (some ⟨xr, 0, none⟩)) ∧ w'.heap[x]? = some (.cells #[.slice ka m kc, .slice ra m rc, .slice none 0 0] 62 (0, 0)) ∧ w'.heap[xr]? = some (.cells cr 62 (0, 0))) (.q [0] (.h false [2] (.q [3, 4] (.h false [5] (.e 1 true false (.q [6, 7, 8] (.h false [9] (.q [10, 11] (.h false [12] (.h false [13] (.q [14, 15] (.h false [17] (.q [18, 19] (.h false [20] (.q [21] (.e 16 true false (.q [22, 23, 24] (.line []))))))))))))))))))
      (by kernel_rfl) (by kernel_rfl) (by intro _ _ d _ _ h; cases d <;> exact h) ?hS ?_
    case hS => (intro c; cases c <;> (simp only [World.cell?_drew]; first | exact True.intro | (refine ⟨?_, ?_⟩ <;> assumption) | assumption | (repeat (first | assumption | (refine And.intro ?_ ?_)))))
    simp only [Ux.wpPlan, Ux.pickOps, Ux.keeps, List.getElem?_toArray, List.getElem?_cons_succ, List.getElem?_cons_zero]
    repeat (first
      | go_big_quiet_step (fail)
      | (with_reducible refine wpQuiet_nil ?_)
      | (refine Ux.quiet_held rfl ?_; apply Exists.intro; refine ⟨fun w' hS => ?_, ?_⟩; (focus ((try dsimp only at hS); go_simp; first | done | with_reducible rfl)); simp only [Act.put, List.setIfInBounds_toArray, List.set_cons_zero, List.set_cons_succ]))
    go_wp2_with (go_at_call 34; refine HSZ.out.mono ?_; rintro e w4 ⟨rfl, rfl⟩)
    refine ⟨⟨a0, a1, a2, hx0, hxr⟩, ?_⟩
    repeat (first
      | go_big_quiet_step (fail)
      | (with_reducible refine wpQuiet_nil ?_)
      | (refine Ux.quiet_held rfl ?_; apply Exists.intro; refine ⟨fun w' hS => ?_, ?_⟩; (focus ((try dsimp only at hS); go_simp; first | done | with_reducible rfl)); simp only [Act.put, List.setIfInBounds_toArray, List.set_cons_zero, List.set_cons_succ]))
    go_wp2_with (go_at_call 34; refine HSZ.out.mono ?_; rintro e w4 ⟨rfl, rfl⟩)
    refine ⟨⟨a0, a1, a2, hx0, hxr⟩, ?_⟩
    repeat (first
      | go_big_quiet_step (fail)
      | (with_reducible refine wpQuiet_nil ?_)
      | (refine Ux.quiet_held rfl ?_; apply Exists.intro; refine ⟨fun w' hS => ?_, ?_⟩; (focus ((try dsimp only at hS); go_simp; first | done | with_reducible rfl)); simp only [Act.put, List.setIfInBounds_toArray, List.set_cons_zero, List.set_cons_succ]))
    go_wp2_with (fail)
    refine Ux.wp_region_plan (fun _ w' => w'.cell? ⟨bo, 0, none⟩ = some (.bool true) ∧ w'.cell? ⟨bd, 0, none⟩ = some (.int .i64 lev) ∧ w'.cell? ⟨x, 0, none⟩ = some (.slice ka m kc) ∧ w'.cell? ⟨x, 1, none⟩ = some (.slice ra m rc)) (.h false [0] (.q [1, 2] (.h false [3] (.q [4, 5] (.h false [6] (.q [7, 8] (.h false [9] (.q [10, 11, 12, 13, 14, 15, 16, 19, 20, 21] (.h false [17, 22] (.q [18, 23, 24, 25] (.line [26])))))))))))
      (by kernel_rfl) (by kernel_rfl) (by intro _ _ d _ _ h; cases d <;> exact h) ?hS ?_
    case hS => (intro c; cases c <;> (simp only [World.cell?_drew]; first | exact True.intro | (refine ⟨?_, ?_⟩ <;> assumption) | assumption | (repeat (first | assumption | (refine And.intro ?_ ?_)))))
    simp only [Ux.wpPlan, Ux.pickOps, Ux.keeps, List.getElem?_toArray, List.getElem?_cons_succ, List.getElem?_cons_zero]
    repeat (first
      | go_big_quiet_step (fail)
      | (with_reducible refine wpQuiet_nil ?_)
      | (refine Ux.quiet_held rfl ?_; apply Exists.intro; refine ⟨fun w' hS => ?_, ?_⟩; (focus ((try dsimp only at hS); go_simp; first | done | with_reducible rfl)); simp only [Act.put, List.setIfInBounds_toArray, List.set_cons_zero, List.set_cons_succ]))
    go_wp2_with (fail)
    go_loopg [76] m (fun g s76 wr => ∃ i : Nat, s76 = .int .i64 i ∧ i + g = m ∧ ChkEnv wr bt tb bo bd bs bl bn bc fan n xr lev (after st (l.take i)) (c + i) ∧ Ux.Touch (fun b => b = bo ∨ b = bs ∨ b = bl ∨ b = bn) w wr)
    case atStart => exact ⟨0, rfl, by omega, by simpa [Ux.after_nil] using HS.out.1, HS.out.2⟩
    case round =>
      clear a0 a1 a2 a3 a4 a5 a6 a7 a8 fo fs fl fn z0 z1 z2 NE q1 q2 hx0 hxr y1 y2 HSZ
      obtain ⟨i, rfl, hig, k1, k2⟩ := hrel
      rcases Nat.eq_zero_or_pos gk with h0 | h0
      · subst h0
        obtain rfl : i = m := by omega
        have HK := Lib.hid (And.intro k1 k2)
        have HM := Lib.hid HH.out.2.2.2.2.2
        clear k1 k2 hig
        go_wp2
        go_returns
        refine ⟨rfl, ?_, HK.out.2⟩
        have := HK.out.1
        rw [List.take_of_length_le (by rw [HM.out]; exact Nat.le_refl _)] at this
        rw [HM.out]
        exact this
      · obtain ⟨g', rfl⟩ : ∃ g', gk = g' + 1 := ⟨gk - 1, by omega⟩
        have hil : i < l.length := by rw [HH.out.2.2.2.2.2]; omega
        obtain ⟨p, hp⟩ : ∃ p, l[i]? = some p := ⟨l[i], List.getElem?_eq_getElem hil⟩
        obtain ⟨gx, rfl, c1, hg1, hg2⟩ := HKEY.out i p hp
        have c1' := k2.cell c1 (by have := HE.out.ord; intro h; rcases h with h | h | h | h <;> (simp only [] at h; omega))
        have hord := HE.out.ord
        have hspl : l.take i ++ p :: l.drop (i + 1) = l := (Ux.split_at hp).symm
        have hpre := HH.out.2.2.2.2.1
        have hup := HH.out.2.2.2.1
        rw [← hspl] at hpre hup
        have PR := Ux.pre_after hpre hup
        have hnext : after st (l.take (i + 1)) = (true, p.1) := by
          rw [List.take_add_one, hp]
          exact Ux.after_snoc st _ p
        obtain ⟨s1, hs1⟩ : ∃ s1, after st (l.take i) = s1 := ⟨_, rfl⟩
        rw [hs1] at k1 PR
        obtain ⟨met, lastk⟩ := s1
        obtain ⟨_, _, _, _, b4, _, b6, b7, b8⟩ := k1.cells
        obtain ⟨fo, fs, fl, fn⟩ := k1.free
        have n1 : ¬ bl = bo ∧ ¬ bs = bo ∧ ¬ bn = bo ∧ ¬ bs = bl ∧ ¬ bn = bl ∧ ¬ bn = bs := by omega
        have n2 : ¬ bo = bl ∧ ¬ bo = bs ∧ ¬ bo = bn ∧ ¬ bl = bs ∧ ¬ bl = bn ∧ ¬ bs = bn := by omega
        have p0 : (0 : Int) ≤ i := by omega
        have p1 : (i : Int) < m := by omega
        have p2 : c + i ≤ 1048576 + 64 := by omega
        have p3 : 0 ≤ c + i := by omega
        have hcmp : met = true → Op.bytesLess lastk.toList p.1.toList = true := fun h => PR h p (by simp)
        have STEP := Lib.hid (k1.setOk.step p.1 (c + i + 1))
        have TS : ∀ v, Ux.Touch (fun b => b = bo ∨ b = bs ∨ b = bl ∨ b = bn) w ((((wr.setCell ⟨bo, 0, none⟩ (.bool true)).setCell ⟨bl, 0, none⟩ (.string p.1)).setCell ⟨bs, 0, none⟩ (.bool true)).setCell ⟨bn, 0, none⟩ (.int .i64 v)) := fun v =>
          k2.trans (((((Ux.Touch.refl (fun b => b = bo ∨ b = bs ∨ b = bl ∨ b = bn) wr).setCell (p := ⟨bo, 0, none⟩) (fun _ => .inl rfl) _).setCell (p := ⟨bl, 0, none⟩) (fun _ => .inr (.inr (.inl rfl))) _).setCell (p := ⟨bs, 0, none⟩) (fun _ => .inr (.inl rfl)) _).setCell (p := ⟨bn, 0, none⟩) (fun _ => .inr (.inr (.inr rfl))) _) (fun _ _ h => h)
        have HTS := Lib.hid TS
        have HNX := Lib.hid hnext
        clear k1 k2 hil hp c1 hg1 hg2 hord hspl hpre hup PR hnext hs1 TS
        cases met
        · clear hcmp
          go_wp2
          go_roundg g'
          case measure => omega
          case rel =>
            refine ⟨i + 1, by go_num, by omega, ?_, HTS.out _⟩
            rw [HNX.out, show c + ((i + 1 : Nat) : Int) = c + i + 1 by omega]
            exact STEP.out
        · have hcmp' := hcmp rfl
          clear hcmp
          go_wp2
          go_roundg g'
          case measure => omega
          case rel =>
            refine ⟨i + 1, by go_num, by omega, ?_, HTS.out _⟩
            rw [HNX.out, show c + ((i + 1 : Nat) : Int) = c + i + 1 by omega]
            exact STEP.out

end Go.Proofs.Ytdfgpminonpeaaa
