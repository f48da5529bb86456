/- PART OF THE PROOF THAT THIS CLAIM HOLDS OF THE GIVEN PROGRAM, FOR EVERY INPUT THAT THE STATEMENT NAMES. No condition besides the statement's own. -/
import Derived.Test.YtdfgpminonpeaaaLastZ
import Derived.Test.YtdfgpminonpeaaaRows
import Derived.WalkKit
import Derived.Handy
import Derived.Laws.EntriesVeiled
import Derived.WalkSpells
import Derived.WalkLawsBesides
import Derived.BigQuiet
import Derived.Deep.QuietTactic
import Derived.Deep.Cut
import Derived.Lib.Overlaps
import Derived.Laws.Externs
import Derived.Lib.Hide
import Derived.Test.YtdfgpminonpeaaaUxPlanAllZ
import Derived.Test.YtdfgpminonpeaaaUxTreeAllZ
import Derived.Deep.LoopGhost
namespace Go.Proofs.Ytdfgpminonpeaaa
open Go.RowKit
-- imports: YtdfgpminonpeaaaLast
open Ux (slt lb has Rises T NodeAt NodesAt Shp wayN blk ptr flat flats keys ins Up CurAt FrAt Fr frCells Stands Ctx ahead TypeIn Go1Rel CurLeft SeekRel seekN PrevRel)

/-- what a tree at its block gives to the walks -/
theorem TreeAt.deep {w : World} {tb fan : Nat} {l : List (ByteArray × Int)} {t : T} {d x : Nat} {fp : List Nat} (h : TreeAt w tb fan l t d x fp) (hl : l.length ≤ 1048576) : d ≤ 20 :=
  Ux.good_deep h.fan4 h.good h.root (by rw [h.is]; exact hl)
theorem TreeAt.fr {w : World} {tb fan : Nat} {l : List (ByteArray × Int)} {t : T} {d x : Nat} {fp : List Nat} (h : TreeAt w tb fan l t d x fp) : FrAt w fp t x := ⟨fp, h.node, fun _ hb => hb⟩
theorem TreeAt.cells {w : World} {tb fan : Nat} {l : List (ByteArray × Int)} {t : T} {d x : Nat} {fp : List Nat} (h : TreeAt w tb fan l t d x fp) : w.cell? ⟨tb, 0, none⟩ = some (.int .i64 fan) ∧ w.cell? ⟨tb, 1, none⟩ = some (.int .i64 l.length) ∧ w.cell? ⟨tb, 2, none⟩ = some (.pointer (some ⟨x, 0, none⟩)) := by
  refine ⟨?_, ?_, ?_⟩ <;> simp [cell_of_row w tb _ _ 64 (0, 0) h.cell]
theorem TreeAt.touch {w w' : World} {tb fan : Nat} {l : List (ByteArray × Int)} {t : T} {d x : Nat} {fp : List Nat} {R : Nat → Prop} (h : TreeAt w tb fan l t d x fp) (ht : Ux.Touch R w w') (h1 : ¬ R tb) (h2 : ∀ b ∈ fp, ¬ R b) : TreeAt w' tb fan l t d x fp :=
  ⟨ht.heap h.cell h1, h.node.touch ht h2, h.nodup, h.off, h.good, h.up, h.is, h.size, h.root, h.fan4, h.fan64⟩
theorem TreeAt.some {w : World} {tb fan : Nat} {l : List (ByteArray × Int)} {t : T} {d x : Nat} {fp : List Nat} (h : TreeAt w tb fan l t d x fp) : (l = [] ∧ t = .leaf [] ∧ d = 0) ∨ (l ≠ [] ∧ 1 ≤ t.size) := by
  cases d with
  | zero =>
    obtain ⟨l', e⟩ := h.good
    have := h.is
    subst e
    simp only [flat, Ux.flat] at this
    subst this
    cases l' with
    | nil => exact .inl ⟨rfl, rfl, rfl⟩
    | cons p l' => exact .inr ⟨by simp, by simp [T.size]⟩
  | succ d =>
    have h2 : 2 ≤ t.size := h.root.resolve_left (by omega)
    obtain ⟨p, hp⟩ := Ux.good_some h.fan4 h.good (by omega)
    rw [h.is] at hp
    exact .inr ⟨fun e => (by rw [e] at hp; cases hp), by omega⟩

theorem seekT {w : World} {tb fan : Nat} {l : List (ByteArray × Int)} {t : T} {d x : Nat} {fp : List Nat} (h : TreeAt w tb fan l t d x fp) (hl : l.length ≤ 1048576) (k : ByteArray) (over : Bool) :
    Calls Try.prog 11 #[.pointer (some ⟨tb, 0, none⟩), .string k, .bool over] w (SeekPost w t fp (seekN l k over)) := by
  have := seek11 fan d t tb x fp k over w h.fan4 h.fan64 h.good h.size (by have := h.deep hl; omega) (by rw [h.is]; exact h.up) h.cells.2.2 h.fr h.node.lt
  rwa [h.is] at this

theorem lastT {w : World} {tb fan : Nat} {l : List (ByteArray × Int)} {t : T} {d x : Nat} {fp : List Nat} (h : TreeAt w tb fan l t d x fp) (hl : l.length ≤ 1048576) :
    Calls Try.prog 16 #[.pointer (some ⟨tb, 0, none⟩)] w (LastPost w t fp (if l = [] then none else some (l.length - 1))) := by
  rcases h.some with ⟨e, _⟩ | ⟨e, h1⟩
  · rw [if_pos e]
    have := h.cells.2.1
    rw [e] at this
    exact last16_none tb fan x t fp w this
  · rw [if_neg e]
    have := last16 fan d t tb x l.length fp w h.fan4 h.fan64 h.good h.size (by have := h.deep hl; omega) h1 h.cells.2.1 (by have : l.length ≠ 0 := fun e' => e (List.eq_nil_of_length_eq_zero e'); omega) h.cells.2.2 h.fr h.node.lt
    rwa [h.is] at this

/-- a cursor upon a tree: what its calls need -/
structure CurOk (w : World) (tb fan : Nat) (l : List (ByteArray × Int)) (t : T) (d x : Nat) (fp : List Nat) (cb : Nat) (o : Option Nat) (fc : List Nat) : Prop where
  tree : TreeAt w tb fan l t d x fp
  few : l.length ≤ 1048576
  cur : CurAt w cb t fp o fc

theorem CurOk.off {w : World} {tb fan : Nat} {l : List (ByteArray × Int)} {t : T} {d x : Nat} {fp : List Nat} {cb : Nat} {o : Option Nat} {fc : List Nat} (h : CurOk w tb fan l t d x fp cb o fc) : (∀ b ∈ fp, b ∉ fc) ∧ tb ∉ fc := by
  refine ⟨fun b hb hc => (h.tree.node.types b hb).ne (h.cur.types b hc) (by decide) rfl, fun hc => ?_⟩
  exact (TypeIn.ne (ts := [64]) ⟨_, _, h.tree.cell, by simp⟩ (h.cur.types tb hc) (by decide)) rfl

theorem CurOk.touch {w w' : World} {tb fan : Nat} {l : List (ByteArray × Int)} {t : T} {d x : Nat} {fp : List Nat} {cb : Nat} {o : Option Nat} {fc : List Nat} {R : Nat → Prop} (h : CurOk w tb fan l t d x fp cb o fc) (ht : Ux.Touch R w w') (h1 : ¬ R tb) (h2 : ∀ b ∈ fp, ¬ R b) (h3 : ∀ b ∈ fc, ¬ R b) : CurOk w' tb fan l t d x fp cb o fc :=
  ⟨h.tree.touch ht h1 h2, h.few, h.cur.touch ht h3 h2⟩

theorem CurOk.left {w w' : World} {tb fan : Nat} {l : List (ByteArray × Int)} {t : T} {d x : Nat} {fp : List Nat} {cb : Nat} {o o' : Option Nat} {fc : List Nat} (h : CurOk w tb fan l t d x fp cb o fc) (hl : CurLeft w cb t fp fc o' w') :
    ∃ fc', CurOk w' tb fan l t d x fp cb o' fc' ∧ (∀ b ∈ fc', b ∈ fc ∨ w.heap.size ≤ b) ∧ Ux.Touch (fun b => b ∈ fc) w w' := by
  obtain ⟨fc', h1, h2, h3⟩ := hl
  exact ⟨fc', ⟨h.tree.touch h3 h.off.2 h.off.1, h.few, h1⟩, h2, h3⟩

theorem CurOk.lt {w : World} {tb fan : Nat} {l : List (ByteArray × Int)} {t : T} {d x : Nat} {fp : List Nat} {cb q : Nat} {fc : List Nat} (h : CurOk w tb fan l t d x fp cb (some q) fc) : q < l.length := by
  obtain ⟨_, _, _, _, _, _, h5⟩ := h.cur
  have := h5.lt
  rwa [h.tree.is] at this

theorem keyT {w : World} {tb fan : Nat} {l : List (ByteArray × Int)} {t : T} {d x : Nat} {fp : List Nat} {cb q : Nat} {fc : List Nat} (h : CurOk w tb fan l t d x fp cb (some q) fc) (p : ByteArray × Int) (hp : l[q]? = some p) :
    (Calls Try.prog 13 #[.pointer (some ⟨cb, 0, none⟩)] w fun e w' => e = .returned (.string p.1) ∧ Ux.Touch (fun _ => False) w w') ∧
    (Calls Try.prog 18 #[.pointer (some ⟨cb, 0, none⟩)] w fun e w' => e = .returned (.int .i64 p.2) ∧ Ux.Touch (fun _ => False) w w') :=
  key13 h.cur h.tree.fan4 h.tree.fan64 h.tree.good h.tree.size (by have := h.tree.deep h.few; omega) p (by rw [h.tree.is]; exact hp)

theorem keyT_none {w : World} {tb fan : Nat} {l : List (ByteArray × Int)} {t : T} {d x : Nat} {fp : List Nat} {cb : Nat} {fc : List Nat} (h : CurOk w tb fan l t d x fp cb none fc) :
    (Calls Try.prog 13 #[.pointer (some ⟨cb, 0, none⟩)] w fun e w' => e = .returned (.string ⟨#[]⟩) ∧ w = w') ∧ (Calls Try.prog 18 #[.pointer (some ⟨cb, 0, none⟩)] w fun e w' => e = .returned (.int .i64 0) ∧ w = w') := by
  obtain ⟨st, lv, h1, h2, rfl, h4, h5⟩ := h.cur
  have hs : st = [] := h5
  subst hs
  have c0 : w.cell? ⟨cb, 0, none⟩ = some lv := by rw [cell_of_row w cb 0 _ 75 (0, 0) h1]; rfl
  rcases h2.2 with ⟨rfl, _⟩ | ⟨g, c, cur, rfl, _⟩
  · exact key13_none cb none 0 w c0
  · exact key13_none cb _ c w c0

/-- the next place, if there is one -/
def nextO (n : Nat) (o : Option Nat) : Option Nat := o.bind fun q => if q + 1 < n then some (q + 1) else none
def prevO (o : Option Nat) : Option Nat := o.bind fun q => if q = 0 then none else some (q - 1)

theorem go1T {w : World} {tb fan : Nat} {l : List (ByteArray × Int)} {t : T} {d x : Nat} {fp : List Nat} {cb : Nat} {o : Option Nat} {fc : List Nat} (h : CurOk w tb fan l t d x fp cb o fc) :
    Calls Try.prog 37 #[.pointer (some ⟨cb, 0, none⟩)] w fun e w' => e = .returned (.tuple #[]) ∧ CurLeft w cb t fp fc (nextO l.length o) w' := by
  have hd := h.tree.deep h.few
  have hoff := h.off
  obtain ⟨st, lv, h1, h2, rfl, h4, h5⟩ := h.cur
  cases o with
  | none =>
    have hs : st = [] := h5
    subst hs
    refine (go1_37 fan d t cb fp _ (flat t).length 0 w h.tree.fan4 h.tree.fan64 h.tree.good h.tree.size (by omega) (by simp) hoff.1 (by omega) ⟨lv, _, h1, h2, fun b hb => .inl (by simp [hb]), Ux.Touch.refl _ _, .inl ⟨rfl, rfl⟩⟩).mono fun e w' ⟨he, hl⟩ => ⟨he, ?_⟩
    rw [if_neg (by omega)] at hl
    exact hl
  | some q =>
    obtain ⟨pre, ll, y, i, a, b, rfl, hi, hc, rfl⟩ := h5
    have hlen := hc.good h.tree.fan4 h.tree.good h.tree.size
    obtain ⟨d', _, hdd, _, _⟩ := hlen
    refine (go1_37 fan d t cb fp _ (a.length + i + 1) (pre.length + 1) w h.tree.fan4 h.tree.fan64 h.tree.good h.tree.size (by omega) (by simp) hoff.1 (by omega) ⟨lv, _, h1, by simpa using h2, fun b hb => .inl (by simp [hb]), Ux.Touch.refl _ _, .inr ⟨pre, .leaf ll, y, i + 1, a, b, rfl, ?_, fun f hf => h4 f (by simp [hf]), h4 (.leaf ll, y, i) (by simp), hc, hi, rfl⟩⟩).mono fun e w' ⟨he, hl⟩ => ⟨he, ?_⟩
    · rw [Ux.frCells_snoc]
      simp
    · rw [h.tree.is] at hl
      exact hl

/-- what Next leaves, and Prev -/
def StepPost (w : World) (cb : Nat) (t : T) (fp fc : List Nat) (o : Option Nat) (e : Ending) (w' : World) : Prop := e = .returned (.bool o.isSome) ∧ CurLeft w cb t fp fc o w'

set_option maxHeartbeats 1000000 in
theorem nextT {w : World} {tb fan : Nat} {l : List (ByteArray × Int)} {t : T} {d x : Nat} {fp : List Nat} {cb : Nat} {o : Option Nat} {fc : List Nat} (h : CurOk w tb fan l t d x fp cb o fc) :
    Calls Try.prog 14 #[.pointer (some ⟨cb, 0, none⟩)] w (StepPost w cb t fp fc (nextO l.length o)) := by
  have G := go1T h
  have O : ∀ w', CurLeft w cb t fp fc (nextO l.length o) w' → Calls Try.prog 12 #[.pointer (some ⟨cb, 0, none⟩)] w' fun e w'' => e = .returned (.bool (nextO l.length o).isSome) ∧ w' = w'' := fun w' hl => by
    obtain ⟨fc', h1, _⟩ := hl
    exact ok12 h1
  have HGG := Lib.hid G
  have HO := Lib.hid O
  clear G O h
  obtain ⟨o', ho'⟩ : ∃ o', nextO l.length o = o' := ⟨_, rfl⟩
  rw [ho'] at HGG HO
  rw [ho']
  clear ho'
  go_enter Try.func14, Try.ntmps14
  go_wp2_with (first | (go_at_call 37; refine HGG.out.mono ?_; rintro e w1 ⟨rfl, hl⟩; have HL := Lib.hid hl; clear hl) | (go_at_call 12; refine (HO.out _ HL.out).mono ?_; rintro e w2 ⟨rfl, rfl⟩))
  go_ret
  exact ⟨rfl, HL.out⟩

theorem prevT {w : World} {tb fan : Nat} {l : List (ByteArray × Int)} {t : T} {d x : Nat} {fp : List Nat} {cb : Nat} {o : Option Nat} {fc : List Nat} (h : CurOk w tb fan l t d x fp cb o fc) :
    Calls Try.prog 19 #[.pointer (some ⟨cb, 0, none⟩)] w (StepPost w cb t fp fc (prevO o)) := by
  have hd := h.tree.deep h.few
  have hoff := h.off
  obtain ⟨st, lv, h1, h2, rfl, h4, h5⟩ := h.cur
  cases o with
  | none =>
    have hs : st = [] := h5
    subst hs
    refine (prev19 fan d t cb fp _ 0 0 w h.tree.fan4 h.tree.fan64 h.tree.good h.tree.size (by omega) (by simp) hoff.1 (by omega) ⟨lv, _, h1, h2, fun b hb => .inl (by simp [hb]), Ux.Touch.refl _ _, .inl ⟨rfl, rfl⟩⟩).mono fun e w' hp => ?_
    rcases hp with ⟨_, he, hl⟩ | ⟨q, e, _⟩
    · exact ⟨he, hl⟩
    · omega
  | some q =>
    obtain ⟨pre, ll, y, i, a, b, rfl, hi, hc, rfl⟩ := h5
    obtain ⟨d', _, hdd, _, _⟩ := hc.good h.tree.fan4 h.tree.good h.tree.size
    refine (prev19 fan d t cb fp _ (a.length + i) (pre.length + 1) w h.tree.fan4 h.tree.fan64 h.tree.good h.tree.size (by omega) (by simp) hoff.1 (by omega) ⟨lv, _, h1, by simpa using h2, fun b hb => .inl (by simp [hb]), Ux.Touch.refl _ _, .inr ⟨pre, .leaf ll, y, i, a, b, rfl, rfl, fun f hf => h4 f (by simp [hf]), h4 (.leaf ll, y, i) (by simp), hc, hi, rfl⟩⟩).mono fun e w' hp => ?_
    have hn : prevO (some (a.length + i)) = if a.length + i = 0 then none else some (a.length + i - 1) := rfl
    rcases hp with ⟨h0, he, hl⟩ | ⟨q, hq, he, hl⟩
    · rw [hn, if_pos h0]
      exact ⟨he, hl⟩
    · rw [hn, if_neg (by omega), hq]
      exact ⟨he, hl⟩

/-- what Get gives -/
def getV (l : List (ByteArray × Int)) (k : ByteArray) : Int := if has (keys l) k = true then ((l[lb (keys l) k]?).map (·.2)).getD 0 else 0

set_option maxHeartbeats 2000000 in
set_option maxRecDepth 100000 in
theorem getT {w : World} {tb fan : Nat} {l : List (ByteArray × Int)} {t : T} {d x : Nat} {fp : List Nat} (h : TreeAt w tb fan l t d x fp) (hl : l.length ≤ 1048576) (k : ByteArray) :
    Calls Try.prog 17 #[.pointer (some ⟨tb, 0, none⟩), .string k] w fun e w' => e = .returned (.tuple #[.int .i64 (getV l k), .bool (has (keys l) k)]) ∧ Ux.Touch (fun _ => False) w w' := by
  have S := seekT h hl k false
  have hq : seekN l k false = lb (keys l) k := by unfold seekN; simp
  rw [hq] at S
  have hle := Ux.lb_le (keys l) k
  rw [Ux.keys_length] at hle
  have hgv : getV l k = if has (keys l) k = true then ((l[lb (keys l) k]?).map (·.2)).getD 0 else 0 := rfl
  have hhas : has (keys l) k = decide ((keys l)[lb (keys l) k]? = some k) := rfl
  rw [Ux.getElem?_keys] at hhas
  obtain ⟨q, hqq⟩ : ∃ q, lb (keys l) k = q := ⟨_, rfl⟩
  obtain ⟨V, hV⟩ : ∃ V, getV l k = V := ⟨_, rfl⟩
  obtain ⟨B, hB⟩ : ∃ B, has (keys l) k = B := ⟨_, rfl⟩
  rw [hqq] at S hle hgv hhas
  rw [hV, hB] at hgv
  rw [hB] at hhas
  rw [hV, hB]
  have HS := Lib.hid S
  have HT := Lib.hid h
  have HLL := Lib.hid hl
  have HGV := Lib.hid hgv
  have HHS := Lib.hid hhas
  clear S h hq hgv hhas hqq hV hB hl
  rcases Nat.lt_or_ge q l.length with hlt | hge
  · obtain ⟨p, hp⟩ : ∃ p, l[q]? = some p := ⟨l[q], List.getElem?_eq_getElem hlt⟩
    have HP := Lib.hid hp
    have HLT := Lib.hid hlt
    clear hlt hle hp
    by_cases hk : p.1 = k
    · have hB' : B = true := by rw [HHS.out, HP.out]; simp [hk]
      have hV' : V = p.2 := by rw [HGV.out, hB', HP.out]; rfl
      subst hB' hV'
      subst hk
      go_enter Try.func17, Try.ntmps17
      go_wp2_with (go_at_call 11; fail)
      refine HS.out.mono ?_
      rintro e w1 ⟨cb, fc, rfl, hc, hfc, T1⟩
      rw [HT.out.is, if_pos HLT.out] at hc
      have C1 : CurOk w1 tb fan l t d x fp cb (some q) fc := ⟨HT.out.touch T1 (fun f => f) (fun _ _ f => f), HLL.out, hc⟩
      have O := Lib.hid (ok12 hc)
      have KY := Lib.hid (keyT C1 p HP.out)
      have HC1 := Lib.hid C1
      have HT1 := Lib.hid T1
      clear hc hfc T1 C1
      go_wp2_with (first | (go_at_call 12; refine O.out.mono ?_; rintro e w2 ⟨rfl, rfl⟩) | (go_at_call 13; fail))
      refine KY.out.1.mono ?_
      rintro e w2 ⟨rfl, T2⟩
      have R := Lib.hid (keyT (HC1.out.touch T2 (fun f => f) (fun _ _ f => f) (fun _ _ f => f)) p HP.out).2
      have HT2 := Lib.hid T2
      clear T2
      go_wp2_with (go_at_call 18; refine R.out.mono ?_; rintro e w3 ⟨rfl, T3⟩; have HT3 := Lib.hid T3; clear T3)
      go_ret2
      exact ⟨rfl, HT1.out.trans (HT2.out.trans HT3.out (fun _ _ f => f)) (fun _ _ f => f)⟩
    · have hB' : B = false := by rw [HHS.out, HP.out]; simp [hk]
      have hV' : V = 0 := by rw [HGV.out, hB']; rfl
      subst hB' hV'
      have hne : (p.1.toList == k.toList) = false := by
        rw [beq_eq_false_iff_ne]
        intro h
        exact hk (Ux.ba_ext h)
      clear hk
      go_enter Try.func17, Try.ntmps17
      go_wp2_with (go_at_call 11; fail)
      refine HS.out.mono ?_
      rintro e w1 ⟨cb, fc, rfl, hc, hfc, T1⟩
      rw [HT.out.is, if_pos HLT.out] at hc
      have C1 : CurOk w1 tb fan l t d x fp cb (some q) fc := ⟨HT.out.touch T1 (fun f => f) (fun _ _ f => f), HLL.out, hc⟩
      have O := Lib.hid (ok12 hc)
      have KY := Lib.hid (keyT C1 p HP.out)
      have HT1 := Lib.hid T1
      clear hc hfc T1 C1
      go_wp2_with (first | (go_at_call 12; refine O.out.mono ?_; rintro e w2 ⟨rfl, rfl⟩) | (go_at_call 13; refine KY.out.1.mono ?_; rintro e w2 ⟨rfl, T2⟩; have HT2 := Lib.hid T2; clear T2))
      go_ret2
      exact ⟨rfl, HT1.out.trans HT2.out (fun _ _ f => f)⟩
  · have hB' : B = false := by rw [HHS.out, List.getElem?_eq_none hge]; simp
    have hV' : V = 0 := by rw [HGV.out, hB']; rfl
    subst hB' hV'
    have HGE := Lib.hid hge
    clear hge hle
    go_enter Try.func17, Try.ntmps17
    go_wp2_with (go_at_call 11; fail)
    refine HS.out.mono ?_
    rintro e w1 ⟨cb, fc, rfl, hc, hfc, T1⟩
    rw [HT.out.is, if_neg (by have := HGE.out; omega)] at hc
    have O := Lib.hid (ok12 hc)
    have HT1 := Lib.hid T1
    clear hc hfc T1
    go_wp2_with (go_at_call 12; refine O.out.mono ?_; rintro e w2 ⟨rfl, rfl⟩)
    go_ret2
    exact ⟨rfl, HT1.out⟩

set_option maxHeartbeats 1000000 in
theorem depth24_none (tb : Nat) (w : World) (c1 : w.cell? ⟨tb, 1, none⟩ = some (.int .i64 0)) : Calls Try.prog 24 #[.pointer (some ⟨tb, 0, none⟩)] w fun e w' => e = .returned (.int .i64 0) ∧ w = w' := by
  go_enter Try.func24, Try.ntmps24
  go_wp2
  go_ret
  exact ⟨rfl, rfl⟩

/-- d nodes below y, down to a leaf -/
def DepRel (fan : Nat) (w : World) (FP : List Nat) (g y : Nat) : Prop := ∃ t, FrAt w FP t y ∧ Ux.Good fan g t ∧ t.size ≤ fan

set_option maxHeartbeats 1000000 in
theorem depth24 (fan d : Nat) (root : T) (tb x : Nat) (n : Int) (FP : List Nat) (w : World) (hf : 4 ≤ fan) (h64 : fan ≤ 64) (hg : Ux.Good fan d root) (hs : root.size ≤ fan) (hd : d ≤ 1000)
    (c1 : w.cell? ⟨tb, 1, none⟩ = some (.int .i64 n)) (hn : n ≠ 0) (c2 : w.cell? ⟨tb, 2, none⟩ = some (.pointer (some ⟨x, 0, none⟩))) (hx : FrAt w FP root x) :
    Calls Try.prog 24 #[.pointer (some ⟨tb, 0, none⟩)] w fun e w' => e = .returned (.int .i64 ((d : Int) + 1)) ∧ w = w' := by
  have HR := Lib.hid (show DepRel fan w FP d x from ⟨root, hx, hg, hs⟩)
  have HF := Lib.hid (And.intro hf h64)
  have hne : (n == 0) = false := by simpa using hn
  have hd' : (d : Int) ≤ 1000 := by omega
  clear hf h64 hg hs hx hd hn
  go_enter Try.func24, Try.ntmps24
  go_wp2
  go_loopg [3, 4] d (fun g s3 s4 wr => wr = w ∧ ∃ y, s4 = .pointer (some ⟨y, 0, none⟩) ∧ s3 = .int .i64 ((d : Int) - g + 1) ∧ (g : Int) ≤ d ∧ DepRel fan w FP g y)
  case atStart => exact ⟨rfl, x, rfl, by simp, Int.le_refl _, HR.out⟩
  case round =>
    clear c1 c2 HR hne
    obtain ⟨rfl, y, rfl, rfl, hgd, t, k1, k2, k3⟩ := hrel
    cases t with
    | leaf l =>
      obtain ⟨rfl⟩ : gk = 0 := by
        cases gk with
        | zero => rfl
        | succ g => obtain ⟨_, _, e, _⟩ := k2; cases e
      have c2 := k1.leaf.1
      clear k1 k2 k3
      go_wp2
      go_ret
      exact ⟨by simp, rfl⟩
    | node ks cs =>
      obtain ⟨g', rfl⟩ : ∃ g', gk = g' + 1 := by
        cases gk with
        | zero => obtain ⟨l, e⟩ := k2; cases e
        | succ g' => exact ⟨g', rfl⟩
      obtain ⟨ks', cs', e, hl, _, h3⟩ := k2
      cases e
      obtain ⟨c, hc⟩ : ∃ c, cs[0]? = some c := ⟨cs[0], List.getElem?_eq_getElem (by omega)⟩
      obtain ⟨gc, _, hcs⟩ := h3 c (List.mem_of_getElem? hc)
      obtain ⟨gx, cx, z, m0, m1, hz, m3, m4, _, hgF⟩ := k1.kid hc
      obtain ⟨N, hN⟩ : ∃ N, cs.length = N := ⟨_, rfl⟩
      rw [hN] at m0
      have p0 : (0 : Int) < N := by omega
      have p1 : (N : Int) ≤ 64 := by have := HF.out.2; have : cs.length ≤ fan := k3; omega
      have m1' : wr.cell? ⟨gx, 0, none⟩ = some (.pointer (some ⟨z, 0, none⟩)) := m1
      have HREL := Lib.hid (show DepRel fan wr FP g' z from ⟨c, hz, gc, hcs⟩)
      clear k1 k3 hl h3 hc gc hcs hz m1 m3 m4 hgF hN
      go_wp2
      go_roundg g'
      case measure => omega
      case rel => exact ⟨rfl, z, rfl, by congr 1; omega, by omega, HREL.out⟩

theorem depthT {w : World} {tb fan : Nat} {l : List (ByteArray × Int)} {t : T} {d x : Nat} {fp : List Nat} (h : TreeAt w tb fan l t d x fp) (hl : l.length ≤ 1048576) :
    Calls Try.prog 24 #[.pointer (some ⟨tb, 0, none⟩)] w fun e w' => e = .returned (.int .i64 ((if l = [] then 0 else d + 1 : Nat) : Int)) ∧ w = w' := by
  rcases h.some with ⟨e, _⟩ | ⟨e, h1⟩
  · rw [if_pos e]
    have := h.cells.2.1
    rw [e] at this
    exact depth24_none tb w this
  · rw [if_neg e]
    exact depth24 fan d t tb x l.length fp w h.fan4 h.fan64 h.good h.size (by have := h.deep hl; omega) h.cells.2.1 (by have : l.length ≠ 0 := fun e' => e (List.eq_nil_of_length_eq_zero e'); omega) h.cells.2.2 h.fr

end Go.Proofs.Ytdfgpminonpeaaa
