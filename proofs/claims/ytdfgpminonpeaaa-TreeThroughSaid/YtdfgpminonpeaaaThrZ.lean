/- PART OF THE PROOF THAT TreeThroughSaid HOLDS OF THE GIVEN PROGRAM, FOR EVERY INPUT THAT THE STATEMENT NAMES. No condition besides the statement's own. -/
import Derived.Test.YtdfgpminonpeaaaUxThrZ
import Derived.Test.YtdfgpminonpeaaaAwakeZ
import Derived.Test.YtdfgpminonpeaaaAppZ
import Derived.Test.YtdfgpminonpeaaaRows
import Derived.WalkKit
import Derived.Handy
import Derived.Laws.EntriesVeiled
import Derived.WalkSpells
import Derived.WalkLawsBesides
import Derived.BigQuiet
import Derived.Deep.QuietTactic
import Derived.Deep.Cut
import Derived.Lib.Overlaps
import Derived.Laws.Externs
import Derived.Lib.Hide
import Derived.Test.YtdfgpminonpeaaaUxPlanZ
import Derived.Test.YtdfgpminonpeaaaUxHeapZ
import Derived.Test.YtdfgpminonpeaaaUxOrdZ
import Derived.Deep.LoopGhost
namespace Go.Proofs.Ytdfgpminonpeaaa
open Go.RowKit
-- imports: UxThr YtdfgpminonpeaaaAwake YtdfgpminonpeaaaApp
open Ux (slt lb has Rises T NodeAt NodesAt Shp wayN blk ptr flat flats keys ins Up CurAt FrAt CurLeft seekN putAll)

theorem HasTree.up {w : World} {tb fan : Nat} {l : List (ByteArray × Int)} {N : Nat} (h : HasTree w tb fan l N) : Up l := by
  obtain ⟨_, t, d, x, fp, h2, _⟩ := h
  exact h2.up
theorem get_at {l : List (ByteArray × Int)} (hu : Up l) {i : Nat} {p : ByteArray × Int} (h : l[i]? = some p) : has (keys l) p.1 = true ∧ getV l p.1 = p.2 := by
  have hk : (keys l)[i]? = some p.1 := by rw [Ux.getElem?_keys, h]; rfl
  have h1 := Ux.has_self hu.rises hk
  refine ⟨h1, ?_⟩
  unfold getV
  rw [if_pos h1, Ux.lb_self hu.rises hk, h]
  rfl
theorem seek_first (l : List (ByteArray × Int)) : seekO l (⟨#[]⟩ : ByteArray) false = if 0 < l.length then some 0 else none := by
  have : seekN l (⟨#[]⟩ : ByteArray) false = 0 := by unfold seekN; rw [Ux.lb_empty]; simp
  unfold seekO
  rw [this]

theorem sinfo : (Try.prog.info? 9).map (fun i => (i.zero, i.size, i.bytes)) = some (some (.string ⟨#[]⟩), 1, 16) := by kernel_rfl

/-- one string more -/
theorem pushS (w W0 : World) (lv : Value) (n : Nat) (xs : List Value) (u : ByteArray) (vb : Nat) (hown : w.ownsRow 0 9 1 lv n xs) (hW0 : Ux.Touch (fun _ => False) w W0) (hv : W0.heap[vb]? = some (.cells #[.string u] 9 (0, 0))) (hn : n ≤ 1000000) :
    ∃ g c w', (∀ ty, (Builtin.append_ #[22, 22] ty #[lv, .slice (some ⟨vb, 0, none⟩) 1 1]).run Try.prog W0 = .ok (.slice (some ⟨g, 0, none⟩) (n + 1) c) w') ∧ w'.ownsRow 0 9 1 (.slice (some ⟨g, 0, none⟩) (n + 1) c) (n + 1) (xs ++ [.string u]) ∧
      Ux.Touch (fun k => lv.ownBlock = some k) w w' ∧ (lv.ownBlock = some g ∨ w.heap.size ≤ g) := by
  obtain ⟨i0, hi0, hz0, hz1, hz2⟩ := info_parts sinfo
  have hsrc : Src Try.prog 1 22 (.slice (some ⟨vb, 0, none⟩) 1 1) 1 [.string u] W0 := Src.ofSlice W0 Try.underlying22 ⟨vb, 0, none⟩ 1 1 [.string u] rfl (fun j v hj => by
    rw [Addr.add_lit, Nat.zero_add, cell_of_row W0 vb _ _ 9 (0, 0) hv]
    simpa using hj) (by intro v hv; simp at hv; subst hv; rfl)
  have key := fun ty => Ux.run_app (P := Try.prog) W0 22 ty 9 i0 _ 1 16 Try.underlying22 hi0 hz0 hz1 hz2 rfl (by omega) lv n xs (Ux.own_touch hown hW0 (fun _ _ f => f)) _ 1 [.string u] hsrc (le_maxLen (by omega)) (by omega)
  obtain ⟨r, w', hr, ho, ht, hbk, _⟩ := key 22
  obtain ⟨g, c, cur, rfl, _, _, _, _, _⟩ := Ux.own_pos ho (by omega)
  exact ⟨g, c, w', fun ty => hr, ho, (hW0.mono (fun _ _ f => f.elim) : Ux.Touch (fun k => lv.ownBlock = some k) w W0).trans ht (fun b _ h => h), hbk.elim (fun h => .inl h.symm) (fun ⟨g', h, h'⟩ => .inr (by cases h; exact Nat.le_trans hW0.size h'))⟩

/-- the keys told so far -/
def ThrRel (W : World) (tb F : Nat) (L : List (ByteArray × Int)) (N M cb : Nat) (q : Nat) (s8 : Value) (wr : World) : Prop :=
  ∃ fc, wr.ownsRow 0 9 1 s8 q (((keys L).take q).map .string) ∧ (∀ b ∈ blk s8, M ≤ b) ∧ HasCur wr tb F L N M cb (if q < L.length then some q else none) fc ∧ (∀ b ∈ fc, M ≤ b) ∧ Ux.Touch (fun b => N ≤ b) W wr

theorem thr_step {W wr wa w3 : World} {tb F : Nat} {L : List (ByteArray × Int)} {N M cb q g c : Nat} {s8 : Value} {p : ByteArray × Int} {fc : List Nat} (hNM : N ≤ M) (hq : q < L.length) (hp : L[q]? = some p)
    (h1 : ∀ b ∈ blk s8, M ≤ b) (h3 : ∀ b ∈ fc, M ≤ b) (h4 : Ux.Touch (fun b => N ≤ b) W wr) (hM : M ≤ wr.heap.size)
    (oa : wa.ownsRow 0 9 1 (.slice (some ⟨g, 0, none⟩) (q + 1) c) (q + 1) (((keys L).take q).map .string ++ [.string p.1])) (ta : Ux.Touch (fun k => s8.ownBlock = some k) wr wa) (ba : s8.ownBlock = some g ∨ wr.heap.size ≤ g)
    (hfc : ∀ b ∈ fc, Ux.TypeIn wa b [75, 77])
    (hs : ∃ fc', HasCur w3 tb F L N M cb (nextO L.length (some q)) fc' ∧ (∀ b ∈ fc', b ∈ fc ∨ wa.heap.size ≤ b) ∧ Ux.Touch (fun b => b ∈ fc) wa w3) :
    ThrRel W tb F L N M cb (q + 1) (.slice (some ⟨g, 0, none⟩) (q + 1) c) w3 := by
  obtain ⟨fc', c3, f3, t3⟩ := hs
  have hka : (((keys L).take (q + 1)).map Value.string) = ((keys L).take q).map .string ++ [.string p.1] := by
    have : (keys L)[q]? = some p.1 := by rw [Ux.getElem?_keys, hp]; rfl
    rw [List.take_add_one, this]
    simp
  refine ⟨fc', ?_, ?_, c3, ?_, ?_⟩
  · rw [hka]
    exact Ux.own_blk oa t3 (fun b hb h => (Ux.own_type oa b hb).ne (hfc b h) (by decide) rfl)
  · intro b hb
    simp [blk, Value.ownBlock] at hb
    subst hb
    rcases ba with h | h
    · exact h1 _ (by simp [blk, h])
    · exact Nat.le_trans hM h
  · intro b hb
    rcases f3 b hb with h | h
    · exact h3 b h
    · exact Nat.le_trans hM (Nat.le_trans ta.size h)
  · refine (h4.trans ta (fun b _ h => ?_)).trans t3 (fun b _ h => ?_)
    · have := h1 b (by simp [blk, h]); omega
    · have := h3 b h; omega

/-- the way back: g keys are still to come -/
def BackRel (wp : World) (tb F : Nat) (L : List (ByteArray × Int)) (N Q db : Nat) (g : Nat) (wr : World) : Prop :=
  ∃ fd, HasCur wr tb F L N Q db (if g = 0 then none else some (g - 1)) fd ∧ (∀ b ∈ fd, Q ≤ b) ∧ Ux.Touch (fun b => Q ≤ b) wp wr

theorem back_step {wp wr w7 w8 : World} {tb F : Nat} {L : List (ByteArray × Int)} {N Q db g : Nat} {fd : List Nat} (hQ : Q = wp.heap.size) (h2 : ∀ b ∈ fd, Q ≤ b) (h3 : Ux.Touch (fun b => Q ≤ b) wp wr) (t7 : Ux.Touch (fun _ => False) wr w7)
    (hs : ∃ fd', HasCur w8 tb F L N Q db (prevO (some g)) fd' ∧ (∀ b ∈ fd', b ∈ fd ∨ w7.heap.size ≤ b) ∧ Ux.Touch (fun b => b ∈ fd) w7 w8) : BackRel wp tb F L N Q db g w8 := by
  obtain ⟨fd', a, b, c⟩ := hs
  refine ⟨fd', a, fun x hx => ?_, (h3.trans t7 (fun _ _ f => f.elim)).trans c (fun b _ h => h2 b h)⟩
  rcases b x hx with h | h
  · exact h2 x h
  · have := h3.size; have := t7.size; omega

set_option maxHeartbeats 4000000 in
set_option maxRecDepth 100000 in
theorem law3 (a0 : Int) (W : World) (base : Option Addr) (c : Nat) (ss : List ByteArray) (hb : ∀ i k, ss[i]? = some k → ∃ b o, base = some ⟨b, o, none⟩ ∧ b < W.heap.size ∧ W.cell? ⟨b, o + i, none⟩ = some (.string k)) (hl : ss.length ≤ maxLen) :
    Calls Try.prog 3 #[.int .i64 a0, .slice base ss.length c] W fun e w' => e = .returned (.bool true) ∧ Ux.Touch (fun _ => False) W w' := by
  obtain ⟨m, F, hand, hm0, hm1, hF, hF4, hF64⟩ := Ux.fan_of a0
  have HNEW := Lib.hid (newL F W hF4 hF64)
  have HB := Lib.hid hb
  obtain ⟨n, hn⟩ : ∃ n, ss.length = n := ⟨_, rfl⟩
  rw [hn] at hl
  have hl' : (n : Int) ≤ 9223372036854775807 := by unfold maxLen at hl; omega
  have HN := Lib.hid hn
  rw [hn]
  clear hb hl hn hF4 hF64
  go_enter Try.func3, Try.ntmps3
  go_wp2_with (go_at_call 9; fail)
  refine HNEW.out.mono ?_
  rintro e w1 ⟨tb, rfl, t1, T1⟩
  have H1 := Lib.hid (And.intro t1 T1)
  clear t1 T1 HNEW hand hm0 hm1 hF
  obtain ⟨N, hNN⟩ : ∃ N, W.heap.size = N := ⟨_, rfl⟩
  have HNN := Lib.hid hNN
  rw [hNN] at H1
  clear hNN
  go_wp2_with (go_at_call 10; fail)
  go_loopg [7] (n - 0) (fun g s7 wr => ∃ i : Nat, s7 = .int .i64 i ∧ i + g = n ∧ i ≤ 80 ∧ HasTree wr tb F (putAll ss i) N ∧ Ux.Touch (fun b => N ≤ b) W wr)
  case atStart => exact ⟨0, rfl, by omega, by omega, H1.out.1, H1.out.2.mono (fun _ _ f => f.elim)⟩
  case round =>
    obtain ⟨i, rfl, hig, hi80, k1, k2⟩ := hrel
    have hlen := Ux.putAll_length ss i
    by_cases hlt : i < n ∧ i < 80
    · obtain ⟨g', rfl⟩ : ∃ g', gk = g' + 1 := ⟨gk - 1, by omega⟩
      have hil : i < ss.length := by rw [HN.out]; exact hlt.1
      obtain ⟨k, hk⟩ : ∃ k, ss[i]? = some k := ⟨ss[i], List.getElem?_eq_getElem hil⟩
      obtain ⟨ab, ao, rfl, hab, hcell⟩ := HB.out i k hk
      have hcell' := k2.cell hcell (fun h => by have := HNN.out; have h' : N ≤ ab := h; omega)
      have hsz : N ≤ wr.heap.size := by have := k2.size; have := HNN.out; omega
      have PUT := putL k1 hsz (by omega) k i
      have hnext : putAll ss (i + 1) = ins k i (putAll ss i) := by
        simp only [putAll, Ux.putAll, List.getD_eq_getElem?_getD, hk, Option.getD_some]
      have HPUT := Lib.hid PUT
      have HK := Lib.hid (And.intro k2 (And.intro hnext hlt))
      have p1 : (i : Int) < n := by omega
      have p2 : (i : Int) < 80 := by omega
      have p3 : (0 : Int) ≤ i := by omega
      clear PUT k1 k2 hnext hlt hcell hab hil hk hlen hsz
      go_wp2_with (go_at_call 10; refine HPUT.out.mono ?_; rintro e w2 ⟨rfl, t2, T2⟩; have H2 := Lib.hid (And.intro t2 T2); clear t2 T2)
      go_roundg g'
      case measure => omega
      case rel =>
        refine ⟨i + 1, by go_num, by omega, by omega, ?_, HK.out.1.trans H2.out.2 (fun _ _ h => h)⟩
        rw [HK.out.2.1]
        exact H2.out.1
    · have hin : i ≤ n := by omega
      have hrows : ∀ (q : Nat) (p : ByteArray × Int), (putAll ss i)[q]? = some p → ∃ j : Nat, j < n ∧ p.2 = (j : Int) ∧ ss[j]? = some p.1 := fun q p hp => by
        obtain ⟨j, h1, h2, h3⟩ := Ux.putAll_rows (List.mem_of_getElem? hp)
        have hj : j < ss.length := by rw [HN.out]; omega
        refine ⟨j, by omega, h2, ?_⟩
        rw [List.getD_eq_getElem?_getD, List.getElem?_eq_getElem hj] at h3
        rw [List.getElem?_eq_getElem hj]
        exact congrArg some h3
      obtain ⟨L, hL⟩ : ∃ L, putAll ss i = L := ⟨_, rfl⟩
      rw [hL] at hlen hrows k1
      have hup := k1.up
      have hsz : N ≤ wr.heap.size := by have := k2.size; have := HNN.out; omega
      have SK := seekL k1 (by omega) (⟨#[]⟩ : ByteArray) false
      rw [seek_first] at SK
      have HSK := Lib.hid SK
      have H2 := Lib.hid (And.intro k1 (And.intro k2 (And.intro hup (And.intro hrows (And.intro (Nat.le_trans hlen hi80) hsz)))))
      clear SK k1 k2 hup hrows hlen hL hsz
      have p3 : (0 : Int) ≤ i := by omega
      have hex : (i = n) ∨ (i < n ∧ i = 80) := by omega
      clear hlt hin hi80 hig
      rcases hex with hex | ⟨hex, hex2⟩
      · have p1 : ¬ (i : Int) < n := by omega
        clear hex
        go_wp2_with (go_at_call 11; fail)
        refine HSK.out.mono ?_
        rintro e w2 ⟨cb, fc, rfl, c2, hfc, T2⟩
        obtain ⟨M, hM⟩ : ∃ M, wr.heap.size = M := ⟨_, rfl⟩
        rw [hM] at c2 hfc
        have H3 := Lib.hid (And.intro c2 (And.intro hfc (And.intro T2 hM)))
        clear c2 hfc T2 hM HSK p1 p3
        go_wp2_with (fail)
        obtain ⟨wo, hwo⟩ : ∃ wo : World, wo = wr := ⟨_, rfl⟩
        subst hwo
        go_loopg [8, 10] L.length (fun g s8 s10 wq => ∃ q : Nat, s10 = .int .i64 q ∧ q + g = L.length ∧ ThrRel W tb F L N M cb q s8 wq)
        case atStart => exact ⟨0, rfl, by omega, fc, World.ownsRow_nil w2 0 9 1, (fun b hb => by cases hb), H3.out.1, H3.out.2.1, H2.out.2.1.trans (H3.out.2.2.1.mono (fun _ _ f => f.elim)) (fun _ _ h => h)⟩
        case round =>
          obtain ⟨q, rfl, hqg, fcc, r1, r2, r3, r4, r5⟩ := hrel
          have hMw : M ≤ wr.heap.size := by
            have h0 := H3.out.2.2.2
            have h1 := H3.out.2.2.1.size
            have h2 := r3.types
            have h3 := r5.size
            obtain ⟨_, _, _, _, _, _, ⟨_, _, hcur⟩, _⟩ := r3
            have := hcur.lt
            obtain ⟨_, _, hc1, _, hfc, _⟩ := hcur
            have hcb := r4 cb (by rw [hfc]; simp)
            have := Ux.lt_of_heap hc1
            omega
          have hNM : N ≤ M := by have := H2.out.2.2.2.2.2; have := H3.out.2.2.2; omega
          by_cases hlt : q < L.length
          · obtain ⟨g', rfl⟩ : ∃ g', gk = g' + 1 := ⟨gk - 1, by omega⟩
            obtain ⟨p, hp⟩ : ∃ p, L[q]? = some p := ⟨L[q], List.getElem?_eq_getElem hlt⟩
            rw [if_pos hlt] at r3
            have OK := okL r3
            have KEY := (keyL r3 p hp).1
            have hq80 : q < 80 := by have := H2.out.2.2.2.2.1; omega
            have HOK := Lib.hid OK
            have HKEY := Lib.hid KEY
            have HR := Lib.hid (And.intro r1 (And.intro r2 (And.intro r3 (And.intro r4 (And.intro r5 (And.intro hMw (And.intro hNM (And.intro hlt hp))))))))
            have p1 : (q : Int) ≤ 80 := by omega
            have p2 : (0 : Int) ≤ q := by omega
            clear OK KEY r1 r2 r3 r4 r5 hMw hNM hlt hp hq80
            go_wp2_with (first | (go_at_call 12; refine HOK.out.mono ?_; rintro e w3 ⟨rfl, rfl⟩) | (go_at_call 13; fail))
            refine HKEY.out.mono ?_
            rintro e w3 ⟨rfl, t3⟩
            obtain ⟨r1, r2, r3, r4, r5, hMw, hNM, hlt, hp⟩ := HR.out
            obtain ⟨ga, ca, wa, hap, oa, ta, ba⟩ := pushS w3 (w3.alloc (.cells #[.string p.1] 9)) u8 q _ p.1 w3.heap.size (Ux.own_touch r1 t3 (fun _ _ f => f)) ((Ux.Touch.refl _ w3).alloc _) (heap_alloc_new w3 _) (by omega)
            have ta' : Ux.Touch (fun k => u8.ownBlock = some k) wr wa := (t3.mono (fun _ _ f => f.elim) : Ux.Touch (fun k => u8.ownBlock = some k) wr w3).trans ta (fun _ _ h => h)
            have r3' := (r3.touch ta' (fun b _ h2 h => by have := r2 b (by simp [blk, h]); omega) (fun b hb h => (r3.types b hb).ne (Ux.own_type r1 b (by simp [blk, h])) (by decide) rfl))
            have NX := nextL r3'
            have STEP : ∀ w4, (∃ fc', HasCur w4 tb F L N M cb (nextO L.length (some q)) fc' ∧ (∀ b ∈ fc', b ∈ fcc ∨ wa.heap.size ≤ b) ∧ Ux.Touch (fun b => b ∈ fcc) wa w4) → ThrRel W tb F L N M cb (q + 1) (.slice (some ⟨ga, 0, none⟩) (q + 1) ca) w4 := fun w4 h =>
              thr_step hNM hlt hp r2 r4 r5 hMw oa ta' (ba.imp id (fun h => Nat.le_trans t3.size h)) r3'.types h
            have HAP := Lib.hid hap
            have HNX := Lib.hid NX
            have HSTEP := Lib.hid STEP
            clear t3 r1 r2 r3 r4 r5 hMw hNM hlt hp hap oa ta ba ta' r3' NX STEP
            go_wp2_with (first | (at_builtin; refine Lib.wpList_append_run _ rfl _ _ _ _ rfl _ _ rfl rfl _ _ (HAP.out _) ?_) | (go_at_call 14; fail))
            refine HNX.out.mono ?_
            rintro e w4 ⟨rfl, h4⟩
            have H4 := Lib.hid (HSTEP.out _ h4)
            clear h4
            go_wp2_with (fail)
            go_roundg g'
            case measure => omega
            case rel => exact ⟨q + 1, by go_num, by omega, H4.out⟩
          · obtain rfl : q = L.length := by omega
            clear hlt
            rw [if_neg (Nat.lt_irrefl _)] at r3
            have OK := okL r3
            have LEN := lenL r3.tree
            have LST := lastL r3.tree (by have := H2.out.2.2.2.2.1; omega)
            have HOK := Lib.hid OK
            have HLEN := Lib.hid LEN
            have HLST := Lib.hid LST
            obtain ⟨Z, hZ⟩ : ∃ Z, L.length = Z := ⟨_, rfl⟩
            have hrow : ∃ la lc, u8 = .slice la Z lc ∧ ∀ j p, L[j]? = some p → ∃ g, la = some ⟨g, 0, none⟩ ∧ M ≤ g ∧ wr.cell? ⟨g, j, none⟩ = some (.string p.1) := by
              rw [hZ, List.take_of_length_le (by rw [Ux.keys_length]; omega)] at r1
              rcases r1.2 with ⟨rfl, h0⟩ | ⟨g, lc, cur, rfl, _, hg, _, _, _, htk⟩
              · exact ⟨none, 0, by rw [h0], fun j p hp => by have := (List.getElem?_eq_some_iff.1 hp).1; omega⟩
              · exact ⟨_, lc, rfl, fun j p hp => ⟨g, rfl, r2 g (by simp [blk, Value.ownBlock]), Ux.row_cell hg htk j _ (by rw [List.getElem?_map, Ux.getElem?_keys, hp]; rfl)⟩⟩
            obtain ⟨la, lc, rfl, hrow⟩ := hrow
            rw [hZ] at HLEN
            have HR := Lib.hid (And.intro r1 (And.intro r2 (And.intro r3 (And.intro r4 (And.intro r5 (And.intro hMw (And.intro hNM (And.intro hZ hrow))))))))
            have z0 : (Z : Int) ≤ 80 := by have := H2.out.2.2.2.2.1; omega
            have z1 : (0 : Int) ≤ Z := by omega
            clear OK LEN LST r1 r2 r3 r4 r5 hMw hNM hrow hqg
            rw [hZ]
            clear hZ
            go_wp2_with (first | (go_at_call 12; refine HOK.out.mono ?_; rintro e w3 ⟨rfl, rfl⟩) | (go_at_call 15; refine HLEN.out.mono ?_; rintro e w3 ⟨rfl, rfl⟩) | (go_at_call 16; fail))
            refine HLST.out.mono ?_
            rintro e w3 ⟨db, fd, rfl, d3, hfd, t3⟩
            have H5 := Lib.hid (And.intro d3 (And.intro hfd t3))
            clear d3 hfd t3
            go_wp2_with (fail)
            obtain ⟨wp, hwp⟩ : ∃ wp : World, wp = wr := ⟨_, rfl⟩
            subst hwp
            obtain ⟨Q, hQ⟩ : ∃ Q, wp.heap.size = Q := ⟨_, rfl⟩
            rw [hQ] at H5
            have HQ := Lib.hid hQ
            clear hQ
            go_loopg [12] Z (fun g s12 wq => s12 = .int .i64 ((g : Int) - 1) ∧ g ≤ Z ∧ BackRel wp tb F L N Q db g wq)
            case atStart =>
              refine ⟨rfl, Nat.le_refl _, fd, ?_, H5.out.2.1, H5.out.2.2.mono (fun _ _ f => f.elim)⟩
              have h := H5.out.1
              have hz := HR.out.2.2.2.2.2.2.2.1
              by_cases hL : L = []
              · rw [if_pos hL] at h
                rw [if_pos (by rw [← hz, hL]; rfl)]
                exact h
              · rw [if_neg hL] at h
                rw [if_neg (by rw [← hz]; exact fun e => hL (List.eq_nil_of_length_eq_zero e)), ← hz]
                exact h
            case round =>
              obtain ⟨rfl, hgZ, fe, x1, x2, x3⟩ := hrel
              rcases Nat.eq_zero_or_pos gk with h0 | h0
              · subst h0
                have C0 := HR.out.2.2.1.touch x3 (fun b _ h h' => by
                  have h2 : Q ≤ b := h'
                  have := HR.out.2.2.2.2.2.1; have := HQ.out; omega) (fun b hb h' => by
                  have h2 : Q ≤ b := h'
                  obtain ⟨_, _, hh, _⟩ := HR.out.2.2.1.types b hb
                  have := Ux.lt_of_heap hh
                  have := HQ.out; omega)
                have NX := nextL C0
                have TT := HR.out.2.2.2.2.1.trans x3 (fun b hb h => by have h2 : Q ≤ b := h; have h3 := HQ.out; have h4 := HR.out.2.2.2.2.1.size; have := HNN.out; show N ≤ b; omega)
                have HNX := Lib.hid NX
                have HTT := Lib.hid (And.intro TT C0)
                have hcN : ∀ b ∈ fcc, N ≤ b := fun b hb => Nat.le_trans HR.out.2.2.2.2.2.2.1 (HR.out.2.2.2.1 b hb)
                have HCN := Lib.hid hcN
                clear NX C0 TT x1 x2 x3 hcN
                go_wp2_with (go_at_call 14; fail)
                refine HNX.out.mono ?_
                rintro e w4 ⟨rfl, fc4, c4, f4, t4⟩
                have PV := prevL c4
                have HPV := Lib.hid PV
                have H4 := Lib.hid (And.intro f4 t4)
                clear PV c4 f4 t4
                go_wp2_with (go_at_call 19; fail)
                refine HPV.out.mono ?_
                rintro e w5 ⟨rfl, fc5, c5, f5, t5⟩
                have H5' := Lib.hid (And.intro f5 t5)
                have HAW := Lib.hid (awake20 w5)
                clear c5 f5 t5
                go_wp2_with (go_at_call 20; fail)
                refine HAW.out.mono ?_
                rintro e w6 ⟨rfl, t6⟩
                have HT6 := Lib.hid t6
                clear t6
                go_wp2
                go_ret
                refine ⟨rfl, ?_⟩
                have hWw := HTT.out.1.size
                have hN0 := HNN.out
                have A := HTT.out.1.trans H4.out.2 (fun b hb h => HCN.out b h)
                have B := A.trans H5'.out.2 (fun b hb h => (H4.out.1 b h).elim (fun h => HCN.out b h) (fun h => by show N ≤ b; omega))
                exact (B.trans HT6.out (fun _ _ f => f.elim)).mono (fun b hb h => by have h2 : N ≤ b := h; omega)
              · obtain ⟨g', rfl⟩ : ∃ g', gk = g' + 1 := ⟨gk - 1, by omega⟩
                have hgl : g' < L.length := by have := HR.out.2.2.2.2.2.2.2.1; omega
                obtain ⟨p, hp⟩ : ∃ p, L[g']? = some p := ⟨L[g'], List.getElem?_eq_getElem hgl⟩
                obtain ⟨gl, rfl, hMg, hrc⟩ := HR.out.2.2.2.2.2.2.2.2 g' p hp
                have hglt : gl < Q := by have h : gl < wp.heap.size := block_lt_of_cell hrc; have := HQ.out; omega
                have c1 := x3.cell hrc (fun h => by have h' : Q ≤ gl := h; omega)
                obtain ⟨j, hj1, hj2, hj3⟩ := H2.out.2.2.2.1 g' p hp
                obtain ⟨ab, ao, rfl, hab, hac⟩ := HB.out j p.1 hj3
                have a1 := x3.cell (HR.out.2.2.2.2.1.cell hac (fun h => by have h' : N ≤ ab := h; have := HNN.out; omega)) (fun h => by
                  have h' : Q ≤ ab := h
                  have := HNN.out; have := HR.out.2.2.2.2.1.size; have := HQ.out; omega)
                rw [if_neg (by omega), show g' + 1 - 1 = g' by omega] at x1
                have DR := (Ux.Touch.refl (fun _ => False) wr).drew
                have OKD := okL (x1.still DR)
                have KYD := (keyL (x1.still DR) p hp).1
                have hga := get_at H2.out.2.2.1 hp
                have HOKD := Lib.hid OKD
                have HKYD := Lib.hid KYD
                have HX := Lib.hid (And.intro x1 (And.intro x2 (And.intro x3 (And.intro hp (And.intro hga hj2)))))
                have hL80 := H2.out.2.2.2.2.1
                have HL80 := Lib.hid hL80
                have y1 : (j : Int) < n := by omega
                have y2 : (0 : Int) ≤ j := by omega
                have y3 : (g' : Int) < Z := by omega
                have y4 : (0 : Int) ≤ g' := by omega
                clear OKD KYD x1 x2 x3 hp hga hj2 hL80 hrc hMg hglt hj1 hj3 hac hab DR h0 hgl
                cases g' with
                | zero =>
                  have c1' : wr.cell? ⟨gl, 0, none⟩ = some (.string p.1) := c1
                  clear c1
                  go_wp2_with (fail)
                  refine Ux.wp_region_plan (fun _ w' => w'.cell? ⟨gl, 0, none⟩ = some (.string p.1)) (.q [0, 1, 2, 3] (.e 4 true false (.q [5, 6, 7, 8, 10, 11, 12] (.h false [13] (.e 9 true false (.q [14, 15, 16, 17, 18, 19, 20, 21, 22, 23, 25, 26, 27] (.h false [24, 28] (.q [29, 30, 31] (.line [])))))))))
                    (by kernel_rfl) (by kernel_rfl) (by intro _ _ d _ _ h; cases d <;> exact h) ?hS ?_
                  case hS => (intro c; cases c <;> (simp only [World.cell?_drew]; first | exact True.intro | (refine ⟨?_, ?_⟩ <;> assumption) | assumption | (repeat (first | assumption | (refine And.intro ?_ ?_)))))
                  simp only [Ux.wpPlan, Ux.pickOps, Ux.keeps, List.getElem?_toArray, List.getElem?_cons_succ, List.getElem?_cons_zero]
                  repeat (first
                    | go_big_quiet_step (fail)
                    | (with_reducible refine wpQuiet_nil ?_)
                    | (refine Ux.quiet_held rfl ?_; apply Exists.intro; refine ⟨fun w' hS => ?_, ?_⟩; (focus ((try dsimp only at hS); go_simp; first | done | with_reducible rfl)); simp only [Act.put, List.setIfInBounds_toArray, List.set_cons_zero, List.set_cons_succ]))
                  go_wp2_with (go_at_call 12; refine HOKD.out.mono ?_; rintro e w5 ⟨rfl, rfl⟩)
                  refine ⟨c1', ?_⟩
                  repeat (first
                    | go_big_quiet_step (fail)
                    | (with_reducible refine wpQuiet_nil ?_)
                    | (refine Ux.quiet_held rfl ?_; apply Exists.intro; refine ⟨fun w' hS => ?_, ?_⟩; (focus ((try dsimp only at hS); go_simp; first | done | with_reducible rfl)); simp only [Act.put, List.setIfInBounds_toArray, List.set_cons_zero, List.set_cons_succ]))
                  go_wp2_with (go_at_call 13; fail)
                  refine HKYD.out.mono ?_
                  rintro e w5 ⟨rfl, t5⟩
                  have c5 := t5.cell (a := ⟨gl, 0, none⟩) c1' (fun f => f)
                  have a5 := t5.cell (a := ⟨ab, ao + j, none⟩) a1 (fun f => f)
                  have X5 := (HX.out.1.still (Ux.Touch.refl (fun _ => False) wr).drew).still t5
                  have GT := getL X5.tree (by have := HL80.out; omega) p.1
                  rw [HX.out.2.2.2.2.1.2, HX.out.2.2.2.2.1.1, HX.out.2.2.2.2.2] at GT
                  have HGT := Lib.hid GT
                  have H5a := Lib.hid (And.intro X5 t5)
                  clear GT X5 t5 c1' a1 
                  go_wp2_with (fail)
                  refine ⟨c5, ?_⟩
                  repeat (first
                    | go_big_quiet_step (fail)
                    | (with_reducible refine wpQuiet_nil ?_)
                    | (refine Ux.quiet_held rfl ?_; apply Exists.intro; refine ⟨fun w' hS => ?_, ?_⟩; (focus ((try dsimp only at hS); go_simp; first | done | with_reducible rfl)); simp only [Act.put, List.setIfInBounds_toArray, List.set_cons_zero, List.set_cons_succ]))
                  go_wp2_with (go_at_call 17; fail)
                  refine HGT.out.mono ?_
                  rintro e w6 ⟨rfl, t6⟩
                  have c6 := t6.cell c5 (fun f => f)
                  have a6 := t6.cell a5 (fun f => f)
                  have X6 := H5a.out.1.still t6
                  have RW := (keyL (X6.still (Ux.Touch.refl (fun _ => False) w6).drew) p HX.out.2.2.2.1).2
                  rw [HX.out.2.2.2.2.2] at RW
                  have HRW := Lib.hid RW
                  have H6 := Lib.hid (And.intro X6 t6)
                  clear RW X6 t6 c5 a5 
                  go_wp2_with (fail)
                  refine Ux.wp_region_plan (fun _ w' => w'.cell? ⟨gl, 0, none⟩ = some (.string p.1) ∧ w'.cell? ⟨ab, ao + j, none⟩ = some (.string p.1)) (.q [0, 1, 2, 3, 4, 5, 7, 8, 9] (.h false [6, 10] (.q [11, 12, 13, 14, 16] (.e 15 true false (.q [17, 18] (.line []))))))
                    (by kernel_rfl) (by kernel_rfl) (by intro _ _ d _ _ h; cases d <;> exact h) ?hS ?_
                  case hS => (intro c; cases c <;> (simp only [World.cell?_drew]; first | exact True.intro | (refine ⟨?_, ?_⟩ <;> assumption) | assumption | (repeat (first | assumption | (refine And.intro ?_ ?_)))))
                  simp only [Ux.wpPlan, Ux.pickOps, Ux.keeps, List.getElem?_toArray, List.getElem?_cons_succ, List.getElem?_cons_zero]
                  repeat (first
                    | go_big_quiet_step (fail)
                    | (with_reducible refine wpQuiet_nil ?_)
                    | (refine Ux.quiet_held rfl ?_; apply Exists.intro; refine ⟨fun w' hS => ?_, ?_⟩; (focus ((try dsimp only at hS); go_simp; first | done | with_reducible rfl)); simp only [Act.put, List.setIfInBounds_toArray, List.set_cons_zero, List.set_cons_succ]))
                  go_wp2_with (go_at_call 18; fail)
                  refine HRW.out.mono ?_
                  rintro e w7 ⟨rfl, t7⟩
                  have c7 := t7.cell (a := ⟨gl, 0, none⟩) c6 (fun f => f)
                  have a7 := t7.cell (a := ⟨ab, ao + j, none⟩) a6 (fun f => f)
                  have X7 := (H6.out.1.still (Ux.Touch.refl (fun _ => False) w6).drew).still t7
                  have PV := prevL X7
                  have T7 : Ux.Touch (fun _ => False) wr w7 := ((((Ux.Touch.refl (fun _ => False) wr).drew).trans H5a.out.2 (fun _ _ f => f)).trans H6.out.2 (fun _ _ f => f)).drew.trans t7 (fun _ _ f => f)
                  have HPV := Lib.hid PV
                  have HT7 := Lib.hid T7
                  clear X7 PV T7 t7 c6 a6
                  go_wp2_with (fail)
                  refine ⟨⟨c7, a7⟩, ?_⟩
                  clear c7 a7
                  repeat (first
                    | go_big_quiet_step (fail)
                    | (with_reducible refine wpQuiet_nil ?_)
                    | (refine Ux.quiet_held rfl ?_; apply Exists.intro; refine ⟨fun w' hS => ?_, ?_⟩; (focus ((try dsimp only at hS); go_simp; first | done | with_reducible rfl)); simp only [Act.put, List.setIfInBounds_toArray, List.set_cons_zero, List.set_cons_succ]))
                  go_wp2_with (go_at_call 19; fail)
                  refine HPV.out.mono ?_
                  rintro e w8 ⟨rfl, h8⟩
                  have H8 := Lib.hid (back_step HQ.out.symm HX.out.2.1 HX.out.2.2.1 HT7.out h8)
                  clear h8
                  go_wp2_with (fail)
                  go_roundg 0
                  case measure => omega
                  case rel => exact ⟨rfl, by omega, H8.out⟩
                | succ k =>
                  have c1' : wr.cell? ⟨gl, k + 1, none⟩ = some (.string p.1) := c1
                  obtain ⟨p', hp'⟩ : ∃ p', L[k]? = some p' := ⟨L[k]'(by have := (List.getElem?_eq_some_iff.1 HX.out.2.2.2.1).1; omega), List.getElem?_eq_getElem _⟩
                  obtain ⟨gl2, e2, hMg2, hrc2⟩ := HR.out.2.2.2.2.2.2.2.2 k p' hp'
                  cases e2
                  have hl2 : gl < wp.heap.size := block_lt_of_cell hrc2
                  have d1 := HX.out.2.2.1.cell hrc2 (fun h => by have h' : Q ≤ gl := h; have := HQ.out; omega)
                  have hcmp : Op.bytesLess p'.1.toList p.1.toList = true := Ux.up_at H2.out.2.2.1 hp' HX.out.2.2.2.1 (Nat.lt_succ_self k)
                  have y5 : (0 : Int) ≤ k := by omega
                  have y6 : (k : Int) + 1 < Z := by omega
                  clear hp' hMg2 hrc2 hl2 y4 y3
                  clear c1
                  go_wp2_with (fail)
                  refine Ux.wp_region_plan (fun _ w' => w'.cell? ⟨gl, k + 1, none⟩ = some (.string p.1) ∧ w'.cell? ⟨gl, k, none⟩ = some (.string p'.1)) (.q [0, 1, 2, 3] (.e 4 true false (.q [5, 6, 7, 8, 10, 11, 12] (.h false [13] (.e 9 true false (.q [14, 15, 16, 17, 18, 19, 20, 21, 22, 23, 25, 26, 27] (.h false [24, 28] (.q [29, 30, 31] (.line [])))))))))
                    (by kernel_rfl) (by kernel_rfl) (by intro _ _ d _ _ h; cases d <;> exact h) ?hS ?_
                  case hS => (intro c; cases c <;> (simp only [World.cell?_drew]; first | exact True.intro | (refine ⟨?_, ?_⟩ <;> assumption) | assumption | (repeat (first | assumption | (refine And.intro ?_ ?_)))))
                  simp only [Ux.wpPlan, Ux.pickOps, Ux.keeps, List.getElem?_toArray, List.getElem?_cons_succ, List.getElem?_cons_zero]
                  repeat (first
                    | go_big_quiet_step (fail)
                    | (with_reducible refine wpQuiet_nil ?_)
                    | (refine Ux.quiet_held rfl ?_; apply Exists.intro; refine ⟨fun w' hS => ?_, ?_⟩; (focus ((try dsimp only at hS); go_simp; first | done | with_reducible rfl)); simp only [Act.put, List.setIfInBounds_toArray, List.set_cons_zero, List.set_cons_succ]))
                  go_wp2_with (go_at_call 12; refine HOKD.out.mono ?_; rintro e w5 ⟨rfl, rfl⟩)
                  refine ⟨⟨c1', d1⟩, ?_⟩
                  repeat (first
                    | go_big_quiet_step (fail)
                    | (with_reducible refine wpQuiet_nil ?_)
                    | (refine Ux.quiet_held rfl ?_; apply Exists.intro; refine ⟨fun w' hS => ?_, ?_⟩; (focus ((try dsimp only at hS); go_simp; first | done | with_reducible rfl)); simp only [Act.put, List.setIfInBounds_toArray, List.set_cons_zero, List.set_cons_succ]))
                  go_wp2_with (go_at_call 13; fail)
                  refine HKYD.out.mono ?_
                  rintro e w5 ⟨rfl, t5⟩
                  have c5 := t5.cell (a := ⟨gl, k + 1, none⟩) c1' (fun f => f)
                  have d5 := t5.cell (a := ⟨gl, k, none⟩) d1 (fun f => f)
                  have a5 := t5.cell (a := ⟨ab, ao + j, none⟩) a1 (fun f => f)
                  have X5 := (HX.out.1.still (Ux.Touch.refl (fun _ => False) wr).drew).still t5
                  have GT := getL X5.tree (by have := HL80.out; omega) p.1
                  rw [HX.out.2.2.2.2.1.2, HX.out.2.2.2.2.1.1, HX.out.2.2.2.2.2] at GT
                  have HGT := Lib.hid GT
                  have H5a := Lib.hid (And.intro X5 t5)
                  clear GT X5 t5 c1' a1 d1
                  go_wp2_with (fail)
                  refine ⟨⟨c5, d5⟩, ?_⟩
                  repeat (first
                    | go_big_quiet_step (fail)
                    | (with_reducible refine wpQuiet_nil ?_)
                    | (refine Ux.quiet_held rfl ?_; apply Exists.intro; refine ⟨fun w' hS => ?_, ?_⟩; (focus ((try dsimp only at hS); go_simp; first | done | with_reducible rfl)); simp only [Act.put, List.setIfInBounds_toArray, List.set_cons_zero, List.set_cons_succ]))
                  go_wp2_with (go_at_call 17; fail)
                  refine HGT.out.mono ?_
                  rintro e w6 ⟨rfl, t6⟩
                  have c6 := t6.cell c5 (fun f => f)
                  have a6 := t6.cell a5 (fun f => f)
                  have X6 := H5a.out.1.still t6
                  have RW := (keyL (X6.still (Ux.Touch.refl (fun _ => False) w6).drew) p HX.out.2.2.2.1).2
                  rw [HX.out.2.2.2.2.2] at RW
                  have HRW := Lib.hid RW
                  have H6 := Lib.hid (And.intro X6 t6)
                  clear RW X6 t6 c5 a5 
                  go_wp2_with (fail)
                  refine Ux.wp_region_plan (fun _ w' => w'.cell? ⟨gl, k + 1, none⟩ = some (.string p.1) ∧ w'.cell? ⟨ab, ao + j, none⟩ = some (.string p.1)) (.q [0, 1, 2, 3, 4, 5, 7, 8, 9] (.h false [6, 10] (.q [11, 12, 13, 14, 16] (.e 15 true false (.q [17, 18] (.line []))))))
                    (by kernel_rfl) (by kernel_rfl) (by intro _ _ d _ _ h; cases d <;> exact h) ?hS ?_
                  case hS => (intro c; cases c <;> (simp only [World.cell?_drew]; first | exact True.intro | (refine ⟨?_, ?_⟩ <;> assumption) | assumption | (repeat (first | assumption | (refine And.intro ?_ ?_)))))
                  simp only [Ux.wpPlan, Ux.pickOps, Ux.keeps, List.getElem?_toArray, List.getElem?_cons_succ, List.getElem?_cons_zero]
                  repeat (first
                    | go_big_quiet_step (fail)
                    | (with_reducible refine wpQuiet_nil ?_)
                    | (refine Ux.quiet_held rfl ?_; apply Exists.intro; refine ⟨fun w' hS => ?_, ?_⟩; (focus ((try dsimp only at hS); go_simp; first | done | with_reducible rfl)); simp only [Act.put, List.setIfInBounds_toArray, List.set_cons_zero, List.set_cons_succ]))
                  go_wp2_with (go_at_call 18; fail)
                  refine HRW.out.mono ?_
                  rintro e w7 ⟨rfl, t7⟩
                  have c7 := t7.cell (a := ⟨gl, k + 1, none⟩) c6 (fun f => f)
                  have a7 := t7.cell (a := ⟨ab, ao + j, none⟩) a6 (fun f => f)
                  have X7 := (H6.out.1.still (Ux.Touch.refl (fun _ => False) w6).drew).still t7
                  have PV := prevL X7
                  have T7 : Ux.Touch (fun _ => False) wr w7 := ((((Ux.Touch.refl (fun _ => False) wr).drew).trans H5a.out.2 (fun _ _ f => f)).trans H6.out.2 (fun _ _ f => f)).drew.trans t7 (fun _ _ f => f)
                  have HPV := Lib.hid PV
                  have HT7 := Lib.hid T7
                  clear X7 PV T7 t7 c6 a6
                  go_wp2_with (fail)
                  refine ⟨⟨c7, a7⟩, ?_⟩
                  clear c7 a7
                  repeat (first
                    | go_big_quiet_step (fail)
                    | (with_reducible refine wpQuiet_nil ?_)
                    | (refine Ux.quiet_held rfl ?_; apply Exists.intro; refine ⟨fun w' hS => ?_, ?_⟩; (focus ((try dsimp only at hS); go_simp; first | done | with_reducible rfl)); simp only [Act.put, List.setIfInBounds_toArray, List.set_cons_zero, List.set_cons_succ]))
                  go_wp2_with (go_at_call 19; fail)
                  refine HPV.out.mono ?_
                  rintro e w8 ⟨rfl, h8⟩
                  have H8 := Lib.hid (back_step HQ.out.symm HX.out.2.1 HX.out.2.2.1 HT7.out h8)
                  clear h8
                  go_wp2_with (fail)
                  go_roundg (k + 1)
                  case measure => omega
                  case rel => exact ⟨by congr 1; omega, by omega, H8.out⟩
      · have p1 : (i : Int) < n := by omega
        have p2 : ¬ (i : Int) < 80 := by omega
        clear hex hex2
        go_wp2_with (go_at_call 11; fail)
        refine HSK.out.mono ?_
        rintro e w2 ⟨cb, fc, rfl, c2, hfc, T2⟩
        obtain ⟨M, hM⟩ : ∃ M, wr.heap.size = M := ⟨_, rfl⟩
        rw [hM] at c2 hfc
        have H3 := Lib.hid (And.intro c2 (And.intro hfc (And.intro T2 hM)))
        clear c2 hfc T2 hM HSK p1 p3
        go_wp2_with (fail)
        obtain ⟨wo, hwo⟩ : ∃ wo : World, wo = wr := ⟨_, rfl⟩
        subst hwo
        go_loopg [8, 10] L.length (fun g s8 s10 wq => ∃ q : Nat, s10 = .int .i64 q ∧ q + g = L.length ∧ ThrRel W tb F L N M cb q s8 wq)
        case atStart => exact ⟨0, rfl, by omega, fc, World.ownsRow_nil w2 0 9 1, (fun b hb => by cases hb), H3.out.1, H3.out.2.1, H2.out.2.1.trans (H3.out.2.2.1.mono (fun _ _ f => f.elim)) (fun _ _ h => h)⟩
        case round =>
          obtain ⟨q, rfl, hqg, fcc, r1, r2, r3, r4, r5⟩ := hrel
          have hMw : M ≤ wr.heap.size := by
            have h0 := H3.out.2.2.2
            have h1 := H3.out.2.2.1.size
            have h2 := r3.types
            have h3 := r5.size
            obtain ⟨_, _, _, _, _, _, ⟨_, _, hcur⟩, _⟩ := r3
            have := hcur.lt
            obtain ⟨_, _, hc1, _, hfc, _⟩ := hcur
            have hcb := r4 cb (by rw [hfc]; simp)
            have := Ux.lt_of_heap hc1
            omega
          have hNM : N ≤ M := by have := H2.out.2.2.2.2.2; have := H3.out.2.2.2; omega
          by_cases hlt : q < L.length
          · obtain ⟨g', rfl⟩ : ∃ g', gk = g' + 1 := ⟨gk - 1, by omega⟩
            obtain ⟨p, hp⟩ : ∃ p, L[q]? = some p := ⟨L[q], List.getElem?_eq_getElem hlt⟩
            rw [if_pos hlt] at r3
            have OK := okL r3
            have KEY := (keyL r3 p hp).1
            have hq80 : q < 80 := by have := H2.out.2.2.2.2.1; omega
            have HOK := Lib.hid OK
            have HKEY := Lib.hid KEY
            have HR := Lib.hid (And.intro r1 (And.intro r2 (And.intro r3 (And.intro r4 (And.intro r5 (And.intro hMw (And.intro hNM (And.intro hlt hp))))))))
            have p1 : (q : Int) ≤ 80 := by omega
            have p2 : (0 : Int) ≤ q := by omega
            clear OK KEY r1 r2 r3 r4 r5 hMw hNM hlt hp hq80
            go_wp2_with (first | (go_at_call 12; refine HOK.out.mono ?_; rintro e w3 ⟨rfl, rfl⟩) | (go_at_call 13; fail))
            refine HKEY.out.mono ?_
            rintro e w3 ⟨rfl, t3⟩
            obtain ⟨r1, r2, r3, r4, r5, hMw, hNM, hlt, hp⟩ := HR.out
            obtain ⟨ga, ca, wa, hap, oa, ta, ba⟩ := pushS w3 (w3.alloc (.cells #[.string p.1] 9)) u8 q _ p.1 w3.heap.size (Ux.own_touch r1 t3 (fun _ _ f => f)) ((Ux.Touch.refl _ w3).alloc _) (heap_alloc_new w3 _) (by omega)
            have ta' : Ux.Touch (fun k => u8.ownBlock = some k) wr wa := (t3.mono (fun _ _ f => f.elim) : Ux.Touch (fun k => u8.ownBlock = some k) wr w3).trans ta (fun _ _ h => h)
            have r3' := (r3.touch ta' (fun b _ h2 h => by have := r2 b (by simp [blk, h]); omega) (fun b hb h => (r3.types b hb).ne (Ux.own_type r1 b (by simp [blk, h])) (by decide) rfl))
            have NX := nextL r3'
            have STEP : ∀ w4, (∃ fc', HasCur w4 tb F L N M cb (nextO L.length (some q)) fc' ∧ (∀ b ∈ fc', b ∈ fcc ∨ wa.heap.size ≤ b) ∧ Ux.Touch (fun b => b ∈ fcc) wa w4) → ThrRel W tb F L N M cb (q + 1) (.slice (some ⟨ga, 0, none⟩) (q + 1) ca) w4 := fun w4 h =>
              thr_step hNM hlt hp r2 r4 r5 hMw oa ta' (ba.imp id (fun h => Nat.le_trans t3.size h)) r3'.types h
            have HAP := Lib.hid hap
            have HNX := Lib.hid NX
            have HSTEP := Lib.hid STEP
            clear t3 r1 r2 r3 r4 r5 hMw hNM hlt hp hap oa ta ba ta' r3' NX STEP
            go_wp2_with (first | (at_builtin; refine Lib.wpList_append_run _ rfl _ _ _ _ rfl _ _ rfl rfl _ _ (HAP.out _) ?_) | (go_at_call 14; fail))
            refine HNX.out.mono ?_
            rintro e w4 ⟨rfl, h4⟩
            have H4 := Lib.hid (HSTEP.out _ h4)
            clear h4
            go_wp2_with (fail)
            go_roundg g'
            case measure => omega
            case rel => exact ⟨q + 1, by go_num, by omega, H4.out⟩
          · obtain rfl : q = L.length := by omega
            clear hlt
            rw [if_neg (Nat.lt_irrefl _)] at r3
            have OK := okL r3
            have LEN := lenL r3.tree
            have LST := lastL r3.tree (by have := H2.out.2.2.2.2.1; omega)
            have HOK := Lib.hid OK
            have HLEN := Lib.hid LEN
            have HLST := Lib.hid LST
            obtain ⟨Z, hZ⟩ : ∃ Z, L.length = Z := ⟨_, rfl⟩
            have hrow : ∃ la lc, u8 = .slice la Z lc ∧ ∀ j p, L[j]? = some p → ∃ g, la = some ⟨g, 0, none⟩ ∧ M ≤ g ∧ wr.cell? ⟨g, j, none⟩ = some (.string p.1) := by
              rw [hZ, List.take_of_length_le (by rw [Ux.keys_length]; omega)] at r1
              rcases r1.2 with ⟨rfl, h0⟩ | ⟨g, lc, cur, rfl, _, hg, _, _, _, htk⟩
              · exact ⟨none, 0, by rw [h0], fun j p hp => by have := (List.getElem?_eq_some_iff.1 hp).1; omega⟩
              · exact ⟨_, lc, rfl, fun j p hp => ⟨g, rfl, r2 g (by simp [blk, Value.ownBlock]), Ux.row_cell hg htk j _ (by rw [List.getElem?_map, Ux.getElem?_keys, hp]; rfl)⟩⟩
            obtain ⟨la, lc, rfl, hrow⟩ := hrow
            rw [hZ] at HLEN
            have HR := Lib.hid (And.intro r1 (And.intro r2 (And.intro r3 (And.intro r4 (And.intro r5 (And.intro hMw (And.intro hNM (And.intro hZ hrow))))))))
            have z0 : (Z : Int) ≤ 80 := by have := H2.out.2.2.2.2.1; omega
            have z1 : (0 : Int) ≤ Z := by omega
            clear OK LEN LST r1 r2 r3 r4 r5 hMw hNM hrow hqg
            rw [hZ]
            clear hZ
            go_wp2_with (first | (go_at_call 12; refine HOK.out.mono ?_; rintro e w3 ⟨rfl, rfl⟩) | (go_at_call 15; refine HLEN.out.mono ?_; rintro e w3 ⟨rfl, rfl⟩) | (go_at_call 16; fail))
            refine HLST.out.mono ?_
            rintro e w3 ⟨db, fd, rfl, d3, hfd, t3⟩
            have H5 := Lib.hid (And.intro d3 (And.intro hfd t3))
            clear d3 hfd t3
            go_wp2_with (fail)
            obtain ⟨wp, hwp⟩ : ∃ wp : World, wp = wr := ⟨_, rfl⟩
            subst hwp
            obtain ⟨Q, hQ⟩ : ∃ Q, wp.heap.size = Q := ⟨_, rfl⟩
            rw [hQ] at H5
            have HQ := Lib.hid hQ
            clear hQ
            go_loopg [12] Z (fun g s12 wq => s12 = .int .i64 ((g : Int) - 1) ∧ g ≤ Z ∧ BackRel wp tb F L N Q db g wq)
            case atStart =>
              refine ⟨rfl, Nat.le_refl _, fd, ?_, H5.out.2.1, H5.out.2.2.mono (fun _ _ f => f.elim)⟩
              have h := H5.out.1
              have hz := HR.out.2.2.2.2.2.2.2.1
              by_cases hL : L = []
              · rw [if_pos hL] at h
                rw [if_pos (by rw [← hz, hL]; rfl)]
                exact h
              · rw [if_neg hL] at h
                rw [if_neg (by rw [← hz]; exact fun e => hL (List.eq_nil_of_length_eq_zero e)), ← hz]
                exact h
            case round =>
              obtain ⟨rfl, hgZ, fe, x1, x2, x3⟩ := hrel
              rcases Nat.eq_zero_or_pos gk with h0 | h0
              · subst h0
                have C0 := HR.out.2.2.1.touch x3 (fun b _ h h' => by
                  have h2 : Q ≤ b := h'
                  have := HR.out.2.2.2.2.2.1; have := HQ.out; omega) (fun b hb h' => by
                  have h2 : Q ≤ b := h'
                  obtain ⟨_, _, hh, _⟩ := HR.out.2.2.1.types b hb
                  have := Ux.lt_of_heap hh
                  have := HQ.out; omega)
                have NX := nextL C0
                have TT := HR.out.2.2.2.2.1.trans x3 (fun b hb h => by have h2 : Q ≤ b := h; have h3 := HQ.out; have h4 := HR.out.2.2.2.2.1.size; have := HNN.out; show N ≤ b; omega)
                have HNX := Lib.hid NX
                have HTT := Lib.hid (And.intro TT C0)
                have hcN : ∀ b ∈ fcc, N ≤ b := fun b hb => Nat.le_trans HR.out.2.2.2.2.2.2.1 (HR.out.2.2.2.1 b hb)
                have HCN := Lib.hid hcN
                clear NX C0 TT x1 x2 x3 hcN
                go_wp2_with (go_at_call 14; fail)
                refine HNX.out.mono ?_
                rintro e w4 ⟨rfl, fc4, c4, f4, t4⟩
                have PV := prevL c4
                have HPV := Lib.hid PV
                have H4 := Lib.hid (And.intro f4 t4)
                clear PV c4 f4 t4
                go_wp2_with (go_at_call 19; fail)
                refine HPV.out.mono ?_
                rintro e w5 ⟨rfl, fc5, c5, f5, t5⟩
                have H5' := Lib.hid (And.intro f5 t5)
                have HAW := Lib.hid (awake20 w5)
                clear c5 f5 t5
                go_wp2_with (go_at_call 20; fail)
                refine HAW.out.mono ?_
                rintro e w6 ⟨rfl, t6⟩
                have HT6 := Lib.hid t6
                clear t6
                go_wp2
                go_ret
                refine ⟨rfl, ?_⟩
                have hWw := HTT.out.1.size
                have hN0 := HNN.out
                have A := HTT.out.1.trans H4.out.2 (fun b hb h => HCN.out b h)
                have B := A.trans H5'.out.2 (fun b hb h => (H4.out.1 b h).elim (fun h => HCN.out b h) (fun h => by show N ≤ b; omega))
                exact (B.trans HT6.out (fun _ _ f => f.elim)).mono (fun b hb h => by have h2 : N ≤ b := h; omega)
              · obtain ⟨g', rfl⟩ : ∃ g', gk = g' + 1 := ⟨gk - 1, by omega⟩
                have hgl : g' < L.length := by have := HR.out.2.2.2.2.2.2.2.1; omega
                obtain ⟨p, hp⟩ : ∃ p, L[g']? = some p := ⟨L[g'], List.getElem?_eq_getElem hgl⟩
                obtain ⟨gl, rfl, hMg, hrc⟩ := HR.out.2.2.2.2.2.2.2.2 g' p hp
                have hglt : gl < Q := by have h : gl < wp.heap.size := block_lt_of_cell hrc; have := HQ.out; omega
                have c1 := x3.cell hrc (fun h => by have h' : Q ≤ gl := h; omega)
                obtain ⟨j, hj1, hj2, hj3⟩ := H2.out.2.2.2.1 g' p hp
                obtain ⟨ab, ao, rfl, hab, hac⟩ := HB.out j p.1 hj3
                have a1 := x3.cell (HR.out.2.2.2.2.1.cell hac (fun h => by have h' : N ≤ ab := h; have := HNN.out; omega)) (fun h => by
                  have h' : Q ≤ ab := h
                  have := HNN.out; have := HR.out.2.2.2.2.1.size; have := HQ.out; omega)
                rw [if_neg (by omega), show g' + 1 - 1 = g' by omega] at x1
                have DR := (Ux.Touch.refl (fun _ => False) wr).drew
                have OKD := okL (x1.still DR)
                have KYD := (keyL (x1.still DR) p hp).1
                have hga := get_at H2.out.2.2.1 hp
                have HOKD := Lib.hid OKD
                have HKYD := Lib.hid KYD
                have HX := Lib.hid (And.intro x1 (And.intro x2 (And.intro x3 (And.intro hp (And.intro hga hj2)))))
                have hL80 := H2.out.2.2.2.2.1
                have HL80 := Lib.hid hL80
                have y1 : (j : Int) < n := by omega
                have y2 : (0 : Int) ≤ j := by omega
                have y3 : (g' : Int) < Z := by omega
                have y4 : (0 : Int) ≤ g' := by omega
                clear OKD KYD x1 x2 x3 hp hga hj2 hL80 hrc hMg hglt hj1 hj3 hac hab DR h0 hgl
                cases g' with
                | zero =>
                  have c1' : wr.cell? ⟨gl, 0, none⟩ = some (.string p.1) := c1
                  clear c1
                  go_wp2_with (fail)
                  refine Ux.wp_region_plan (fun _ w' => w'.cell? ⟨gl, 0, none⟩ = some (.string p.1)) (.q [0, 1, 2, 3] (.e 4 true false (.q [5, 6, 7, 8, 10, 11, 12] (.h false [13] (.e 9 true false (.q [14, 15, 16, 17, 18, 19, 20, 21, 22, 23, 25, 26, 27] (.h false [24, 28] (.q [29, 30, 31] (.line [])))))))))
                    (by kernel_rfl) (by kernel_rfl) (by intro _ _ d _ _ h; cases d <;> exact h) ?hS ?_
                  case hS => (intro c; cases c <;> (simp only [World.cell?_drew]; first | exact True.intro | (refine ⟨?_, ?_⟩ <;> assumption) | assumption | (repeat (first | assumption | (refine And.intro ?_ ?_)))))
                  simp only [Ux.wpPlan, Ux.pickOps, Ux.keeps, List.getElem?_toArray, List.getElem?_cons_succ, List.getElem?_cons_zero]
                  repeat (first
                    | go_big_quiet_step (fail)
                    | (with_reducible refine wpQuiet_nil ?_)
                    | (refine Ux.quiet_held rfl ?_; apply Exists.intro; refine ⟨fun w' hS => ?_, ?_⟩; (focus ((try dsimp only at hS); go_simp; first | done | with_reducible rfl)); simp only [Act.put, List.setIfInBounds_toArray, List.set_cons_zero, List.set_cons_succ]))
                  go_wp2_with (go_at_call 12; refine HOKD.out.mono ?_; rintro e w5 ⟨rfl, rfl⟩)
                  refine ⟨c1', ?_⟩
                  repeat (first
                    | go_big_quiet_step (fail)
                    | (with_reducible refine wpQuiet_nil ?_)
                    | (refine Ux.quiet_held rfl ?_; apply Exists.intro; refine ⟨fun w' hS => ?_, ?_⟩; (focus ((try dsimp only at hS); go_simp; first | done | with_reducible rfl)); simp only [Act.put, List.setIfInBounds_toArray, List.set_cons_zero, List.set_cons_succ]))
                  go_wp2_with (go_at_call 13; fail)
                  refine HKYD.out.mono ?_
                  rintro e w5 ⟨rfl, t5⟩
                  have c5 := t5.cell (a := ⟨gl, 0, none⟩) c1' (fun f => f)
                  have a5 := t5.cell (a := ⟨ab, ao + j, none⟩) a1 (fun f => f)
                  have X5 := (HX.out.1.still (Ux.Touch.refl (fun _ => False) wr).drew).still t5
                  have GT := getL X5.tree (by have := HL80.out; omega) p.1
                  rw [HX.out.2.2.2.2.1.2, HX.out.2.2.2.2.1.1, HX.out.2.2.2.2.2] at GT
                  have HGT := Lib.hid GT
                  have H5a := Lib.hid (And.intro X5 t5)
                  clear GT X5 t5 c1' a1 
                  go_wp2_with (fail)
                  refine ⟨c5, ?_⟩
                  repeat (first
                    | go_big_quiet_step (fail)
                    | (with_reducible refine wpQuiet_nil ?_)
                    | (refine Ux.quiet_held rfl ?_; apply Exists.intro; refine ⟨fun w' hS => ?_, ?_⟩; (focus ((try dsimp only at hS); go_simp; first | done | with_reducible rfl)); simp only [Act.put, List.setIfInBounds_toArray, List.set_cons_zero, List.set_cons_succ]))
                  go_wp2_with (go_at_call 17; fail)
                  refine HGT.out.mono ?_
                  rintro e w6 ⟨rfl, t6⟩
                  have c6 := t6.cell c5 (fun f => f)
                  have a6 := t6.cell a5 (fun f => f)
                  have X6 := H5a.out.1.still t6
                  have RW := (keyL (X6.still (Ux.Touch.refl (fun _ => False) w6).drew) p HX.out.2.2.2.1).2
                  rw [HX.out.2.2.2.2.2] at RW
                  have HRW := Lib.hid RW
                  have H6 := Lib.hid (And.intro X6 t6)
                  clear RW X6 t6 c5 a5 
                  go_wp2_with (fail)
                  refine Ux.wp_region_plan (fun _ w' => w'.cell? ⟨gl, 0, none⟩ = some (.string p.1) ∧ w'.cell? ⟨ab, ao + j, none⟩ = some (.string p.1)) (.q [0, 1, 2, 3, 4, 5, 7, 8, 9] (.h false [6, 10] (.q [11, 12, 13, 14, 16] (.e 15 true false (.q [17, 18] (.line []))))))
                    (by kernel_rfl) (by kernel_rfl) (by intro _ _ d _ _ h; cases d <;> exact h) ?hS ?_
                  case hS => (intro c; cases c <;> (simp only [World.cell?_drew]; first | exact True.intro | (refine ⟨?_, ?_⟩ <;> assumption) | assumption | (repeat (first | assumption | (refine And.intro ?_ ?_)))))
                  simp only [Ux.wpPlan, Ux.pickOps, Ux.keeps, List.getElem?_toArray, List.getElem?_cons_succ, List.getElem?_cons_zero]
                  repeat (first
                    | go_big_quiet_step (fail)
                    | (with_reducible refine wpQuiet_nil ?_)
                    | (refine Ux.quiet_held rfl ?_; apply Exists.intro; refine ⟨fun w' hS => ?_, ?_⟩; (focus ((try dsimp only at hS); go_simp; first | done | with_reducible rfl)); simp only [Act.put, List.setIfInBounds_toArray, List.set_cons_zero, List.set_cons_succ]))
                  go_wp2_with (go_at_call 18; fail)
                  refine HRW.out.mono ?_
                  rintro e w7 ⟨rfl, t7⟩
                  have c7 := t7.cell (a := ⟨gl, 0, none⟩) c6 (fun f => f)
                  have a7 := t7.cell (a := ⟨ab, ao + j, none⟩) a6 (fun f => f)
                  have X7 := (H6.out.1.still (Ux.Touch.refl (fun _ => False) w6).drew).still t7
                  have PV := prevL X7
                  have T7 : Ux.Touch (fun _ => False) wr w7 := ((((Ux.Touch.refl (fun _ => False) wr).drew).trans H5a.out.2 (fun _ _ f => f)).trans H6.out.2 (fun _ _ f => f)).drew.trans t7 (fun _ _ f => f)
                  have HPV := Lib.hid PV
                  have HT7 := Lib.hid T7
                  clear X7 PV T7 t7 c6 a6
                  go_wp2_with (fail)
                  refine ⟨⟨c7, a7⟩, ?_⟩
                  clear c7 a7
                  repeat (first
                    | go_big_quiet_step (fail)
                    | (with_reducible refine wpQuiet_nil ?_)
                    | (refine Ux.quiet_held rfl ?_; apply Exists.intro; refine ⟨fun w' hS => ?_, ?_⟩; (focus ((try dsimp only at hS); go_simp; first | done | with_reducible rfl)); simp only [Act.put, List.setIfInBounds_toArray, List.set_cons_zero, List.set_cons_succ]))
                  go_wp2_with (go_at_call 19; fail)
                  refine HPV.out.mono ?_
                  rintro e w8 ⟨rfl, h8⟩
                  have H8 := Lib.hid (back_step HQ.out.symm HX.out.2.1 HX.out.2.2.1 HT7.out h8)
                  clear h8
                  go_wp2_with (fail)
                  go_roundg 0
                  case measure => omega
                  case rel => exact ⟨rfl, by omega, H8.out⟩
                | succ k =>
                  have c1' : wr.cell? ⟨gl, k + 1, none⟩ = some (.string p.1) := c1
                  obtain ⟨p', hp'⟩ : ∃ p', L[k]? = some p' := ⟨L[k]'(by have := (List.getElem?_eq_some_iff.1 HX.out.2.2.2.1).1; omega), List.getElem?_eq_getElem _⟩
                  obtain ⟨gl2, e2, hMg2, hrc2⟩ := HR.out.2.2.2.2.2.2.2.2 k p' hp'
                  cases e2
                  have hl2 : gl < wp.heap.size := block_lt_of_cell hrc2
                  have d1 := HX.out.2.2.1.cell hrc2 (fun h => by have h' : Q ≤ gl := h; have := HQ.out; omega)
                  have hcmp : Op.bytesLess p'.1.toList p.1.toList = true := Ux.up_at H2.out.2.2.1 hp' HX.out.2.2.2.1 (Nat.lt_succ_self k)
                  have y5 : (0 : Int) ≤ k := by omega
                  have y6 : (k : Int) + 1 < Z := by omega
                  clear hp' hMg2 hrc2 hl2 y4 y3
                  clear c1
                  go_wp2_with (fail)
                  refine Ux.wp_region_plan (fun _ w' => w'.cell? ⟨gl, k + 1, none⟩ = some (.string p.1) ∧ w'.cell? ⟨gl, k, none⟩ = some (.string p'.1)) (.q [0, 1, 2, 3] (.e 4 true false (.q [5, 6, 7, 8, 10, 11, 12] (.h false [13] (.e 9 true false (.q [14, 15, 16, 17, 18, 19, 20, 21, 22, 23, 25, 26, 27] (.h false [24, 28] (.q [29, 30, 31] (.line [])))))))))
                    (by kernel_rfl) (by kernel_rfl) (by intro _ _ d _ _ h; cases d <;> exact h) ?hS ?_
                  case hS => (intro c; cases c <;> (simp only [World.cell?_drew]; first | exact True.intro | (refine ⟨?_, ?_⟩ <;> assumption) | assumption | (repeat (first | assumption | (refine And.intro ?_ ?_)))))
                  simp only [Ux.wpPlan, Ux.pickOps, Ux.keeps, List.getElem?_toArray, List.getElem?_cons_succ, List.getElem?_cons_zero]
                  repeat (first
                    | go_big_quiet_step (fail)
                    | (with_reducible refine wpQuiet_nil ?_)
                    | (refine Ux.quiet_held rfl ?_; apply Exists.intro; refine ⟨fun w' hS => ?_, ?_⟩; (focus ((try dsimp only at hS); go_simp; first | done | with_reducible rfl)); simp only [Act.put, List.setIfInBounds_toArray, List.set_cons_zero, List.set_cons_succ]))
                  go_wp2_with (go_at_call 12; refine HOKD.out.mono ?_; rintro e w5 ⟨rfl, rfl⟩)
                  refine ⟨⟨c1', d1⟩, ?_⟩
                  repeat (first
                    | go_big_quiet_step (fail)
                    | (with_reducible refine wpQuiet_nil ?_)
                    | (refine Ux.quiet_held rfl ?_; apply Exists.intro; refine ⟨fun w' hS => ?_, ?_⟩; (focus ((try dsimp only at hS); go_simp; first | done | with_reducible rfl)); simp only [Act.put, List.setIfInBounds_toArray, List.set_cons_zero, List.set_cons_succ]))
                  go_wp2_with (go_at_call 13; fail)
                  refine HKYD.out.mono ?_
                  rintro e w5 ⟨rfl, t5⟩
                  have c5 := t5.cell (a := ⟨gl, k + 1, none⟩) c1' (fun f => f)
                  have d5 := t5.cell (a := ⟨gl, k, none⟩) d1 (fun f => f)
                  have a5 := t5.cell (a := ⟨ab, ao + j, none⟩) a1 (fun f => f)
                  have X5 := (HX.out.1.still (Ux.Touch.refl (fun _ => False) wr).drew).still t5
                  have GT := getL X5.tree (by have := HL80.out; omega) p.1
                  rw [HX.out.2.2.2.2.1.2, HX.out.2.2.2.2.1.1, HX.out.2.2.2.2.2] at GT
                  have HGT := Lib.hid GT
                  have H5a := Lib.hid (And.intro X5 t5)
                  clear GT X5 t5 c1' a1 d1
                  go_wp2_with (fail)
                  refine ⟨⟨c5, d5⟩, ?_⟩
                  repeat (first
                    | go_big_quiet_step (fail)
                    | (with_reducible refine wpQuiet_nil ?_)
                    | (refine Ux.quiet_held rfl ?_; apply Exists.intro; refine ⟨fun w' hS => ?_, ?_⟩; (focus ((try dsimp only at hS); go_simp; first | done | with_reducible rfl)); simp only [Act.put, List.setIfInBounds_toArray, List.set_cons_zero, List.set_cons_succ]))
                  go_wp2_with (go_at_call 17; fail)
                  refine HGT.out.mono ?_
                  rintro e w6 ⟨rfl, t6⟩
                  have c6 := t6.cell c5 (fun f => f)
                  have a6 := t6.cell a5 (fun f => f)
                  have X6 := H5a.out.1.still t6
                  have RW := (keyL (X6.still (Ux.Touch.refl (fun _ => False) w6).drew) p HX.out.2.2.2.1).2
                  rw [HX.out.2.2.2.2.2] at RW
                  have HRW := Lib.hid RW
                  have H6 := Lib.hid (And.intro X6 t6)
                  clear RW X6 t6 c5 a5 
                  go_wp2_with (fail)
                  refine Ux.wp_region_plan (fun _ w' => w'.cell? ⟨gl, k + 1, none⟩ = some (.string p.1) ∧ w'.cell? ⟨ab, ao + j, none⟩ = some (.string p.1)) (.q [0, 1, 2, 3, 4, 5, 7, 8, 9] (.h false [6, 10] (.q [11, 12, 13, 14, 16] (.e 15 true false (.q [17, 18] (.line []))))))
                    (by kernel_rfl) (by kernel_rfl) (by intro _ _ d _ _ h; cases d <;> exact h) ?hS ?_
                  case hS => (intro c; cases c <;> (simp only [World.cell?_drew]; first | exact True.intro | (refine ⟨?_, ?_⟩ <;> assumption) | assumption | (repeat (first | assumption | (refine And.intro ?_ ?_)))))
                  simp only [Ux.wpPlan, Ux.pickOps, Ux.keeps, List.getElem?_toArray, List.getElem?_cons_succ, List.getElem?_cons_zero]
                  repeat (first
                    | go_big_quiet_step (fail)
                    | (with_reducible refine wpQuiet_nil ?_)
                    | (refine Ux.quiet_held rfl ?_; apply Exists.intro; refine ⟨fun w' hS => ?_, ?_⟩; (focus ((try dsimp only at hS); go_simp; first | done | with_reducible rfl)); simp only [Act.put, List.setIfInBounds_toArray, List.set_cons_zero, List.set_cons_succ]))
                  go_wp2_with (go_at_call 18; fail)
                  refine HRW.out.mono ?_
                  rintro e w7 ⟨rfl, t7⟩
                  have c7 := t7.cell (a := ⟨gl, k + 1, none⟩) c6 (fun f => f)
                  have a7 := t7.cell (a := ⟨ab, ao + j, none⟩) a6 (fun f => f)
                  have X7 := (H6.out.1.still (Ux.Touch.refl (fun _ => False) w6).drew).still t7
                  have PV := prevL X7
                  have T7 : Ux.Touch (fun _ => False) wr w7 := ((((Ux.Touch.refl (fun _ => False) wr).drew).trans H5a.out.2 (fun _ _ f => f)).trans H6.out.2 (fun _ _ f => f)).drew.trans t7 (fun _ _ f => f)
                  have HPV := Lib.hid PV
                  have HT7 := Lib.hid T7
                  clear X7 PV T7 t7 c6 a6
                  go_wp2_with (fail)
                  refine ⟨⟨c7, a7⟩, ?_⟩
                  clear c7 a7
                  repeat (first
                    | go_big_quiet_step (fail)
                    | (with_reducible refine wpQuiet_nil ?_)
                    | (refine Ux.quiet_held rfl ?_; apply Exists.intro; refine ⟨fun w' hS => ?_, ?_⟩; (focus ((try dsimp only at hS); go_simp; first | done | with_reducible rfl)); simp only [Act.put, List.setIfInBounds_toArray, List.set_cons_zero, List.set_cons_succ]))
                  go_wp2_with (go_at_call 19; fail)
                  refine HPV.out.mono ?_
                  rintro e w8 ⟨rfl, h8⟩
                  have H8 := Lib.hid (back_step HQ.out.symm HX.out.2.1 HX.out.2.2.1 HT7.out h8)
                  clear h8
                  go_wp2_with (fail)
                  go_roundg (k + 1)
                  case measure => omega
                  case rel => exact ⟨by congr 1; omega, by omega, H8.out⟩

end Go.Proofs.Ytdfgpminonpeaaa
