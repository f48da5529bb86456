/- PART OF THE PROOF THAT THIS CLAIM HOLDS OF THE GIVEN PROGRAM, FOR EVERY INPUT THAT THE STATEMENT NAMES. No condition besides the statement's own. -/
import Derived.Test.YtjkeiomildghmaaGreatDoorRefBZ
import Derived.Test.YtjkeiomildghmaaGreatDoorElems5Z
import Derived.Test.YtjkeiomildghmaaGreatDoorTableAZ
import Derived.Test.YtjkeiomildghmaaGreatDoorUxTabAZ
import Derived.Test.YtjkeiomildghmaaGreatDoorRows
import Derived.WalkKit
import Derived.Handy
import Derived.Laws.EntriesVeiled
import Derived.WalkSpells
import Derived.WalkLawsBesides
import Derived.BigQuiet
import Derived.Deep.QuietTactic
import Derived.Deep.Cut
import Derived.Deep.DeepCutAuto
import Derived.Lib.Overlaps
import Derived.Laws.Externs
import Derived.Lib.Hide
import Derived.Test.YtjkeiomildghmaaGreatDoorUxPlanAllZ
import Derived.Test.YtjkeiomildghmaaGreatDoorUxMemAZ
import Derived.Test.YtjkeiomildghmaaGreatDoorUxOrdZ
import Derived.Deep.LoopGhost
namespace Go.Proofs.YtjkeiomildghmaaGreatDoor
open Go.RowKit
open Go.RowKit
open Ux (Row Ent rootE rootT sv iv ev elemsE atE okT SameE OpsView NView KGrow)
open Ux.Sign (cp raw signs)

theorem IView.of_n {w : World} {v : Value} {s : List Int} (h : NView .i64 w v s) : IView w v s ∧ s.length ≤ 9223372036854775807 := by
  obtain ⟨a, c, rfl, h0, h1, _⟩ := h
  refine ⟨⟨a, c, rfl, fun j x hx => ?_⟩, by simpa only [maxLen] using h0⟩
  obtain ⟨g, o, h2, _, h3⟩ := h1 j x hx
  exact ⟨g, o, h2, h3⟩
theorem ops_touch {w w' : World} {v : Value} {l : List (List Int × List Int)} (h : OpsView w v l) (ht : Ux.Touch (fun _ => False) w w') : OpsView w' v l := h.touch0 ht.size fun _ _ _ _ h => ht.cell h (fun f => f)
theorem cell_in {w : World} {b j : Nat} {cs : Array Value} {t : TypeId} {u : Value} (h : w.heap[b]? = some (.cells cs t (0, 0))) (hc : w.cell? ⟨b, j, none⟩ = some u) : u ∈ cs.toList := by
  rw [cell_of_row w b j _ _ (0, 0) h] at hc
  exact List.mem_of_getElem? (by rw [Array.getElem?_toList]; exact hc)
/-- a table stays when only blocks of slices are written, none of them elements -/
theorem TableAt.touchS {R : Nat → Prop} {w w' : World} {B mb : Nat} {E : List Ent} (h : TableAt w B mb E) (ht : Ux.Touch R w w')
    (hR : ∀ b, R b → ∃ cs t, w.heap[b]? = some (.cells cs t (0, 0)) ∧ t ≠ 30 ∧ ∀ u ∈ cs.toList, ∃ a n c, u = .slice a n c) : TableAt w' B mb E := by
  obtain ⟨h1, t, ks, f, h2, ⟨bb, c, am, G, g1, g2, g3, g4, g5⟩, h4⟩ := h
  have nc : ∀ (b j : Nat) (u : Value), w.cell? ⟨b, j, none⟩ = some u → (∀ a n c, u ≠ .slice a n c) → ¬ R b := fun b j u hc hu hb => by
    obtain ⟨cs, t, e, _, hs⟩ := hR b hb
    obtain ⟨a, n, c, e2⟩ := hs u (cell_in e hc)
    exact hu a n c e2
  have nm : ∀ (b : Nat) (n : Nat) (F : Lit → Option Value) (k : TypeId), Ux.MapIs Tryz.prog k w b n F → ¬ R b := fun b n F k hm hb => by
    obtain ⟨cs, t, e, _, _⟩ := hR b hb
    obtain ⟨D, ⟨es, clock, h1, _⟩, _⟩ := hm
    rw [h1] at e
    cases e
  have c0 : w.cell? ⟨B, 0, none⟩ = some (.map (some mb)) := by rw [cell_of_row w B 0 _ _ (0, 0) h2]; rfl
  refine ⟨h1.touch ht ?_ ?_, t, ks, f, ht.heap h2 (nc B 0 _ c0 (fun _ _ _ h => by cases h)), ⟨bb, c, am, G, ht.cell g1 (nc t 1 _ g2 (fun _ _ _ h => by cases h)), ht.cell g2 (nc t 1 _ g2 (fun _ _ _ h => by cases h)), fun j v hv => ht.cell (g3 j v hv) ?_, g4.touch ht (nm _ _ _ _ g4), g5⟩, h4⟩
  · obtain ⟨_, F, hm, _⟩ := h1
    exact nm _ _ _ _ hm
  · intro g cs hg hb
    obtain ⟨cs', t', e, hne, _⟩ := hR g hb
    rw [hg] at e
    cases e
    exact hne rfl
  · refine nc bb j v (g3 j v hv) fun a n c e => ?_
    have hm := List.mem_of_getElem? hv
    unfold blCells at hm
    obtain ⟨x, _, hx⟩ := List.mem_flatMap.1 hm
    obtain ⟨z, _, hz⟩ := List.mem_map.1 hx
    rw [e] at hz
    cases hz
theorem ratI_ (v vs : Value) (T : List Ent) (s : List Nat) (A : Nat → Prop) (i : Int) (w : World) (hT : RRows w A v T) (hs : SView w vs s) (hcap : capOk vs) (hcs : ∀ c ∈ s, cp c ∨ raw c) (h1 : T.length ≤ 1000000) (h2 : s.length ≤ 1000000000) (h3 : ∀ e ∈ T, e.1.length ≤ 1000000000) :
    Calls Tryz.prog 26 #[.agg #[v], vs, .int .i64 i] w fun e w' => ∃ u, e = .returned (.tuple #[u, .int .i64 ((atI T s i).2 : Nat)]) ∧ RRow w' u (atI T s i).1 ∧ Ux.Touch (fun _ => False) w w' := by
  unfold atI
  by_cases h : i < 0 ∨ (s.length : Int) ≤ i
  · rw [if_pos h]
    refine (ratNo_ v vs T s A i w hT hs h2 h).mono ?_
    rintro e w' ⟨rfl, T⟩
    exact ⟨_, rfl, RRow.nil _, T⟩
  · rw [if_neg h]
    obtain ⟨k, rfl⟩ : ∃ k : Nat, i = k := ⟨i.toNat, by omega⟩
    rw [Int.toNat_natCast]
    exact rat_ v vs T s A k w hT hs hcap hcs h1 h2 h3 (by omega)
theorem atI_congr {E T : List Ent} (h : ∀ s, Ux.findE E s = Ux.findE T s) (s : List Nat) (i : Int) : atI E s i = atI T s i := by
  unfold atI
  rw [Ux.atE_congr h]
theorem atI_ok {E : List Ent} (h : okT E) {s : List Nat} (hs : ∀ c ∈ s, cp c ∨ raw c) (i : Int) : (atI E s i).1.length ≤ 8 ∧ ∀ x ∈ (atI E s i).1, x < 4294967296 := by
  unfold atI
  split
  · exact ⟨Nat.zero_le _, fun x hx => by cases hx⟩
  · exact Ux.atE_ok h (fun c hc => by have := hs c hc; unfold cp raw at this; omega) (by omega)
theorem ofE_ok {E : List Ent} (h : okT E) {s : List Nat} (hs : ∀ c ∈ s, cp c ∨ raw c) : ∀ k i, (Ux.ofE E s i k).length ≤ 8 * k ∧ ∀ x ∈ Ux.ofE E s i k, x < 4294967296
  | 0, i => ⟨Nat.zero_le _, fun x hx => by cases hx⟩
  | k + 1, i => by
    unfold Ux.ofE
    split
    · exact ⟨Nat.zero_le _, fun x hx => by cases hx⟩
    · have h1 := Ux.atE_ok h (fun c hc => by have := hs c hc; unfold cp raw at this; omega) (s := s) (i := i) (by omega)
      have h2 := ofE_ok h hs k (i + (atE E s i).2)
      refine ⟨by rw [List.length_append]; omega, fun x hx => ?_⟩
      rcases List.mem_append.1 hx with hx | hx
      · exact h1.2 x hx
      · exact h2.2 x hx
theorem elemsE_ok {E : List Ent} (h : okT E) {s : List Nat} (hs : ∀ c ∈ s, cp c ∨ raw c) : (elemsE E s).length ≤ 8 * s.length ∧ ∀ x ∈ elemsE E s, x < 4294967296 := ofE_ok h hs _ _
/-- both tables at hand: the program's at B, the document's in the cell q -/
def Two (w : World) (q B mb : Nat) (E T : List Ent) (v : Value) : Prop :=
  TableAt w B mb E ∧ RRows w (fun b => b ≠ q) v T ∧ SameE E T ∧ (∀ e ∈ E, ∀ c ∈ e.1, cp c ∨ raw c) ∧ E.length ≤ 500 ∧ w.heap[q]? = some (.cells #[v] 47 (0, 0))
theorem Two.ok3 {w : World} {q B mb : Nat} {E T : List Ent} {v : Value} (h : Two w q B mb E T v) : T.length ≤ 500 ∧ okT T ∧ ∀ e ∈ T, 1 ≤ e.1.length ∧ e.1.length ≤ 3 := by
  have h1 := h.2.2.1.ok h.1.1.1
  exact ⟨by have := h.2.2.1.1.length_eq; have := h.2.2.2.2.1; omega, h1, fun e he => ⟨(h1.2 e he).1.1, (h1.2 e he).1.2.1⟩⟩
theorem Two.touch {w w' : World} {q B mb : Nat} {E T : List Ent} {v : Value} (h : Two w q B mb E T v) (ht : Ux.Touch (fun _ => False) w w') : Two w' q B mb E T v :=
  ⟨h.1.touch0 ht, h.2.1.touch0 ht, h.2.2.1, h.2.2.2.1, h.2.2.2.2.1, ht.heap h.2.2.2.2.2 (fun f => f)⟩

set_option maxHeartbeats 16000000 in
set_option maxRecDepth 100000 in
theorem weighsLaw0_ (hrr : ∀ W, Calls Tryz.prog 21 #[] W fun e w' => ∃ u, e = .returned (.agg #[u]) ∧ RRows w' (fun b => W.heap.size + 2 ≤ b) u (rootT 132) ∧ Ux.Touch (fun _ => False) W w')
    (b : ByteArray) (v : Value) (l : List (List Int × List Int)) (at' : Int) (w : World) (hv : OpsView w v l) (hT : Tabs w) (hD : TabD w) : Calls Tryz.prog 5 #[.string b, v, .int .i64 at'] w fun e w' => e = .returned (.bool true) ∧ Ux.Touch (fun _ => False) w w' := by
  have HT := Lib.hid (And.intro hT hD)
  have HRR := Lib.hid hrr
  have HV := Lib.hid hv
  obtain ⟨a, cv, rfl, hlm, _⟩ := hv
  obtain ⟨n, hn⟩ : ∃ n, l.length = n := ⟨_, rfl⟩
  rw [hn] at HV hlm ⊢
  have n0 : (n : Int) ≤ 9223372036854775807 := by have : n ≤ maxLen := hlm; simp only [maxLen] at this; omega
  have HN := Lib.hid hn
  clear hT hD hrr hlm hn
  cases hlen : decide ((300 : Int) < b.size) with
  | true =>
    go_enter Tryz.func5, Tryz.ntmps5
    go_wp2_with (go_at_call 13; fail)
    refine (awake5_ w HT.out.1 HT.out.2).mono ?_
    rintro e w1 ⟨rfl, T1⟩
    have T1 := Lib.hid T1
    go_wp2
    go_returns
    exact ⟨rfl, T1.out⟩
  | false =>
    have hb300 : b.size ≤ 300 := by have := of_decide_eq_false hlen; omega
    have HB := Lib.hid hb300
    clear hb300
    go_enter Tryz.func5, Tryz.ntmps5
    go_wp2_with (go_at_call 15; fail)
    refine (rootT_ _).mono ?_
    rintro e w1 ⟨B, mb, rfl, h1, _, T1⟩
    have H1 := Lib.hid (And.intro h1 T1)
    clear h1 T1
    go_wp2_with (go_at_call 21; fail)
    refine (HRR.out w1).mono ?_
    rintro e w2 ⟨u, rfl, hR, T2⟩
    have hRL := hR
    obtain ⟨_, a2, ca, rfl, hcap, hca⟩ := hR
    obtain ⟨q, hq⟩ : ∃ q, w2.heap.size = q := ⟨_, rfl⟩
    have T23 : Ux.Touch (fun _ => False) w2 (w2.alloc (.cells #[.slice a2 (rootT 132).length ca] 47)) := (Ux.Touch.refl _ _).alloc _
    have hq0 : (w2.alloc (.cells #[.slice a2 (rootT 132).length ca] 47)).heap[q]? = some (.cells #[.slice a2 (rootT 132).length ca] 47 (0, 0)) := by rw [← hq]; exact heap_alloc_new w2 _
    have H2 : Hid (Two (w2.alloc (.cells #[.slice a2 (rootT 132).length ca] 47)) q B mb rootE (rootT 132) (.slice a2 (rootT 132).length ca) ∧ Ux.Touch (fun _ => False) w (w2.alloc (.cells #[.slice a2 (rootT 132).length ca] 47)) ∧ w.heap.size ≤ q) :=
      Lib.hid ⟨⟨H1.out.1.touch0 (T2.trans T23 fun _ _ f => f), (hRL.mono (A' := fun b => b ≠ q) fun g h1 _ => by omega).touch0 T23, Ux.same_root, rootE_sig, by rw [Ux.rootE_len]; decide, hq0⟩, H1.out.2.trans (T2.trans T23 fun _ _ f => f) fun _ _ f => f, by have := H1.out.2.size; have := T2.size; omega⟩
    clear hRL hcap hca T2 T23 hq0
    go_wp2_with (fail)
    generalize w2.alloc (.cells #[.slice a2 (rootT 132).length ca] 47) = W3 at H2 ⊢
    go_wp2_with (fail)
    go_loopg [7, 9] n (fun gk s7 s9 wr => ∃ (i B mb : Nat) (E T : List Ent) (v8 : Value), s7 = .pointer (some ⟨B, 0, none⟩) ∧ s9 = .int .i64 i ∧ i + gk = n ∧ Hid (Two wr q B mb E T v8 ∧ Ux.Touch (fun _ => False) w wr))
    case atStart => exact ⟨0, B, mb, rootE, rootT 132, _, rfl, rfl, by omega, Lib.hid ⟨H2.out.1, H2.out.2.1⟩⟩
    case round =>
      obtain ⟨i, B2, mb2, E, T, v8, rfl, rfl, hig, HI⟩ := hrel
      have i0 : (0 : Int) ≤ i := by omega
      obtain ⟨a8, c8, hv8⟩ : ∃ a8 c8, v8 = .slice a8 T.length c8 := by
        obtain ⟨_, a8, c8, h, _⟩ := HI.out.1.2.1
        exact ⟨a8, c8, h⟩
      subst hv8
      obtain ⟨m, hm⟩ : ∃ m, T.length = m := ⟨_, rfl⟩
      rw [hm] at HI
      have HM := Lib.hid hm
      clear hm
      have c0 : wr.cell? ⟨q, 0, none⟩ = some (.slice a8 m c8) := by rw [cell_of_row _ q 0 _ _ (0, 0) HI.out.1.2.2.2.2.2]; rfl
      obtain ⟨D, hD⟩ : ∃ D, (decide (i < n) && decide (i < 10)) = D := ⟨_, rfl⟩
      cases D with
      | true =>
        obtain ⟨hin, hi10⟩ : i < n ∧ i < 10 := by simpa using hD
        obtain ⟨g', rfl⟩ : ∃ g', gk = g' + 1 := ⟨gk - 1, by omega⟩
        have q1 : decide ((i : Int) < n) = true := by simp; omega
        have q2 : decide ((i : Int) < 10) = true := by simp; omega
        have q3 : decide (i < n) = true := by simp; omega
        have q4 : decide (i < 10) = true := by simp; omega
        have i1 : (i : Int) < n := by omega
        obtain ⟨o, ho⟩ : ∃ o, l[i]? = some o := ⟨_, List.getElem?_eq_getElem (by have := HN.out; omega)⟩
        obtain ⟨a', c', e0, _, hcells⟩ := ops_touch HV.out HI.out.2
        rw [HN.out] at e0
        cases e0
        obtain ⟨g, off, x, y, rfl, hg, k0, k1, hx, hy⟩ := hcells i o ho
        obtain ⟨hxi, hx63⟩ := IView.of_n hx
        have HX := Lib.hid (And.intro hxi (And.intro hx63 hy))
        obtain ⟨n1, hn1⟩ : ∃ n1, o.1.length = n1 := ⟨_, rfl⟩
        obtain ⟨n2, hn2⟩ : ∃ n2, o.2.length = n2 := ⟨_, rfl⟩
        obtain ⟨ax, cx, rfl, _⟩ := hxi
        obtain ⟨ay, cy, rfl, _⟩ := hy
        have HX := HX.out
        rw [hn1] at HX k0
        rw [hn2] at HX k1
        have HX := Lib.hid (And.intro HX (And.intro hn1 hn2))
        have HC := Lib.hid fun W (T1 : Ux.Touch (fun _ => False) wr W) => And.intro (T1.cell c0 (fun f => f)) (T1.cell k0 (fun f => f))
        clear hcells hx hx63 hin hi10 hD hg ho c0 k0 hn1 hn2
        go_wp2_with (go_at_call 22; fail)
        refine (elems5_ _ o.2 wr HX.out.1.2.2).mono ?_
        rintro e w4 ⟨u1, u2, rfl, hu1, hu2, _, T4⟩
        have hL12 : (natW o.2).length ≤ 12 := by rw [natW_len]; omega
        have hLlt : ∀ x ∈ natW o.2, x < 4294967296 := natW_lt HX.out.1.2.2
        obtain ⟨L, hL⟩ : ∃ L, natW o.2 = L := ⟨_, rfl⟩
        rw [hL] at hu1 hu2 hL12 hLlt
        have r1 : Row w4 0 30 u1 (ev L) := ((Row.own hu1.1 hu1.2).1).mono (Nat.zero_le _)
        have r2 : RRow w4 u2 L := RRow.of_grow rfl hu2
        have T04 := HI.out.2.trans T4 fun _ _ f => f
        have k0 := (HC.out _ T4).2
        have H4 := Lib.hid (And.intro T4 (And.intro r1 (And.intro r2 (And.intro hL12 (And.intro hLlt T04)))))
        have HW := Lib.hid (twithC_ B2 mb2 E T o.1 L (.slice ax n1 cx) u1 w4 (HI.out.1.touch T4).1 HI.out.1.2.2.1 (HX.out.1.1.touch0 T4) (by have := HX.out.1.2.1; have := HX.out.2.1; omega) r1 hLlt hL12 HI.out.1.2.2.2.2.1)
        have HRW := Lib.hid fun W (T5 : Ux.Touch (fun _ => False) w4 W) => rwithC_ (.slice a8 m c8) (.slice ax n1 cx) u2 T o.1 L (fun b => b ≠ q ∧ b < wr.heap.size) W ((HI.out.1.2.1.mono fun g h1 h2 => ⟨h2, h1⟩).touch0 (T4.trans T5 fun _ _ f => f)) (HX.out.1.1.touch0 (T4.trans T5 fun _ _ f => f)) (by have := HX.out.1.2.1; have := HX.out.2.1; omega) (r2.touch0 T5) hL12 (by have := HI.out.1.ok3.1; omega) HI.out.1.ok3.2.2
        obtain ⟨Z, hZ⟩ : ∃ Z : Int, ((codeE T o.1 L : Nat) : Int) = Z := ⟨_, rfl⟩
        obtain ⟨R, hR⟩ : ∃ R, (if codeE T o.1 L = 0 then Ux.putE T (o.1.map Int.toNat) L else []) = R := ⟨_, rfl⟩
        obtain ⟨m6, hm6⟩ : ∃ m6, R.length = m6 := ⟨_, rfl⟩
        have HZ := Lib.hid (And.intro hZ (And.intro hR hm6))
        rw [hZ] at HW
        rw [hZ, hR] at HRW
        obtain ⟨ab2, nb2, cb2, hb2⟩ : ∃ a n c, u2 = .slice a n c := by
          obtain ⟨a, c, h, _⟩ := r2
          exact ⟨_, _, _, h⟩
        subst hb2
        clear hu1 hu2 hL12 hLlt hL r1 r2 T4 T04 hZ k1 hR hm6
        go_wp2_with (go_at_call 18; fail)
        refine HW.out.mono ?_
        rintro e w5 ⟨P, rfl, hP, T5⟩
        have H5 := Lib.hid T5
        have c0 := (HC.out _ (H4.out.1.trans T5 fun _ _ f => f)).1
        have k0 := (HC.out _ (H4.out.1.trans T5 fun _ _ f => f)).2
        have HC5 := Lib.hid fun W (T1 : Ux.Touch (fun _ => False) w5 W) => HC.out W ((H4.out.1.trans H5.out fun _ _ f => f).trans T1 fun _ _ f => f)
        clear T5
        rcases hP with ⟨hK, B', mb', rfl, hT'⟩ | ⟨hK, rfl⟩
        all_goals
          go_upto_region 11 with (fail)
          go_cut [14, 15] (fun s14 s15 wx => ∃ (q14 : Nat) (a9 : Option Addr) (c9 : Nat), s14 = .pointer (some ⟨q14, 0, none⟩) ∧ s15 = .int .i64 Z ∧ wx.cell? ⟨q14, 0, none⟩ = some (.slice a9 m6 c9) ∧ Hid (RRows wx (fun b => b ≠ q) (.slice a9 m6 c9) R ∧ Ux.Touch (fun _ => False) w5 wx))
          case first =>
            refine Ux.wp_region_plan (fun _ w' => w'.cell? ⟨q, 0, none⟩ = some (.slice a8 m c8) ∧ w'.cell? ⟨g, off + i * 2, none⟩ = some (.slice ax n1 cx)) (.h false [0] (.q [1, 2, 3, 4, 6] (.h false [5] (.br 7 (.q [8, 9, 10] (.e 11 true false (.e 12 false false (.line [13])))) 11 (.e 7 true true (.q [8, 9, 10] (.e 12 false false (.line [13]))))))))
              (by kernel_rfl) (by kernel_rfl) (by intro _ _ d _ _ h; cases d <;> exact h) ?hS ?_
            case hS => (intro c; cases c <;> (simp only [World.cell?_drew]; first | exact True.intro | (refine ⟨?_, ?_⟩ <;> assumption) | assumption | (repeat (first | assumption | (refine And.intro ?_ ?_)))))
            simp only [Ux.wpPlan, Ux.pickOps, Ux.keeps, List.getElem?_toArray, List.getElem?_cons_succ, List.getElem?_cons_zero]
            repeat (first
              | go_big_quiet_step (fail)
              | (with_reducible refine wpQuiet_nil ?_)
              | (refine Ux.quiet_held rfl ?_; apply Exists.intro; refine ⟨fun w' hS => ?_, ?_⟩; (focus ((try dsimp only at hS); go_simp; first | done | with_reducible rfl)); simp only [Act.put, List.setIfInBounds_toArray, List.set_cons_zero, List.set_cons_succ]))
            refine ⟨?_, ?_⟩
            · go_wp2_with (go_at_call 23; fail)
              refine (HRW.out _ (H5.out.trans (by repeat (first | exact Ux.Touch.refl _ _ | refine Ux.Touch.drew ?_ | refine Ux.Touch.alloc ?_ _)) fun _ _ f => f)).mono ?_
              rintro e w6 ⟨u6, rfl, hR6, T6⟩
              have T6w : Ux.Touch (fun _ => False) w5 w6 := Ux.Touch.trans (by repeat (first | exact Ux.Touch.refl _ _ | refine Ux.Touch.drew ?_ | refine Ux.Touch.alloc ?_ _)) T6 fun _ _ f => f
              have hR7 := hR6
              obtain ⟨_, a6, c6, hu6, _⟩ := hR6
              subst hu6
              rw [HZ.out.2.2] at hR7 ⊢
              try (
                have hb14 : w6.heap[w5.heap.size]? = some (.cells #[.slice none 0 0] 47 (0, 0)) := T6.heap (heap_alloc_new _ _) (fun f => f)
                have f14 : w6.cell? ⟨w5.heap.size, 0, none⟩ = some (.slice none 0 0) := by
                  rw [cell_of_row _ w5.heap.size 0 _ _ (0, 0) hb14]
                  rfl
                have z14 := Ux.frozen_row hb14 0
                have HB14 := Lib.hid hb14
                clear hb14)
              have H6 := Lib.hid (And.intro hR7 T6)
              clear hR7 T6
              go_wp2_with (fail)
              first | refine ⟨⟨HC5.out _ (by repeat (first | exact Ux.Touch.refl _ _ | exact T6w | refine Ux.Touch.drew ?_ | refine Ux.Touch.alloc ?_ _)), HC5.out _ (by repeat (first | exact Ux.Touch.refl _ _ | exact T6w | refine Ux.Touch.drew ?_ | refine Ux.Touch.alloc ?_ _))⟩, ?_⟩ | refine ⟨HC5.out _ (by repeat (first | exact Ux.Touch.refl _ _ | exact T6w | refine Ux.Touch.drew ?_ | refine Ux.Touch.alloc ?_ _)), ?_⟩
              repeat (first
                | go_big_quiet_step (fail)
                | (with_reducible refine wpQuiet_nil ?_)
                | (refine Ux.quiet_held rfl ?_; apply Exists.intro; refine ⟨fun w' hS => ?_, ?_⟩; (focus ((try dsimp only at hS); go_simp; first | done | with_reducible rfl)); simp only [Act.put, List.setIfInBounds_toArray, List.set_cons_zero, List.set_cons_succ]))
              go_wp2_with (fail)
              refine ⟨HC5.out _ (by repeat (first | exact Ux.Touch.refl _ _ | exact T6w | refine Ux.Touch.drew ?_ | refine Ux.Touch.alloc ?_ _)), ?_⟩
              go_wp2_with (fail)
              go_wp2_with (fail)
              go_meet
              obtain ⟨hR7, T6⟩ := H6.out
              have hqr : q < wr.heap.size := Ux.lt_of_heap HI.out.1.2.2.2.2.2
              have hw5 : wr.heap.size ≤ w5.heap.size := Nat.le_trans H4.out.1.size H5.out.size
              have hw6 := T6w.size
              first
                | (have tA : Ux.Touch (fun _ => False) w6 (w6.alloc (.cells #[.slice a6 m6 c6] 47)) := (Ux.Touch.refl _ _).alloc _
                   exact ⟨_, _, _, rfl, rfl, by rw [Ux.cell_newg]; rfl, Lib.hid ⟨(hR7.mono (A' := fun b => b ≠ q) fun g h1 h2 => by
                     rcases h2 with h2 | h2
                     · exact h2.1
                     · have h2 : w5.heap.size ≤ g := h2
                       omega).touch0 tA, T6w.trans tA fun _ _ f => f⟩⟩)
                | (have tB : Ux.Touch (fun b => b = w5.heap.size) w6 (w6.setCell ⟨w5.heap.size, 0, none⟩ (.slice a6 m6 c6)) := (Ux.Touch.refl (fun b => b = w5.heap.size) w6).setCell (p := ⟨w5.heap.size, 0, none⟩) (fun _ => rfl) _
                   refine ⟨_, _, _, rfl, rfl, ?_, Lib.hid ⟨(hR7.mono (A' := fun b => b ≠ q ∧ b ≠ w5.heap.size) fun g h1 h2 => ?_).touchB tB (fun g _ h e => h.2 e) |>.mono fun g _ h => h.1, T6w.trans (R := fun _ => False) tB fun b hb h => by omega⟩⟩
                   · rw [cell_of_row _ w5.heap.size 0 _ _ (0, 0) (Ux.setCell_row HB14.out 0 (.slice a6 m6 c6))]
                     rfl
                   · rcases h2 with h2 | h2
                     · exact ⟨h2.1, by omega⟩
                     · have h2 : (w5.alloc (Obj.cells #[.slice none 0 0] 47)).heap.size ≤ g := h2
                       rw [World.size_alloc] at h2
                       exact ⟨by omega, by omega⟩)
            · go_wp2_with (fail)
              first | refine ⟨⟨HC5.out _ (by repeat (first | exact Ux.Touch.refl _ _ | exact T6w | refine Ux.Touch.drew ?_ | refine Ux.Touch.alloc ?_ _)), HC5.out _ (by repeat (first | exact Ux.Touch.refl _ _ | exact T6w | refine Ux.Touch.drew ?_ | refine Ux.Touch.alloc ?_ _))⟩, ?_⟩ | refine ⟨HC5.out _ (by repeat (first | exact Ux.Touch.refl _ _ | exact T6w | refine Ux.Touch.drew ?_ | refine Ux.Touch.alloc ?_ _)), ?_⟩
              go_wp2_with (go_at_call 23; fail)
              refine (HRW.out _ (H5.out.trans (by repeat (first | exact Ux.Touch.refl _ _ | refine Ux.Touch.drew ?_ | refine Ux.Touch.alloc ?_ _)) fun _ _ f => f)).mono ?_
              rintro e w6 ⟨u6, rfl, hR6, T6⟩
              have T6w : Ux.Touch (fun _ => False) w5 w6 := Ux.Touch.trans (by repeat (first | exact Ux.Touch.refl _ _ | refine Ux.Touch.drew ?_ | refine Ux.Touch.alloc ?_ _)) T6 fun _ _ f => f
              have hR7 := hR6
              obtain ⟨_, a6, c6, hu6, _⟩ := hR6
              subst hu6
              rw [HZ.out.2.2] at hR7 ⊢
              try (
                have hb14 : w6.heap[w5.heap.size]? = some (.cells #[.slice none 0 0] 47 (0, 0)) := T6.heap (heap_alloc_new _ _) (fun f => f)
                have f14 : w6.cell? ⟨w5.heap.size, 0, none⟩ = some (.slice none 0 0) := by
                  rw [cell_of_row _ w5.heap.size 0 _ _ (0, 0) hb14]
                  rfl
                have z14 := Ux.frozen_row hb14 0
                have HB14 := Lib.hid hb14
                clear hb14)
              have H6 := Lib.hid (And.intro hR7 T6)
              clear hR7 T6
              go_wp2_with (fail)
              first | refine ⟨⟨HC5.out _ (by repeat (first | exact Ux.Touch.refl _ _ | exact T6w | refine Ux.Touch.drew ?_ | refine Ux.Touch.alloc ?_ _)), HC5.out _ (by repeat (first | exact Ux.Touch.refl _ _ | exact T6w | refine Ux.Touch.drew ?_ | refine Ux.Touch.alloc ?_ _))⟩, ?_⟩ | refine ⟨HC5.out _ (by repeat (first | exact Ux.Touch.refl _ _ | exact T6w | refine Ux.Touch.drew ?_ | refine Ux.Touch.alloc ?_ _)), ?_⟩
              repeat (first
                | go_big_quiet_step (fail)
                | (with_reducible refine wpQuiet_nil ?_)
                | (refine Ux.quiet_held rfl ?_; apply Exists.intro; refine ⟨fun w' hS => ?_, ?_⟩; (focus ((try dsimp only at hS); go_simp; first | done | with_reducible rfl)); simp only [Act.put, List.setIfInBounds_toArray, List.set_cons_zero, List.set_cons_succ]))
              go_wp2_with (fail)
              go_wp2_with (fail)
              go_meet
              obtain ⟨hR7, T6⟩ := H6.out
              have hqr : q < wr.heap.size := Ux.lt_of_heap HI.out.1.2.2.2.2.2
              have hw5 : wr.heap.size ≤ w5.heap.size := Nat.le_trans H4.out.1.size H5.out.size
              have hw6 := T6w.size
              first
                | (have tA : Ux.Touch (fun _ => False) w6 (w6.alloc (.cells #[.slice a6 m6 c6] 47)) := (Ux.Touch.refl _ _).alloc _
                   exact ⟨_, _, _, rfl, rfl, by rw [Ux.cell_newg]; rfl, Lib.hid ⟨(hR7.mono (A' := fun b => b ≠ q) fun g h1 h2 => by
                     rcases h2 with h2 | h2
                     · exact h2.1
                     · have h2 : w5.heap.size ≤ g := h2
                       omega).touch0 tA, T6w.trans tA fun _ _ f => f⟩⟩)
                | (have tB : Ux.Touch (fun b => b = w5.heap.size) w6 (w6.setCell ⟨w5.heap.size, 0, none⟩ (.slice a6 m6 c6)) := (Ux.Touch.refl (fun b => b = w5.heap.size) w6).setCell (p := ⟨w5.heap.size, 0, none⟩) (fun _ => rfl) _
                   refine ⟨_, _, _, rfl, rfl, ?_, Lib.hid ⟨(hR7.mono (A' := fun b => b ≠ q ∧ b ≠ w5.heap.size) fun g h1 h2 => ?_).touchB tB (fun g _ h e => h.2 e) |>.mono fun g _ h => h.1, T6w.trans (R := fun _ => False) tB fun b hb h => by omega⟩⟩
                   · rw [cell_of_row _ w5.heap.size 0 _ _ (0, 0) (Ux.setCell_row HB14.out 0 (.slice a6 m6 c6))]
                     rfl
                   · rcases h2 with h2 | h2
                     · exact ⟨h2.1, by omega⟩
                     · have h2 : (w5.alloc (Obj.cells #[.slice none 0 0] 47)).heap.size ≤ g := h2
                       rw [World.size_alloc] at h2
                       exact ⟨by omega, by omega⟩)
          obtain ⟨q14, a9, c9, rfl, rfl, hc14, HC⟩ := hcut
          have T0c := (H4.out.1.trans H5.out fun _ _ f => f).trans HC.out.2 fun _ _ f => f
          have hqc := T0c.heap HI.out.1.2.2.2.2.2 (fun f => f)
          have HQ := Lib.hid (And.intro T0c hqc)
          have fq : wc.cell? ⟨q, 0, none⟩ = some (.slice a8 m c8) := by
            rw [cell_of_row _ q 0 _ _ (0, 0) hqc]
            rfl
          have zq := Ux.frozen_row hqc 0
          clear T0c hqc
        · have hz : Z = 0 := by rw [← HZ.out.1, hK]; rfl
          subst hz
          have HK := Lib.hid (And.intro hK hT')
          clear hK hT'
          go_upto_region 15 with (fail)
          refine Ux.wp_region_plan (fun _ w' => w'.cell? ⟨q14, 0, none⟩ = some (.slice a9 m6 c9)) (.q [0, 2] (.h false [1] (.line [3])))
            (by kernel_rfl) (by kernel_rfl) (by intro _ _ d _ _ h; cases d <;> exact h) ?hS ?_
          case hS => (intro c; cases c <;> (simp only [World.cell?_drew]; first | exact True.intro | (refine ⟨?_, ?_⟩ <;> assumption) | assumption | (repeat (first | assumption | (refine And.intro ?_ ?_)))))
          simp only [Ux.wpPlan, Ux.pickOps, Ux.keeps, List.getElem?_toArray, List.getElem?_cons_succ, List.getElem?_cons_zero]
          repeat (first
            | go_big_quiet_step (fail)
            | (with_reducible refine wpQuiet_nil ?_)
            | (refine Ux.quiet_held rfl ?_; apply Exists.intro; refine ⟨fun w' hS => ?_, ?_⟩; (focus ((try dsimp only at hS); go_simp; first | done | with_reducible rfl)); simp only [Act.put, List.setIfInBounds_toArray, List.set_cons_zero, List.set_cons_succ]))
          go_wp2_with (fail)
          go_roundg g'
          case measure => omega
          case rel =>
            have tq : Ux.Touch (fun b => b = q) wc (wc.drew.setCell ⟨q, 0, none⟩ (.slice a9 m6 c9)) := ((Ux.Touch.refl (fun b => b = q) wc).drew).setCell (p := ⟨q, 0, none⟩) (fun _ => rfl) _
            have hst := step_ok HI.out.1.2.2.1 HI.out.1.1.1.1 HI.out.1.2.2.2.1 HI.out.1.2.2.2.2.1 o.1 L H4.out.2.2.2.2.1
            have hR : R = stepT T o.1 L := by
              unfold stepT
              rw [if_pos HK.out.1, ← HZ.out.2.1, if_pos HK.out.1]
            rw [← hR] at hst
            refine ⟨i + 1, B', mb', stepU T E o.1 L, R, .slice a9 m6 c9, rfl, by congr 1, by omega, Lib.hid ⟨⟨?_, HC.out.1.touchB tq (fun g _ h e => h e), hst.1, hst.2.2.1, hst.2.2.2, ?_⟩, ?_⟩⟩
            · refine (HK.out.2.touch0 HC.out.2).touchS tq ?_
              rintro b rfl
              exact ⟨_, _, HQ.out.2, by decide, fun u hu => ⟨_, _, _, by simpa using hu⟩⟩
            · exact Ux.setCell_row (w := wc.drew) HQ.out.2 0 (.slice a9 m6 c9)
            · exact (HI.out.2.trans HQ.out.1 fun _ _ f => f).trans (R := fun _ => False) tq fun b hb h => by
                have := H2.out.2.2
                omega
        · have hz : (Z == 0) = false := by
            have := HZ.out.1
            simp
            omega
          clear hK
          go_wp2_with (fail)
          go_roundg g'
          case measure => omega
          case rel => exact ⟨i + 1, B2, mb2, E, T, .slice a8 m c8, rfl, by congr 1, by omega, Lib.hid ⟨HI.out.1.touch HQ.out.1, HI.out.2.trans HQ.out.1 fun _ _ f => f⟩⟩
      | false =>
        have hq : (decide ((i : Int) < n) = false ∧ decide (i < n) = false) ∨ (decide ((i : Int) < n) = true ∧ decide (i < n) = true ∧ decide ((i : Int) < 10) = false ∧ decide (i < 10) = false) := by
          by_cases hx : i < n
          · right
            have : ¬ i < 10 := by
              intro h
              rw [decide_eq_true hx, decide_eq_true h] at hD
              cases hD
            exact ⟨by simp; omega, by simp; omega, by simp; omega, by simp; omega⟩
          · left
            exact ⟨by simp; omega, by simp; omega⟩
        have hsl : (signs b.data.toList).length ≤ 300 := by
          have h1 := signs_le b.data.toList
          have e : b.data.toList.length = b.size := rfl
          have := HB.out
          omega
        have hgood : ∀ c ∈ signs b.data.toList, cp c ∨ raw c := fun c hc => Ux.Sign.good_all (Ux.Sign.good_signs _) c hc
        have hfind := Ux.findE_perm HI.out.1.1.1.1.1 HI.out.1.2.2.1.1
        have hel : elemsE E (signs b.data.toList) = elemsE T (signs b.data.toList) := Ux.elemsE_congr hfind _
        have hok := HI.out.1.ok3
        have HSG := Lib.hid fun W => rsigns_ b W (by have := HB.out; omega)
        have HEL := Lib.hid fun W (T1 : Ux.Touch (fun _ => False) wr W) => elements_ B2 mb2 E b W (HI.out.1.touch T1).1 (HT.out.1.touch (HI.out.2.trans T1 fun _ _ f => f)) (by have := HB.out; omega)
        have HRL := Lib.hid fun W (T1 : Ux.Touch (fun _ => False) wr W) => relements_ (.slice a8 m c8) T _ b W (HI.out.1.touch T1).2.1 hok.2.1 (by omega) (by have := HB.out; omega)
        have hek := elemsE_ok hok.2.1 hgood
        rw [hel] at HEL
        obtain ⟨s, hs⟩ : ∃ s, signs b.data.toList = s := ⟨_, rfl⟩
        rw [hs] at hsl hgood HSG HEL HRL hek
        have hat := atI_congr hfind s at'
        have HAT := Lib.hid fun W (u : Value) (T1 : Ux.Touch (fun _ => False) wr W) (hu : Row W 0 3 u (iv (sv s))) => atx_ B2 mb2 E s u at' W (HI.out.1.touch T1).1 hu hgood (by omega)
        have HRT := Lib.hid fun W (u : Value) (T1 : Ux.Touch (fun _ => False) wr W) (hu : Row W 0 3 u (iv (sv s))) => ratI_ (.slice a8 m c8) u T s _ at' W (HI.out.1.touch T1).2.1 (IView.row hu).s (capOk_row hu) hgood (by omega) (by omega) (fun e he => by have := hok.2.2 e he; omega)
        rw [hat] at HAT
        have hak := atI_ok hok.2.1 hgood at'
        obtain ⟨X, hX⟩ : ∃ X, atI T s at' = X := ⟨_, rfl⟩
        obtain ⟨Y, hY⟩ : ∃ Y, elemsE T s = Y := ⟨_, rfl⟩
        rw [hX] at HAT HRT hak
        rw [hY] at HEL HRL hek
        have HAK := Lib.hid (And.intro hak (And.intro hek hsl))
        have HAW := Lib.hid fun W (T1 : Ux.Touch (fun _ => False) wr W) => awake5_ W (HT.out.1.touch (HI.out.2.trans T1 fun _ _ f => f)) (HT.out.2.touch (HI.out.2.trans T1 fun _ _ f => f))
        have HC := Lib.hid fun W (T1 : Ux.Touch (fun _ => False) wr W) => T1.cell c0 (fun f => f)
        clear hsl hgood hfind hel hok hat hak hek hs hX hY c0 hD
        rcases hq with ⟨q1, q3⟩ | ⟨q1, q3, q2, q4⟩
        all_goals
          go_wp2_with (go_at_call 24; fail)
          refine (HSG.out _).mono ?_
          rintro e w4 ⟨u4, rfl, hu4, T4⟩
          have H4 := Lib.hid (And.intro (hu4.mono (Nat.zero_le _)) T4)
          clear hu4 T4
          go_wp2_with (go_at_call 25; fail)
          refine (HAT.out w4 u4 H4.out.2 H4.out.1).mono ?_
          rintro e w5 ⟨u5, rfl, hu5, T5⟩
          have H5 := Lib.hid (And.intro hu5 (H4.out.2.trans T5 fun _ _ f => f))
          have hu4' := Lib.hid (H4.out.1.touch0 T5)
          clear hu5 T5
          have c0 := HC.out w5 H5.out.2
          go_wp2_with (go_at_call 26; fail)
          refine (HRT.out w5 u4 H5.out.2 hu4'.out).mono ?_
          rintro e w6 ⟨u6, rfl, hu6, T6⟩
          have H6 := Lib.hid (And.intro hu6 (And.intro (H5.out.2.trans T6 fun _ _ f => f) (H5.out.1.touch0 T6)))
          clear hu6 T6 c0
          have c0 := HC.out w6 H6.out.2.1
          go_upto_region 19 with (fail)
          refine Ux.wp_region_plan (fun _ w' => w'.cell? ⟨q, 0, none⟩ = some (.slice a8 m c8)) (.q [0, 1, 4] (.h false [3] (.e 2 true false (.e 5 false false (.e 6 true false (.q [7, 8, 9] (.e 10 true false (.q [11, 12, 13, 14, 15, 16, 17] (.e 18 true false (.q [19] (.line [20])))))))))))
            (by kernel_rfl) (by kernel_rfl) (by intro _ _ d _ _ h; cases d <;> exact h) ?hS ?_
          case hS => (intro c; cases c <;> (simp only [World.cell?_drew]; first | exact True.intro | (refine ⟨?_, ?_⟩ <;> assumption) | assumption | (repeat (first | assumption | (refine And.intro ?_ ?_)))))
          simp only [Ux.wpPlan, Ux.pickOps, Ux.keeps, List.getElem?_toArray, List.getElem?_cons_succ, List.getElem?_cons_zero]
          repeat (first
            | go_big_quiet_step (fail)
            | (with_reducible refine wpQuiet_nil ?_)
            | (refine Ux.quiet_held rfl ?_; apply Exists.intro; refine ⟨fun w' hS => ?_, ?_⟩; (focus ((try dsimp only at hS); go_simp; first | done | with_reducible rfl)); simp only [Act.put, List.setIfInBounds_toArray, List.set_cons_zero, List.set_cons_succ]))
          clear c0
          have t0 := Lib.hid (H6.out.2.1.drew)
          go_wp2_with (go_at_call 19; fail)
          refine (HEL.out _ t0.out).mono ?_
          rintro e7 w7 ⟨u7, rfl, hu7, T7⟩
          have H7 := Lib.hid (And.intro (hu7.mono (Nat.zero_le _)) (And.intro (t0.out.trans T7 fun _ _ f => f) (Ux.Touch.of_drew T7)))
          clear hu7 T7
          have c0 := HC.out w7 H7.out.2.1
          go_wp2_with (fail)
          refine ⟨c0, ?_⟩
          repeat (first
            | go_big_quiet_step (fail)
            | (with_reducible refine wpQuiet_nil ?_)
            | (refine Ux.quiet_held rfl ?_; apply Exists.intro; refine ⟨fun w' hS => ?_, ?_⟩; (focus ((try dsimp only at hS); go_simp; first | done | with_reducible rfl)); simp only [Act.put, List.setIfInBounds_toArray, List.set_cons_zero, List.set_cons_succ]))
          go_wp2_with (go_at_call 27; fail)
          refine (HRL.out _ H7.out.2.1).mono ?_
          rintro e8 w8 ⟨u8, rfl, hu8, _, T8⟩
          have H8 := Lib.hid (And.intro hu8 (And.intro (H7.out.2.1.trans T8 fun _ _ f => f) T8))
          clear hu8 T8 c0
          go_wp2_with (fail)
          repeat (first
            | go_big_quiet_step (fail)
            | (with_reducible refine wpQuiet_nil ?_)
            | (refine Ux.quiet_held rfl ?_; apply Exists.intro; refine ⟨fun w' hS => ?_, ?_⟩; (focus ((try dsimp only at hS); go_simp; first | done | with_reducible rfl)); simp only [Act.put, List.setIfInBounds_toArray, List.set_cons_zero, List.set_cons_succ]))
          have S1 := Lib.hid (same_ u7 u8 Y Y w8 (H7.out.1.touch0 H8.out.2.2) H8.out.1 HAK.out.2.1.2 (by have := HAK.out.2.1.1; have := HAK.out.2.2; omega) (by have := HAK.out.2.1.1; have := HAK.out.2.2; omega))
          rw [beq_self_eq_true] at S1
          go_wp2_with (go_at_call 10; fail)
          refine S1.out.mono ?_
          rintro e9 w9 ⟨rfl, T9⟩
          have H9 := Lib.hid (And.intro (H8.out.2.1.trans T9 fun _ _ f => f) (H7.out.2.2.trans (H8.out.2.2.trans T9 fun _ _ f => f) fun _ _ f => f))
          clear T9 S1
          have c0 := HC.out w9 H9.out.1
          go_wp2_with (fail)
          refine ⟨c0, ?_⟩
          repeat (first
            | go_big_quiet_step (fail)
            | (with_reducible refine wpQuiet_nil ?_)
            | (refine Ux.quiet_held rfl ?_; apply Exists.intro; refine ⟨fun w' hS => ?_, ?_⟩; (focus ((try dsimp only at hS); go_simp; first | done | with_reducible rfl)); simp only [Act.put, List.setIfInBounds_toArray, List.set_cons_zero, List.set_cons_succ]))
          have S2 := Lib.hid (same_ u5 u6 X.1 X.1 w9 (H6.out.2.2.touch0 H9.out.2) (H6.out.1.touch0 H9.out.2) HAK.out.1.2 (by have := HAK.out.1.1; omega) (by have := HAK.out.1.1; omega))
          rw [beq_self_eq_true] at S2
          go_wp2_with (go_at_call 10; fail)
          refine S2.out.mono ?_
          rintro ea wa ⟨rfl, Ta⟩
          have Ha := Lib.hid (H9.out.1.trans Ta fun _ _ f => f)
          clear Ta S2 c0
          have c0 := HC.out wa Ha.out
          go_wp2_with (fail)
          refine ⟨c0, ?_⟩
          repeat (first
            | go_big_quiet_step (fail)
            | (with_reducible refine wpQuiet_nil ?_)
            | (refine Ux.quiet_held rfl ?_; apply Exists.intro; refine ⟨fun w' hS => ?_, ?_⟩; (focus ((try dsimp only at hS); go_simp; first | done | with_reducible rfl)); simp only [Act.put, List.setIfInBounds_toArray, List.set_cons_zero, List.set_cons_succ]))
          go_wp2_with (go_at_call 13; fail)
          refine (HAW.out wa Ha.out).mono ?_
          rintro eb wb ⟨rfl, Tb⟩
          have Hb := Lib.hid (Ha.out.trans Tb fun _ _ f => f)
          clear Tb c0
          have c0 := HC.out wb Hb.out
          go_wp2_with (fail)
          refine ⟨c0, ?_⟩
          repeat (first
            | go_big_quiet_step (fail)
            | (with_reducible refine wpQuiet_nil ?_)
            | (refine Ux.quiet_held rfl ?_; apply Exists.intro; refine ⟨fun w' hS => ?_, ?_⟩; (focus ((try dsimp only at hS); go_simp; first | done | with_reducible rfl)); simp only [Act.put, List.setIfInBounds_toArray, List.set_cons_zero, List.set_cons_succ]))
          go_wp2
          go_ret
          exact ⟨rfl, HI.out.2.trans Hb.out fun _ _ f => f⟩

end Go.Proofs.YtjkeiomildghmaaGreatDoor
