/- PART OF THE PROOF THAT THIS CLAIM HOLDS OF THE GIVEN PROGRAM, FOR EVERY INPUT THAT THE STATEMENT NAMES. No condition besides the statement's own. -/
import Derived.Test.YtjkeiomildghmaaGreatDoorUxTabAZ
import Derived.Test.YtjkeiomildghmaaGreatDoorMapsAZ
import Derived.Test.YtjkeiomildghmaaGreatDoorTableAZ
import Derived.Test.YtjkeiomildghmaaGreatDoorEntsAZ
import Derived.Test.YtjkeiomildghmaaGreatDoorRows
import Derived.WalkKit
import Derived.Handy
import Derived.Laws.EntriesVeiled
import Derived.WalkSpells
import Derived.WalkLawsBesides
import Derived.BigQuiet
import Derived.Deep.QuietTactic
import Derived.Deep.Cut
import Derived.Deep.DeepCutAuto
import Derived.Lib.Overlaps
import Derived.Laws.Externs
import Derived.Lib.Hide
import Derived.Test.YtjkeiomildghmaaGreatDoorUxPlanAllZ
import Derived.Test.YtjkeiomildghmaaGreatDoorUxMemAZ
import Derived.Test.YtjkeiomildghmaaGreatDoorUxOrdZ
import Derived.Deep.LoopGhost
namespace Go.Proofs.YtjkeiomildghmaaGreatDoor
open Go.RowKit
open Go.RowKit
open Ux (Ent rootE rootT mapE KGrow Ents sv findE eP eS eT eV)

theorem xor_bits (x m : Nat) (hx : x < 4294967296) (hm : m < 4294967296) : bits .xor .u32 (x : Int) (m : Int) = ((x ^^^ m : Nat) : Int) := by
  show IntKind.u32.wrap ((BitVec.ofInt 32 (x : Int) ^^^ BitVec.ofInt 32 (m : Int)).toNat : Nat) = _
  have e1 : (BitVec.ofInt 32 (x : Int)).toNat = x := by rw [BitVec.toNat_ofInt]; omega
  have e2 : (BitVec.ofInt 32 (m : Int)).toNat = m := by rw [BitVec.toNat_ofInt]; omega
  rw [BitVec.toNat_xor, e1, e2, IntKind.wrap_u32]
  have := Nat.xor_lt_two_pow (n := 32) hx hm
  omega
theorem xor_lt (x m : Nat) (hx : x < 4294967296) (hm : m < 4294967296) : x ^^^ m < 4294967296 := Nat.xor_lt_two_pow (n := 32) hx hm

theorem egMaps : ∀ args w, (callFunc 30 args).run Tryz.prog w = .ok (.enter 30 args) w := enters_of Tryz.func30 (by kernel_rfl) rfl
set_option maxHeartbeats 4000000 in
theorem cloMaps_ (x m q : Nat) (hx : x < 4294967296) (hm : m < 4294967296) (w : World) (hc : w.cell? ⟨q, 0, none⟩ = some (.int .u32 (m : Int))) :
    Calls Tryz.prog 30 #[.int .u32 (x : Int), .pointer (some ⟨q, 0, none⟩)] w fun e w' => e = .returned (.int .u32 ((x ^^^ m : Nat) : Int)) ∧ Ux.Touch (fun _ => False) w w' := by
  have hb := xor_bits x m hx hm
  obtain ⟨y, hy⟩ : ∃ y, x ^^^ m = y := ⟨_, rfl⟩
  rw [hy] at hb ⊢
  clear hy hx hm
  go_enter Tryz.func30, Tryz.ntmps30
  go_wp2
  go_ret
  exact ⟨rfl, Ux.Touch.refl _ w⟩

theorem checkE_perm {E T : List Ent} (hE : (E.map (·.1)).Nodup) (h : E.Perm T) : checkE E = checkE T := by
  unfold checkE
  rw [Bool.eq_iff_iff, List.all_eq_true, List.all_eq_true]
  have hg : ∀ e, goodEnt E e = goodEnt T e := fun e => by
    unfold goodEnt
    simp only [Ux.findE_perm hE h]
  exact ⟨fun H e he => by rw [← hg]; exact H e (h.mem_iff.2 he), fun H e he => by rw [hg]; exact H e (h.mem_iff.1 he)⟩
set_option maxHeartbeats 16000000 in
set_option maxRecDepth 100000 in
theorem mapsLaw0_ (hrr : ∀ W, Calls Tryz.prog 21 #[] W fun e w' => ∃ u, e = .returned (.agg #[u]) ∧ RRows w' (fun b => W.heap.size + 2 ≤ b) u (rootT 132) ∧ Ux.Touch (fun _ => False) W w')
    (m : Nat) (hm : m < 4294967296) (w : World) (hT : Tabs w) (hD : TabD w) : Calls Tryz.prog 7 #[.int .u32 (m : Int)] w fun e w' => e = .returned (.bool true) ∧ Ux.Touch (fun _ => False) w w' := by
  have HT := Lib.hid (And.intro hT (And.intro hD hm))
  have HRR := Lib.hid hrr
  clear hT hD hrr
  obtain ⟨q, hq⟩ : ∃ q, w.heap.size = q := ⟨_, rfl⟩
  have T01 : Ux.Touch (fun _ => False) w (w.alloc (.cells #[.int .u32 (m : Int)] 29)) := (Ux.Touch.refl _ _).alloc _
  have hc : (w.alloc (.cells #[.int .u32 (m : Int)] 29)).cell? ⟨q, 0, none⟩ = some (.int .u32 (m : Int)) := by rw [← hq, Ux.cell_newg]; rfl
  have H0 := Lib.hid (And.intro T01 (And.intro hc hq))
  clear T01 hc hm
  go_enter Tryz.func7, Tryz.ntmps7
  go_wp2_with (go_at_call 15; fail)
  refine (rootT_ _).mono ?_
  rintro e w1 ⟨B, mb, rfl, h1, _, T1⟩
  have H1 := Lib.hid (And.intro h1 T1)
  clear h1 T1
  go_wp2_with (go_at_call 21; fail)
  refine (HRR.out w1).mono ?_
  rintro e w2 ⟨u, rfl, hR, T2⟩
  have hRL := hR
  obtain ⟨_, a, ca, rfl, hcap, hca⟩ := hR
  obtain ⟨n, hn⟩ : ∃ n, (rootT 132).length = n := ⟨_, rfl⟩
  rw [hn] at hRL hcap ⊢
  obtain ⟨q4, hq4⟩ : ∃ q4, w2.heap.size = q4 := ⟨_, rfl⟩
  have T23 : Ux.Touch (fun _ => False) w2 (w2.alloc (.cells #[.slice a n ca] 47)) := (Ux.Touch.refl _ _).alloc _
  have d0 : (w2.alloc (.cells #[.slice a n ca] 47)).cell? ⟨q4, 0, none⟩ = some (.slice a n ca) := by rw [← hq4, Ux.cell_newg]; rfl
  have T13 := (H0.out.1.trans H1.out.2 fun _ _ f => f).trans (T2.trans T23 fun _ _ f => f) fun _ _ f => f
  have H2 := Lib.hid (And.intro hca (And.intro hn (And.intro T13 (And.intro d0 (And.intro hRL (And.intro hq4 (And.intro T23 (T2.trans T23 fun _ _ f => f))))))))
  have hsz3 : q4 < (w2.alloc (.cells #[.slice a n ca] 47)).heap.size := by rw [World.size_alloc]; omega
  have hqc : (w2.alloc (.cells #[.slice a n ca] 47)).cell? ⟨q, 0, none⟩ = some (.int .u32 (m : Int)) := (H1.out.2.trans (T2.trans T23 fun _ _ f => f) fun _ _ f => f).cell H0.out.2.1 (fun f => f)
  have H3 := Lib.hid (And.intro hsz3 hqc)
  clear hca hn T13 T2 T23 hRL hsz3 hqc
  go_wp2_with (go_at_call 29; fail)
  refine (tmap_ B mb rootE 30 #[.pointer (some ⟨q, 0, none⟩)] (fun x => x ^^^ m) (fun x hx => xor_lt x m hx HT.out.2.2) _ (H1.out.1.touch0 H2.out.2.2.2.2.2.2.2) rootE_sig (by rw [Ux.rootE_len]; decide) egMaps fun W TW x hx => ?_).mono ?_
  · exact cloMaps_ x m q hx HT.out.2.2 W (TW.cell H3.out.2 fun h => by
      have h1 := H2.out.2.2.1.size
      rw [World.size_alloc] at h h1
      have h2 := H0.out.2.2
      have h3 := H0.out.1.size
      have h4 := H2.out.2.2.2.2.2.1
      have h5 := H1.out.2.size
      rw [World.size_alloc] at h3 h5
      have h6 := H2.out.2.2.2.2.2.2.2.size
      rw [World.size_alloc] at h6
      have h : w2.heap.size + 1 ≤ q := h
      omega)
  rintro e w4 ⟨B', mb', rfl, hT4, T4⟩
  obtain ⟨q6, hq6⟩ : ∃ q6, w4.heap.size = q6 := ⟨_, rfl⟩
  have T45 : Ux.Touch (fun _ => False) w4 (w4.alloc (.cells #[.slice none 0 0] 47)) := (Ux.Touch.refl _ _).alloc _
  have hres : (w4.alloc (.cells #[.slice none 0 0] 47)).heap[q6]? = some (.cells #[.slice none 0 0] 47 (0, 0)) := by rw [← hq6]; exact heap_alloc_new w4 _
  have hsz5 : (w4.alloc (.cells #[.slice none 0 0] 47)).heap.size = q6 + 1 := by rw [World.size_alloc]; omega
  have f3 : (w4.alloc (.cells #[.slice none 0 0] 47)).cell? ⟨q6, 0, none⟩ = some (.slice none 0 0) := by rw [← hq6, Ux.cell_newg]; rfl
  have hq4q6 : q4 < q6 := by have := T4.size; have := H3.out.1; omega
  have T35 := T4.trans T45 fun _ _ f => f
  have f1 := T35.cell H3.out.2 (fun f => f)
  have f2 := T35.cell H2.out.2.2.2.1 (fun f => f)
  have H5 := Lib.hid (And.intro (hT4.touch0 T45) (And.intro T35 (And.intro hres (And.intro hsz5 (And.intro hq6 hq4q6)))))
  have H4b := Lib.hid (And.intro hT4 T45)
  clear hT4 T4 T45 hres hsz5 T35 d0 hcap hq4q6
  go_wp2_with (fail)
  generalize w4.alloc (.cells #[.slice none 0 0] 47) = W5 at H5 H4b f1 f2 f3 ⊢
  have HTW := Lib.hid fun W (T : Ux.Touch (fun b => b = q6) W5 W) => (H2.out.2.2.2.2.2.2.1.trans H5.out.2.1 fun _ _ f => f).trans (R := fun _ => False) T fun b hb h => by
    have := H2.out.2.2.2.2.2.1
    have := H5.out.2.2.2.2.2
    omega
  have n0 : (n : Int) ≤ 1000 := by have := H2.out.2.1; have := Ux.rootT_len 132; omega
  go_loopg [7] n (fun g s7 wr => ∃ (i : Nat) (a6 : Option Addr) (c6 : Nat), s7 = .int .i64 i ∧ i + g = n ∧ wr.cell? ⟨q, 0, none⟩ = some (.int .u32 (m : Int)) ∧ wr.cell? ⟨q4, 0, none⟩ = some (.slice a n ca) ∧ wr.cell? ⟨q6, 0, none⟩ = some (.slice a6 i c6) ∧
    Hid (∃ xs, KGrow wr (q6 + 1) 67 2 (.slice a6 i c6) i xs ∧ Ents (EntV wr (fun b => (Value.slice a6 i c6).ownBlock ≠ some b ∧ b ≠ q6)) xs (mapE (fun x => x ^^^ m) ((rootT 132).take i)) ∧ Ux.Touch (fun b => b = q6) W5 wr ∧ wr.heap[q6]? = some (.cells #[.slice a6 i c6] 47 (0, 0)) ∧ q6 + 1 ≤ wr.heap.size))
  case atStart => exact ⟨0, none, 0, rfl, by omega, f1, f2, f3, Lib.hid ⟨[], KGrow.nil _ _ _ _, trivial, Ux.Touch.refl _ _, H5.out.2.2.1, by have := H5.out.2.2.2.1; omega⟩⟩
  case round =>
    clear f1 f2 f3
    obtain ⟨i, a6, c6, rfl, hig, f1, f2, f3, HI⟩ := hrel
    have i0 : (0 : Int) ≤ i := by omega
    by_cases hlt : i < n
    · obtain ⟨g', rfl⟩ : ∃ g', gk = g' + 1 := ⟨gk - 1, by omega⟩
      have i1 : (i : Int) < n := by omega
      obtain ⟨xs, hG, hEn, T5, hres, hsz⟩ := HI.out
      obtain ⟨e, he⟩ : ∃ x, (rootT 132)[i]? = some x := ⟨_, List.getElem?_eq_getElem (by have := H2.out.2.1; omega)⟩
      obtain ⟨g0, o, x, y, rfl, c1, c2, hE⟩ := H2.out.1 i e he
      have hs := hE.1.1
      have hl := hE.1.2
      have hEE := hE
      obtain ⟨a1, k1, rfl, _⟩ := hE.1.1
      obtain ⟨a2, k2, rfl, _⟩ := hE.1.2
      obtain ⟨m1, hm1⟩ : ∃ m, e.1.length = m := ⟨_, rfl⟩
      obtain ⟨m2, hm2⟩ : ∃ m, e.2.length = m := ⟨_, rfl⟩
      rw [hm1] at c1 hs hEE
      rw [hm2] at c2 hl hEE
      have m20 : (m2 : Int) ≤ 8 := by
        have := (Ux.same_root.ok H1.out.1.1.1).2 e (List.mem_of_getElem? he)
        have := this.2.1
        omega
      have HQ := Lib.hid fun W (T : Ux.Touch (fun b => b = q6) W5 W) => And.intro ((HTW.out W T).cell c1 (fun f => f)) ((HTW.out W T).cell c2 (fun f => f))
      have HX := Lib.hid (And.intro he (And.intro hEE (And.intro hm1 (And.intro hm2 hl))))
      obtain ⟨c1, c2⟩ := HQ.out _ T5
      clear he hs hl hE hEE hm1 hm2 hG hEn T5 hres hsz hlt
      have hxl : ∀ x ∈ e.2, x < 4294967296 := ((Ux.same_root.ok H1.out.1.1.1).2 e (List.mem_of_getElem? HX.out.1)).2.2
      obtain ⟨X, hXs⟩ : ∃ X, wr.heap.size = X := ⟨_, rfl⟩
      have tA : Ux.Touch (fun _ => False) wr (wr.alloc (Obj.cells #[Value.slice a1 m1 k1, Value.slice none 0 0] 67)) := (Ux.Touch.refl _ _).alloc _
      have hX0 : (wr.alloc (Obj.cells #[Value.slice a1 m1 k1, Value.slice none 0 0] 67)).heap[X]? = some (.cells #[Value.slice a1 m1 k1, Value.slice none 0 0] 67 (0, 0)) := by rw [← hXs]; exact heap_alloc_new wr _
      have x1 : (wr.alloc (Obj.cells #[Value.slice a1 m1 k1, Value.slice none 0 0] 67)).cell? ⟨X, 1, none⟩ = some (.slice none 0 0) := by rw [← hXs, Ux.cell_newg]; rfl
      have hX1 : (wr.alloc (Obj.cells #[Value.slice a1 m1 k1, Value.slice none 0 0] 67)).heap.size = X + 1 := by rw [World.size_alloc]; omega
      have f1' := tA.cell f1 (fun f => f)
      have f2' := tA.cell f2 (fun f => f)
      have c2' := tA.cell c2 (fun f => f)
      have HA := Lib.hid (And.intro tA (And.intro hX0 (And.intro hX1 (And.intro hXs hxl))))
      go_upto_region 10 with (fail)
      clear tA hX0 hX1 hxl c1 c2 f1 f2 f3
      generalize wr.alloc (Obj.cells #[Value.slice a1 m1 k1, Value.slice none 0 0] 67) = W6 at HA f1' f2' c2' x1 ⊢
      have HTK := Lib.hid fun W (T : Ux.Touch (fun b => b = X) W6 W) => ((show Ux.Touch (fun b => b = q6) W5 wr from by obtain ⟨_, _, _, h, _⟩ := HI.out; exact h).trans (HA.out.1.mono (R' := fun b => b = q6) fun _ _ f => f.elim) fun _ _ h => h).trans (R := fun b => b = q6) T fun b hb h => by
        obtain ⟨_, _, _, h5, _⟩ := HI.out
        have h6 := h5.size
        have h7 := HA.out.2.2.2.1
        omega
      go_wp2_with (fail)
      go_loopg [9] m2 (fun g s9 wr => ∃ (j : Nat) (a5 : Option Addr) (c5 : Nat), s9 = .int .i64 j ∧ j + g = m2 ∧ wr.cell? ⟨q, 0, none⟩ = some (.int .u32 (m : Int)) ∧ wr.cell? ⟨q4, 0, none⟩ = some (.slice (some ⟨g0, o, none⟩) n ca) ∧ wr.cell? ⟨g0, o + i * 2 + 1, none⟩ = some (.slice a2 m2 k2) ∧ wr.cell? ⟨X, 1, none⟩ = some (.slice a5 j c5) ∧
        Hid (KGrow wr (X + 1) 69 4 (.slice a5 j c5) j (rv ((e.2.take j).map fun x => x ^^^ m)) ∧ Ux.Touch (fun b => b = X) W6 wr ∧ wr.heap[X]? = some (.cells #[Value.slice a1 m1 k1, Value.slice a5 j c5] 67 (0, 0)) ∧ X + 1 ≤ wr.heap.size))
      case atStart => exact ⟨0, none, 0, rfl, by omega, f1', f2', c2', x1, Lib.hid ⟨KGrow.nil _ _ _ _, Ux.Touch.refl _ _, HA.out.2.1, by have := HA.out.2.2.1; omega⟩⟩
      case round =>
        clear f1' f2' c2' x1
        obtain ⟨j, a5, c5, rfl, hjg, f1, f2, c2, x1, HJ⟩ := hrel
        have j0 : (0 : Int) ≤ j := by omega
        by_cases hj : j < m2
        · obtain ⟨h', rfl⟩ : ∃ h', gk = h' + 1 := ⟨gk - 1, by omega⟩
          have j1 : (j : Int) < m2 := by omega
          obtain ⟨x, hx⟩ : ∃ x, e.2[j]? = some x := ⟨_, List.getElem?_eq_getElem (by have := HX.out.2.2.2.1; omega)⟩
          obtain ⟨g2, o2, e2, d⟩ : ∃ g2 o2, a2 = some ⟨g2, o2, none⟩ ∧ _ := by
            obtain ⟨a', c', ee, hc⟩ := HX.out.2.2.2.2
            injection ee with e1 _ _
            rw [e1]
            exact hc j x hx
          subst e2
          have hkt : Ux.Touch (fun _ => False) w2 wr := HTW.out _ (HTK.out _ HJ.out.2.1)
          obtain ⟨d1, d2, d3, d4⟩ := d
          have d1 := hkt.cell d1 (fun f => f)
          have d2 := hkt.cell d2 (fun f => f)
          have d3 := hkt.cell d3 (fun f => f)
          have d4 := hkt.cell d4 (fun f => f)
          have hx4 := HA.out.2.2.2.2 x (List.mem_of_getElem? hx)
          have hb := xor_bits x m hx4 HT.out.2.2
          have hy4 := xor_lt x m hx4 HT.out.2.2
          obtain ⟨y, hy⟩ : ∃ y, x ^^^ m = y := ⟨_, rfl⟩
          rw [hy] at hb hy4
          have HW := Lib.hid fun W => word_ x hx4 W
          have hof := fun W => rof_ y hy4 W
          unfold rE at hof
          have HO := Lib.hid hof
          have HY := Lib.hid (And.intro hx hy)
          have HQ3 := Lib.hid fun W (T : Ux.Touch (fun _ => False) wr W) => And.intro (T.cell f1 (fun f => f)) (And.intro (T.cell f2 (fun f => f)) (And.intro (T.cell c2 (fun f => f)) (And.intro (T.cell x1 (fun f => f)) (And.intro (T.cell d1 (fun f => f)) (And.intro (T.cell d2 (fun f => f)) (And.intro (T.cell d3 (fun f => f)) (T.cell d4 (fun f => f))))))))
          have hbd : q < X ∧ q4 < X ∧ g0 < X ∧ g2 < X := by
            obtain ⟨_, _, _, h5, _, h5s⟩ := HI.out
            have h7 := HA.out.2.2.2.1
            have b1 := H0.out.1.size
            have b2 := H1.out.2.size
            have b3 := H2.out.2.2.2.2.2.2.2.size
            rw [World.size_alloc] at b1 b2 b3
            have b4 := H2.out.2.2.2.2.2.1
            have b5 := H5.out.2.2.2.2.2
            have b6 := (H2.out.2.2.2.2.1.1 g0 rfl).2
            have b7 := (HX.out.2.1.2.2.1 g2 rfl).2
            have b8 := H0.out.2.2
            refine ⟨by omega, by omega, by omega, by omega⟩
          have HBD := Lib.hid hbd
          have hlen : (e.2.take (j + 1)).map (fun x => x ^^^ m) = (e.2.take j).map (fun x => x ^^^ m) ++ [y] := by
            rw [List.take_add_one, hx, List.map_append]
            simp [hy]
          have HLN := Lib.hid hlen
          clear hx hx4 hy4 hy hof hkt hj hbd hlen
          go_upto_region 13 with (fail)
          refine Ux.wp_region_plan (fun _ w' => w'.cell? ⟨q, 0, none⟩ = some (.int .u32 (m : Int)) ∧ w'.cell? ⟨q4, 0, none⟩ = some (.slice (some ⟨g0, o, none⟩) n ca) ∧ w'.cell? ⟨g0, o + i * 2 + 1, none⟩ = some (.slice (some ⟨g2, o2, none⟩) m2 k2) ∧ w'.cell? ⟨X, 1, none⟩ = some (.slice a5 j c5) ∧ w'.cell? ⟨g2, o2 + j * 4, none⟩ = some (.int .i64 (eP x : Nat)) ∧ w'.cell? ⟨g2, o2 + j * 4 + 1, none⟩ = some (.int .i64 (eS x : Nat)) ∧ w'.cell? ⟨g2, o2 + j * 4 + 2, none⟩ = some (.int .i64 (eT x : Nat)) ∧ w'.cell? ⟨g2, o2 + j * 4 + 3, none⟩ = some (.bool (eV x))) (.q [0, 2, 4, 8] (.h false [1, 3, 12] (.q [5, 6] (.h false [7] (.q [9] (.h false [10] (.e 11 true false (.q [13] (.e 14 true false (.e 15 true false (.e 16 true false (.line [17, 18]))))))))))))
            (by kernel_rfl) (by kernel_rfl) (by intro _ _ d _ _ h; cases d <;> exact h) ?hS ?_
          case hS => (intro c; cases c <;> (simp only [World.cell?_drew]; first | exact True.intro | (refine ⟨?_, ?_⟩ <;> assumption) | assumption | (repeat (first | assumption | (refine And.intro ?_ ?_)))))
          simp only [Ux.wpPlan, Ux.pickOps, Ux.keeps, List.getElem?_toArray, List.getElem?_cons_succ, List.getElem?_cons_zero]
          repeat (first
            | go_big_quiet_step (fail)
            | (with_reducible refine wpQuiet_nil ?_)
            | (refine Ux.quiet_held rfl ?_; apply Exists.intro; refine ⟨fun w' hS => ?_, ?_⟩; (focus ((try dsimp only at hS); go_simp; first | done | with_reducible rfl)); simp only [Act.put, List.setIfInBounds_toArray, List.set_cons_zero, List.set_cons_succ]))
          clear f1 f2 c2 x1 d1 d2 d3 d4
          go_wp2_with (go_at_call 32; fail)
          refine (HW.out _).mono ?_
          rintro e7 w7 ⟨rfl, T7⟩
          have T7 := Lib.hid ((Ux.Touch.refl (fun _ => False) wr).drew.trans T7 fun _ _ f => f)
          go_wp2_with (fail)
          refine ⟨HQ3.out _ T7.out, ?_⟩
          repeat (first
            | go_big_quiet_step (fail)
            | (with_reducible refine wpQuiet_nil ?_)
            | (refine Ux.quiet_held rfl ?_; apply Exists.intro; refine ⟨fun w' hS => ?_, ?_⟩; (focus ((try dsimp only at hS); go_simp; first | done | with_reducible rfl)); simp only [Act.put, List.setIfInBounds_toArray, List.set_cons_zero, List.set_cons_succ]))
          go_wp2_with (go_at_call 31; fail)
          refine (HO.out _).mono ?_
          rintro e8 w8 ⟨rfl, T8⟩
          have T8 := Lib.hid (T7.out.trans T8 fun _ _ f => f)
          go_wp2_with (fail)
          refine ⟨HQ3.out _ T8.out, ?_⟩
          repeat (first
            | go_big_quiet_step (fail)
            | (with_reducible refine wpQuiet_nil ?_)
            | (refine Ux.quiet_held rfl ?_; apply Exists.intro; refine ⟨fun w' hS => ?_, ?_⟩; (focus ((try dsimp only at hS); go_simp; first | done | with_reducible rfl)); simp only [Act.put, List.setIfInBounds_toArray, List.set_cons_zero, List.set_cons_succ]))
          have tB : Ux.Touch (fun _ => False) w8 (w8.alloc (.cells [Value.int .i64 (eP y : Nat), .int .i64 (eS y : Nat), .int .i64 (eT y : Nat), .bool (eV y)].toArray 69)) := (Ux.Touch.refl _ _).alloc _
          have hS9 := HQ3.out _ (T8.out.trans tB fun _ _ f => f)
          go_wp2_with (fail)
          refine ⟨hS9, ?_⟩
          repeat (first
            | go_big_quiet_step (fail)
            | (with_reducible refine wpQuiet_nil ?_)
            | (refine Ux.quiet_held rfl ?_; apply Exists.intro; refine ⟨fun w' hS => ?_, ?_⟩; (focus ((try dsimp only at hS); go_simp; first | done | with_reducible rfl)); simp only [Act.put, List.setIfInBounds_toArray, List.set_cons_zero, List.set_cons_succ]))
          obtain ⟨hG, hTJ, hXJ, hsJ⟩ := HJ.out
          have j8 : j ≤ 8 := by omega
          obtain ⟨r, w10, hrun, hG2, hT10⟩ := ((hG.touch0 T8.out).touch0 tB).app (P := Tryz.prog) 25 32 _ Tryz.underlying25 infoRE rfl (by omega) (.slice (some ⟨w8.heap.size, 0, none⟩) 1 1) 1 [Value.int .i64 (eP y : Nat), .int .i64 (eS y : Nat), .int .i64 (eT y : Nat), .bool (eV y)] (Ux.src_new Tryz.underlying25 w8 4 1 _ rfl (fun u hu => by
            simp only [List.mem_cons, List.not_mem_nil, or_false] at hu
            rcases hu with rfl | rfl | rfl | rfl <;> rfl)) (by have := T8.out.size; have := tB.size; omega) (by simp only [maxLen]; omega) (by omega)
          have hnot : ∀ b, b < X + 1 → ¬ (X + 1 ≤ b ∧ (Value.slice a5 j c5).ownBlock = some b) := fun b h1 h2 => by omega
          have hbd := HBD.out
          have hS10 := And.intro (hT10.cell hS9.1 (hnot _ (Nat.lt_succ_of_lt hbd.1))) (And.intro (hT10.cell hS9.2.1 (hnot _ (Nat.lt_succ_of_lt hbd.2.1))) (And.intro (hT10.cell hS9.2.2.1 (hnot _ (Nat.lt_succ_of_lt hbd.2.2.1))) (And.intro (hT10.cell hS9.2.2.2.1 (hnot _ (Nat.lt_succ_self X))) (And.intro (hT10.cell hS9.2.2.2.2.1 (hnot _ (Nat.lt_succ_of_lt hbd.2.2.2))) (And.intro (hT10.cell hS9.2.2.2.2.2.1 (hnot _ (Nat.lt_succ_of_lt hbd.2.2.2))) (And.intro (hT10.cell hS9.2.2.2.2.2.2.1 (hnot _ (Nat.lt_succ_of_lt hbd.2.2.2))) (hT10.cell hS9.2.2.2.2.2.2.2 (hnot _ (Nat.lt_succ_of_lt hbd.2.2.2)))))))))
          have hX10 := hT10.heap (tB.heap (T8.out.heap hXJ (fun f => f)) (fun f => f)) (hnot _ (Nat.lt_succ_self X))
          have hTT := ((hTJ.trans (T8.out.mono (R' := fun b => b = X) fun _ _ f => f.elim) fun _ _ h => h).trans (tB.mono (R' := fun b => b = X) fun _ _ f => f.elim) fun _ _ h => h).trans (R := fun b => b = X) hT10 fun b hb h => by
            have := HA.out.2.2.1
            omega
          have hs10 : X + 1 ≤ w10.heap.size := by have := hT10.size; have := tB.size; have := T8.out.size; omega
          obtain ⟨ar, cr, rfl, _⟩ := hG2.is
          have HR := Lib.hid (And.intro hrun (And.intro hG2 (And.intro hS10 (And.intro hX10 (And.intro hTT hs10)))))
          have hfz : w10.frozen? ⟨X, 1, none⟩ = false := Ux.frozen_row hX10 1
          have x10 := hS10.2.2.2.1
          clear hG hTJ hXJ hsJ hrun hG2 hT10 hnot hbd hS9 hS10 hX10 hTT hs10 tB
          go_wp2_with (at_builtin; refine Ux.wpList_app (v1 := .slice a5 j c5) (x1 := .slice (some ⟨w8.heap.size, 0, none⟩) 1 1) rfl _ _ _ _ rfl rfl rfl (HR.out.1 _) ?_)
          refine ⟨HR.out.2.2.1, ?_⟩
          go_wp2_with (fail)
          go_roundg h'
          case measure => omega
          case rel =>
            obtain ⟨-, hG2, hS, hX10, hTT, hs10⟩ := HR.out
            have hbd := HBD.out
            have ts : Ux.Touch (fun b => b = X) w10 (w10.setCell ⟨X, 1, none⟩ (.slice ar (j + 1) cr)) := (Ux.Touch.refl (fun b => b = X) _).setCell (p := ⟨X, 1, none⟩) (fun _ => rfl) _
            have hXn := Ux.setCell_row hX10 1 (.slice ar (j + 1) cr)
            refine ⟨j + 1, ar, cr, rfl, by omega, ts.cell hS.1 (Nat.ne_of_lt hbd.1), ts.cell hS.2.1 (Nat.ne_of_lt hbd.2.1), ts.cell hS.2.2.1 (Nat.ne_of_lt hbd.2.2.1), ?_, Lib.hid ⟨?_, hTT.trans ts fun _ _ h => h, hXn, Nat.le_trans hs10 ts.size⟩⟩
            · rw [cell_of_row _ X 1 _ _ (0, 0) hXn]
              rfl
            · rw [HLN.out]
              have e : ∀ l, rv (l ++ [y]) = rv l ++ [Value.int .i64 (eP y : Nat), .int .i64 (eS y : Nat), .int .i64 (eT y : Nat), .bool (eV y)] := fun l => by
                unfold rv
                rw [List.flatMap_append]
                rfl
              rw [e]
              exact hG2.touch ts fun b h1 h2 => by omega
        · obtain rfl : m2 = j := by omega
          clear hj
          have T0 : Ux.Touch (fun _ => False) _ wr := HA.out.1.trans (R := fun _ => False) HJ.out.2.1 fun b hb h => by
            have := HA.out.2.2.2.1
            omega
          obtain ⟨xs, hG, hEn, T5, hres, hsz⟩ := HI.out
          have hG := hG.touch0 T0
          have hres := T0.heap hres (fun f => f)
          have f3 : wr.cell? ⟨q6, 0, none⟩ = some (.slice a6 i c6) := by
            rw [cell_of_row _ q6 0 _ _ (0, 0) hres]
            rfl
          have x0 : wr.cell? ⟨X, 0, none⟩ = some (.slice a1 m1 k1) := by
            rw [cell_of_row _ X 0 _ _ (0, 0) HJ.out.2.2.1]
            rfl
          have H14 := Lib.hid (And.intro T0 (And.intro hG (And.intro hEn (And.intro T5 (And.intro hres hsz)))))
          have hi132 : i ≤ 1000 := by omega
          have tB : Ux.Touch (fun _ => False) wr (wr.alloc (.cells [Value.slice a1 m1 k1, Value.slice a5 m2 c5].toArray 67)) := (Ux.Touch.refl _ _).alloc _
          obtain ⟨r, w9, hrun, hG9, hT9, hB9⟩ := (hG.touch0 tB).app' (P := Tryz.prog) 45 48 _ Tryz.underlying45 infoRT rfl (by omega) (.slice (some ⟨wr.heap.size, 0, none⟩) 1 1) 1 [.slice a1 m1 k1, .slice a5 m2 c5] (Ux.src_new Tryz.underlying45 wr 2 1 _ rfl (fun u hu => by
            simp only [List.mem_cons, List.not_mem_nil, or_false] at hu
            rcases hu with rfl | rfl <;> rfl)) (by have := T0.size; have := tB.size; omega) (by simp only [maxLen]; omega) (by omega)
          obtain ⟨ar, cr, rfl, _⟩ := hG9.is
          have H15 := Lib.hid (And.intro tB (And.intro hrun (And.intro hG9 (And.intro hT9 hB9))))
          have hres9 := hT9.heap (tB.heap hres (fun f => f)) (fun h => by omega)
          have hfz9 : w9.frozen? ⟨q6, 0, none⟩ = false := Ux.frozen_row hres9 0
          have f9 : w9.cell? ⟨q6, 0, none⟩ = some (.slice a6 i c6) := by
            rw [cell_of_row _ q6 0 _ _ (0, 0) hres9]
            rfl
          have HR9 := Lib.hid hres9
          clear T0 hG hEn T5 hres hsz tB hrun hG9 hT9 hB9 hres9
          go_wp2_with (at_builtin; refine Ux.wpList_app (v1 := .slice a6 i c6) (x1 := .slice (some ⟨wr.heap.size, 0, none⟩) 1 1) rfl _ _ _ _ rfl rfl rfl (H15.out.2.1 _) ?_)
          go_roundg g'
          case measure => omega
          case rel =>
            obtain ⟨T0, hG, hEn, T5, hres, hsz⟩ := H14.out
            obtain ⟨tB, -, hG9, hT9, hB9⟩ := H15.out
            have hXs := HA.out.2.2.2.1
            have hq46 := H5.out.2.2.2.2.2
            have b1 := H0.out.1.size
            have b2 := H1.out.2.size
            have b3 := H2.out.2.2.2.2.2.2.2.size
            rw [World.size_alloc] at b1 b2 b3
            have b4 := H2.out.2.2.2.2.2.1
            have b8 := H0.out.2.2
            have hwr := T0.size
            have ts : Ux.Touch (fun b => b = q6) w9 (w9.setCell ⟨q6, 0, none⟩ (.slice ar (i + 1) cr)) := (Ux.Touch.refl (fun b => b = q6) _).setCell (p := ⟨q6, 0, none⟩) (fun _ => rfl) _
            have hRn := Ux.setCell_row HR9.out 0 (.slice ar (i + 1) cr)
            have hkt : Ux.Touch (fun _ => False) w2 wr := HTW.out _ (HTK.out _ HJ.out.2.1)
            have hgr := HJ.out.1
            rw [List.take_of_length_le (by have := HX.out.2.2.2.1; omega)] at hgr
            have hown6 : ∀ b, (Value.slice a6 i c6).ownBlock = some b → b < X := fun b hb => by
              obtain ⟨_, hG0, _⟩ := HI.out
              have := Ux.own_lt hG0.1 b hb
              omega
            have ho5 : ∀ b, (Value.slice a5 m2 c5).ownBlock = some b → X + 1 ≤ b ∧ b < wr.heap.size := fun b hb => ⟨hgr.2 b hb, Ux.own_lt hgr.1 b hb⟩
            have ho1 : ∀ b, (Value.slice a1 m1 k1).ownBlock = some b → b < q4 := fun b hb => by have := (HX.out.2.1.2.1 b hb).2; omega
            have ho6 : ∀ b, (Value.slice a6 i c6).ownBlock = some b → q6 + 1 ≤ b := hG.2
            have ho9 : ∀ b, (Value.slice ar (i + 1) cr).ownBlock = some b → (Value.slice a6 i c6).ownBlock = some b ∨ (wr.alloc (.cells [Value.slice a1 m1 k1, Value.slice a5 m2 c5].toArray 67)).heap.size ≤ b := fun b hb => by
              rcases hB9 with h | ⟨g, h, hg⟩
              · exact .inl (by rw [← h]; exact hb)
              · rw [h] at hb
                cases hb
                exact .inr hg
            have hts := tB.size
            have hnew : EntV wr (fun b => ((Value.slice a6 i c6).ownBlock ≠ some b ∧ b ≠ q6) ∧ (Value.slice ar (i + 1) cr).ownBlock ≠ some b) (.slice a1 m1 k1) (.slice a5 m2 c5) (e.1, e.2.map fun x => x ^^^ m) := by
              refine ⟨⟨HX.out.2.1.1.1.touch0 hkt, RRow.of_grow (by rw [List.length_map]; exact HX.out.2.2.2.1.symm) hgr⟩, fun g hg => ⟨⟨⟨fun h => ?_, fun h => ?_⟩, fun h => ?_⟩, ?_⟩, fun g hg => ⟨⟨⟨fun h => ?_, fun h => ?_⟩, fun h => ?_⟩, ?_⟩, HX.out.2.1.2.2.2⟩
              · have := ho1 g hg; have := ho6 g h; omega
              · have := ho1 g hg; omega
              · have := ho1 g hg
                rcases ho9 g h with h | h
                · have := ho6 g h; omega
                · omega
              · have := ho1 g hg; omega
              · have := (ho5 g hg).1; have := hown6 g h; omega
              · have := (ho5 g hg).1; omega
              · have h5 := ho5 g hg
                rcases ho9 g h with h | h
                · have := hown6 g h; omega
                · omega
              · exact (ho5 g hg).2
            have hold : Ents (EntV wr (fun b => ((Value.slice a6 i c6).ownBlock ≠ some b ∧ b ≠ q6) ∧ (Value.slice ar (i + 1) cr).ownBlock ≠ some b)) _ (mapE (fun x => x ^^^ m) ((rootT 132).take i)) := hEn.mono fun a b e h => (EntV.mono (A' := fun b => ((Value.slice a6 i c6).ownBlock ≠ some b ∧ b ≠ q6) ∧ (Value.slice ar (i + 1) cr).ownBlock ≠ some b) (fun g hg hA => ⟨hA, fun h9 => by
              rcases ho9 g h9 with h | h
              · exact hA.1 h
              · omega⟩) a b e h).touch0 T0
            have hall := ((((hold.append (show Ents (EntV wr _) [.slice a1 m1 k1, .slice a5 m2 c5] [(e.1, e.2.map fun x => x ^^^ m)] from ⟨hnew, trivial⟩)).mono fun a b e h => EntV.touch0 tB a b e h).mono fun a b e h => EntV.touchB hT9 (fun g _ hA h => hA.1.1 h.2) a b e h).mono fun a b e h => EntV.touchB ts (fun g _ hA h => hA.1.2 h) a b e h).mono fun a b e h => EntV.mono (A' := fun b => (Value.slice ar (i + 1) cr).ownBlock ≠ some b ∧ b ≠ q6) (fun g _ hA => ⟨hA.2, hA.1.2⟩) a b e h
            have hmk : mapE (fun x => x ^^^ m) ((rootT 132).take (i + 1)) = mapE (fun x => x ^^^ m) ((rootT 132).take i) ++ [(e.1, e.2.map fun x => x ^^^ m)] := by
              rw [List.take_add_one, HX.out.1]
              unfold mapE
              rw [List.map_append]
              rfl
            have k1 := ts.cell (hT9.cell (tB.cell f1 (fun f => f)) (fun h => by have h : q6 + 1 ≤ q := h.1; omega)) (fun h => by have h : q = q6 := h; omega)
            have k2 := ts.cell (hT9.cell (tB.cell f2 (fun f => f)) (fun h => by have h : q6 + 1 ≤ q4 := h.1; omega)) (fun h => by have h : q4 = q6 := h; omega)
            refine ⟨i + 1, ar, cr, rfl, by omega, k1, k2, ?_, Lib.hid ⟨_, hG9.touch ts (fun b h1 h2 => by omega), ?_, ?_, hRn, ?_⟩⟩
            · rw [cell_of_row _ q6 0 _ _ (0, 0) hRn]
              rfl
            · rw [hmk]
              exact hall
            · have t1 := (T5.trans (T0.mono (R' := fun b => b = q6) fun _ _ f => f.elim) fun _ _ h => h).trans (tB.mono (R' := fun b => b = q6) fun _ _ f => f.elim) fun _ _ h => h
              have t2 := t1.trans (R := fun b => b = q6) hT9 fun b hb h => by
                have := H5.out.2.2.2.1
                omega
              exact t2.trans ts fun _ _ h => h
            · have := hT9.size
              have := ts.size
              omega
    · obtain rfl : n = i := by omega
      clear hlt
      have HS := Lib.hid fun W (T : Ux.Touch (fun _ => False) wr W) => And.intro (T.cell f3 (fun f => f)) (T.cell f2 (fun f => f))
      obtain ⟨xs, hG, hEn, T5, hres, hsz⟩ := HI.out
      rw [List.take_of_length_le (by have := H2.out.2.1; omega)] at hEn
      have hlen : (mapE (fun x => x ^^^ m) (rootT 132)).length = n := by rw [Ux.mapE_len]; exact H2.out.2.1
      have hRR : RRows wr (fun _ => True) (.slice a6 n c6) (mapE (fun x => x ^^^ m) (rootT 132)) := RRows.of_grow (lo := q6 + 1) (by rw [hlen]; exact hG) (fun _ _ => trivial) (hEn.mono fun a b e h => EntV.mono (A' := fun _ => True) (fun _ _ _ => trivial) a b e h)
      have hq46 := H5.out.2.2.2.2.2
      have hq4e := H2.out.2.2.2.2.2.1
      have b1 := H0.out.1.size
      have b2 := H1.out.2.size
      have b3 := H2.out.2.2.2.2.2.2.2.size
      rw [World.size_alloc] at b1 b2 b3
      have hT4 := H4b.out.1.touch0 (H4b.out.2.trans (R := fun _ => False) T5 fun b hb h => by have := H5.out.2.2.2.2.1; omega)
      have hT1 := H1.out.1.touch0 ((H2.out.2.2.2.2.2.2.2.trans H5.out.2.1 fun _ _ f => f).trans (R := fun _ => False) T5 fun b hb h => by omega)
      have Tw := (H2.out.2.2.1.trans H5.out.2.1 fun _ _ f => f).trans (R := fun _ => False) T5 fun b hb h => by omega
      have hR4 := H2.out.2.2.2.2.1.touch0 (HTW.out _ T5)
      have r0 := H1.out.1.1.1
      have hsm := Ux.same_root.mapE (fun x => x ^^^ m)
      have hck := checkE_perm (by rw [Ux.mapE_keys]; exact r0.1) hsm.1
      have L1 := Lib.hid fun W (T : Ux.Touch (fun _ => False) wr W) => like_ B' mb' (mapE (fun x => x ^^^ m) rootE) (mapE (fun x => x ^^^ m) (rootT 132)) (.slice a6 n c6) _ W (hT4.touch0 T) (by rw [Ux.mapE_len, Ux.rootE_len]; decide) hsm (hRR.touch0 T)
      have L2 := Lib.hid fun W (T : Ux.Touch (fun _ => False) wr W) => like_ B mb rootE (rootT 132) (.slice a n ca) _ W (hT1.touch0 T) (by rw [Ux.rootE_len]; decide) Ux.same_root (hR4.touch0 T)
      have C1 := Lib.hid fun W (T : Ux.Touch (fun _ => False) wr W) => check_ B' mb' (mapE (fun x => x ^^^ m) rootE) W (hT4.touch0 T) (fun d hd c hc => by
        obtain ⟨d0, hd0, rfl⟩ := List.mem_map.1 hd
        exact rootE_sig d0 hd0 c hc)
      have hok : ∀ d ∈ mapE (fun x => x ^^^ m) (rootT 132), d.2.length ≤ 1000 ∧ 1 ≤ d.1.length ∧ d.1.length ≤ 3 := fun d hd => by
        obtain ⟨d0, hd0, rfl⟩ := List.mem_map.1 hd
        have h := (Ux.same_root.ok r0).2 d0 hd0
        refine ⟨?_, h.1.1, h.1.2.1⟩
        rw [List.length_map]
        have := h.2.1
        omega
      have C2 := Lib.hid fun W (T : Ux.Touch (fun _ => False) wr W) => rcheck_ (.slice a6 n c6) (mapE (fun x => x ^^^ m) (rootT 132)) _ W (hRR.touch0 T) (by rw [hlen]; omega) (fun d hd => (hok d hd).1) (fun d hd => (hok d hd).2)
      rw [hck] at C1
      obtain ⟨r, hr⟩ : ∃ r : Int, (if checkE (mapE (fun x => x ^^^ m) (rootT 132)) then 0 else 3) = r := ⟨_, rfl⟩
      rw [hr] at C1 C2
      have AW := Lib.hid fun W (T : Ux.Touch (fun _ => False) wr W) => awake5_ W (HT.out.1.touch (Tw.trans T fun _ _ f => f)) (HT.out.2.1.touch (Tw.trans T fun _ _ f => f))
      have HTw := Lib.hid Tw
      clear hG hEn T5 hres hsz hlen hRR r0 hsm hck hq46 hq4e b1 b2 b3 hT4 hT1 Tw hR4 hok hr
      go_upto_region 15 with (fail)
      refine Ux.wp_region_plan (fun _ w' => w'.cell? ⟨q6, 0, none⟩ = some (.slice a6 n c6) ∧ w'.cell? ⟨q4, 0, none⟩ = some (.slice a n ca)) (.q [0] (.h false [1] (.e 2 true false (.q [3, 4] (.h false [5] (.e 6 true false (.q [7, 8, 9] (.h false [11] (.e 10 true false (.e 12 true false (.q [13, 14, 15] (.e 16 true false (.q [17] (.line [18]))))))))))))))
        (by kernel_rfl) (by kernel_rfl) (by intro _ _ d _ _ h; cases d <;> exact h) ?hS ?_
      case hS => (intro c; cases c <;> (simp only [World.cell?_drew]; first | exact True.intro | (refine ⟨?_, ?_⟩ <;> assumption) | assumption | (repeat (first | assumption | (refine And.intro ?_ ?_)))))
      simp only [Ux.wpPlan, Ux.pickOps, Ux.keeps, List.getElem?_toArray, List.getElem?_cons_succ, List.getElem?_cons_zero]
      repeat (first
        | go_big_quiet_step (fail)
        | (with_reducible refine wpQuiet_nil ?_)
        | (refine Ux.quiet_held rfl ?_; apply Exists.intro; refine ⟨fun w' hS => ?_, ?_⟩; (focus ((try dsimp only at hS); go_simp; first | done | with_reducible rfl)); simp only [Act.put, List.setIfInBounds_toArray, List.set_cons_zero, List.set_cons_succ]))
      clear f1 f2 f3
      have t0 := Lib.hid (Ux.Touch.refl (fun _ => False) wr).drew
      go_wp2_with (go_at_call 28; fail)
      refine (L1.out _ t0.out).mono ?_
      rintro e5 w5 ⟨rfl, t5⟩
      have t5 := Lib.hid (t0.out.trans t5 fun _ _ f => f)
      go_wp2_with (fail)
      refine ⟨HS.out _ t5.out, ?_⟩
      repeat (first
        | go_big_quiet_step (fail)
        | (with_reducible refine wpQuiet_nil ?_)
        | (refine Ux.quiet_held rfl ?_; apply Exists.intro; refine ⟨fun w' hS => ?_, ?_⟩; (focus ((try dsimp only at hS); go_simp; first | done | with_reducible rfl)); simp only [Act.put, List.setIfInBounds_toArray, List.set_cons_zero, List.set_cons_succ]))
      go_wp2_with (go_at_call 28; fail)
      refine (L2.out _ t5.out).mono ?_
      rintro e6 w6 ⟨rfl, t6⟩
      have t6 := Lib.hid (t5.out.trans t6 fun _ _ f => f)
      go_wp2_with (fail)
      refine ⟨HS.out _ t6.out, ?_⟩
      repeat (first
        | go_big_quiet_step (fail)
        | (with_reducible refine wpQuiet_nil ?_)
        | (refine Ux.quiet_held rfl ?_; apply Exists.intro; refine ⟨fun w' hS => ?_, ?_⟩; (focus ((try dsimp only at hS); go_simp; first | done | with_reducible rfl)); simp only [Act.put, List.setIfInBounds_toArray, List.set_cons_zero, List.set_cons_succ]))
      go_wp2_with (go_at_call 20; fail)
      refine (C1.out _ t6.out).mono ?_
      rintro e7 w7 ⟨rfl, t7⟩
      have t7 := Lib.hid (t6.out.trans t7 fun _ _ f => f)
      go_wp2_with (fail)
      refine ⟨HS.out _ t7.out, ?_⟩
      go_wp2_with (go_at_call 33; fail)
      refine (C2.out _ t7.out).mono ?_
      rintro e8 w8 ⟨rfl, t8⟩
      have t8 := Lib.hid (t7.out.trans t8 fun _ _ f => f)
      go_wp2_with (fail)
      refine ⟨HS.out _ t8.out, ?_⟩
      repeat (first
        | go_big_quiet_step (fail)
        | (with_reducible refine wpQuiet_nil ?_)
        | (refine Ux.quiet_held rfl ?_; apply Exists.intro; refine ⟨fun w' hS => ?_, ?_⟩; (focus ((try dsimp only at hS); go_simp; first | done | with_reducible rfl)); simp only [Act.put, List.setIfInBounds_toArray, List.set_cons_zero, List.set_cons_succ]))
      go_wp2_with (go_at_call 13; fail)
      refine (AW.out _ t8.out).mono ?_
      rintro e9 w9 ⟨rfl, t9⟩
      have t9 := Lib.hid (t8.out.trans t9 fun _ _ f => f)
      go_wp2_with (fail)
      refine ⟨HS.out _ t9.out, ?_⟩
      repeat (first
        | go_big_quiet_step (fail)
        | (with_reducible refine wpQuiet_nil ?_)
        | (refine Ux.quiet_held rfl ?_; apply Exists.intro; refine ⟨fun w' hS => ?_, ?_⟩; (focus ((try dsimp only at hS); go_simp; first | done | with_reducible rfl)); simp only [Act.put, List.setIfInBounds_toArray, List.set_cons_zero, List.set_cons_succ]))
      go_wp2
      go_ret
      exact ⟨rfl, HTw.out.trans t9.out fun _ _ f => f⟩

end Go.Proofs.YtjkeiomildghmaaGreatDoor
