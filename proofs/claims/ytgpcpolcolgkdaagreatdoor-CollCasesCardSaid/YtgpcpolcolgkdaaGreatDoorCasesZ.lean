/- PART OF THE PROOF THAT THIS CLAIM HOLDS OF THE GIVEN PROGRAM, FOR EVERY INPUT THAT THE STATEMENT NAMES. No condition besides the statement's own. -/
import Derived.Test.YtgpcpolcolgkdaaGreatDoorUxCollAZ
import Derived.Test.YtgpcpolcolgkdaaGreatDoorReadAZ
import Derived.Test.YtgpcpolcolgkdaaGreatDoorShiftsZ
import Derived.Test.YtgpcpolcolgkdaaGreatDoorRows
import Derived.WalkKit
import Derived.Handy
import Derived.Laws.EntriesVeiled
import Derived.WalkSpells
import Derived.WalkLawsBesides
import Derived.BigQuiet
import Derived.Deep.QuietTactic
import Derived.Deep.Cut
import Derived.Deep.DeepCutAuto
import Derived.Lib.Overlaps
import Derived.Laws.Externs
import Derived.Lib.Hide
import Derived.Test.YtgpcpolcolgkdaaGreatDoorUxPlanAllZ
import Derived.Test.YtgpcpolcolgkdaaGreatDoorUxMemAZ
import Derived.Deep.LoopGhost
namespace Go.Proofs.YtgpcpolcolgkdaaGreatDoor
open Go.RowKit
open Go.RowKit
open Ux (Row Ent rootE rootT wghC eLetter eMark eMk bv)
open Ux.Sign (cp raw signs)

theorem zip_es (Z : List (UInt8 × Bool)) (h : ∀ p ∈ Z, letB p.1) : Ux.elemsE rootE ((Z.map (·.1)).map UInt8.toNat) = Ux.esP (Z.map fun p => (p.1.toNat - 97, p.2)) ∧ Ux.elemsE rootE ((Z.map fun p => Ux.upB p.1 p.2).map UInt8.toNat) = Ux.etP (Z.map fun p => (p.1.toNat - 97, p.2)) := by
  rw [Ux.elems_single Ux.rootE_one, Ux.elems_single Ux.rootE_one]
  unfold Ux.esP Ux.etP
  induction Z with
  | nil => exact ⟨rfl, rfl⟩
  | cons p Z ih =>
    obtain ⟨i1, i2⟩ := ih (fun q hq => h q (List.mem_cons_of_mem _ hq))
    have hb := h p List.mem_cons_self
    have hb' := hb
    unfold letB at hb
    have h1 := Ux.root_letter (p.1.toNat - 97) (by omega)
    rw [show 97 + (p.1.toNat - 97) = p.1.toNat by omega] at h1
    have h2 := Ux.root_eu (p.1.toNat - 97) (by omega) p.2
    rw [← Ux.upB_nat p.1 hb' p.2] at h2
    refine ⟨?_, ?_⟩
    · rw [List.map_cons, List.map_cons, List.flatMap_cons, i1, h1]
      rfl
    · rw [List.map_cons, List.map_cons, List.flatMap_cons, i2, h2]
      rfl
theorem upB_lt (b : UInt8) (h : letB b) (g : Bool) : (Ux.upB b g).toNat < 128 := by
  have h1 := h
  unfold letB at h1
  rw [Ux.upB_nat b h g]
  cases g
  · rw [if_neg (by simp)]; omega
  · rw [if_pos rfl]; omega
theorem cases_el (s T : ByteArray) (gs : List Bool) (hg : gs.length = s.data.toList.length) (hs : ∀ b ∈ s.data.toList, letB b) (hT : T.data.toList = (s.data.toList.zip gs).map fun p => Ux.upB p.1 p.2) (x : Nat) (hx : x < 25) (X Y TX SY : ByteArray) (hX : X.data.toList = [UInt8.ofNat (97 + x)]) (hY : Y.data.toList = [UInt8.ofNat (98 + x)]) (hTX : T ++ X = TX) (hSY : s ++ Y = SY) :
    ∃ P : List (Nat × Bool), (∀ p ∈ P, p.1 < 26) ∧ P.any (·.2) = gs.any id ∧ elB rootE s = Ux.esP P ∧ elB rootE T = Ux.etP P ∧ elB rootE TX = Ux.etP P ++ [eLetter x 2] ∧ elB rootE SY = Ux.esP P ++ [eLetter (x + 1) 2] := by
  have h1 : (s.data.toList.zip gs).map (·.1) = s.data.toList := List.map_fst_zip (by omega)
  have h2 : (s.data.toList.zip gs).map (·.2) = gs := List.map_snd_zip (by omega)
  have hz : ∀ p ∈ s.data.toList.zip gs, letB p.1 := fun p hp => hs p.1 (by rw [← h1]; exact List.mem_map.2 ⟨p, hp, rfl⟩)
  obtain ⟨e1, e2⟩ := zip_es _ hz
  have hsa : ∀ b ∈ s.data.toList, b.toNat < 128 := fun b hb => by have := hs b hb; unfold letB at this; omega
  have hTa : ∀ b ∈ T.data.toList, b.toNat < 128 := fun b hb => by
    rw [hT] at hb
    obtain ⟨p, hp, rfl⟩ := List.mem_map.1 hb
    exact upB_lt p.1 (hz p hp) p.2
  have es : elB rootE s = Ux.esP ((s.data.toList.zip gs).map fun p => (p.1.toNat - 97, p.2)) := by
    unfold elB
    rw [sg_ascii hsa, ← e1, h1]
  have et : elB rootE T = Ux.etP ((s.data.toList.zip gs).map fun p => (p.1.toNat - 97, p.2)) := by
    unfold elB
    rw [sg_ascii hTa, hT, e2]
  have one : ∀ k, 97 ≤ k → k < 123 → Ux.elemsE rootE ([UInt8.ofNat k].map UInt8.toNat) = [eLetter (k - 97) 2] := fun k h1 h2 => by
    have h := el_lets [UInt8.ofNat k] (fun b hb => by
      rw [List.mem_singleton.1 hb]
      unfold letB
      rw [UInt8.toNat_ofNat']
      omega)
    rw [h]
    show [eLetter ((UInt8.ofNat k).toNat - 97) 2] = _
    rw [UInt8.toNat_ofNat', show k % 2 ^ 8 = k by omega]
  have ow : ∀ k, 97 ≤ k → k < 123 → ∀ b ∈ [UInt8.ofNat k], b.toNat < 128 := fun k h1 h2 b hb => by
    rw [List.mem_singleton.1 hb, UInt8.toNat_ofNat']
    omega
  refine ⟨_, fun p hp => ?_, ?_, es, et, ?_, ?_⟩
  · obtain ⟨q, hq, rfl⟩ := List.mem_map.1 hp
    have := hz q hq
    unfold letB at this
    show q.1.toNat - 97 < 26
    omega
  · rw [List.any_map]
    conv => rhs; rw [← h2, List.any_map]
    rfl
  · rw [← et]
    unfold elB
    rw [← hTX, ByteArray.data_append, Array.toList_append, hX, sg_ascii (fun b hb => by
      rcases List.mem_append.1 hb with hb | hb
      · exact hTa b hb
      · exact ow (97 + x) (by omega) (by omega) b hb), List.map_append, Ux.elems_app Ux.rootE_one, one (97 + x) (by omega) (by omega), sg_ascii hTa, Nat.add_sub_cancel_left]
  · rw [← es]
    unfold elB
    rw [← hSY, ByteArray.data_append, Array.toList_append, hY, sg_ascii (fun b hb => by
      rcases List.mem_append.1 hb with hb | hb
      · exact hsa b hb
      · exact ow (98 + x) (by omega) (by omega) b hb), List.map_append, Ux.elems_app Ux.rootE_one, one (98 + x) (by omega) (by omega), sg_ascii hsa, show 98 + x - 97 = x + 1 by omega]

set_option maxHeartbeats 16000000 in
set_option maxRecDepth 100000 in
theorem casesLaw_ (s : ByteArray) (great : Int) (more : Int) (w : World) (hT : Tabs w) (hs : s.size ≤ 140737488355328) (hm : 0 ≤ more ∧ more ≤ 255) :
    Calls Tryz.prog 5 #[.string s, .int .i64 great, .int .u8 more] w fun e w' => e = .returned (.bool true) ∧ Ux.Touch (fun _ => False) w w' := by
  have AW := Lib.hid fun W (T : Ux.Touch (fun _ => False) w W) => awake8_ W (hT.touch T)
  have HT := Lib.hid hT
  obtain ⟨n, e1⟩ : ∃ n, s.size = n := ⟨_, rfl⟩
  have g1 : (n : Int) ≤ 140737488355328 := by omega
  have HSZ := Lib.hid (And.intro e1 hm)
  clear hT hs hm
  go_enter Tryz.func5, Tryz.ntmps5
  go_wp2_with (fail)
  go_loopg [7] n (fun g s7 wr => ∃ i : Nat, s7 = .int .i64 i ∧ i + g = n ∧ w = wr ∧ Hid (∀ k b, k < i → s.data.toList[k]? = some b → letB b))
  case atStart => exact ⟨0, rfl, by omega, rfl, Lib.hid fun k b h => by omega⟩
  case round =>
    obtain ⟨i, rfl, hig, rfl, HI⟩ := hrel
    have p1 : (0 : Int) ≤ i := by omega
    by_cases hin : i < n
    · obtain ⟨g', rfl⟩ : ∃ g', gk = g' + 1 := ⟨gk - 1, by omega⟩
      have j2 : (i : Int) < n := by omega
      have his : i < s.size := by omega
      obtain ⟨y, hy⟩ : ∃ y : UInt8, s[i]'his = y := ⟨_, rfl⟩
      have hyd := Lib.data_getElem? s i his
      rw [hy] at hyd
      have HY := Lib.hid hyd
      have hy256 := y.toNat_lt
      clear hyd hin
      have cs : (97 ≤ y.toNat ∧ y.toNat ≤ 122) ∨ (y.toNat < 97) ∨ (97 ≤ y.toNat ∧ 122 < y.toNat) := by omega
      rcases cs with cs | cs | cs
      · have k1 : ¬ ((y.toNat : Int) < 97) := by omega
        have k2 : ¬ ((y.toNat : Int) > 122) := by omega
        have HC := Lib.hid cs
        clear cs
        go_wp2
        go_roundg g'
        case measure => omega
        case rel =>
          refine ⟨i + 1, rfl, by omega, rfl, Lib.hid fun k b hk hb => ?_⟩
          by_cases h : k = i
          · subst h
            rw [HY.out] at hb
            cases hb
            exact HC.out
          · exact HI.out k b (by omega) hb
      · have k1 : ((y.toNat : Int) < 97) := by omega
        clear cs
        go_wp2_with (go_at_call 15; fail)
        refine (AW.out _ (Ux.Touch.refl _ _)).mono ?_
        rintro e w7 ⟨rfl, T7⟩
        have H7 := Lib.hid T7
        clear T7
        go_wp2
        go_returns
        exact ⟨rfl, H7.out⟩
      · have k1 : ¬ ((y.toNat : Int) < 97) := by omega
        have k2 : ((y.toNat : Int) > 122) := by omega
        clear cs
        go_wp2_with (go_at_call 15; fail)
        refine (AW.out _ (Ux.Touch.refl _ _)).mono ?_
        rintro e w7 ⟨rfl, T7⟩
        have H7 := Lib.hid T7
        clear T7
        go_wp2
        go_returns
        exact ⟨rfl, H7.out⟩
    · obtain rfl : n = i := by omega
      clear hin
      have hbig : n = 0 ∨ (0 < n ∧ 20 < n) ∨ (0 < n ∧ n ≤ 20) := by omega
      rcases hbig with hz | ⟨hz, hz2⟩ | ⟨hz, hz2⟩
      · subst hz
        go_wp2_with (go_at_call 15; fail)
        refine (AW.out _ (Ux.Touch.refl _ _)).mono ?_
        rintro e w7 ⟨rfl, T7⟩
        have H7 := Lib.hid T7
        clear T7
        go_wp2
        go_returns
        exact ⟨rfl, H7.out⟩
      · have q1 : ((n : Int) == 0) = false := by simp; omega
        have q2 : decide ((20 : Int) < n) = true := by simp; omega
        have q3 : decide (20 < n) = true := by simp; omega
        clear hz hz2
        go_wp2_with (go_at_call 15; fail)
        refine (AW.out _ (Ux.Touch.refl _ _)).mono ?_
        rintro e w7 ⟨rfl, T7⟩
        have H7 := Lib.hid T7
        clear T7
        go_wp2
        go_returns
        exact ⟨rfl, H7.out⟩
      · have q1 : ((n : Int) == 0) = false := by simp; omega
        have q2 : decide ((20 : Int) < n) = false := by simp; omega
        have q3 : decide (20 < n) = false := by simp; omega
        have n20 : (n : Int) ≤ 20 := by omega
        have n0 : (1 : Int) ≤ n := by omega
        have hls : ∀ b ∈ s.data.toList, letB b := fun b hb => by
          obtain ⟨j, hj, rfl⟩ := List.mem_iff_getElem.1 hb
          exact HI.out j _ (by have e : s.data.toList.length = s.size := rfl; omega) (List.getElem?_eq_getElem hj)
        have HL := Lib.hid hls
        clear hz hz2 hls
        obtain ⟨cap, hcap⟩ : ∃ c, grownCap w s.size 0 5 = c := ⟨_, rfl⟩
        have hconv := run_bytes_of_string (P := Tryz.prog) w 9 32 5 s Tryz.underlying9 Tryz.underlying32 Tryz.underlying5
        rw [hcap] at hconv
        obtain ⟨A0, hA0⟩ : ∃ A, bytesRow s cap = A := ⟨_, rfl⟩
        have hget : ∀ (j : Nat) (b : UInt8), s.data.toList[j]? = some b → A0[j]? = some (Value.int .u8 (b.toNat : Int)) := fun j b hj => by
          obtain ⟨h1, h2⟩ := List.getElem?_eq_some_iff.1 hj
          have h3 : j < s.data.size := by simpa using h1
          rw [← hA0, bytesRow_at s cap j h3]
          simp at h2
          rw [h2]
        rw [hA0] at hconv
        obtain ⟨g, hg⟩ : ∃ g, w.heap.size = g := ⟨_, rfl⟩
        have hb8 : (w.drew.alloc (.cells A0 5 (A0.size, A0.size + 1))).heap[g]? = some (.cells A0 5 (A0.size, A0.size + 1)) := by rw [← hg]; exact heap_alloc_new w.drew _
        have T8 : Ux.Touch (fun _ => False) w (w.drew.alloc (.cells A0 5 (A0.size, A0.size + 1))) := (Ux.Touch.refl _ _).drew.alloc _
        obtain ⟨W8, hW8⟩ : ∃ W, w.drew.alloc (.cells A0 5 (A0.size, A0.size + 1)) = W := ⟨_, rfl⟩
        rw [hW8] at hb8 T8 hconv
        rw [hg, e1] at hconv
        have hlen : s.data.toList.length = n := e1
        have H8 := Lib.hid (And.intro hb8 (And.intro T8 (And.intro hget (And.intro hlen hg))))
        clear hA0 hcap hb8 T8 hget hlen hg hW8
        go_upto_region 10 with (fail)
        clear hconv
        go_wp2_with (fail)
        go_loopg [9, 10] n (fun gk s9 s10 wr => ∃ (i : Nat) (gs : List Bool) (A : Array Value), s10 = .int .i64 i ∧ s9 = .bool (gs.any id) ∧ i + gk = n ∧ Hid (gs.length = i ∧ A.size = A0.size ∧ wr.heap[g]? = some (.cells A 5 (A0.size, A0.size + 1)) ∧ (∀ (j : Nat) (b : UInt8), s.data.toList[j]? = some b → A[j]? = some (Value.int .u8 ((Ux.upB b (gs.getD j false)).toNat : Int))) ∧ Ux.Touch (fun b => b = g) W8 wr))
        case atStart => exact ⟨0, [], A0, rfl, rfl, by omega, Lib.hid ⟨rfl, rfl, H8.out.1, fun j b hj => H8.out.2.2.1 j b hj, Ux.Touch.refl _ _⟩⟩
        case round =>
          obtain ⟨i, gs, A, rfl, rfl, hig2, HJ⟩ := hrel
          have i0 : (0 : Int) ≤ i := by omega
          by_cases hlt : i < n
          · obtain ⟨g', rfl⟩ : ∃ g', gk = g' + 1 := ⟨gk - 1, by omega⟩
            have i1 : (i : Int) < n := by omega
            obtain ⟨y, hy⟩ : ∃ y, s.data.toList[i]? = some y := ⟨_, List.getElem?_eq_getElem (by have := H8.out.2.2.2.1; omega)⟩
            have hyl := HL.out y (List.mem_of_getElem? hy)
            have hAy := HJ.out.2.2.2.1 i y hy
            have hgi : gs.getD i false = false := by
              rw [List.getD_eq_getElem?_getD, List.getElem?_eq_none (by have := HJ.out.1; omega)]
              rfl
            rw [hgi] at hAy
            have hAy : A[i]? = some (Value.int .u8 (y.toNat : Int)) := hAy
            have ci : wr.cell? ⟨g, i, none⟩ = some (.int .u8 (y.toNat : Int)) := by rw [cell_of_row wr g i _ _ _ HJ.out.2.2.1]; exact hAy
            have fi : wr.frozen? ⟨g, i, none⟩ = false := by
              unfold World.frozen?
              rw [HJ.out.2.2.1]
              have hsz : i < A.size := (Array.getElem?_eq_some_iff.1 hAy).1
              have := HJ.out.2.1
              simp
              omega
            have hup : ((Ux.upB y true).toNat : Int) = ((y.toNat : Int) - 32) % 256 := by
              rw [Ux.upB_nat y hyl true]
              have h1 := hyl.1
              have h2 := hyl.2
              rw [if_pos rfl]
              omega
            have HA := Lib.hid (And.intro hy (And.intro hAy (And.intro hup hgi)))
            obtain ⟨Z, hZ⟩ : ∃ Z, (bits .and .i64 (great / 2 ^ i) 1 == 1) = Z := ⟨_, rfl⟩
            have hstep : ∀ (A' : Array Value), A'.size = A.size → (∀ j, j ≠ i → A'[j]? = A[j]?) → A'[i]? = some (Value.int .u8 ((Ux.upB y Z).toNat : Int)) → A'.size = A0.size ∧ ∀ (j : Nat) (b : UInt8), s.data.toList[j]? = some b → A'[j]? = some (Value.int .u8 ((Ux.upB b ((gs ++ [Z]).getD j false)).toNat : Int)) := fun A' h1 h2 h3 => by
              refine ⟨by rw [h1]; exact HJ.out.2.1, fun j b hj => ?_⟩
              by_cases hji : j = i
              · subst hji
                rw [HA.out.1] at hj
                cases hj
                rw [h3, List.getD_eq_getElem?_getD, List.getElem?_append_right (by have := HJ.out.1; omega), HJ.out.1, Nat.sub_self]
                rfl
              · rw [h2 j hji, HJ.out.2.2.2.1 j b hj]
                congr 4
                rw [List.getD_eq_getElem?_getD, List.getD_eq_getElem?_getD]
                rcases Nat.lt_or_ge j i with h | h
                · rw [List.getElem?_append_left (by have := HJ.out.1; omega)]
                · rw [List.getElem?_eq_none (by have := HJ.out.1; omega), List.getElem?_eq_none (by rw [List.length_append]; have := HJ.out.1; simp; omega)]
            have HS := Lib.hid hstep
            clear hy hyl hAy hgi hup hlt hstep
            cases Z with
            | true =>
              go_wp2
              go_roundg g'
              case measure => omega
              case rel =>
                have hsz : i < A.size := (Array.getElem?_eq_some_iff.1 HA.out.2.1).1
                obtain ⟨k1, k2⟩ := HS.out (A.setIfInBounds i (.int .u8 (((y.toNat : Int) - 32) % 256))) (by simp) (fun j hj => by rw [Array.getElem?_setIfInBounds_ne (fun e => hj e.symm)]) (by rw [Array.getElem?_setIfInBounds_self_of_lt hsz, HA.out.2.2.1])
                refine ⟨i + 1, gs ++ [true], _, by congr 1, by simp, by omega, Lib.hid ⟨by rw [List.length_append, HJ.out.1]; rfl, k1, ?_, k2, HJ.out.2.2.2.2.setCell (p := ⟨g, i, none⟩) (fun _ => rfl) _⟩⟩
                unfold World.setCell
                simp [Array.getElem?_modify, HJ.out.2.2.1]
            | false =>
              clear fi ci
              go_wp2
              go_roundg g'
              case measure => omega
              case rel =>
                obtain ⟨k1, k2⟩ := HS.out A rfl (fun j _ => rfl) HA.out.2.1
                exact ⟨i + 1, gs ++ [false], A, by congr 1, by simp, by omega, Lib.hid ⟨by rw [List.length_append, HJ.out.1]; rfl, k1, HJ.out.2.2.1, k2, HJ.out.2.2.2.2⟩⟩
          · obtain rfl : n = i := by omega
            clear hlt
            obtain ⟨C, hC⟩ : ∃ C : List UInt8, ((s.data.toList.zip gs).map fun p => Ux.upB p.1 p.2) = C := ⟨_, rfl⟩
            have hgl := HJ.out.1
            have hll := H8.out.2.2.2.1
            have hCn : C.length = n := by rw [← hC, List.length_map, List.length_zip]; omega
            have hback := run_convert_bytes_back (P := Tryz.prog) wr 32 9 5 ⟨g, 0, none⟩ cap C Tryz.underlying32 Tryz.underlying5 Tryz.underlying9 (fun j hj => by
              have e : (⟨g, 0, none⟩ : Addr).add j = ⟨g, j, none⟩ := by rw [Addr.add_mid]; simp
              rw [e, cell_of_row wr g j _ _ _ HJ.out.2.2.1]
              obtain ⟨b, hb⟩ : ∃ b, s.data.toList[j]? = some b := ⟨_, List.getElem?_eq_getElem (by omega)⟩
              obtain ⟨u, hu⟩ : ∃ u, gs[j]? = some u := ⟨_, List.getElem?_eq_getElem (by omega)⟩
              rw [HJ.out.2.2.2.1 j b hb, List.getD_eq_getElem?_getD, hu]
              have hc : C[j]? = some (Ux.upB b u) := by
                rw [← hC, List.getElem?_map, (List.getElem?_zip_eq_some (z := (b, u))).2 ⟨hb, hu⟩]
                rfl
              rw [List.getElem?_eq_getElem hj] at hc
              rw [Option.some.inj hc]
              rfl)
            rw [hCn] at hback
            obtain ⟨T, hT⟩ : ∃ T : ByteArray, (⟨C.toArray⟩ : ByteArray) = T := ⟨_, rfl⟩
            rw [hT] at hback
            have dT : T.data.toList = (s.data.toList.zip gs).map fun p => Ux.upB p.1 p.2 := by rw [← hT, hC]
            have zT : T.size = n := by
              have e : T.data.toList.length = T.size := rfl
              rw [← e, ← hT]
              simpa using hCn
            obtain ⟨m, hme⟩ : ∃ m : Nat, more = m := ⟨more.toNat, by have := HSZ.out.2.1; omega⟩
            subst hme
            obtain ⟨x, hx⟩ : ∃ x, m % 25 = x := ⟨_, rfl⟩
            have hx25 : x < 25 := by omega
            have hxm : (m : Int) % 25 = x := by omega
            have x0 : (0 : Int) ≤ x := by omega
            have x1 : (x : Int) < 25 := by omega
            have m0 : (0 : Int) ≤ m := by omega
            have m1 : (m : Int) ≤ 255 := by have := HSZ.out.2.2; omega
            obtain ⟨X, hX⟩ : ∃ X : ByteArray, (⟨#[UInt8.ofNat (97 + x)]⟩ : ByteArray) = X := ⟨_, rfl⟩
            obtain ⟨Y, hY⟩ : ∃ Y : ByteArray, (⟨#[UInt8.ofNat (98 + x)]⟩ : ByteArray) = Y := ⟨_, rfl⟩
            have hcv : ∀ (W : World) (b k : Nat) (Z : ByteArray) (z : Int), z = k → k < 256 → (⟨#[UInt8.ofNat k]⟩ : ByteArray) = Z → W.heap[b]? = some (.cells #[.int .u8 z] 5 (0, 0)) → (convert 32 9 (.slice (some ⟨b, 0, none⟩) 1 1)).run Tryz.prog W = .ok (.string Z) W := fun W b k Z z hz hk hZ hb => by
              rw [← hZ]
              refine run_convert_bytes_back (P := Tryz.prog) W 32 9 5 ⟨b, 0, none⟩ 1 [UInt8.ofNat k] Tryz.underlying32 Tryz.underlying5 Tryz.underlying9 fun j hj => ?_
              obtain rfl : j = 0 := by simp at hj; exact hj
              have e : (⟨b, 0, none⟩ : Addr).add 0 = ⟨b, 0, none⟩ := by rw [Addr.add_mid]
              rw [e, cell_of_row W b 0 _ _ _ hb, hz]
              show some _ = some (Value.int .u8 ((UInt8.ofNat k).toNat : Int))
              rw [UInt8.toNat_ofNat', show k % 2 ^ 8 = k by omega]
              rfl
            obtain ⟨q, hq⟩ : ∃ q, wr.heap.size = q := ⟨_, rfl⟩
            have r1 : (wr.alloc (.cells #[.int .u8 (97 + (x : Int))] 5)).heap[q]? = some (.cells #[.int .u8 (97 + (x : Int))] 5 (0, 0)) := by rw [← hq]; exact heap_alloc_new _ _
            have r2 : (wr.alloc (.cells #[.int .u8 (98 + (x : Int))] 5)).heap[q]? = some (.cells #[.int .u8 (98 + (x : Int))] 5 (0, 0)) := by rw [← hq]; exact heap_alloc_new _ _
            have z1 : (wr.alloc (.cells #[.int .u8 (97 + (x : Int))] 5)).heap.size = q + 1 := by rw [World.size_alloc, hq]
            have z2 : (wr.alloc (.cells #[.int .u8 (98 + (x : Int))] 5)).heap.size = q + 1 := by rw [World.size_alloc, hq]
            have r3 : ((wr.alloc (.cells #[.int .u8 (97 + (x : Int))] 5)).alloc (.cells #[.int .u8 (98 + (x : Int))] 5)).heap[q + 1]? = some (.cells #[.int .u8 (98 + (x : Int))] 5 (0, 0)) := by rw [← z1]; exact heap_alloc_new _ _
            have r4 : ((wr.alloc (.cells #[.int .u8 (98 + (x : Int))] 5)).alloc (.cells #[.int .u8 (97 + (x : Int))] 5)).heap[q + 1]? = some (.cells #[.int .u8 (97 + (x : Int))] 5 (0, 0)) := by rw [← z2]; exact heap_alloc_new _ _
            have ex : (97 + (x : Int)) = ((97 + x : Nat) : Int) := by omega
            have ey : (98 + (x : Int)) = ((98 + x : Nat) : Int) := by omega
            have f1 := hcv (wr.alloc (.cells #[.int .u8 (97 + (x : Int))] 5)).drew q (97 + x) X _ ex (by omega) hX r1
            have f2 := hcv ((wr.alloc (.cells #[.int .u8 (97 + (x : Int))] 5)).alloc (.cells #[.int .u8 (98 + (x : Int))] 5)).drew q (97 + x) X _ ex (by omega) hX (((Ux.Touch.refl (fun _ => False) _).alloc (.cells #[.int .u8 (98 + (x : Int))] 5)).heap r1 (fun f => f))
            have f3 := hcv ((wr.alloc (.cells #[.int .u8 (98 + (x : Int))] 5)).alloc (.cells #[.int .u8 (97 + (x : Int))] 5)).drew (q + 1) (97 + x) X _ ex (by omega) hX r4
            have f4 := hcv (wr.alloc (.cells #[.int .u8 (98 + (x : Int))] 5)).drew q (98 + x) Y _ ey (by omega) hY r2
            have f5 := hcv ((wr.alloc (.cells #[.int .u8 (98 + (x : Int))] 5)).alloc (.cells #[.int .u8 (97 + (x : Int))] 5)).drew q (98 + x) Y _ ey (by omega) hY (((Ux.Touch.refl (fun _ => False) _).alloc (.cells #[.int .u8 (97 + (x : Int))] 5)).heap r2 (fun f => f))
            have f6 := hcv ((wr.alloc (.cells #[.int .u8 (97 + (x : Int))] 5)).alloc (.cells #[.int .u8 (98 + (x : Int))] 5)).drew (q + 1) (98 + x) Y _ ey (by omega) hY r3
            clear r1 r2 z1 z2 r3 r4 ex ey hcv
            obtain ⟨TX, hTX⟩ : ∃ t, T ++ X = t := ⟨_, rfl⟩
            obtain ⟨SY, hSY⟩ : ∃ t, s ++ Y = t := ⟨_, rfl⟩
            obtain ⟨P, hP26, hPS, hes, het, hetx, hesy⟩ := cases_el s T gs (by omega) HL.out dT x hx25 X Y TX SY (by rw [← hX]) (by rw [← hY]) hTX hSY
            have zX : X.size = 1 := by rw [← hX]; rfl
            have zY : Y.size = 1 := by rw [← hY]; rfl
            have zTX : TX.size ≤ 21 := by rw [← hTX, ByteArray.size_append, zT, zX]; omega
            have zSY : SY.size ≤ 21 := by rw [← hSY, ByteArray.size_append, e1, zY]; omega
            have j1 : ¬ ((9223372036854775807 : Int) < (T.size : Int) + X.size) := by omega
            have j2 : ¬ ((9223372036854775807 : Int) < (s.size : Int) + Y.size) := by omega
            have j3 : ¬ (9223372036854775807 < T.size + X.size) := by omega
            have j4 : ¬ (9223372036854775807 < s.size + Y.size) := by omega
            obtain ⟨S, hS⟩ : ∃ S, gs.any id = S := ⟨_, rfl⟩
            rw [hS] at hPS ⊢
            obtain ⟨want, hwant⟩ : ∃ want : Int, (if S then -1 else 0) = want := ⟨_, rfl⟩
            have Tw : Ux.Touch (fun _ => False) w wr := H8.out.2.1.trans (R := fun _ => False) HJ.out.2.2.2.2 fun b hb h => by have := H8.out.2.2.2.2; omega
            have HE := Lib.hid (And.intro hP26 (And.intro hPS (And.intro hes (And.intro het (And.intro hetx (And.intro hesy (And.intro hx25 (And.intro zT (And.intro zTX (And.intro zSY Tw))))))))))
            have HCX := Lib.hid (And.intro f1 (And.intro f2 (And.intro f3 (And.intro f4 (And.intro f5 f6)))))
            have HQ0 := Lib.hid hq
            clear hC hgl hll hCn dT hx hP26 hPS hes het hetx hesy hx25 zT zX zY zTX zSY hX hY hT hS f1 f2 f3 f4 f5 f6 hq Tw
            obtain ⟨v0, hv0⟩ : ∃ v0, wr.cell? ⟨g, 0, none⟩ = some v0 := by
              obtain ⟨b, hb⟩ : ∃ b, s.data.toList[0]? = some b := ⟨_, List.getElem?_eq_getElem (by have := H8.out.2.2.2.1; omega)⟩
              exact ⟨_, by rw [cell_of_row wr g 0 _ _ _ HJ.out.2.2.1]; exact HJ.out.2.2.2.1 0 b hb⟩
            have HV0 := Lib.hid fun W (T : Ux.Touch (fun _ => False) wr W) => T.cell hv0 (fun f => f)
            clear hv0
            have hw2 : (S = true ∧ want = -1) ∨ (S = false ∧ want = 0) := by
              rw [← hwant]
              cases S
              · exact .inr ⟨rfl, rfl⟩
              · exact .inl ⟨rfl, rfl⟩
            have hwant' : (if P.any (·.2) then (-1 : Int) else 0) = want := by rw [HE.out.2.1]; exact hwant
            have HCW : Hid (∀ p : Addr, cmpC 3 3 false false (some p) rootE s T = want) := Lib.hid fun p => (cmpC3 3 (by omega) false false p rootE _ _).trans (by rw [HE.out.2.2.1, HE.out.2.2.2.1]; exact (Ux.cases_three P HE.out.1).trans hwant')
            clear hwant hwant'
            rcases hw2 with ⟨rfl, rfl⟩ | ⟨rfl, rfl⟩
            all_goals
              go_upto_region 20 with (fail)
              clear hback
              go_cut [13, 14] (fun s13 s14 wx => s13 = .string X ∧ s14 = .string Y ∧ Ux.Touch (fun _ => False) wr wx)
              case first =>
                have hv0 := HV0.out wr (Ux.Touch.refl _ _)
                have hq := HQ0.out
                obtain ⟨f1, f2, f3, f4, f5, f6⟩ := HCX.out
                refine Ux.wp_region_plan (fun _ w' => w'.cell? ⟨g, 0, none⟩ = some v0) (.q [0, 1, 2, 5, 6, 7] (.br 3 (.br 4 (.q [10] (.e 8 true true (.e 9 true true (.line [11])))) 8 (.br 4 (.q [10] (.e 9 true true (.line [11]))) 9 (.e 4 true true (.q [10] (.line [11]))))) 8 (.br 3 (.br 4 (.q [10] (.e 9 true true (.line [11]))) 9 (.e 4 true true (.q [10] (.line [11])))) 9 (.e 3 true true (.e 4 true true (.q [10] (.line [11])))))))
                  (by kernel_rfl) (by kernel_rfl) (by intro _ _ d _ _ h; cases d <;> exact h) ?hS ?_
                case hS => (intro c; cases c <;> (simp only [World.cell?_drew]; first | exact True.intro | (refine ⟨?_, ?_⟩ <;> assumption) | assumption | (repeat (first | assumption | (refine And.intro ?_ ?_)))))
                simp only [Ux.wpPlan, Ux.pickOps, Ux.keeps, List.getElem?_toArray, List.getElem?_cons_succ, List.getElem?_cons_zero]
                repeat (first
                  | go_big_quiet_step (fail)
                  | (with_reducible refine wpQuiet_nil ?_)
                  | (refine Ux.quiet_held rfl ?_; apply Exists.intro; refine ⟨fun w' hS => ?_, ?_⟩; (focus ((try dsimp only at hS); go_simp; first | done | with_reducible rfl)); simp only [Act.put, List.setIfInBounds_toArray, List.set_cons_zero, List.set_cons_succ]))
                refine ⟨?_, ?_⟩
                · go_wp2_with (fail)
                  first | refine ⟨⟨HV0.out _ (by repeat (first | exact Ux.Touch.refl _ _ | refine Ux.Touch.drew ?_ | refine Ux.Touch.alloc ?_ _)), HV0.out _ (by repeat (first | exact Ux.Touch.refl _ _ | refine Ux.Touch.drew ?_ | refine Ux.Touch.alloc ?_ _))⟩, ?_⟩ | refine ⟨HV0.out _ (by repeat (first | exact Ux.Touch.refl _ _ | refine Ux.Touch.drew ?_ | refine Ux.Touch.alloc ?_ _)), ?_⟩
                  refine ⟨?_, ?_⟩
                  · go_wp2_with (fail)
                    first | refine ⟨⟨HV0.out _ (by repeat (first | exact Ux.Touch.refl _ _ | refine Ux.Touch.drew ?_ | refine Ux.Touch.alloc ?_ _)), HV0.out _ (by repeat (first | exact Ux.Touch.refl _ _ | refine Ux.Touch.drew ?_ | refine Ux.Touch.alloc ?_ _))⟩, ?_⟩ | refine ⟨HV0.out _ (by repeat (first | exact Ux.Touch.refl _ _ | refine Ux.Touch.drew ?_ | refine Ux.Touch.alloc ?_ _)), ?_⟩
                    repeat (first
                      | go_big_quiet_step (fail)
                      | (with_reducible refine wpQuiet_nil ?_)
                      | (refine Ux.quiet_held rfl ?_; apply Exists.intro; refine ⟨fun w' hS => ?_, ?_⟩; (focus ((try dsimp only at hS); go_simp; first | done | with_reducible rfl)); simp only [Act.put, List.setIfInBounds_toArray, List.set_cons_zero, List.set_cons_succ]))
                    go_wp2_with (fail)
                    first | refine ⟨⟨HV0.out _ (by repeat (first | exact Ux.Touch.refl _ _ | refine Ux.Touch.drew ?_ | refine Ux.Touch.alloc ?_ _)), HV0.out _ (by repeat (first | exact Ux.Touch.refl _ _ | refine Ux.Touch.drew ?_ | refine Ux.Touch.alloc ?_ _))⟩, ?_⟩ | refine ⟨HV0.out _ (by repeat (first | exact Ux.Touch.refl _ _ | refine Ux.Touch.drew ?_ | refine Ux.Touch.alloc ?_ _)), ?_⟩
                    go_wp2_with (fail)
                    first | refine ⟨⟨HV0.out _ (by repeat (first | exact Ux.Touch.refl _ _ | refine Ux.Touch.drew ?_ | refine Ux.Touch.alloc ?_ _)), HV0.out _ (by repeat (first | exact Ux.Touch.refl _ _ | refine Ux.Touch.drew ?_ | refine Ux.Touch.alloc ?_ _))⟩, ?_⟩ | refine ⟨HV0.out _ (by repeat (first | exact Ux.Touch.refl _ _ | refine Ux.Touch.drew ?_ | refine Ux.Touch.alloc ?_ _)), ?_⟩
                    go_wp2_with (fail)
                    go_meet
                    exact ⟨rfl, rfl, by repeat (first | exact Ux.Touch.refl _ _ | refine Ux.Touch.drew ?_ | refine Ux.Touch.alloc ?_ _)⟩
                  · go_wp2_with (fail)
                    first | refine ⟨⟨HV0.out _ (by repeat (first | exact Ux.Touch.refl _ _ | refine Ux.Touch.drew ?_ | refine Ux.Touch.alloc ?_ _)), HV0.out _ (by repeat (first | exact Ux.Touch.refl _ _ | refine Ux.Touch.drew ?_ | refine Ux.Touch.alloc ?_ _))⟩, ?_⟩ | refine ⟨HV0.out _ (by repeat (first | exact Ux.Touch.refl _ _ | refine Ux.Touch.drew ?_ | refine Ux.Touch.alloc ?_ _)), ?_⟩
                    refine ⟨?_, ?_⟩
                    · go_wp2_with (fail)
                      first | refine ⟨⟨HV0.out _ (by repeat (first | exact Ux.Touch.refl _ _ | refine Ux.Touch.drew ?_ | refine Ux.Touch.alloc ?_ _)), HV0.out _ (by repeat (first | exact Ux.Touch.refl _ _ | refine Ux.Touch.drew ?_ | refine Ux.Touch.alloc ?_ _))⟩, ?_⟩ | refine ⟨HV0.out _ (by repeat (first | exact Ux.Touch.refl _ _ | refine Ux.Touch.drew ?_ | refine Ux.Touch.alloc ?_ _)), ?_⟩
                      repeat (first
                        | go_big_quiet_step (fail)
                        | (with_reducible refine wpQuiet_nil ?_)
                        | (refine Ux.quiet_held rfl ?_; apply Exists.intro; refine ⟨fun w' hS => ?_, ?_⟩; (focus ((try dsimp only at hS); go_simp; first | done | with_reducible rfl)); simp only [Act.put, List.setIfInBounds_toArray, List.set_cons_zero, List.set_cons_succ]))
                      go_wp2_with (fail)
                      first | refine ⟨⟨HV0.out _ (by repeat (first | exact Ux.Touch.refl _ _ | refine Ux.Touch.drew ?_ | refine Ux.Touch.alloc ?_ _)), HV0.out _ (by repeat (first | exact Ux.Touch.refl _ _ | refine Ux.Touch.drew ?_ | refine Ux.Touch.alloc ?_ _))⟩, ?_⟩ | refine ⟨HV0.out _ (by repeat (first | exact Ux.Touch.refl _ _ | refine Ux.Touch.drew ?_ | refine Ux.Touch.alloc ?_ _)), ?_⟩
                      go_wp2_with (fail)
                      go_meet
                      exact ⟨rfl, rfl, by repeat (first | exact Ux.Touch.refl _ _ | refine Ux.Touch.drew ?_ | refine Ux.Touch.alloc ?_ _)⟩
                    · go_wp2_with (fail)
                      first | refine ⟨⟨HV0.out _ (by repeat (first | exact Ux.Touch.refl _ _ | refine Ux.Touch.drew ?_ | refine Ux.Touch.alloc ?_ _)), HV0.out _ (by repeat (first | exact Ux.Touch.refl _ _ | refine Ux.Touch.drew ?_ | refine Ux.Touch.alloc ?_ _))⟩, ?_⟩ | refine ⟨HV0.out _ (by repeat (first | exact Ux.Touch.refl _ _ | refine Ux.Touch.drew ?_ | refine Ux.Touch.alloc ?_ _)), ?_⟩
                      go_wp2_with (fail)
                      first | refine ⟨⟨HV0.out _ (by repeat (first | exact Ux.Touch.refl _ _ | refine Ux.Touch.drew ?_ | refine Ux.Touch.alloc ?_ _)), HV0.out _ (by repeat (first | exact Ux.Touch.refl _ _ | refine Ux.Touch.drew ?_ | refine Ux.Touch.alloc ?_ _))⟩, ?_⟩ | refine ⟨HV0.out _ (by repeat (first | exact Ux.Touch.refl _ _ | refine Ux.Touch.drew ?_ | refine Ux.Touch.alloc ?_ _)), ?_⟩
                      repeat (first
                        | go_big_quiet_step (fail)
                        | (with_reducible refine wpQuiet_nil ?_)
                        | (refine Ux.quiet_held rfl ?_; apply Exists.intro; refine ⟨fun w' hS => ?_, ?_⟩; (focus ((try dsimp only at hS); go_simp; first | done | with_reducible rfl)); simp only [Act.put, List.setIfInBounds_toArray, List.set_cons_zero, List.set_cons_succ]))
                      go_wp2_with (fail)
                      go_meet
                      exact ⟨rfl, rfl, by repeat (first | exact Ux.Touch.refl _ _ | refine Ux.Touch.drew ?_ | refine Ux.Touch.alloc ?_ _)⟩
                · go_wp2_with (fail)
                  first | refine ⟨⟨HV0.out _ (by repeat (first | exact Ux.Touch.refl _ _ | refine Ux.Touch.drew ?_ | refine Ux.Touch.alloc ?_ _)), HV0.out _ (by repeat (first | exact Ux.Touch.refl _ _ | refine Ux.Touch.drew ?_ | refine Ux.Touch.alloc ?_ _))⟩, ?_⟩ | refine ⟨HV0.out _ (by repeat (first | exact Ux.Touch.refl _ _ | refine Ux.Touch.drew ?_ | refine Ux.Touch.alloc ?_ _)), ?_⟩
                  refine ⟨?_, ?_⟩
                  · go_wp2_with (fail)
                    first | refine ⟨⟨HV0.out _ (by repeat (first | exact Ux.Touch.refl _ _ | refine Ux.Touch.drew ?_ | refine Ux.Touch.alloc ?_ _)), HV0.out _ (by repeat (first | exact Ux.Touch.refl _ _ | refine Ux.Touch.drew ?_ | refine Ux.Touch.alloc ?_ _))⟩, ?_⟩ | refine ⟨HV0.out _ (by repeat (first | exact Ux.Touch.refl _ _ | refine Ux.Touch.drew ?_ | refine Ux.Touch.alloc ?_ _)), ?_⟩
                    refine ⟨?_, ?_⟩
                    · go_wp2_with (fail)
                      first | refine ⟨⟨HV0.out _ (by repeat (first | exact Ux.Touch.refl _ _ | refine Ux.Touch.drew ?_ | refine Ux.Touch.alloc ?_ _)), HV0.out _ (by repeat (first | exact Ux.Touch.refl _ _ | refine Ux.Touch.drew ?_ | refine Ux.Touch.alloc ?_ _))⟩, ?_⟩ | refine ⟨HV0.out _ (by repeat (first | exact Ux.Touch.refl _ _ | refine Ux.Touch.drew ?_ | refine Ux.Touch.alloc ?_ _)), ?_⟩
                      repeat (first
                        | go_big_quiet_step (fail)
                        | (with_reducible refine wpQuiet_nil ?_)
                        | (refine Ux.quiet_held rfl ?_; apply Exists.intro; refine ⟨fun w' hS => ?_, ?_⟩; (focus ((try dsimp only at hS); go_simp; first | done | with_reducible rfl)); simp only [Act.put, List.setIfInBounds_toArray, List.set_cons_zero, List.set_cons_succ]))
                      go_wp2_with (fail)
                      first | refine ⟨⟨HV0.out _ (by repeat (first | exact Ux.Touch.refl _ _ | refine Ux.Touch.drew ?_ | refine Ux.Touch.alloc ?_ _)), HV0.out _ (by repeat (first | exact Ux.Touch.refl _ _ | refine Ux.Touch.drew ?_ | refine Ux.Touch.alloc ?_ _))⟩, ?_⟩ | refine ⟨HV0.out _ (by repeat (first | exact Ux.Touch.refl _ _ | refine Ux.Touch.drew ?_ | refine Ux.Touch.alloc ?_ _)), ?_⟩
                      go_wp2_with (fail)
                      go_meet
                      exact ⟨rfl, rfl, by repeat (first | exact Ux.Touch.refl _ _ | refine Ux.Touch.drew ?_ | refine Ux.Touch.alloc ?_ _)⟩
                    · go_wp2_with (fail)
                      first | refine ⟨⟨HV0.out _ (by repeat (first | exact Ux.Touch.refl _ _ | refine Ux.Touch.drew ?_ | refine Ux.Touch.alloc ?_ _)), HV0.out _ (by repeat (first | exact Ux.Touch.refl _ _ | refine Ux.Touch.drew ?_ | refine Ux.Touch.alloc ?_ _))⟩, ?_⟩ | refine ⟨HV0.out _ (by repeat (first | exact Ux.Touch.refl _ _ | refine Ux.Touch.drew ?_ | refine Ux.Touch.alloc ?_ _)), ?_⟩
                      go_wp2_with (fail)
                      first | refine ⟨⟨HV0.out _ (by repeat (first | exact Ux.Touch.refl _ _ | refine Ux.Touch.drew ?_ | refine Ux.Touch.alloc ?_ _)), HV0.out _ (by repeat (first | exact Ux.Touch.refl _ _ | refine Ux.Touch.drew ?_ | refine Ux.Touch.alloc ?_ _))⟩, ?_⟩ | refine ⟨HV0.out _ (by repeat (first | exact Ux.Touch.refl _ _ | refine Ux.Touch.drew ?_ | refine Ux.Touch.alloc ?_ _)), ?_⟩
                      repeat (first
                        | go_big_quiet_step (fail)
                        | (with_reducible refine wpQuiet_nil ?_)
                        | (refine Ux.quiet_held rfl ?_; apply Exists.intro; refine ⟨fun w' hS => ?_, ?_⟩; (focus ((try dsimp only at hS); go_simp; first | done | with_reducible rfl)); simp only [Act.put, List.setIfInBounds_toArray, List.set_cons_zero, List.set_cons_succ]))
                      go_wp2_with (fail)
                      go_meet
                      exact ⟨rfl, rfl, by repeat (first | exact Ux.Touch.refl _ _ | refine Ux.Touch.drew ?_ | refine Ux.Touch.alloc ?_ _)⟩
                  · go_wp2_with (fail)
                    first | refine ⟨⟨HV0.out _ (by repeat (first | exact Ux.Touch.refl _ _ | refine Ux.Touch.drew ?_ | refine Ux.Touch.alloc ?_ _)), HV0.out _ (by repeat (first | exact Ux.Touch.refl _ _ | refine Ux.Touch.drew ?_ | refine Ux.Touch.alloc ?_ _))⟩, ?_⟩ | refine ⟨HV0.out _ (by repeat (first | exact Ux.Touch.refl _ _ | refine Ux.Touch.drew ?_ | refine Ux.Touch.alloc ?_ _)), ?_⟩
                    go_wp2_with (fail)
                    first | refine ⟨⟨HV0.out _ (by repeat (first | exact Ux.Touch.refl _ _ | refine Ux.Touch.drew ?_ | refine Ux.Touch.alloc ?_ _)), HV0.out _ (by repeat (first | exact Ux.Touch.refl _ _ | refine Ux.Touch.drew ?_ | refine Ux.Touch.alloc ?_ _))⟩, ?_⟩ | refine ⟨HV0.out _ (by repeat (first | exact Ux.Touch.refl _ _ | refine Ux.Touch.drew ?_ | refine Ux.Touch.alloc ?_ _)), ?_⟩
                    go_wp2_with (fail)
                    first | refine ⟨⟨HV0.out _ (by repeat (first | exact Ux.Touch.refl _ _ | refine Ux.Touch.drew ?_ | refine Ux.Touch.alloc ?_ _)), HV0.out _ (by repeat (first | exact Ux.Touch.refl _ _ | refine Ux.Touch.drew ?_ | refine Ux.Touch.alloc ?_ _))⟩, ?_⟩ | refine ⟨HV0.out _ (by repeat (first | exact Ux.Touch.refl _ _ | refine Ux.Touch.drew ?_ | refine Ux.Touch.alloc ?_ _)), ?_⟩
                    repeat (first
                      | go_big_quiet_step (fail)
                      | (with_reducible refine wpQuiet_nil ?_)
                      | (refine Ux.quiet_held rfl ?_; apply Exists.intro; refine ⟨fun w' hS => ?_, ?_⟩; (focus ((try dsimp only at hS); go_simp; first | done | with_reducible rfl)); simp only [Act.put, List.setIfInBounds_toArray, List.set_cons_zero, List.set_cons_succ]))
                    go_wp2_with (fail)
                    go_meet
                    exact ⟨rfl, rfl, by repeat (first | exact Ux.Touch.refl _ _ | refine Ux.Touch.drew ?_ | refine Ux.Touch.alloc ?_ _)⟩
              obtain ⟨rfl, rfl, Tc⟩ := hcut
              have HTc := Lib.hid (HE.out.2.2.2.2.2.2.2.2.2.2.trans Tc fun _ _ f => f)
              clear Tc
              have HR := Lib.hid fun (lv : Int) W => croot_ lv false false W
              have c1 : ∀ p : Addr, cmpC 3 2 false false (some p) rootE s T = 0 := fun p => (cmpC3 2 (by omega) false false p rootE _ _).trans (by rw [HE.out.2.2.1, HE.out.2.2.2.1]; exact Ux.cases_two P HE.out.1)
              have c2 := HCW.out
              have c3 : ∀ p : Addr, cmpC 3 3 false false (some p) rootE TX SY = -1 := fun p => (cmpC3 3 (by omega) false false p rootE _ _).trans (by rw [HE.out.2.2.2.2.1, HE.out.2.2.2.2.2.1]; exact Ux.cases_more P HE.out.1 x HE.out.2.2.2.2.2.2.1)
              have HCC := Lib.hid (And.intro c1 (And.intro c2 c3))
              clear c1 c2 c3
              go_wp2_with (go_at_call 16; fail)
              refine (HR.out 2 _).mono ?_
              rintro e w5 ⟨B1, mb1, rfl, hT1, T1⟩
              have m5 := ccmp_ 3 2 false false (some ⟨B1, 0, none⟩) rootE s T w5 (fun _ p hp => by cases hp; exact ⟨B1, mb1, rfl, hT1⟩) (HT.out.touch (HTc.out.trans T1 fun _ _ f => f)) (by omega) (by have := HE.out.2.2.2.2.2.2.2.1; omega)
              rw [HCC.out.1] at m5
              have M5 := Lib.hid m5
              have H5 := Lib.hid (HTc.out.trans T1 fun _ _ f => f)
              clear hT1 T1 m5
              go_wp2_with (go_at_call 17; fail)
              refine M5.out.mono ?_
              rintro e w6 ⟨rfl, T6⟩
              have H6 := Lib.hid (H5.out.trans T6 fun _ _ f => f)
              clear T6 M5
              go_wp2_with (go_at_call 16; fail)
              refine (HR.out 3 _).mono ?_
              rintro e w7 ⟨B2, mb2, rfl, hT2, T2⟩
              have m7 := ccmp_ 3 3 false false (some ⟨B2, 0, none⟩) rootE s T w7 (fun _ p hp => by cases hp; exact ⟨B2, mb2, rfl, hT2⟩) (HT.out.touch (H6.out.trans T2 fun _ _ f => f)) (by omega) (by have := HE.out.2.2.2.2.2.2.2.1; omega)
              rw [HCC.out.2.1] at m7
              have M7 := Lib.hid m7
              have H7 := Lib.hid (H6.out.trans T2 fun _ _ f => f)
              clear hT2 T2 m7
              go_wp2_with (go_at_call 17; fail)
              refine M7.out.mono ?_
              rintro e w8 ⟨rfl, T8⟩
              have H8b := Lib.hid (H7.out.trans T8 fun _ _ f => f)
              clear T8 M7
              go_wp2_with (go_at_call 16; fail)
              refine (HR.out 3 _).mono ?_
              rintro e w9 ⟨B3, mb3, rfl, hT3, T3⟩
              have m9 := ccmp_ 3 3 false false (some ⟨B3, 0, none⟩) rootE TX SY w9 (fun _ p hp => by cases hp; exact ⟨B3, mb3, rfl, hT3⟩) (HT.out.touch (H8b.out.trans T3 fun _ _ f => f)) (by have := HE.out.2.2.2.2.2.2.2.2.1; omega) (by have := HE.out.2.2.2.2.2.2.2.2.2.1; omega)
              rw [HCC.out.2.2] at m9
              have M9 := Lib.hid m9
              have H9 := Lib.hid (H8b.out.trans T3 fun _ _ f => f)
              clear hT3 T3 m9
              go_wp2_with (go_at_call 17; fail)
              refine M9.out.mono ?_
              rintro e wa ⟨rfl, Ta⟩
              have Ha := Lib.hid (H9.out.trans Ta fun _ _ f => f)
              clear Ta M9
              go_wp2_with (go_at_call 15; fail)
              refine (AW.out wa Ha.out).mono ?_
              rintro e wb ⟨rfl, Tb⟩
              have Hb := Lib.hid (Ha.out.trans Tb fun _ _ f => f)
              clear Tb
              go_wp2
              go_returns
              exact ⟨rfl, Hb.out⟩

end Go.Proofs.YtgpcpolcolgkdaaGreatDoor
