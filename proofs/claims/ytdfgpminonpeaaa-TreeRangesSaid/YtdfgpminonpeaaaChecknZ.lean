/- PART OF THE PROOF THAT THIS CLAIM HOLDS OF THE GIVEN PROGRAM, FOR EVERY INPUT THAT THE STATEMENT NAMES. No condition besides the statement's own. -/
import Derived.Test.YtdfgpminonpeaaaCheckZ
import Derived.Test.YtdfgpminonpeaaaRows
import Derived.WalkKit
import Derived.Handy
import Derived.Laws.EntriesVeiled
import Derived.WalkSpells
import Derived.WalkLawsBesides
import Derived.BigQuiet
import Derived.Deep.QuietTactic
import Derived.Deep.Cut
import Derived.Lib.Overlaps
import Derived.Laws.Externs
import Derived.Lib.Hide
import Derived.Test.YtdfgpminonpeaaaUxPlanAllZ
import Derived.Test.YtdfgpminonpeaaaUxTreeAllZ
import Derived.Deep.LoopGhost
namespace Go.Proofs.Ytdfgpminonpeaaa
open Go.RowKit
-- imports: YtdfgpminonpeaaaCheck
open Ux (slt lb has Rises T NodeAt NodesAt Shp wayN blk ptr flat flats keys ins Up FrAt after Pre)

/-- what Check's inner function says of a tree of g nodes on one another -/
def ChkSays (bt tb bo bd bs bl bn bc fan : Nat) (n : Int) (xr : Nat) (deep : Int) (g : Nat) : Prop :=
  ∀ (lev : Int) (st : Bool × ByteArray) (c : Int) (t : T) (x : Nat) (fp : List Nat) (w : World), ChkEnv w bt tb bo bd bs bl bn bc fan n xr deep st c → NodeAt w t x fp → (∀ b ∈ fp, b < bt ∧ b ≠ tb) → Ux.Good fan g t → t.size ≤ fan → (g = 0 ∨ 2 ≤ t.size) →
    (x = xr ∨ x ≠ xr ∧ fan / 2 ≤ t.size) → lev + g = deep → 1 ≤ lev → Up (flat t) → Pre st (flat t) → 0 ≤ c → c + (flat t).length ≤ 1048576 → (∃ cr, w.heap[xr]? = some (.cells cr 62 (0, 0))) →
    Calls Try.prog 38 #[.pointer (some ⟨x, 0, none⟩), .int .i64 lev, .pointer (some ⟨bt, 0, none⟩), .pointer (some ⟨bo, 0, none⟩), .pointer (some ⟨bd, 0, none⟩), .pointer (some ⟨bs, 0, none⟩), .pointer (some ⟨bl, 0, none⟩), .pointer (some ⟨bn, 0, none⟩), .pointer (some ⟨bc, 0, none⟩)] w
      (ChkPost w bt tb bo bd bs bl bn bc fan n xr deep st c (flat t))

set_option maxHeartbeats 4000000 in
set_option maxRecDepth 100000 in
theorem chk_node (bt tb bo bd bs bl bn bc fan : Nat) (n : Int) (xr : Nat) (deep lev : Int) (g : Nat) (ih : ChkSays bt tb bo bd bs bl bn bc fan n xr deep g) (st : Bool × ByteArray) (c : Int) (ks : List ByteArray) (cs : List T) (x : Nat) (fp : List Nat) (w : World) (hf4 : 4 ≤ fan) (hf64 : fan ≤ 64) (hdeep : deep ≤ 100) (hxb : xr < bt)
    (he : ChkEnv w bt tb bo bd bs bl bn bc fan n xr deep st c) (h : NodeAt w (.node ks cs) x fp) (hfp : ∀ b ∈ fp, b < bt ∧ b ≠ tb) (hg : Ux.Good fan (g + 1) (.node ks cs)) (hs : cs.length ≤ fan) (hs2 : 2 ≤ cs.length) (hr : x = xr ∨ x ≠ xr ∧ fan / 2 ≤ cs.length) (hlev : lev + (g + 1 : Nat) = deep) (hlev1 : 1 ≤ lev)
    (hup : Up (flats cs)) (hpre : Pre st (flats cs)) (hc0 : 0 ≤ c) (hc1 : c + (flats cs).length ≤ 1048576)
    (cr : Array Value) (hxr : w.heap[xr]? = some (.cells cr 62 (0, 0))) :
    Calls Try.prog 38 #[.pointer (some ⟨x, 0, none⟩), .int .i64 lev, .pointer (some ⟨bt, 0, none⟩), .pointer (some ⟨bo, 0, none⟩), .pointer (some ⟨bd, 0, none⟩), .pointer (some ⟨bs, 0, none⟩), .pointer (some ⟨bl, 0, none⟩), .pointer (some ⟨bn, 0, none⟩), .pointer (some ⟨bc, 0, none⟩)] w
      (ChkPost w bt tb bo bd bs bl bn bc fan n xr deep st c (flats cs)) := by
  have SZ := size34 w.drew (h.touch (Ux.Touch.refl (fun _ => False) w).drew (fun _ _ f => f)) (Ux.Good.shp hg)
  have HFR := Lib.hid (show FrAt w fp (.node ks cs) x from ⟨fp, h, fun _ hb => hb⟩)
  obtain ⟨kv, cv, xs, fs, h1, h2, h3, h4, hfpe⟩ := h
  obtain ⟨z0, z1, z2, _⟩ := blk3 h1
  obtain ⟨a0, a1, a3, a2, a4, a5, a6, a7, a8⟩ := he.cells
  obtain ⟨fo, fs', fl, fn⟩ := he.free
  obtain ⟨N, hN⟩ : ∃ N, cs.length = N := ⟨_, rfl⟩
  obtain ⟨K, hK⟩ : ∃ K, ks.length = K := ⟨_, rfl⟩
  have hNK : N = K + 1 := by obtain ⟨_, _, e, h, _⟩ := hg; cases e; omega
  rw [show (T.node ks cs).size = cs.length from rfl, hN] at SZ
  obtain ⟨ka, kc, kcur, rfl, _, _, hkg, _, hktk⟩ := Ux.own_pos h2 (by omega)
  obtain ⟨ga, gc, gcur, rfl, _, _, hgg, _, hgtk⟩ := Ux.own_pos h3 (by omega)
  have hkey : ∀ i k, ks[i]? = some k → w.cell? ⟨ka, i, none⟩ = some (.string k) := fun i k hk => Ux.row_cell hkg hktk i _ (by rw [List.getElem?_map, hk]; rfl)
  have hkb := hfp ka (by rw [hfpe]; simp [blk, Value.ownBlock])
  have hgb := hfp ga (by rw [hfpe]; simp [blk, Value.ownBlock])
  have hxb' := hfp x (by rw [hfpe]; simp)
  rw [hN] at z2
  rw [hK] at z0
  have HSZ := Lib.hid SZ
  have HE := Lib.hid he
  have j0 : (N : Int) ≤ fan := by omega
  have j1 : (fan : Int) ≤ 64 := by omega
  have j2 : (4 : Int) ≤ fan := by omega
  have j3 : (1 : Int) < N := by omega
  have j4 : (1 : Int) ≤ lev := hlev1
  have j5 : lev ≤ 100 := by omega
  have q1 : decide (fan < N) = false := by simp; omega
  have j6 : (K : Int) ≤ 64 := by omega
  have j7 : (0 : Int) ≤ K := by omega
  have q4 : ((N : Int) == (K : Int) + 1) = true := by simp; omega
  have HKEY := Lib.hid hkey
  have HZ2 := Lib.hid z2
  have HZ0 := Lib.hid z0
  have HH := Lib.hid (And.intro h1 (And.intro hfp (And.intro hup (And.intro hpre (And.intro hN (And.intro hK (And.intro hNK (And.intro hg (And.intro hc1 (And.intro hlev (And.intro hkb (And.intro hgb hxb'))))))))))))
  have y1 : ¬ x = bo := by have := HE.out.ord; omega
  have y2 : ¬ bo = x := by omega
  clear SZ h1 h2 h3 h4 hfpe hfp hup hpre he hs hkey hg hN hK hNK hc1 hlev hlev1 hkb hgb hxb' hs2
  have START : ChkEnv (w.setCell ⟨bo, 0, none⟩ (.bool true)).drew.drew bt tb bo bd bs bl bn bc fan n xr deep st c ∧ Ux.Touch (fun b => b = bo ∨ b = bs ∨ b = bl ∨ b = bn) w (w.setCell ⟨bo, 0, none⟩ (.bool true)).drew.drew :=
    ⟨HE.out.setOk.drew.drew, (((Ux.Touch.refl _ w).setCell (p := ⟨bo, 0, none⟩) (fun _ => .inl rfl) _).drew).drew⟩
  have HS := Lib.hid START
  have HXR := Lib.hid (And.intro hxb (show ∃ cr, w.heap[xr]? = some (.cells cr 62 (0, 0)) from ⟨cr, hxr⟩))
  clear START
  rcases hr with hr | ⟨hx, hr⟩
  · subst hr
    have NE := neq_same x
    go_enter Try.func38, Try.ntmps38
    go_wp2_with fail
    refine Ux.wp_region_plan (fun _ w' => w'.cell? ⟨bt, 0, none⟩ = some (.pointer (some ⟨tb, 0, none⟩)) ∧ w'.cell? ⟨tb, 0, none⟩ = some (.int .i64 fan) ∧ w'.cell? ⟨tb, 2, none⟩ = some (.pointer (some ⟨x, 0, none⟩))) (.q [0] (.h false [2] (.q [3, 4] (.h false [5] (.e 1 true false (.q [6, 7, 8] (.h false [9] (.q [10, 11] (.h false [12] (.q [13, 14, 15] (.h false [17] (.q [18, 19] (.h false [20] (.q [21] (.e 16 true false (.q [22, 23, 24] (.line [])))))))))))))))))
      (by kernel_rfl) (by kernel_rfl) (by intro _ _ d _ _ h; cases d <;> exact h) ?hS ?_
    case hS => (intro c; cases c <;> (simp only [World.cell?_drew]; first | exact True.intro | (refine ⟨?_, ?_⟩ <;> assumption) | assumption | (repeat (first | assumption | (refine And.intro ?_ ?_)))))
    simp only [Ux.wpPlan, Ux.pickOps, Ux.keeps, List.getElem?_toArray, List.getElem?_cons_succ, List.getElem?_cons_zero]
    repeat (first
      | go_big_quiet_step (fail)
      | (with_reducible refine wpQuiet_nil ?_)
      | (refine Ux.quiet_held rfl ?_; apply Exists.intro; refine ⟨fun w' hS => ?_, ?_⟩; (focus ((try dsimp only at hS); go_simp; first | done | with_reducible rfl)); simp only [Act.put, List.setIfInBounds_toArray, List.set_cons_zero, List.set_cons_succ]))
    go_wp2_with (go_at_call 34; refine HSZ.out.mono ?_; rintro e w4 ⟨rfl, rfl⟩)
    refine ⟨⟨a0, a1, a2⟩, ?_⟩
    repeat (first
      | go_big_quiet_step (fail)
      | (with_reducible refine wpQuiet_nil ?_)
      | (refine Ux.quiet_held rfl ?_; apply Exists.intro; refine ⟨fun w' hS => ?_, ?_⟩; (focus ((try dsimp only at hS); go_simp; first | done | with_reducible rfl)); simp only [Act.put, List.setIfInBounds_toArray, List.set_cons_zero, List.set_cons_succ]))
    go_wp2_with (fail)
    refine ⟨⟨a0, a1, a2⟩, ?_⟩
    repeat (first
      | go_big_quiet_step (fail)
      | (with_reducible refine wpQuiet_nil ?_)
      | (refine Ux.quiet_held rfl ?_; apply Exists.intro; refine ⟨fun w' hS => ?_, ?_⟩; (focus ((try dsimp only at hS); go_simp; first | done | with_reducible rfl)); simp only [Act.put, List.setIfInBounds_toArray, List.set_cons_zero, List.set_cons_succ]))
    go_wp2_with (fail)
    refine Ux.wp_region_plan (fun _ w' => w'.cell? ⟨bo, 0, none⟩ = some (.bool true) ∧ w'.cell? ⟨x, 2, none⟩ = some (.slice (some ⟨ga, 0, none⟩) N gc) ∧ w'.cell? ⟨x, 0, none⟩ = some (.slice (some ⟨ka, 0, none⟩) K kc)) (.h false [0] (.q [1, 2, 3, 4, 7, 8, 9] (.h false [5, 10] (.q [6, 11, 12, 13, 14, 15, 16, 17, 18] (.h false [19] (.q [20, 21, 22] (.line [23])))))))
      (by kernel_rfl) (by kernel_rfl) (by intro _ _ d _ _ h; cases d <;> exact h) ?hS ?_
    case hS => (intro c; cases c <;> (simp only [World.cell?_drew]; first | exact True.intro | (refine ⟨?_, ?_⟩ <;> assumption) | assumption | (repeat (first | assumption | (refine And.intro ?_ ?_)))))
    simp only [Ux.wpPlan, Ux.pickOps, Ux.keeps, List.getElem?_toArray, List.getElem?_cons_succ, List.getElem?_cons_zero]
    repeat (first
      | go_big_quiet_step (fail)
      | (with_reducible refine wpQuiet_nil ?_)
      | (refine Ux.quiet_held rfl ?_; apply Exists.intro; refine ⟨fun w' hS => ?_, ?_⟩; (focus ((try dsimp only at hS); go_simp; first | done | with_reducible rfl)); simp only [Act.put, List.setIfInBounds_toArray, List.set_cons_zero, List.set_cons_succ]))
    go_wp2_with (fail)
    go_loopg [122] N (fun g s122 wr => ∃ i : Nat, s122 = .int .i64 i ∧ i + g = N ∧ ChkEnv wr bt tb bo bd bs bl bn bc fan n x deep (after st (flats (cs.take i))) (c + (flats (cs.take i)).length) ∧ Ux.Touch (fun b => b = bo ∨ b = bs ∨ b = bl ∨ b = bn) w wr)
    case atStart => exact ⟨0, rfl, by omega, by simpa [Ux.after_nil, flats, Ux.flats] using HS.out.1, HS.out.2⟩
    case round =>
      clear a0 a1 a2 a3 a4 a5 a6 a7 a8 fo fs' fl fn z1 z2 NE q1 q4 y1 y2 HSZ 
      obtain ⟨i, rfl, hig, k1, k2⟩ := hrel
      rcases Nat.eq_zero_or_pos gk with h0 | h0
      · subst h0
        obtain rfl : i = N := by omega
        have HK := Lib.hid (And.intro k1 k2)
        have HM := Lib.hid HH.out.2.2.2.2.1
        clear k1 k2 hig
        go_wp2
        go_returns
        refine ⟨rfl, ?_, HK.out.2⟩
        have := HK.out.1
        rw [List.take_of_length_le (by rw [HM.out]; exact Nat.le_refl _)] at this
        exact this
      · obtain ⟨g', rfl⟩ : ∃ g', gk = g' + 1 := ⟨gk - 1, by omega⟩
        have hil : i < cs.length := by rw [HH.out.2.2.2.2.1]; omega
        obtain ⟨ch, hc⟩ : ∃ ch, cs[i]? = some ch := ⟨cs[i], List.getElem?_eq_getElem hil⟩
        obtain ⟨gx, cx, z, m0, m1, hz, m3, m4, hxF, hgF⟩ := HFR.out.kid hc
        have hord := HE.out.ord
        have hnb : ∀ b, b < bt → ¬ (b = bo ∨ b = bs ∨ b = bl ∨ b = bn) := fun b hb h => by rcases h with h | h | h | h <;> omega
        have hga : gx = ga := by
          have e := HZ2.out.symm.trans m0
          simp at e
          exact e.1.symm
        subst hga
        have hgb := HH.out.2.2.2.2.2.2.2.2.2.2.2.1
        have hkb := HH.out.2.2.2.2.2.2.2.2.2.2.1
        have hxb' := HH.out.2.2.2.2.2.2.2.2.2.2.2.2
        have m1' := k2.cell m1 (hnb gx hgb.1)
        obtain ⟨fz, hnz, hfz⟩ := hz.touch k2 (fun b hb => hnb b (HH.out.2.1 b hb).1)
        have hg := HH.out.2.2.2.2.2.2.2.1
        obtain ⟨ks', cs', e, hl, hsep, h3⟩ := hg
        cases e
        obtain ⟨gch, zc1, zc2⟩ := h3 ch (List.mem_of_getElem? hc)
        have hsp := Ux.flats_split hc
        have hup := HH.out.2.2.1
        have hpre := HH.out.2.2.2.1
        rw [hsp] at hup hpre
        have PR := Ux.pre_after hpre hup
        have hupc := (Ux.up_append (Ux.up_append hup).2).1
        have hlen : (flats cs).length = (flats (cs.take i)).length + ((flat ch).length + (flats (cs.drop (i + 1))).length) := by rw [hsp]; simp
        have hc1 := HH.out.2.2.2.2.2.2.2.2.1
        obtain ⟨cr', hcr⟩ := HXR.out.2
        have CALL := ih (lev + 1) (after st (flats (cs.take i))) (c + (flats (cs.take i)).length) ch z fz wr k1 hnz (fun b hb => HH.out.2.1 b (hfz b hb)) gch zc2 (.inr (by omega)) (if hzx : z = x then .inl hzx else .inr ⟨hzx, zc1⟩) (by have := HH.out.2.2.2.2.2.2.2.2.2.1; omega) (by omega) hupc (Ux.pre_left PR) (by omega) (by omega) ⟨cr', k2.heap hcr (hnb _ HXR.out.1)⟩
        have hnext : flats (cs.take (i + 1)) = flats (cs.take i) ++ flat ch := by
          rw [List.take_add_one, hc, Ux.flats_append]
          simp [Ux.flats]
        obtain ⟨q, hq⟩ : ∃ q, (flat ch).getLast? = some q := by
          obtain ⟨p, hp⟩ := Ux.good_some hf4 gch (by omega)
          cases hh : (flat ch).getLast? with
          | none => rw [List.getLast?_eq_none_iff] at hh; rw [hh] at hp; cases hp
          | some q => exact ⟨q, rfl⟩
        have hst : after (after st (flats (cs.take i))) (flat ch) = (true, q.1) := by
          unfold Ux.after
          rw [hq]
        have hqm := List.mem_of_getLast? hq
        have cb' : wr.cell? ⟨bc, 0, none⟩ = some (.func (.func 38) #[] #[.pointer (some ⟨bt, 0, none⟩), .pointer (some ⟨bo, 0, none⟩), .pointer (some ⟨bd, 0, none⟩), .pointer (some ⟨bs, 0, none⟩), .pointer (some ⟨bl, 0, none⟩), .pointer (some ⟨bn, 0, none⟩), .pointer (some ⟨bc, 0, none⟩)]) := by rw [cell_of_row wr bc 0 _ 79 (0, 0) k1.chk]; rfl
        have p0 : (0 : Int) ≤ i := by omega
        have p1 : (i : Int) < N := by omega
        have HCALL := Lib.hid CALL
        have HK := Lib.hid (And.intro k1 k2)
        have HZ := Lib.hid (And.intro hst (And.intro hnext (And.intro hqm (And.intro hl (And.intro hsep (And.intro hc hnb))))))
        have HB := Lib.hid (And.intro hgb (And.intro hkb (And.intro hxb' hord)))
        clear CALL k1 k2 hst hnext hqm hl hsep hc hnb hgb hkb hxb' hord m0 m1 hz m3 m4 hxF hgF hnz hfz h3 gch zc1 zc2 hsp hup hpre PR hupc hlen hc1 hcr hq hil
        go_wp2_with (fail)
        refine HCALL.out.mono ?_
        rintro e w1 ⟨rfl, e1, t1⟩
        rw [HZ.out.1] at e1
        have hkf := HK.out.2.trans t1 (fun _ _ h => h)
        have hlen2 : c + ((flats (cs.take (i + 1))).length : Int) = c + ((flats (cs.take i)).length : Int) + ((flat ch).length : Int) := by rw [HZ.out.2.1, List.length_append]; omega
        have hnext2 : after st (flats (cs.take (i + 1))) = (true, q.1) := by rw [HZ.out.2.1, ← Ux.after_append, HZ.out.1]
        have c0' := hkf.cell HZ0.out (HZ.out.2.2.2.2.2.2 x HB.out.2.2.1.1)
        obtain ⟨_, _, _, _, b4, _, b6, b7, _⟩ := e1.cells
        have b6' : w1.cell? ⟨bs, 0, none⟩ = some (.bool true) := b6
        have b7' : w1.cell? ⟨bl, 0, none⟩ = some (.string q.1) := b7
        have fo1 := e1.free.1
        have E1 := Lib.hid (And.intro e1 hkf)
        have HLN := Lib.hid (And.intro hlen2 hnext2)
        clear e1 t1 hkf hlen2 hnext2 b6 b7 cb' m1' HCALL
        rcases Nat.lt_or_ge i K with hiK | hiK
        · have hs := HZ.out.2.2.2.2.1
          obtain ⟨s, hks⟩ : ∃ s, ks[i]? = some s := ⟨ks[i]'(by rw [HH.out.2.2.2.2.2.1]; exact hiK), List.getElem?_eq_getElem _⟩
          have hlt : slt q.1 s = true := (hs i s i ch hks HZ.out.2.2.2.2.2.1).1 (Nat.le_refl _) q HZ.out.2.2.1
          have hlt' : Op.bytesLess q.1.toList s.toList = true := hlt
          have d1 := E1.out.2.cell (HKEY.out i s hks) (HZ.out.2.2.2.2.2.2 ka HB.out.2.1.1)
          have p2 : (i : Int) < K := by omega
          have y1 : ¬ x = bo := by have := HB.out.2.2.1.1; have := HB.out.2.2.2; omega
          clear hs hks hlt hiK
          go_wp2_with (fail)
          refine Ux.wp_region_plan (fun _ w' => w'.cell? ⟨bo, 0, none⟩ = some (.bool true) ∧ w'.cell? ⟨bs, 0, none⟩ = some (.bool true) ∧ w'.cell? ⟨bl, 0, none⟩ = some (.string q.1) ∧ w'.cell? ⟨x, 0, none⟩ = some (.slice (some ⟨ka, 0, none⟩) K kc) ∧ w'.cell? ⟨ka, i, none⟩ = some (.string s)) (.h false [0] (.q [1] (.h false [2] (.q [3, 4, 6, 7, 8, 10] (.h false [5, 9] (.q [11] (.h false [12] (.q [13, 14, 15] (.line [16])))))))))
            (by kernel_rfl) (by kernel_rfl) (by intro _ _ d _ _ h; cases d <;> exact h) ?hS ?_
          case hS => (intro c; cases c <;> (simp only [World.cell?_drew]; first | exact True.intro | (refine ⟨?_, ?_⟩ <;> assumption) | assumption | (repeat (first | assumption | (refine And.intro ?_ ?_)))))
          simp only [Ux.wpPlan, Ux.pickOps, Ux.keeps, List.getElem?_toArray, List.getElem?_cons_succ, List.getElem?_cons_zero]
          repeat (first
            | go_big_quiet_step (fail)
            | (with_reducible refine wpQuiet_nil ?_)
            | (refine Ux.quiet_held rfl ?_; apply Exists.intro; refine ⟨fun w' hS => ?_, ?_⟩; (focus ((try dsimp only at hS); go_simp; first | done | with_reducible rfl)); simp only [Act.put, List.setIfInBounds_toArray, List.set_cons_zero, List.set_cons_succ]))
          go_wp2_with (fail)
          go_roundg g'
          case measure => omega
          case rel =>
            refine ⟨i + 1, by go_num, by omega, ?_, ?_⟩
            · rw [HLN.out.1, HLN.out.2]
              exact E1.out.1.setOk.drew
            · exact E1.out.2.trans (((Ux.Touch.refl (fun b => b = bo ∨ b = bs ∨ b = bl ∨ b = bn) w1).setCell (p := ⟨bo, 0, none⟩) (fun _ => .inl rfl) _).drew) (fun _ _ h => h)
        · have p2 : ¬ (i : Int) < K := by omega
          go_wp2_with (fail)
          go_roundg g'
          case measure => omega
          case rel =>
            refine ⟨i + 1, by go_num, by omega, ?_, E1.out.2⟩
            rw [HLN.out.1, HLN.out.2]
            exact E1.out.1
  · have NE := fun w' => neq_other x xr w' #[.slice (some ⟨ka, 0, none⟩) K kc, .slice none 0 0, .slice (some ⟨ga, 0, none⟩) N gc] cr hx
    have q2 : decide ((N : Int) < (fan : Int) / 2) = false := by have := HH.out.2.2.2.2.1; simp; omega
    have hx0 := HH.out.1
    rw [HH.out.2.2.2.2.2.1, HH.out.2.2.2.2.1] at hx0
    clear hx hr
    go_enter Try.func38, Try.ntmps38
    go_wp2_with fail
    refine Ux.wp_region_plan (fun _ w' => w'.cell? ⟨bt, 0, none⟩ = some (.pointer (some ⟨tb, 0, none⟩)) ∧ w'.cell? ⟨tb, 0, none⟩ = some (.int .i64 fan) ∧ w'.cell? ⟨tb, 2, none⟩ = some (.pointer (some ⟨xr, 0, none⟩)) ∧ w'.heap[x]? = some (.cells #[.slice (some ⟨ka, 0, none⟩) K kc, .slice none 0 0, .slice (some ⟨ga, 0, none⟩) N gc] 62 (0, 0)) ∧ w'.heap[xr]? = some (.cells cr 62 (0, 0))) (.q [0] (.h false [2] (.q [3, 4] (.h false [5] (.e 1 true false (.q [6, 7, 8] (.h false [9] (.q [10, 11] (.h false [12] (.h false [13] (.q [14, 15] (.h false [17] (.q [18, 19] (.h false [20] (.q [21] (.e 16 true false (.q [22, 23, 24] (.line []))))))))))))))))))
      (by kernel_rfl) (by kernel_rfl) (by intro _ _ d _ _ h; cases d <;> exact h) ?hS ?_
    case hS => (intro c; cases c <;> (simp only [World.cell?_drew]; first | exact True.intro | (refine ⟨?_, ?_⟩ <;> assumption) | assumption | (repeat (first | assumption | (refine And.intro ?_ ?_)))))
    simp only [Ux.wpPlan, Ux.pickOps, Ux.keeps, List.getElem?_toArray, List.getElem?_cons_succ, List.getElem?_cons_zero]
    repeat (first
      | go_big_quiet_step (fail)
      | (with_reducible refine wpQuiet_nil ?_)
      | (refine Ux.quiet_held rfl ?_; apply Exists.intro; refine ⟨fun w' hS => ?_, ?_⟩; (focus ((try dsimp only at hS); go_simp; first | done | with_reducible rfl)); simp only [Act.put, List.setIfInBounds_toArray, List.set_cons_zero, List.set_cons_succ]))
    go_wp2_with (go_at_call 34; refine HSZ.out.mono ?_; rintro e w4 ⟨rfl, rfl⟩)
    refine ⟨⟨a0, a1, a2, hx0, hxr⟩, ?_⟩
    repeat (first
      | go_big_quiet_step (fail)
      | (with_reducible refine wpQuiet_nil ?_)
      | (refine Ux.quiet_held rfl ?_; apply Exists.intro; refine ⟨fun w' hS => ?_, ?_⟩; (focus ((try dsimp only at hS); go_simp; first | done | with_reducible rfl)); simp only [Act.put, List.setIfInBounds_toArray, List.set_cons_zero, List.set_cons_succ]))
    go_wp2_with (go_at_call 34; refine HSZ.out.mono ?_; rintro e w4 ⟨rfl, rfl⟩)
    refine ⟨⟨a0, a1, a2, hx0, hxr⟩, ?_⟩
    repeat (first
      | go_big_quiet_step (fail)
      | (with_reducible refine wpQuiet_nil ?_)
      | (refine Ux.quiet_held rfl ?_; apply Exists.intro; refine ⟨fun w' hS => ?_, ?_⟩; (focus ((try dsimp only at hS); go_simp; first | done | with_reducible rfl)); simp only [Act.put, List.setIfInBounds_toArray, List.set_cons_zero, List.set_cons_succ]))
    go_wp2_with (fail)
    refine Ux.wp_region_plan (fun _ w' => w'.cell? ⟨bo, 0, none⟩ = some (.bool true) ∧ w'.cell? ⟨x, 2, none⟩ = some (.slice (some ⟨ga, 0, none⟩) N gc) ∧ w'.cell? ⟨x, 0, none⟩ = some (.slice (some ⟨ka, 0, none⟩) K kc)) (.h false [0] (.q [1, 2, 3, 4, 7, 8, 9] (.h false [5, 10] (.q [6, 11, 12, 13, 14, 15, 16, 17, 18] (.h false [19] (.q [20, 21, 22] (.line [23])))))))
      (by kernel_rfl) (by kernel_rfl) (by intro _ _ d _ _ h; cases d <;> exact h) ?hS ?_
    case hS => (intro c; cases c <;> (simp only [World.cell?_drew]; first | exact True.intro | (refine ⟨?_, ?_⟩ <;> assumption) | assumption | (repeat (first | assumption | (refine And.intro ?_ ?_)))))
    simp only [Ux.wpPlan, Ux.pickOps, Ux.keeps, List.getElem?_toArray, List.getElem?_cons_succ, List.getElem?_cons_zero]
    repeat (first
      | go_big_quiet_step (fail)
      | (with_reducible refine wpQuiet_nil ?_)
      | (refine Ux.quiet_held rfl ?_; apply Exists.intro; refine ⟨fun w' hS => ?_, ?_⟩; (focus ((try dsimp only at hS); go_simp; first | done | with_reducible rfl)); simp only [Act.put, List.setIfInBounds_toArray, List.set_cons_zero, List.set_cons_succ]))
    go_wp2_with (fail)
    go_loopg [122] N (fun g s122 wr => ∃ i : Nat, s122 = .int .i64 i ∧ i + g = N ∧ ChkEnv wr bt tb bo bd bs bl bn bc fan n xr deep (after st (flats (cs.take i))) (c + (flats (cs.take i)).length) ∧ Ux.Touch (fun b => b = bo ∨ b = bs ∨ b = bl ∨ b = bn) w wr)
    case atStart => exact ⟨0, rfl, by omega, by simpa [Ux.after_nil, flats, Ux.flats] using HS.out.1, HS.out.2⟩
    case round =>
      clear a0 a1 a2 a3 a4 a5 a6 a7 a8 fo fs' fl fn z1 z2 NE q1 q2 q4 hx0 hxr y1 y2 HSZ 
      obtain ⟨i, rfl, hig, k1, k2⟩ := hrel
      rcases Nat.eq_zero_or_pos gk with h0 | h0
      · subst h0
        obtain rfl : i = N := by omega
        have HK := Lib.hid (And.intro k1 k2)
        have HM := Lib.hid HH.out.2.2.2.2.1
        clear k1 k2 hig
        go_wp2
        go_returns
        refine ⟨rfl, ?_, HK.out.2⟩
        have := HK.out.1
        rw [List.take_of_length_le (by rw [HM.out]; exact Nat.le_refl _)] at this
        exact this
      · obtain ⟨g', rfl⟩ : ∃ g', gk = g' + 1 := ⟨gk - 1, by omega⟩
        have hil : i < cs.length := by rw [HH.out.2.2.2.2.1]; omega
        obtain ⟨ch, hc⟩ : ∃ ch, cs[i]? = some ch := ⟨cs[i], List.getElem?_eq_getElem hil⟩
        obtain ⟨gx, cx, z, m0, m1, hz, m3, m4, hxF, hgF⟩ := HFR.out.kid hc
        have hord := HE.out.ord
        have hnb : ∀ b, b < bt → ¬ (b = bo ∨ b = bs ∨ b = bl ∨ b = bn) := fun b hb h => by rcases h with h | h | h | h <;> omega
        have hga : gx = ga := by
          have e := HZ2.out.symm.trans m0
          simp at e
          exact e.1.symm
        subst hga
        have hgb := HH.out.2.2.2.2.2.2.2.2.2.2.2.1
        have hkb := HH.out.2.2.2.2.2.2.2.2.2.2.1
        have hxb' := HH.out.2.2.2.2.2.2.2.2.2.2.2.2
        have m1' := k2.cell m1 (hnb gx hgb.1)
        obtain ⟨fz, hnz, hfz⟩ := hz.touch k2 (fun b hb => hnb b (HH.out.2.1 b hb).1)
        have hg := HH.out.2.2.2.2.2.2.2.1
        obtain ⟨ks', cs', e, hl, hsep, h3⟩ := hg
        cases e
        obtain ⟨gch, zc1, zc2⟩ := h3 ch (List.mem_of_getElem? hc)
        have hsp := Ux.flats_split hc
        have hup := HH.out.2.2.1
        have hpre := HH.out.2.2.2.1
        rw [hsp] at hup hpre
        have PR := Ux.pre_after hpre hup
        have hupc := (Ux.up_append (Ux.up_append hup).2).1
        have hlen : (flats cs).length = (flats (cs.take i)).length + ((flat ch).length + (flats (cs.drop (i + 1))).length) := by rw [hsp]; simp
        have hc1 := HH.out.2.2.2.2.2.2.2.2.1
        obtain ⟨cr', hcr⟩ := HXR.out.2
        have CALL := ih (lev + 1) (after st (flats (cs.take i))) (c + (flats (cs.take i)).length) ch z fz wr k1 hnz (fun b hb => HH.out.2.1 b (hfz b hb)) gch zc2 (.inr (by omega)) (if hzx : z = xr then .inl hzx else .inr ⟨hzx, zc1⟩) (by have := HH.out.2.2.2.2.2.2.2.2.2.1; omega) (by omega) hupc (Ux.pre_left PR) (by omega) (by omega) ⟨cr', k2.heap hcr (hnb _ HXR.out.1)⟩
        have hnext : flats (cs.take (i + 1)) = flats (cs.take i) ++ flat ch := by
          rw [List.take_add_one, hc, Ux.flats_append]
          simp [Ux.flats]
        obtain ⟨q, hq⟩ : ∃ q, (flat ch).getLast? = some q := by
          obtain ⟨p, hp⟩ := Ux.good_some hf4 gch (by omega)
          cases hh : (flat ch).getLast? with
          | none => rw [List.getLast?_eq_none_iff] at hh; rw [hh] at hp; cases hp
          | some q => exact ⟨q, rfl⟩
        have hst : after (after st (flats (cs.take i))) (flat ch) = (true, q.1) := by
          unfold Ux.after
          rw [hq]
        have hqm := List.mem_of_getLast? hq
        have cb' : wr.cell? ⟨bc, 0, none⟩ = some (.func (.func 38) #[] #[.pointer (some ⟨bt, 0, none⟩), .pointer (some ⟨bo, 0, none⟩), .pointer (some ⟨bd, 0, none⟩), .pointer (some ⟨bs, 0, none⟩), .pointer (some ⟨bl, 0, none⟩), .pointer (some ⟨bn, 0, none⟩), .pointer (some ⟨bc, 0, none⟩)]) := by rw [cell_of_row wr bc 0 _ 79 (0, 0) k1.chk]; rfl
        have p0 : (0 : Int) ≤ i := by omega
        have p1 : (i : Int) < N := by omega
        have HCALL := Lib.hid CALL
        have HK := Lib.hid (And.intro k1 k2)
        have HZ := Lib.hid (And.intro hst (And.intro hnext (And.intro hqm (And.intro hl (And.intro hsep (And.intro hc hnb))))))
        have HB := Lib.hid (And.intro hgb (And.intro hkb (And.intro hxb' hord)))
        clear CALL k1 k2 hst hnext hqm hl hsep hc hnb hgb hkb hxb' hord m0 m1 hz m3 m4 hxF hgF hnz hfz h3 gch zc1 zc2 hsp hup hpre PR hupc hlen hc1 hcr hq hil
        go_wp2_with (fail)
        refine HCALL.out.mono ?_
        rintro e w1 ⟨rfl, e1, t1⟩
        rw [HZ.out.1] at e1
        have hkf := HK.out.2.trans t1 (fun _ _ h => h)
        have hlen2 : c + ((flats (cs.take (i + 1))).length : Int) = c + ((flats (cs.take i)).length : Int) + ((flat ch).length : Int) := by rw [HZ.out.2.1, List.length_append]; omega
        have hnext2 : after st (flats (cs.take (i + 1))) = (true, q.1) := by rw [HZ.out.2.1, ← Ux.after_append, HZ.out.1]
        have c0' := hkf.cell HZ0.out (HZ.out.2.2.2.2.2.2 x HB.out.2.2.1.1)
        obtain ⟨_, _, _, _, b4, _, b6, b7, _⟩ := e1.cells
        have b6' : w1.cell? ⟨bs, 0, none⟩ = some (.bool true) := b6
        have b7' : w1.cell? ⟨bl, 0, none⟩ = some (.string q.1) := b7
        have fo1 := e1.free.1
        have E1 := Lib.hid (And.intro e1 hkf)
        have HLN := Lib.hid (And.intro hlen2 hnext2)
        clear e1 t1 hkf hlen2 hnext2 b6 b7 cb' m1' HCALL
        rcases Nat.lt_or_ge i K with hiK | hiK
        · have hs := HZ.out.2.2.2.2.1
          obtain ⟨s, hks⟩ : ∃ s, ks[i]? = some s := ⟨ks[i]'(by rw [HH.out.2.2.2.2.2.1]; exact hiK), List.getElem?_eq_getElem _⟩
          have hlt : slt q.1 s = true := (hs i s i ch hks HZ.out.2.2.2.2.2.1).1 (Nat.le_refl _) q HZ.out.2.2.1
          have hlt' : Op.bytesLess q.1.toList s.toList = true := hlt
          have d1 := E1.out.2.cell (HKEY.out i s hks) (HZ.out.2.2.2.2.2.2 ka HB.out.2.1.1)
          have p2 : (i : Int) < K := by omega
          have y1 : ¬ x = bo := by have := HB.out.2.2.1.1; have := HB.out.2.2.2; omega
          clear hs hks hlt hiK
          go_wp2_with (fail)
          refine Ux.wp_region_plan (fun _ w' => w'.cell? ⟨bo, 0, none⟩ = some (.bool true) ∧ w'.cell? ⟨bs, 0, none⟩ = some (.bool true) ∧ w'.cell? ⟨bl, 0, none⟩ = some (.string q.1) ∧ w'.cell? ⟨x, 0, none⟩ = some (.slice (some ⟨ka, 0, none⟩) K kc) ∧ w'.cell? ⟨ka, i, none⟩ = some (.string s)) (.h false [0] (.q [1] (.h false [2] (.q [3, 4, 6, 7, 8, 10] (.h false [5, 9] (.q [11] (.h false [12] (.q [13, 14, 15] (.line [16])))))))))
            (by kernel_rfl) (by kernel_rfl) (by intro _ _ d _ _ h; cases d <;> exact h) ?hS ?_
          case hS => (intro c; cases c <;> (simp only [World.cell?_drew]; first | exact True.intro | (refine ⟨?_, ?_⟩ <;> assumption) | assumption | (repeat (first | assumption | (refine And.intro ?_ ?_)))))
          simp only [Ux.wpPlan, Ux.pickOps, Ux.keeps, List.getElem?_toArray, List.getElem?_cons_succ, List.getElem?_cons_zero]
          repeat (first
            | go_big_quiet_step (fail)
            | (with_reducible refine wpQuiet_nil ?_)
            | (refine Ux.quiet_held rfl ?_; apply Exists.intro; refine ⟨fun w' hS => ?_, ?_⟩; (focus ((try dsimp only at hS); go_simp; first | done | with_reducible rfl)); simp only [Act.put, List.setIfInBounds_toArray, List.set_cons_zero, List.set_cons_succ]))
          go_wp2_with (fail)
          go_roundg g'
          case measure => omega
          case rel =>
            refine ⟨i + 1, by go_num, by omega, ?_, ?_⟩
            · rw [HLN.out.1, HLN.out.2]
              exact E1.out.1.setOk.drew
            · exact E1.out.2.trans (((Ux.Touch.refl (fun b => b = bo ∨ b = bs ∨ b = bl ∨ b = bn) w1).setCell (p := ⟨bo, 0, none⟩) (fun _ => .inl rfl) _).drew) (fun _ _ h => h)
        · have p2 : ¬ (i : Int) < K := by omega
          go_wp2_with (fail)
          go_roundg g'
          case measure => omega
          case rel =>
            refine ⟨i + 1, by go_num, by omega, ?_, E1.out.2⟩
            rw [HLN.out.1, HLN.out.2]
            exact E1.out.1

theorem chk38 (bt tb bo bd bs bl bn bc fan : Nat) (n : Int) (xr : Nat) (deep : Int) (hf4 : 4 ≤ fan) (hf64 : fan ≤ 64) (hdeep : deep ≤ 100) (hxb : xr < bt) : ∀ g, ChkSays bt tb bo bd bs bl bn bc fan n xr deep g
  | 0 => by
    intro lev st c t x fp w he h hfp hg hs _ hr hlev _ hup hpre hc0 hc1 ⟨cr, hxr⟩
    obtain ⟨l, rfl⟩ := hg
    have hl : lev = deep := by simpa using hlev
    exact chk_leaf bt tb bo bd bs bl bn bc fan n xr deep lev st c l x fp w hf4 hf64 he h hfp hs (hr.elim (fun h => .inl ⟨h, hl⟩) (fun h => .inr (.inr ⟨h.1, h.2, hl⟩))) hup hpre hc0 (by simp only [flat, Ux.flat] at hc1; omega) cr hxr
  | g + 1 => by
    intro lev st c t x fp w he h hfp hg hs hs2 hr hlev hl1 hup hpre hc0 hc1 ⟨cr, hxr⟩
    have hg' := hg
    obtain ⟨ks, cs, rfl, _⟩ := hg'
    exact chk_node bt tb bo bd bs bl bn bc fan n xr deep lev g (chk38 bt tb bo bd bs bl bn bc fan n xr deep hf4 hf64 hdeep hxb g) st c ks cs x fp w hf4 hf64 hdeep hxb he h hfp hg hs (hs2.resolve_left (by omega)) hr hlev hl1 hup hpre hc0 hc1 cr hxr

end Go.Proofs.Ytdfgpminonpeaaa
