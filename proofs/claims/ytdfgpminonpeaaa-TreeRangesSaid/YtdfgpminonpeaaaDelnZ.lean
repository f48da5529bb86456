/- PART OF THE PROOF THAT THIS CLAIM HOLDS OF THE GIVEN PROGRAM, FOR EVERY INPUT THAT THE STATEMENT NAMES. No condition besides the statement's own. -/
import Derived.Test.YtdfgpminonpeaaaUxCurAllZ
import Derived.Test.YtdfgpminonpeaaaJoinnZ
import Derived.Test.YtdfgpminonpeaaaDellZ
import Derived.Test.YtdfgpminonpeaaaRows
import Derived.WalkKit
import Derived.Handy
import Derived.Laws.EntriesVeiled
import Derived.WalkSpells
import Derived.WalkLawsBesides
import Derived.BigQuiet
import Derived.Deep.QuietTactic
import Derived.Deep.Cut
import Derived.Lib.Overlaps
import Derived.Laws.Externs
import Derived.Lib.Hide
import Derived.Test.YtdfgpminonpeaaaUxPlanAllZ
import Derived.Test.YtdfgpminonpeaaaUxTreeAllZ
import Derived.Deep.LoopGhost
namespace Go.Proofs.Ytdfgpminonpeaaa
open Go.RowKit
-- imports: UxDel YtdfgpminonpeaaaJoinn YtdfgpminonpeaaaDell
open Ux (slt lb has Rises T NodeAt NodesAt Shp wayN half1 half2 halfK blk ptr flat flats keys del delT joinT mrg Up JoinAt JoinLeft)

/-- join, of any two trees of one depth -/
theorem join42 (fan : Nat) (hf4 : 4 ≤ fan) (hf64 : fan ≤ 64) (d : Nat) (Ka Kb : List ByteArray) (s : ByteArray) (A B : List T) (a b : T) (tb x : Nat) (fp : List Nat) (w : World)
    (hc : ∃ n r, w.heap[tb]? = some (.cells #[.int .i64 fan, n, r] 64 (0, 0))) (h : NodeAt w (.node (Ka ++ s :: Kb) (A ++ a :: b :: B)) x fp) (hnd : fp.Nodup) (htb : tb ∉ fp)
    (hlen : (A ++ a :: b :: B).length = (Ka ++ s :: Kb).length + 1) (hK : Ka.length = A.length) (hsz : (A ++ a :: b :: B).length ≤ fan) (ga : Ux.Good fan d a) (gb : Ux.Good fan d b) (h1 : 1 ≤ a.size) (h2 : 1 ≤ b.size) (hs2 : a.size + b.size ≤ 2 * fan) :
    Calls Try.prog 42 #[.pointer (some ⟨tb, 0, none⟩), .pointer (some ⟨x, 0, none⟩), .int .i64 A.length] w (JoinPost w (joinT fan (Ka ++ s :: Kb) (A ++ a :: b :: B) A.length) x fp) := by
  have s1 := ga.shp
  have s2 := gb.shp
  cases d with
  | zero =>
    obtain ⟨la, rfl⟩ := ga
    obtain ⟨lb', rfl⟩ := gb
    exact join_leaf fan hf4 hf64 Ka Kb s A B la lb' tb x fp w hc h hnd htb hlen hK hsz h1 h2 hs2
  | succ d =>
    obtain ⟨ka, ca, rfl, _⟩ := ga
    obtain ⟨kb, cb, rfl, _⟩ := gb
    exact join_node fan hf4 hf64 Ka Kb s A B ka kb ca cb tb x fp w hc h hnd htb hlen hK hsz h1 h2 hs2 s1 s2

def DelOff (bk bg bd bt tb : Nat) (fp : List Nat) : Prop := bk ∉ fp ∧ bg ∉ fp ∧ bd ∉ fp ∧ bt ∉ fp ∧ tb ∉ fp

def DelSays (fan : Nat) (k : ByteArray) (d : Nat) : Prop :=
  ∀ (t : T) (x : Nat) (fp : List Nat) (w : World) (bk bg bd bt tb : Nat), DelEnv w bk bg bd bt tb k fan → w.heap[bg]? = some (.cells #[.bool false] 4 (0, 0)) → NodeAt w t x fp → fp.Nodup →
    Ux.Good fan d t → Up (flat t) → t.size ≤ fan → (d = 0 ∨ 2 ≤ t.size) → DelOff bk bg bd bt tb fp →
    Calls Try.prog 39 #[.pointer (some ⟨x, 0, none⟩), .pointer (some ⟨bk, 0, none⟩), .pointer (some ⟨bg, 0, none⟩), .pointer (some ⟨bd, 0, none⟩), .pointer (some ⟨bt, 0, none⟩)] w (DelLeft w t (delT fan k d t) k bg x fp)

set_option maxHeartbeats 4000000 in
set_option maxRecDepth 100000 in
theorem del_node {fan : Nat} (hf4 : 4 ≤ fan) (hf64 : fan ≤ 64) (k : ByteArray) (d : Nat) (ih : DelSays fan k d) (ks : List ByteArray) (A B : List T) (c : T) (x : Nat) (fp : List Nat) (w : World) (bk bg bd bt tb : Nat)
    (he : DelEnv w bk bg bd bt tb k fan) (hf : w.heap[bg]? = some (.cells #[.bool false] 4 (0, 0))) (h : NodeAt w (.node ks (A ++ c :: B)) x fp) (hnd : fp.Nodup)
    (hlen : (A ++ c :: B).length = ks.length + 1) (hsz : (A ++ c :: B).length ≤ fan) (hs2 : 2 ≤ (A ++ c :: B).length) (hr : Rises ks) (hw : A.length = wayN ks k) (hoff : DelOff bk bg bd bt tb fp)
    (gall : ∀ t ∈ A ++ c :: B, Ux.Good fan d t ∧ fan / 2 ≤ t.size ∧ t.size ≤ fan) (uc : Up (flat c)) (hhas : has (keys (flats (A ++ c :: B))) k = has (keys (flat c)) k) :
    Calls Try.prog 39 #[.pointer (some ⟨x, 0, none⟩), .pointer (some ⟨bk, 0, none⟩), .pointer (some ⟨bg, 0, none⟩), .pointer (some ⟨bd, 0, none⟩), .pointer (some ⟨bt, 0, none⟩)] w
      (DelLeft w (.node ks (A ++ c :: B)) (delT fan k (d + 1) (.node ks (A ++ c :: B))) k bg x fp) := by
  have HN := Lib.hid h
  obtain ⟨gc, sc1, sc2⟩ := gall c (by simp)
  obtain ⟨kv, cv, xs, fs, h1, h2, h3, h4, hfpe⟩ := h
  obtain ⟨xa, xc, xb, fa, fc, fb, rfl, rfl, na, nc, nb⟩ := NodesAt.at h4
  have hla := NodesAt.length na
  obtain ⟨m, hm⟩ : ∃ m, (A ++ c :: B).length = m := ⟨_, rfl⟩
  have hm' := hm
  simp only [List.length_append, List.length_cons] at hm'
  obtain ⟨g, cc, cur, rfl, hnc, hcm, hg, hcs, htk⟩ := Ux.own_pos h3 (by omega)
  rw [Nat.mul_one] at hcs htk
  obtain ⟨c0, c1, c2, fr⟩ := blk3 h1
  obtain ⟨i, hi⟩ : ∃ i, A.length = i := ⟨_, rfl⟩
  have hkid : w.cell? ⟨g, i, none⟩ = some (.pointer (some ⟨xc, 0, none⟩)) := Ux.row_cell hg htk i _ (by rw [← hi, ← hla]; simp [ptr])
  have ck : w.cell? ⟨bk, 0, none⟩ = some (.string k) := by rw [cell_of_row w bk 0 _ 9 (0, 0) he.key]; rfl
  have cp : w.cell? ⟨bd, 0, none⟩ = some (.func (.func 39) #[] #[.pointer (some ⟨bk, 0, none⟩), .pointer (some ⟨bg, 0, none⟩), .pointer (some ⟨bd, 0, none⟩), .pointer (some ⟨bt, 0, none⟩)]) := by rw [cell_of_row w bd 0 _ 65 (0, 0) he.del]; rfl
  have hfc : ∀ b ∈ fc, b ∈ fp := fun b hb => by rw [hfpe]; simp [hb]
  have hndc : fc.Nodup := by
    rw [hfpe] at hnd
    exact (List.nodup_append.1 (List.nodup_append.1 (List.nodup_append.1 (List.nodup_cons.1 hnd).2).2.1).2.1).1
  have way := way33 x kv ks k w c0 h2 hr (by omega)
  rw [← hw, hi] at way
  have D0 := (Ux.Touch.refl (fun _ => False) w).drew
  have he' : DelEnv w.drew bk bg bd bt tb k fan := ⟨he.key, he.del, he.box, he.tree, he.apart⟩
  have call := ih c xc fc w.drew bk bg bd bt tb he' hf (nc.touch D0 (fun _ _ f => f)) hndc gc uc sc2 (.inr (by omega))
    ⟨fun h => hoff.1 (hfc _ h), fun h => hoff.2.1 (hfc _ h), fun h => hoff.2.2.1 (hfc _ h), fun h => hoff.2.2.2.1 (hfc _ h), fun h => hoff.2.2.2.2 (hfc _ h)⟩
  have WAY := Lib.hid way
  have CALL := Lib.hid call
  have j0 : (i : Int) < m := by omega
  have j1 : (m : Int) ≤ 64 := by omega
  have j2 : (0 : Int) ≤ i := by omega
  have j3 : (2 : Int) ≤ m := by omega
  have j4 : (4 : Int) ≤ fan := by omega
  have j5 : (fan : Int) ≤ 64 := by omega
  have dg := Ux.del_good hf4 k gc uc (.inr (by omega))
  have eqT := Ux.delT_node (fan := fan) (d := d) (k := k) (ks := ks) (A := A) (B := B) (c := c) hw
  obtain ⟨c', hc'⟩ : ∃ c', delT fan k d c = c' := ⟨_, rfl⟩
  rw [hc'] at CALL dg eqT
  have HQT := Lib.hid eqT
  rw [hm] at c2
  have HE := Lib.hid he
  have HG := Lib.hid (And.intro h1 (And.intro h2 (And.intro h3 (And.intro na (And.intro nc nb)))))
  have HFP := Lib.hid (And.intro hfpe (And.intro hnd hoff))
  have HM := Lib.hid (And.intro hlen (And.intro hsz (And.intro hs2 (And.intro hm (And.intro hi (And.intro hw hhas))))))
  have HC := Lib.hid (And.intro gall (And.intro dg (And.intro sc1 sc2)))
  have HBG := Lib.hid (Ux.lt_of_heap hf)
  clear h1 h2 h3 h4 na nc nb hfpe hnd hoff hlen hsz hs2 hm hi hla hr hw hhas gc uc sc1 sc2 hg hcs htk hfc hndc way call he he' hf hm' hnc hcm gall dg eqT hc' D0
  go_enter Try.func39, Try.ntmps39
  go_wp2_with (go_at_call 33; refine (WAY.out).mono ?_; rintro e w' ⟨rfl, rfl⟩)
  refine Ux.wp_region_plan (fun _ w' => w'.cell? ⟨bd, 0, none⟩ = some (.func (.func 39) #[] #[.pointer (some ⟨bk, 0, none⟩), .pointer (some ⟨bg, 0, none⟩), .pointer (some ⟨bd, 0, none⟩), .pointer (some ⟨bt, 0, none⟩)]) ∧ w'.cell? ⟨x, 2, none⟩ = some (.slice (some ⟨g, 0, none⟩) m cc) ∧ w'.cell? ⟨g, i, none⟩ = some (.pointer (some ⟨xc, 0, none⟩))) (.h false [0] (.q [1, 2, 3, 5] (.h false [4] (.q [6] (.h false [7] (.e 8 true false (.line [])))))))
    (by kernel_rfl) (by kernel_rfl) (by intro _ _ d _ _ h; cases d <;> exact h) ?hS ?_
  case hS => (intro c; cases c <;> (simp only [World.cell?_drew]; first | exact True.intro | (refine ⟨?_, ?_⟩ <;> assumption) | assumption | (repeat (first | assumption | (refine And.intro ?_ ?_)))))
  simp only [Ux.wpPlan, Ux.pickOps, Ux.keeps, List.getElem?_toArray, List.getElem?_cons_succ, List.getElem?_cons_zero]
  repeat (first
    | go_big_quiet_step (fail)
    | (with_reducible refine wpQuiet_nil ?_)
    | (refine Ux.quiet_held rfl ?_; apply Exists.intro; refine ⟨fun w' hS => ?_, ?_⟩; (focus ((try dsimp only at hS); go_simp; first | done | with_reducible rfl)); simp only [Act.put, List.setIfInBounds_toArray, List.set_cons_zero, List.set_cons_succ]))
  go_wp2_with (fail)
  refine CALL.out.mono ?_
  rintro e w1 ⟨fc', rfl, n', nd', sub', T1', hf1⟩
  have T1 : Ux.Touch (fun b => b ∈ fc ∨ b = bg) w w1 := ((Ux.Touch.refl (fun b => b ∈ fc ∨ b = bg) w).drew).trans T1' (fun _ _ h => h)
  obtain ⟨N1, nd1, sub1, TW1⟩ := Ux.kid_swap HG.out.1 HG.out.2.1 HG.out.2.2.1 HG.out.2.2.2.1 HG.out.2.2.2.2.2 HFP.out.1 HFP.out.2.1 (NodeAt.lt HN.out) HFP.out.2.2.2.1 n' nd' sub' T1
  obtain ⟨fp1, hfp1⟩ : ∃ fp1, x :: (blk kv ++ blk (.slice (some ⟨g, 0, none⟩) (A ++ c :: B).length cc) ++ (fa ++ (fc' ++ fb))) = fp1 := ⟨_, rfl⟩
  rw [hfp1] at N1 nd1 sub1
  have mem1 : ∀ b, b = x ∨ b = g → b ∈ fp ∧ ¬ (b ∈ fc ∨ b = bg) := fun b hb => by
    have hbp : b ∈ fp := by rw [HFP.out.1]; rcases hb with h | h <;> simp [blk, Value.ownBlock, h]
    refine ⟨hbp, fun h => ?_⟩
    rcases h with h | h
    · have hnd := HFP.out.2.1
      rw [HFP.out.1] at hnd
      have n1 := List.nodup_cons.1 hnd
      rcases hb with e | e
      · exact n1.1 (by rw [← e]; simp [h])
      · have n2 := List.nodup_append.1 n1.2
        exact n2.2.2 b (by rw [e]; simp [blk, Value.ownBlock]) b (by simp [h]) rfl
    · exact HFP.out.2.2.2.1 (h ▸ hbp)
  have d2 := T1.cell c2 (mem1 x (.inl rfl)).2
  have dk := T1.cell hkid (mem1 g (.inr rfl)).2
  have hbt : ¬ (bt ∈ fc ∨ bt = bg) := fun h => h.elim (fun h => HFP.out.2.2.2.2.2.1 (by rw [HFP.out.1]; simp [h])) (fun e => HE.out.apart.2.2.1 e.symm)
  have htb : ¬ (tb ∈ fc ∨ tb = bg) := fun h => h.elim (fun h => HFP.out.2.2.2.2.2.2 (by rw [HFP.out.1]; simp [h])) (fun e => HE.out.apart.2.2.2 e.symm)
  have hbd : ¬ (bd ∈ fc ∨ bd = bg) := fun h => h.elim (fun h => HFP.out.2.2.2.2.1 (by rw [HFP.out.1]; simp [h])) (fun e => HE.out.apart.2.1 e.symm)
  have cbd : w1.cell? ⟨bd, 0, none⟩ = some (.func (.func 39) #[] #[.pointer (some ⟨bk, 0, none⟩), .pointer (some ⟨bg, 0, none⟩), .pointer (some ⟨bd, 0, none⟩), .pointer (some ⟨bt, 0, none⟩)]) := by rw [cell_of_row w1 bd 0 _ 65 (0, 0) (T1.heap HE.out.del hbd)]; rfl
  have ct : w1.cell? ⟨bt, 0, none⟩ = some (.pointer (some ⟨tb, 0, none⟩)) := by rw [cell_of_row w1 bt 0 _ 23 (0, 0) (T1.heap HE.out.box hbt)]; rfl
  have htree : ∃ n r, w1.heap[tb]? = some (.cells #[.int .i64 fan, n, r] 64 (0, 0)) := by obtain ⟨n, r, ht⟩ := HE.out.tree; exact ⟨n, r, T1.heap ht htb⟩
  have cf : w1.cell? ⟨tb, 0, none⟩ = some (.int .i64 fan) := by
    obtain ⟨_, _, ht⟩ := htree
    rw [cell_of_row w1 tb 0 _ 64 (0, 0) ht]; rfl
  have htb1 : tb ∉ fp1 ∧ bg ∉ fp1 := by
    refine ⟨fun h => (sub1 tb h).elim HFP.out.2.2.2.2.2.2 (fun h => ?_), fun h => (sub1 bg h).elim HFP.out.2.2.2.1 (fun h => by have := HBG.out; omega)⟩
    obtain ⟨_, _, ht⟩ := HE.out.tree
    have := Ux.lt_of_heap ht
    omega
  have SZ := size34 w1.drew (n'.touch (Ux.Touch.refl (fun _ => False) w1).drew (fun _ _ f => f)) HC.out.2.1.1.shp
  obtain ⟨cs, hcs⟩ : ∃ cs, c'.size = cs := ⟨_, rfl⟩
  rw [hcs] at SZ
  have HSZ := Lib.hid SZ
  have HCS := Lib.hid hcs
  have H1 := Lib.hid (And.intro N1 (And.intro nd1 (And.intro sub1 (And.intro TW1 (And.intro hf1 (And.intro htree htb1))))))
  have q0 : (cs : Int) ≤ 64 := by have := HC.out.2.1.2.2.1; have := HC.out.2.2.2; omega
  have q1 : (0 : Int) ≤ cs := by omega
  clear hbd N1 nd1 sub1 TW1 hf1 htree htb1 n' nd' sub' T1 T1' mem1 hbt htb SZ hcs hfp1 c0 c1 c2 ck cp fr hkid CALL WAY
  go_wp2_with (fail)
  refine ⟨⟨cbd, d2, dk⟩, ?_⟩
  repeat (first
    | go_big_quiet_step (fail)
    | (with_reducible refine wpQuiet_nil ?_)
    | (refine Ux.quiet_held rfl ?_; apply Exists.intro; refine ⟨fun w' hS => ?_, ?_⟩; (focus ((try dsimp only at hS); go_simp; first | done | with_reducible rfl)); simp only [Act.put, List.setIfInBounds_toArray, List.set_cons_zero, List.set_cons_succ]))
  go_wp2_with (fail)
  refine Ux.wp_region_plan (fun _ w' => w'.cell? ⟨x, 2, none⟩ = some (.slice (some ⟨g, 0, none⟩) m cc) ∧ w'.cell? ⟨bt, 0, none⟩ = some (.pointer (some ⟨tb, 0, none⟩)) ∧ w'.cell? ⟨g, i, none⟩ = some (.pointer (some ⟨xc, 0, none⟩)) ∧ w'.cell? ⟨tb, 0, none⟩ = some (.int .i64 fan)) (.q [0, 1, 2, 4] (.h false [3, 8] (.q [5, 9, 10] (.h false [6, 11] (.q [12] (.e 7 true false (.q [13] (.line []))))))))
    (by kernel_rfl) (by kernel_rfl) (by intro _ _ d _ _ h; cases d <;> exact h) ?hS ?_
  case hS => (intro c; cases c <;> (simp only [World.cell?_drew]; first | exact True.intro | (refine ⟨?_, ?_⟩ <;> assumption) | assumption | (repeat (first | assumption | (refine And.intro ?_ ?_)))))
  simp only [Ux.wpPlan, Ux.pickOps, Ux.keeps, List.getElem?_toArray, List.getElem?_cons_succ, List.getElem?_cons_zero]
  repeat (first
    | go_big_quiet_step (fail)
    | (with_reducible refine wpQuiet_nil ?_)
    | (refine Ux.quiet_held rfl ?_; apply Exists.intro; refine ⟨fun w' hS => ?_, ?_⟩; (focus ((try dsimp only at hS); go_simp; first | done | with_reducible rfl)); simp only [Act.put, List.setIfInBounds_toArray, List.set_cons_zero, List.set_cons_succ]))
  go_wp2_with (go_at_call 34; refine HSZ.out.mono ?_; rintro e w2 ⟨rfl, rfl⟩)
  refine ⟨⟨d2, ct, dk, cf⟩, ?_⟩
  repeat (first
    | go_big_quiet_step (fail)
    | (with_reducible refine wpQuiet_nil ?_)
    | (refine Ux.quiet_held rfl ?_; apply Exists.intro; refine ⟨fun w' hS => ?_, ?_⟩; (focus ((try dsimp only at hS); go_simp; first | done | with_reducible rfl)); simp only [Act.put, List.setIfInBounds_toArray, List.set_cons_zero, List.set_cons_succ]))
  have FIN : ∀ (t' : T) (W : World), JoinLeft w1.drew t' x fp1 W → DelLeft w (.node ks (A ++ c :: B)) t' k bg x fp (.returned (.tuple #[])) W := fun t' W ⟨fp2, a1, a2, a3, a4⟩ => by
    obtain ⟨_, _, sub1, TW1, hf1, _, htb1⟩ := H1.out
    refine ⟨fp2, rfl, a1, a2, fun b hb => ?_, (TW1.drew).trans a4 (fun b hb h => (sub1 b h).elim .inl (fun h => by omega)), ?_⟩
    · rcases a3 b hb with h | h
      · exact sub1 b h
      · exact .inr (Nat.le_trans TW1.size h)
    · rw [show has (keys (flat (.node ks (A ++ c :: B)))) k = has (keys (flat c)) k from HM.out.2.2.2.2.2.2]
      exact a4.heap (show w1.drew.heap[bg]? = _ from hf1) htb1.2
  by_cases hlt : cs < fan / 2
  · have hcmp : decide ((cs : Int) < (fan : Int) / 2) = true := by simp; omega
    obtain ⟨Ka, Kb, s, A', B', a, b, eK, eC, hKa, hj, hab⟩ := Ux.join_split (c := c') (A := A) (B := B) (ks := ks) (by have := HM.out.1; simpa using this) (by have := HM.out.2.2.1; simpa using this)
    have hgood : ∀ t ∈ A ++ B, Ux.Good fan d t ∧ 1 ≤ t.size ∧ t.size ≤ fan := fun t ht => by
      obtain ⟨h1, h2, h3⟩ := HC.out.1 t (by rcases List.mem_append.1 ht with h | h <;> simp [h])
      exact ⟨h1, by omega, h3⟩
    have hc1 : Ux.Good fan d c' ∧ 1 ≤ c'.size ∧ c'.size < fan / 2 := ⟨HC.out.2.1.1, by have h1 := HC.out.2.1.2.2.2; have h2 := HC.out.2.2.1; omega, by rw [HCS.out]; exact hlt⟩
    have hgab : Ux.Good fan d a ∧ Ux.Good fan d b ∧ 1 ≤ a.size ∧ 1 ≤ b.size ∧ a.size + b.size ≤ 2 * fan := by
      rcases hab with ⟨rfl, h⟩ | ⟨rfl, h⟩
      · obtain ⟨g1, g2, g3⟩ := hgood b (by simp [h])
        exact ⟨hc1.1, g1, hc1.2.1, g2, by omega⟩
      · obtain ⟨g1, g2, g3⟩ := hgood a (by simp [h])
        exact ⟨g1, hc1.1, g2, hc1.2.1, by omega⟩
    have hlc : (A ++ c' :: B).length = (A ++ c :: B).length := by simp
    have D2 := ((Ux.Touch.refl (fun _ => False) w1).drew).drew
    have JN := join42 fan hf4 hf64 d Ka Kb s A' B' a b tb x fp1 w1.drew.drew H1.out.2.2.2.2.2.1 (by rw [← eK, ← eC]; exact H1.out.1.touch D2 (fun _ _ f => f)) H1.out.2.1 H1.out.2.2.2.2.2.2.1
      (by rw [← eC, ← eK, hlc]; exact HM.out.1) hKa (by rw [← eC, hlc]; exact HM.out.2.1) hgab.1 hgab.2.1 hgab.2.2.1 hgab.2.2.2.1 hgab.2.2.2.2
    rw [← eK, ← eC, hj, hlc] at JN
    have HQ2 := HQT.out
    rw [HCS.out, if_pos hlt, hlc.symm] at HQ2
    obtain ⟨tj, htj⟩ : ∃ tj, joinT fan ks (A ++ c' :: B) (min A.length ((A ++ c :: B).length - 2)) = tj := ⟨_, rfl⟩
    rw [htj] at JN
    have HTJ := Lib.hid htj
    have ei := HM.out.2.2.2.2.1
    have em := HM.out.2.2.2.1
    have JN1 : i + 2 ≤ m → Calls Try.prog 42 #[.pointer (some ⟨tb, 0, none⟩), .pointer (some ⟨x, 0, none⟩), .int .i64 i] w1.drew.drew (JoinPost w1.drew.drew tj x fp1) := fun h => by
      rw [show (i : Int) = ((min A.length ((A ++ c :: B).length - 2) : Nat) : Int) by rw [em, ei]; omega]
      exact JN
    have JN2 : ¬ (i + 2 ≤ m) → Calls Try.prog 42 #[.pointer (some ⟨tb, 0, none⟩), .pointer (some ⟨x, 0, none⟩), .int .i64 ((m : Int) - 2)] w1.drew.drew (JoinPost w1.drew.drew tj x fp1) := fun h => by
      rw [show (m : Int) - 2 = ((min A.length ((A ++ c :: B).length - 2) : Nat) : Int) by rw [em, ei]; omega]
      exact JN
    have HJN1 := Lib.hid JN1
    have HJN2 := Lib.hid JN2
    have HFIN := Lib.hid FIN
    clear JN JN1 JN2 FIN eK eC hKa hj hab hgood hc1 hgab hlc D2 htj HQ2 ei em
    go_wp2_with (fail)
    refine Ux.wp_region_plan (fun _ w' => w'.cell? ⟨bt, 0, none⟩ = some (.pointer (some ⟨tb, 0, none⟩))) (.h false [0] (.q [1, 2, 3, 4, 5] (.e 6 true true (.q [7, 8, 9] (.e 10 false false (.line []))))))
      (by kernel_rfl) (by kernel_rfl) (by intro _ _ d _ _ h; cases d <;> exact h) ?hS ?_
    case hS => (intro c; cases c <;> (simp only [World.cell?_drew]; first | exact True.intro | (refine ⟨?_, ?_⟩ <;> assumption) | assumption | (repeat (first | assumption | (refine And.intro ?_ ?_)))))
    simp only [Ux.wpPlan, Ux.pickOps, Ux.keeps, List.getElem?_toArray, List.getElem?_cons_succ, List.getElem?_cons_zero]
    repeat (first
      | go_big_quiet_step (fail)
      | (with_reducible refine wpQuiet_nil ?_)
      | (refine Ux.quiet_held rfl ?_; apply Exists.intro; refine ⟨fun w' hS => ?_, ?_⟩; (focus ((try dsimp only at hS); go_simp; first | done | with_reducible rfl)); simp only [Act.put, List.setIfInBounds_toArray, List.set_cons_zero, List.set_cons_succ]))
    go_wp2_with (fail)
    refine ⟨⟨ct, ct⟩, ?_⟩
    repeat (first
      | go_big_quiet_step (fail)
      | (with_reducible refine wpQuiet_nil ?_)
      | (refine Ux.quiet_held rfl ?_; apply Exists.intro; refine ⟨fun w' hS => ?_, ?_⟩; (focus ((try dsimp only at hS); go_simp; first | done | with_reducible rfl)); simp only [Act.put, List.setIfInBounds_toArray, List.set_cons_zero, List.set_cons_succ]))
    go_wp2_with (go_at_call 42; fail)
    all_goals
      first
        | ((with_reducible refine (HJN1.out (by omega)).mono ?_))
        | ((with_reducible refine (HJN2.out (by omega)).mono ?_))
    all_goals
      rintro e w2 ⟨rfl, hJ⟩
      go_wp2_with fail
      go_returns
      rw [HQT.out, HCS.out, if_pos hlt]
      obtain ⟨fp2, a1, a2, a3, a4⟩ := hJ
      have := HFIN.out _ _ ⟨fp2, a1, a2, a3, ((Ux.Touch.refl (fun b => b ∈ fp1) w1.drew).drew).trans a4 (fun _ _ h => h)⟩
      rw [← HTJ.out] at this
      exact this
  · have hcmp : decide ((cs : Int) < (fan : Int) / 2) = false := by simp; omega
    have HFIN := Lib.hid (FIN _ _ (show JoinLeft w1.drew (.node ks (A ++ c' :: B)) x fp1 w1.drew from ⟨fp1, H1.out.1.touch (Ux.Touch.refl (fun _ => False) w1).drew (fun _ _ f => f), H1.out.2.1, fun b hb => .inl hb, Ux.Touch.refl _ _⟩))
    clear FIN
    go_wp2_with (fail)
    go_returns
    rw [HQT.out, HCS.out, if_neg hlt]
    exact HFIN.out

theorem del39 {fan : Nat} (hf4 : 4 ≤ fan) (hf64 : fan ≤ 64) (k : ByteArray) : ∀ d, DelSays fan k d
  | 0 => by
    intro t x fp w bk bg bd bt tb he hf h hnd hg hu hs _ hoff
    obtain ⟨l, rfl⟩ := hg
    exact del_leaf l x fp w bk bg bd bt tb k fan he hf h hnd (by simp [T.size] at hs; omega) (Ux.Up.rises hu) hoff.2.1
  | d + 1 => by
    intro t x fp w bk bg bd bt tb he hf h hnd hg hu hs hs2 hoff
    have hg0 := hg
    obtain ⟨ks, cs, rfl, e1, e2, e3⟩ := hg
    have hr : Rises ks := Ux.Good.rises hf4 hg0
    obtain ⟨c, hc⟩ := Ux.way_some (fan := fan) (d := d) e1 k
    have hi := (List.getElem?_eq_some_iff.1 hc).1
    obtain ⟨A, B, hA, rfl⟩ : ∃ A B, A.length = wayN ks k ∧ cs = A ++ c :: B := ⟨cs.take (wayN ks k), cs.drop (wayN ks k + 1), by simp; omega, Ux.split_at hc⟩
    have hu' : Up (flats A ++ (flat c ++ flats B)) := by
      have := hu
      simp only [flat] at this
      rwa [Ux.flats_at] at this
    have huc := (Ux.up_append (Ux.up_append hu').2).1
    have ahead := Ux.way_ahead e2 e1 hA
    have behind := Ux.way_behind hr e2 e1 hA
    have hhas : has (keys (flats (A ++ c :: B))) k = has (keys (flat c)) k := by
      rw [Ux.flats_at, Ux.keys_append, Ux.keys_append, Ux.has_left (fun x hx => by obtain ⟨p, hp, rfl⟩ := Ux.mem_keys hx; exact ahead p hp), Ux.has_right (fun x hx => by obtain ⟨p, hp, rfl⟩ := Ux.mem_keys hx; exact behind p hp)]
    exact del_node hf4 hf64 k d (del39 hf4 hf64 k d) ks A B c x fp w bk bg bd bt tb he hf h hnd e1 hs (hs2.resolve_left (by omega)) hr hA hoff e3 huc hhas

end Go.Proofs.Ytdfgpminonpeaaa
