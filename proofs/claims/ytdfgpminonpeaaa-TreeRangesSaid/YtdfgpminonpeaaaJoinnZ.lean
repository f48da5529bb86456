/- PART OF THE PROOF THAT THIS CLAIM HOLDS OF THE GIVEN PROGRAM, FOR EVERY INPUT THAT THE STATEMENT NAMES. No condition besides the statement's own. -/
import Derived.Test.YtdfgpminonpeaaaJoinZ
import Derived.Test.YtdfgpminonpeaaaCurbZ
import Derived.Test.YtdfgpminonpeaaaRows
import Derived.WalkKit
import Derived.Handy
import Derived.Laws.EntriesVeiled
import Derived.WalkSpells
import Derived.WalkLawsBesides
import Derived.BigQuiet
import Derived.Deep.QuietTactic
import Derived.Deep.Cut
import Derived.Lib.Overlaps
import Derived.Laws.Externs
import Derived.Lib.Hide
import Derived.Test.YtdfgpminonpeaaaUxPlanAllZ
import Derived.Test.YtdfgpminonpeaaaUxTreeAllZ
import Derived.Deep.LoopGhost
namespace Go.Proofs.Ytdfgpminonpeaaa
open Go.RowKit
-- imports: YtdfgpminonpeaaaJoin YtdfgpminonpeaaaCurb
open Ux (slt lb has Rises T NodeAt NodesAt Shp wayN half1 half2 halfK blk ptr flat flats keys joinT mrg Up JoinAt JoinLeft)

theorem append_nilsI (w : World) (ty : TypeId) : (Builtin.append_ #[40, 40] ty #[.slice none 0 0, .slice none 0 0]).run Try.prog w = .ok (.slice none 0 0) w := by
  obtain ⟨i0, hi0, hz0, hz1, hz2⟩ := info_parts ainfoI
  simp [Builtin.append_, run_underlying Try.underlying40, sizeOf, typeInfo, hi0, Builtin.lenOf, Builtin.firstCells]

theorem sinfo2 : (Try.prog.info? 9).map (fun i => (i.zero, i.size, i.bytes)) = some (some (.string ⟨#[]⟩), 1, 16) := by kernel_rfl

/-- one string more -/
theorem pushS2 (w W0 : World) (lv : Value) (n : Nat) (xs : List Value) (u : ByteArray) (vb : Nat) (hown : w.ownsRow 0 9 1 lv n xs) (hW0 : Ux.Touch (fun _ => False) w W0) (hv : W0.heap[vb]? = some (.cells #[.string u] 9 (0, 0))) (hn : n ≤ 1000000) :
    ∃ g c w', (∀ ty, (Builtin.append_ #[22, 22] ty #[lv, .slice (some ⟨vb, 0, none⟩) 1 1]).run Try.prog W0 = .ok (.slice (some ⟨g, 0, none⟩) (n + 1) c) w') ∧ w'.ownsRow 0 9 1 (.slice (some ⟨g, 0, none⟩) (n + 1) c) (n + 1) (xs ++ [.string u]) ∧
      Ux.Touch (fun k => lv.ownBlock = some k) w w' ∧ (lv.ownBlock = some g ∨ w.heap.size ≤ g) := by
  obtain ⟨i0, hi0, hz0, hz1, hz2⟩ := info_parts sinfo2
  have hsrc : Src Try.prog 1 22 (.slice (some ⟨vb, 0, none⟩) 1 1) 1 [.string u] W0 := Src.ofSlice W0 Try.underlying22 ⟨vb, 0, none⟩ 1 1 [.string u] rfl (fun j v hj => by
    rw [Addr.add_lit, Nat.zero_add, cell_of_row W0 vb _ _ 9 (0, 0) hv]
    simpa using hj) (by intro v hv; simp at hv; subst hv; rfl)
  have key := fun ty => Ux.run_app (P := Try.prog) W0 22 ty 9 i0 _ 1 16 Try.underlying22 hi0 hz0 hz1 hz2 rfl (by omega) lv n xs (Ux.own_touch hown hW0 (fun _ _ f => f)) _ 1 [.string u] hsrc (le_maxLen (by omega)) (by omega)
  obtain ⟨r, w', hr, ho, ht, hbk, _⟩ := key 22
  obtain ⟨g, c, cur, rfl, _, _, _, _, _⟩ := Ux.own_pos ho (by omega)
  exact ⟨g, c, w', fun ty => hr, ho, (hW0.mono (fun _ _ f => f.elim) : Ux.Touch (fun k => lv.ownBlock = some k) w W0).trans ht (fun b _ h => h), hbk.elim (fun h => .inl h.symm) (fun ⟨g', h, h'⟩ => .inr (by cases h; exact Nat.le_trans hW0.size h'))⟩

set_option maxHeartbeats 2000000 in
set_option maxRecDepth 100000 in
theorem join_node (fan : Nat) (hf4 : 4 ≤ fan) (hf64 : fan ≤ 64) (Ka Kb : List ByteArray) (s : ByteArray) (A B : List T) (ka kb : List ByteArray) (ca cb : List T) (tb x : Nat) (fp : List Nat) (w : World)
    (hc : ∃ n r, w.heap[tb]? = some (.cells #[.int .i64 fan, n, r] 64 (0, 0))) (h : NodeAt w (.node (Ka ++ s :: Kb) (A ++ .node ka ca :: .node kb cb :: B)) x fp) (hnd : fp.Nodup) (htb : tb ∉ fp)
    (hlen : (A ++ .node ka ca :: .node kb cb :: B).length = (Ka ++ s :: Kb).length + 1) (hK : Ka.length = A.length) (hsz : (A ++ .node ka ca :: .node kb cb :: B).length ≤ fan) (h1 : 1 ≤ ca.length) (h2 : 1 ≤ cb.length) (hs2 : ca.length + cb.length ≤ 2 * fan) (sh1 : Shp (.node ka ca)) (sh2 : Shp (.node kb cb)) :
    Calls Try.prog 42 #[.pointer (some ⟨tb, 0, none⟩), .pointer (some ⟨x, 0, none⟩), .int .i64 A.length] w (JoinPost w (joinT fan (Ka ++ s :: Kb) (A ++ .node ka ca :: .node kb cb :: B) A.length) x fp) := by
  have HN := Lib.hid h
  obtain ⟨kv, cv, xs, fs, q1, q2, q3, q4, hfpe⟩ := h
  obtain ⟨xa, x1, xr, fa, f1, fr1, rfl, rfl, na, n1, nr⟩ := NodesAt.at q4
  obtain ⟨x2, xb, f2, fb, rfl, rfl, n2, nb⟩ := nr
  obtain ⟨i, hi⟩ : ∃ i, A.length = i := ⟨_, rfl⟩
  obtain ⟨m, hm⟩ : ∃ m, (A ++ T.node ka ca :: T.node kb cb :: B).length = m := ⟨_, rfl⟩
  have hla := NodesAt.length na
  have hm' := hm
  simp only [List.length_append, List.length_cons] at hm'
  obtain ⟨g, cc, cur, rfl, hnc, hcm, hg, hcs, htk⟩ := Ux.own_pos q3 (by omega)
  rw [Nat.mul_one] at hcs htk
  obtain ⟨gK, cK, curK, rfl, _, _, hgK, _, hkK⟩ := Ux.own_pos q2 (by simp; omega)
  have hkey : w.cell? ⟨gK, i, none⟩ = some (.string s) := Ux.row_cell hgK hkK i _ (by rw [List.map_append, List.getElem?_append_right (by simp; omega), List.length_map, hK, hi, Nat.sub_self]; rfl)
  have hBl : B.length + (A.length + 2) = (Ka ++ s :: Kb).length + 1 := by rw [← hlen]; simp; omega
  have HJ : JoinAt w Ka Kb s A B x g gK cc cK x1 x2 xa xb fa f1 f2 fb fp := ⟨by rw [show A.length + (B.length + 2) = (A ++ T.node ka ca :: T.node kb cb :: B).length by simp]; exact q1, q2, by rw [show A.length + (B.length + 2) = (A ++ T.node ka ca :: T.node kb cb :: B).length by simp]; exact q3, na, nb, hK, by simp at hBl; omega, by simpa [blk, Value.ownBlock] using hfpe, hnd, NodeAt.lt HN.out⟩
  have frK : ∀ j, w.frozen? ⟨gK, j, none⟩ = false := fun j => frozen_of_row w gK j _ 9 hgK
  have frG : ∀ j, w.frozen? ⟨g, j, none⟩ = false := fun j => frozen_of_row w g j _ 59 hg
  obtain ⟨c0, c1, c2, fr⟩ := blk3 q1
  have k1 : w.cell? ⟨g, i, none⟩ = some (.pointer (some ⟨x1, 0, none⟩)) := Ux.row_cell hg htk i _ (by rw [← hi, ← hla]; simp [ptr])
  have k2 : w.cell? ⟨g, i + 1, none⟩ = some (.pointer (some ⟨x2, 0, none⟩)) := Ux.row_cell hg htk (i + 1) _ (by rw [← hi, ← hla]; simp [ptr])
  obtain ⟨kv1, cv1, xs1, fs1, a1, a2, a3, a4, hf1⟩ := n1
  obtain ⟨kv2, cv2, xs2, fs2, b1, b2, b3, b4, hf2⟩ := n2
  obtain ⟨a10, a11, a12, frA⟩ := blk3 a1
  obtain ⟨b10, b11, b12, frB⟩ := blk3 b1
  obtain ⟨gc1, cc1, _, rfl, _⟩ := Ux.own_pos a3 (by omega)
  rw [hi]
  rw [hm] at c2
  have j0 : (i : Int) + 1 < m := by omega
  have j1 : (m : Int) ≤ 64 := by omega
  have j2 : (0 : Int) ≤ i := by omega
  have l1 : ka.length + 1 = ca.length := sh1.1.symm
  have l2 : kb.length + 1 = cb.length := sh2.1.symm
  have hK0 : (i : Int) < (Ka ++ s :: Kb).length := by simp only [List.length_append, List.length_cons]; omega
  have hK1 : ((Ka ++ s :: Kb).length : Int) ≤ 64 := by rw [hm] at hlen; omega
  -- apart
  have hin1 : ∀ b, b = x1 ∨ b ∈ blk kv1 ∨ b = gc1 ∨ b ∈ fs1 → b ∈ f1 := fun b hb => by
    rw [hf1]
    rcases hb with h | h | h | h
    · simp [h]
    · simp [h]
    · simp [blk, Value.ownBlock, h]
    · simp [h]
  have hin2 : ∀ b, b = x2 ∨ b ∈ blk kv2 ∨ b ∈ blk cv2 ∨ b ∈ fs2 → b ∈ f2 := fun b hb => by
    rw [hf2]
    rcases hb with h | h | h | h <;> simp [h]
  have hnd12 : (f1 ++ f2).Nodup := by
    rw [hfpe] at hnd
    have n1 := (List.nodup_append.1 (List.nodup_append.1 (List.nodup_cons.1 hnd).2).2.1).2.1
    have n2 : ((f1 ++ f2) ++ fb).Nodup := by simpa using n1
    exact (List.nodup_append.1 n2).1
  have hap := HJ.apart
  have hlt12 : ∀ b ∈ f1 ++ f2, b < w.heap.size := fun b hb => HJ.lt b (by rw [HJ.fps]; rcases List.mem_append.1 hb with h | h <;> simp [h])
  have hd1 := List.nodup_append.1 hnd12
  have hL0 : ([x1] ++ (blk kv1 ++ ([gc1] ++ (fs1 ++ fs2)))).Nodup ∧ ∀ b ∈ [x1] ++ (blk kv1 ++ ([gc1] ++ (fs1 ++ fs2))), b ∈ f1 ++ f2 := by
    have e1 : f1 = x1 :: (blk kv1 ++ [gc1] ++ fs1) := by rw [hf1]; rfl
    have hsub : ∀ b ∈ [x1] ++ (blk kv1 ++ ([gc1] ++ (fs1 ++ fs2))), b ∈ f1 ∨ b ∈ fs2 := fun b hb => by
      rw [e1]
      simp only [List.mem_append, List.mem_cons, List.not_mem_nil, or_false] at hb ⊢
      rcases hb with h | h | h | h | h
      · exact .inl (.inl h)
      · exact .inl (.inr (.inl (.inl h)))
      · exact .inl (.inr (.inl (.inr h)))
      · exact .inl (.inr (.inr h))
      · exact .inr h
    refine ⟨?_, fun b hb => ?_⟩
    · have e2 : [x1] ++ (blk kv1 ++ ([gc1] ++ (fs1 ++ fs2))) = f1 ++ fs2 := by rw [e1]; simp
      rw [e2]
      refine List.nodup_append.2 ⟨hd1.1, ?_, fun a ha b hb => hd1.2.2 a ha b (hin2 b (.inr (.inr (.inr hb))))⟩
      have := hd1.2.1
      rw [hf2] at this
      exact (List.nodup_append.1 (List.nodup_cons.1 this).2).2.1
    · rcases hsub b hb with h | h
      · simp [h]
      · have := hin2 b (.inr (.inr (.inr h))); simp [this]
  have hx12 : x1 ≠ x2 := fun e => hd1.2.2 x1 (hin1 x1 (.inl rfl)) x2 (hin2 x2 (.inl rfl)) e
  have HIN := Lib.hid (And.intro hin1 (And.intro hin2 (And.intro hnd12 (And.intro hlt12 (And.intro hd1 (And.intro hL0 hx12))))))
  have HQ := Lib.hid (And.intro q1 (And.intro q2 (And.intro q3 (And.intro na nb))))
  have HA := Lib.hid (And.intro a1 (And.intro a2 (And.intro a3 a4)))
  have HB := Lib.hid (And.intro b1 (And.intro b2 (And.intro b3 b4)))
  have HFP := Lib.hid (And.intro hfpe (And.intro hf1 (And.intro hf2 (And.intro hnd htb))))
  have HM := Lib.hid (And.intro hlen (And.intro hK (And.intro hsz (And.intro hi hm))))
  have HS := Lib.hid (And.intro h1 (And.intro h2 (And.intro hs2 (And.intro sh1 (And.intro sh2 (And.intro l1 l2))))))
  have HC := Lib.hid hc
  have HHJ := Lib.hid (And.intro HJ (And.intro hkey (And.intro frK frG)))
  have HK2 := Lib.hid (And.intro k2 (And.intro c0 c2))
  have HGG := Lib.hid (And.intro hg (And.intro hcs htk))
  obtain ⟨K0, hKl⟩ : ∃ K0, (Ka ++ s :: Kb).length = K0 := ⟨_, rfl⟩
  rw [hKl] at c0 hK0 hK1
  -- the key first
  obtain ⟨g1, cg1, wa, hapk, ok1, tk1, bk1⟩ := pushS2 w (w.alloc (.cells #[.string s] 9)).drew.drew kv1 ka.length _ s w.heap.size a2 ((((Ux.Touch.refl _ w).alloc _).drew).drew) (heap_alloc_new w _) (by omega)
  have hg1x : g1 ≠ x1 ∧ g1 ≠ x2 := by
    have hd : (x1 :: (blk kv1 ++ ([gc1] ++ (fs1 ++ fs2)))).Nodup := hL0.1
    rcases bk1 with h | h
    · have hm1 : g1 ∈ blk kv1 := by simp [blk, h]
      refine ⟨fun e => ?_, fun e => hd1.2.2 g1 (hin1 g1 (.inr (.inl hm1))) x2 (hin2 x2 (.inl rfl)) e⟩
      exact (List.nodup_cons.1 hd).1 (by rw [← e]; simp [hm1])
    · have h1 := Ux.lt_of_heap a1
      have h2 := Ux.lt_of_heap b1
      exact ⟨by omega, by omega⟩
  have hkx : ∀ b, kv1.ownBlock = some b → b ≠ x1 ∧ b ≠ x2 := fun b hb => by
    have hm1 : b ∈ blk kv1 := by simp [blk, hb]
    exact ⟨fun e => (List.nodup_cons.1 hL0.1).1 (by rw [← e]; simp [hm1]), fun e => hd1.2.2 b (hin1 b (.inr (.inl hm1))) x2 (hin2 x2 (.inl rfl)) e⟩
  have hxa := tk1.heap a1 (fun h => (hkx _ h).1 rfl)
  have fxa : wa.frozen? ⟨x1, 0, none⟩ = false := frozen_of_row wa x1 0 _ 62 hxa
  have s1 := tk1.cell a10 (fun h => (hkx _ h).1 rfl)
  have HAPK := Lib.hid hapk
  obtain ⟨wb, hwb⟩ : ∃ wb, wa.setCell ⟨x1, 0, none⟩ (.slice (some ⟨g1, 0, none⟩) (ka.length + 1) cg1) = wb := ⟨_, rfl⟩
  have tb1 : Ux.Touch (fun b => b = x1) wa wb := by rw [← hwb]; exact (Ux.Touch.refl (fun b => b = x1) wa).setCell (p := ⟨x1, 0, none⟩) (fun _ => rfl) _
  have hxb : wb.heap[x1]? = some (.cells #[.slice (some ⟨g1, 0, none⟩) (ka.length + 1) cg1, .slice none 0 0, .slice (some ⟨gc1, 0, none⟩) ca.length cc1] 62 (0, 0)) := by
    rw [← hwb]
    have a := heap_setCell_same wa x1 0 _ 62 (.slice (some ⟨g1, 0, none⟩) (ka.length + 1) cg1) hxa
    simpa using a
  have TB : Ux.Touch (fun b => kv1.ownBlock = some b ∨ b = x1) w wb := (tk1.mono (fun _ _ h => .inl h) : Ux.Touch (fun b => kv1.ownBlock = some b ∨ b = x1) w wa).trans tb1 (fun b _ e => .inr e)
  have okb := Ux.own_touch ok1 tb1 (fun b hb e => by cases hb; exact hg1x.1 e)
  have hnB : ∀ b, b ∈ blk kv2 ∨ b ∈ blk cv2 ∨ b ∈ fs2 ∨ b = x2 → ¬ (kv1.ownBlock = some b ∨ b = x1) := fun b hb h => by
    have hb2 : b ∈ f2 := hin2 b (by rcases hb with h | h | h | h; exact .inr (.inl h); exact .inr (.inr (.inl h)); exact .inr (.inr (.inr h)); exact .inl h)
    have hb1 : b ∈ f1 := hin1 b (h.elim (fun h => .inr (.inl (by simp [blk, h]))) .inl)
    exact hd1.2.2 b hb1 b hb2 rfl
  have hnA : ∀ b, b = gc1 ∨ b ∈ fs1 → ¬ (kv1.ownBlock = some b ∨ b = x1) := fun b hb h => by
    have hd : (x1 :: (blk kv1 ++ ([gc1] ++ (fs1 ++ fs2)))).Nodup := hL0.1
    have hd2 := List.nodup_cons.1 hd
    rcases h with h | h
    · have h3 := List.nodup_append.1 hd2.2
      exact h3.2.2 b (by simp [blk, h]) b (by rcases hb with h | h <;> simp [h]) rfl
    · exact hd2.1 (by rw [← h]; rcases hb with h | h <;> simp [h])
  have ocb := Ux.own_touch a3 TB (fun b hb => by cases hb; exact hnA gc1 (.inl rfl))
  have ok2 := Ux.own_touch b2 TB (fun b hb => hnB b (.inl (by simp [blk, hb])))
  have oc2 := Ux.own_touch b3 TB (fun b hb => hnB b (.inr (.inl (by simp [blk, hb]))))
  have hx2b := TB.heap b1 (hnB x2 (.inr (.inr (.inr rfl))))
  obtain ⟨y10, y11, y12, _⟩ := blk3 hxb
  obtain ⟨y20, y21, y22, _⟩ := blk3 hx2b
  have hgc : gc1 ≠ x1 ∧ gc1 ≠ x2 ∧ gc1 ≠ g1 := by
    refine ⟨fun e => hnA gc1 (.inl rfl) (.inr e), fun e => hd1.2.2 gc1 (hin1 gc1 (.inr (.inr (.inl rfl)))) x2 (hin2 x2 (.inl rfl)) e, fun e => ?_⟩
    rcases bk1 with h | h
    · exact hnA gc1 (.inl rfl) (.inl (e ▸ h))
    · have := hlt12 gc1 (by simp [hin1 gc1 (.inr (.inr (.inl rfl)))])
      omega
  have HSS := Lib.hid (show ∀ w', Ux.Touch (fun b => b = g1 ∨ b = gc1) wb w' → w'.cell? ⟨x1, 0, none⟩ = some (.slice (some ⟨g1, 0, none⟩) (ka.length + 1) cg1) ∧ w'.cell? ⟨x2, 0, none⟩ = some kv2 ∧ w'.cell? ⟨x1, 1, none⟩ = some (.slice none 0 0) ∧ w'.cell? ⟨x2, 1, none⟩ = some (.slice none 0 0) ∧ w'.cell? ⟨x1, 2, none⟩ = some (.slice (some ⟨gc1, 0, none⟩) ca.length cc1) ∧ w'.cell? ⟨x2, 2, none⟩ = some cv2 from fun w' t => by
    have n1 : ¬ (x1 = g1 ∨ x1 = gc1) := fun h => h.elim (fun e => hg1x.1 e.symm) (fun e => hgc.1 e.symm)
    have n2 : ¬ (x2 = g1 ∨ x2 = gc1) := fun h => h.elim (fun e => hg1x.2 e.symm) (fun e => hgc.2.1 e.symm)
    exact ⟨t.cell y10 n1, t.cell y20 n2, t.cell y11 n1, t.cell y21 n2, t.cell y12 n1, t.cell y22 n2⟩)
  -- the three appends
  have TD : Ux.Touch (fun _ => False) wb wb.drew := (Ux.Touch.refl _ wb).drew
  obtain ⟨rk, w1, hap1, o1, t1, bkk, _⟩ := appendS (.slice (some ⟨g1, 0, none⟩) (ka.length + 1) cg1) kv2 (ka.length + 1) kb.length _ _ wb.drew (Ux.own_touch okb TD (fun _ _ f => f)) (Ux.own_touch ok2 TD (fun _ _ f => f)) (by intro u hu; obtain ⟨p, _, rfl⟩ := List.mem_map.1 hu; rfl) (by omega)
  obtain ⟨gk, ck, _, rfl, _⟩ := Ux.own_pos o1 (by omega)
  have hbk : gk = g1 ∨ wb.heap.size ≤ gk := bkk.elim (fun h => .inl (by simpa [Value.ownBlock] using h)) (fun ⟨g2, e, h⟩ => .inr (by cases e; exact h))
  have t1' : Ux.Touch (fun b => b = g1) wb w1 := ((TD.mono (fun _ _ f => f.elim) : Ux.Touch (fun b => b = g1) wb wb.drew)).trans t1 (fun b _ h => by cases h; rfl)
  have hcvb : ∀ b ∈ blk cv2, b ≠ g1 ∧ b ≠ gc1 := fun b hb => by
    have hb2 := hin2 b (.inr (.inr (.inl hb)))
    refine ⟨fun e => ?_, fun e => hd1.2.2 gc1 (hin1 gc1 (.inr (.inr (.inl rfl)))) b hb2 e.symm⟩
    rcases bk1 with h | h
    · exact hd1.2.2 g1 (hin1 g1 (.inr (.inl (by simp [blk, h])))) b hb2 e.symm
    · have := hlt12 b (by simp [hb2])
      omega
  obtain ⟨rc, w2, hap2, o2, t2, bkc, _⟩ := appendP (.slice (some ⟨gc1, 0, none⟩) ca.length cc1) cv2 ca.length cb.length _ _ w1 (Ux.own_touch ocb t1' (fun b hb e => by cases hb; exact hgc.2.2 e)) (Ux.own_touch oc2 t1' (fun b hb e => (hcvb b (by simp [blk, hb])).1 e)) (by intro u hu; obtain ⟨p, _, rfl⟩ := List.mem_map.1 hu; rfl) (by omega)
  obtain ⟨gc, cgc, _, rfl, _⟩ := Ux.own_pos o2 (by omega)
  have hbc : gc = gc1 ∨ w1.heap.size ≤ gc := bkc.elim (fun h => .inl (by simpa [Value.ownBlock] using h)) (fun ⟨g2, e, h⟩ => .inr (by cases e; exact h))
  have TW1 : Ux.Touch (fun b => b = g1 ∨ b = gc1) wb w1 := t1'.mono (fun _ _ h => .inl h)
  have TW2 : Ux.Touch (fun b => b = g1 ∨ b = gc1) wb w2 := TW1.trans t2 (fun b _ h => .inr (by cases h; rfl))
  have hz := append_nilsI w1
  have HAP1 := Lib.hid hap1
  have HAP2 := Lib.hid hap2
  have HZ := Lib.hid hz
  have HTW := Lib.hid (And.intro TW1 TW2)
  -- the merged node
  have hx2w := TW2.heap hxb (fun h => h.elim (fun e => hg1x.1 e.symm) (fun e => hgc.1 e.symm))
  have fr2 : ∀ i, w2.frozen? ⟨x1, i, none⟩ = false := fun i => frozen_of_row w2 x1 i _ 62 hx2w
  obtain ⟨w3, hw3⟩ : ∃ w3, ((w2.setCell ⟨x1, 0, none⟩ (.slice (some ⟨gk, 0, none⟩) (ka.length + 1 + kb.length) ck)).setCell ⟨x1, 1, none⟩ (.slice none 0 0)).setCell ⟨x1, 2, none⟩ (.slice (some ⟨gc, 0, none⟩) (ca.length + cb.length) cgc) = w3 := ⟨_, rfl⟩
  have T3 : Ux.Touch (fun b => b = x1) w2 w3 := by rw [← hw3]; exact (((Ux.Touch.refl (fun b => b = x1) w2).setCell (p := ⟨x1, 0, none⟩) (fun _ => rfl) _).setCell (p := ⟨x1, 1, none⟩) (fun _ => rfl) _).setCell (p := ⟨x1, 2, none⟩) (fun _ => rfl) _
  have hx3 : w3.heap[x1]? = some (.cells #[.slice (some ⟨gk, 0, none⟩) (ka.length + 1 + kb.length) ck, .slice none 0 0, .slice (some ⟨gc, 0, none⟩) (ca.length + cb.length) cgc] 62 (0, 0)) := by
    rw [← hw3]
    have a := heap_setCell_same w2 x1 0 _ 62 (.slice (some ⟨gk, 0, none⟩) (ka.length + 1 + kb.length) ck) hx2w
    have b := heap_setCell_same _ x1 1 _ 62 (.slice none 0 0) a
    have c := heap_setCell_same _ x1 2 _ 62 (.slice (some ⟨gc, 0, none⟩) (ca.length + cb.length) cgc) b
    simpa using c
  have hgk1 : gk < w1.heap.size := Ux.own_lt o1 gk rfl
  have hgkc : gk ≠ gc := fun e => by
    rcases hbc with h | h
    · rcases hbk with h' | h'
      · exact hgc.2.2 (by rw [← h, ← e, h'])
      · have h1 := hlt12 gc1 (by simp [hin1 gc1 (.inr (.inr (.inl rfl)))])
        have h2 := TB.size
        omega
    · omega
  have hgkx : gk ≠ x1 := fun e => by
    rcases hbk with h | h
    · exact hg1x.1 (by rw [← h]; exact e)
    · have h1 := Ux.lt_of_heap a1
      have h2 := TB.size
      omega
  have hgcx : gc ≠ x1 := fun e => by
    rcases hbc with h | h
    · exact hgc.1 (by rw [← h]; exact e)
    · have h1 := Ux.lt_of_heap a1
      have h2 := TB.size
      have h3 := t1'.size
      omega
  have hgk0 : gk ∈ blk kv1 ∨ w.heap.size ≤ gk := by
    rcases hbk with h | h
    · rcases bk1 with h' | h'
      · exact .inl (by rw [h]; simp [blk, h'])
      · exact .inr (by omega)
    · exact .inr (Nat.le_trans TB.size h)
  have hgc0 : gc = gc1 ∨ w1.heap.size ≤ gc := hbc
  have hL1 := Ux.fp_swap (fc' := [gk]) hL0.1 (fun b hb => hlt12 b (hL0.2 b hb)) (by simp) (fun b hb => by simp at hb; subst hb; exact hgk0)
  have hw1 : w.heap.size ≤ w1.heap.size := Nat.le_trans TB.size t1'.size
  have hL2 : (([x1] ++ [gk]) ++ ([gc1] ++ (fs1 ++ fs2))).Nodup := by simpa using hL1
  have hL2b : ∀ b ∈ ([x1] ++ [gk]) ++ ([gc1] ++ (fs1 ++ fs2)), b < w1.heap.size := fun b hb => by
    have old : b ∈ [x1] ++ (blk kv1 ++ ([gc1] ++ (fs1 ++ fs2))) → b < w1.heap.size := fun h => Nat.lt_of_lt_of_le (hlt12 b (hL0.2 b h)) hw1
    simp only [List.mem_append, List.mem_cons, List.not_mem_nil, or_false] at hb
    rcases hb with (h | h) | h | h | h
    · exact old (by simp [h])
    · rw [h]; exact hgk1
    · exact old (by simp [h])
    · exact old (by simp [h])
    · exact old (by simp [h])
  have hL3 := Ux.fp_swap (fc' := [gc]) hL2 hL2b (by simp) (fun b hb => by simp at hb; subst hb; rcases hgc0 with h | h; exact .inl (by simp [h]); exact .inr h)
  have TWA : Ux.Touch (fun b => b ∈ f1) w w3 := by
    have A : Ux.Touch (fun b => b ∈ f1) w wb := TB.mono (fun b _ h => h.elim (fun h => hin1 b (.inr (.inl (by simp [blk, h])))) (fun e => hin1 b (.inl e)))
    have B := A.trans TW2 (fun b hb h => by
      rcases h with h | h
      · rcases bk1 with h' | h'
        · exact hin1 b (.inr (.inl (by rw [h]; simp [blk, h'])))
        · omega
      · exact hin1 b (.inr (.inr (.inl h))))
    exact B.trans T3 (fun b _ e => hin1 b (.inl e))
  have far : ∀ b, b ∈ fs1 ∨ b ∈ fs2 → b < w.heap.size ∧ ¬ (kv1.ownBlock = some b ∨ b = x1) ∧ ¬ (b = g1 ∨ b = gc1) ∧ ¬ b = x1 := fun b hb => by
    have hbt : b < w.heap.size := hlt12 b (by rcases hb with h | h; simp [hin1 b (.inr (.inr (.inr h)))]; simp [hin2 b (.inr (.inr (.inr h)))])
    have e1 : ¬ (kv1.ownBlock = some b ∨ b = x1) := by rcases hb with h | h; exact hnA b (.inr h); exact hnB b (.inr (.inr (.inl h)))
    have e2 : b ≠ gc1 := fun e => by
      have hd : (x1 :: (blk kv1 ++ ([gc1] ++ (fs1 ++ fs2)))).Nodup := hL0.1
      have h3 := (List.nodup_append.1 (List.nodup_cons.1 hd).2).2.1
      have h4 := List.nodup_cons.1 (show (gc1 :: (fs1 ++ fs2)).Nodup from h3)
      exact h4.1 (by rw [← e]; rcases hb with h | h <;> simp [h])
    refine ⟨hbt, e1, fun h => h.elim (fun e => ?_) e2, fun e => e1 (.inr e)⟩
    rcases bk1 with h' | h'
    · exact e1 (.inl (by rw [e]; exact h'))
    · omega
  have hN3 : NodeAt w3 (.node (ka ++ s :: kb) (ca ++ cb)) x1 (x1 :: ([gk] ++ [gc] ++ (fs1 ++ fs2))) := by
    refine ⟨.slice (some ⟨gk, 0, none⟩) (ka.length + 1 + kb.length) ck, .slice (some ⟨gc, 0, none⟩) (ca.length + cb.length) cgc, xs1 ++ xs2, fs1 ++ fs2, hx3, ?_, ?_, ?_, rfl⟩
    · have e1 : (ka ++ s :: kb).length = ka.length + 1 + kb.length := by simp; omega
      have e2 : (ka ++ s :: kb).map Value.string = (ka.map .string ++ [.string s]) ++ kb.map .string := by simp
      rw [e1, e2]
      exact Ux.own_touch (Ux.own_touch o1 t2 (fun b hb e => by cases hb; cases e; rcases hbk with h | h; exact hgc.2.2 h; exact absurd (hlt12 gc1 (by simp [hin1 gc1 (.inr (.inr (.inl rfl)))])) (by have := TB.size; omega))) T3 (fun b hb e => by cases hb; exact hgkx e)
    · rw [List.length_append, List.map_append]
      exact Ux.own_touch o2 T3 (fun b hb e => by cases hb; exact hgcx e)
    · refine NodesAt.append (((a4.touch TB (fun b hb => (far b (.inl hb)).2.1)).touch TW2 (fun b hb => (far b (.inl hb)).2.2.1)).touch T3 (fun b hb => (far b (.inl hb)).2.2.2)) (((b4.touch TB (fun b hb => (far b (.inr hb)).2.1)).touch TW2 (fun b hb => (far b (.inr hb)).2.2.1)).touch T3 (fun b hb => (far b (.inr hb)).2.2.2))
  have hfmem : ∀ b ∈ x1 :: ([gk] ++ [gc] ++ (fs1 ++ fs2)), b ∈ f1 ++ f2 ∨ w.heap.size ≤ b := fun b hb => by
    simp only [List.mem_append, List.mem_cons, List.not_mem_nil, or_false] at hb
    rcases hb with h | (h | h) | h | h
    · exact .inl (by simp [hin1 b (.inl h)])
    · rw [h]
      rcases hgk0 with h' | h'
      · exact .inl (by simp [hin1 gk (.inr (.inl h'))])
      · exact .inr h'
    · rw [h]
      rcases hgc0 with h' | h'
      · exact .inl (by simp [hin1 gc (.inr (.inr (.inl h')))])
      · exact .inr (Nat.le_trans hw1 h')
    · exact .inl (by simp [hin1 b (.inr (.inr (.inr h)))])
    · exact .inl (by simp [hin2 b (.inr (.inr (.inr h)))])
  have htb3 : w3.cell? ⟨tb, 0, none⟩ = some (.int .i64 fan) := by
    obtain ⟨_, _, ht⟩ := hc
    have h3 := TWA.heap ht (fun h => htb (by rw [hfpe]; simp [h]))
    rw [cell_of_row w3 tb 0 _ 64 (0, 0) h3]; rfl
  obtain ⟨M, hM⟩ : ∃ M, mrg (.node ka ca) s (.node kb cb) = M := ⟨_, rfl⟩
  obtain ⟨fm, hfm⟩ : ∃ fm, x1 :: ([gk] ++ [gc] ++ (fs1 ++ fs2)) = fm := ⟨_, rfl⟩
  have HMM := Lib.hid (show NodeAt w3 M x1 fm ∧ fm.Nodup ∧ (∀ b ∈ fm, b ∈ f1 ++ f2 ∨ w.heap.size ≤ b) ∧ Ux.Touch (fun b => b ∈ f1 ++ f2) w w3 ∧ Shp M ∧ 2 ≤ M.size ∧ M.size ≤ 128 from by
    refine ⟨by rw [← hM, ← hfm]; exact hN3, by rw [← hfm]; simpa using hL3, by rw [← hfm]; exact hfmem, TWA.mono (fun b _ h => by simp [h]), by rw [← hM]; exact ⟨by simp; omega, Ux.Shps.mk (fun t ht => (List.mem_append.1 ht).elim (fun h => sh1.2.mem t h) (fun h => sh2.2.mem t h))⟩, ?_, ?_⟩
    · rw [← hM]; simp only [mrg, T.size, List.length_append]; omega
    · rw [← hM]; simp only [mrg, T.size, List.length_append]; omega)
  have HEQ := Lib.hid (show joinT fan (Ka ++ s :: Kb) (A ++ .node ka ca :: .node kb cb :: B) i = if fan < M.size then .node (Ka ++ halfK M :: Kb) (A ++ half1 M :: half2 M :: B) else .node (Ka ++ Kb) (A ++ M :: B) from by
    rw [← hM, ← hi]
    exact Ux.joinT_at hK)
  have HW3 := Lib.hid hw3
  have HWB := Lib.hid hwb
  have s2 := (((Ux.Touch.refl (fun _ => False) w).alloc (.cells #[.string s] 9)).drew).drew
  have s20 := s2.cell a10 (fun f => f)
  have s21 := s2.cell c0 (fun f => f)
  have s22 := s2.cell hkey (fun f => f)
  have hkx2 : ¬ x1 = x := fun e => (hap.2.1 x1 (by simp [hin1 x1 (.inl rfl)])).1 e
  have nkv : ∀ b, kv1.ownBlock = some b → b ≠ x ∧ b ≠ gK := fun b hb => by
    have := hap.2.1 b (by simp [hin1 b (.inr (.inl (by simp [blk, hb])))])
    exact ⟨this.1, this.2.2.1⟩
  have s31 := tk1.cell c0 (fun h => (nkv _ h).1 rfl)
  have s32 := tk1.cell hkey (fun h => (nkv _ h).2 rfl)
  clear HJ hkey frK frG hBl hgK hkK q1 q2 q3 q4 na nb a1 a2 a3 a4 b1 b2 b3 b4 hfpe hf1 hf2 hnd htb hlen hK hsz hi hm hm' h1 h2 hs2 hc hg hcs htk hla hnc hcm sh1 sh2 hin1 hin2 hnd12 hlt12 hd1 hL0 hx12 hap l1 l2
    hapk ok1 tk1 bk1 hg1x hkx hxa hwb tb1 hxb TB okb hnB hnA ocb ok2 oc2 hx2b hgc TD hap1 o1 t1 bkk hbk t1' hcvb hap2 o2 t2 bkc hbc TW1 TW2 hz hx2w hw3 T3 hx3 hgk1 hgkc hgkx hgcx hgk0 hgc0 hL1 hw1 hL2 hL2b hL3 TWA far hN3 hfmem hM hfm s2 nkv hKl y11 y12 y21 y22 y10 y20 frA frB a11 b10 b11 b12
  have hkey := HHJ.out.2.1
  go_enter Try.func42, Try.ntmps42
  go_wp2_with fail
  refine Ux.wp_region_plan (fun _ w' => w'.cell? ⟨x, 2, none⟩ = some (.slice (some ⟨g, 0, none⟩) m cc) ∧ w'.cell? ⟨g, i, none⟩ = some (.pointer (some ⟨x1, 0, none⟩)) ∧ w'.cell? ⟨g, i + 1, none⟩ = some (.pointer (some ⟨x2, 0, none⟩))) (.q [0, 1, 2, 4, 7, 8, 9, 11, 12] (.h false [3, 10] (.q [5, 13] (.h false [6, 14] (.q [15] (.line [16]))))))
    (by kernel_rfl) (by kernel_rfl) (by intro _ _ d _ _ h; cases d <;> exact h) ?hS ?_
  case hS => (intro c; cases c <;> (simp only [World.cell?_drew]; first | exact True.intro | (refine ⟨?_, ?_⟩ <;> assumption) | assumption | (repeat (first | assumption | (refine And.intro ?_ ?_)))))
  simp only [Ux.wpPlan, Ux.pickOps, Ux.keeps, List.getElem?_toArray, List.getElem?_cons_succ, List.getElem?_cons_zero]
  repeat (first
    | go_big_quiet_step (fail)
    | (with_reducible refine wpQuiet_nil ?_)
    | (refine Ux.quiet_held rfl ?_; apply Exists.intro; refine ⟨fun w' hS => ?_, ?_⟩; (focus ((try dsimp only at hS); go_simp; first | done | with_reducible rfl)); simp only [Act.put, List.setIfInBounds_toArray, List.set_cons_zero, List.set_cons_succ]))
  go_wp2_with fail
  refine Ux.wp_region_plan (fun _ w' => w'.cell? ⟨x1, 0, none⟩ = some kv1 ∧ w'.cell? ⟨x, 0, none⟩ = some (.slice (some ⟨gK, 0, none⟩) K0 cK) ∧ w'.cell? ⟨gK, i, none⟩ = some (.string s)) (.q [0, 1, 2, 3, 5, 6, 7, 9] (.h false [4, 8] (.q [10] (.h false [11] (.e 12 true false (.e 13 true false (.line [14, 15, 16])))))))
    (by kernel_rfl) (by kernel_rfl) (by intro _ _ d _ _ h; cases d <;> exact h) ?hS ?_
  case hS => (intro c; cases c <;> (simp only [World.cell?_drew]; first | exact True.intro | (refine ⟨?_, ?_⟩ <;> assumption) | assumption | (repeat (first | assumption | (refine And.intro ?_ ?_)))))
  simp only [Ux.wpPlan, Ux.pickOps, Ux.keeps, List.getElem?_toArray, List.getElem?_cons_succ, List.getElem?_cons_zero]
  repeat (first
    | go_big_quiet_step (fail)
    | (with_reducible refine wpQuiet_nil ?_)
    | (refine Ux.quiet_held rfl ?_; apply Exists.intro; refine ⟨fun w' hS => ?_, ?_⟩; (focus ((try dsimp only at hS); go_simp; first | done | with_reducible rfl)); simp only [Act.put, List.setIfInBounds_toArray, List.set_cons_zero, List.set_cons_succ]))
  go_wp2_with fail
  refine ⟨⟨s20, s21, s22⟩, ?_⟩
  repeat (first
    | go_big_quiet_step (fail)
    | (with_reducible refine wpQuiet_nil ?_)
    | (refine Ux.quiet_held rfl ?_; apply Exists.intro; refine ⟨fun w' hS => ?_, ?_⟩; (focus ((try dsimp only at hS); go_simp; first | done | with_reducible rfl)); simp only [Act.put, List.setIfInBounds_toArray, List.set_cons_zero, List.set_cons_succ]))
  go_wp2_with (at_builtin; refine Lib.wpList_append_run _ rfl _ _ _ _ rfl _ _ rfl rfl _ _ (HAPK.out _) ?_)
  refine ⟨⟨s1, s31, s32⟩, ?_⟩
  repeat (first
    | go_big_quiet_step (fail)
    | (with_reducible refine wpQuiet_nil ?_)
    | (refine Ux.quiet_held rfl ?_; apply Exists.intro; refine ⟨fun w' hS => ?_, ?_⟩; (focus ((try dsimp only at hS); go_simp; first | done | with_reducible rfl)); simp only [Act.put, List.setIfInBounds_toArray, List.set_cons_zero, List.set_cons_succ]))
  go_wp2_with fail
  rw [HWB.out]
  obtain ⟨v0, v1, v2, v3, v4, v5⟩ := HSS.out wb (Ux.Touch.refl _ wb)
  refine Ux.wp_region_plan (fun _ w' => w'.cell? ⟨x1, 0, none⟩ = some (.slice (some ⟨g1, 0, none⟩) (ka.length + 1) cg1) ∧ w'.cell? ⟨x2, 0, none⟩ = some kv2 ∧ w'.cell? ⟨x1, 1, none⟩ = some (.slice none 0 0) ∧ w'.cell? ⟨x2, 1, none⟩ = some (.slice none 0 0) ∧ w'.cell? ⟨x1, 2, none⟩ = some (.slice (some ⟨gc1, 0, none⟩) ca.length cc1) ∧ w'.cell? ⟨x2, 2, none⟩ = some cv2) (.q [0, 1, 2, 3, 4, 5, 7, 8, 9, 12, 13, 14, 16, 17, 18, 21, 22, 23, 25, 26, 27] (.h false [6, 10, 15, 19, 24, 28] (.e 11 true false (.e 20 true false (.e 29 true false (.q [30, 31] (.e 32 false false (.q [33, 34] (.e 35 false false (.line [36, 37, 38]))))))))))
    (by kernel_rfl) (by kernel_rfl) (by intro _ _ d _ _ h; cases d <;> exact h) ?hS ?_
  case hS => (intro c; cases c <;> (simp only [World.cell?_drew]; first | exact True.intro | (refine ⟨?_, ?_⟩ <;> assumption) | assumption | (repeat (first | assumption | (refine And.intro ?_ ?_)))))
  simp only [Ux.wpPlan, Ux.pickOps, Ux.keeps, List.getElem?_toArray, List.getElem?_cons_succ, List.getElem?_cons_zero]
  repeat (first
    | go_big_quiet_step (fail)
    | (with_reducible refine wpQuiet_nil ?_)
    | (refine Ux.quiet_held rfl ?_; apply Exists.intro; refine ⟨fun w' hS => ?_, ?_⟩; (focus ((try dsimp only at hS); go_simp; first | done | with_reducible rfl)); simp only [Act.put, List.setIfInBounds_toArray, List.set_cons_zero, List.set_cons_succ]))
  go_wp2_with (at_builtin; refine Lib.wpList_append_run _ rfl _ _ _ _ rfl _ _ rfl rfl _ _ (HAP1.out _) ?_)
  refine ⟨HSS.out _ HTW.out.1, ?_⟩
  repeat (first
    | go_big_quiet_step (fail)
    | (with_reducible refine wpQuiet_nil ?_)
    | (refine Ux.quiet_held rfl ?_; apply Exists.intro; refine ⟨fun w' hS => ?_, ?_⟩; (focus ((try dsimp only at hS); go_simp; first | done | with_reducible rfl)); simp only [Act.put, List.setIfInBounds_toArray, List.set_cons_zero, List.set_cons_succ]))
  go_wp2_with (at_builtin; refine Lib.wpList_append_run _ rfl _ _ _ _ rfl _ _ rfl rfl _ _ (HZ.out _) ?_)
  refine ⟨HSS.out _ HTW.out.1, ?_⟩
  repeat (first
    | go_big_quiet_step (fail)
    | (with_reducible refine wpQuiet_nil ?_)
    | (refine Ux.quiet_held rfl ?_; apply Exists.intro; refine ⟨fun w' hS => ?_, ?_⟩; (focus ((try dsimp only at hS); go_simp; first | done | with_reducible rfl)); simp only [Act.put, List.setIfInBounds_toArray, List.set_cons_zero, List.set_cons_succ]))
  go_wp2_with (at_builtin; refine Lib.wpList_append_run _ rfl _ _ _ _ rfl _ _ rfl rfl _ _ (HAP2.out _) ?_)
  refine ⟨HSS.out _ HTW.out.2, ?_⟩
  obtain ⟨e10, _, e11, _, e12, _⟩ := HSS.out _ HTW.out.2
  repeat (first
    | go_big_quiet_step (fail)
    | (with_reducible refine wpQuiet_nil ?_)
    | (refine Ux.quiet_held rfl ?_; apply Exists.intro; refine ⟨fun w' hS => ?_, ?_⟩; (focus ((try dsimp only at hS); go_simp; first | done | with_reducible rfl)); simp only [Act.put, List.setIfInBounds_toArray, List.set_cons_zero, List.set_cons_succ]))
  go_wp2_with fail
  repeat (first
    | go_big_quiet_step (fail)
    | (with_reducible refine wpQuiet_nil ?_)
    | (refine Ux.quiet_held rfl ?_; apply Exists.intro; refine ⟨fun w' hS => ?_, ?_⟩; (focus ((try dsimp only at hS); go_simp; first | done | with_reducible rfl)); simp only [Act.put, List.setIfInBounds_toArray, List.set_cons_zero, List.set_cons_succ]))
  go_wp2_with fail
  rw [HW3.out]
  clear v0 v1 v2 v3 v4 v5 e10 e11 e12 fr2
  have SZ := size34 w3.drew (HMM.out.1.touch (Ux.Touch.refl (fun _ => False) w3).drew (fun _ _ f => f)) HMM.out.2.2.2.2.1
  obtain ⟨ms, hms⟩ : ∃ ms, M.size = ms := ⟨_, rfl⟩
  rw [hms] at SZ
  have HSZ := Lib.hid SZ
  have HMS := Lib.hid hms
  clear SZ hms
  -- x's own cells behind the merging
  have hap := HHJ.out.1.apart
  have nofx : ∀ b, b = x ∨ b = g ∨ b = gK → ¬ (b ∈ f1 ++ f2) := fun b e hb => by have := hap.2.1 b hb; rcases e with e | e | e <;> simp [e] at this
  have e0 := HMM.out.2.2.2.1.cell HK2.out.2.1 (nofx x (.inl rfl))
  have e2 := HMM.out.2.2.2.1.cell HK2.out.2.2 (nofx x (.inl rfl))
  obtain ⟨K, hKK⟩ : ∃ K, (Ka ++ s :: Kb).length = K := ⟨_, rfl⟩
  rw [hKK] at e0
  have j5 : (i : Int) < K := by have h1 := HM.out.1; have h2 := HM.out.2.2.2; omega
  have j6 : (K : Int) ≤ 64 := by have h1 := HM.out.1; have h2 := HM.out.2.2.2; omega
  have HKK := Lib.hid hKK
  have HNF := Lib.hid nofx
  clear hap nofx hKK
  refine Ux.wp_region_plan (fun _ w' => w'.cell? ⟨tb, 0, none⟩ = some (.int .i64 fan)) (.q [0, 2, 3, 4] (.h false [5] (.e 1 true false (.q [6] (.line [])))))
    (by kernel_rfl) (by kernel_rfl) (by intro _ _ d _ _ h; cases d <;> exact h) ?hS ?_
  case hS => (intro c; cases c <;> (simp only [World.cell?_drew]; first | exact True.intro | (refine ⟨?_, ?_⟩ <;> assumption) | assumption | (repeat (first | assumption | (refine And.intro ?_ ?_)))))
  simp only [Ux.wpPlan, Ux.pickOps, Ux.keeps, List.getElem?_toArray, List.getElem?_cons_succ, List.getElem?_cons_zero]
  repeat (first
    | go_big_quiet_step (fail)
    | (with_reducible refine wpQuiet_nil ?_)
    | (refine Ux.quiet_held rfl ?_; apply Exists.intro; refine ⟨fun w' hS => ?_, ?_⟩; (focus ((try dsimp only at hS); go_simp; first | done | with_reducible rfl)); simp only [Act.put, List.setIfInBounds_toArray, List.set_cons_zero, List.set_cons_succ]))
  go_wp2_with (go_at_call 34; refine HSZ.out.mono ?_; rintro e w4 ⟨rfl, rfl⟩)
  refine ⟨htb3, ?_⟩
  repeat (first
    | go_big_quiet_step (fail)
    | (with_reducible refine wpQuiet_nil ?_)
    | (refine Ux.quiet_held rfl ?_; apply Exists.intro; refine ⟨fun w' hS => ?_, ?_⟩; (focus ((try dsimp only at hS); go_simp; first | done | with_reducible rfl)); simp only [Act.put, List.setIfInBounds_toArray, List.set_cons_zero, List.set_cons_succ]))
  by_cases hbig : fan < ms
  · have HALF := half35 M x1 fm w3.drew.drew (HMM.out.1.touch (Ux.Touch.refl (fun _ => False) w3).drew.drew (fun _ _ f => f)) HMM.out.2.2.2.2.1 HMM.out.2.1 (by have := HMS.out; omega) (by have := HMM.out.2.2.2.2.2.2; omega)
    have HH := Lib.hid HALF
    clear HALF
    go_wp2_with (fail)
    refine Ux.wp_region_plan (fun _ w' => w'.cell? ⟨x, 2, none⟩ = some (.slice (some ⟨g, 0, none⟩) m cc) ∧ w'.cell? ⟨x, 0, none⟩ = some (.slice (some ⟨gK, 0, none⟩) K cK)) (.q [0, 1, 2, 4, 5, 6, 7, 8, 10, 11] (.h false [3, 9] (.e 12 true false (.q [13, 14, 15, 16] (.e 17 false false (.line [18, 19]))))))
      (by kernel_rfl) (by kernel_rfl) (by intro _ _ d _ _ h; cases d <;> exact h) ?hS ?_
    case hS => (intro c; cases c <;> (simp only [World.cell?_drew]; first | exact True.intro | (refine ⟨?_, ?_⟩ <;> assumption) | assumption | (repeat (first | assumption | (refine And.intro ?_ ?_)))))
    simp only [Ux.wpPlan, Ux.pickOps, Ux.keeps, List.getElem?_toArray, List.getElem?_cons_succ, List.getElem?_cons_zero]
    repeat (first
      | go_big_quiet_step (fail)
      | (with_reducible refine wpQuiet_nil ?_)
      | (refine Ux.quiet_held rfl ?_; apply Exists.intro; refine ⟨fun w' hS => ?_, ?_⟩; (focus ((try dsimp only at hS); go_simp; first | done | with_reducible rfl)); simp only [Act.put, List.setIfInBounds_toArray, List.set_cons_zero, List.set_cons_succ]))
    go_wp2_with (go_at_call 35; fail)
    refine HH.out.mono ?_
    rintro e w4 ⟨y, fm1, fm2, rfl, hn1, hn2, hnd2, hf1', hf2', T4⟩
    simp only [ptr]
    have T34 : Ux.Touch (fun b => b ∈ f1 ++ f2) w w4 := HMM.out.2.2.2.1.drew.drew.trans T4 (fun b hb h => (HMM.out.2.2.1 b h).elim id (fun h => by omega))
    have d0 := T34.cell HK2.out.2.1 (HNF.out x (.inl rfl))
    have d2 := T34.cell HK2.out.2.2 (HNF.out x (.inl rfl))
    rw [HKK.out] at d0
    have dk2 := T34.cell HK2.out.1 (HNF.out g (.inr (.inl rfl)))
    have dkey := T34.cell HHJ.out.2.1 (HNF.out gK (.inr (.inr rfl)))
    have dfk : w4.frozen? ⟨gK, i, none⟩ = false := by
      obtain ⟨_, _, cur, e, _, _, hh, _, _⟩ := Ux.own_pos (Ux.own_touch HHJ.out.1.keys T34 (fun b hb => by cases hb; exact HNF.out gK (.inr (.inr rfl)))) (by simp; omega)
      cases e
      exact frozen_of_row w4 gK i _ 9 hh
    have dfg : w4.frozen? ⟨g, i + 1, none⟩ = false := by
      obtain ⟨_, _, cur, e, _, _, hh, _, _⟩ := Ux.own_pos (Ux.own_touch HHJ.out.1.kids T34 (fun b hb => by cases hb; exact HNF.out g (.inr (.inl rfl)))) (by omega)
      cases e
      exact frozen_of_row w4 g (i + 1) _ 59 hh
    have hgg := HHJ.out.1.apart.1.2.2
    have hgg2 : ¬ gK = g := fun e => hgg e.symm
    have FIN := Ux.join_big (k := halfK M) HHJ.out.1 HM.out.2.2.2.1 hn1 hn2 hnd2 (fun b hb => by
      rcases List.mem_append.1 hb with h | h
      · exact HMM.out.2.2.1 b (hf1' b h)
      · rcases hf2' b h with h | h
        · exact HMM.out.2.2.1 b h
        · exact .inr (Nat.le_trans HMM.out.2.2.2.1.size h)) T34
    have HFIN := Lib.hid FIN
    clear hn1 hn2 hnd2 hf1' hf2' T4 T34 FIN e0 e2
    go_wp2_with (fail)
    refine ⟨⟨d2, d0⟩, ?_⟩
    repeat (first
      | go_big_quiet_step (fail)
      | (with_reducible refine wpQuiet_nil ?_)
      | (refine Ux.quiet_held rfl ?_; apply Exists.intro; refine ⟨fun w' hS => ?_, ?_⟩; (focus ((try dsimp only at hS); go_simp; first | done | with_reducible rfl)); simp only [Act.put, List.setIfInBounds_toArray, List.set_cons_zero, List.set_cons_succ]))
    go_wp2_with (fail)
    repeat (first
      | go_big_quiet_step (fail)
      | (with_reducible refine wpQuiet_nil ?_)
      | (refine Ux.quiet_held rfl ?_; apply Exists.intro; refine ⟨fun w' hS => ?_, ?_⟩; (focus ((try dsimp only at hS); go_simp; first | done | with_reducible rfl)); simp only [Act.put, List.setIfInBounds_toArray, List.set_cons_zero, List.set_cons_succ]))
    go_wp2_with (fail)
    go_returns
    refine ⟨rfl, ?_⟩
    rw [HEQ.out, HMS.out, if_pos hbig]
    exact HFIN.out
  · go_wp2_with (fail)
    refine Ux.wp_region_plan (fun _ w' => w'.cell? ⟨x, 2, none⟩ = some (.slice (some ⟨g, 0, none⟩) m cc) ∧ w'.cell? ⟨x, 0, none⟩ = some (.slice (some ⟨gK, 0, none⟩) K cK)) (.q [0, 1, 2, 3, 4, 6, 7, 8, 9, 11, 12, 13, 15, 16, 17] (.h false [5, 14] (.e 10 true false (.e 18 true false (.q [19, 20] (.e 21 false false (.line [22, 23, 24])))))))
      (by kernel_rfl) (by kernel_rfl) (by intro _ _ d _ _ h; cases d <;> exact h) ?hS ?_
    case hS => (intro c; cases c <;> (simp only [World.cell?_drew]; first | exact True.intro | (refine ⟨?_, ?_⟩ <;> assumption) | assumption | (repeat (first | assumption | (refine And.intro ?_ ?_)))))
    simp only [Ux.wpPlan, Ux.pickOps, Ux.keeps, List.getElem?_toArray, List.getElem?_cons_succ, List.getElem?_cons_zero]
    repeat (first
      | go_big_quiet_step (fail)
      | (with_reducible refine wpQuiet_nil ?_)
      | (refine Ux.quiet_held rfl ?_; apply Exists.intro; refine ⟨fun w' hS => ?_, ?_⟩; (focus ((try dsimp only at hS); go_simp; first | done | with_reducible rfl)); simp only [Act.put, List.setIfInBounds_toArray, List.set_cons_zero, List.set_cons_succ]))
    have em : A.length + (B.length + 2) = m := by have := HM.out.2.2.2.2; simp at this; omega
    have OC3 := Ux.own_touch (Ux.own_touch HHJ.out.1.kids HMM.out.2.2.2.1 (fun b hb => by cases hb; exact HNF.out g (.inr (.inl rfl)))) ((Ux.Touch.refl (fun _ => False) w3).drew.drew) (fun _ _ f => f)
    have OK3 := Ux.own_touch (Ux.own_touch HHJ.out.1.keys HMM.out.2.2.2.1 (fun b hb => by cases hb; exact HNF.out gK (.inr (.inr rfl)))) ((Ux.Touch.refl (fun _ => False) w3).drew.drew) (fun _ _ f => f)
    rw [em] at OC3
    rw [HKK.out] at OK3
    have hapx := HHJ.out.1.apart.1
    have DP := deleteP (.slice (some ⟨g, 0, none⟩) m cc) m (i + 1) _ w3.drew.drew OC3 (by omega) (by intro u hu; obtain ⟨p, _, rfl⟩ := List.mem_map.1 hu; rfl)
    rw [show ((i + 1 : Nat) : Int) = i + 1 from by omega, show (i : Int) + 1 + 1 = i + 2 from by omega] at DP
    have HDP := Lib.hid DP
    have HO := Lib.hid (And.intro OK3 hapx)
    clear DP OC3 OK3 em hapx
    go_wp2_with fail
    refine HDP.out.mono ?_
    rintro e W1 ⟨v1, rfl, o1, T1, b1, _⟩
    obtain ⟨c1', rfl⟩ := del_formJ o1 b1
    have hx3' : w3.drew.drew.heap[x]? = _ := HMM.out.2.2.2.1.heap HHJ.out.1.node (HNF.out x (.inl rfl))
    have x1' := T1.heap hx3' (fun h => HO.out.2.1 (by cases h; rfl))
    rw [HKK.out] at x1'
    obtain ⟨s20, _, s22, _⟩ := blk3 x1'
    rw [show A.length + (B.length + 2) = m from by have := HM.out.2.2.2.2; simp at this; omega] at s22
    have DS := deleteS (.slice (some ⟨gK, 0, none⟩) K cK) K i _ W1 (Ux.own_touch HO.out.1 T1 (fun b hb e => by cases hb; exact HO.out.2.2.2 (by cases e; rfl))) (by omega) (by intro u hu; obtain ⟨p, _, rfl⟩ := List.mem_map.1 hu; rfl)
    have HDS := Lib.hid DS
    have H1 := Lib.hid (And.intro o1 (And.intro T1 x1'))
    clear o1 T1 b1 x1' hx3' DS
    go_wp2_with fail
    refine ⟨⟨s22, s20⟩, ?_⟩
    repeat (first
      | go_big_quiet_step (fail)
      | (with_reducible refine wpQuiet_nil ?_)
      | (refine Ux.quiet_held rfl ?_; apply Exists.intro; refine ⟨fun w' hS => ?_, ?_⟩; (focus ((try dsimp only at hS); go_simp; first | done | with_reducible rfl)); simp only [Act.put, List.setIfInBounds_toArray, List.set_cons_zero, List.set_cons_succ]))
    go_wp2_with fail
    refine HDS.out.mono ?_
    rintro e W2 ⟨v2, rfl, o2, T2, b2, _⟩
    obtain ⟨c2', rfl⟩ := del_formJ o2 b2
    have x2' := T2.heap H1.out.2.2 (fun h => HO.out.2.2.1 (by cases h; rfl))
    obtain ⟨s30, _, s32, fr3⟩ := blk3 x2'
    rw [show A.length + (B.length + 2) = m from by have := HM.out.2.2.2.2; simp at this; omega] at s32
    have H2 := Lib.hid (And.intro o2 (And.intro T2 x2'))
    clear o2 T2 b2 x2'
    go_wp2_with fail
    refine ⟨⟨s32, s30⟩, ?_⟩
    repeat (first
      | go_big_quiet_step (fail)
      | (with_reducible refine wpQuiet_nil ?_)
      | (refine Ux.quiet_held rfl ?_; apply Exists.intro; refine ⟨fun w' hS => ?_, ?_⟩; (focus ((try dsimp only at hS); go_simp; first | done | with_reducible rfl)); simp only [Act.put, List.setIfInBounds_toArray, List.set_cons_zero, List.set_cons_succ]))
    go_wp2_with fail
    repeat (first
      | go_big_quiet_step (fail)
      | (with_reducible refine wpQuiet_nil ?_)
      | (refine Ux.quiet_held rfl ?_; apply Exists.intro; refine ⟨fun w' hS => ?_, ?_⟩; (focus ((try dsimp only at hS); go_simp; first | done | with_reducible rfl)); simp only [Act.put, List.setIfInBounds_toArray, List.set_cons_zero, List.set_cons_succ]))
    go_wp2_with fail
    go_returns
    refine ⟨rfl, ?_⟩
    rw [HEQ.out, HMS.out, if_neg hbig]
    have hla2 := HHJ.out.1.left.length
    have em : A.length + (B.length + 2) = m := by have := HM.out.2.2.2.2; simp at this; omega
    have e1 : ((xa ++ x1 :: x2 :: xb).map ptr).take (i + 1) ++ ((xa ++ x1 :: x2 :: xb).map ptr).drop (i + 1 + 1) = (xa ++ x1 :: xb).map ptr := by
      have hl : xa.length = i := by rw [hla2]; exact HM.out.2.2.2.1
      rw [← List.map_take, ← List.map_drop, ← List.map_append, ← hl]
      have hle : xa.length ≤ xa.length + 1 + 1 := by omega
      simp [List.take_append, List.drop_append, List.take_of_length_le, List.drop_eq_nil_of_le, hle, show xa.length + 1 - xa.length = 1 by omega, show xa.length + 1 + 1 - xa.length = 2 by omega]
    have e2 : ((Ka ++ s :: Kb).map Value.string).take i ++ ((Ka ++ s :: Kb).map Value.string).drop (i + 1) = (Ka ++ Kb).map Value.string := by
      have hl : Ka.length = i := by rw [HM.out.2.1]; exact HM.out.2.2.2.1
      rw [← List.map_take, ← List.map_drop, ← List.map_append, ← hl]
      simp [List.drop_append, List.drop_eq_nil_of_le, show Ka.length + 1 - Ka.length = 1 by omega]
    have hKl : K - 1 = (Ka ++ Kb).length := by have := HKK.out; simp at this ⊢; omega
    have hml : m - 1 = A.length + (B.length + 1) := by omega
    have o1 := H1.out.1
    have o2 := H2.out.1
    rw [e1] at o1
    rw [e2] at o2
    rw [hml] at o1 ⊢
    rw [hKl] at o2 ⊢
    have T4 : Ux.Touch (fun b => b = x) W2 ((W2.setCell ⟨x, 2, none⟩ (.slice (some ⟨g, 0, none⟩) (A.length + (B.length + 1)) c1')).setCell ⟨x, 0, none⟩ (.slice (some ⟨gK, 0, none⟩) (Ka ++ Kb).length c2')) := ((Ux.Touch.refl (fun b => b = x) W2).setCell (p := ⟨x, 2, none⟩) (fun _ => rfl) _).setCell (p := ⟨x, 0, none⟩) (fun _ => rfl) _
    have hx4 : ((W2.setCell ⟨x, 2, none⟩ (.slice (some ⟨g, 0, none⟩) (A.length + (B.length + 1)) c1')).setCell ⟨x, 0, none⟩ (.slice (some ⟨gK, 0, none⟩) (Ka ++ Kb).length c2')).heap[x]? = some (.cells #[.slice (some ⟨gK, 0, none⟩) (Ka ++ Kb).length c2', .slice none 0 0, .slice (some ⟨g, 0, none⟩) (A.length + (B.length + 1)) c1'] 62 (0, 0)) := by
      have a := heap_setCell_same W2 x 2 _ 62 (.slice (some ⟨g, 0, none⟩) (A.length + (B.length + 1)) c1') H2.out.2.2
      have b := heap_setCell_same _ x 0 _ 62 (.slice (some ⟨gK, 0, none⟩) (Ka ++ Kb).length c2') a
      simpa using b
    have TW : Ux.Touch (fun b => b = g ∨ b = gK ∨ b = x) w3 ((W2.setCell ⟨x, 2, none⟩ (.slice (some ⟨g, 0, none⟩) (A.length + (B.length + 1)) c1')).setCell ⟨x, 0, none⟩ (.slice (some ⟨gK, 0, none⟩) (Ka ++ Kb).length c2')) :=
      (((Ux.Touch.refl (fun b => b = g ∨ b = gK ∨ b = x) w3).drew.drew.trans H1.out.2.1 (fun b _ h => .inl (by cases h; rfl))).trans H2.out.2.1 (fun b _ h => .inr (.inl (by cases h; rfl)))).trans T4 (fun b _ h => .inr (.inr h))
    exact Ux.join_small HHJ.out.1 HMM.out.1 HMM.out.2.1 HMM.out.2.2.1 HMM.out.2.2.2.1 TW hx4
      (Ux.own_touch o2 T4 (fun b hb e => by cases hb; exact HO.out.2.2.1 e.symm))
      (Ux.own_touch (Ux.own_touch o1 H2.out.2.1 (fun b hb e => by cases hb; cases e; exact HO.out.2.2.2 rfl)) T4 (fun b hb e => by cases hb; exact HO.out.2.1 e.symm))

end Go.Proofs.Ytdfgpminonpeaaa
