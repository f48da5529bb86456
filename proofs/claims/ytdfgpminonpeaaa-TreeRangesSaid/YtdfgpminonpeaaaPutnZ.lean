/- PART OF THE PROOF THAT THIS CLAIM HOLDS OF THE GIVEN PROGRAM, FOR EVERY INPUT THAT THE STATEMENT NAMES. No condition besides the statement's own. -/
import Derived.Test.YtdfgpminonpeaaaUxTreeAllZ
import Derived.Test.YtdfgpminonpeaaaSmallZ
import Derived.Test.YtdfgpminonpeaaaInsZ
import Derived.Test.YtdfgpminonpeaaaCloZ
import Derived.Test.YtdfgpminonpeaaaDelZ
import Derived.Test.YtdfgpminonpeaaaNodeZ
import Derived.Test.YtdfgpminonpeaaaHalfZ
import Derived.Test.YtdfgpminonpeaaaPutZ
import Derived.Test.YtdfgpminonpeaaaRows
import Derived.WalkKit
import Derived.Handy
import Derived.Laws.EntriesVeiled
import Derived.WalkSpells
import Derived.WalkLawsBesides
import Derived.BigQuiet
import Derived.Deep.QuietTactic
import Derived.Deep.Cut
import Derived.Lib.Overlaps
import Derived.Laws.Externs
import Derived.Lib.Hide
import Derived.Test.YtdfgpminonpeaaaUxPlanAllZ
import Derived.Deep.LoopGhost
namespace Go.Proofs.Ytdfgpminonpeaaa
open Go.RowKit
-- imports: UxTree4 YtdfgpminonpeaaaSmall YtdfgpminonpeaaaIns YtdfgpminonpeaaaClo YtdfgpminonpeaaaDel YtdfgpminonpeaaaNode YtdfgpminonpeaaaHalf YtdfgpminonpeaaaPut
open Ux (slt lb has Rises T NodeAt NodesAt Shp wayN half1 half2 halfK blk ptr flat flats keys ins putT back Up)

/-- the blocks that Put's inner function must leave apart from the tree's -/
def PutOff (bk br bf bp bt tb : Nat) (fp : List Nat) : Prop := bk ∉ fp ∧ br ∉ fp ∧ bf ∉ fp ∧ bp ∉ fp ∧ bt ∉ fp ∧ tb ∉ fp

def PutSays (fan : Nat) (k : ByteArray) (v : Int) (d : Nat) : Prop :=
  ∀ (t : T) (x : Nat) (fp : List Nat) (w : World) (bk br bf bp bt tb : Nat), PutEnv w bk br bf bp bt tb k v fan → w.heap[bf]? = some (.cells #[.bool false] 4 (0, 0)) → NodeAt w t x fp → fp.Nodup →
    Ux.Good fan d t → Up (flat t) → t.size ≤ fan → PutOff bk br bf bp bt tb fp →
    Calls Try.prog 29 #[.pointer (some ⟨x, 0, none⟩), .pointer (some ⟨bk, 0, none⟩), .pointer (some ⟨br, 0, none⟩), .pointer (some ⟨bf, 0, none⟩), .pointer (some ⟨bp, 0, none⟩), .pointer (some ⟨bt, 0, none⟩)] w (PutPost w t (putT fan k v d t) k bf x fp)

/-- the end of a put that parted a child -/
theorem put_split_end {fan : Nat} {w w2 W : World} {ks : List ByteArray} {A B : List T} {c c' : T} {k : ByteArray} {x bf g gk ck gv cv m i y xc N : Nat} {fp fa fc fb f1 f2 xa xb : List Nat} {kv : Value}
    (hbig : fan < c'.size) (hi : A.length = i) (hm : (A ++ c :: B).length = m) (hk : ks.length + 1 = m) (hxa : xa.length = A.length)
    (hfp : fp = x :: (blk kv ++ [g] ++ (fa ++ (fc ++ fb)))) (hnd : fp.Nodup) (hltw : ∀ b ∈ fp, b < w.heap.size)
    (h12 : (f1 ++ f2).Nodup) (hs12 : ∀ b ∈ f1 ++ f2, b ∈ fc ∨ w.heap.size ≤ b) (hl12 : ∀ b ∈ f1 ++ f2, b < w2.heap.size) (hw2 : w.heap.size ≤ w2.heap.size)
    (TT : Ux.Touch (fun b => b ∈ fp ∨ b = bf) w W) (hx : W.heap[x]? = some (.cells #[.slice (some ⟨gk, 0, none⟩) (ks.length + 1) ck, .slice none 0 0, .slice (some ⟨gv, 0, none⟩) (m + 1) cv] 62 (0, 0)))
    (o1 : W.ownsRow 0 9 1 (.slice (some ⟨gk, 0, none⟩) (ks.length + 1) ck) (ks.length + 1) ((ks.map .string).take i ++ .string (halfK c') :: (ks.map .string).drop i))
    (o2 : W.ownsRow 0 59 1 (.slice (some ⟨gv, 0, none⟩) (m + 1) cv) (m + 1) (((xa ++ xc :: xb).map ptr).take (i + 1) ++ ptr y :: ((xa ++ xc :: xb).map ptr).drop (i + 1)))
    (na : NodesAt W A xa fa) (n1 : NodeAt W (half1 c') xc f1) (n2 : NodeAt W (half2 c') y f2) (nb : NodesAt W B xb fb)
    (bv : gv = g ∨ w2.heap.size ≤ gv) (bvl : gv < N) (bk : kv.ownBlock = some gk ∨ N ≤ gk) (hN : w2.heap.size ≤ N)
    (hf : W.heap[bf]? = some (.cells #[.bool (!has (keys (flats (A ++ c :: B))) k)] 4 (0, 0))) :
    PutPost w (.node ks (A ++ c :: B)) (back fan ks (A ++ c :: B) A.length c') k bf x fp (.returned (.tuple #[])) W := by
  rw [Ux.back_big hbig, hi]
  have e1 : fp = (x :: (blk kv ++ [g] ++ fa)) ++ (fc ++ fb) := by rw [hfp]; simp
  have hnd0 := hnd
  have hlt0 := hltw
  rw [e1] at hnd hltw
  have L2 := Ux.fp_swap hnd hltw h12 hs12
  have B2 : ∀ b ∈ (x :: (blk kv ++ [g] ++ fa)) ++ ((f1 ++ f2) ++ fb), b < w2.heap.size := fun b hb => by
    simp only [List.mem_append, List.mem_cons] at hb
    have old : ∀ b ∈ fp, b < w2.heap.size := fun b h => Nat.lt_of_lt_of_le (hlt0 b h) hw2
    rcases hb with (rfl | (hb | hb) | hb) | (hb | hb) | hb
    · exact old _ (by rw [hfp]; simp)
    · exact old b (by rw [hfp]; simp [hb])
    · exact old b (by rw [hfp]; simp at hb; simp [hb])
    · exact old b (by rw [hfp]; simp [hb])
    · exact hl12 b (by simp [hb])
    · exact hl12 b (by simp [hb])
    · exact old b (by rw [hfp]; simp [hb])
  have e2 : (x :: (blk kv ++ [g] ++ fa)) ++ ((f1 ++ f2) ++ fb) = (x :: blk kv) ++ ([g] ++ (fa ++ ((f1 ++ f2) ++ fb))) := by simp
  rw [e2] at L2 B2
  have L3 := Ux.fp_swap (fc' := [gv]) L2 B2 (by simp) (fun b hb => by simp at hb; subst hb; rcases bv with h | h; exact .inl (by simp [h]); exact .inr h)
  have B3 : ∀ b ∈ (x :: blk kv) ++ ([gv] ++ (fa ++ ((f1 ++ f2) ++ fb))), b < N := fun b hb => by
    rcases List.mem_append.1 hb with hb | hb
    · exact Nat.lt_of_lt_of_le (B2 b (List.mem_append_left _ hb)) hN
    · rcases List.mem_append.1 hb with hb | hb
      · simp at hb; omega
      · exact Nat.lt_of_lt_of_le (B2 b (List.mem_append_right _ (List.mem_append_right _ hb))) hN
  have e3 : (x :: blk kv) ++ ([gv] ++ (fa ++ ((f1 ++ f2) ++ fb))) = [x] ++ (blk kv ++ ([gv] ++ (fa ++ ((f1 ++ f2) ++ fb)))) := by simp
  rw [e3] at L3 B3
  have L4 := Ux.fp_swap (fc' := [gk]) L3 B3 (by simp) (fun b hb => by simp at hb; subst hb; rcases bk with h | h; exact .inl (by simp [blk, h]); exact .inr h)
  refine ⟨x :: ([gk] ++ [gv] ++ (fa ++ (f1 ++ (f2 ++ fb)))), rfl, ?_, by simpa using L4, ?_, TT, ?_⟩
  · refine ⟨.slice (some ⟨gk, 0, none⟩) (ks.length + 1) ck, .slice (some ⟨gv, 0, none⟩) (m + 1) cv, xa ++ xc :: (y :: xb), fa ++ (f1 ++ (f2 ++ fb)), hx, ?_, ?_, NodesAt.mk na n1 ⟨y, xb, f2, fb, rfl, rfl, n2, nb⟩, rfl⟩
    · have hl : (ks.take i ++ halfK c' :: ks.drop i).length = ks.length + 1 := by
        have : i ≤ ks.length := by rw [← hm] at hk; simp at hk; omega
        simp only [List.length_append, List.length_take, List.length_cons, List.length_drop]; omega
      rw [hl]
      simpa only [List.map_append, List.map_cons, List.map_take, List.map_drop] using o1
    · have hl : (A ++ half1 c' :: half2 c' :: B).length = m + 1 := by rw [← hm]; simp; omega
      have ex : ((xa ++ xc :: xb).map ptr).take (i + 1) ++ ptr y :: ((xa ++ xc :: xb).map ptr).drop (i + 1) = (xa ++ xc :: (y :: xb)).map ptr := by
        have hh : (xa.map ptr ++ [ptr xc]).length = i + 1 := by simp [hxa, hi]
        have es : (xa ++ xc :: xb).map ptr = (xa.map ptr ++ [ptr xc]) ++ xb.map ptr := by simp
        rw [es, ← hh, List.take_left, List.drop_left]
        simp
      rw [hl, ← ex]
      exact o2
  · intro b hb
    have nf : ∀ b, b ∈ fa ∨ b ∈ fb → b ∈ fp := fun b h => by rw [hfp]; rcases h with h | h <;> simp [h]
    simp only [List.mem_append, List.mem_cons, List.not_mem_nil, or_false] at hb
    rcases hb with rfl | (rfl | rfl) | hb | hb | hb | hb
    · left; rw [hfp]; simp
    · rcases bk with h | h
      · left; rw [hfp]; simp [blk, h]
      · right; omega
    · rcases bv with h | h
      · left; rw [hfp, h]; simp
      · right; omega
    · exact .inl (nf b (.inl hb))
    · rcases hs12 b (by simp [hb]) with h | h
      · left; rw [hfp]; simp [h]
      · exact .inr h
    · rcases hs12 b (by simp [hb]) with h | h
      · left; rw [hfp]; simp [h]
      · exact .inr h
    · exact .inl (nf b (.inr hb))
  · rw [hf]; rfl

theorem put_fin {fan : Nat} {w w1 w2 W : World} {ks : List ByteArray} {A B : List T} {c c' : T} {k : ByteArray} {x bk br bf bp bt tb g cc gk ck gv cv m i y xc N : Nat} {fp fa fc fc' fb f1 f2 xa xb : List Nat} {kv : Value} (hbig : fan < c'.size)
    (HN : NodeAt w (.node ks (A ++ c :: B)) x fp) (hbfw : bf < w.heap.size)
    (HG : w.heap[x]? = some (.cells #[kv, .slice none 0 0, .slice (some ⟨g, 0, none⟩) (A ++ c :: B).length cc] 62 (0, 0)) ∧ w.ownsRow 0 9 1 kv ks.length (ks.map .string) ∧
      w.ownsRow 0 59 1 (.slice (some ⟨g, 0, none⟩) (A ++ c :: B).length cc) (A ++ c :: B).length ((xa ++ xc :: xb).map ptr) ∧ NodesAt w A xa fa ∧ NodeAt w c xc fc ∧ NodesAt w B xb fb)
    (HFP : fp = x :: (blk kv ++ blk (.slice (some ⟨g, 0, none⟩) (A ++ c :: B).length cc) ++ (fa ++ (fc ++ fb))) ∧ fp.Nodup ∧ PutOff bk br bf bp bt tb fp)
    (HFC : ∀ b ∈ fc, b ∈ fp ∧ b ≠ x ∧ b ∉ blk kv ∧ b ≠ g ∧ b ∉ fa ∧ b ∉ fb)
    (HM : (A ++ c :: B).length = ks.length + 1 ∧ (A ++ c :: B).length ≤ fan ∧ (A ++ c :: B).length = m ∧ A.length = i)
    (HLL : xa.length = A.length ∧ xb.length = B.length)
    (H1 : NodeAt w1 c' xc fc' ∧ fc'.Nodup ∧ (∀ b ∈ fc', b ∈ fc ∨ w.heap.size ≤ b) ∧ Ux.Touch (fun b => b ∈ fc ∨ b = bf) w w1 ∧ w1.heap[bf]? = some (.cells #[.bool (!has (keys (flat c)) k)] 4 (0, 0)))
    (TW2 : Ux.Touch (fun b => b ∈ fc ∨ b = bf) w w2) (T12 : Ux.Touch (fun b => b ∈ fc') w1 w2) (hn1 : NodeAt w2 (half1 c') xc f1) (hn2 : NodeAt w2 (half2 c') y f2) (hnd2 : (f1 ++ f2).Nodup) (hf1 : ∀ b ∈ f1, b ∈ fc') (hf2 : ∀ b ∈ f2, b ∈ fc' ∨ w1.heap.size ≤ b)
    (hhas : has (keys (flats (A ++ c :: B))) k = has (keys (flat c)) k)
    (TX : Ux.Touch (fun b => b = g ∨ kv.ownBlock = some b ∨ b = x) w2 W)
    (hxW : W.heap[x]? = some (.cells #[.slice (some ⟨gk, 0, none⟩) (ks.length + 1) ck, .slice none 0 0, .slice (some ⟨gv, 0, none⟩) (m + 1) cv] 62 (0, 0)))
    (o1 : W.ownsRow 0 9 1 (.slice (some ⟨gk, 0, none⟩) (ks.length + 1) ck) (ks.length + 1) ((ks.map .string).take i ++ .string (halfK c') :: (ks.map .string).drop i))
    (o2 : W.ownsRow 0 59 1 (.slice (some ⟨gv, 0, none⟩) (m + 1) cv) (m + 1) (((xa ++ xc :: xb).map ptr).take (i + 1) ++ ptr y :: ((xa ++ xc :: xb).map ptr).drop (i + 1)))
    (bv : gv = g ∨ w2.heap.size ≤ gv) (bvl : gv < N) (bk' : kv.ownBlock = some gk ∨ N ≤ gk) (hN : w2.heap.size ≤ N) :
    PutPost w (.node ks (A ++ c :: B)) (back fan ks (A ++ c :: B) A.length c') k bf x fp (.returned (.tuple #[])) W := by
  obtain ⟨h1, h2, h3, na, nc, nb⟩ := HG
  obtain ⟨hfpe, hnd, hoff⟩ := HFP
  obtain ⟨n', nd', sub', T1, hfl⟩ := H1
  have hfpe' : fp = x :: (blk kv ++ [g] ++ (fa ++ (fc ++ fb))) := hfpe
  have hlt := NodeAt.lt HN
  -- the blocks that W may have turned, against those that it must not
  have hR : ∀ b, (b = g ∨ kv.ownBlock = some b ∨ b = x) → b ∈ fp ∧ b ∉ fa ∧ b ∉ fb ∧ b ∉ fc := fun b hb => by
    have n1 := List.nodup_cons.1 (hfpe' ▸ hnd)
    have n2 := List.nodup_append.1 n1.2
    have hm : b = x ∨ b ∈ blk kv ++ [g] := by
      rcases hb with h | h | h
      · right; simp [h]
      · right; simp [blk, h]
      · exact .inl h
    rcases hm with rfl | hm
    · exact ⟨by rw [hfpe']; simp, fun h => n1.1 (by simp [h]), fun h => n1.1 (by simp [h]), fun h => n1.1 (by simp [h])⟩
    · exact ⟨by rw [hfpe']; exact List.mem_cons_of_mem _ (List.mem_append_left _ hm), fun h => n2.2.2 b hm b (by simp [h]) rfl, fun h => n2.2.2 b hm b (by simp [h]) rfl, fun h => n2.2.2 b hm b (by simp [h]) rfl⟩
  have nofc : ∀ b, b ∈ fp → b ∉ fc → ¬ (b ∈ fc ∨ b = bf) := fun b hb hn h => h.elim hn (fun e => hoff.2.2.1 (e ▸ hb))
  have mfa : ∀ b ∈ fa, b ∈ fp := fun b hb => by rw [hfpe']; simp [hb]
  have mfb : ∀ b ∈ fb, b ∈ fp := fun b hb => by rw [hfpe']; simp [hb]
  have hs12 : ∀ b ∈ f1 ++ f2, b ∈ fc ∨ w.heap.size ≤ b := fun b hb => by
    rcases List.mem_append.1 hb with h | h
    · exact sub' b (hf1 b h)
    · rcases hf2 b h with h | h
      · exact sub' b h
      · exact .inr (Nat.le_trans T1.size h)
  have hl12 : ∀ b ∈ f1 ++ f2, b < w2.heap.size := fun b hb => by
    rcases List.mem_append.1 hb with h | h
    · exact NodeAt.lt hn1 b h
    · exact NodeAt.lt hn2 b h
  have noR : ∀ b ∈ f1 ++ f2, ¬ (b = g ∨ kv.ownBlock = some b ∨ b = x) := fun b hb h => by
    have hh := hR b h
    rcases hs12 b hb with h' | h'
    · exact hh.2.2.2 h'
    · have := hlt b hh.1; omega
  have TT : Ux.Touch (fun b => b ∈ fp ∨ b = bf) w W := (TW2.mono (fun b _ h => h.elim (fun h => .inl (HFC b h).1) .inr) : Ux.Touch (fun b => b ∈ fp ∨ b = bf) w w2).trans TX (fun b _ h => .inl (hR b h).1)
  have hbf2 : w2.heap[bf]? = some (.cells #[.bool (!has (keys (flat c)) k)] 4 (0, 0)) := T12.heap hfl (fun h => by
    rcases sub' bf h with h | h
    · exact hoff.2.2.1 (HFC _ h).1
    · omega)
  have hfW : W.heap[bf]? = some (.cells #[.bool (!has (keys (flats (A ++ c :: B))) k)] 4 (0, 0)) := by
    rw [hhas]
    exact TX.heap hbf2 (fun h => hoff.2.2.1 (hR bf h).1)
  exact put_split_end hbig HM.2.2.2 HM.2.2.1 (by omega) HLL.1 hfpe' hnd hlt hnd2 hs12 hl12 TW2.size TT hxW o1 o2
    ((na.touch TW2 (fun b hb => nofc b (mfa b hb) (fun h => (HFC b h).2.2.2.2.1 hb))).touch TX (fun b hb h => (hR b h).2.1 hb))
    (hn1.touch TX (fun b hb => noR b (by simp [hb]))) (hn2.touch TX (fun b hb => noR b (by simp [hb])))
    ((nb.touch TW2 (fun b hb => nofc b (mfb b hb) (fun h => (HFC b h).2.2.2.2.2 hb))).touch TX (fun b hb h => (hR b h).2.2.1 hb))
    bv bvl bk' hN hfW

set_option maxHeartbeats 4000000 in
set_option maxRecDepth 100000 in
theorem put_node {fan : Nat} (hf4 : 4 ≤ fan) (hf64 : fan ≤ 64) (k : ByteArray) (v : Int) (d : Nat) (ih : PutSays fan k v d) (ks : List ByteArray) (A B : List T) (c : T) (x : Nat) (fp : List Nat) (w : World) (bk br bf bp bt tb : Nat)
    (he : PutEnv w bk br bf bp bt tb k v fan) (hf : w.heap[bf]? = some (.cells #[.bool false] 4 (0, 0))) (h : NodeAt w (.node ks (A ++ c :: B)) x fp) (hnd : fp.Nodup)
    (hlen : (A ++ c :: B).length = ks.length + 1) (hsz : (A ++ c :: B).length ≤ fan) (hr : Rises ks) (hw : A.length = wayN ks k) (hoff : PutOff bk br bf bp bt tb fp)
    (gc : Ux.Good fan d c) (uc : Up (flat c)) (sc : c.size ≤ fan) (hhas : has (keys (flats (A ++ c :: B))) k = has (keys (flat c)) k) :
    Calls Try.prog 29 #[.pointer (some ⟨x, 0, none⟩), .pointer (some ⟨bk, 0, none⟩), .pointer (some ⟨br, 0, none⟩), .pointer (some ⟨bf, 0, none⟩), .pointer (some ⟨bp, 0, none⟩), .pointer (some ⟨bt, 0, none⟩)] w (PutPost w (.node ks (A ++ c :: B)) (back fan ks (A ++ c :: B) A.length (putT fan k v d c)) k bf x fp) := by
  have HN := Lib.hid h
  obtain ⟨kv, cv, xs, fs, h1, h2, h3, h4, hfpe⟩ := h
  obtain ⟨xa, xc, xb, fa, fc, fb, rfl, rfl, na, nc, nb⟩ := NodesAt.at h4
  have hla := NodesAt.length na
  have hlb := NodesAt.length nb
  obtain ⟨m, hm⟩ : ∃ m, (A ++ c :: B).length = m := ⟨_, rfl⟩
  have hm' := hm
  simp only [List.length_append, List.length_cons] at hm'
  obtain ⟨g, cc, cur, rfl, hnc, hcm, hg, hcs, htk⟩ := Ux.own_pos h3 (by omega)
  rw [Nat.mul_one] at hcs htk
  obtain ⟨c0, c1, c2, fr⟩ := blk3 h1
  obtain ⟨i, hi⟩ : ∃ i, A.length = i := ⟨_, rfl⟩
  have hkid : w.cell? ⟨g, i, none⟩ = some (.pointer (some ⟨xc, 0, none⟩)) := Ux.row_cell hg htk i _ (by rw [← hi, ← hla]; simp [ptr])
  have ck : w.cell? ⟨bk, 0, none⟩ = some (.string k) := by rw [cell_of_row w bk 0 _ 9 (0, 0) he.key]; rfl
  have cp : w.cell? ⟨bp, 0, none⟩ = some (.func (.func 29) #[] #[.pointer (some ⟨bk, 0, none⟩), .pointer (some ⟨br, 0, none⟩), .pointer (some ⟨bf, 0, none⟩), .pointer (some ⟨bp, 0, none⟩), .pointer (some ⟨bt, 0, none⟩)]) := by rw [cell_of_row w bp 0 _ 65 (0, 0) he.put]; rfl
  have hfc : ∀ b ∈ fc, b ∈ fp ∧ b ≠ x ∧ b ∉ blk kv ∧ b ≠ g ∧ b ∉ fa ∧ b ∉ fb := by
    rw [hfpe] at hnd
    have n1 := List.nodup_cons.1 hnd
    have n2 := List.nodup_append.1 n1.2
    have n3 := List.nodup_append.1 n2.2.1
    have n4 := List.nodup_append.1 n3.2.1
    intro b hb
    have m2 : b ∈ fa ++ (fc ++ fb) := by simp [hb]
    exact ⟨by rw [hfpe]; simp [hb], fun e => n1.1 (by rw [← e]; simp [hb]), fun h => n2.2.2 b (List.mem_append_left _ h) b m2 rfl, fun e => n2.2.2 g (by simp [blk, Value.ownBlock]) b m2 e.symm,
      fun h => n3.2.2 b h b (by simp [hb]) rfl, fun h => n4.2.2 b hb b h rfl⟩
  have way := way33 x kv ks k w c0 h2 hr (by omega)
  rw [← hw, hi] at way
  have call := ih c xc fc w bk br bf bp bt tb he hf nc (by
    rw [hfpe] at hnd
    exact (List.nodup_append.1 (List.nodup_append.1 (List.nodup_append.1 (List.nodup_cons.1 hnd).2).2.1).2.1).1) gc uc sc
    ⟨fun h => hoff.1 (hfc _ h).1, fun h => hoff.2.1 (hfc _ h).1, fun h => hoff.2.2.1 (hfc _ h).1, fun h => hoff.2.2.2.1 (hfc _ h).1, fun h => hoff.2.2.2.2.1 (hfc _ h).1, fun h => hoff.2.2.2.2.2 (hfc _ h).1⟩
  have WAY := Lib.hid way
  have CALL := Lib.hid call
  have j0 : (i : Int) < m := by omega
  have j1 : (m : Int) ≤ 64 := by omega
  have j2 : (0 : Int) ≤ i := by omega
  rw [hm] at c2
  have HE := Lib.hid he
  have HG := Lib.hid (And.intro h1 (And.intro h2 (And.intro h3 (And.intro na (And.intro nc nb)))))
  have HFC := Lib.hid hfc
  have HFP := Lib.hid (And.intro hfpe (And.intro hnd hoff))
  have HM := Lib.hid (And.intro hlen (And.intro hsz (And.intro hm hi)))
  have HLL := Lib.hid (And.intro hla hlb)
  have HW := Lib.hid (And.intro hr (And.intro hw hhas))
  have HC := Lib.hid (And.intro gc (And.intro uc sc))
  have HGG := Lib.hid (And.intro hg (And.intro hcs htk))
  have HBF := Lib.hid (Ux.lt_of_heap hf)
  clear h1 h2 h3 h4 na nc nb hfpe hnd hoff hlen hsz hm hi hla hlb hr hw hhas gc uc sc hg hcs htk hfc way call he hf hm'
  go_enter Try.func29, Try.ntmps29
  go_wp2_with (go_at_call 33; refine (WAY.out).mono ?_; rintro e w' ⟨rfl, rfl⟩)
  refine CALL.out.mono ?_
  obtain ⟨c', hc'⟩ : ∃ c', putT fan k v d c = c' := ⟨_, rfl⟩
  rw [hc']
  rintro e w1 ⟨fc', rfl, n', nd', sub', T1, hf1⟩
  have T1x : ∀ b ∈ fp, b ∉ fc → ¬ (b ∈ fc ∨ b = bf) := fun b hb hn h => h.elim hn (fun e => HFP.out.2.2.2.2.1 (e ▸ hb))
  have hxfp : x ∈ fp := by rw [HFP.out.1]; simp
  have hgfp : g ∈ fp := by rw [HFP.out.1]; simp [blk, Value.ownBlock]
  have hxT := T1x x hxfp (fun h => (HFC.out x h).2.1 rfl)
  have hgT := T1x g hgfp (fun h => (HFC.out g h).2.2.2.1 rfl)
  have hx1 := T1.heap HG.out.1 hxT
  obtain ⟨d0, d1, d2, fr1⟩ := blk3 hx1
  have hbt : ¬ (bt ∈ fc ∨ bt = bf) := fun h => h.elim (fun h => HFP.out.2.2.2.2.2.2.1 (HFC.out _ h).1) (fun e => HE.out.apart.2.2.2.1 e.symm)
  have htb : ¬ (tb ∈ fc ∨ tb = bf) := fun h => h.elim (fun h => HFP.out.2.2.2.2.2.2.2 (HFC.out _ h).1) (fun e => HE.out.apart.2.2.2.2 e.symm)
  have ct : w1.cell? ⟨bt, 0, none⟩ = some (.pointer (some ⟨tb, 0, none⟩)) := by rw [cell_of_row w1 bt 0 _ 23 (0, 0) (T1.heap HE.out.box hbt)]; rfl
  have cf : w1.cell? ⟨tb, 0, none⟩ = some (.int .i64 fan) := by
    obtain ⟨_, _, ht⟩ := HE.out.tree
    rw [cell_of_row w1 tb 0 _ 64 (0, 0) (T1.heap ht htb)]; rfl
  have pg := Ux.put_good hf4 k v HC.out.1 HC.out.2.1
  rw [hc'] at pg
  have SZ := size34 w1.drew (n'.touch (Ux.Touch.refl (fun _ => False) w1).drew (fun _ _ f => f)) (Ux.Good.shp pg.1)
  have HSZ := Lib.hid SZ
  have HPG := Lib.hid pg
  have H1 := Lib.hid (And.intro n' (And.intro nd' (And.intro sub' (And.intro T1 hf1))))
  have HX1 := Lib.hid (And.intro hx1 (And.intro hxT hgT))
  have HT1 := Lib.hid T1x
  clear n' nd' sub' T1 hf1 hx1 hxT hgT T1x hbt htb pg SZ c0 c1 c2 ck cp fr hkid CALL WAY
  go_wp2_with fail
  refine Ux.wp_region_plan (fun _ w' => w'.cell? ⟨bt, 0, none⟩ = some (.pointer (some ⟨tb, 0, none⟩)) ∧ w'.cell? ⟨tb, 0, none⟩ = some (.int .i64 fan)) (.q [0] (.h false [2] (.q [3, 4] (.h false [5] (.e 1 true false (.q [6] (.line [])))))))
    (by kernel_rfl) (by kernel_rfl) (by intro _ _ d _ _ h; cases d <;> exact h) ?hS ?_
  case hS => (intro c; cases c <;> (simp only [World.cell?_drew]; first | exact True.intro | (refine ⟨?_, ?_⟩ <;> assumption) | assumption | (repeat (first | assumption | (refine And.intro ?_ ?_)))))
  simp only [Ux.wpPlan, Ux.pickOps, Ux.keeps, List.getElem?_toArray, List.getElem?_cons_succ, List.getElem?_cons_zero]
  repeat (first
    | go_big_quiet_step (fail)
    | (with_reducible refine wpQuiet_nil ?_)
    | (refine Ux.quiet_held rfl ?_; apply Exists.intro; refine ⟨fun w' hS => ?_, ?_⟩; (focus ((try dsimp only at hS); go_simp; first | done | with_reducible rfl)); simp only [Act.put, List.setIfInBounds_toArray, List.set_cons_zero, List.set_cons_succ]))
  go_wp2_with (go_at_call 34; refine HSZ.out.mono ?_; rintro e w2 ⟨rfl, rfl⟩)
  refine ⟨⟨ct, cf⟩, ?_⟩
  repeat (first
    | go_big_quiet_step (fail)
    | (with_reducible refine wpQuiet_nil ?_)
    | (refine Ux.quiet_held rfl ?_; apply Exists.intro; refine ⟨fun w' hS => ?_, ?_⟩; (focus ((try dsimp only at hS); go_simp; first | done | with_reducible rfl)); simp only [Act.put, List.setIfInBounds_toArray, List.set_cons_zero, List.set_cons_succ]))
  by_cases hbig : fan < c'.size
  · have HALF := half35 c' xc fc' w1.drew (H1.out.1.touch (Ux.Touch.refl (fun _ => False) w1).drew (fun _ _ f => f)) (Ux.Good.shp HPG.out.1) H1.out.2.1 (by omega) (by have := HPG.out.2.2.2; have := HC.out.2.2; omega)
    have HH := Lib.hid HALF
    clear HALF
    go_wp2_with (go_at_call 35; refine HH.out.mono ?_; rintro e w2 ⟨y, f1, f2, rfl, hn1, hn2, hnd2, hf1', hf2', T2⟩; simp only [ptr])
    have TW2 : Ux.Touch (fun b => b ∈ fc ∨ b = bf) w w2 := (H1.out.2.2.2.1.drew).trans T2 (fun b hb h => (H1.out.2.2.1 b h).elim (fun h => .inl h) (fun h => absurd hb (by omega)))
    have hx2 := TW2.heap HG.out.1 HX1.out.2.1
    obtain ⟨p0, _, p2, fr2⟩ := blk3 hx2
    have okv := Ux.own_touch HG.out.2.1 TW2 (fun b hb => HT1.out b (by rw [HFP.out.1]; simp [blk, hb]) (fun h => (HFC.out b h).2.2.1 (by simp [blk, hb])))
    have ocv := Ux.own_touch HG.out.2.2.1 TW2 (fun b hb => by cases hb; exact HX1.out.2.2)
    have hgk : ∀ b, kv.ownBlock = some b → b ≠ g ∧ b ≠ x := fun b hb => by
      have hnd := HFP.out.2.1
      rw [HFP.out.1] at hnd
      have n1 := List.nodup_cons.1 hnd
      have n2 := List.nodup_append.1 (List.nodup_append.1 n1.2).1
      exact ⟨fun e => n2.2.2 b (by simp [blk, hb]) g (by simp [blk, Value.ownBlock]) e, fun e => n1.1 (by rw [← e]; simp [blk, hb])⟩
    have hgx : g ≠ x := fun e => by
      have hnd := HFP.out.2.1
      rw [HFP.out.1] at hnd
      exact (List.nodup_cons.1 hnd).1 (by rw [← e]; simp [blk, Value.ownBlock])
    have hss : ∀ w', Ux.Touch (fun b => b = g ∨ kv.ownBlock = some b) w2 w' → w'.cell? ⟨x, 2, none⟩ = some (.slice (some ⟨g, 0, none⟩) m cc) ∧ w'.cell? ⟨x, 0, none⟩ = some kv := fun w' t => by
      have hm := HM.out.2.2.1
      rw [← hm]
      exact ⟨t.cell p2 (fun h => h.elim (fun e => hgx e.symm) (fun h => (hgk _ h).2 rfl)), t.cell p0 (fun h => h.elim (fun e => hgx e.symm) (fun h => (hgk _ h).2 rfl))⟩
    rw [HM.out.2.2.1] at ocv p2
    have HSS := Lib.hid hss
    have HO := Lib.hid (And.intro ocv okv)
    have HL := Lib.hid (And.intro (Ux.own_lt ocv) (And.intro (Ux.own_lt okv) hgk))
    have H2 := Lib.hid (And.intro TW2 (And.intro hx2 (And.intro hn1 (And.intro hn2 (And.intro hnd2 (And.intro hf1' (And.intro hf2' (And.intro (Ux.Touch.of_drew T2) hgx))))))))
    have HI := Lib.hid (show i + 1 ≤ m ∧ i ≤ ks.length ∧ m ≤ 64 ∧ ks.length ≤ 64 by have := HM.out; omega)
    have hlen1 : ((xa ++ xc :: xb).map ptr).length = m := by have := HL.out; have := ocv.1; simpa using this
    clear hn1 hn2 hnd2 hf1' hf2' T2 TW2 okv ocv hgk hgx hss hx2 d0 d1 d2 fr1 ct cf HSZ HH
    refine Ux.wp_region_plan (fun _ w' => w'.cell? ⟨x, 2, none⟩ = some (.slice (some ⟨g, 0, none⟩) m cc) ∧ w'.cell? ⟨x, 0, none⟩ = some kv) (.q [0, 1, 2, 3, 4, 6, 7, 8, 11, 12, 13, 15, 16] (.h false [5, 14] (.br 9 (.br 10 (.e 17 true false (.e 18 true false (.q [19, 20] (.e 21 false false (.line [22, 23, 24]))))) 17 (.e 10 true true (.e 18 true false (.q [19, 20] (.e 21 false false (.line [22, 23, 24])))))) 17 (.e 9 true true (.e 10 true true (.e 18 true false (.q [19, 20] (.e 21 false false (.line [22, 23, 24])))))))))
      (by kernel_rfl) (by kernel_rfl) (by intro _ _ d _ _ h; cases d <;> exact h) ?hS ?_
    case hS => (intro c; cases c <;> (simp only [World.cell?_drew]; first | exact True.intro | (refine ⟨?_, ?_⟩ <;> assumption) | assumption | (repeat (first | assumption | (refine And.intro ?_ ?_)))))
    simp only [Ux.wpPlan, Ux.pickOps, Ux.keeps, List.getElem?_toArray, List.getElem?_cons_succ, List.getElem?_cons_zero]
    repeat (first
      | go_big_quiet_step (fail)
      | (with_reducible refine wpQuiet_nil ?_)
      | (refine Ux.quiet_held rfl ?_; apply Exists.intro; refine ⟨fun w' hS => ?_, ?_⟩; (focus ((try dsimp only at hS); go_simp; first | done | with_reducible rfl)); simp only [Act.put, List.setIfInBounds_toArray, List.set_cons_zero, List.set_cons_succ]))
    clear p0 p2
    refine ⟨?_, ?_⟩
    · go_wp2_with fail
      obtain ⟨w3, hw3⟩ : ∃ w3, (w2.alloc (.cells #[(.pointer (some ⟨y, 0, none⟩))] 59)).drew = w3 := ⟨_, rfl⟩
      rw [hw3]
      have S3 : Ux.Touch (fun _ => False) w2 w3 := by rw [← hw3]; exact ((Ux.Touch.refl (fun _ => False) w2).alloc _).drew
      have T3 : Ux.Touch (fun _ => False) w2 w3 := ((Ux.Touch.refl (fun _ => False) w2)).trans S3 (fun _ _ f => f.elim)
      have V9 : w3.heap[w2.heap.size]? = some (.cells #[(.pointer (some ⟨y, 0, none⟩))] 59 (0, 0)) := by rw [← hw3]; exact heap_alloc_new w2 _
      have gv9 : w2.heap.size ≤ w2.heap.size := ((Ux.Touch.refl (fun _ => False) w2)).size
      have Z9 := Lib.hid (And.intro V9 gv9)
      clear hw3 V9 gv9
      refine ⟨⟨HSS.out _ ((T3).mono (fun _ _ f => f.elim)), HSS.out _ ((T3).mono (fun _ _ f => f.elim))⟩, ?_, ?_⟩
      · go_wp2_with fail
        have INS := insertP (.slice (some ⟨g, 0, none⟩) m cc) m (i + 1) w2.heap.size _ (.pointer (some ⟨y, 0, none⟩)) w3 (Ux.own_touch HO.out.1 T3 (fun _ _ f => f)) HI.out.1 (by have := HI.out; omega) (by intro u hu; obtain ⟨p, _, rfl⟩ := List.mem_map.1 hu; rfl) rfl Z9.out.1 (fun e => by have := HL.out.1 _ e; have := Z9.out.2; omega)
        rw [show ((i + 1 : Nat) : Int) = (i : Int) + 1 by omega] at INS
        refine INS.mono ?_
        clear INS
        rintro e w4 ⟨kv1, rfl, o10, t10, b10⟩
        obtain ⟨gv, cv, curv, rfl, _, _, _, _, _⟩ := Ux.own_pos o10 (by omega)
        replace t10 : Ux.Touch (fun b => b = g) w3 w4 := t10.mono (fun b _ h => by cases h; rfl)
        have T4 : Ux.Touch (fun b => b = g) w2 w4 := ((T3).mono (fun _ _ f => f.elim) : Ux.Touch (fun b => b = g) w2 w3).trans t10 (fun _ _ h => h)
        have K10 := Lib.hid (And.intro o10 b10)
        clear o10 b10
        go_wp2_with fail
        refine ⟨⟨HSS.out _ ((T4).mono (fun _ _ h => .inl h)), HSS.out _ ((T4).mono (fun _ _ h => .inl h))⟩, ?_⟩
        go_wp2_with fail
        obtain ⟨w5, hw5⟩ : ∃ w5, w4.alloc (.cells #[(.string (halfK c'))] 9) = w5 := ⟨_, rfl⟩
        rw [hw5]
        have S5 : Ux.Touch (fun _ => False) w4 w5 := by rw [← hw5]; exact ((Ux.Touch.refl (fun _ => False) w4).alloc _)
        have T5 : Ux.Touch (fun b => b = g) w2 w5 := (T4).trans S5 (fun _ _ f => f.elim)
        have V17 : w5.heap[w4.heap.size]? = some (.cells #[(.string (halfK c'))] 9 (0, 0)) := by rw [← hw5]; exact heap_alloc_new w4 _
        have gv17 : w2.heap.size ≤ w4.heap.size := (T4).size
        have Z17 := Lib.hid (And.intro V17 gv17)
        clear hw5 V17 gv17
        refine ⟨HSS.out _ ((T5).mono (fun _ _ h => .inl h)), ?_⟩
        go_wp2_with fail
        refine (insertS kv ks.length i w4.heap.size _ (.string (halfK c')) w5 (Ux.own_touch HO.out.2 T5 (fun b hb h => (HL.out.2.2 b hb).1 h)) HI.out.2.1 (by have := HI.out; omega) (by intro u hu; obtain ⟨p, _, rfl⟩ := List.mem_map.1 hu; rfl) rfl Z17.out.1 (fun e => by have := HL.out.2.1 _ e; have := Z17.out.2; omega)).mono ?_
        rintro e w6 ⟨rv1, rfl, o18, t18, b18⟩
        obtain ⟨gk, ck, curk, rfl, _, _, _, _, _⟩ := Ux.own_pos o18 (by omega)
        have T6 : Ux.Touch (fun b => b = g ∨ kv.ownBlock = some b) w2 w6 := ((T5).mono (fun _ _ h => .inl h) : Ux.Touch (fun b => b = g ∨ kv.ownBlock = some b) w2 w5).trans t18 (fun _ _ h => .inr h)
        have K18 := Lib.hid (And.intro o18 b18)
        clear o18 b18
        go_wp2_with fail
        refine ⟨HSS.out _ (T6), ?_⟩
        obtain ⟨e2, e0⟩ := HSS.out _ T6
        have hx6 := T6.heap H2.out.2.1 (fun h => h.elim (fun e => H2.out.2.2.2.2.2.2.2.2 e.symm) (fun h => (HL.out.2.2 _ h).2 rfl))
        have fr6 : ∀ i, w6.frozen? ⟨x, i, none⟩ = false := fun i => frozen_of_row w6 x i _ 62 hx6
        have HXn := Lib.hid hx6
        clear hx6
        repeat (first
          | go_big_quiet_step (fail)
          | (with_reducible refine wpQuiet_nil ?_)
          | (refine Ux.quiet_held rfl ?_; apply Exists.intro; refine ⟨fun w' hS => ?_, ?_⟩; (focus ((try dsimp only at hS); go_simp; first | done | with_reducible rfl)); simp only [Act.put, List.setIfInBounds_toArray, List.set_cons_zero, List.set_cons_succ]))
        go_wp2
        go_returns
        obtain ⟨W, hW⟩ : ∃ W, ((w6.setCell ⟨x, 2, none⟩ (.slice (some ⟨gv, 0, none⟩) (m + 1) cv)).setCell ⟨x, 0, none⟩ (.slice (some ⟨gk, 0, none⟩) (ks.length + 1) ck)) = W := ⟨_, rfl⟩
        have TW : Ux.Touch (fun b => b = x) w6 W := by rw [← hW]; exact ((Ux.Touch.refl (fun b => b = x) w6).setCell (p := ⟨x, 2, none⟩) (fun _ => rfl) _).setCell (p := ⟨x, 0, none⟩) (fun _ => rfl) _
        have hxW : W.heap[x]? = some (.cells #[.slice (some ⟨gk, 0, none⟩) (ks.length + 1) ck, .slice none 0 0, .slice (some ⟨gv, 0, none⟩) (m + 1) cv] 62 (0, 0)) := by
          rw [← hW]
          have a := heap_setCell_same w6 x 2 _ 62 (.slice (some ⟨gv, 0, none⟩) (m + 1) cv) HXn.out
          have b := heap_setCell_same _ x 0 _ 62 (.slice (some ⟨gk, 0, none⟩) (ks.length + 1) ck) a
          simpa using b
        have hne10 : ∀ b, Value.ownBlock (.slice (some ⟨gv, 0, none⟩) (m + 1) cv) = some b → ¬ kv.ownBlock = some b := fun b hb h => by
          cases hb
          rcases K10.out.2 with e | ⟨g2, e, hg2⟩
          · cases e; exact (HL.out.2.2 _ h).1 rfl
          · cases e; have a := HL.out.2.1 _ h; have c := T3.size; omega
        have o10n : w6.ownsRow 0 59 1 (.slice (some ⟨gv, 0, none⟩) (m + 1) cv) (m + 1) _ := Ux.own_touch (Ux.own_touch (K10.out.1) S5 (fun _ _ f => f)) t18 hne10
        have hxg : ∀ (e : TypeId) (n g c : Nat) (xs : List Value), w6.ownsRow 0 e 1 (.slice (some ⟨g, 0, none⟩) (n + 1) c) (n + 1) xs → e ≠ 62 → ∀ b, Value.ownBlock (.slice (some ⟨g, 0, none⟩) (n + 1) c) = some b → ¬ b = x := fun e n g c xs h he b hb eq => by
          obtain ⟨a, _, cu, e1, _, _, hh1, _, _⟩ := Ux.own_pos h (by omega)
          cases e1
          cases hb
          have eq2 : g = x := eq
          rw [eq2, HXn.out] at hh1
          cases hh1
          exact he rfl
        have TX : Ux.Touch (fun b => b = g ∨ kv.ownBlock = some b ∨ b = x) w2 W := ((T6).mono (fun b _ h => h.elim .inl (fun h => .inr (.inl h))) : Ux.Touch (fun b => b = g ∨ kv.ownBlock = some b ∨ b = x) w2 w6).trans TW (fun b _ h => .inr (.inr h))
        rw [hc', hW]
        exact put_fin hbig HN.out HBF.out HG.out HFP.out HFC.out HM.out HLL.out H1.out H2.out.1 H2.out.2.2.2.2.2.2.2.1 H2.out.2.2.1 H2.out.2.2.2.1 H2.out.2.2.2.2.1 H2.out.2.2.2.2.2.1 H2.out.2.2.2.2.2.2.1 HW.out.2.2 TX hxW
          (Ux.own_touch K18.out.1 TW (hxg _ _ _ _ _ K18.out.1 (by decide))) (Ux.own_touch o10n TW (hxg _ _ _ _ _ o10n (by decide)))
          (by rcases K10.out.2 with e | ⟨g2, e, hg2⟩; exact .inl (by cases e; rfl); exact .inr (by cases e; exact Nat.le_trans T3.size hg2))
          (Nat.lt_of_lt_of_le (Ux.own_lt K10.out.1 gv rfl) S5.size) (K18.out.2.elim (fun e => .inl e.symm) (fun ⟨g2, e, hg2⟩ => .inr (by cases e; exact hg2))) T5.size
      · go_wp2_with fail
        obtain ⟨w4, hw4⟩ : ∃ w4, w3.alloc (.cells #[(.string (halfK c'))] 9) = w4 := ⟨_, rfl⟩
        rw [hw4]
        have S4 : Ux.Touch (fun _ => False) w3 w4 := by rw [← hw4]; exact ((Ux.Touch.refl (fun _ => False) w3).alloc _)
        have T4 : Ux.Touch (fun _ => False) w2 w4 := (T3).trans S4 (fun _ _ f => f.elim)
        have V17 : w4.heap[w3.heap.size]? = some (.cells #[(.string (halfK c'))] 9 (0, 0)) := by rw [← hw4]; exact heap_alloc_new w3 _
        have gv17 : w2.heap.size ≤ w3.heap.size := (T3).size
        have Z17 := Lib.hid (And.intro V17 gv17)
        clear hw4 V17 gv17
        have Z9 := Lib.hid (And.intro (S4.heap Z9.out.1 (fun f => f)) Z9.out.2)
        refine ⟨⟨HSS.out _ ((T4).mono (fun _ _ f => f.elim)), HSS.out _ ((T4).mono (fun _ _ f => f.elim))⟩, ?_⟩
        go_wp2_with fail
        have INS := insertP (.slice (some ⟨g, 0, none⟩) m cc) m (i + 1) w2.heap.size _ (.pointer (some ⟨y, 0, none⟩)) w4 (Ux.own_touch HO.out.1 T4 (fun _ _ f => f)) HI.out.1 (by have := HI.out; omega) (by intro u hu; obtain ⟨p, _, rfl⟩ := List.mem_map.1 hu; rfl) rfl Z9.out.1 (fun e => by have := HL.out.1 _ e; have := Z9.out.2; omega)
        rw [show ((i + 1 : Nat) : Int) = (i : Int) + 1 by omega] at INS
        refine INS.mono ?_
        clear INS
        rintro e w5 ⟨kv1, rfl, o10, t10, b10⟩
        obtain ⟨gv, cv, curv, rfl, _, _, _, _, _⟩ := Ux.own_pos o10 (by omega)
        replace t10 : Ux.Touch (fun b => b = g) w4 w5 := t10.mono (fun b _ h => by cases h; rfl)
        have T5 : Ux.Touch (fun b => b = g) w2 w5 := ((T4).mono (fun _ _ f => f.elim) : Ux.Touch (fun b => b = g) w2 w4).trans t10 (fun _ _ h => h)
        have K10 := Lib.hid (And.intro o10 b10)
        have Z17 := Lib.hid (And.intro (t10.heap Z17.out.1 (fun h => by have := HL.out.1 _ (show Value.ownBlock (.slice (some ⟨g, 0, none⟩) m cc) = some g from rfl); have := Z17.out.2; omega)) Z17.out.2)
        clear o10 b10
        go_wp2_with fail
        refine ⟨⟨HSS.out _ ((T5).mono (fun _ _ h => .inl h)), HSS.out _ ((T5).mono (fun _ _ h => .inl h))⟩, ?_⟩
        go_wp2_with fail
        refine (insertS kv ks.length i w3.heap.size _ (.string (halfK c')) w5 (Ux.own_touch HO.out.2 T5 (fun b hb h => (HL.out.2.2 b hb).1 h)) HI.out.2.1 (by have := HI.out; omega) (by intro u hu; obtain ⟨p, _, rfl⟩ := List.mem_map.1 hu; rfl) rfl Z17.out.1 (fun e => by have := HL.out.2.1 _ e; have := Z17.out.2; omega)).mono ?_
        rintro e w6 ⟨rv1, rfl, o18, t18, b18⟩
        obtain ⟨gk, ck, curk, rfl, _, _, _, _, _⟩ := Ux.own_pos o18 (by omega)
        have T6 : Ux.Touch (fun b => b = g ∨ kv.ownBlock = some b) w2 w6 := ((T5).mono (fun _ _ h => .inl h) : Ux.Touch (fun b => b = g ∨ kv.ownBlock = some b) w2 w5).trans t18 (fun _ _ h => .inr h)
        have K18 := Lib.hid (And.intro o18 b18)
        clear o18 b18
        go_wp2_with fail
        refine ⟨HSS.out _ (T6), ?_⟩
        obtain ⟨e2, e0⟩ := HSS.out _ T6
        have hx6 := T6.heap H2.out.2.1 (fun h => h.elim (fun e => H2.out.2.2.2.2.2.2.2.2 e.symm) (fun h => (HL.out.2.2 _ h).2 rfl))
        have fr6 : ∀ i, w6.frozen? ⟨x, i, none⟩ = false := fun i => frozen_of_row w6 x i _ 62 hx6
        have HXn := Lib.hid hx6
        clear hx6
        repeat (first
          | go_big_quiet_step (fail)
          | (with_reducible refine wpQuiet_nil ?_)
          | (refine Ux.quiet_held rfl ?_; apply Exists.intro; refine ⟨fun w' hS => ?_, ?_⟩; (focus ((try dsimp only at hS); go_simp; first | done | with_reducible rfl)); simp only [Act.put, List.setIfInBounds_toArray, List.set_cons_zero, List.set_cons_succ]))
        go_wp2
        go_returns
        obtain ⟨W, hW⟩ : ∃ W, ((w6.setCell ⟨x, 2, none⟩ (.slice (some ⟨gv, 0, none⟩) (m + 1) cv)).setCell ⟨x, 0, none⟩ (.slice (some ⟨gk, 0, none⟩) (ks.length + 1) ck)) = W := ⟨_, rfl⟩
        have TW : Ux.Touch (fun b => b = x) w6 W := by rw [← hW]; exact ((Ux.Touch.refl (fun b => b = x) w6).setCell (p := ⟨x, 2, none⟩) (fun _ => rfl) _).setCell (p := ⟨x, 0, none⟩) (fun _ => rfl) _
        have hxW : W.heap[x]? = some (.cells #[.slice (some ⟨gk, 0, none⟩) (ks.length + 1) ck, .slice none 0 0, .slice (some ⟨gv, 0, none⟩) (m + 1) cv] 62 (0, 0)) := by
          rw [← hW]
          have a := heap_setCell_same w6 x 2 _ 62 (.slice (some ⟨gv, 0, none⟩) (m + 1) cv) HXn.out
          have b := heap_setCell_same _ x 0 _ 62 (.slice (some ⟨gk, 0, none⟩) (ks.length + 1) ck) a
          simpa using b
        have hne10 : ∀ b, Value.ownBlock (.slice (some ⟨gv, 0, none⟩) (m + 1) cv) = some b → ¬ kv.ownBlock = some b := fun b hb h => by
          cases hb
          rcases K10.out.2 with e | ⟨g2, e, hg2⟩
          · cases e; exact (HL.out.2.2 _ h).1 rfl
          · cases e; have a := HL.out.2.1 _ h; have c := T4.size; omega
        have o10n : w6.ownsRow 0 59 1 (.slice (some ⟨gv, 0, none⟩) (m + 1) cv) (m + 1) _ := Ux.own_touch K10.out.1 t18 hne10
        have hxg : ∀ (e : TypeId) (n g c : Nat) (xs : List Value), w6.ownsRow 0 e 1 (.slice (some ⟨g, 0, none⟩) (n + 1) c) (n + 1) xs → e ≠ 62 → ∀ b, Value.ownBlock (.slice (some ⟨g, 0, none⟩) (n + 1) c) = some b → ¬ b = x := fun e n g c xs h he b hb eq => by
          obtain ⟨a, _, cu, e1, _, _, hh1, _, _⟩ := Ux.own_pos h (by omega)
          cases e1
          cases hb
          have eq2 : g = x := eq
          rw [eq2, HXn.out] at hh1
          cases hh1
          exact he rfl
        have TX : Ux.Touch (fun b => b = g ∨ kv.ownBlock = some b ∨ b = x) w2 W := ((T6).mono (fun b _ h => h.elim .inl (fun h => .inr (.inl h))) : Ux.Touch (fun b => b = g ∨ kv.ownBlock = some b ∨ b = x) w2 w6).trans TW (fun b _ h => .inr (.inr h))
        rw [hc', hW]
        exact put_fin hbig HN.out HBF.out HG.out HFP.out HFC.out HM.out HLL.out H1.out H2.out.1 H2.out.2.2.2.2.2.2.2.1 H2.out.2.2.1 H2.out.2.2.2.1 H2.out.2.2.2.2.1 H2.out.2.2.2.2.2.1 H2.out.2.2.2.2.2.2.1 HW.out.2.2 TX hxW
          (Ux.own_touch K18.out.1 TW (hxg _ _ _ _ _ K18.out.1 (by decide))) (Ux.own_touch o10n TW (hxg _ _ _ _ _ o10n (by decide)))
          (by rcases K10.out.2 with e | ⟨g2, e, hg2⟩; exact .inl (by cases e; rfl); exact .inr (by cases e; exact Nat.le_trans T4.size hg2))
          (Ux.own_lt K10.out.1 gv rfl) (K18.out.2.elim (fun e => .inl e.symm) (fun ⟨g2, e, hg2⟩ => .inr (by cases e; exact hg2))) T5.size
    · go_wp2_with fail
      obtain ⟨w3, hw3⟩ : ∃ w3, (w2.alloc (.cells #[(.string (halfK c'))] 9)).drew = w3 := ⟨_, rfl⟩
      rw [hw3]
      have S3 : Ux.Touch (fun _ => False) w2 w3 := by rw [← hw3]; exact ((Ux.Touch.refl (fun _ => False) w2).alloc _).drew
      have T3 : Ux.Touch (fun _ => False) w2 w3 := ((Ux.Touch.refl (fun _ => False) w2)).trans S3 (fun _ _ f => f.elim)
      have V17 : w3.heap[w2.heap.size]? = some (.cells #[(.string (halfK c'))] 9 (0, 0)) := by rw [← hw3]; exact heap_alloc_new w2 _
      have gv17 : w2.heap.size ≤ w2.heap.size := ((Ux.Touch.refl (fun _ => False) w2)).size
      have Z17 := Lib.hid (And.intro V17 gv17)
      clear hw3 V17 gv17
      refine ⟨⟨HSS.out _ ((T3).mono (fun _ _ f => f.elim)), HSS.out _ ((T3).mono (fun _ _ f => f.elim))⟩, ?_⟩
      go_wp2_with fail
      obtain ⟨w4, hw4⟩ : ∃ w4, w3.alloc (.cells #[(.pointer (some ⟨y, 0, none⟩))] 59) = w4 := ⟨_, rfl⟩
      rw [hw4]
      have S4 : Ux.Touch (fun _ => False) w3 w4 := by rw [← hw4]; exact ((Ux.Touch.refl (fun _ => False) w3).alloc _)
      have T4 : Ux.Touch (fun _ => False) w2 w4 := (T3).trans S4 (fun _ _ f => f.elim)
      have V9 : w4.heap[w3.heap.size]? = some (.cells #[(.pointer (some ⟨y, 0, none⟩))] 59 (0, 0)) := by rw [← hw4]; exact heap_alloc_new w3 _
      have gv9 : w2.heap.size ≤ w3.heap.size := (T3).size
      have Z9 := Lib.hid (And.intro V9 gv9)
      clear hw4 V9 gv9
      have Z17 := Lib.hid (And.intro (S4.heap Z17.out.1 (fun f => f)) Z17.out.2)
      refine ⟨⟨HSS.out _ ((T4).mono (fun _ _ f => f.elim)), HSS.out _ ((T4).mono (fun _ _ f => f.elim))⟩, ?_⟩
      go_wp2_with fail
      have INS := insertP (.slice (some ⟨g, 0, none⟩) m cc) m (i + 1) w3.heap.size _ (.pointer (some ⟨y, 0, none⟩)) w4 (Ux.own_touch HO.out.1 T4 (fun _ _ f => f)) HI.out.1 (by have := HI.out; omega) (by intro u hu; obtain ⟨p, _, rfl⟩ := List.mem_map.1 hu; rfl) rfl Z9.out.1 (fun e => by have := HL.out.1 _ e; have := Z9.out.2; omega)
      rw [show ((i + 1 : Nat) : Int) = (i : Int) + 1 by omega] at INS
      refine INS.mono ?_
      clear INS
      rintro e w5 ⟨kv1, rfl, o10, t10, b10⟩
      obtain ⟨gv, cv, curv, rfl, _, _, _, _, _⟩ := Ux.own_pos o10 (by omega)
      replace t10 : Ux.Touch (fun b => b = g) w4 w5 := t10.mono (fun b _ h => by cases h; rfl)
      have T5 : Ux.Touch (fun b => b = g) w2 w5 := ((T4).mono (fun _ _ f => f.elim) : Ux.Touch (fun b => b = g) w2 w4).trans t10 (fun _ _ h => h)
      have K10 := Lib.hid (And.intro o10 b10)
      have Z17 := Lib.hid (And.intro (t10.heap Z17.out.1 (fun h => by have := HL.out.1 _ (show Value.ownBlock (.slice (some ⟨g, 0, none⟩) m cc) = some g from rfl); have := Z17.out.2; omega)) Z17.out.2)
      clear o10 b10
      go_wp2_with fail
      refine ⟨⟨HSS.out _ ((T5).mono (fun _ _ h => .inl h)), HSS.out _ ((T5).mono (fun _ _ h => .inl h))⟩, ?_⟩
      go_wp2_with fail
      refine (insertS kv ks.length i w2.heap.size _ (.string (halfK c')) w5 (Ux.own_touch HO.out.2 T5 (fun b hb h => (HL.out.2.2 b hb).1 h)) HI.out.2.1 (by have := HI.out; omega) (by intro u hu; obtain ⟨p, _, rfl⟩ := List.mem_map.1 hu; rfl) rfl Z17.out.1 (fun e => by have := HL.out.2.1 _ e; have := Z17.out.2; omega)).mono ?_
      rintro e w6 ⟨rv1, rfl, o18, t18, b18⟩
      obtain ⟨gk, ck, curk, rfl, _, _, _, _, _⟩ := Ux.own_pos o18 (by omega)
      have T6 : Ux.Touch (fun b => b = g ∨ kv.ownBlock = some b) w2 w6 := ((T5).mono (fun _ _ h => .inl h) : Ux.Touch (fun b => b = g ∨ kv.ownBlock = some b) w2 w5).trans t18 (fun _ _ h => .inr h)
      have K18 := Lib.hid (And.intro o18 b18)
      clear o18 b18
      go_wp2_with fail
      refine ⟨HSS.out _ (T6), ?_⟩
      obtain ⟨e2, e0⟩ := HSS.out _ T6
      have hx6 := T6.heap H2.out.2.1 (fun h => h.elim (fun e => H2.out.2.2.2.2.2.2.2.2 e.symm) (fun h => (HL.out.2.2 _ h).2 rfl))
      have fr6 : ∀ i, w6.frozen? ⟨x, i, none⟩ = false := fun i => frozen_of_row w6 x i _ 62 hx6
      have HXn := Lib.hid hx6
      clear hx6
      repeat (first
        | go_big_quiet_step (fail)
        | (with_reducible refine wpQuiet_nil ?_)
        | (refine Ux.quiet_held rfl ?_; apply Exists.intro; refine ⟨fun w' hS => ?_, ?_⟩; (focus ((try dsimp only at hS); go_simp; first | done | with_reducible rfl)); simp only [Act.put, List.setIfInBounds_toArray, List.set_cons_zero, List.set_cons_succ]))
      go_wp2
      go_returns
      obtain ⟨W, hW⟩ : ∃ W, ((w6.setCell ⟨x, 2, none⟩ (.slice (some ⟨gv, 0, none⟩) (m + 1) cv)).setCell ⟨x, 0, none⟩ (.slice (some ⟨gk, 0, none⟩) (ks.length + 1) ck)) = W := ⟨_, rfl⟩
      have TW : Ux.Touch (fun b => b = x) w6 W := by rw [← hW]; exact ((Ux.Touch.refl (fun b => b = x) w6).setCell (p := ⟨x, 2, none⟩) (fun _ => rfl) _).setCell (p := ⟨x, 0, none⟩) (fun _ => rfl) _
      have hxW : W.heap[x]? = some (.cells #[.slice (some ⟨gk, 0, none⟩) (ks.length + 1) ck, .slice none 0 0, .slice (some ⟨gv, 0, none⟩) (m + 1) cv] 62 (0, 0)) := by
        rw [← hW]
        have a := heap_setCell_same w6 x 2 _ 62 (.slice (some ⟨gv, 0, none⟩) (m + 1) cv) HXn.out
        have b := heap_setCell_same _ x 0 _ 62 (.slice (some ⟨gk, 0, none⟩) (ks.length + 1) ck) a
        simpa using b
      have hne10 : ∀ b, Value.ownBlock (.slice (some ⟨gv, 0, none⟩) (m + 1) cv) = some b → ¬ kv.ownBlock = some b := fun b hb h => by
        cases hb
        rcases K10.out.2 with e | ⟨g2, e, hg2⟩
        · cases e; exact (HL.out.2.2 _ h).1 rfl
        · cases e; have a := HL.out.2.1 _ h; have c := T4.size; omega
      have o10n : w6.ownsRow 0 59 1 (.slice (some ⟨gv, 0, none⟩) (m + 1) cv) (m + 1) _ := Ux.own_touch K10.out.1 t18 hne10
      have hxg : ∀ (e : TypeId) (n g c : Nat) (xs : List Value), w6.ownsRow 0 e 1 (.slice (some ⟨g, 0, none⟩) (n + 1) c) (n + 1) xs → e ≠ 62 → ∀ b, Value.ownBlock (.slice (some ⟨g, 0, none⟩) (n + 1) c) = some b → ¬ b = x := fun e n g c xs h he b hb eq => by
        obtain ⟨a, _, cu, e1, _, _, hh1, _, _⟩ := Ux.own_pos h (by omega)
        cases e1
        cases hb
        have eq2 : g = x := eq
        rw [eq2, HXn.out] at hh1
        cases hh1
        exact he rfl
      have TX : Ux.Touch (fun b => b = g ∨ kv.ownBlock = some b ∨ b = x) w2 W := ((T6).mono (fun b _ h => h.elim .inl (fun h => .inr (.inl h))) : Ux.Touch (fun b => b = g ∨ kv.ownBlock = some b ∨ b = x) w2 w6).trans TW (fun b _ h => .inr (.inr h))
      rw [hc', hW]
      exact put_fin hbig HN.out HBF.out HG.out HFP.out HFC.out HM.out HLL.out H1.out H2.out.1 H2.out.2.2.2.2.2.2.2.1 H2.out.2.2.1 H2.out.2.2.2.1 H2.out.2.2.2.2.1 H2.out.2.2.2.2.2.1 H2.out.2.2.2.2.2.2.1 HW.out.2.2 TX hxW
        (Ux.own_touch K18.out.1 TW (hxg _ _ _ _ _ K18.out.1 (by decide))) (Ux.own_touch o10n TW (hxg _ _ _ _ _ o10n (by decide)))
        (by rcases K10.out.2 with e | ⟨g2, e, hg2⟩; exact .inl (by cases e; rfl); exact .inr (by cases e; exact Nat.le_trans T4.size hg2))
        (Ux.own_lt K10.out.1 gv rfl) (K18.out.2.elim (fun e => .inl e.symm) (fun ⟨g2, e, hg2⟩ => .inr (by cases e; exact hg2))) T5.size
  · have hsm : c'.size ≤ fan := by omega
    go_wp2
    go_returns
    obtain ⟨h1, h2, h3, na, nc, nb⟩ := HG.out
    obtain ⟨n', nd', sub', T1, hf1⟩ := H1.out
    obtain ⟨hfpe, hnd, hoff⟩ := HFP.out
    have hT := HT1.out
    rw [hc', Ux.back_small hsm]
    have mem : ∀ b, b ∈ blk kv ∨ b ∈ fa ∨ b ∈ fb → b ∈ fp := fun b hb => by rw [hfpe]; rcases hb with h | h | h <;> simp [h]
    have nk : ∀ b ∈ blk kv, ¬ (b ∈ fc ∨ b = bf) := fun b hb => hT b (mem b (.inl hb)) (fun h => (HFC.out b h).2.2.1 hb)
    have e1 : fp = (x :: (blk kv ++ blk (.slice (some ⟨g, 0, none⟩) (A ++ c :: B).length cc) ++ fa)) ++ (fc ++ fb) := by rw [hfpe]; simp
    have hlt := NodeAt.lt HN.out
    refine ⟨x :: (blk kv ++ blk (.slice (some ⟨g, 0, none⟩) (A ++ c :: B).length cc) ++ (fa ++ (fc' ++ fb))), rfl, ?_, ?_, ?_, ?_, ?_⟩
    · refine ⟨kv, .slice (some ⟨g, 0, none⟩) (A ++ c :: B).length cc, xa ++ xc :: xb, fa ++ (fc' ++ fb), HX1.out.1, ?_, ?_, ?_, rfl⟩
      · exact Ux.own_touch h2 T1.drew (fun b hb => nk b (by simp [blk, hb]))
      · have e := Ux.put_length (A := A) (B := B) (c := c) (c' := c')
        rw [← e]
        exact Ux.own_touch h3 T1.drew (fun b hb => by cases hb; exact HX1.out.2.2)
      · exact NodesAt.mk (na.touch T1.drew (fun b hb => hT b (mem b (.inr (.inl hb))) (fun h => (HFC.out b h).2.2.2.2.1 hb))) (n'.touch (Ux.Touch.refl (fun _ => False) w1).drew (fun _ _ f => f))
          (nb.touch T1.drew (fun b hb => hT b (mem b (.inr (.inr hb))) (fun h => (HFC.out b h).2.2.2.2.2 hb)))
    · rw [e1] at hnd hlt
      have := Ux.fp_swap hnd hlt nd' sub'
      simpa using this
    · intro b hb
      simp only [List.mem_cons, List.mem_append] at hb
      rcases hb with rfl | (hb | hb) | hb | hb | hb
      · exact .inl hxfp
      · exact .inl (mem b (.inl hb))
      · left; rw [hfpe]; exact List.mem_cons_of_mem _ (List.mem_append_left _ (List.mem_append_right _ hb))
      · exact .inl (mem b (.inr (.inl hb)))
      · rcases sub' b hb with h | h
        · exact .inl (HFC.out b h).1
        · exact .inr h
      · exact .inl (mem b (.inr (.inr hb)))
    · exact T1.drew.mono (fun b _ h => h.elim (fun h => .inl (HFC.out b h).1) .inr)
    · rw [show flat (T.node ks (A ++ c :: B)) = flats (A ++ c :: B) from by simp [flat], HW.out.2.2]
      exact hf1

theorem put29 {fan : Nat} (hf4 : 4 ≤ fan) (hf64 : fan ≤ 64) (k : ByteArray) (v : Int) : ∀ d, PutSays fan k v d
  | 0 => by
    intro t x fp w bk br bf bp bt tb he hf h hnd hg hu hs hoff
    obtain ⟨l, rfl⟩ := hg
    exact put_leaf l x fp w bk br bf bp bt tb k v fan he hf h hnd (by simp [T.size] at hs; omega) (Ux.Up.rises hu) ⟨hoff.1, hoff.2.1, hoff.2.2.1⟩
  | d + 1 => by
    intro t x fp w bk br bf bp bt tb he hf h hnd hg hu hs hoff
    have hg0 := hg
    obtain ⟨ks, cs, rfl, e1, e2, e3⟩ := hg
    have hr : Rises ks := Ux.Good.rises hf4 hg0
    obtain ⟨c, hc⟩ := Ux.way_some (fan := fan) (d := d) e1 k
    have hi := (List.getElem?_eq_some_iff.1 hc).1
    obtain ⟨A, B, hA, rfl⟩ : ∃ A B, A.length = wayN ks k ∧ cs = A ++ c :: B := ⟨cs.take (wayN ks k), cs.drop (wayN ks k + 1), by simp; omega, Ux.split_at hc⟩
    obtain ⟨gc, sc1, sc2⟩ := e3 c (by simp)
    have hu' : Up (flats A ++ (flat c ++ flats B)) := by
      have := hu
      simp only [flat] at this
      rwa [Ux.flats_at] at this
    have huc := (Ux.up_append (Ux.up_append hu').2).1
    have hp : putT fan k v (d + 1) (.node ks (A ++ c :: B)) = back fan ks (A ++ c :: B) A.length (putT fan k v d c) := by
      simp only [putT, hc]
      rw [hA]
    rw [hp]
    have ahead := Ux.way_ahead e2 e1 hA
    have behind := Ux.way_behind hr e2 e1 hA
    have hhas : has (keys (flats (A ++ c :: B))) k = has (keys (flat c)) k := by
      rw [Ux.flats_at, Ux.keys_append, Ux.keys_append, Ux.has_left (fun x hx => by obtain ⟨p, hp, rfl⟩ := Ux.mem_keys hx; exact ahead p hp), Ux.has_right (fun x hx => by obtain ⟨p, hp, rfl⟩ := Ux.mem_keys hx; exact behind p hp)]
    exact put_node hf4 hf64 k v d (put29 hf4 hf64 k v d) ks A B c x fp w bk br bf bp bt tb he hf h hnd e1 hs hr hA hoff gc huc sc2 hhas

end Go.Proofs.Ytdfgpminonpeaaa
