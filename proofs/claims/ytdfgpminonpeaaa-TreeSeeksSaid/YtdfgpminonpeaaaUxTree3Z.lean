/- PART OF THE PROOF THAT TreeSeeksSaid HOLDS OF THE GIVEN PROGRAM, FOR EVERY INPUT THAT THE STATEMENT NAMES. No condition besides the statement's own. -/
import Derived.Test.YtdfgpminonpeaaaUxTree2Z
namespace Go.Ux
open Go

/-- a child after a put, back into its node -/
def back (fan : Nat) (ks : List ByteArray) (cs : List T) (i : Nat) (c' : T) : T :=
  if fan < c'.size then .node (ks.take i ++ halfK c' :: ks.drop i) (cs.take i ++ half1 c' :: half2 c' :: cs.drop (i + 1))
  else .node ks (cs.take i ++ c' :: cs.drop (i + 1))

/-- Put's way: d nodes down to a leaf -/
def putT (fan : Nat) (k : ByteArray) (v : Int) : Nat → T → T
  | _, .leaf l => .leaf (ins k v l)
  | 0, t => t
  | d + 1, .node ks cs => match cs[wayN ks k]? with
    | none => .node ks cs
    | some c => back fan ks cs (wayN ks k) (putT fan k v d c)

theorem split_at {α : Type} {cs : List α} {i : Nat} {c : α} (h : cs[i]? = some c) : cs = cs.take i ++ c :: cs.drop (i + 1) := by
  obtain ⟨hl, rfl⟩ := List.getElem?_eq_some_iff.1 h
  rw [List.getElem_cons_drop, List.take_append_drop]

theorem up_append {A B : List Ent} (h : Up (A ++ B)) : Up A ∧ Up B := by
  unfold Up at h
  rw [List.pairwise_append] at h
  exact ⟨h.1, h.2.1⟩

theorem ins_length {k : ByteArray} {v : Int} {l : List Ent} : l.length ≤ (ins k v l).length ∧ (ins k v l).length ≤ l.length + 1 := by
  have hl := lb_le (keys l) k
  rw [keys_length] at hl
  unfold ins
  split
  · rename_i hh
    unfold has at hh
    rw [decide_eq_true_iff] at hh
    have := (List.getElem?_eq_some_iff.1 hh).1
    rw [keys_length] at this
    simp only [List.length_append, List.length_take, List.length_cons, List.length_drop]; omega
  · simp only [List.length_append, List.length_take, List.length_cons, List.length_drop]; omega

/-- a child c at its place has been turned into c': what becomes of its node -/
theorem back_good {fan : Nat} (hf : 4 ≤ fan) {d : Nat} {ks : List ByteArray} {A B : List T} {c c' : T} (hlen : (A ++ c :: B).length = ks.length + 1) (hsep : Sep ks (A ++ c :: B))
    (hall : ∀ t ∈ A ++ c :: B, Good fan d t ∧ fan / 2 ≤ t.size ∧ t.size ≤ fan) (hg : Good fan d c') (hs1 : fan / 2 ≤ c'.size) (hs2 : c'.size ≤ fan + 1)
    (hup : Up (flats A ++ (flat c' ++ flats B)))
    (hc : ∀ j s, ks[j]? = some s → (A.length ≤ j → AllLt (flat c) s → AllLt (flat c') s) ∧ (j < A.length → AllGe (flat c) s → AllGe (flat c') s)) :
    Good fan (d + 1) (back fan ks (A ++ c :: B) A.length c') ∧ flat (back fan ks (A ++ c :: B) A.length c') = flats A ++ (flat c' ++ flats B) ∧
    (A ++ c :: B).length ≤ (back fan ks (A ++ c :: B) A.length c').size ∧ (back fan ks (A ++ c :: B) A.length c').size ≤ (A ++ c :: B).length + 1 := by
  have eT : (A ++ c :: B).take A.length = A := List.take_left
  have eD : (A ++ c :: B).drop (A.length + 1) = B := by rw [List.drop_append, List.drop_eq_nil_of_le (by omega), show A.length + 1 - A.length = 1 by omega]; rfl
  have hsep' := hsep.set hc
  unfold back
  rw [eT, eD]
  simp only [List.length_append, List.length_cons] at hlen
  split
  · rename_i hbig
    have hu := (up_append (up_append hup).2).1
    obtain ⟨g1, g2, he, l1, l2, z1, z2⟩ := half_good hf hg hu hbig (by omega)
    have ne1 := good_some hf g1 (by omega)
    have ne2 := good_some hf g2 (by omega)
    rw [he] at hup
    unfold Up at hup
    rw [List.pairwise_append, List.append_assoc, List.pairwise_append] at hup
    obtain ⟨_, ⟨_, hBu, h1B⟩, hAc⟩ := hup
    rw [List.pairwise_append] at hBu
    have hA : AllLt (flats A) (halfK c') := fun p hp => by
      obtain ⟨q, hq⟩ := ne1
      exact slt_trans (hAc p hp q (by simp [hq])) (l1 q hq)
    have hB : AllGe (flats B) (halfK c') := fun p hp => by
      obtain ⟨q, hq⟩ := ne2
      have a := hBu.2.2 q hq p hp
      cases e : slt p.1 (halfK c') with
      | false => rfl
      | true => have := l2 q hq; rw [slt_trans a e] at this; cases this
    refine ⟨⟨_, _, rfl, ?_, ?_, ?_⟩, ?_, ?_⟩
    · simp only [List.length_append, List.length_cons, List.length_take, List.length_drop]; omega
    · refine Sep.part (c := c') ?_ (by simp only [List.length_take]; omega) he l1 l2 hA hB
      rw [List.take_append_drop]
      exact hsep'
    · intro t ht
      simp only [List.mem_append, List.mem_cons] at ht
      rcases ht with ht | rfl | rfl | ht
      · exact hall t (by simp [ht])
      · exact ⟨g1, z1⟩
      · exact ⟨g2, z2⟩
      · exact hall t (by simp [ht])
    · simp only [flat, flats_append, flats_cons, he, List.append_assoc]
    · simp only [T.size, List.length_append, List.length_cons]; omega
  · rename_i hsm
    refine ⟨⟨_, _, rfl, ?_, hsep', ?_⟩, ?_, ?_⟩
    · simp only [List.length_append, List.length_cons]; omega
    · intro t ht
      simp only [List.mem_append, List.mem_cons] at ht
      rcases ht with ht | rfl | ht
      · exact hall t (by simp [ht])
      · exact ⟨hg, by omega, by omega⟩
      · exact hall t (by simp [ht])
    · simp only [flat, flats_append, flats_cons, List.append_assoc]
    · simp only [T.size, List.length_append, List.length_cons]; omega

theorem way_some {fan d : Nat} {ks : List ByteArray} {cs : List T} (h : cs.length = ks.length + 1) (k : ByteArray) : ∃ c, cs[wayN ks k]? = some c :=
  ⟨cs[wayN ks k]'(by have := wayN_le ks k; omega), List.getElem?_eq_getElem _⟩

/-- Put upon a tree is put upon the list of its keys. -/
theorem put_good {fan : Nat} (hf : 4 ≤ fan) (k : ByteArray) (v : Int) : ∀ {d : Nat} {t : T}, Good fan d t → Up (flat t) →
    Good fan d (putT fan k v d t) ∧ flat (putT fan k v d t) = ins k v (flat t) ∧ t.size ≤ (putT fan k v d t).size ∧ (putT fan k v d t).size ≤ t.size + 1
  | 0, _, h, hu => by
    obtain ⟨l, rfl⟩ := h
    exact ⟨⟨_, rfl⟩, rfl, ins_length⟩
  | d + 1, _, h, hu => by
    obtain ⟨ks, cs, rfl, e1, e2, e3⟩ := h
    have hr : Rises ks := Good.rises hf ⟨ks, cs, rfl, e1, e2, e3⟩
    obtain ⟨c, hc⟩ := way_some (fan := fan) (d := d) e1 k
    have hi := (List.getElem?_eq_some_iff.1 hc).1
    obtain ⟨A, B, hA, rfl⟩ : ∃ A B, A.length = wayN ks k ∧ cs = A ++ c :: B := ⟨cs.take (wayN ks k), cs.drop (wayN ks k + 1), by simp; omega, split_at hc⟩
    simp only [putT, hc, flat] at hu ⊢
    rw [flats_at] at hu ⊢
    have huc := (up_append (up_append hu).2).1
    obtain ⟨gc, sc1, sc2⟩ := e3 c (by simp)
    obtain ⟨g', f', s1, s2⟩ := put_good hf k v gc huc
    have ahead := way_ahead e2 e1 hA
    have behind := way_behind hr e2 e1 hA
    have hmid := ins_mid (v := v) (C := flat c) ahead behind
    rw [hmid, ← f', ← hA]
    refine back_good hf e1 e2 e3 g' (by omega) (by omega) ?_ ?_
    · rw [f', ← hmid]; exact up_ins hu
    · intro j s hs
      rw [f']
      constructor
      · intro hj ha p hp
        rcases mem_ins hp with h | rfl
        · exact ha p h
        · show slt k s = true
          exact wayN_hi hr hs (by omega)
      · intro hj ha p hp
        rcases mem_ins hp with h | rfl
        · exact ha p h
        · show slt k s = false
          exact wayN_lo hs (by omega)

/-! ### Del -/
/-- two trees made one -/
def mrg : T → ByteArray → T → T
  | .leaf a, _, .leaf b => .leaf (a ++ b)
  | .node ka ca, s, .node kb cb => .node (ka ++ s :: kb) (ca ++ cb)
  | t, _, _ => t

/-- join, at two trees that stand side by side -/
def joinT (fan : Nat) (ks : List ByteArray) (cs : List T) (j : Nat) : T :=
  match cs[j]?, cs[j + 1]?, ks[j]? with
  | some a, some b, some s => if fan < (mrg a s b).size then .node (ks.take j ++ halfK (mrg a s b) :: ks.drop (j + 1)) (cs.take j ++ half1 (mrg a s b) :: half2 (mrg a s b) :: cs.drop (j + 2))
    else .node (ks.take j ++ ks.drop (j + 1)) (cs.take j ++ mrg a s b :: cs.drop (j + 2))
  | _, _, _ => .node ks cs

def delT (fan : Nat) (k : ByteArray) : Nat → T → T
  | _, .leaf l => .leaf (del k l)
  | 0, t => t
  | d + 1, .node ks cs => match cs[wayN ks k]? with
    | none => .node ks cs
    | some c => if (delT fan k d c).size < fan / 2 then joinT fan ks (cs.take (wayN ks k) ++ delT fan k d c :: cs.drop (wayN ks k + 1)) (min (wayN ks k) (cs.length - 2))
      else .node ks (cs.take (wayN ks k) ++ delT fan k d c :: cs.drop (wayN ks k + 1))

theorem del_length {k : ByteArray} {l : List Ent} : (del k l).length ≤ l.length ∧ l.length ≤ (del k l).length + 1 := by
  have hl := lb_le (keys l) k
  rw [keys_length] at hl
  unfold del
  split
  · simp only [List.length_append, List.length_take, List.length_drop]; omega
  · omega

/-- made one: all that both had -/
theorem mrg_good {fan : Nat} (hf : 4 ≤ fan) {d : Nat} {a b : T} {s : ByteArray} (ga : Good fan d a) (gb : Good fan d b) (ha : AllLt (flat a) s) (hb : AllGe (flat b) s) :
    Good fan d (mrg a s b) ∧ flat (mrg a s b) = flat a ++ flat b ∧ (mrg a s b).size = a.size + b.size := by
  cases d with
  | zero =>
    obtain ⟨la, rfl⟩ := ga
    obtain ⟨lb, rfl⟩ := gb
    exact ⟨⟨_, rfl⟩, rfl, by simp [mrg, T.size]⟩
  | succ d =>
    obtain ⟨ka, ca, rfl, a1, a2, a3⟩ := ga
    obtain ⟨kb, cb, rfl, b1, b2, b3⟩ := gb
    simp only [flat] at ha hb
    refine ⟨⟨_, _, rfl, ?_, ?_, ?_⟩, ?_, ?_⟩
    · simp only [List.length_append, List.length_cons]; omega
    · intro i x j c hx hc
      have hcj : (j < ca.length ∧ ca[j]? = some c) ∨ (ca.length ≤ j ∧ cb[j - ca.length]? = some c) := by
        rcases Nat.lt_or_ge j ca.length with h | h
        · rw [List.getElem?_append_left h] at hc; exact .inl ⟨h, hc⟩
        · rw [List.getElem?_append_right h] at hc; exact .inr ⟨h, hc⟩
      rcases Nat.lt_trichotomy i ka.length with hi | hi | hi
      · rw [List.getElem?_append_left hi] at hx
        rcases hcj with ⟨h1, h2⟩ | ⟨h1, h2⟩
        · exact a2 i x j c hx h2
        · refine ⟨fun h => by omega, fun _ p hp => ?_⟩
          have hb' := hb p (mem_flats.2 ⟨_, c, h2, hp⟩)
          obtain ⟨z, hz⟩ : ∃ z, ca[ka.length]? = some z := ⟨ca[ka.length]'(by omega), List.getElem?_eq_getElem _⟩
          obtain ⟨gz, sz, _⟩ := a3 z (List.mem_of_getElem? hz)
          obtain ⟨q, hq⟩ := good_some hf gz (by omega)
          have q1 := (a2 i x ka.length z hx hz).2 hi q hq
          have q2 := ha q (mem_flats.2 ⟨_, z, hz, hq⟩)
          have hxs := slt_of_le q1 q2
          cases e : slt p.1 x with
          | false => rfl
          | true => rw [slt_trans e hxs] at hb'; cases hb'
      · rw [hi, List.getElem?_append_right (Nat.le_refl _), Nat.sub_self] at hx
        simp at hx
        subst hx
        rcases hcj with ⟨h1, h2⟩ | ⟨h1, h2⟩
        · exact ⟨fun _ p hp => ha p (mem_flats.2 ⟨_, c, h2, hp⟩), fun h => by omega⟩
        · exact ⟨fun h => by omega, fun _ p hp => hb p (mem_flats.2 ⟨_, c, h2, hp⟩)⟩
      · obtain ⟨n, hn⟩ : ∃ n, i - ka.length = n + 1 := ⟨i - ka.length - 1, by omega⟩
        rw [List.getElem?_append_right (by omega), hn] at hx
        simp only [List.getElem?_cons_succ] at hx
        rcases hcj with ⟨h1, h2⟩ | ⟨h1, h2⟩
        · refine ⟨fun _ p hp => ?_, fun h => by omega⟩
          obtain ⟨z, hz⟩ : ∃ z, cb[0]? = some z := ⟨cb[0]'(by omega), List.getElem?_eq_getElem _⟩
          obtain ⟨gz, sz, _⟩ := b3 z (List.mem_of_getElem? hz)
          obtain ⟨q, hq⟩ := good_some hf gz (by omega)
          have q1 := (b2 n x 0 z hx hz).1 (by omega) q hq
          have q2 := hb q (mem_flats.2 ⟨_, z, hz, hq⟩)
          have q3 := ha p (mem_flats.2 ⟨_, c, h2, hp⟩)
          exact slt_trans (slt_of_le' q3 q2) q1
        · have := b2 n x _ c hx h2
          exact ⟨fun h => this.1 (by omega), fun h => this.2 (by omega)⟩
    · intro c hc
      rcases List.mem_append.1 hc with h | h
      · exact a3 c h
      · exact b3 c h
    · simp only [mrg, flat, flats_append]
    · simp only [mrg, T.size, List.length_append]

/-- join, of two trees side by side: all that they had -/
theorem join_good {fan : Nat} (hf : 4 ≤ fan) {d : Nat} {Ka Kb : List ByteArray} {s : ByteArray} {A B : List T} {a b : T} (hlen : (A ++ a :: b :: B).length = (Ka ++ s :: Kb).length + 1) (hK : Ka.length = A.length)
    (hsep : Sep (Ka ++ s :: Kb) (A ++ a :: b :: B)) (hA : ∀ t ∈ A, Good fan d t ∧ fan / 2 ≤ t.size ∧ t.size ≤ fan) (hB : ∀ t ∈ B, Good fan d t ∧ fan / 2 ≤ t.size ∧ t.size ≤ fan)
    (ga : Good fan d a) (gb : Good fan d b) (hs1 : fan / 2 ≤ a.size + b.size) (hs2 : a.size + b.size ≤ 2 * fan) (hup : Up (flats (A ++ a :: b :: B))) :
    Good fan (d + 1) (joinT fan (Ka ++ s :: Kb) (A ++ a :: b :: B) A.length) ∧ flat (joinT fan (Ka ++ s :: Kb) (A ++ a :: b :: B) A.length) = flats (A ++ a :: b :: B) ∧
    (joinT fan (Ka ++ s :: Kb) (A ++ a :: b :: B) A.length).size ≤ (A ++ a :: b :: B).length ∧ (A ++ a :: b :: B).length ≤ (joinT fan (Ka ++ s :: Kb) (A ++ a :: b :: B) A.length).size + 1 := by
  have e0 : (A ++ a :: b :: B)[A.length]? = some a := at_mid
  have e1 : (A ++ a :: b :: B)[A.length + 1]? = some b := by
    exact at_right (A := A) (B := b :: B) (c := a) (j := 0) (t := b) rfl
  have e2 : (Ka ++ s :: Kb)[A.length]? = some s := by rw [← hK, List.getElem?_append_right (Nat.le_refl _), Nat.sub_self]; rfl
  have t0 : (A ++ a :: b :: B).take A.length = A := List.take_left
  have t1 : (A ++ a :: b :: B).drop (A.length + 2) = B := by rw [List.drop_append, List.drop_eq_nil_of_le (by omega), show A.length + 2 - A.length = 2 by omega]; rfl
  have t2 : (Ka ++ s :: Kb).take A.length = Ka := by rw [← hK]; exact List.take_left
  have t3 : (Ka ++ s :: Kb).drop (A.length + 1) = Kb := by rw [← hK, List.drop_append, List.drop_eq_nil_of_le (by omega), show Ka.length + 1 - Ka.length = 1 by omega]; rfl
  have sa := hsep A.length s A.length a e2 e0
  have sb := hsep A.length s (A.length + 1) b e2 e1
  obtain ⟨gm, fm, zm⟩ := mrg_good hf ga gb (sa.1 (Nat.le_refl _)) (sb.2 (by omega))
  -- the two as one: what stays parted
  have hsepm : Sep (Ka ++ Kb) (A ++ mrg a s b :: B) := by
    intro i x j c hx hc
    have hx' : ∃ i', (Ka ++ s :: Kb)[i']? = some x ∧ ((i' = i ∧ i < A.length) ∨ (i' = i + 1 ∧ A.length ≤ i)) := by
      rcases Nat.lt_or_ge i Ka.length with h | h
      · rw [List.getElem?_append_left h] at hx
        exact ⟨i, by rw [List.getElem?_append_left h]; exact hx, .inl ⟨rfl, by omega⟩⟩
      · rw [List.getElem?_append_right h] at hx
        exact ⟨i + 1, by rw [List.getElem?_append_right (by omega), show i + 1 - Ka.length = (i - Ka.length) + 1 by omega]; simpa using hx, .inr ⟨rfl, by omega⟩⟩
    obtain ⟨i', hx', hi'⟩ := hx'
    rcases getElem?_mid hc with ⟨h1, h2⟩ | ⟨rfl, rfl⟩ | ⟨h1, h2⟩
    · have := hsep i' x j c hx' (at_left h2)
      exact ⟨fun h => this.1 (by omega), fun h => this.2 (by omega)⟩
    · have a1 := hsep i' x _ a hx' e0
      have b1 := hsep i' x _ b hx' e1
      rw [fm]
      refine ⟨fun h p hp => ?_, fun h p hp => ?_⟩
      · rcases List.mem_append.1 hp with hp | hp
        · exact a1.1 (by omega) p hp
        · exact b1.1 (by omega) p hp
      · rcases List.mem_append.1 hp with hp | hp
        · exact a1.2 (by omega) p hp
        · exact b1.2 (by omega) p hp
    · have hj : (A ++ a :: b :: B)[j + 1]? = some c := by
        have := at_right (A := A) (B := b :: B) (c := a) (j := j - A.length - 1 + 1) (t := c) (by simpa using h2)
        rwa [show A.length + 1 + (j - A.length - 1 + 1) = j + 1 by omega] at this
      have := hsep i' x (j + 1) c hx' hj
      exact ⟨fun h => this.1 (by omega), fun h => this.2 (by omega)⟩
  have hfl : flats (A ++ a :: b :: B) = flats A ++ (flat (mrg a s b) ++ flats B) := by rw [flats_at, flats_cons, fm, List.append_assoc]
  rw [hfl] at hup ⊢
  simp only [List.length_append, List.length_cons] at hlen
  have hjt : joinT fan (Ka ++ s :: Kb) (A ++ a :: b :: B) A.length = if fan < (mrg a s b).size then .node (Ka ++ halfK (mrg a s b) :: Kb) (A ++ half1 (mrg a s b) :: half2 (mrg a s b) :: B) else .node (Ka ++ Kb) (A ++ mrg a s b :: B) := by
    unfold joinT
    simp only [e0, e1, e2, t0, t1, t2, t3]
  rw [hjt]
  split
  · rename_i hbig
    have hu := (up_append (up_append hup).2).1
    obtain ⟨g1, g2, he, l1, l2, z1, z2⟩ := half_good hf gm hu hbig (by omega)
    have ne1 := good_some hf g1 (by omega)
    have ne2 := good_some hf g2 (by omega)
    rw [he] at hup
    unfold Up at hup
    rw [List.pairwise_append, List.append_assoc, List.pairwise_append] at hup
    obtain ⟨_, ⟨_, hBu, h1B⟩, hAc⟩ := hup
    rw [List.pairwise_append] at hBu
    have hA' : AllLt (flats A) (halfK (mrg a s b)) := fun p hp => by
      obtain ⟨q, hq⟩ := ne1
      exact slt_trans (hAc p hp q (by simp [hq])) (l1 q hq)
    have hB' : AllGe (flats B) (halfK (mrg a s b)) := fun p hp => by
      obtain ⟨q, hq⟩ := ne2
      have hqp := hBu.2.2 q hq p hp
      cases e : slt p.1 (halfK (mrg a s b)) with
      | false => rfl
      | true => have := l2 q hq; rw [slt_trans hqp e] at this; cases this
    refine ⟨⟨_, _, rfl, ?_, Sep.part hsepm hK he l1 l2 hA' hB', ?_⟩, ?_, ?_⟩
    · simp only [List.length_append, List.length_cons]; omega
    · intro t ht
      simp only [List.mem_append, List.mem_cons] at ht
      rcases ht with ht | rfl | rfl | ht
      · exact hA t ht
      · exact ⟨g1, z1⟩
      · exact ⟨g2, z2⟩
      · exact hB t ht
    · simp only [flat, flats_append, flats_cons, he, List.append_assoc]
    · simp only [T.size, List.length_append, List.length_cons]; omega
  · rename_i hsm
    refine ⟨⟨_, _, rfl, ?_, hsepm, ?_⟩, ?_, ?_⟩
    · simp only [List.length_append, List.length_cons]; omega
    · intro t ht
      simp only [List.mem_append, List.mem_cons] at ht
      rcases ht with ht | rfl | ht
      · exact hA t ht
      · exact ⟨gm, by omega, by omega⟩
      · exact hB t ht
    · simp only [flat, flats_append, flats_cons, List.append_assoc]
    · simp only [T.size, List.length_append, List.length_cons]; omega
theorem Sep.set_del {ks : List ByteArray} {A B : List T} {c c' : T} (h : Sep ks (A ++ c :: B)) (hm : ∀ p ∈ flat c', p ∈ flat c) : Sep ks (A ++ c' :: B) :=
  h.set fun _ _ _ => ⟨fun _ ha p hp => ha p (hm p hp), fun _ ha p hp => ha p (hm p hp)⟩

/-- Del upon a tree is del upon the list of its keys. -/
theorem del_good {fan : Nat} (hf : 4 ≤ fan) (k : ByteArray) : ∀ {d : Nat} {t : T}, Good fan d t → Up (flat t) → (d = 0 ∨ 2 ≤ t.size) →
    Good fan d (delT fan k d t) ∧ flat (delT fan k d t) = del k (flat t) ∧ (delT fan k d t).size ≤ t.size ∧ t.size ≤ (delT fan k d t).size + 1
  | 0, _, h, hu, _ => by
    obtain ⟨l, rfl⟩ := h
    exact ⟨⟨_, rfl⟩, rfl, del_length⟩
  | d + 1, _, h, hu, h2 => by
    obtain ⟨ks, cs, rfl, e1, e2, e3⟩ := h
    have h2' : 2 ≤ cs.length := by rcases h2 with h2 | h2 <;> simp [T.size] at h2 ⊢ <;> omega
    have hr : Rises ks := Good.rises hf ⟨ks, cs, rfl, e1, e2, e3⟩
    obtain ⟨c, hc⟩ := way_some (fan := fan) (d := d) e1 k
    have hi := (List.getElem?_eq_some_iff.1 hc).1
    obtain ⟨A, B, hA, rfl⟩ : ∃ A B, A.length = wayN ks k ∧ cs = A ++ c :: B := ⟨cs.take (wayN ks k), cs.drop (wayN ks k + 1), by simp; omega, split_at hc⟩
    obtain ⟨gc, sc1, sc2⟩ := e3 c (by simp)
    simp only [delT, hc, flat] at hu ⊢
    rw [← hA]
    have eT : (A ++ c :: B).take A.length = A := List.take_left
    have eD : (A ++ c :: B).drop (A.length + 1) = B := by rw [List.drop_append, List.drop_eq_nil_of_le (by omega), show A.length + 1 - A.length = 1 by omega]; rfl
    rw [eT, eD]
    rw [flats_at] at hu ⊢
    have huc := (up_append (up_append hu).2).1
    obtain ⟨g', f', s1, s2⟩ := del_good hf k gc huc (.inr (by omega))
    have ahead := way_ahead e2 e1 hA
    have behind := way_behind hr e2 e1 hA
    have hmid := del_mid (C := flat c) ahead behind
    have hsep : Sep ks (A ++ delT fan k d c :: B) := e2.set_del fun p hp => by rw [f'] at hp; exact mem_del hp
    have hu' : Up (flats (A ++ delT fan k d c :: B)) := by rw [flats_at, f', ← hmid]; exact up_del hu
    have hfl : flats (A ++ delT fan k d c :: B) = del k (flats A ++ (flat c ++ flats B)) := by rw [flats_at, f', hmid]
    rw [← hfl]
    obtain ⟨c', hc'⟩ : ∃ c', delT fan k d c = c' := ⟨_, rfl⟩
    rw [hc'] at g' f' s1 s2 hsep hu' ⊢
    have oA : ∀ t ∈ A, Good fan d t ∧ fan / 2 ≤ t.size ∧ t.size ≤ fan := fun t ht => e3 t (by simp [ht])
    have oB : ∀ t ∈ B, Good fan d t ∧ fan / 2 ≤ t.size ∧ t.size ≤ fan := fun t ht => e3 t (by simp [ht])
    have hts : (T.node ks (A ++ c :: B)).size = A.length + (B.length + 1) := by simp [T.size]
    rw [hts]
    simp only [List.length_append, List.length_cons] at e1 h2' ⊢
    by_cases hlt : c'.size < fan / 2
    · rw [if_pos hlt]
      cases B with
      | cons b B =>
        have hmin : min A.length (A.length + ((b :: B).length + 1) - 2) = A.length := by simp only [List.length_cons]; omega
        rw [hmin]
        obtain ⟨s, hs⟩ : ∃ s, ks[A.length]? = some s := ⟨ks[A.length]'(by simp only [List.length_cons] at e1; omega), List.getElem?_eq_getElem _⟩
        have hks := split_at hs
        obtain ⟨Ka, Kb, hKa, rfl⟩ : ∃ Ka Kb, Ka.length = A.length ∧ ks = Ka ++ s :: Kb := ⟨ks.take A.length, ks.drop (A.length + 1), by simp; have := (List.getElem?_eq_some_iff.1 hs).1; omega, hks⟩
        obtain ⟨gb, sb1, sb2⟩ := oB b (by simp)
        have := join_good hf (by simp only [List.length_append, List.length_cons] at e1 ⊢; omega) hKa hsep oA (fun t ht => oB t (by simp [ht])) g' gb (by omega) (by omega) hu'
        simpa only [List.length_append, List.length_cons] using this
      | nil =>
        obtain ⟨A', a, rfl⟩ : ∃ A' a, A = A' ++ [a] := ⟨A.dropLast, A.getLast (by intro e; subst e; simp at h2'), (List.dropLast_concat_getLast _).symm⟩
        have hmin : min (A'.length + 1) (A'.length + 1 + (([] : List T).length + 1) - 2) = A'.length := by simp
        simp only [List.length_append, List.length_cons, List.length_nil, Nat.zero_add] at hmin ⊢
        rw [hmin]
        have hr2 : A' ++ [a] ++ c' :: [] = A' ++ a :: c' :: [] := by simp
        rw [hr2] at hsep hu' ⊢
        obtain ⟨s, hs⟩ : ∃ s, ks[A'.length]? = some s := ⟨ks[A'.length]'(by simp at e1; omega), List.getElem?_eq_getElem _⟩
        have hks := split_at hs
        obtain ⟨Ka, Kb, hKa, rfl⟩ : ∃ Ka Kb, Ka.length = A'.length ∧ ks = Ka ++ s :: Kb := ⟨ks.take A'.length, ks.drop (A'.length + 1), by simp; have := (List.getElem?_eq_some_iff.1 hs).1; omega, hks⟩
        obtain ⟨ga, sa1, sa2⟩ := oA a (by simp)
        have := join_good hf (by simp only [List.length_append, List.length_cons, List.length_nil] at e1 ⊢; omega) hKa hsep (fun t ht => oA t (by simp [ht])) (fun t ht => by cases ht) ga g' (by omega) (by omega) hu'
        refine ⟨this.1, this.2.1, ?_⟩
        have t1 := this.2.2
        simp only [List.length_append, List.length_cons, List.length_nil] at t1 ⊢
        omega
    · rw [if_neg hlt]
      refine ⟨⟨_, _, rfl, by simp only [List.length_append, List.length_cons]; omega, hsep, ?_⟩, rfl, ?_⟩
      · intro t ht
        simp only [List.mem_append, List.mem_cons] at ht
        rcases ht with ht | rfl | ht
        · exact oA t ht
        · exact ⟨g', by omega, by omega⟩
        · exact oB t ht
      · simp only [T.size, List.length_append, List.length_cons]; omega
end Go.Ux
