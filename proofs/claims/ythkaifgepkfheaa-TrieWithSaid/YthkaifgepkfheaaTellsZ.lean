/- PART OF THE PROOF THAT THIS CLAIM HOLDS OF THE GIVEN PROGRAM, FOR EVERY INPUT THAT THE STATEMENT NAMES. No condition besides the statement's own. -/
import Derived.Test.YthkaifgepkfheaaAwakeZ
import Derived.Test.YthkaifgepkfheaaRows
import Derived.WalkKit
import Derived.Handy
import Derived.Laws.EntriesVeiled
import Derived.WalkSpells
import Derived.WalkLawsBesides
import Derived.BigQuiet
import Derived.Deep.QuietTactic
import Derived.Deep.Cut
import Derived.Deep.DeepCutAuto
import Derived.Lib.Overlaps
import Derived.Laws.Externs
import Derived.Lib.Hide
import Derived.Test.YthkaifgepkfheaaUxPlanAllZ
import Derived.Test.YthkaifgepkfheaaUxTreeAllZ
import Derived.Deep.LoopGhost
namespace Go.Proofs.Ythkaifgepkfheaa
open Go.RowKit
-- imports: YthkaifgepkfheaaAwake
open Ux.Trie (fnd Pr blk zero64)

/-- what Build's code must be -/
def codeIs (l : List Pr) (k : Int) : Prop := ((l.any fun p => !Ux.Trie.may p) = true → k = 1) ∧ ((l.any fun p => !Ux.Trie.may p) = false → Ux.Trie.apart l → k = 0) ∧ ((l.any fun p => !Ux.Trie.may p) = false → ¬ Ux.Trie.apart l → k = 64)
theorem codeIs_one {l : List Pr} {a b : Int} (ha : codeIs l a) (hb : codeIs l b) : a = b := by
  obtain ⟨a1, a2, a3⟩ := ha
  obtain ⟨b1, b2, b3⟩ := hb
  cases h : l.any fun p => !Ux.Trie.may p
  · by_cases hp : Ux.Trie.apart l
    · rw [a2 h hp, b2 h hp]
    · rw [a3 h hp, b3 h hp]
  · rw [a1 h, b1 h]
/-- Build's answer, its code and its pointer kept apart -/
theorem build_code {v : Value} {l : List Pr} {w : World} (h : PrsAt w v l) (hl : l.length ≤ 64) :
    Calls Try.prog 7 #[v] w fun e w' => ∃ (tp : Option Addr) (k : Int), e = .returned (.tuple #[.pointer tp, .int .i64 k]) ∧ codeIs l k ∧ tp.isSome = decide (k = 0) ∧
      (k = 0 → (l.any fun p => !Ux.Trie.may p) = false ∧ Ux.Trie.apart l ∧ ∃ t ks, tp = some ⟨t, 0, none⟩ ∧ TrieAt w' t ks (fnd l) ∧ ∀ k, k ∈ ks ↔ ∃ p ∈ l, p.1 / 64 = k) ∧ Ux.Touch (fun _ => False) w w' := by
  refine (build7 v l w h hl).mono ?_
  rintro e w' ⟨ht, h | h | ⟨h1, h2, t, ks, h3, h4, h5⟩⟩
  · exact ⟨none, 1, h.2, ⟨fun _ => rfl, (fun h' => by rw [h.1] at h'; cases h'), (fun h' => by rw [h.1] at h'; cases h')⟩, rfl, (fun e => by omega), ht⟩
  · exact ⟨none, 64, h.2.2, ⟨(fun h' => by rw [h.1] at h'; cases h'), (fun _ h' => absurd h' h.2.1), fun _ _ => rfl⟩, rfl, (fun e => by omega), ht⟩
  · exact ⟨_, 0, h3, ⟨(fun h' => by rw [h1] at h'; cases h'), fun _ _ => rfl, (fun _ h' => absurd h2 h')⟩, rfl, fun _ => ⟨h1, h2, t, ks, rfl, h4, h5⟩, ht⟩

theorem any_take {l : List Pr} {i : Nat} {p : Pr} (h : l[i]? = some p) (f : Pr → Bool) : (l.take (i + 1)).any f = ((l.take i).any f || f p) := by
  rw [List.take_add_one, h]
  simp
def same (l : List Pr) (a b : Nat) : Prop := ∃ p q, l[a]? = some p ∧ l[b]? = some q ∧ p.1 = q.1
theorem apart_iff {l : List Pr} {n : Nat} (hn : l.length = n) : Ux.Trie.apart l ↔ ∀ b, b < n → ∀ a, a < b → ¬ same l a b := by
  unfold Ux.Trie.apart
  rw [List.pairwise_iff_getElem]
  constructor
  · rintro h b hb a hab ⟨p, q, hp, hq, e⟩
    obtain ⟨ha', rfl⟩ := List.getElem?_eq_some_iff.1 hp
    obtain ⟨hb', rfl⟩ := List.getElem?_eq_some_iff.1 hq
    exact h a b ha' hb' hab e
  · intro h a b ha hb hab e
    exact h b (by omega) a hab ⟨_, _, List.getElem?_eq_getElem ha, List.getElem?_eq_getElem hb, e⟩

set_option maxHeartbeats 8000000 in
set_option maxRecDepth 100000 in
theorem tells3 (v : Value) (l : List Pr) (c : Int) (w : World) (h : PrsAt w v l) (hl : l.length ≤ 9223372036854775807) (hc1 : -9223372036854775808 ≤ c) (hc2 : c ≤ 9223372036854775807) :
    Calls Try.prog 3 #[v, .int .i64 c] w fun e w' => e = .returned (.bool true) ∧ Ux.Touch (fun _ => False) w w' := by
  have H0 := Lib.hid h
  have AW := Lib.hid awake6
  obtain ⟨a, cp, rfl, hcell⟩ := h
  obtain ⟨n, hn⟩ : ∃ n, l.length = n := ⟨_, rfl⟩
  have j0 : (n : Int) ≤ 9223372036854775807 := by omega
  rw [hn]
  have HC := Lib.hid hcell
  have HN := Lib.hid hn
  by_cases h40 : n > 40
  · have j1 : (n : Int) > 40 := by omega
    clear hcell hn hl h40
    go_enter Try.func3, Try.ntmps3
    go_wp2_with (go_at_call 6; refine (AW.out _).mono ?_; rintro e w' ⟨rfl, ht⟩)
    go_ret
    exact ⟨rfl, ht⟩
  · have j1 : ¬ (n : Int) > 40 := by omega
    have CB := Lib.hid (build_code H0.out (by omega))
    rw [hn] at CB
    clear hcell hn hl h40
    go_enter Try.func3, Try.ntmps3
    go_wp2_with (go_at_call 7; refine CB.out.mono ?_; rintro e w1 ⟨tp, kc, rfl, hk1, hk2, hk3, ht⟩; have HK := Lib.hid (And.intro hk1 (And.intro hk2 (And.intro hk3 ht))); clear hk1 hk2 hk3 ht)
    obtain ⟨W1, hW1⟩ : ∃ W1 : World, W1 = w1 := ⟨_, rfl⟩
    subst hW1
    go_loopg [8, 7] n (fun g s8 s7 wr => ∃ (y : Nat) (k z : Int), s8 = .int .i64 k ∧ s7 = .int .i64 z ∧ y = g ∧ k = (y : Int) - 1 ∧ y ≤ n ∧ (z = 0 ∨ z = 64) ∧ Hid ((z = 0 ↔ ∀ b, y ≤ b → b < n → ∀ a, a < b → ¬ same l a b) ∧ Ux.Touch (fun _ => False) w wr ∧ Ux.Touch (fun _ => False) W1 wr))
    case atStart => exact ⟨n, (n : Int) - 1, 0, rfl, rfl, rfl, rfl, by omega, .inl rfl, Lib.hid ⟨⟨(fun _ b h h' => by omega), fun _ => rfl⟩, HK.out.2.2.2, Ux.Touch.refl _ _⟩⟩
    case round =>
      obtain ⟨y, k, z, rfl, rfl, rfl, hky, hyn, hz, HY⟩ := hrel
      by_cases hy : 0 < y
      · obtain ⟨y', rfl⟩ : ∃ y', y = y' + 1 := ⟨y - 1, by omega⟩
        obtain rfl : k = (y' : Int) := by omega
        have p0 : (0 : Int) ≤ y' := by omega
        have j2 : (y' : Int) < n := by omega
        obtain ⟨q, hq⟩ : ∃ q, l[y']? = some q := ⟨l[y']'(by have := HN.out; omega), List.getElem?_eq_getElem (by have := HN.out; omega)⟩
        obtain ⟨b, f, ha, d1, _⟩ := HC.out y' q hq
        subst ha
        have HQ := Lib.hid (And.intro hq d1)
        clear hq d1 hky
        go_wp2
        go_loopg [9, 7] y' (fun g s9 s7 w2 => ∃ (x : Nat) (z' : Int), s9 = .int .i64 x ∧ s7 = .int .i64 z' ∧ x + g = y' ∧ (z' = 0 ∨ z' = 64) ∧ Hid ((z' = 0 ↔ z = 0 ∧ ∀ a, a < x → ¬ same l a y') ∧ Ux.Touch (fun _ => False) w w2 ∧ Ux.Touch (fun _ => False) W1 w2))
        case atStart => exact ⟨0, z, rfl, rfl, by omega, hz, Lib.hid ⟨⟨(fun h => ⟨h, fun a h => by omega⟩), fun h => h.1⟩, HY.out.2⟩⟩
        case round =>
          obtain ⟨x, z', rfl, rfl, hxg, hz', HX⟩ := hrel
          have p1 : (0 : Int) ≤ x := by omega
          by_cases hxy : x < y'
          · obtain ⟨g', rfl⟩ : ∃ g', gk = g' + 1 := ⟨gk - 1, by omega⟩
            have j3 : (x : Int) < y' := by omega
            obtain ⟨p, hp⟩ : ∃ p, l[x]? = some p := ⟨l[x]'(by have := HN.out; omega), List.getElem?_eq_getElem (by have := HN.out; omega)⟩
            obtain ⟨b', f', ha, d2, _⟩ := HC.out x p hp
            cases ha
            have e1 := HX.out.2.1.cell HQ.out.2 (fun f => f)
            have e2 := HX.out.2.1.cell d2 (fun f => f)
            have hs : same l x y' ↔ p.1 = q.1 := by
              constructor
              · rintro ⟨p', q', h1, h2, e⟩
                rw [hp] at h1
                rw [HQ.out.1] at h2
                cases h1; cases h2; exact e
              · exact fun e => ⟨p, q, hp, HQ.out.1, e⟩
            have HS := Lib.hid (And.intro hs (And.intro HX.out.2.1.drew HX.out.2.2.drew))
            clear d2 hs hp
            obtain ⟨pc, pv⟩ := p
            obtain ⟨qc, qv⟩ := q
            dsimp only at e1 e2 HS
            by_cases he : pc = qc
            · subst he
              go_upto_region 11 with (fail)
              refine Ux.wp_region_plan (fun _ w' => w'.cell? ⟨b, f + y' * 2, none⟩ = some (.int .i64 pc) ∧ w'.cell? ⟨b, f + x * 2, none⟩ = some (.int .i64 pc)) (.q [0, 1, 2, 3, 5, 6, 7, 8] (.h false [4, 9] (.q [10] (.line []))))
                (by kernel_rfl) (by kernel_rfl) (by intro _ _ d _ _ h; cases d <;> exact h) ?hS ?_
              case hS => (intro c; cases c <;> (simp only [World.cell?_drew]; first | exact True.intro | (refine ⟨?_, ?_⟩ <;> assumption) | assumption | (repeat (first | assumption | (refine And.intro ?_ ?_)))))
              simp only [Ux.wpPlan, Ux.pickOps, Ux.keeps, List.getElem?_toArray, List.getElem?_cons_succ, List.getElem?_cons_zero]
              repeat (first
                | go_big_quiet_step (fail)
                | (with_reducible refine wpQuiet_nil ?_)
                | (refine Ux.quiet_held rfl ?_; apply Exists.intro; refine ⟨fun w' hS => ?_, ?_⟩; (focus ((try dsimp only at hS); go_simp; first | done | with_reducible rfl)); simp only [Act.put, List.setIfInBounds_toArray, List.set_cons_zero, List.set_cons_succ]))
              go_wp2
              go_roundg g'
              case measure => omega
              case rel => exact ⟨x + 1, 64, rfl, rfl, by omega, .inr rfl, Lib.hid ⟨⟨(fun h => by omega), fun h => absurd (HS.out.1.2 (by first | exact trivial | rfl)) (h.2 x (by omega))⟩, HS.out.2⟩⟩
            · go_upto_region 11 with (fail)
              refine Ux.wp_region_plan (fun _ w' => w'.cell? ⟨b, f + y' * 2, none⟩ = some (.int .i64 qc) ∧ w'.cell? ⟨b, f + x * 2, none⟩ = some (.int .i64 pc)) (.q [0, 1, 2, 3, 5, 6, 7, 8] (.h false [4, 9] (.q [10] (.line []))))
                (by kernel_rfl) (by kernel_rfl) (by intro _ _ d _ _ h; cases d <;> exact h) ?hS ?_
              case hS => (intro c; cases c <;> (simp only [World.cell?_drew]; first | exact True.intro | (refine ⟨?_, ?_⟩ <;> assumption) | assumption | (repeat (first | assumption | (refine And.intro ?_ ?_)))))
              simp only [Ux.wpPlan, Ux.pickOps, Ux.keeps, List.getElem?_toArray, List.getElem?_cons_succ, List.getElem?_cons_zero]
              repeat (first
                | go_big_quiet_step (fail)
                | (with_reducible refine wpQuiet_nil ?_)
                | (refine Ux.quiet_held rfl ?_; apply Exists.intro; refine ⟨fun w' hS => ?_, ?_⟩; (focus ((try dsimp only at hS); go_simp; first | done | with_reducible rfl)); simp only [Act.put, List.setIfInBounds_toArray, List.set_cons_zero, List.set_cons_succ]))
              go_wp2
              go_roundg g'
              case measure => omega
              case rel =>
                refine ⟨x + 1, z', rfl, rfl, by omega, hz', Lib.hid ⟨HX.out.1.trans ⟨fun h => ⟨h.1, fun a ha => ?_⟩, fun h => ⟨h.1, fun a ha => h.2 a (by omega)⟩⟩, HS.out.2⟩⟩
                by_cases e : a = x
                · subst e; exact fun h' => he (HS.out.1.1 h')
                · exact h.2 a (by omega)
          · have q1 : ¬ (x : Int) < y' := by omega
            clear hxy
            go_wp2
            go_roundg y'
            case measure => omega
            case rel =>
              refine ⟨y', _, z', rfl, rfl, rfl, rfl, by omega, hz', Lib.hid ⟨HX.out.1.trans ⟨fun h b h1 h2 => ?_, fun h => ⟨HY.out.1.2 fun b h1 h2 => h b (by omega) h2, fun a ha => h y' (by omega) (by omega) a (by omega)⟩⟩, HX.out.2⟩⟩
              by_cases e : b = y'
              · subst e; exact fun a ha => h.2 a (by omega)
              · exact HY.out.1.1 h.1 b (by omega) h2
      · obtain rfl : y = 0 := by omega
        have q1 : ¬ k ≥ 0 := by omega
        have hza : z = 0 ↔ Ux.Trie.apart l := by
          rw [apart_iff HN.out, HY.out.1]
          exact ⟨fun h b hb => h b (by omega) hb, fun h b _ hb => h b hb⟩
        have HZA := Lib.hid (And.intro hza hz)
        clear hy hza hz
        go_wp2
        go_loopg [10, 7] n (fun g s10 s7 w2 => ∃ (i : Nat) (z2 : Int), s10 = .int .i64 i ∧ s7 = .int .i64 z2 ∧ i + g = n ∧ Hid ((((l.take i).any fun p => !Ux.Trie.may p) = true → z2 = 1) ∧ (((l.take i).any fun p => !Ux.Trie.may p) = false → z2 = z) ∧ Ux.Touch (fun _ => False) w w2 ∧ Ux.Touch (fun _ => False) W1 w2))
        case atStart => exact ⟨0, z, rfl, rfl, by omega, Lib.hid ⟨(fun h => by simp at h), fun _ => rfl, HY.out.2⟩⟩
        case round =>
          obtain ⟨i, z2, rfl, rfl, hig, HI⟩ := hrel
          have p0 : (0 : Int) ≤ i := by omega
          by_cases hlt : i < n
          · obtain ⟨g', rfl⟩ : ∃ g', gk = g' + 1 := ⟨gk - 1, by omega⟩
            have j2 : (i : Int) < n := by omega
            obtain ⟨p, hp⟩ : ∃ p, l[i]? = some p := ⟨l[i]'(by have := HN.out; omega), List.getElem?_eq_getElem (by have := HN.out; omega)⟩
            obtain ⟨b, f, ha, d1, d2⟩ := HC.out i p hp
            subst ha
            have e1 := HI.out.2.2.1.cell d1 (fun f => f)
            have e2 := HI.out.2.2.1.cell d2 (fun f => f)
            have hat := any_take hp fun p => !Ux.Trie.may p
            obtain ⟨pc, pv⟩ := p
            obtain ⟨m, hm⟩ : ∃ m, Ux.Trie.may (pc, pv) = m := ⟨_, rfl⟩
            have cM : ∀ w, Calls Try.prog 8 #[.agg #[.int .i64 pc, .int .i64 pv]] w fun e w' => e = .returned (.bool m) ∧ Below w.heap.size w w' := fun w => by
              have := may8 pc pv w
              rwa [hm] at this
            rw [hm] at hat
            have CM := Lib.hid cM
            have HA := Lib.hid hat
            clear cM hm hat d1 d2 hp
            cases m with
            | true =>
              go_wp2_with (go_at_call 8; refine (CM.out _).mono ?_; rintro e w' ⟨rfl, hb⟩)
              go_roundg g'
              case measure => omega
              case rel => exact ⟨i + 1, z2, rfl, rfl, by omega, Lib.hid ⟨(fun h => HI.out.1 (by rw [HA.out] at h; simpa using h)), (fun h => HI.out.2.1 (by rw [HA.out] at h; simpa using h)), HI.out.2.2.1.trans (Ux.Touch.of_below hb) (fun _ _ h => h), HI.out.2.2.2.trans (Ux.Touch.of_below hb) (fun _ _ h => h)⟩⟩
            | false =>
              go_wp2_with (go_at_call 8; refine (CM.out _).mono ?_; rintro e w' ⟨rfl, hb⟩)
              go_roundg g'
              case measure => omega
              case rel => exact ⟨i + 1, 1, rfl, rfl, by omega, Lib.hid ⟨fun _ => rfl, (fun h => by rw [HA.out] at h; simp at h), HI.out.2.2.1.trans (Ux.Touch.of_below hb) (fun _ _ h => h), HI.out.2.2.2.trans (Ux.Touch.of_below hb) (fun _ _ h => h)⟩⟩
          · have q2 : ¬ (i : Int) < n := by omega
            have hfull : l.take i = l := List.take_of_length_le (by have := HN.out; omega)
            have hcode : codeIs l z2 := by
              have h1 := HI.out.1
              have h2 := HI.out.2.1
              rw [hfull] at h1 h2
              refine ⟨h1, fun h h' => ?_, fun h h' => ?_⟩
              · rw [h2 h]; exact HZA.out.1.2 h'
              · rw [h2 h]; exact HZA.out.2.resolve_left fun e => h' (HZA.out.1.1 e)
            obtain rfl : z2 = kc := codeIs_one hcode HK.out.1
            clear hlt hfull hcode
            have hsome := HK.out.2.1
            by_cases h0 : z2 = 0
            · obtain ⟨hm, hap, t, ks, rfl, hT, hks⟩ := HK.out.2.2.1 h0
              subst h0
              have HT := Lib.hid (And.intro (any_may hm) (And.intro hap (And.intro hT hks)))
              clear hm hap hT hks hsome
              have CG : Hid (∀ c w', -9223372036854775808 ≤ c → c ≤ 9223372036854775807 → Ux.Touch (fun _ => False) W1 w' → Calls Try.prog 9 #[.pointer (some ⟨t, 0, none⟩), .int .i64 c] w' fun e w'' => e = .returned (.int .i64 (fnd l c)) ∧ w'' = w') := Lib.hid fun c w' h1 h2 ht => getL (HT.out.2.2.1.touch ht) HT.out.1 c h1 h2
              have CF : Hid (∀ c w', Ux.Touch (fun _ => False) w w' → Calls Try.prog 10 #[.slice a n cp, .int .i64 c] w' fun e w'' => e = .returned (.int .i64 (fnd l c)) ∧ w'' = w') := Lib.hid fun c w' ht => by
                have := find10 _ l c w' (H0.out.touch ht (fun _ _ _ _ _ f => f)) (by have := HN.out; omega)
                rwa [HN.out] at this
              go_wp2
              go_loopg [11] n (fun g s11 w3 => ∃ i : Nat, s11 = .int .i64 i ∧ i + g = n ∧ Hid (Ux.Touch (fun _ => False) w w3 ∧ Ux.Touch (fun _ => False) W1 w3))
              case atStart => exact ⟨0, rfl, by omega, Lib.hid HI.out.2.2⟩
              case round =>
                obtain ⟨i3, rfl, hig3, H3⟩ := hrel
                have p3 : (0 : Int) ≤ i3 := by omega
                by_cases hlt : i3 < n
                · obtain ⟨g', rfl⟩ : ∃ g', gk = g' + 1 := ⟨gk - 1, by omega⟩
                  have j3 : (i3 : Int) < n := by omega
                  obtain ⟨p, hp⟩ : ∃ p, l[i3]? = some p := ⟨l[i3]'(by have := HN.out; omega), List.getElem?_eq_getElem (by have := HN.out; omega)⟩
                  obtain ⟨b, f, ha, d1, d2⟩ := HC.out i3 p hp
                  subst ha
                  have e1 := H3.out.1.cell d1 (fun f => f)
                  have e2 := H3.out.1.cell d2 (fun f => f)
                  have hmp := HT.out.1 p (List.mem_of_getElem? hp)
                  have hfm := Ux.Trie.fnd_mem HT.out.2.1 (List.mem_of_getElem? hp)
                  obtain ⟨pc, pv⟩ := p
                  dsimp only at e1 e2 hfm
                  have hb0 : 0 ≤ pc ∧ pc ≤ 1114367 := by
                    unfold Ux.Trie.may at hmp
                    simp only [Bool.and_eq_true, decide_eq_true_eq] at hmp
                    exact hmp.1.1
                  obtain ⟨q1, q2⟩ := hb0
                  obtain ⟨r1, hr1⟩ : ∃ r, fnd l (pc + 1) = r := ⟨_, rfl⟩
                  have TD := Lib.hid (And.intro H3.out.1.drew H3.out.2.drew)
                  have g1 := CG.out pc _ (by omega) (by omega) TD.out.2
                  have g2 := CG.out (pc + 1) _ (by omega) (by omega) TD.out.2
                  have f2 := CF.out (pc + 1) _ TD.out.1
                  rw [hfm] at g1
                  rw [hr1] at g2 f2
                  have CC := Lib.hid (And.intro g1 (And.intro g2 f2))
                  clear g1 g2 f2 hr1 hfm hmp d1 d2 hp
                  by_cases hlast : pc < 1114367
                  · go_upto_region 25 with (fail)
                    refine Ux.wp_region_plan (fun _ w' => w'.cell? ⟨b, f + i3 * 2, none⟩ = some (.int .i64 pc) ∧ w'.cell? ⟨b, f + i3 * 2 + 1, none⟩ = some (.int .i64 pv)) (.q [0, 1, 2, 3, 4, 7, 8, 9, 10] (.h false [5, 11] (.e 6 true false (.q [12, 13, 14, 15, 16, 17] (.h false [18] (.q [19, 20, 21, 22, 23, 24, 25, 29, 30, 31, 32, 33] (.h false [26, 34] (.q [27, 35] (.e 28 true false (.e 36 true false (.q [37, 38, 39] (.line []))))))))))))
                      (by kernel_rfl) (by kernel_rfl) (by intro _ _ d _ _ h; cases d <;> exact h) ?hS ?_
                    case hS => (intro c; cases c <;> (simp only [World.cell?_drew]; first | exact True.intro | (refine ⟨?_, ?_⟩ <;> assumption) | assumption | (repeat (first | assumption | (refine And.intro ?_ ?_)))))
                    simp only [Ux.wpPlan, Ux.pickOps, Ux.keeps, List.getElem?_toArray, List.getElem?_cons_succ, List.getElem?_cons_zero]
                    repeat (first
                      | go_big_quiet_step (fail)
                      | (with_reducible refine wpQuiet_nil ?_)
                      | (refine Ux.quiet_held rfl ?_; apply Exists.intro; refine ⟨fun w' hS => ?_, ?_⟩; (focus ((try dsimp only at hS); go_simp; first | done | with_reducible rfl)); simp only [Act.put, List.setIfInBounds_toArray, List.set_cons_zero, List.set_cons_succ]))
                    go_wp2_with (go_at_call 9; fail)
                    refine CC.out.1.mono ?_
                    rintro e w' ⟨rfl, rfl⟩
                    go_wp2_with (fail)
                    refine ⟨⟨by simpa using e1, by simpa using e2⟩, ?_⟩
                    repeat (first
                      | go_big_quiet_step (fail)
                      | (with_reducible refine wpQuiet_nil ?_)
                      | (refine Ux.quiet_held rfl ?_; apply Exists.intro; refine ⟨fun w' hS => ?_, ?_⟩; (focus ((try dsimp only at hS); go_simp; first | done | with_reducible rfl)); simp only [Act.put, List.setIfInBounds_toArray, List.set_cons_zero, List.set_cons_succ]))
                    go_wp2_with (go_at_call 9; refine CC.out.2.1.mono ?_; rintro e w' ⟨rfl, rfl⟩)
                    refine ⟨⟨by simpa using e1, by simpa using e2⟩, ?_⟩
                    go_wp2_with (go_at_call 10; refine CC.out.2.2.mono ?_; rintro e w' ⟨rfl, rfl⟩)
                    refine ⟨⟨by simpa using e1, by simpa using e2⟩, ?_⟩
                    repeat (first
                      | go_big_quiet_step (fail)
                      | (with_reducible refine wpQuiet_nil ?_)
                      | (refine Ux.quiet_held rfl ?_; apply Exists.intro; refine ⟨fun w' hS => ?_, ?_⟩; (focus ((try dsimp only at hS); go_simp; first | done | with_reducible rfl)); simp only [Act.put, List.setIfInBounds_toArray, List.set_cons_zero, List.set_cons_succ]))
                    go_wp2
                    go_roundg g'
                    case measure => omega
                    case rel => exact ⟨i3 + 1, rfl, by omega, Lib.hid TD.out⟩
                  · obtain rfl : pc = 1114367 := by omega
                    clear hlast
                    go_upto_region 25 with (fail)
                    refine Ux.wp_region_plan (fun _ w' => w'.cell? ⟨b, f + i3 * 2, none⟩ = some (.int .i64 1114367) ∧ w'.cell? ⟨b, f + i3 * 2 + 1, none⟩ = some (.int .i64 pv)) (.q [0, 1, 2, 3, 4, 7, 8, 9, 10] (.h false [5, 11] (.e 6 true false (.q [12, 13, 14, 15, 16, 17] (.h false [18] (.q [19, 20, 21, 22, 23, 24, 25, 29, 30, 31, 32, 33] (.h false [26, 34] (.q [27, 35] (.e 28 true false (.e 36 true false (.q [37, 38, 39] (.line []))))))))))))
                      (by kernel_rfl) (by kernel_rfl) (by intro _ _ d _ _ h; cases d <;> exact h) ?hS ?_
                    case hS => (intro c; cases c <;> (simp only [World.cell?_drew]; first | exact True.intro | (refine ⟨?_, ?_⟩ <;> assumption) | assumption | (repeat (first | assumption | (refine And.intro ?_ ?_)))))
                    simp only [Ux.wpPlan, Ux.pickOps, Ux.keeps, List.getElem?_toArray, List.getElem?_cons_succ, List.getElem?_cons_zero]
                    repeat (first
                      | go_big_quiet_step (fail)
                      | (with_reducible refine wpQuiet_nil ?_)
                      | (refine Ux.quiet_held rfl ?_; apply Exists.intro; refine ⟨fun w' hS => ?_, ?_⟩; (focus ((try dsimp only at hS); go_simp; first | done | with_reducible rfl)); simp only [Act.put, List.setIfInBounds_toArray, List.set_cons_zero, List.set_cons_succ]))
                    go_wp2_with (go_at_call 9; fail)
                    refine CC.out.1.mono ?_
                    rintro e w' ⟨rfl, rfl⟩
                    go_wp2_with (fail)
                    refine ⟨⟨by simpa using e1, by simpa using e2⟩, ?_⟩
                    repeat (first
                      | go_big_quiet_step (fail)
                      | (with_reducible refine wpQuiet_nil ?_)
                      | (refine Ux.quiet_held rfl ?_; apply Exists.intro; refine ⟨fun w' hS => ?_, ?_⟩; (focus ((try dsimp only at hS); go_simp; first | done | with_reducible rfl)); simp only [Act.put, List.setIfInBounds_toArray, List.set_cons_zero, List.set_cons_succ]))
                    go_wp2_with (fail)
                    refine ⟨⟨by simpa using e1, by simpa using e2⟩, ?_⟩
                    go_wp2_with (fail)
                    refine ⟨⟨by simpa using e1, by simpa using e2⟩, ?_⟩
                    repeat (first
                      | go_big_quiet_step (fail)
                      | (with_reducible refine wpQuiet_nil ?_)
                      | (refine Ux.quiet_held rfl ?_; apply Exists.intro; refine ⟨fun w' hS => ?_, ?_⟩; (focus ((try dsimp only at hS); go_simp; first | done | with_reducible rfl)); simp only [Act.put, List.setIfInBounds_toArray, List.set_cons_zero, List.set_cons_succ]))
                    go_wp2
                    go_roundg g'
                    case measure => omega
                    case rel => exact ⟨i3 + 1, rfl, by omega, Lib.hid TD.out⟩
                · have q3 : ¬ (i3 : Int) < n := by omega
                  clear hlt
                  obtain ⟨r0, hr0⟩ : ∃ r, fnd l c = r := ⟨_, rfl⟩
                  have g1 := CG.out c _ hc1 hc2 H3.out.2
                  have f1 := CF.out c _ H3.out.1
                  rw [hr0] at g1 f1
                  obtain ⟨nb, hnb⟩ : ∃ nb : Int, 1 + ((Ux.Trie.addAll [] ((Ux.Trie.ats l).map (blk (fnd l)))).length : Int) = nb := ⟨_, rfl⟩
                  have b1 := blocks11 t ks (fnd l) wr (HT.out.2.2.1.touch H3.out.2)
                  have hlen : (((Ux.Trie.bls ks (fnd l)).length : Nat) : Int) = nb := by
                    rw [count_of HT.out.2.1 HT.out.2.2.2, ← hnb]
                    omega
                  rw [hlen] at b1
                  have b2 := blocks12 (.slice a l.length cp) l wr (H0.out.touch H3.out.1 (fun _ _ _ _ _ f => f)) (by have := HN.out; omega) HT.out.1
                  rw [HN.out, hnb] at b2
                  have CC := Lib.hid (And.intro g1 (And.intro f1 (And.intro b1 b2)))
                  clear g1 f1 b1 b2 hr0 hnb hlen
                  go_wp2_with (first
                    | (go_at_call 9; refine CC.out.1.mono ?_; rintro e w' ⟨rfl, rfl⟩)
                    | (go_at_call 10; refine CC.out.2.1.mono ?_; rintro e w' ⟨rfl, rfl⟩)
                    | (go_at_call 11; refine CC.out.2.2.1.mono ?_; rintro e w' ⟨rfl, rfl⟩)
                    | (go_at_call 12; refine CC.out.2.2.2.mono ?_; rintro e w4 ⟨rfl, ht4⟩)
                    | (go_at_call 6; refine (AW.out _).mono ?_; rintro e w5 ⟨rfl, ht5⟩))
                  go_ret
                  exact ⟨rfl, (H3.out.1.trans ht4 (fun _ _ h => h)).trans ht5 (fun _ _ h => h)⟩
            · have htp : tp = none := by
                rw [decide_eq_false h0] at hsome
                cases tp
                · rfl
                · cases hsome
              subst htp
              clear hsome
              go_wp2_with (go_at_call 6; refine (AW.out _).mono ?_; rintro e w' ⟨rfl, ht⟩)
              go_ret
              exact ⟨rfl, HI.out.2.2.1.trans ht (fun _ _ h => h)⟩

end Go.Proofs.Ythkaifgepkfheaa
