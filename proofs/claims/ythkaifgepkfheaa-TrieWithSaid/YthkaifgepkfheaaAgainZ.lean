/- PART OF THE PROOF THAT THIS CLAIM HOLDS OF THE GIVEN PROGRAM, FOR EVERY INPUT THAT THE STATEMENT NAMES. No condition besides the statement's own. -/
import Derived.Test.YthkaifgepkfheaaPairsZ
import Derived.Test.YthkaifgepkfheaaRows
import Derived.WalkKit
import Derived.Handy
import Derived.Laws.EntriesVeiled
import Derived.WalkSpells
import Derived.WalkLawsBesides
import Derived.BigQuiet
import Derived.Deep.QuietTactic
import Derived.Deep.Cut
import Derived.Deep.DeepCutAuto
import Derived.Lib.Overlaps
import Derived.Laws.Externs
import Derived.Lib.Hide
import Derived.Test.YthkaifgepkfheaaUxPlanAllZ
import Derived.Test.YthkaifgepkfheaaUxTreeAllZ
import Derived.Deep.LoopGhost
namespace Go.Proofs.Ythkaifgepkfheaa
open Go.RowKit
-- imports: YthkaifgepkfheaaPairs
open Ux.Trie (fnd Pr blk zero64 pairsOf)

def nz (l : List Pr) : List Pr := l.filter fun p => p.2 ≠ 0
theorem nz_take {l : List Pr} {i : Nat} {p : Pr} (h : l[i]? = some p) : (nz (l.take (i + 1))).length = (nz (l.take i)).length + if p.2 = 0 then 0 else 1 := by
  unfold nz
  rw [List.take_add_one, h, List.filter_append, List.length_append]
  by_cases hp : p.2 = 0 <;> simp [hp]
theorem nz_le (l : List Pr) : (nz l).length ≤ l.length := List.length_filter_le _ _

/-- what the told pairs are -/
theorem told {l : List Pr} (hm : ∀ p ∈ l, Ux.Trie.may p = true) (ha : Ux.Trie.apart l) {w : World} {t : Nat} {ks : List Int} (hT : TrieAt w t ks (fnd l)) (hk : ∀ k, k ∈ ks ↔ ∃ p ∈ l, p.1 / 64 = k) :
    (pairsOf ks (fnd l)).length = (nz l).length ∧ (∀ p ∈ pairsOf ks (fnd l), p.2 ≠ 0 ∧ p.2 = fnd l p.1) ∧ (pairsOf ks (fnd l)).Pairwise (fun p q => p.1 < q.1) ∧ (∀ p ∈ pairsOf ks (fnd l), Ux.Trie.may p = true) ∧ fnd (pairsOf ks (fnd l)) = fnd l := by
  obtain ⟨bb, c, am, G, _, _, _, _, _, h2, hs, _, _⟩ := hT
  refine ⟨Ux.Trie.pairsOf_length ha hs fun p hp => (hk _).2 ⟨p, hp, rfl⟩, fun p hp => ?_, Ux.Trie.pairsOf_rising hs, Ux.Trie.pairsOf_may ha hm ks, funext fun c => Ux.Trie.fnd_pairsOf hs (fun i hi => (h2 i hi).2) c⟩
  obtain ⟨_, h, e⟩ := Ux.Trie.mem_pairsOf.1 hp
  exact ⟨by rw [e]; exact h, e⟩
theorem TrieAt.off {w : World} {t : Nat} {ks : List Int} {f : Int → Int} (hT : TrieAt w t ks f) : ∀ i, i ∉ ks → blk f i = zero64 := by
  obtain ⟨bb, c, am, G, _, _, _, _, _, h2, _⟩ := hT
  exact fun i hi => (h2 i hi).2

set_option maxHeartbeats 8000000 in
set_option maxRecDepth 100000 in
theorem again4 (v : Value) (l : List Pr) (w : World) (h : PrsAt w v l) (hl : l.length ≤ 9223372036854775807) :
    Calls Try.prog 4 #[v] w fun e w' => e = .returned (.bool true) ∧ Ux.Touch (fun _ => False) w w' := by
  have H0 := Lib.hid h
  have AW := Lib.hid awake6
  obtain ⟨a, cp, rfl, hcell⟩ := h
  obtain ⟨n, hn⟩ : ∃ n, l.length = n := ⟨_, rfl⟩
  have j0 : (n : Int) ≤ 9223372036854775807 := by omega
  rw [hn]
  have HC := Lib.hid hcell
  have HN := Lib.hid hn
  by_cases h40 : n > 40
  · have j1 : (n : Int) > 40 := by omega
    clear hcell hn hl h40
    go_enter Try.func4, Try.ntmps4
    go_wp2_with (go_at_call 6; refine (AW.out _).mono ?_; rintro e w' ⟨rfl, ht⟩)
    go_ret
    exact ⟨rfl, ht⟩
  · have j1 : ¬ (n : Int) > 40 := by omega
    have CB := Lib.hid (build_code H0.out (by omega))
    rw [hn] at CB
    clear hcell hn hl h40
    go_enter Try.func4, Try.ntmps4
    go_upto_region 4 with (go_at_call 7; refine CB.out.mono ?_; rintro e w1 ⟨tp, kc, rfl, hk1, hk2, hk3, ht⟩; have HK := Lib.hid (And.intro hk1 (And.intro hk2 (And.intro hk3 ht))); clear hk1 hk2 hk3 ht)
    by_cases h0 : kc = 0
    · obtain ⟨hm, hap, t, ks, rfl, hT, hks⟩ := HK.out.2.2.1 h0
      subst h0
      have hmay := any_may hm
      obtain ⟨q1, q2, q3, q4, q5⟩ := told hmay hap hT hks
      have CP := Lib.hid (pairs13 t ks (fnd l) w1 hT (fnd_range hmay))
      obtain ⟨P, hP⟩ : ∃ P, pairsOf ks (fnd l) = P := ⟨_, rfl⟩
      rw [hP] at q1 q2 q3 q4 q5 CP
      obtain ⟨np, hnp⟩ : ∃ np, P.length = np := ⟨_, rfl⟩
      have hnpn : np ≤ n := by
        have := nz_le l
        have := HN.out
        omega
      have HP := Lib.hid (And.intro q1 (And.intro q2 (And.intro q3 (And.intro q4 (And.intro q5 hnp)))))
      have HT := Lib.hid (And.intro hmay (And.intro hap (And.intro hT (And.intro hks HK.out.2.2.2))))
      have hnp' : (np : Int) ≤ n := by omega
      clear hm hap hT hks hmay q1 q2 q3 q4 q5 hP hnp
      go_wp2_with (go_at_call 13; refine CP.out.mono ?_; rintro e w2 ⟨v2, rfl, hrow, ht2⟩; obtain ⟨a2, c2, rfl, hc2⟩ := hrow.at; have HR := Lib.hid (And.intro hrow (And.intro hc2 ht2)); clear hrow hc2 ht2; rw [HP.out.2.2.2.2.2])
      obtain ⟨W2, hW2⟩ : ∃ W2 : World, W2 = w2 := ⟨_, rfl⟩
      subst hW2
      have TW2 := Lib.hid (HT.out.2.2.2.2.trans HR.out.2.2 (fun _ _ h => h))
      go_loopg [7, 6] n (fun g s7 s6 wr => ∃ i cnt : Nat, s7 = .int .i64 i ∧ s6 = .int .i64 cnt ∧ i + g = n ∧ cnt ≤ i ∧ Hid ((nz (l.take i)).length = cnt) ∧ wr = W2)
      case atStart => exact ⟨0, 0, rfl, rfl, by omega, by omega, Lib.hid (by simp [nz]), rfl⟩
      case round =>
        obtain ⟨i, cnt, rfl, rfl, hig, hci, HI, rfl⟩ := hrel
        have p0 : (0 : Int) ≤ i := by omega
        by_cases hlt : i < n
        · obtain ⟨g', rfl⟩ : ∃ g', gk = g' + 1 := ⟨gk - 1, by omega⟩
          have j2 : (i : Int) < n := by omega
          obtain ⟨p, hp⟩ : ∃ p, l[i]? = some p := ⟨l[i]'(by have := HN.out; omega), List.getElem?_eq_getElem (by have := HN.out; omega)⟩
          obtain ⟨b, f, ha, d1, d2⟩ := HC.out i p hp
          subst ha
          have e2 := TW2.out.cell d2 (fun f => f)
          have hnz := nz_take hp
          rw [HI.out] at hnz
          obtain ⟨pc, pv⟩ := p
          dsimp only at e2 hnz
          by_cases hv : pv = 0
          · rw [if_pos hv] at hnz
            have HZ := Lib.hid hnz
            subst hv
            clear hnz d1 d2 hp
            go_wp2
            go_roundg g'
            case measure => omega
            case rel => exact ⟨i + 1, cnt, rfl, rfl, by omega, by omega, Lib.hid HZ.out, rfl⟩
          · rw [if_neg hv] at hnz
            have HZ := Lib.hid hnz
            clear hnz d1 d2 hp
            go_wp2
            go_roundg g'
            case measure => omega
            case rel => exact ⟨i + 1, cnt + 1, rfl, rfl, by omega, by omega, Lib.hid HZ.out, rfl⟩
        · have q1 : ¬ (i : Int) < n := by omega
          obtain rfl : cnt = np := by
            have := HI.out
            rw [List.take_of_length_le (by have := HN.out; omega), ← HP.out.1, HP.out.2.2.2.2.2] at this
            exact this.symm
          clear hlt
          obtain ⟨W2, hW2⟩ : ∃ W2 : World, W2 = wr := ⟨_, rfl⟩
          subst hW2
          have CF : Hid (∀ c w', Ux.Touch (fun _ => False) w w' → Calls Try.prog 10 #[.slice a n cp, .int .i64 c] w' fun e w'' => e = .returned (.int .i64 (fnd l c)) ∧ w'' = w') := Lib.hid fun c w' ht => by
            have := find10 _ l c w' (H0.out.touch ht (fun _ _ _ _ _ f => f)) (by have := HN.out; omega)
            rwa [HN.out] at this
          go_wp2
          go_loopg [8] cnt (fun g s8 w3 => ∃ x : Nat, s8 = .int .i64 x ∧ x + g = cnt ∧ Hid (Ux.Touch (fun _ => False) W2 w3))
          case atStart => exact ⟨0, rfl, by omega, Lib.hid (Ux.Touch.refl _ _)⟩
          case round =>
            obtain ⟨x, rfl, hxg, HX⟩ := hrel
            have p1 : (0 : Int) ≤ x := by omega
            by_cases hlt : x < cnt
            · obtain ⟨g', rfl⟩ : ∃ g', gk = g' + 1 := ⟨gk - 1, by omega⟩
              have j2 : (x : Int) < cnt := by omega
              obtain ⟨p, hp⟩ : ∃ p, P[x]? = some p := ⟨P[x]'(by have := HP.out.2.2.2.2.2; omega), List.getElem?_eq_getElem (by have := HP.out.2.2.2.2.2; omega)⟩
              obtain ⟨b, f, ha, d1, d2⟩ := HR.out.2.1 x p hp
              subst ha
              have e1 := HX.out.cell d1 (fun f => f)
              have e2 := HX.out.cell d2 (fun f => f)
              obtain ⟨hv0, hvf⟩ := HP.out.2.1 p (List.mem_of_getElem? hp)
              obtain ⟨pc, pv⟩ := p
              dsimp only at e1 e2 hv0 hvf
              have cf := CF.out pc wr.drew (TW2.out.trans HX.out.drew (fun _ _ h => h))
              rw [← hvf] at cf
              have CC := Lib.hid cf
              have TD := Lib.hid HX.out.drew
              have hvi : ¬ (pv : Int) = 0 := hv0
              have hvb : (pv == 0) = false := by simpa using hvi
              have HPX := Lib.hid (And.intro hp hvf)
              clear cf hvf hv0 d1 d2 hp
              rcases Nat.eq_zero_or_pos x with hx0 | hx0
              · have hx1 : ¬ 0 < x := by omega
                clear hx0
                go_upto_region 18 with (fail)
                refine Ux.wp_region_plan (fun _ w' => w'.cell? ⟨b, f + x * 2, none⟩ = some (.int .i64 pc) ∧ w'.cell? ⟨b, f + x * 2 + 1, none⟩ = some (.int .i64 pv)) (.q [0, 1, 2, 3] (.h false [4] (.q [5, 6, 7, 8, 9, 10, 12, 13, 14, 15, 16] (.h false [11, 17] (.e 18 true false (.q [19, 20, 21, 22, 23, 24, 25, 26, 27, 28, 30, 31, 32, 33, 34] (.h false [29, 35] (.q [36, 37, 38] (.line [])))))))))
                  (by kernel_rfl) (by kernel_rfl) (by intro _ _ d _ _ h; cases d <;> exact h) ?hS ?_
                case hS => (intro c; cases c <;> (simp only [World.cell?_drew]; first | exact True.intro | (refine ⟨?_, ?_⟩ <;> assumption) | assumption | (repeat (first | assumption | (refine And.intro ?_ ?_)))))
                simp only [Ux.wpPlan, Ux.pickOps, Ux.keeps, List.getElem?_toArray, List.getElem?_cons_succ, List.getElem?_cons_zero]
                repeat (first
                  | go_big_quiet_step (fail)
                  | (with_reducible refine wpQuiet_nil ?_)
                  | (refine Ux.quiet_held rfl ?_; apply Exists.intro; refine ⟨fun w' hS => ?_, ?_⟩; (focus ((try dsimp only at hS); go_simp; first | done | with_reducible rfl)); simp only [Act.put, List.setIfInBounds_toArray, List.set_cons_zero, List.set_cons_succ]))
                go_wp2_with (go_at_call 10; refine CC.out.mono ?_; rintro e w' ⟨rfl, rfl⟩)
                refine ⟨⟨by simpa using e1, by simpa using e2⟩, ?_⟩
                repeat (first
                  | go_big_quiet_step (fail)
                  | (with_reducible refine wpQuiet_nil ?_)
                  | (refine Ux.quiet_held rfl ?_; apply Exists.intro; refine ⟨fun w' hS => ?_, ?_⟩; (focus ((try dsimp only at hS); go_simp; first | done | with_reducible rfl)); simp only [Act.put, List.setIfInBounds_toArray, List.set_cons_zero, List.set_cons_succ]))
                go_wp2
                go_roundg g'
                case measure => omega
                case rel => exact ⟨x + 1, rfl, by omega, TD⟩
              · obtain ⟨y, rfl⟩ : ∃ y, x = y + 1 := ⟨x - 1, by omega⟩
                obtain ⟨q, hq⟩ : ∃ q, P[y]? = some q := ⟨P[y]'(by have := HP.out.2.2.2.2.2; omega), List.getElem?_eq_getElem (by have := HP.out.2.2.2.2.2; omega)⟩
                obtain ⟨b', f', ha, d1, _⟩ := HR.out.2.1 y q hq
                cases ha
                have e3 := HX.out.cell d1 (fun f => f)
                have hlt : q.1 < pc := by
                  have h3 := HP.out.2.2.1
                  have h4 := HPX.out.1
                  obtain ⟨hy', e4⟩ := List.getElem?_eq_some_iff.1 hq
                  obtain ⟨hx', e5⟩ := List.getElem?_eq_some_iff.1 h4
                  have := List.pairwise_iff_getElem.1 h3 y (y + 1) hy' hx' (by omega)
                  rw [e4, e5] at this
                  exact this
                have hlt' : ¬ pc ≤ q.1 := by omega
                obtain ⟨qc, qv⟩ := q
                dsimp only at e3 hlt hlt'
                clear hlt hq d1
                go_upto_region 18 with (fail)
                refine Ux.wp_region_plan (fun _ w' => w'.cell? ⟨b, f + (y + 1) * 2, none⟩ = some (.int .i64 pc) ∧ w'.cell? ⟨b, f + (y + 1) * 2 + 1, none⟩ = some (.int .i64 pv) ∧ w'.cell? ⟨b, f + y * 2, none⟩ = some (.int .i64 qc)) (.q [0, 1, 2, 3] (.h false [4] (.q [5, 6, 7, 8, 9, 10, 12, 13, 14, 15, 16] (.h false [11, 17] (.e 18 true false (.q [19, 20, 21, 22, 23, 24, 25, 26, 27, 28, 30, 31, 32, 33, 34] (.h false [29, 35] (.q [36, 37, 38] (.line [])))))))))
                  (by kernel_rfl) (by kernel_rfl) (by intro _ _ d _ _ h; cases d <;> exact h) ?hS ?_
                case hS => (intro c; cases c <;> (simp only [World.cell?_drew]; first | exact True.intro | (refine ⟨?_, ?_⟩ <;> assumption) | assumption | (repeat (first | assumption | (refine And.intro ?_ ?_)))))
                simp only [Ux.wpPlan, Ux.pickOps, Ux.keeps, List.getElem?_toArray, List.getElem?_cons_succ, List.getElem?_cons_zero]
                repeat (first
                  | go_big_quiet_step (fail)
                  | (with_reducible refine wpQuiet_nil ?_)
                  | (refine Ux.quiet_held rfl ?_; apply Exists.intro; refine ⟨fun w' hS => ?_, ?_⟩; (focus ((try dsimp only at hS); go_simp; first | done | with_reducible rfl)); simp only [Act.put, List.setIfInBounds_toArray, List.set_cons_zero, List.set_cons_succ]))
                go_wp2_with (go_at_call 10; refine CC.out.mono ?_; rintro e w' ⟨rfl, rfl⟩)
                refine ⟨⟨by simpa using e1, by simpa using e2, by simpa using e3⟩, ?_⟩
                repeat (first
                  | go_big_quiet_step (fail)
                  | (with_reducible refine wpQuiet_nil ?_)
                  | (refine Ux.quiet_held rfl ?_; apply Exists.intro; refine ⟨fun w' hS => ?_, ?_⟩; (focus ((try dsimp only at hS); go_simp; first | done | with_reducible rfl)); simp only [Act.put, List.setIfInBounds_toArray, List.set_cons_zero, List.set_cons_succ]))
                go_wp2
                go_roundg g'
                case measure => omega
                case rel => exact ⟨y + 1 + 1, rfl, by omega, TD⟩
            · have q2 : ¬ (x : Int) < cnt := by omega
              clear hlt
              obtain ⟨hmay, hap, hT, hks, hTW⟩ := HT.out
              obtain ⟨q1, q2', q3, q4, q5, hnp⟩ := HP.out
              have hPm : (P.any fun p => !Ux.Trie.may p) = false := by
                rw [List.any_eq_false]
                intro p hp
                simp [q4 p hp]
              have hPa : Ux.Trie.apart P := Ux.Trie.apart_of_rising q3
              have cB := build_ok (w := wr) (v := .slice a2 P.length c2) (l := P) (HR.out.1.at.touch HX.out (fun _ _ _ _ _ f => f)) (by omega) hPm hPa
              rw [q5, hnp] at cB
              have CB2 := Lib.hid cB
              clear hmay hap hT hks hTW q1 q2' q3 q4 q5 hnp hPm cB
              go_upto_region 21 with (go_at_call 7; refine CB2.out.mono ?_; rintro e w3 ⟨t2, ks2, rfl, hT2, hk2, ht3⟩; have H3 := Lib.hid (And.intro hT2 (And.intro hk2 ht3)); clear hT2 hk2 ht3)
              obtain ⟨hT2, hk2, ht3⟩ := H3.out
              obtain ⟨hmay, hap, hT, hks, hTW⟩ := HT.out
              obtain ⟨q1, q2', q3, q4, q5, hnp⟩ := HP.out
              have tw3 : Ux.Touch (fun _ => False) W2 w3 := HX.out.trans ht3 (fun _ _ h => h)
              have b1 := blocks11 t2 ks2 (fnd l) w3 hT2
              have b2 := blocks11 t ks (fnd l) w3 (hT.touch (HR.out.2.2.trans tw3 (fun _ _ h => h)))
              rw [Ux.Trie.bls_length hT2.off hT.off] at b1
              obtain ⟨nb, hnb⟩ : ∃ nb : Int, ((Ux.Trie.bls ks (fnd l)).length : Int) = nb := ⟨_, rfl⟩
              rw [hnb] at b1 b2
              have p2 := pairs13 t2 ks2 (fnd l) w3 hT2 (fnd_range hmay)
              have hlen2 : (pairsOf ks2 (fnd l)).length = cnt := by
                have h1 := (told q4 hPa (by rw [q5]; exact hT2) hk2).1
                rw [q5] at h1
                rw [h1, ← hnp]
                congr 1
                unfold nz
                rw [List.filter_eq_self]
                intro p hp
                simpa using (q2' p hp).1
              have CC := Lib.hid (And.intro b1 (And.intro b2 p2))
              have HL2 := Lib.hid (And.intro hlen2 (TW2.out.trans tw3 (fun _ _ h => h)))
              clear hT2 hk2 ht3 hmay hap hT hks hTW q1 q2' q3 q4 q5 hnp tw3 b1 b2 p2 hlen2 hnb hPa
              go_wp2_with (go_at_call 11; fail)
              refine CC.out.1.mono ?_
              rintro e w' ⟨rfl, rfl⟩
              go_wp2_with (go_at_call 11; fail)
              refine CC.out.2.1.mono ?_
              rintro e w' ⟨rfl, rfl⟩
              go_wp2_with (first
                | (go_at_call 13; refine CC.out.2.2.mono ?_; rintro e w4 ⟨v4, rfl, hrow4, ht4⟩; obtain ⟨a4, c4, rfl, _⟩ := hrow4.at; rw [HL2.out.1]; have HT4 := Lib.hid ht4; clear ht4 hrow4)
                | (go_at_call 6; refine (AW.out _).mono ?_; rintro e w5 ⟨rfl, ht5⟩))
              go_ret
              exact ⟨rfl, (HL2.out.2.trans HT4.out (fun _ _ h => h)).trans ht5 (fun _ _ h => h)⟩
    · have htp : tp = none := by
        have hsome := HK.out.2.1
        rw [decide_eq_false h0] at hsome
        cases tp
        · rfl
        · cases hsome
      subst htp
      have h0' : ¬ kc = 0 := h0
      clear h0
      go_wp2_with (go_at_call 6; refine (AW.out _).mono ?_; rintro e w' ⟨rfl, ht⟩)
      go_ret
      exact ⟨rfl, HK.out.2.2.2.trans ht (fun _ _ h => h)⟩

end Go.Proofs.Ythkaifgepkfheaa
