/-
slices.symMergeCmpFunc at []int, the general case (it calls itself), and the sort itself: slices.stableCmpFunc and slices.SortStableFunc for fewer than 40 numbers.
-/
import Derived.Test.YtahpoikbnjhkgaaSortC
import Derived.Deep.DeepCutAuto
namespace Go.Proofs.Ytahpoikbnjhkgaa
open Go.RowKit

def SymBelow (key : Int → Int) (D : Int → Prop) (pc g n cap : Nat) (w0 : World) (d : Nat) : Prop := ∀ a m b, b - a < d → a < m → m < b → b ≤ n → SymAt key D pc g n cap w0 a m b
/-- What the search for the place of the turn leaves. -/
structure Turn (key : Int → Int) (f : Nat → Int) (a m b mid s e : Nat) : Prop where
  hn : s + e = mid + m
  h1 : a ≤ s
  h2 : s ≤ m
  h3 : m ≤ e
  h4 : e ≤ b
  m1 : s ≤ mid
  m2 : mid ≤ e
  hlo : s = a ∨ e = b ∨ ¬ key (f (s - 1)) < key (f e)
  hhi : s = m ∨ e = m ∨ key (f s) < key (f (e - 1))
theorem rot_all (f : Nat → Int) {s m e n : Nat} (h1 : s ≤ m) (h2 : m ≤ e) (h3 : e ≤ n) {D : Int → Prop} (hD : ∀ k, k < n → D (f k)) (k : Nat) (hk : k < n) : D (rot f s m e k) := by
  unfold rot
  split
  · exact hD _ (by omega)
  · split
    · exact hD _ (by omega)
    · exact hD _ hk
set_option maxRecDepth 100000 in
set_option maxHeartbeats 4000000 in
theorem sSym_more (key : Int → Int) (D : Int → Prop) (pc g n cap : Nat) (w0 : World) (a m b : Nat) (HC0 : CmpOk key D pc g w0) (hn : n ≤ 1000000) (ham : a < m) (hne : m ≠ a + 1) (hmb : m < b) (hne2 : b ≠ m + 1) (hb : b ≤ n) (IH0 : SymBelow key D pc g n cap w0 (b - a)) : SymAt key D pc g n cap w0 a m b := by
  intro A M B f w eA eM eB S0 hD0 R0
  subst eA eM eB
  have HC := Lib.hid HC0
  have S := Lib.hid S0
  have hD := Lib.hid hD0
  have R := Lib.hid R0
  have IH := Lib.hid IH0
  have e1 : ((m : Int) - (a : Int) == 1) = false := by rw [beq_eq_false_iff_ne]; omega
  have e2 : ((b : Int) - (m : Int) == 1) = false := by rw [beq_eq_false_iff_ne]; omega
  obtain ⟨mid, em, em1, em2⟩ : ∃ mid : Nat, ((a : Int) + (b : Int)) / 2 = (mid : Int) ∧ 2 * mid ≤ a + b ∧ a + b ≤ 2 * mid + 1 := ⟨(a + b) / 2, by omega, by omega, by omega⟩
  clear HC0 S0 hD0 R0 IH0 hne hne2
  go_enter Try.func40, Try.ntmps40
  go_upto_if 140 with (fail)
  go_cut [20, 21] (fun v20 v21 wx => ∃ lo hi : Nat, v20 = .int .i64 lo ∧ v21 = .int .i64 hi ∧ lo ≤ hi ∧ a ≤ lo ∧ hi ≤ m ∧ hi ≤ mid ∧ mid + m ≤ b + lo ∧ Hid (lo = a ∨ mid + m = b + lo) ∧ Hid (hi = m ∨ hi = mid) ∧ Hid (SortW w0 g n f wx))
  case first =>
    by_cases hc : mid < m
    · have hcz : (mid : Int) < (m : Int) := by omega
      go_wp2
      go_meet
      exact ⟨mid + m - b, mid, by congr 1; omega, rfl, by omega, by omega, by omega, by omega, by omega, Lib.hid (Or.inr (by omega)), Lib.hid (Or.inr rfl), S⟩
    · have hcz : ¬ (mid : Int) < (m : Int) := by omega
      go_wp2
      go_meet
      exact ⟨a, m, rfl, rfl, by omega, by omega, by omega, by omega, by omega, Lib.hid (Or.inl rfl), Lib.hid (Or.inl rfl), S⟩
  case rest =>
    clear S
    obtain ⟨lo, hi, rfl, rfl, hlh, hal, hhm, hhmid, hbl, HLO, HHI, S⟩ := hcut
    go_wp2
    go_loopg [20, 21] (hi - lo) (fun g1 vi vj wr => ∃ (i j : Nat), vi = .int .i64 i ∧ vj = .int .i64 j ∧ lo ≤ i ∧ i ≤ j ∧ j ≤ hi ∧ j - i ≤ g1 ∧ Hid (i = lo ∨ ¬ key (f (i - 1)) < key (f (mid + m - i))) ∧ Hid (j = hi ∨ key (f j) < key (f (mid + m - 1 - j))) ∧ Hid (SortW w0 g n f wr))
    case atStart => exact ⟨lo, hi, rfl, rfl, by omega, by omega, by omega, by omega, Lib.hid (Or.inl rfl), Lib.hid (Or.inl rfl), S⟩
    case round =>
      clear S
      obtain ⟨i, j, rfl, rfl, hi1, hij, hj, hg1, HL, HH, S1⟩ := hrel
      by_cases hlt : i < j
      · have hltz : (i : Int) < (j : Int) := by omega
        obtain ⟨h, eh, h1, h2⟩ : ∃ h : Nat, ((i : Int) + (j : Int)) / 2 = (h : Int) ∧ i ≤ h ∧ h < j := ⟨(i + j) / 2, by omega, by omega, by omega⟩
        have bh : (h : Int) < (n : Int) := by omega
        obtain ⟨q, hq⟩ : ∃ q, q = mid + m - 1 - h := ⟨_, rfl⟩
        have pq : (0 : Int) ≤ (mid : Int) + (m : Int) - 1 - (h : Int) := by omega
        have bq : (mid : Int) + (m : Int) - 1 - (h : Int) < (n : Int) := by omega
        have rq : IntKind.i64.wrap ((mid : Int) + (m : Int) - 1 - (h : Int)) = (mid : Int) + (m : Int) - 1 - (h : Int) := by rw [IntKind.wrap_i64]; omega
        have hqn : q < n := by omega
        have tq : ((mid : Int) + (m : Int) - 1 - (h : Int)).toNat = q := by omega
        have HQ := Lib.hid hq
        clear hq
        by_cases hk : key (f h) < key (f q)
        · have hv : cmpV (key (f h)) (key (f q)) < 0 := cmpV_neg hk
          have HK := Lib.hid hk
          clear hk
          have la := S1.out.own.cell (i := q) (by omega)
          have lb := S1.out.own.cell (i := h) (by omega)
          have HCM := Lib.hid (fun k => HC.out (wr.drewN k) (S1.out.mod.drewN k) _ _ (hD.out (q) (by omega)) (hD.out (h) (by omega)))
          go_wp2_with fail
          go_quiet (first | (go_at_call 35; exact Calls.quiet_of (HCM.out _)))
          have S2 := Lib.hid (S1.out.drewN nq)
          clear la lb HCM S1
          generalize wr.drewN nq = w2 at S2 ⊢
          clear nq
          go_wp2
          go_roundg (h - i)
          case measure => omega
          case rel => exact ⟨i, h, rfl, rfl, by omega, by omega, by omega, by omega, HL, Lib.hid (Or.inr (by rw [← HQ.out]; exact HK.out)), S2⟩
        · have hv : ¬ cmpV (key (f h)) (key (f q)) < 0 := cmpV_not hk
          have hv2 : (0 : Int) ≤ cmpV (key (f h)) (key (f q)) := by omega
          have hv3 : decide (cmpV (key (f h)) (key (f q)) < 0) = false := decide_eq_false hv
          have HK := Lib.hid hk
          clear hk
          have la := S1.out.own.cell (i := q) (by omega)
          have lb := S1.out.own.cell (i := h) (by omega)
          have HCM := Lib.hid (fun k => HC.out (wr.drewN k) (S1.out.mod.drewN k) _ _ (hD.out (q) (by omega)) (hD.out (h) (by omega)))
          go_wp2_with fail
          go_quiet (first | (go_at_call 35; exact Calls.quiet_of (HCM.out _)))
          have S2 := Lib.hid (S1.out.drewN nq)
          clear la lb HCM S1
          generalize wr.drewN nq = w2 at S2 ⊢
          clear nq
          go_wp2
          go_roundg (j - (h + 1))
          case measure => omega
          case rel => exact ⟨h + 1, j, by go_num, rfl, by omega, by omega, by omega, by omega, Lib.hid (Or.inr (by rw [show h + 1 - 1 = h from by omega, show mid + m - (h + 1) = q from by have := HQ.out; omega]; exact HK.out)), HH, S2⟩
      · have hltz : ¬ (i : Int) < (j : Int) := by omega
        have HT : Hid (Turn key f a m b mid i (mid + m - i)) := Lib.hid (by
          obtain rfl : i = j := by omega
          refine ⟨by omega, by omega, by omega, by omega, by omega, by omega, by omega, ?_, ?_⟩
          · rcases HL.out with x | x
            · rcases HLO.out with y | y
              · exact Or.inl (by omega)
              · exact Or.inr (Or.inl (by omega))
            · exact Or.inr (Or.inr x)
          · rcases HH.out with x | x
            · rcases HHI.out with y | y
              · exact Or.inl (by omega)
              · exact Or.inr (Or.inl (by omega))
            · exact Or.inr (Or.inr (by rw [show mid + m - i - 1 = mid + m - 1 - i from by omega]; exact x)))
        clear HL HH HLO HHI hg1
        have HRL := Lib.hid (runs_left R.out mid (mid + m - i) HT.out.hn HT.out.h2 HT.out.h3 HT.out.h4)
        have HD1 : Hid (∀ k, k < n → D (rot f i m (mid + m - i) k)) := Lib.hid (rot_all f HT.out.h2 HT.out.h3 (by have := HT.out.h4; omega) hD.out)
        have t1 := HT.out.h1
        have t2 := HT.out.h2
        have t3 := HT.out.m1
        have t4 := HT.out.h4
        by_cases y1 : i < m
        · by_cases y2 : i < mid
          · by_cases y3 : a < i
            · by_cases y4 : mid + m - i < b
              · have z1 : (i : Int) < (m : Int) := by omega
                have z2 : (m : Int) < (mid : Int) + (m : Int) - (i : Int) := by omega
                have z3 : (a : Int) < (i : Int) := by omega
                have z4 : (i : Int) < (mid : Int) := by omega
                have z5 : (mid : Int) < (mid : Int) + (m : Int) - (i : Int) := by omega
                have z6 : (mid : Int) + (m : Int) - (i : Int) < (b : Int) := by omega
                go_wp2_with fail
                refine (sRotate_any pc g n cap i m (mid + m - i) _ _ _ f w0 _ rfl rfl (by omega) S1.out (by omega) (by omega) (by omega) hn).mono ?_
                rintro e w1 ⟨rfl, S2⟩
                have H := Lib.hid S2
                clear S2 S1
                go_wp2_with fail
                refine (IH.out a i mid (by omega) (by omega) (by omega) (by omega) _ _ _ _ _ rfl rfl rfl H.out HD1.out HRL.out).mono ?_
                rintro e w2 ⟨rfl, g1, HG, S2⟩
                have HHG := Lib.hid HG
                have H1 := Lib.hid S2
                have HD2 := Lib.hid (HG.all (by omega) HD1.out)
                clear HG S2 H
                have HRR := Lib.hid (runs_right R.out mid (mid + m - i) HT.out.hn HT.out.h1 HT.out.h2 HT.out.h3 (fun k hk => HHG.out.out k (Or.inr hk)))
                go_wp2_with fail
                refine (IH.out mid (mid + m - i) b (by omega) (by omega) (by omega) (by omega) _ _ _ _ _ rfl (by omega) rfl H1.out HD2.out HRR.out).mono ?_
                rintro e w3 ⟨rfl, g2, HG2, S2⟩
                have HHG2 := Lib.hid HG2
                have H2 := Lib.hid S2
                clear HG2 S2 H1
                go_wp2
                go_end0
                exact ⟨rfl, g2, merge_both R.out mid (mid + m - i) HT.out.hn HT.out.h1 HT.out.h2 HT.out.h3 HT.out.h4 HT.out.m1 HT.out.m2 HT.out.hlo HT.out.hhi HHG.out HHG2.out, H2.out⟩
              · have z1 : (i : Int) < (m : Int) := by omega
                have z2 : (m : Int) < (mid : Int) + (m : Int) - (i : Int) := by omega
                have z3 : (a : Int) < (i : Int) := by omega
                have z4 : (i : Int) < (mid : Int) := by omega
                have z5 : (mid : Int) < (mid : Int) + (m : Int) - (i : Int) := by omega
                have z6 : ¬ (mid : Int) + (m : Int) - (i : Int) < (b : Int) := by omega
                go_wp2_with fail
                refine (sRotate_any pc g n cap i m (mid + m - i) _ _ _ f w0 _ rfl rfl (by omega) S1.out (by omega) (by omega) (by omega) hn).mono ?_
                rintro e w1 ⟨rfl, S2⟩
                have H := Lib.hid S2
                clear S2 S1
                go_wp2_with fail
                refine (IH.out a i mid (by omega) (by omega) (by omega) (by omega) _ _ _ _ _ rfl rfl rfl H.out HD1.out HRL.out).mono ?_
                rintro e w2 ⟨rfl, g1, HG, S2⟩
                have HHG := Lib.hid HG
                have H1 := Lib.hid S2
                have HD2 := Lib.hid (HG.all (by omega) HD1.out)
                clear HG S2 H
                have HRR := Lib.hid (runs_right R.out mid (mid + m - i) HT.out.hn HT.out.h1 HT.out.h2 HT.out.h3 (fun k hk => HHG.out.out k (Or.inr hk)))
                go_wp2
                go_end0
                exact ⟨rfl, g1, merge_both R.out mid (mid + m - i) HT.out.hn HT.out.h1 HT.out.h2 HT.out.h3 HT.out.h4 HT.out.m1 HT.out.m2 HT.out.hlo HT.out.hhi HHG.out (Sorts.of_runs HRR.out (by omega)), H1.out⟩
            · by_cases y4 : mid + m - i < b
              · have z1 : (i : Int) < (m : Int) := by omega
                have z2 : (m : Int) < (mid : Int) + (m : Int) - (i : Int) := by omega
                have z3 : ¬ (a : Int) < (i : Int) := by omega
                have z4 : (i : Int) < (mid : Int) := by omega
                have z5 : (mid : Int) < (mid : Int) + (m : Int) - (i : Int) := by omega
                have z6 : (mid : Int) + (m : Int) - (i : Int) < (b : Int) := by omega
                go_wp2_with fail
                refine (sRotate_any pc g n cap i m (mid + m - i) _ _ _ f w0 _ rfl rfl (by omega) S1.out (by omega) (by omega) (by omega) hn).mono ?_
                rintro e w1 ⟨rfl, S2⟩
                have H := Lib.hid S2
                clear S2 S1
                obtain ⟨g1, HHG, H1, HD2⟩ : ∃ g1, Hid (Sorts key a mid (rot f i m (mid + m - i)) g1) ∧ Hid (SortW w0 g n g1 w1) ∧ Hid (∀ k, k < n → D (g1 k)) := ⟨_, Lib.hid (Sorts.of_runs HRL.out (by omega)), H, HD1⟩
                clear H
                have HRR := Lib.hid (runs_right R.out mid (mid + m - i) HT.out.hn HT.out.h1 HT.out.h2 HT.out.h3 (fun k hk => HHG.out.out k (Or.inr hk)))
                go_wp2_with fail
                refine (IH.out mid (mid + m - i) b (by omega) (by omega) (by omega) (by omega) _ _ _ _ _ rfl (by omega) rfl H1.out HD2.out HRR.out).mono ?_
                rintro e w3 ⟨rfl, g2, HG2, S2⟩
                have HHG2 := Lib.hid HG2
                have H2 := Lib.hid S2
                clear HG2 S2 H1
                go_wp2
                go_end0
                exact ⟨rfl, g2, merge_both R.out mid (mid + m - i) HT.out.hn HT.out.h1 HT.out.h2 HT.out.h3 HT.out.h4 HT.out.m1 HT.out.m2 HT.out.hlo HT.out.hhi HHG.out HHG2.out, H2.out⟩
              · have z1 : (i : Int) < (m : Int) := by omega
                have z2 : (m : Int) < (mid : Int) + (m : Int) - (i : Int) := by omega
                have z3 : ¬ (a : Int) < (i : Int) := by omega
                have z4 : (i : Int) < (mid : Int) := by omega
                have z5 : (mid : Int) < (mid : Int) + (m : Int) - (i : Int) := by omega
                have z6 : ¬ (mid : Int) + (m : Int) - (i : Int) < (b : Int) := by omega
                go_wp2_with fail
                refine (sRotate_any pc g n cap i m (mid + m - i) _ _ _ f w0 _ rfl rfl (by omega) S1.out (by omega) (by omega) (by omega) hn).mono ?_
                rintro e w1 ⟨rfl, S2⟩
                have H := Lib.hid S2
                clear S2 S1
                obtain ⟨g1, HHG, H1, HD2⟩ : ∃ g1, Hid (Sorts key a mid (rot f i m (mid + m - i)) g1) ∧ Hid (SortW w0 g n g1 w1) ∧ Hid (∀ k, k < n → D (g1 k)) := ⟨_, Lib.hid (Sorts.of_runs HRL.out (by omega)), H, HD1⟩
                clear H
                have HRR := Lib.hid (runs_right R.out mid (mid + m - i) HT.out.hn HT.out.h1 HT.out.h2 HT.out.h3 (fun k hk => HHG.out.out k (Or.inr hk)))
                go_wp2
                go_end0
                exact ⟨rfl, g1, merge_both R.out mid (mid + m - i) HT.out.hn HT.out.h1 HT.out.h2 HT.out.h3 HT.out.h4 HT.out.m1 HT.out.m2 HT.out.hlo HT.out.hhi HHG.out (Sorts.of_runs HRR.out (by omega)), H1.out⟩
          · by_cases y3 : a < i
            · have z1 : (i : Int) < (m : Int) := by omega
              have z2 : ¬ (m : Int) < (mid : Int) + (m : Int) - (i : Int) := by omega
              have z3 : (a : Int) < (i : Int) := by omega
              have z4 : ¬ (i : Int) < (mid : Int) := by omega
              have z5 : (mid : Int) < (mid : Int) + (m : Int) - (i : Int) := by omega
              have z6 : (mid : Int) + (m : Int) - (i : Int) < (b : Int) := by omega
              have H : Hid (SortW w0 g n (rot f i m (mid + m - i)) wr) := by rw [rot_none f (by omega) (by omega) (by omega)]; exact S1
              clear S1
              obtain ⟨g1, HHG, H1, HD2⟩ : ∃ g1, Hid (Sorts key a mid (rot f i m (mid + m - i)) g1) ∧ Hid (SortW w0 g n g1 wr) ∧ Hid (∀ k, k < n → D (g1 k)) := ⟨_, Lib.hid (Sorts.of_runs HRL.out (by omega)), H, HD1⟩
              clear H
              have HRR := Lib.hid (runs_right R.out mid (mid + m - i) HT.out.hn HT.out.h1 HT.out.h2 HT.out.h3 (fun k hk => HHG.out.out k (Or.inr hk)))
              go_wp2_with fail
              refine (IH.out mid (mid + m - i) b (by omega) (by omega) (by omega) (by omega) _ _ _ _ _ rfl (by omega) rfl H1.out HD2.out HRR.out).mono ?_
              rintro e w3 ⟨rfl, g2, HG2, S2⟩
              have HHG2 := Lib.hid HG2
              have H2 := Lib.hid S2
              clear HG2 S2 H1
              go_wp2
              go_end0
              exact ⟨rfl, g2, merge_both R.out mid (mid + m - i) HT.out.hn HT.out.h1 HT.out.h2 HT.out.h3 HT.out.h4 HT.out.m1 HT.out.m2 HT.out.hlo HT.out.hhi HHG.out HHG2.out, H2.out⟩
            · have z1 : (i : Int) < (m : Int) := by omega
              have z2 : ¬ (m : Int) < (mid : Int) + (m : Int) - (i : Int) := by omega
              have z3 : ¬ (a : Int) < (i : Int) := by omega
              have z4 : ¬ (i : Int) < (mid : Int) := by omega
              have z5 : (mid : Int) < (mid : Int) + (m : Int) - (i : Int) := by omega
              have z6 : (mid : Int) + (m : Int) - (i : Int) < (b : Int) := by omega
              have H : Hid (SortW w0 g n (rot f i m (mid + m - i)) wr) := by rw [rot_none f (by omega) (by omega) (by omega)]; exact S1
              clear S1
              obtain ⟨g1, HHG, H1, HD2⟩ : ∃ g1, Hid (Sorts key a mid (rot f i m (mid + m - i)) g1) ∧ Hid (SortW w0 g n g1 wr) ∧ Hid (∀ k, k < n → D (g1 k)) := ⟨_, Lib.hid (Sorts.of_runs HRL.out (by omega)), H, HD1⟩
              clear H
              have HRR := Lib.hid (runs_right R.out mid (mid + m - i) HT.out.hn HT.out.h1 HT.out.h2 HT.out.h3 (fun k hk => HHG.out.out k (Or.inr hk)))
              go_wp2_with fail
              refine (IH.out mid (mid + m - i) b (by omega) (by omega) (by omega) (by omega) _ _ _ _ _ rfl (by omega) rfl H1.out HD2.out HRR.out).mono ?_
              rintro e w3 ⟨rfl, g2, HG2, S2⟩
              have HHG2 := Lib.hid HG2
              have H2 := Lib.hid S2
              clear HG2 S2 H1
              go_wp2
              go_end0
              exact ⟨rfl, g2, merge_both R.out mid (mid + m - i) HT.out.hn HT.out.h1 HT.out.h2 HT.out.h3 HT.out.h4 HT.out.m1 HT.out.m2 HT.out.hlo HT.out.hhi HHG.out HHG2.out, H2.out⟩
        · by_cases y2 : i < mid
          · have z1 : ¬ (i : Int) < (m : Int) := by omega
            have z2 : (m : Int) < (mid : Int) + (m : Int) - (i : Int) := by omega
            have z3 : (a : Int) < (i : Int) := by omega
            have z4 : (i : Int) < (mid : Int) := by omega
            have z5 : ¬ (mid : Int) < (mid : Int) + (m : Int) - (i : Int) := by omega
            have H : Hid (SortW w0 g n (rot f i m (mid + m - i)) wr) := by rw [rot_none f (by omega) (by omega) (by omega)]; exact S1
            clear S1
            go_wp2_with fail
            refine (IH.out a i mid (by omega) (by omega) (by omega) (by omega) _ _ _ _ _ rfl rfl rfl H.out HD1.out HRL.out).mono ?_
            rintro e w2 ⟨rfl, g1, HG, S2⟩
            have HHG := Lib.hid HG
            have H1 := Lib.hid S2
            have HD2 := Lib.hid (HG.all (by omega) HD1.out)
            clear HG S2 H
            have HRR := Lib.hid (runs_right R.out mid (mid + m - i) HT.out.hn HT.out.h1 HT.out.h2 HT.out.h3 (fun k hk => HHG.out.out k (Or.inr hk)))
            go_wp2
            go_end0
            exact ⟨rfl, g1, merge_both R.out mid (mid + m - i) HT.out.hn HT.out.h1 HT.out.h2 HT.out.h3 HT.out.h4 HT.out.m1 HT.out.m2 HT.out.hlo HT.out.hhi HHG.out (Sorts.of_runs HRR.out (by omega)), H1.out⟩
          · have z1 : ¬ (i : Int) < (m : Int) := by omega
            have z2 : ¬ (m : Int) < (mid : Int) + (m : Int) - (i : Int) := by omega
            have z3 : (a : Int) < (i : Int) := by omega
            have z4 : ¬ (i : Int) < (mid : Int) := by omega
            have z5 : ¬ (mid : Int) < (mid : Int) + (m : Int) - (i : Int) := by omega
            have H : Hid (SortW w0 g n (rot f i m (mid + m - i)) wr) := by rw [rot_none f (by omega) (by omega) (by omega)]; exact S1
            clear S1
            obtain ⟨g1, HHG, H1, HD2⟩ : ∃ g1, Hid (Sorts key a mid (rot f i m (mid + m - i)) g1) ∧ Hid (SortW w0 g n g1 wr) ∧ Hid (∀ k, k < n → D (g1 k)) := ⟨_, Lib.hid (Sorts.of_runs HRL.out (by omega)), H, HD1⟩
            clear H
            have HRR := Lib.hid (runs_right R.out mid (mid + m - i) HT.out.hn HT.out.h1 HT.out.h2 HT.out.h3 (fun k hk => HHG.out.out k (Or.inr hk)))
            go_wp2
            go_end0
            exact ⟨rfl, g1, merge_both R.out mid (mid + m - i) HT.out.hn HT.out.h1 HT.out.h2 HT.out.h3 HT.out.h4 HT.out.m1 HT.out.m2 HT.out.hlo HT.out.hhi HHG.out (Sorts.of_runs HRR.out (by omega)), H1.out⟩
theorem sSym_all (key : Int → Int) (D : Int → Prop) (pc g n cap : Nat) (w0 : World) (HC : CmpOk key D pc g w0) (hn : n ≤ 1000000) (d : Nat) : SymBelow key D pc g n cap w0 d := by
  induction d with
  | zero => intro a m b h; omega
  | succ d ih =>
    intro a m b hd ham hmb hb
    by_cases h1 : m = a + 1
    · exact sSym_one key D pc g n cap w0 a m b HC hn h1 hmb hb
    · by_cases h2 : b = m + 1
      · exact sSym_last key D pc g n cap w0 a m b HC hn h2 ham h1 hb
      · exact sSym_more key D pc g n cap w0 a m b HC hn ham h1 hmb h2 hb (fun a' m' b' x y z u => ih a' m' b' (by omega) y z u)
theorem sSym_any (key : Int → Int) (D : Int → Prop) (pc g n cap : Nat) (w0 : World) (HC : CmpOk key D pc g w0) (hn : n ≤ 1000000) (a m b : Nat) (ham : a < m) (hmb : m < b) (hb : b ≤ n) : SymAt key D pc g n cap w0 a m b :=
  sSym_all key D pc g n cap w0 HC hn (b - a + 1) a m b (by omega) ham hmb hb
end Go.Proofs.Ytahpoikbnjhkgaa
