/-
slices.symMergeCmpFunc at []int: it merges two sorted runs, stably.
-/
import Derived.Test.YtahpoikbnjhkgaaSortB
namespace Go.Proofs.Ytahpoikbnjhkgaa
open Go.RowKit

def SymAt (key : Int → Int) (D : Int → Prop) (pc g n cap : Nat) (w0 : World) (a m b : Nat) : Prop := ∀ (A M B : Int) (f : Nat → Int) (w : World), A = a → M = m → B = b → SortW w0 g n f w → (∀ k, k < n → D (f k)) → Runs key a m b f →
  Calls Try.prog 40 #[.slice (some ⟨g, 0, none⟩) n cap, .int .i64 A, .int .i64 M, .int .i64 B, .func (.func 35) #[] #[.pointer (some ⟨pc, 0, none⟩)]] w (SortPost key a b f w0 g n)
set_option maxRecDepth 100000 in
set_option maxHeartbeats 4000000 in
theorem sSym_one (key : Int → Int) (D : Int → Prop) (pc g n cap : Nat) (w0 : World) (a m b : Nat) (HC0 : CmpOk key D pc g w0) (hn : n ≤ 1000000) (hm : m = a + 1) (hmb : m < b) (hb : b ≤ n) : SymAt key D pc g n cap w0 a m b := by
  intro A M B f w eA eM eB S0 hD0 R0
  subst eA eM eB
  have HC := Lib.hid HC0
  have S := Lib.hid S0
  have hD := Lib.hid hD0
  have R := Lib.hid R0
  clear HC0 S0 hD0 R0
  have e1 : ((m : Int) - (a : Int) == 1) = true := by rw [beq_iff_eq]; omega
  have HM := Lib.hid hm
  have ham : a < m := by omega
  clear hm
  go_enter Try.func40, Try.ntmps40
  go_wp2
  go_loopg [10, 11] (b - a) (fun g1 vi vj wr => ∃ (i j : Nat), vi = .int .i64 i ∧ vj = .int .i64 j ∧ m ≤ i ∧ i ≤ j ∧ j ≤ b ∧ j - i ≤ g1 ∧ Hid (i = m ∨ key (f a) < key (f (i - 1))) ∧ Hid (j = b ∨ ¬ key (f a) < key (f j)) ∧ Hid (SortW w0 g n f wr))
  case atStart => exact ⟨m, b, rfl, rfl, by omega, by omega, by omega, by omega, Lib.hid (Or.inl rfl), Lib.hid (Or.inl rfl), S⟩
  case round =>
    clear S
    obtain ⟨i, j, rfl, rfl, hi, hij, hj, hg1, HL, HH, S1⟩ := hrel
    by_cases hlt : i < j
    · have hltz : (i : Int) < (j : Int) := by omega
      obtain ⟨h, eh, h1, h2⟩ : ∃ h : Nat, ((i : Int) + (j : Int)) / 2 = (h : Int) ∧ i ≤ h ∧ h < j := ⟨(i + j) / 2, by omega, by omega, by omega⟩
      have bh : (h : Int) < (n : Int) := by omega
      have ba : (a : Int) < (n : Int) := by omega
      by_cases hk : key (f a) < key (f h)
      · have hv : cmpV (key (f a)) (key (f h)) < 0 := cmpV_neg hk
        have HK := Lib.hid hk
        clear hk
        have la := S1.out.own.cell (i := h) (by omega)
        have lb := S1.out.own.cell (i := a) (by omega)
        have HCM := Lib.hid (fun k => HC.out (wr.drewN k) (S1.out.mod.drewN k) _ _ (hD.out (h) (by omega)) (hD.out (a) (by omega)))
        go_wp2_with fail
        go_quiet (first | (go_at_call 35; exact Calls.quiet_of (HCM.out _)))
        have S2 := Lib.hid (S1.out.drewN nq)
        clear la lb HCM S1
        generalize wr.drewN nq = w2 at S2 ⊢
        clear nq
        go_wp2
        go_roundg (j - (h + 1))
        case measure => omega
        case rel => exact ⟨h + 1, j, by go_num, rfl, by omega, by omega, by omega, by omega, Lib.hid (Or.inr HK.out), HH, S2⟩
      · have hv : ¬ cmpV (key (f a)) (key (f h)) < 0 := cmpV_not hk
        have HK := Lib.hid hk
        clear hk
        have la := S1.out.own.cell (i := h) (by omega)
        have lb := S1.out.own.cell (i := a) (by omega)
        have HCM := Lib.hid (fun k => HC.out (wr.drewN k) (S1.out.mod.drewN k) _ _ (hD.out (h) (by omega)) (hD.out (a) (by omega)))
        go_wp2_with fail
        go_quiet (first | (go_at_call 35; exact Calls.quiet_of (HCM.out _)))
        have S2 := Lib.hid (S1.out.drewN nq)
        clear la lb HCM S1
        generalize wr.drewN nq = w2 at S2 ⊢
        clear nq
        go_wp2
        go_roundg (h - i)
        case measure => omega
        case rel => exact ⟨i, h, rfl, rfl, by omega, by omega, by omega, by omega, HL, Lib.hid (Or.inr HK.out), S2⟩
    · have HF : Hid (Sorts key a b f (fwd f a (i - 1))) := Lib.hid (by
        obtain rfl : i = j := by omega
        have R1 := R.out
        obtain rfl := HM.out
        exact merge_one R1 hi (by omega) HL.out HH.out)
      have hltz : ¬ (i : Int) < (j : Int) := by omega
      have hib : i ≤ b := by omega
      clear HL HH hlt hij hg1
      go_wp2
      go_loopg [13] (i - a) (fun g1 vk wr => ∃ k : Nat, vk = .int .i64 k ∧ a ≤ k ∧ k ≤ i - 1 ∧ i - k ≤ g1 ∧ Hid (SortW w0 g n (fwd f a k) wr))
      case atStart => exact ⟨a, rfl, by omega, by omega, by omega, by rw [fwd_zero]; exact S1⟩
      case round =>
        clear S1
        obtain ⟨k, rfl, hk1, hk2, hg1, S1⟩ := hrel
        by_cases hlt : k < i - 1
        · have hltz : (k : Int) < (i : Int) - 1 := by omega
          have bk : (k : Int) < (n : Int) := by omega
          have pk : (0 : Int) ≤ (k : Int) + 1 := by omega
          have bk1 : (k : Int) + 1 < (n : Int) := by omega
          have rk : IntKind.i64.wrap ((k : Int) + 1) = (k : Int) + 1 := by rw [IntKind.wrap_i64]; omega
          have H3 := Lib.hid (S1.out.exch (k) (k + 1) _ _ rfl rfl (by omega))
          rw [fwd_succ f hk1] at H3
          have la := S1.out.own.cell (i := k) (by omega)
          have lb := S1.out.own.cell (i := k + 1) (by omega)
          have fa := S1.out.own.frozen (k)
          have fb := S1.out.own.frozen (k + 1)
          have lc := (S1.out.own.set (k) (.int .i64 (fwd f a k (k + 1)))).cell (i := k + 1) (by omega)
          rw [if_neg (by omega)] at lc
          clear S1
          generalize fwd f a k (k + 1) = x at *
          generalize fwd f a k (k) = y at *
          go_wp2_with fail
          go_big_region
          clear la lb lc fa fb
          generalize ((wr.setCell ⟨g, k, none⟩ (.int .i64 x)).setCell ⟨g, k + 1, none⟩ (.int .i64 y)).drew = w3 at H3 ⊢
          go_wp2
          go_roundg (i - (k + 1))
          case measure => omega
          case rel => exact ⟨k + 1, by go_num, by omega, by omega, by omega, H3⟩
        · have hltz : ¬ (k : Int) < (i : Int) - 1 := by omega
          go_wp2
          first | go_end0 | refine bodyPost_ret (results_none rfl _ _ _) rfl ?_
          have ek : k = i - 1 := by omega
          exact ⟨rfl, fwd f a (i - 1), HF.out, by rw [← ek]; exact S1.out⟩
set_option maxRecDepth 100000 in
set_option maxHeartbeats 4000000 in
theorem sSym_last (key : Int → Int) (D : Int → Prop) (pc g n cap : Nat) (w0 : World) (a m b : Nat) (HC0 : CmpOk key D pc g w0) (hn : n ≤ 1000000) (hm : b = m + 1) (ham : a < m) (hne : m ≠ a + 1) (hb : b ≤ n) : SymAt key D pc g n cap w0 a m b := by
  intro A M B f w eA eM eB S0 hD0 R0
  subst eA eM eB
  have HC := Lib.hid HC0
  have S := Lib.hid S0
  have hD := Lib.hid hD0
  have R := Lib.hid R0
  clear HC0 S0 hD0 R0
  have e1 : ((m : Int) - (a : Int) == 1) = false := by rw [beq_eq_false_iff_ne]; omega
  have e2 : ((b : Int) - (m : Int) == 1) = true := by rw [beq_iff_eq]; omega
  have HM := Lib.hid hm
  have hmb : m < b := by omega
  have HN := Lib.hid hne
  clear hm hne
  go_enter Try.func40, Try.ntmps40
  go_wp2
  go_loopg [14, 15] (b - a) (fun g1 vi vj wr => ∃ (i j : Nat), vi = .int .i64 i ∧ vj = .int .i64 j ∧ a ≤ i ∧ i ≤ j ∧ j ≤ m ∧ j - i ≤ g1 ∧ Hid (i = a ∨ ¬ key (f (i - 1)) < key (f m)) ∧ Hid (j = m ∨ key (f j) < key (f m)) ∧ Hid (SortW w0 g n f wr))
  case atStart => exact ⟨a, m, rfl, rfl, by omega, by omega, by omega, by omega, Lib.hid (Or.inl rfl), Lib.hid (Or.inl rfl), S⟩
  case round =>
    clear S
    obtain ⟨i, j, rfl, rfl, hi, hij, hj, hg1, HL, HH, S1⟩ := hrel
    by_cases hlt : i < j
    · have hltz : (i : Int) < (j : Int) := by omega
      obtain ⟨h, eh, h1, h2⟩ : ∃ h : Nat, ((i : Int) + (j : Int)) / 2 = (h : Int) ∧ i ≤ h ∧ h < j := ⟨(i + j) / 2, by omega, by omega, by omega⟩
      have bh : (h : Int) < (n : Int) := by omega
      have ba : (m : Int) < (n : Int) := by omega
      by_cases hk : key (f h) < key (f m)
      · have hv : cmpV (key (f h)) (key (f m)) < 0 := cmpV_neg hk
        have HK := Lib.hid hk
        clear hk
        have la := S1.out.own.cell (i := m) (by omega)
        have lb := S1.out.own.cell (i := h) (by omega)
        have HCM := Lib.hid (fun k => HC.out (wr.drewN k) (S1.out.mod.drewN k) _ _ (hD.out (m) (by omega)) (hD.out (h) (by omega)))
        go_wp2_with fail
        go_quiet (first | (go_at_call 35; exact Calls.quiet_of (HCM.out _)))
        have S2 := Lib.hid (S1.out.drewN nq)
        clear la lb HCM S1
        generalize wr.drewN nq = w2 at S2 ⊢
        clear nq
        go_wp2
        go_roundg (h - i)
        case measure => omega
        case rel => exact ⟨i, h, rfl, rfl, by omega, by omega, by omega, by omega, HL, Lib.hid (Or.inr HK.out), S2⟩
      · have hv : ¬ cmpV (key (f h)) (key (f m)) < 0 := cmpV_not hk
        have hv2 : (0 : Int) ≤ cmpV (key (f h)) (key (f m)) := by omega
        have hv3 : decide (cmpV (key (f h)) (key (f m)) < 0) = false := decide_eq_false hv
        have HK := Lib.hid hk
        clear hk
        have la := S1.out.own.cell (i := m) (by omega)
        have lb := S1.out.own.cell (i := h) (by omega)
        have HCM := Lib.hid (fun k => HC.out (wr.drewN k) (S1.out.mod.drewN k) _ _ (hD.out (m) (by omega)) (hD.out (h) (by omega)))
        go_wp2_with fail
        go_quiet (first | (go_at_call 35; exact Calls.quiet_of (HCM.out _)))
        have S2 := Lib.hid (S1.out.drewN nq)
        clear la lb HCM S1
        generalize wr.drewN nq = w2 at S2 ⊢
        clear nq
        go_wp2
        go_roundg (j - (h + 1))
        case measure => omega
        case rel => exact ⟨h + 1, j, by go_num, rfl, by omega, by omega, by omega, by omega, Lib.hid (Or.inr HK.out), HH, S2⟩
    · have HF : Hid (Sorts key a b f (bwd f m i)) := Lib.hid (by
        obtain rfl : i = j := by omega
        have R1 := R.out
        obtain rfl := HM.out
        exact merge_last R1 hi (by omega) HL.out HH.out)
      have him : i ≤ m := by omega
      have hltz : ¬ (i : Int) < (j : Int) := by omega
      have hib : i ≤ b := by omega
      clear HL HH hlt hij hg1
      go_wp2
      go_loopg [17] (m + 1) (fun g1 vk wr => ∃ k : Nat, vk = .int .i64 k ∧ i ≤ k ∧ k ≤ m ∧ k < g1 ∧ Hid (SortW w0 g n (bwd f m k) wr))
      case atStart => exact ⟨m, rfl, by omega, by omega, by omega, by rw [bwd_zero]; exact S1⟩
      case round =>
        clear S1
        obtain ⟨k, rfl, hk1, hk2, hg1, S1⟩ := hrel
        by_cases hlt : i < k
        · obtain ⟨q, rfl⟩ : ∃ q, k = q + 1 := ⟨k - 1, by omega⟩
          have hltz : (i : Int) < (q : Int) + 1 := by omega
          have bk : (q : Int) < (n : Int) := by omega
          have pk : (0 : Int) ≤ (q : Int) + 1 := by omega
          have bk1 : (q : Int) + 1 < (n : Int) := by omega
          have rk : IntKind.i64.wrap ((q : Int) + 1) = (q : Int) + 1 := by rw [IntKind.wrap_i64]; omega
          have rq : IntKind.i64.wrap (q : Int) = (q : Int) := by rw [IntKind.wrap_i64]; omega
          have H3 := Lib.hid (S1.out.exch (q + 1) (q) _ _ rfl rfl (by omega))
          rw [bwd_succ f hk2] at H3
          have la := S1.out.own.cell (i := q + 1) (by omega)
          have lb := S1.out.own.cell (i := q) (by omega)
          have fa := S1.out.own.frozen (q + 1)
          have fb := S1.out.own.frozen (q)
          have lc := (S1.out.own.set (q + 1) (.int .i64 (bwd f m (q + 1) (q)))).cell (i := q) (by omega)
          rw [if_neg (by omega)] at lc
          clear S1
          generalize bwd f m (q + 1) (q) = x at *
          generalize bwd f m (q + 1) (q + 1) = y at *
          go_wp2_with fail
          go_big_region
          clear la lb lc fa fb
          generalize ((wr.setCell ⟨g, q + 1, none⟩ (.int .i64 x)).setCell ⟨g, q, none⟩ (.int .i64 y)).drew = w3 at H3 ⊢
          go_wp2
          go_roundg (q + 1)
          case measure => omega
          case rel => exact ⟨q, by first | rfl | go_num, by omega, by omega, by omega, H3⟩
        · have hltz : ¬ (i : Int) < (k : Int) := by omega
          go_wp2
          first | go_end0 | refine bodyPost_ret (results_none rfl _ _ _) rfl ?_
          obtain rfl : k = i := by omega
          exact ⟨rfl, bwd f m k, HF.out, S1.out⟩
end Go.Proofs.Ytahpoikbnjhkgaa
