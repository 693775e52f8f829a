/-
Several texts in one: LexA, LexB, LexC, LexD, LexE.
-/
import Derived.Test.YtoekpdnpncgeeaaGreatGLPar
import Derived.Deep.LoopGhost
import Derived.IntWalk
import Derived.Test.YtoekpdnpncgeeaaGreatCLimU
import Derived.Laws.EntriesVeiled
import Derived.WalkMore
/-
The lexer's words.
-/
namespace Go.Proofs.YtoekpdnpncgeeaaGreat
open Go.RowKit
set_option linter.unusedVariables false
set_option linter.unusedSimpArgs false
def gapB (x : Nat) : Bool := x == 32 || x == 9 || x == 10
def lowB (x : Nat) : Bool := decide (97 ≤ x) && decide (x ≤ 122)
def digB (x : Nat) : Bool := decide (48 ≤ x) && decide (x ≤ 57)
def punB (x : Nat) : Bool := x == 59 || x == 123 || x == 125
def partB (x : Nat) : Bool := lowB x || digB x || x == 95
def kindB (x : Nat) : Int := if gapB x then 1 else if x == 35 then 2 else if lowB x then 3 else if digB x then 4 else if punB x then 5 else 0
set_option maxRecDepth 100000 in
set_option maxHeartbeats 4000000 in
theorem lxGap_any (x : Nat) (w : World) : Calls Tryz.prog 59 #[.int .u8 (x : Nat)] w fun e w' => e = .returned (.bool (gapB x)) ∧ w' = w := by
  unfold gapB
  by_cases h1 : x = 32
  · subst h1
    go_enter Tryz.func59, Tryz.ntmps59
    go_wp2_with fail
    go_ret
    exact ⟨rfl, rfl⟩
  by_cases h2 : x = 9
  · subst h2
    go_enter Tryz.func59, Tryz.ntmps59
    go_wp2_with fail
    go_ret
    exact ⟨rfl, rfl⟩
  have HF : Hid (decide ((x : Int) = 10) = (x == 32 || x == 9 || x == 10)) := Lib.hid (by
    rw [Bool.eq_iff_iff]
    simp [h1, h2]
    omega)
  have z1 : ((x : Int) == 32) = false := by simp; omega
  have z2 : ((x : Int) == 9) = false := by simp; omega
  by_cases h3 : x = 10
  · subst h3
    go_enter Tryz.func59, Tryz.ntmps59
    go_wp2_with fail
    go_ret
    exact ⟨rfl, rfl⟩
  have z3 : ((x : Int) == 10) = false := by simp; omega
  have HG : Hid (false = (x == 32 || x == 9 || x == 10)) := Lib.hid (by simp [h1, h2, h3])
  clear h1 h2 h3
  go_enter Tryz.func59, Tryz.ntmps59
  go_wp2_with fail
  go_ret
  exact ⟨ret_bool HG.out, rfl⟩
set_option maxRecDepth 100000 in
set_option maxHeartbeats 4000000 in
theorem lxPun_any (x : Nat) (w : World) : Calls Tryz.prog 84 #[.int .u8 (x : Nat)] w fun e w' => e = .returned (.bool (punB x)) ∧ w' = w := by
  unfold punB
  by_cases h1 : x = 59
  · subst h1
    go_enter Tryz.func84, Tryz.ntmps84
    go_wp2_with fail
    go_ret
    exact ⟨rfl, rfl⟩
  by_cases h2 : x = 123
  · subst h2
    go_enter Tryz.func84, Tryz.ntmps84
    go_wp2_with fail
    go_ret
    exact ⟨rfl, rfl⟩
  by_cases h3 : x = 125
  · subst h3
    go_enter Tryz.func84, Tryz.ntmps84
    go_wp2_with fail
    go_ret
    exact ⟨rfl, rfl⟩
  have z1 : ((x : Int) == 59) = false := by simp; omega
  have z2 : ((x : Int) == 123) = false := by simp; omega
  have z3 : ((x : Int) == 125) = false := by simp; omega
  have HG : Hid (false = (x == 59 || x == 123 || x == 125)) := Lib.hid (by simp [h1, h2, h3])
  clear h1 h2 h3
  go_enter Tryz.func84, Tryz.ntmps84
  go_wp2_with fail
  go_ret
  exact ⟨ret_bool HG.out, rfl⟩
set_option maxRecDepth 100000 in
set_option maxHeartbeats 4000000 in
theorem lxLow_any (x : Nat) (w : World) : Calls Tryz.prog 82 #[.int .u8 (x : Nat)] w fun e w' => e = .returned (.bool (lowB x)) ∧ w' = w := by
  by_cases h1 : 97 ≤ x
  · have z1 : (97 : Int) ≤ (x : Int) := by omega
    by_cases h2 : x ≤ 122
    · have z2 : (x : Int) ≤ 122 := by omega
      have HG : Hid (true = lowB x) := Lib.hid (by simp [lowB, h1, h2])
      clear h1 h2
      go_enter Tryz.func82, Tryz.ntmps82
      go_wp2_with fail
      go_ret
      exact ⟨ret_bool HG.out, rfl⟩
    · have z2 : ¬ (x : Int) ≤ 122 := by omega
      have HG : Hid (false = lowB x) := Lib.hid (by simp [lowB, h1, h2])
      clear h1 h2
      go_enter Tryz.func82, Tryz.ntmps82
      go_wp2_with fail
      go_ret
      exact ⟨ret_bool HG.out, rfl⟩
  · have z1 : ¬ (97 : Int) ≤ (x : Int) := by omega
    have HG : Hid (false = lowB x) := Lib.hid (by simp [lowB, h1])
    clear h1
    go_enter Tryz.func82, Tryz.ntmps82
    go_wp2_with fail
    go_ret
    exact ⟨ret_bool HG.out, rfl⟩
set_option maxRecDepth 100000 in
set_option maxHeartbeats 4000000 in
theorem lxDig_any (x : Nat) (w : World) : Calls Tryz.prog 83 #[.int .u8 (x : Nat)] w fun e w' => e = .returned (.bool (digB x)) ∧ w' = w := by
  by_cases h1 : 48 ≤ x
  · have z1 : (48 : Int) ≤ (x : Int) := by omega
    by_cases h2 : x ≤ 57
    · have z2 : (x : Int) ≤ 57 := by omega
      have HG : Hid (true = digB x) := Lib.hid (by simp [digB, h1, h2])
      clear h1 h2
      go_enter Tryz.func83, Tryz.ntmps83
      go_wp2_with fail
      go_ret
      exact ⟨ret_bool HG.out, rfl⟩
    · have z2 : ¬ (x : Int) ≤ 57 := by omega
      have HG : Hid (false = digB x) := Lib.hid (by simp [digB, h1, h2])
      clear h1 h2
      go_enter Tryz.func83, Tryz.ntmps83
      go_wp2_with fail
      go_ret
      exact ⟨ret_bool HG.out, rfl⟩
  · have z1 : ¬ (48 : Int) ≤ (x : Int) := by omega
    have HG : Hid (false = digB x) := Lib.hid (by simp [digB, h1])
    clear h1
    go_enter Tryz.func83, Tryz.ntmps83
    go_wp2_with fail
    go_ret
    exact ⟨ret_bool HG.out, rfl⟩
set_option maxRecDepth 100000 in
set_option maxHeartbeats 4000000 in
theorem lxPart_any (x : Nat) (w : World) : Calls Tryz.prog 85 #[.int .u8 (x : Nat)] w fun e w' => e = .returned (.bool (partB x)) ∧ w' = w := by
  have HP : Hid (partB x = (lowB x || digB x || x == 95)) := Lib.hid rfl
  go_enter Tryz.func85, Tryz.ntmps85
  go_wp2_with fail
  refine (lxLow_any x w).mono ?_
  rintro e w1 ⟨rfl, rfl⟩
  generalize lowB x = a at *
  cases a
  · go_wp2_with fail
    refine (lxDig_any x w1).mono ?_
    rintro e w2 ⟨rfl, rfl⟩
    generalize digB x = b at *
    cases b
    · by_cases h3 : x = 95
      · have HG : Hid (true = partB x) := Lib.hid (by rw [HP.out]; simp [h3])
        have z3 : (x : Int) = 95 := by omega
        have HX := Lib.hid h3
        clear HP h3
        rw [z3]
        clear z3
        go_wp2_with fail
        go_ret
        exact ⟨ret_bool HG.out, rfl⟩
      · have HG : Hid (false = partB x) := Lib.hid (by rw [HP.out]; simp [h3])
        have z3 : ((x : Int) == 95) = false := by simp; omega
        clear HP h3
        go_wp2_with fail
        go_ret
        exact ⟨ret_bool HG.out, rfl⟩
    · have HG : Hid (true = partB x) := Lib.hid (by rw [HP.out]; simp)
      clear HP
      go_wp2_with fail
      go_ret
      exact ⟨ret_bool HG.out, rfl⟩
  · have HG : Hid (true = partB x) := Lib.hid (by rw [HP.out]; simp)
    clear HP
    go_wp2_with fail
    go_ret
    exact ⟨ret_bool HG.out, rfl⟩
set_option maxRecDepth 100000 in
set_option maxHeartbeats 4000000 in
theorem lxKind_any (x : Nat) (w : World) : Calls Tryz.prog 57 #[.int .u8 (x : Nat)] w fun e w' => e = .returned (.int .i64 (kindB x)) ∧ w' = w := by
  obtain ⟨a, ha⟩ : ∃ a, a = gapB x := ⟨_, rfl⟩
  obtain ⟨b, hb⟩ : ∃ a, a = lowB x := ⟨_, rfl⟩
  obtain ⟨c, hc⟩ : ∃ a, a = digB x := ⟨_, rfl⟩
  obtain ⟨d, hd⟩ : ∃ a, a = punB x := ⟨_, rfl⟩
  have HP : Hid (kindB x = if a = true then 1 else if x == 35 then 2 else if b = true then 3 else if c = true then 4 else if d = true then 5 else 0) := Lib.hid (by rw [ha, hb, hc, hd]; rfl)
  have HA : Hid (∀ w, Calls Tryz.prog 59 #[.int .u8 (x : Nat)] w fun e w' => e = .returned (.bool a) ∧ w' = w) := Lib.hid (by rw [ha]; exact lxGap_any x)
  have HB : Hid (∀ w, Calls Tryz.prog 82 #[.int .u8 (x : Nat)] w fun e w' => e = .returned (.bool b) ∧ w' = w) := Lib.hid (by rw [hb]; exact lxLow_any x)
  have HC : Hid (∀ w, Calls Tryz.prog 83 #[.int .u8 (x : Nat)] w fun e w' => e = .returned (.bool c) ∧ w' = w) := Lib.hid (by rw [hc]; exact lxDig_any x)
  have HD : Hid (∀ w, Calls Tryz.prog 84 #[.int .u8 (x : Nat)] w fun e w' => e = .returned (.bool d) ∧ w' = w) := Lib.hid (by rw [hd]; exact lxPun_any x)
  clear ha hb hc hd
  go_enter Tryz.func57, Tryz.ntmps57
  go_wp2_with fail
  refine (HA.out w).mono ?_
  rintro e w1 ⟨rfl, rfl⟩
  cases a
  case true =>
    have HG : Hid (1 = kindB x) := Lib.hid (by rw [HP.out]; rfl)
    clear HP HA HB HC HD
    go_wp2_with fail
    go_ret
    exact ⟨by rw [HG.out]; rfl, rfl⟩
  by_cases h35 : x = 35
  · have HG : Hid (2 = kindB x) := Lib.hid (by rw [HP.out]; simp [h35])
    have z3 : (x : Int) = 35 := by omega
    have HX := Lib.hid h35
    clear HP HA HB HC HD h35
    rw [z3]
    clear z3
    go_wp2_with fail
    go_ret
    exact ⟨by rw [HG.out]; rfl, rfl⟩
  have z3 : ((x : Int) == 35) = false := by simp; omega
  have HP : Hid (kindB x = if b = true then 3 else if c = true then 4 else if d = true then 5 else 0) := Lib.hid (by rw [HP.out]; simp [h35])
  clear h35 HA
  go_wp2_with fail
  refine (HB.out w1).mono ?_
  rintro e w2 ⟨rfl, rfl⟩
  cases b
  case true =>
    have HG : Hid (3 = kindB x) := Lib.hid (by rw [HP.out]; rfl)
    clear HP HB HC HD
    go_wp2_with fail
    go_ret
    exact ⟨by rw [HG.out]; rfl, rfl⟩
  go_wp2_with fail
  refine (HC.out w2).mono ?_
  rintro e w3 ⟨rfl, rfl⟩
  cases c
  case true =>
    have HG : Hid (4 = kindB x) := Lib.hid (by rw [HP.out]; rfl)
    clear HP HB HC HD
    go_wp2_with fail
    go_ret
    exact ⟨by rw [HG.out]; rfl, rfl⟩
  go_wp2_with fail
  refine (HD.out w3).mono ?_
  rintro e w4 ⟨rfl, rfl⟩
  cases d
  · have HG : Hid (0 = kindB x) := Lib.hid (by rw [HP.out]; rfl)
    clear HP HB HC HD
    go_wp2_with fail
    go_ret
    exact ⟨by rw [HG.out]; rfl, rfl⟩
  · have HG : Hid (5 = kindB x) := Lib.hid (by rw [HP.out]; rfl)
    clear HP HB HC HD
    go_wp2_with fail
    go_ret
    exact ⟨by rw [HG.out]; rfl, rfl⟩
end Go.Proofs.YtoekpdnpncgeeaaGreat
/-
The lexer: spans.
-/
namespace Go.Proofs.YtoekpdnpncgeeaaGreat
open Go.RowKit
set_option linter.unusedVariables false
set_option linter.unusedSimpArgs false
/-- The end of the longest part from k on whose bytes are all of a kind. -/
def spanE (p : Nat → Bool) (s : ByteArray) : Nat → Nat → Nat
  | 0, k => k
  | f + 1, k => if p (byteAt s k) = true then spanE p s f (k + 1) else k
theorem spanE_step (p : Nat → Bool) (s : ByteArray) {n k : Nat} (h : k < n) (hs : s.size = n) : spanE p s (n - k) k = if p (byteAt s k) = true then spanE p s (n - (k + 1)) (k + 1) else k := by
  rw [show n - k = (n - (k + 1)) + 1 by omega]
  rfl
theorem spanE_le (p : Nat → Bool) (s : ByteArray) : ∀ f k : Nat, k ≤ spanE p s f k ∧ spanE p s f k ≤ k + f
  | 0, k => ⟨Nat.le_refl _, Nat.le_refl _⟩
  | f + 1, k => by
    have h := spanE_le p s f (k + 1)
    show k ≤ (if p (byteAt s k) = true then spanE p s f (k + 1) else k) ∧ (if p (byteAt s k) = true then spanE p s f (k + 1) else k) ≤ _
    split <;> omega
set_option maxRecDepth 100000 in
set_option maxHeartbeats 4000000 in
theorem lxSpan_lxGap (s : ByteArray) (k0 : Nat) (w : World) (hs : s.size ≤ 9223372036854775807) (hk0 : k0 ≤ s.size) : Calls Tryz.prog 58 #[.string s, .int .i64 (k0 : Nat), .func (.func 59) #[] #[]] w fun e w' => e = .returned (.int .i64 (spanE gapB s (s.size - k0) k0 : Nat)) ∧ w' = w := by
  obtain ⟨n, hn⟩ : ∃ n, s.size = n := ⟨_, rfl⟩
  have HN := Lib.hid hn
  rw [hn] at hs hk0
  rw [hn]
  go_enter Tryz.func58, Tryz.ntmps58
  go_wp2_with fail
  go_loopg [7] n (fun g1 v7 wr => ∃ k : Nat, v7 = .int .i64 k ∧ k ≤ n ∧ n - k ≤ g1 ∧ Hid (spanE gapB s (n - k) k = spanE gapB s (n - k0) k0) ∧ wr = w)
  case atStart => exact ⟨k0, by go_num, by omega, by omega, Lib.hid rfl, rfl⟩
  case round =>
    obtain ⟨k, rfl, hk, hg1, HA, rfl⟩ := hrel
    by_cases hlt : k < n
    · have hltz : (k : Int) < (n : Int) := by omega
      have hik := idx_str (P := Tryz.prog) (t := 9) Tryz.underlying9 (s := s) (k := k) (by rw [HN.out]; exact hlt)
      obtain ⟨x, hx⟩ : ∃ x, byteAt s k = x := ⟨_, rfl⟩
      rw [hx] at hik
      have HS := Lib.hid (spanE_step gapB s (n := n) (k := k) hlt HN.out)
      rw [hx] at HS
      clear hx
      go_wp2_with fail
      refine (lxGap_any x wr).mono ?_
      rintro e w1 ⟨rfl, rfl⟩
      generalize gapB x = q at *
      cases q
      · have HE : Hid (k = spanE gapB s (n - k0) k0) := Lib.hid (by rw [← HA.out, HS.out]; rfl)
        go_wp2_with fail
        go_ret
        exact ⟨by rw [← HE.out]; rfl, rfl⟩
      · have HE : Hid (spanE gapB s (n - (k + 1)) (k + 1) = spanE gapB s (n - k0) k0) := Lib.hid (by rw [← HA.out, HS.out]; rfl)
        go_wp2_with fail
        go_roundg (n - (k + 1))
        case measure => omega
        case rel => exact ⟨k + 1, by go_num, by omega, by omega, HE, rfl⟩
    · have hltz : ¬ (k : Int) < (n : Int) := by omega
      have HE : Hid (k = spanE gapB s (n - k0) k0) := Lib.hid (by rw [← HA.out, show n - k = 0 by omega]; rfl)
      go_wp2_with fail
      go_ret
      exact ⟨by rw [← HE.out]; rfl, rfl⟩
set_option maxRecDepth 100000 in
set_option maxHeartbeats 4000000 in
theorem lxSpan_lxPart (s : ByteArray) (k0 : Nat) (w : World) (hs : s.size ≤ 9223372036854775807) (hk0 : k0 ≤ s.size) : Calls Tryz.prog 58 #[.string s, .int .i64 (k0 : Nat), .func (.func 85) #[] #[]] w fun e w' => e = .returned (.int .i64 (spanE partB s (s.size - k0) k0 : Nat)) ∧ w' = w := by
  obtain ⟨n, hn⟩ : ∃ n, s.size = n := ⟨_, rfl⟩
  have HN := Lib.hid hn
  rw [hn] at hs hk0
  rw [hn]
  go_enter Tryz.func58, Tryz.ntmps58
  go_wp2_with fail
  go_loopg [7] n (fun g1 v7 wr => ∃ k : Nat, v7 = .int .i64 k ∧ k ≤ n ∧ n - k ≤ g1 ∧ Hid (spanE partB s (n - k) k = spanE partB s (n - k0) k0) ∧ wr = w)
  case atStart => exact ⟨k0, by go_num, by omega, by omega, Lib.hid rfl, rfl⟩
  case round =>
    obtain ⟨k, rfl, hk, hg1, HA, rfl⟩ := hrel
    by_cases hlt : k < n
    · have hltz : (k : Int) < (n : Int) := by omega
      have hik := idx_str (P := Tryz.prog) (t := 9) Tryz.underlying9 (s := s) (k := k) (by rw [HN.out]; exact hlt)
      obtain ⟨x, hx⟩ : ∃ x, byteAt s k = x := ⟨_, rfl⟩
      rw [hx] at hik
      have HS := Lib.hid (spanE_step partB s (n := n) (k := k) hlt HN.out)
      rw [hx] at HS
      clear hx
      go_wp2_with fail
      refine (lxPart_any x wr).mono ?_
      rintro e w1 ⟨rfl, rfl⟩
      generalize partB x = q at *
      cases q
      · have HE : Hid (k = spanE partB s (n - k0) k0) := Lib.hid (by rw [← HA.out, HS.out]; rfl)
        go_wp2_with fail
        go_ret
        exact ⟨by rw [← HE.out]; rfl, rfl⟩
      · have HE : Hid (spanE partB s (n - (k + 1)) (k + 1) = spanE partB s (n - k0) k0) := Lib.hid (by rw [← HA.out, HS.out]; rfl)
        go_wp2_with fail
        go_roundg (n - (k + 1))
        case measure => omega
        case rel => exact ⟨k + 1, by go_num, by omega, by omega, HE, rfl⟩
    · have hltz : ¬ (k : Int) < (n : Int) := by omega
      have HE : Hid (k = spanE partB s (n - k0) k0) := Lib.hid (by rw [← HA.out, show n - k = 0 by omega]; rfl)
      go_wp2_with fail
      go_ret
      exact ⟨by rw [← HE.out]; rfl, rfl⟩
set_option maxRecDepth 100000 in
set_option maxHeartbeats 4000000 in
theorem lxSpan_lxDig (s : ByteArray) (k0 : Nat) (w : World) (hs : s.size ≤ 9223372036854775807) (hk0 : k0 ≤ s.size) : Calls Tryz.prog 58 #[.string s, .int .i64 (k0 : Nat), .func (.func 83) #[] #[]] w fun e w' => e = .returned (.int .i64 (spanE digB s (s.size - k0) k0 : Nat)) ∧ w' = w := by
  obtain ⟨n, hn⟩ : ∃ n, s.size = n := ⟨_, rfl⟩
  have HN := Lib.hid hn
  rw [hn] at hs hk0
  rw [hn]
  go_enter Tryz.func58, Tryz.ntmps58
  go_wp2_with fail
  go_loopg [7] n (fun g1 v7 wr => ∃ k : Nat, v7 = .int .i64 k ∧ k ≤ n ∧ n - k ≤ g1 ∧ Hid (spanE digB s (n - k) k = spanE digB s (n - k0) k0) ∧ wr = w)
  case atStart => exact ⟨k0, by go_num, by omega, by omega, Lib.hid rfl, rfl⟩
  case round =>
    obtain ⟨k, rfl, hk, hg1, HA, rfl⟩ := hrel
    by_cases hlt : k < n
    · have hltz : (k : Int) < (n : Int) := by omega
      have hik := idx_str (P := Tryz.prog) (t := 9) Tryz.underlying9 (s := s) (k := k) (by rw [HN.out]; exact hlt)
      obtain ⟨x, hx⟩ : ∃ x, byteAt s k = x := ⟨_, rfl⟩
      rw [hx] at hik
      have HS := Lib.hid (spanE_step digB s (n := n) (k := k) hlt HN.out)
      rw [hx] at HS
      clear hx
      go_wp2_with fail
      refine (lxDig_any x wr).mono ?_
      rintro e w1 ⟨rfl, rfl⟩
      generalize digB x = q at *
      cases q
      · have HE : Hid (k = spanE digB s (n - k0) k0) := Lib.hid (by rw [← HA.out, HS.out]; rfl)
        go_wp2_with fail
        go_ret
        exact ⟨by rw [← HE.out]; rfl, rfl⟩
      · have HE : Hid (spanE digB s (n - (k + 1)) (k + 1) = spanE digB s (n - k0) k0) := Lib.hid (by rw [← HA.out, HS.out]; rfl)
        go_wp2_with fail
        go_roundg (n - (k + 1))
        case measure => omega
        case rel => exact ⟨k + 1, by go_num, by omega, by omega, HE, rfl⟩
    · have hltz : ¬ (k : Int) < (n : Int) := by omega
      have HE : Hid (k = spanE digB s (n - k0) k0) := Lib.hid (by rw [← HA.out, show n - k = 0 by omega]; rfl)
      go_wp2_with fail
      go_ret
      exact ⟨by rw [← HE.out]; rfl, rfl⟩
end Go.Proofs.YtoekpdnpncgeeaaGreat
/-
The lexer: values, tokens.
-/
namespace Go.Proofs.YtoekpdnpncgeeaaGreat
open Go.RowKit
set_option linter.unusedVariables false
set_option linter.unusedSimpArgs false
/-- The value of digits. -/
def valGo (t : ByteArray) : Nat → Nat → Int → Option Int
  | 0, _, a => some a
  | f + 1, k, a => if byteAt t k < 48 then none else if 1000000 < 10 * a + ((byteAt t k : Nat) - 48 : Int) then none else valGo t f (k + 1) (10 * a + ((byteAt t k : Nat) - 48 : Int))
def valT (t : ByteArray) : Option Int := if 1 < t.size ∧ byteAt t 0 = 48 then none else valGo t t.size 0 0
theorem valGo_step {t : ByteArray} {m k : Nat} {a n : Int} (hk : k < m) (h : valGo t (m - k) k a = some n) : ¬ byteAt t k < 48 ∧ ¬ 1000000 < 10 * a + ((byteAt t k : Nat) - 48 : Int) ∧ valGo t (m - (k + 1)) (k + 1) (10 * a + ((byteAt t k : Nat) - 48 : Int)) = some n := by
  rw [show m - k = (m - (k + 1)) + 1 by omega] at h
  unfold valGo at h
  by_cases h1 : byteAt t k < 48
  · rw [if_pos h1] at h; cases h
  · rw [if_neg h1] at h
    by_cases h2 : 1000000 < 10 * a + ((byteAt t k : Nat) - 48 : Int)
    · rw [if_pos h2] at h; cases h
    · rw [if_neg h2] at h
      exact ⟨h1, h2, h⟩
set_option maxRecDepth 100000 in
set_option maxHeartbeats 4000000 in
theorem lxValue_ok (t : ByteArray) (v : Int) (w : World) (h : valT t = some v) (hs : t.size ≤ 9223372036854775807) : Calls Tryz.prog 86 #[.string t] w fun e w' => e = .returned (.tuple #[.int .i64 v, .int .i64 0]) ∧ w' = w := by
  obtain ⟨m, hm⟩ : ∃ m, t.size = m := ⟨_, rfl⟩
  have HM := Lib.hid hm
  have h1 : ¬ (1 < t.size ∧ byteAt t 0 = 48) := fun x => by unfold valT at h; rw [if_pos x] at h; cases h
  have h2 : valGo t (m - 0) 0 0 = some v := by unfold valT at h; rw [if_neg h1, hm] at h; exact h
  have H2 := Lib.hid h2
  rw [hm] at h1 hs
  have H1 := Lib.hid h1
  clear h h1 h2
  have HG : Calls Tryz.prog 86 #[.string t] w fun e w' => e = .returned (.tuple #[.int .i64 v, .int .i64 0]) ∧ w' = w := by
    by_cases c1 : 1 < m
    · have z1 : (1 : Int) < (m : Int) := by omega
      have hi0 : ∀ w : World, (Instr.index 9 (.string t) (.int .i64 0)).run Tryz.prog w = .ok (.int .u8 (byteAt t 0 : Nat)) w := idx_str (P := Tryz.prog) (t := 9) Tryz.underlying9 (s := t) (k := 0) (by omega)
      have hb : byteAt t 0 ≠ 48 := fun e => H1.out ⟨c1, e⟩
      obtain ⟨b, hb2⟩ : ∃ b, b = byteAt t 0 := ⟨_, rfl⟩
      rw [← hb2] at hi0 hb
      have zb : ((b : Int) == 48) = false := by simp; omega
      clear hb hb2
      go_enter Tryz.func86, Tryz.ntmps86
      go_wp2_with fail
      go_loopg [4, 5] m (fun g1 v4 v5 wr => ∃ (k : Nat) (a : Int), v5 = .int .i64 k ∧ v4 = .int .i64 a ∧ k ≤ m ∧ m - k ≤ g1 ∧ (0 ≤ a ∧ a ≤ 1000000) ∧ Hid (valGo t (m - k) k a = some v) ∧ wr = w)
      case atStart => exact ⟨0, 0, by go_num, by go_num, by omega, by omega, by omega, H2, rfl⟩
      case round =>
        obtain ⟨k, a, rfl, rfl, hk, hg1, ha, HA, rfl⟩ := hrel
        by_cases hlt : k < m
        · have hltz : (k : Int) < (m : Int) := by omega
          have hik := idx_str (P := Tryz.prog) (t := 9) Tryz.underlying9 (s := t) (k := k) (by rw [HM.out]; exact hlt)
          obtain ⟨s1, s2, s3⟩ := valGo_step hlt HA.out
          have hbb := byteAt_lt t k
          have HN := Lib.hid s3
          obtain ⟨x, hx⟩ : ∃ x, x = byteAt t k := ⟨_, rfl⟩
          rw [← hx] at hik s1 s2 HN hbb
          clear s3 hx
          have w0 : IntKind.u8.wrap ((x : Int) - 48) = (x : Int) - 48 := IntWalk.u8_in _ (by omega)
          have w1' : IntKind.i64.wrap ((x : Int) - 48) = (x : Int) - 48 := IntWalk.i64_in _ (by omega)
          have w2' : IntKind.i64.wrap (10 * a) = 10 * a := IntWalk.i64_in _ (by omega)
          have w3' : IntKind.i64.wrap (10 * a + ((x : Int) - 48)) = 10 * a + ((x : Int) - 48) := IntWalk.i64_in _ (by omega)
          go_wp2_with fail
          go_roundg (m - (k + 1))
          case measure => omega
          case rel => exact ⟨k + 1, _, by go_num, rfl, by omega, by omega, by omega, HN, rfl⟩
        · have hltz : ¬ (k : Int) < (m : Int) := by omega
          have HE : Hid (a = v) := Lib.hid (by
            have h := HA.out
            rw [show m - k = 0 by omega] at h
            injection h)
          go_wp2_with fail
          refine bodyPost_ret (results_tmp2 rfl _ _ _) rfl ?_
          exact ⟨by rw [← HE.out]; rfl, rfl⟩
    · have z1 : ¬ (1 : Int) < (m : Int) := by omega
      go_enter Tryz.func86, Tryz.ntmps86
      go_wp2_with fail
      go_loopg [4, 5] m (fun g1 v4 v5 wr => ∃ (k : Nat) (a : Int), v5 = .int .i64 k ∧ v4 = .int .i64 a ∧ k ≤ m ∧ m - k ≤ g1 ∧ (0 ≤ a ∧ a ≤ 1000000) ∧ Hid (valGo t (m - k) k a = some v) ∧ wr = w)
      case atStart => exact ⟨0, 0, by go_num, by go_num, by omega, by omega, by omega, H2, rfl⟩
      case round =>
        obtain ⟨k, a, rfl, rfl, hk, hg1, ha, HA, rfl⟩ := hrel
        by_cases hlt : k < m
        · have hltz : (k : Int) < (m : Int) := by omega
          have hik := idx_str (P := Tryz.prog) (t := 9) Tryz.underlying9 (s := t) (k := k) (by rw [HM.out]; exact hlt)
          obtain ⟨s1, s2, s3⟩ := valGo_step hlt HA.out
          have hbb := byteAt_lt t k
          have HN := Lib.hid s3
          obtain ⟨x, hx⟩ : ∃ x, x = byteAt t k := ⟨_, rfl⟩
          rw [← hx] at hik s1 s2 HN hbb
          clear s3 hx
          have w0 : IntKind.u8.wrap ((x : Int) - 48) = (x : Int) - 48 := IntWalk.u8_in _ (by omega)
          have w1' : IntKind.i64.wrap ((x : Int) - 48) = (x : Int) - 48 := IntWalk.i64_in _ (by omega)
          have w2' : IntKind.i64.wrap (10 * a) = 10 * a := IntWalk.i64_in _ (by omega)
          have w3' : IntKind.i64.wrap (10 * a + ((x : Int) - 48)) = 10 * a + ((x : Int) - 48) := IntWalk.i64_in _ (by omega)
          go_wp2_with fail
          go_roundg (m - (k + 1))
          case measure => omega
          case rel => exact ⟨k + 1, _, by go_num, rfl, by omega, by omega, by omega, HN, rfl⟩
        · have hltz : ¬ (k : Int) < (m : Int) := by omega
          have HE : Hid (a = v) := Lib.hid (by
            have h := HA.out
            rw [show m - k = 0 by omega] at h
            injection h)
          go_wp2_with fail
          refine bodyPost_ret (results_tmp2 rfl _ _ _) rfl ?_
          exact ⟨by rw [← HE.out]; rfl, rfl⟩
  exact HG
end Go.Proofs.YtoekpdnpncgeeaaGreat
/-
The lexer: a token.
-/
namespace Go.Proofs.YtoekpdnpncgeeaaGreat
open Go.RowKit
set_option linter.unusedVariables false
set_option linter.unusedSimpArgs false
structure Tok where
  kind : Int
  text : ByteArray
  n : Int
  pos : Nat
def encTok (t : Tok) : List Value := [.int .i64 t.kind, .string t.text, .int .i64 t.n, .int .i64 (t.pos : Nat)]
theorem encTok_len (t : Tok) : (encTok t).length = 4 := rfl
theorem encTok_one (t : Tok) (u : Value) (h : u ∈ encTok t) : u.oneCell' = true := by
  simp [encTok] at h
  rcases h with rfl | rfl | rfl | rfl <;> rfl
def tokV (t : Tok) : Value := .agg #[.int .i64 t.kind, .string t.text, .int .i64 t.n, .int .i64 (t.pos : Nat)]
/-- The token at a byte, and its end. -/
def tokO (s : ByteArray) (k : Nat) : Option (Tok × Nat) :=
  if kindB (byteAt s k) = 3 then (if 12 < spanE partB s (s.size - k) k - k then none else some (⟨1, s.extract k (spanE partB s (s.size - k) k), 0, k⟩, spanE partB s (s.size - k) k))
  else if kindB (byteAt s k) = 4 then (valT (s.extract k (spanE digB s (s.size - k) k))).map (fun n => (⟨2, ByteArray.empty, n, k⟩, spanE digB s (s.size - k) k))
  else if kindB (byteAt s k) = 5 then some (⟨3, s.extract k (k + 1), 0, k⟩, k + 1)
  else none
theorem slice_str {P : Program} {t : TypeId} (h : P.underlying t = some .string) {s : ByteArray} {a b : Nat} (h1 : a ≤ b) (h2 : b ≤ s.size) (w : World) : (Instr.slice t (.string s) (some (.int .i64 (a : Int))) (some (.int .i64 (b : Int))) none).run P w = .ok (.string (s.extract a b)) w :=
  run_slice_string (P := P) w t s .i64 .i64 (a : Int) (b : Int) h (by omega) (by omega) (by omega)
theorem size_extractT (s : ByteArray) (a b : Nat) (h : b ≤ s.size) : (s.extract a b).size ≤ s.size := by rw [ByteArray.size_extract]; omega
theorem load_tok {w : World} {b : Nat} {k p n : Int} {t : ByteArray} (h0 : w.cell? ⟨b, 0, none⟩ = some (.int .i64 k)) (h1 : w.cell? ⟨b, 1, none⟩ = some (.string t)) (h2 : w.cell? ⟨b, 2, none⟩ = some (.int .i64 n)) (h3 : w.cell? ⟨b, 3, none⟩ = some (.int .i64 p)) : (loadVar 90 ⟨b, 0, none⟩).run Tryz.prog w = .ok (.agg #[.int .i64 k, .string t, .int .i64 n, .int .i64 p]) w := by go_simp
set_option maxRecDepth 100000 in
set_option maxHeartbeats 4000000 in
theorem lxToken_ok (s : ByteArray) (k e : Nat) (t : Tok) (w : World) (hs : s.size ≤ 8000) (hk : k < s.size) (h : tokO s k = some (t, e)) : Calls Tryz.prog 60 #[.string s, .int .i64 (k : Nat), .int .i64 (kindB (byteAt s k))] w fun e' w' => e' = .returned (.tuple #[tokV t, .int .i64 (e : Nat), .int .i64 0]) ∧ Below w.heap.size w w' := by
  unfold tokO at h
  by_cases h3 : kindB (byteAt s k) = 3
  · rw [if_pos h3] at h
    by_cases h12 : 12 < spanE partB s (s.size - k) k - k
    · rw [if_pos h12] at h; cases h
    rw [if_neg h12] at h
    injection h with h
    injection h with h1 h2
    subst h1
    rw [h2] at h12 ⊢
    have hle := spanE_le partB s (s.size - k) k
    rw [h2] at hle
    have HS := Lib.hid (fun w => lxSpan_lxPart s k w (by omega) (by omega))
    rw [h2] at HS
    have hsl := slice_str (P := Tryz.prog) (t := 9) Tryz.underlying9 (s := s) (a := k) (b := e) hle.1 (by omega)
    generalize s.extract k e = tx at *
    rw [h3]
    have hke : k ≤ e := hle.1
    have he : e ≤ 8000 := by omega
    have z1 : IntKind.i64.wrap ((e : Int) - (k : Int)) = (e : Int) - (k : Int) := IntWalk.i64_in _ (by omega)
    have z2 : ¬ (12 : Int) < (e : Int) - (k : Int) := by omega
    clear h2 h3 hle h12
    go_enter Tryz.func60, Tryz.ntmps60
    go_wp2_with fail
    refine (HS.out _).mono ?_
    rintro e' w1 ⟨rfl, rfl⟩
    go_wp2_with fail
    refine bodyPost_ret (results_ctt (a := 6) (t := 7) (u := 8) (ty := 90) (b := w.heap.size) (by kernel_rfl) rfl (load_tok (k := 1) (t := tx) (n := 0) (p := (k : Nat)) (by go_simp) (by go_simp) (by go_simp) (by go_simp))) rfl ?_
    exact ⟨rfl, (Below.refl _ _).alloc (Nat.le_refl _) _⟩
  rw [if_neg h3] at h
  by_cases h4 : kindB (byteAt s k) = 4
  · rw [if_pos h4] at h
    obtain ⟨n, hn, h⟩ := Option.map_eq_some_iff.1 h
    injection h with h1 h2
    subst h1
    have hle := spanE_le digB s (s.size - k) k
    rw [h2] at hn hle
    have HS := Lib.hid (fun w => lxSpan_lxDig s k w (by omega) (by omega))
    rw [h2] at HS
    have hsl := slice_str (P := Tryz.prog) (t := 9) Tryz.underlying9 (s := s) (a := k) (b := e) hle.1 (by omega)
    have hsz := size_extractT s k e (by omega)
    generalize s.extract k e = tx at *
    have HV := Lib.hid (fun w => lxValue_ok tx n w hn (by omega))
    rw [h4]
    clear h2 h3 h4 hle hn hsz
    go_enter Tryz.func60, Tryz.ntmps60
    go_wp2_with fail
    refine (HS.out _).mono ?_
    rintro e' w1 ⟨rfl, rfl⟩
    go_wp2_with fail
    refine (HV.out _).mono ?_
    rintro e' w1 ⟨rfl, rfl⟩
    go_wp2_with fail
    refine bodyPost_ret (results_ctt (a := 6) (t := 7) (u := 8) (ty := 90) (b := w.heap.size) (by kernel_rfl) rfl (load_tok (k := 2) (t := (⟨#[]⟩ : ByteArray)) (n := n) (p := (k : Nat)) (by go_simp) (by go_simp) (by go_simp) (by go_simp))) rfl ?_
    exact ⟨rfl, (Below.refl _ _).alloc (Nat.le_refl _) _⟩
  rw [if_neg h4] at h
  by_cases h5 : kindB (byteAt s k) = 5
  · rw [if_pos h5] at h
    injection h with h
    injection h with h1 h2
    subst h1 h2
    have hsl : ∀ w : World, (Instr.slice 9 (.string s) (some (.int .i64 (k : Int))) (some (.int .i64 ((k : Int) + 1))) none).run Tryz.prog w = .ok (.string (s.extract k (k + 1))) w := slice_str (P := Tryz.prog) (t := 9) Tryz.underlying9 (s := s) (a := k) (b := k + 1) (by omega) (by omega)
    generalize s.extract k (k + 1) = tx at *
    rw [h5]
    have z1 : IntKind.i64.wrap ((k : Int) + 1) = (k : Int) + 1 := IntWalk.i64_in _ (by omega)
    clear h3 h4 h5
    go_enter Tryz.func60, Tryz.ntmps60
    go_wp2_with fail
    refine bodyPost_ret (results_ctt (a := 6) (t := 7) (u := 8) (ty := 90) (b := w.heap.size) (by kernel_rfl) rfl (load_tok (k := 3) (t := tx) (n := 0) (p := (k : Nat)) (by go_simp) (by go_simp) (by go_simp) (by go_simp))) rfl ?_
    exact ⟨rfl, (Below.refl _ _).alloc (Nat.le_refl _) _⟩
  · rw [if_neg h5] at h; cases h
end Go.Proofs.YtoekpdnpncgeeaaGreat
/-
The lexer: all tokens of a source without errors and comments.
-/
namespace Go.Proofs.YtoekpdnpncgeeaaGreat
open Go.RowKit
set_option linter.unusedVariables false
set_option linter.unusedSimpArgs false
def lexGo (s : ByteArray) : Nat → Nat → Option (List Tok)
  | 0, k => if k < s.size then none else some []
  | f + 1, k => if k < s.size then (if kindB (byteAt s k) = 1 then lexGo s f (spanE gapB s (s.size - k) k) else match tokO s k with
      | none => none
      | some (t, e) => (lexGo s f e).map (fun r => t :: r)) else some []
theorem lexGo_end {s : ByteArray} {f k : Nat} {r : List Tok} (h : lexGo s f k = some r) (hk : ¬ k < s.size) : r = [] := by
  cases f with
  | zero => unfold lexGo at h; rw [if_neg hk] at h; injection h with h; exact h.symm
  | succ f => unfold lexGo at h; rw [if_neg hk] at h; injection h with h; exact h.symm
theorem lexGo_at {s : ByteArray} {f k : Nat} {r : List Tok} (h : lexGo s f k = some r) (hk : k < s.size) : ∃ f', f = f' + 1 ∧ ((kindB (byteAt s k) = 1 ∧ lexGo s f' (spanE gapB s (s.size - k) k) = some r) ∨ (kindB (byteAt s k) ≠ 1 ∧ ∃ t e r', tokO s k = some (t, e) ∧ lexGo s f' e = some r' ∧ r = t :: r')) := by
  cases f with
  | zero => unfold lexGo at h; rw [if_pos hk] at h; cases h
  | succ f =>
    refine ⟨f, rfl, ?_⟩
    unfold lexGo at h
    rw [if_pos hk] at h
    by_cases h1 : kindB (byteAt s k) = 1
    · rw [if_pos h1] at h
      exact .inl ⟨h1, h⟩
    · rw [if_neg h1] at h
      right
      cases ht : tokO s k with
      | none => rw [ht] at h; cases h
      | some te =>
        obtain ⟨t, e⟩ := te
        rw [ht] at h
        obtain ⟨r', h2, h3⟩ := Option.map_eq_some_iff.1 h
        exact ⟨h1, t, e, r', rfl, h2, h3.symm⟩
theorem tokO_kind {s : ByteArray} {k : Nat} {x : Tok × Nat} (h : tokO s k = some x) : kindB (byteAt s k) = 3 ∨ kindB (byteAt s k) = 4 ∨ kindB (byteAt s k) = 5 := by
  unfold tokO at h
  by_cases h3 : kindB (byteAt s k) = 3
  · exact .inl h3
  · by_cases h4 : kindB (byteAt s k) = 4
    · exact .inr (.inl h4)
    · by_cases h5 : kindB (byteAt s k) = 5
      · exact .inr (.inr h5)
      · rw [if_neg h3, if_neg h4, if_neg h5] at h; cases h
theorem tokO_end {s : ByteArray} {k : Nat} {t : Tok} {e : Nat} (hk : k < s.size) (h : tokO s k = some (t, e)) : e ≤ s.size := by
  unfold tokO at h
  have h1 := spanE_le partB s (s.size - k) k
  have h2 := spanE_le digB s (s.size - k) k
  by_cases h3 : kindB (byteAt s k) = 3
  · rw [if_pos h3] at h
    by_cases h12 : 12 < spanE partB s (s.size - k) k - k
    · rw [if_pos h12] at h; cases h
    · rw [if_neg h12] at h
      injection h with h
      injection h with _ h
      omega
  · rw [if_neg h3] at h
    by_cases h4 : kindB (byteAt s k) = 4
    · rw [if_pos h4] at h
      obtain ⟨n, _, h⟩ := Option.map_eq_some_iff.1 h
      injection h with _ h
      omega
    · rw [if_neg h4] at h
      by_cases h5 : kindB (byteAt s k) = 5
      · rw [if_pos h5] at h
        injection h with h
        injection h with _ h
        omega
      · rw [if_neg h5] at h; cases h
abbrev OwnTk (w : World) (base : Nat) (v : Value) (xs : List Tok) : Prop := OwnR 90 4 encTok w base v xs
theorem appInfoTok : (Tryz.prog.info? 90).map (fun i => (i.zero, i.size, i.bytes)) = some (some (.agg #[.int .i64 0, .string ByteArray.empty, .int .i64 0, .int .i64 0]), 4, 40) := by kernel_rfl
theorem app_tok {w : World} {base : Nat} {v : Value} {xs : List Tok} (t : Tok) (h : OwnTk w base v xs) (hb : base ≤ w.heap.size) (hl : xs.length ≤ 100000) :
    Appends Tryz.prog (w.alloc (.cells #[.int .i64 t.kind, .string t.text, .int .i64 t.n, .int .i64 (t.pos : Nat)] 90)) 80 80 v (.slice (some ⟨w.heap.size, 0, none⟩) 1 1) ∧
    ∃ v' w1, appV Tryz.prog (w.alloc (.cells #[.int .i64 t.kind, .string t.text, .int .i64 t.n, .int .i64 (t.pos : Nat)] 90)) 80 80 v (.slice (some ⟨w.heap.size, 0, none⟩) 1 1) = v' ∧
      appW Tryz.prog (w.alloc (.cells #[.int .i64 t.kind, .string t.text, .int .i64 t.n, .int .i64 (t.pos : Nat)] 90)) 80 80 v (.slice (some ⟨w.heap.size, 0, none⟩) 1 1) = w1 ∧ Hid (OwnTk w1 base v' (xs ++ [t])) ∧ Hid (Aside base v v' w w1) :=
  app_lit appInfoTok Tryz.underlying80 rfl (by omega) encTok_len encTok_one h hb rfl rfl (by omega) (by omega)
/-- What Lex returns. -/
def LxPost (w : World) (toks : List Tok) (e : Ending) (w' : World) : Prop := ∃ v, e = .returned (.tuple #[v, .int .i64 0, .int .i64 0]) ∧ OwnTk w' w.heap.size v toks ∧ Below w.heap.size w w'
set_option maxRecDepth 100000 in
set_option maxHeartbeats 8000000 in
theorem lxLex_ok (s : ByteArray) (f : Nat) (toks : List Tok) (w : World) (hs : s.size ≤ 8000) (h : lexGo s f 0 = some toks) (hl : toks.length ≤ 1900) : Calls Tryz.prog 30 #[.string s] w (LxPost w toks) := by
  obtain ⟨n, hn⟩ : ∃ n, s.size = n := ⟨_, rfl⟩
  have HN := Lib.hid hn
  have HS0 : Hid (s.size ≤ 8000) := Lib.hid hs
  rw [hn] at hs
  have H0 := Lib.hid h
  have HL := Lib.hid hl
  have HO : Hid (OwnTk w w.heap.size (.slice none 0 0) []) := Lib.hid (OwnR.nil _ _)
  have z8 : ¬ (8000 : Int) < (n : Int) := by omega
  clear h hl
  go_enter Tryz.func30, Tryz.ntmps30
  go_wp2_with fail
  go_step3
  go_wp2_with fail
  go_step3
  go_wp2_with fail
  go_loopg [5, 7] f (fun g1 v5 v7 wr => ∃ (k f' : Nat) (acc r : List Tok), v7 = .int .i64 k ∧ k ≤ n ∧ f' ≤ g1 ∧ Hid (OwnTk wr w.heap.size v5 acc) ∧ Hid (lexGo s f' k = some r ∧ acc ++ r = toks) ∧ Hid (Below w.heap.size w wr))
  case atStart => exact ⟨0, f, [], toks, by go_num, by omega, by omega, HO, Lib.hid ⟨H0.out, rfl⟩, Lib.hid (Below.refl _ _)⟩
  case round =>
    clear HO
    obtain ⟨k, f', acc, r, rfl, hk, hg1, HO, HA, HB⟩ := hrel
    obtain ⟨sa, sc, hsv⟩ := HO.out.shape
    subst hsv
    have HAL : Hid (acc.length + r.length ≤ 1900) := Lib.hid (by have h1 := HL.out; rw [← HA.out.2, List.length_append] at h1; exact h1)
    by_cases hlt : k < n
    · have hltz : (k : Int) < (n : Int) := by omega
      have hik := idx_str (P := Tryz.prog) (t := 9) Tryz.underlying9 (s := s) (k := k) (by rw [HN.out]; exact hlt)
      obtain ⟨f2, hf2, hcase⟩ := lexGo_at HA.out.1 (by rw [HN.out]; exact hlt)
      subst hf2
      have HK := Lib.hid (fun w => lxKind_any (byteAt s k) w)
      rcases hcase with ⟨h1, h2⟩ | ⟨h1, t, e, r', ht, h2, h3⟩
      · have HSP := Lib.hid (fun w => lxSpan_lxGap s k w (by have := HS0.out; omega) (by rw [HN.out]; exact hk))
        have hle := spanE_le gapB s (s.size - k) k
        obtain ⟨e, he⟩ : ∃ e, e = spanE gapB s (s.size - k) k := ⟨_, rfl⟩
        rw [← he] at HSP h2 hle
        rw [HN.out] at hle
        have hen : e ≤ n := by omega
        have HA2 : Hid (lexGo s f2 e = some r ∧ acc ++ r = toks) := Lib.hid ⟨h2, HA.out.2⟩
        rw [h1] at HK
        obtain ⟨x, hx⟩ : ∃ x, x = byteAt s k := ⟨_, rfl⟩
        rw [← hx] at HK hik
        clear h1 h2 he hle hx
        go_wp2_with fail
        refine (HK.out wr).mono ?_
        rintro e' w1 ⟨rfl, rfl⟩
        go_wp2_with fail
        refine (HSP.out w1).mono ?_
        rintro e' w2 ⟨rfl, rfl⟩
        go_wp2_with fail
        go_roundg f2
        case measure => omega
        case rel => exact ⟨e, f2, acc, r, by go_num, hen, by omega, HO, HA2, HB⟩
      · have hk345 := tokO_kind ht
        have hen := tokO_end (by rw [HN.out]; exact hlt) ht
        rw [HN.out] at hen
        have HTK := Lib.hid (fun w => lxToken_ok s k e t w HS0.out (by rw [HN.out]; exact hlt) ht)
        obtain ⟨x, hx⟩ : ∃ x, x = byteAt s k := ⟨_, rfl⟩
        rw [← hx] at HTK HK hik h1 hk345
        have z1 : (kindB x == 1) = false := by simpa using h1
        have z2 : (kindB x == 2) = false := by rw [beq_eq_false_iff_ne]; omega
        have HA2 : Hid (lexGo s f2 e = some r' ∧ (acc ++ [t]) ++ r' = toks) := Lib.hid ⟨h2, by rw [List.append_assoc, List.singleton_append, ← h3]; exact HA.out.2⟩
        have zl : ((acc.length : Int) == 2000) = false := by rw [beq_eq_false_iff_ne]; have := HAL.out; omega
        have hacl : acc.length ≤ 1900 := by have := HAL.out; omega
        generalize kindB x = kx at *
        clear h1 h2 h3 ht hx hk345
        go_wp2_with fail
        refine (HK.out wr).mono ?_
        rintro e' w1 ⟨rfl, rfl⟩
        go_wp2_with fail
        refine (HTK.out w1).mono ?_
        rintro e' w2 ⟨rfl, hb2⟩
        obtain ⟨tk, tx, tn, tp⟩ := t
        have HO2 := Lib.hid (HO.out.keepB hb2)
        have HB2 : Hid (Below w.heap.size w w2) := Lib.hid (HB.out.trans (hb2.mono HB.out.size))
        rw [show tokV ⟨tk, tx, tn, tp⟩ = .agg #[.int .i64 tk, .string tx, .int .i64 tn, .int .i64 (tp : Nat)] from rfl]
        clear hb2 HO HB HK HTK
        go_upto_region 16 with (fail)
        obtain ⟨W3, hW3⟩ : ∃ W3, W3 = w2.alloc (.cells #[.int .i64 tk, .string tx, .int .i64 tn, .int .i64 (tp : Nat)] 90) := ⟨_, rfl⟩
        have hb3 : Below w2.heap.size w2 W3 := by rw [hW3]; exact (Below.refl _ _).alloc (Nat.le_refl _) _
        have x0 : W3.cell? ⟨w2.heap.size, 0, none⟩ = some (.int .i64 tk) := by rw [hW3]; go_simp
        have x1 : W3.cell? ⟨w2.heap.size, 1, none⟩ = some (.string tx) := by rw [hW3]; go_simp
        have x2 : W3.cell? ⟨w2.heap.size, 2, none⟩ = some (.int .i64 tn) := by rw [hW3]; go_simp
        have x3 : W3.cell? ⟨w2.heap.size, 3, none⟩ = some (.int .i64 (tp : Nat)) := by rw [hW3]; go_simp
        have HO3 := Lib.hid (HO2.out.keepB hb3)
        have HB3 : Hid (Below w.heap.size w W3) := Lib.hid (HB2.out.trans (hb3.mono HB2.out.size))
        rw [← hW3]
        clear hW3 hb3 HO2 HB2
        obtain ⟨ap, v', w4, ap1, ap2, ap3, ap4⟩ := app_tok (⟨tk, tx, tn, tp⟩ : Tok) HO3.out HB3.out.size (by omega)
        have HB4 : Hid (Below w.heap.size w w4) := Lib.hid (HB3.out.trans ap4.out.bel)
        have HO4 := ap3
        clear ap3 ap4
        go_wp2_with fail
        go_roundg f2
        case measure => omega
        case rel => exact ⟨e, f2, _, r', by go_num, hen, by omega, HO4, HA2, HB4⟩
    · have hltz : ¬ (k : Int) < (n : Int) := by omega
      have HE : Hid (acc = toks) := Lib.hid (by
        have h1 := lexGo_end HA.out.1 (by rw [HN.out]; exact hlt)
        have h2 := HA.out.2
        rw [h1, List.append_nil] at h2
        exact h2)
      go_wp2_with fail
      refine bodyPost_ret (results_tmp3 rfl _ _ _) rfl ?_
      exact ⟨_, rfl, by rw [← HE.out]; exact HO.out, HB.out⟩
end Go.Proofs.YtoekpdnpncgeeaaGreat
