/-
phases.Neutral.
-/
import Derived.Test.YtbalhbpaholakaaCHarmMath
import Derived.Test.YtbalhbpaholakaaCLimC
namespace Go.Proofs.Ytbalhbpaholakaa
open Go.RowKit
set_option linter.unusedVariables false
set_option linter.unusedSimpArgs false
def sqL (xs : List Int) : Nat → Int
  | 0 => 0
  | k + 1 => sqL xs k + fI xs k * fI xs k
theorem sq_bd {x : Int} (h : -1000 ≤ x ∧ x ≤ 1000) : 0 ≤ x * x ∧ x * x ≤ 1000000 := by
  rcases Int.le_total 0 x with h1 | h1
  · exact ⟨Int.mul_nonneg h1 h1, Int.mul_le_mul h.2 h.2 h1 (by omega)⟩
  · have e : x * x = (-x) * (-x) := (Int.neg_mul_neg x x).symm
    rw [e]
    have h2 : (-x) * (-x) ≤ 1000 * 1000 := Int.mul_le_mul (by omega) (by omega) (by omega) (by omega)
    exact ⟨Int.mul_nonneg (by omega) (by omega), by omega⟩
theorem sqL_bd {xs : List Int} {n : Nat} (h : ∀ i, i < n → -1000 ≤ fI xs i ∧ fI xs i ≤ 1000) : ∀ k : Nat, k ≤ n → 0 ≤ sqL xs k ∧ sqL xs k ≤ k * 1000000
  | 0, _ => by simp [sqL]
  | k + 1, hk => by
    have h1 := sqL_bd h k (by omega)
    have h2 := sq_bd (h k (by omega))
    unfold sqL
    omega
set_option maxRecDepth 100000 in
set_option maxHeartbeats 4000000 in
theorem phValid_ok (A : Option Addr) (n c : Nat) (xs : List Int) (w : World) (HX : Hid (Rd 1 encI w A xs)) (HN : Hid (xs.length = n)) (hn : n ≤ 1000) (HIN : Hid (∀ i, i < n → 0 ≤ fI xs i ∧ fI xs i ≤ 1000)) :
    Calls Try.prog 56 #[.slice A n c] w fun e w' => e = .returned (.bool true) ∧ w' = w := by
  go_enter Try.func56, Try.ntmps56
  go_wp2_with fail
  go_loopg [7] n (fun g1 v7 wr => ∃ k : Nat, v7 = .int .i64 k ∧ k ≤ n ∧ n - k ≤ g1 ∧ w = wr)
  case atStart => exact ⟨0, by go_num, by omega, by omega, rfl⟩
  case round =>
    obtain ⟨k, rfl, hk, hg1, rfl⟩ := hrel
    by_cases hlt : k < n
    · have hltz : (k : Int) < (n : Int) := by omega
      obtain ⟨b, off, hA, hb, hc⟩ := HX.out.int (k := k) (by rw [HN.out]; exact hlt)
      have hc' : w.cell? ⟨b, off + k, none⟩ = some (.int .i64 (fI xs k)) := hc
      obtain ⟨h1, h2⟩ := HIN.out k hlt
      subst hA
      clear hc
      generalize fI xs k = y at *
      have h3 : ¬ y < 0 := by omega
      have h4 : ¬ 1000 < y := by omega
      clear h1 h2
      go_wp2_with fail
      go_roundg (n - (k + 1))
      case measure => omega
      case rel => exact ⟨k + 1, by go_num, by omega, by omega, rfl⟩
    · have hltz : ¬ (k : Int) < (n : Int) := by omega
      go_wp2_with fail
      go_ret
      exact ⟨rfl, rfl⟩
set_option maxRecDepth 100000 in
set_option maxHeartbeats 4000000 in
theorem phSquares_ok (A : Option Addr) (n c : Nat) (xs : List Int) (w : World) (HX : Hid (Rd 1 encI w A xs)) (HN : Hid (xs.length = n)) (hn : n ≤ 1000) (HIN : Hid (∀ i, i < n → -1000 ≤ fI xs i ∧ fI xs i ≤ 1000)) :
    Calls Try.prog 57 #[.slice A n c] w fun e w' => e = .returned (.int .i64 (sqL xs n)) ∧ w' = w := by
  go_enter Try.func57, Try.ntmps57
  go_wp2_with fail
  go_loopg [3, 8] n (fun g1 v3 v8 wr => ∃ k : Nat, v8 = .int .i64 k ∧ k ≤ n ∧ n - k ≤ g1 ∧ v3 = .int .i64 (sqL xs k) ∧ w = wr)
  case atStart => exact ⟨0, by go_num, by omega, by omega, rfl, rfl⟩
  case round =>
    obtain ⟨k, rfl, hk, hg1, rfl, rfl⟩ := hrel
    by_cases hlt : k < n
    · have hltz : (k : Int) < (n : Int) := by omega
      obtain ⟨b, off, hA, hb, hc⟩ := HX.out.int (k := k) (by rw [HN.out]; exact hlt)
      have hc' : w.cell? ⟨b, off + k, none⟩ = some (.int .i64 (fI xs k)) := hc
      have h1 := sq_bd (HIN.out k hlt)
      have h2 := sqL_bd HIN.out k (by omega)
      have HSU : Hid (sqL xs (k + 1) = sqL xs k + fI xs k * fI xs k) := Lib.hid rfl
      subst hA
      clear hc
      generalize sqL xs k = z at *
      generalize fI xs k = y at *
      have w1 : IntKind.i64.wrap (y * y) = y * y := IntWalk.i64_in _ (by omega)
      have w2 : IntKind.i64.wrap (z + y * y) = z + y * y := IntWalk.i64_in _ (by omega)
      clear h1 h2
      go_wp2_with fail
      go_roundg (n - (k + 1))
      case measure => omega
      case rel => exact ⟨k + 1, by go_num, by omega, by omega, by rw [HSU.out], rfl⟩
    · have hltz : ¬ (k : Int) < (n : Int) := by omega
      have hkn : k = n := by omega
      subst hkn
      go_wp2_with fail
      go_ret
      exact ⟨rfl, rfl⟩
def neuOk (t : Int) (n : Nat) : Bool := decide (t ≤ 2 * (n : Int) * (n : Int))
theorem neuOk_up {t : Int} {m n : Nat} (h : m ≤ n) (hm : neuOk t m = true) : neuOk t n = true := by
  unfold neuOk at *
  simp only [decide_eq_true_eq] at *
  have : 2 * (m : Int) * (m : Int) ≤ 2 * (n : Int) * (n : Int) := Int.mul_le_mul (by omega) (by omega) (by omega) (by omega)
  omega
set_option maxRecDepth 100000 in
theorem phNeutral1_any (b : Nat) (t : Int) (n : Nat) (hn : n ≤ 1000) (w : World) (hb : w.cell? ⟨b, 0, none⟩ = some (.int .i64 t)) :
    Calls Try.prog 59 #[.int .i64 (n : Nat), .pointer (some ⟨b, 0, none⟩)] w fun e w' => e = .returned (.bool (neuOk t n)) ∧ ∃ q, w' = w.drewN q := by
  have h1 : 0 ≤ 2 * (n : Int) ∧ 2 * (n : Int) ≤ 2000 := by omega
  have h2 : 2 * (n : Int) * (n : Int) ≤ 2000 * 1000 := Int.mul_le_mul h1.2 (by omega) (by omega) (by omega)
  have h3 : 0 ≤ 2 * (n : Int) * (n : Int) := Int.mul_nonneg h1.1 (by omega)
  have w1 : IntKind.i64.wrap (2 * (n : Int)) = 2 * (n : Int) := IntWalk.i64_in _ (by omega)
  have w2 : IntKind.i64.wrap (2 * (n : Int) * (n : Int)) = 2 * (n : Int) * (n : Int) := IntWalk.i64_in _ (by omega)
  go_enter Try.func59, Try.ntmps59
  go_wp2_with fail
  try (go_quiet (fail); go_wp2_with fail)
  go_ret
  exact ⟨rfl, 0, rfl⟩
set_option maxRecDepth 100000 in
set_option maxHeartbeats 4000000 in
theorem phLeast_ok (b : Nat) (t : Int) (w : World) (hb : w.cell? ⟨b, 0, none⟩ = some (.int .i64 t)) :
    Calls Try.prog 58 #[.int .i64 0, .int .i64 1000, .func (.func 59) #[] #[.pointer (some ⟨b, 0, none⟩)]] w fun e w' => (∃ n : Nat, e = .returned (.int .i64 (n : Nat)) ∧ n ≤ 1000 ∧ ∀ m, m ≤ 1000 → neuOk t m = true → n ≤ m) ∧ ∃ q, w' = w.drewN q := by
  have HB := Lib.hid hb
  clear hb
  go_enter Try.func58, Try.ntmps58
  go_wp2_with fail
  go_loopg [0, 1] 1001 (fun g1 v0 v1 wr => ∃ lo hi : Nat, v0 = .int .i64 (lo : Nat) ∧ v1 = .int .i64 (hi : Nat) ∧ lo ≤ hi ∧ hi ≤ 1000 ∧ hi - lo < g1 ∧ Hid (∀ m, m ≤ 1000 → neuOk t m = true → lo ≤ m) ∧ Hid (∃ q, wr = w.drewN q))
  case atStart => exact ⟨0, 1000, by go_num, by go_num, by omega, by omega, by omega, Lib.hid (fun m _ _ => by omega), Lib.hid ⟨0, rfl⟩⟩
  case round =>
    obtain ⟨lo, hi, rfl, rfl, hl, hh, hg1, HI, HQ⟩ := hrel
    obtain ⟨q, hq⟩ := HQ.out
    subst hq
    by_cases hlt : lo < hi
    · have hltz : (lo : Int) < (hi : Int) := by omega
      obtain ⟨mid, hm, h1, h2⟩ : ∃ mid : Nat, (lo : Int) + ((hi : Int) - lo) / 2 = (mid : Int) ∧ lo ≤ mid ∧ mid < hi := ⟨lo + (hi - lo) / 2, by omega, by omega, by omega⟩
      have HC := Lib.hid (phNeutral1_any b t mid (by omega) (w.drewN q) HB.out)
      have HMD := Lib.hid hm
      clear hm
      go_wp2_with fail
      rw [HMD.out]
      refine HC.out.mono ?_
      rintro e w1 ⟨rfl, q2, hw⟩
      subst w1
      cases hok : neuOk t mid
      · have HI2 : Hid (∀ m, m ≤ 1000 → neuOk t m = true → mid + 1 ≤ m) := Lib.hid (fun m h3 h4 => by
          rcases Nat.lt_or_ge mid m with h | h
          · exact h
          · have := neuOk_up h h4
            rw [hok] at this
            cases this)
        clear hok
        go_wp2_with fail
        go_roundg (hi - (mid + 1) + 1)
        case measure => omega
        case rel => exact ⟨mid + 1, hi, val_int (by omega), rfl, by omega, by omega, by omega, HI2, Lib.hid ⟨_, rfl⟩⟩
      · clear hok
        go_wp2_with fail
        go_roundg (mid - lo + 1)
        case measure => omega
        case rel => exact ⟨lo, mid, rfl, rfl, by omega, by omega, by omega, HI, Lib.hid ⟨_, rfl⟩⟩
    · have hltz : ¬ (lo : Int) < (hi : Int) := by omega
      have HI2 := HI
      go_wp2_with fail
      go_ret
      exact ⟨⟨lo, rfl, by omega, HI2.out⟩, _, rfl⟩
/-- What Neutral does for three currents. -/
def NePost (w : World) (x y z : Int) (e : Ending) (w' : World) : Prop := ∃ n : Nat, e = .returned (.tuple #[.int .i64 (n : Nat), .int .i64 0]) ∧ (n ≤ 1000 ∧ ∀ m : Nat, m ≤ 1000 → x ≤ m → y ≤ m → z ≤ m → n ≤ m) ∧ Below w.heap.size w w'
set_option maxRecDepth 100000 in
set_option maxHeartbeats 4000000 in
theorem phNeutral_ok (x y z : Int) (hx : 0 ≤ x ∧ x ≤ 1000) (hy : 0 ≤ y ∧ y ≤ 1000) (hz : 0 ≤ z ∧ z ≤ 1000) (w : World) : Calls Try.prog 26 #[.int .i64 x, .int .i64 y, .int .i64 z] w fun e w' => NePost w x y z e w' := by
  obtain ⟨W1, hW1⟩ : ∃ W1, W1 = w.alloc (.cells #[.int .i64 x, .int .i64 y, .int .i64 z] 3) := ⟨_, rfl⟩
  have HV := Lib.hid (phValid_ok (some ⟨w.heap.size, 0, none⟩) 3 3 [x, y, z] W1 (Lib.hid (by rw [hW1]; exact rd_litI w _ [x, y, z] rfl)) (Lib.hid rfl) (by omega) (Lib.hid (fun i hi => by match i, hi with | 0, _ => exact hx | 1, _ => exact hy | 2, _ => exact hz)))
  obtain ⟨W2, hW2⟩ : ∃ W2, W2 = W1.alloc (.cells #[.int .i64 (x - y), .int .i64 (y - z), .int .i64 (z - x)] 3) := ⟨_, rfl⟩
  have HSQ := Lib.hid (phSquares_ok (some ⟨W1.heap.size, 0, none⟩) 3 3 [x - y, y - z, z - x] W2 (Lib.hid (by rw [hW2]; exact rd_litI W1 _ [x - y, y - z, z - x] rfl)) (Lib.hid rfl) (by omega) (Lib.hid (fun i hi => by
    match i, hi with
    | 0, _ => show -1000 ≤ x - y ∧ x - y ≤ 1000; omega
    | 1, _ => show -1000 ≤ y - z ∧ y - z ≤ 1000; omega
    | 2, _ => show -1000 ≤ z - x ∧ z - x ≤ 1000; omega)))
  have HT : Hid (sqL [x - y, y - z, z - x] 3 = twoN x y z) := Lib.hid (by
    show 0 + (x - y) * (x - y) + (y - z) * (y - z) + (z - x) * (z - x) = _
    unfold twoN
    omega)
  have HXB := Lib.hid (And.intro hx (And.intro hy hz))
  have w1 : IntKind.i64.wrap (x - y) = x - y := IntWalk.i64_in _ (by omega)
  have w2 : IntKind.i64.wrap (y - z) = y - z := IntWalk.i64_in _ (by omega)
  have w3 : IntKind.i64.wrap (z - x) = z - x := IntWalk.i64_in _ (by omega)
  have HB2 : Hid (Below w.heap.size w W2) := Lib.hid (by rw [hW2, hW1]; exact ((Below.refl _ w).alloc (Nat.le_refl _) _).alloc (by simp) _)
  have HW1 := Lib.hid hW1
  have HW2 := Lib.hid hW2
  clear hW1 hW2 hx hy hz
  go_enter Try.func26, Try.ntmps26
  go_wp2_with fail
  rw [← HW1.out]
  refine HV.out.mono ?_
  rintro e w' ⟨rfl, hw⟩
  subst w'
  go_wp2_with fail
  rw [← HW2.out]
  refine HSQ.out.mono ?_
  rintro e w' ⟨rfl, hw⟩
  subst w'
  rw [HT.out]
  have HTL : Hid (∀ m : Nat, m ≤ 1000 → x ≤ m → y ≤ m → z ≤ m → neuOk (twoN x y z) m = true) := Lib.hid (fun m hm h1 h2 h3 => by
    unfold neuOk
    rw [decide_eq_true_eq]
    obtain ⟨a1, a2, a3⟩ := HXB.out
    have h := twoN_le (a := x) (b := y) (c := z) (m := m) ⟨a1.1, h1⟩ ⟨a2.1, h2⟩ ⟨a3.1, h3⟩
    rw [Int.mul_assoc]
    exact h)
  generalize twoN x y z = t at *
  clear HSQ HV HT
  obtain ⟨W3, hW3⟩ : ∃ W3, W3 = W2.alloc (.cells #[.int .i64 t] 3) := ⟨_, rfl⟩
  have HL := Lib.hid (phLeast_ok W2.heap.size t W3 (by rw [hW3]; go_simp))
  have HB3 : Hid (Below w.heap.size w W3) := Lib.hid (by rw [hW3]; exact HB2.out.alloc HB2.out.size _)
  have HW3 := Lib.hid hW3
  clear hW3
  go_wp2_with fail
  rw [← HW3.out]
  refine HL.out.mono ?_
  rintro e w' ⟨⟨n, rfl, hn, hm⟩, q, hw⟩
  subst w'
  have HN := Lib.hid (And.intro hn hm)
  clear hn hm
  go_wp2_with fail
  refine bodyPost_ret (results_tmp2 rfl _ _ _) rfl ?_
  exact ⟨n, rfl, ⟨HN.out.1, fun m h0 h1 h2 h3 => HN.out.2 m h0 (HTL.out m h0 h1 h2 h3)⟩, below_drewG _ HB3.out⟩
end Go.Proofs.Ytbalhbpaholakaa
