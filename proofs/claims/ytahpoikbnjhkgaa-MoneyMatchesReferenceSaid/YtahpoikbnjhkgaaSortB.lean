/-
slices.swapRangeCmpFunc and slices.rotateCmpFunc at []int: two ranges exchanged; two neighbouring parts exchanged.
-/
import Derived.Test.YtahpoikbnjhkgaaSortA
namespace Go.Proofs.Ytahpoikbnjhkgaa
open Go.RowKit

def FunPost (f' : Nat → Int) (w0 : World) (g n : Nat) (e : Ending) (w' : World) : Prop := e = .returned (.tuple #[]) ∧ SortW w0 g n f' w'
set_option maxHeartbeats 2000000 in
theorem sSwap_any (pc g n cap a b m : Nat) (A B M : Int) (f : Nat → Int) (w0 w : World) (eA : A = a) (eB : B = b) (eM : M = m) (S0 : SortW w0 g n f w) (hab : a + m ≤ b) (hb : b + m ≤ n) (hn : n ≤ 1000000) :
    Calls Try.prog 42 #[.slice (some ⟨g, 0, none⟩) n cap, .int .i64 A, .int .i64 B, .int .i64 M, .func (.func 35) #[] #[.pointer (some ⟨pc, 0, none⟩)]] w (FunPost (swp f a b m) w0 g n) := by
  subst eA eB eM
  have S := Lib.hid S0
  clear S0
  go_enter Try.func42, Try.ntmps42
  go_wp2
  go_loopg [10] m (fun g1 vi wr => ∃ i : Nat, vi = .int .i64 i ∧ i ≤ m ∧ m - i ≤ g1 ∧ Hid (SortW w0 g n (swp f a b i) wr))
  case atStart => exact ⟨0, by go_num, by omega, by omega, by rw [swp_zero]; exact S⟩
  case round =>
    clear S
    obtain ⟨i, rfl, hi, hg1, S1⟩ := hrel
    by_cases hlt : i < m
    · have hltz : (i : Int) < (m : Int) := by omega
      have pa : (0 : Int) ≤ (a : Int) + (i : Int) := by omega
      have ba : (a : Int) + (i : Int) < (n : Int) := by omega
      have ta : ((a : Int) + (i : Int)).toNat = a + i := by omega
      have pb : (0 : Int) ≤ (b : Int) + (i : Int) := by omega
      have bb : (b : Int) + (i : Int) < (n : Int) := by omega
      have tb : ((b : Int) + (i : Int)).toNat = b + i := by omega
      have ra : IntKind.i64.wrap ((a : Int) + (i : Int)) = (a : Int) + (i : Int) := by rw [IntKind.wrap_i64]; omega
      have rb : IntKind.i64.wrap ((b : Int) + (i : Int)) = (b : Int) + (i : Int) := by rw [IntKind.wrap_i64]; omega
      have H3 := Lib.hid (S1.out.exch (a + i) (b + i) _ _ rfl rfl (by omega))
      rw [swp_succ f (by omega)] at H3
      have la := S1.out.own.cell (i := a + i) (by omega)
      have lb := S1.out.own.cell (i := b + i) (by omega)
      have fa := S1.out.own.frozen (a + i)
      have fb := S1.out.own.frozen (b + i)
      have lc := (S1.out.own.set (a + i) (.int .i64 (swp f a b i (b + i)))).cell (i := b + i) (by omega)
      rw [if_neg (by omega)] at lc
      clear S1
      generalize swp f a b i (b + i) = x at *
      generalize swp f a b i (a + i) = y at *
      go_wp2_with fail
      go_big_region
      clear la lb lc fa fb ta tb
      generalize ((wr.setCell ⟨g, a + i, none⟩ (.int .i64 x)).setCell ⟨g, b + i, none⟩ (.int .i64 y)).drew = w3 at H3 ⊢
      go_wp2
      go_roundg (m - (i + 1))
      case measure => omega
      case rel => exact ⟨i + 1, by go_num, by omega, by omega, H3⟩
    · go_wp2
      go_end0
      obtain rfl : i = m := by omega
      exact ⟨rfl, S1.out⟩
set_option maxHeartbeats 2000000 in
theorem sRotate_any (pc g n cap a m b : Nat) (A M B : Int) (f : Nat → Int) (w0 w : World) (eA : A = a) (eM : M = m) (eB : B = b) (S0 : SortW w0 g n f w) (ham : a < m) (hmb : m < b) (hb : b ≤ n) (hn : n ≤ 1000000) :
    Calls Try.prog 41 #[.slice (some ⟨g, 0, none⟩) n cap, .int .i64 A, .int .i64 M, .int .i64 B, .func (.func 35) #[] #[.pointer (some ⟨pc, 0, none⟩)]] w (FunPost (rot f a m b) w0 g n) := by
  subst eA eM eB
  have S := Lib.hid S0
  clear S0
  go_enter Try.func41, Try.ntmps41
  go_wp2
  go_loopg [10, 11] (b - a) (fun g1 vi vj wr => ∃ (i j : Nat) (h : Nat → Int), vi = .int .i64 i ∧ vj = .int .i64 j ∧ 0 < i ∧ 0 < j ∧ i ≤ m - a ∧ j ≤ b - m ∧ i + j ≤ g1 ∧ Hid (rot h (m - i) m (m + j) = rot f a m b) ∧ Hid (SortW w0 g n h wr))
  case atStart => exact ⟨m - a, b - m, f, by congr 1; omega, by congr 1; omega, by omega, by omega, by omega, by omega, by omega, Lib.hid (by rw [show m - (m - a) = a from by omega, show m + (b - m) = b from by omega]), S⟩
  case round =>
    clear S
    obtain ⟨i, j, h, rfl, rfl, hi0, hj0, hi, hj, hg1, HR, S1⟩ := hrel
    by_cases hne : i = j
    · subst hne
      have hd : ((i : Int) != (i : Int)) = false := by simp
      go_wp2_with fail
      refine (sSwap_any pc g n cap (m - i) m i _ _ _ h w0 _ (by omega) rfl rfl S1.out (by omega) (by omega) hn).mono ?_
      rintro e w1 ⟨rfl, S2⟩
      have H2 := Lib.hid S2
      clear S2 S1
      rw [swp_rot h (by omega), HR.out] at H2
      go_wp2
      go_end0
      exact ⟨rfl, H2.out⟩
    · have hd : ((i : Int) != (j : Int)) = true := by rw [bne_iff_ne]; omega
      by_cases hlt : j < i
      · have hltz : (j : Int) < (i : Int) := by omega
        go_wp2_with fail
        refine (sSwap_any pc g n cap (m - i) m j _ _ _ h w0 _ (by omega) rfl rfl S1.out (by omega) (by omega) hn).mono ?_
        rintro e w1 ⟨rfl, S2⟩
        have H2 := Lib.hid S2
        clear S2 S1
        go_wp2
        go_roundg (i - j + j)
        case measure => omega
        case rel => exact ⟨i - j, j, swp h (m - i) m j, by congr 1; omega, rfl, by omega, by omega, by omega, by omega, by omega, Lib.hid (by rw [rot_more h (by omega) hlt]; exact HR.out), H2⟩
      · have hltz : ¬ (j : Int) < (i : Int) := by omega
        go_wp2_with fail
        refine (sSwap_any pc g n cap (m - i) (m + j - i) i _ _ _ h w0 _ (by omega) (by omega) rfl S1.out (by omega) (by omega) hn).mono ?_
        rintro e w1 ⟨rfl, S2⟩
        have H2 := Lib.hid S2
        clear S2 S1
        go_wp2
        go_roundg (i + (j - i))
        case measure => omega
        case rel => exact ⟨i, j - i, swp h (m - i) (m + j - i) i, rfl, by congr 1; omega, by omega, by omega, by omega, by omega, by omega, Lib.hid (by rw [rot_less h (by omega) (by omega)]; exact HR.out), H2⟩
end Go.Proofs.Ytahpoikbnjhkgaa
