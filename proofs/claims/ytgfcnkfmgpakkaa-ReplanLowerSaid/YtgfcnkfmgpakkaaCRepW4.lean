/-
The reference's Order once more: a list of its own, within its capacity.
-/
import Derived.Test.YtgfcnkfmgpakkaaCRepW0
namespace Go.Proofs.Ytgfcnkfmgpakkaa
open Go.RowKit
set_option linter.unusedVariables false
set_option linter.unusedSimpArgs false
def OrdOwn (w : World) (js : List GJob) (N : Nat) (e : Ending) (w' : World) : Prop := ∃ a d ord, e = .returned (.slice a N d) ∧ OwnN w' w.heap.size (.slice a N d) ord ∧ Rd 1 encI w' a ord ∧ IsOrd js ord ∧ Below w.heap.size w w'
theorem OwnR.len_le {α : Type} {t : TypeId} {sz : Nat} {enc : α → List Value} {w : World} {base n c : Nat} {a : Option Addr} {xs : List α} (h : OwnR t sz enc w base (.slice a n c) xs) (hn : xs.length = n) : n ≤ c := by
  rcases h.2 with ⟨h1, h2⟩ | ⟨g, cap, cur, hv, hb, hg, hl, hm, hs, hc⟩
  · omega
  · injection hv with _ _ h3
    omega
set_option maxRecDepth 100000 in
set_option maxHeartbeats 4000000 in
theorem rrOrder_own (A : Option Addr) (c N : Nat) (js : List GJob) (sup : List Int) (w : World) (hR : Rd 5 encJ w A js) (HN : Hid (js.length = N)) (hok : okP js sup = true) :
    Calls Try.prog 43 #[.slice A N c] w (OrdOwn w js N) := by
  have hN : N ≤ 12 := by have := (okP_iff.1 hok).1.1; rw [HN.out] at this; exact this
  have HO9 := Lib.hid (ordUp_ord hok)
  have HR := Lib.hid hR
  have HO0 : Hid (OwnN w w.heap.size (.slice none 0 0) (ordUp js 0)) := Lib.hid (OwnR.nil _ _)
  clear hR hok
  go_enter Try.func43, Try.ntmps43
  go_wp2
  go_loopg [3, 4, 5] 10 (fun g1 v3 v4 v5 wr => ∃ r : Nat, v4 = .int .i64 ((r : Int) + 1) ∧ r ≤ 9 ∧ 9 - r < g1 ∧ Hid (OwnN wr w.heap.size v3 (ordUp js r)) ∧ Hid (Below w.heap.size w wr))
  case atStart => exact ⟨0, by go_num, by omega, by omega, HO0, Lib.hid (Below.refl _ _)⟩
  case round =>
    clear HO0
    obtain ⟨r, rfl, hr, hg1, HX, HB⟩ := hrel
    by_cases hlt : r < 9
    · have hltz : (r : Int) + 1 ≤ 9 := by omega
      have hul := ordUp_len js r
      rw [HN.out] at hul
      have hul2 : (ordUp js r).length ≤ 200 := Nat.le_trans hul (Nat.le_trans (Nat.mul_le_mul hr hN) (by omega))
      have HXS : Hid (OwnN wr w.heap.size u3 (ordUp js r ++ rankL js ((r : Int) + 1) 0)) := Lib.hid (by simpa [rankL] using HX.out)
      clear hul HX
      go_wp2
      go_loopg [3, 5] N (fun g2 v3 v5 wx => ∃ k : Nat, v5 = .int .i64 k ∧ k ≤ N ∧ N - k ≤ g2 ∧ Hid (OwnN wx w.heap.size v3 (ordUp js r ++ rankL js ((r : Int) + 1) k)) ∧ Hid (Below w.heap.size w wx))
      case atStart => exact ⟨0, by go_num, by omega, by omega, HXS, HB⟩
      case round =>
        clear HXS HB
        obtain ⟨k, rfl, hk, hg2, HX, HB⟩ := hrel
        by_cases hkt : k < N
        · have hktz : (k : Int) < (N : Int) := by omega
          obtain ⟨bj, oj, j, hbe, hbj, hj, k0, k1, k2, k3, k4⟩ := rdJ_at (HR.out.keep HB.out) (k := k) (by rw [HN.out]; exact hkt)
          have hjk : jAt js k = j := by simp [jAt, hj]
          have hsn := rankL_succ js ((r : Int) + 1) k
          rw [hjk] at hsn
          have hl2 := rankL_len js ((r : Int) + 1) k
          subst hbe
          clear hj hjk
          by_cases hrk : j.rank = (r : Int) + 1
          · have hrz : (j.rank == (r : Int) + 1) = true := by simp [hrk]
            rw [if_pos hrk] at hsn
            have HSN := Lib.hid hsn
            obtain ⟨ap, v', w2, av, aw, HO1, HA1⟩ := app_num (k : Int) HX.out HB.out.size (by rw [List.length_append]; omega)
            have HB2 : Hid (Below w.heap.size w w2) := Lib.hid (HB.out.trans HA1.out.bel)
            have HO2 : Hid (OwnN w2 w.heap.size v' (ordUp js r ++ rankL js ((r : Int) + 1) (k + 1))) := Lib.hid (by rw [HSN.out, ← List.append_assoc]; exact HO1.out)
            clear HO1 HA1 HX HB HSN hsn hrk
            go_wp2
            go_roundg (N - (k + 1))
            case measure => omega
            case rel => exact ⟨k + 1, by go_num, by omega, by omega, HO2, HB2⟩
          · have hrz : (j.rank == (r : Int) + 1) = false := by simp [hrk]
            rw [if_neg hrk, List.append_nil] at hsn
            have HO2 : Hid (OwnN wr w.heap.size u3 (ordUp js r ++ rankL js ((r : Int) + 1) (k + 1))) := Lib.hid (by rw [hsn]; exact HX.out)
            clear HX hsn hrk
            go_wp2
            go_roundg (N - (k + 1))
            case measure => omega
            case rel => exact ⟨k + 1, by go_num, by omega, by omega, HO2, HB⟩
        · have hktz : ¬ (k : Int) < (N : Int) := by omega
          have HO2 : Hid (OwnN wr w.heap.size u3 (ordUp js (r + 1))) := Lib.hid (by
            have := HX.out
            rw [show k = js.length by rw [HN.out]; omega] at this
            exact this)
          clear HX
          go_wp2
          go_roundg (9 - r)
          case measure => omega
          case rel => exact ⟨r + 1, by go_num, by omega, by omega, HO2, HB⟩
    · have hltz : ¬ (r : Int) + 1 ≤ 9 := by omega
      have hr9 : r = 9 := by omega
      subst hr9
      have HP : Hid (OrdOwn w js N (.returned u3) wr) := Lib.hid (by
        have hx := HX.out
        obtain ⟨a1, d1, e1, r1⟩ := hx.rd encI_len1
        rw [HO9.out.len, HN.out] at e1
        subst e1
        exact ⟨a1, d1, _, rfl, hx, r1, HO9.out, HB.out⟩)
      clear HX HB
      go_wp2
      go_ret
      exact HP.out
end Go.Proofs.Ytgfcnkfmgpakkaa
