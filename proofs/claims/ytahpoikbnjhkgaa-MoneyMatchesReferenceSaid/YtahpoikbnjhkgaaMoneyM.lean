/-
The walk of the law MoneyMatchesReference.
-/
import Derived.Test.YtahpoikbnjhkgaaMoneyL
namespace Go.Proofs.Ytahpoikbnjhkgaa
open Go.RowKit
set_option linter.unusedVariables false

set_option maxRecDepth 100000 in
set_option maxHeartbeats 8000000 in
theorem walk_MoneyMatchesReference (a : Int) (ha : (Lit.int .i64 a).wf = true) (b : Int) (hb0 : (Lit.int .i64 b).wf = true) (c : Int) (hc : (Lit.int .i64 c).wf = true)
    (a0 : Option Addr) (cap : Nat) (ws : List Int) (w : World) (hr : Rd 1 encI w a0 ws) (hwz : ∀ x ∈ ws, (Lit.int .i64 x).wf = true) :
    Calls Try.prog 3 #[.int .i64 a, .int .i64 b, .int .i64 c, .slice a0 ws.length cap] w (TruePost w) := by
  have HR := Lib.hid hr
  clear hr hwz ha hb0 hc
  obtain ⟨n, hn⟩ : ∃ n, n = ws.length := ⟨_, rfl⟩
  rw [← hn]
  have HN := Lib.hid hn
  clear hn
  by_cases hbig : 100 < n
  · as_aux_lemma =>
    go_enter Try.func3, Try.ntmps3
    go_wp2_with fail
    refine (lmHead_any _).mono ?_
    rintro e w1 ⟨rfl, hb⟩
    have B1 := Lib.hid hb
    clear hb
    go_wp2
    go_ret
    exact ⟨rfl, B1.out⟩
  go_enter Try.func3, Try.ntmps3
  go_wp2_with fail
  refine (lmHead_any _).mono ?_
  rintro e w1 ⟨rfl, hb⟩
  have B1 := Lib.hid (hb)
  have R1 := Lib.hid (HR.out.keep hb)
  clear hb
  go_wp2_with fail
  refine (mTimes_any _ _ _ _).mono ?_
  rintro e w2 ⟨rfl, hb⟩
  have B2 := Lib.hid (below_then B1.out hb)
  have R2 := Lib.hid (R1.out.keep hb)
  clear hb B1 R1
  go_wp2_with fail
  refine (rmTimes_any _ _ _ _).mono ?_
  rintro e w' ⟨rfl, rfl⟩
  go_wp2_with fail
  refine (mStarted_any _ _ _ _).mono ?_
  rintro e w3 ⟨rfl, hb⟩
  have B3 := Lib.hid (below_then B2.out hb)
  have R3 := Lib.hid (R2.out.keep hb)
  clear hb B2 R2
  go_wp2_with fail
  refine (rmStarted_any _ _ _ _).mono ?_
  rintro e w' ⟨rfl, rfl⟩
  go_wp2_with fail
  refine (mTax_any _ _ _).mono ?_
  rintro e w4 ⟨rfl, hb⟩
  have B4 := Lib.hid (below_then B3.out hb)
  have R4 := Lib.hid (R3.out.keep hb)
  clear hb B3 R3
  go_wp2_with fail
  refine (rmTax_any _ _ _).mono ?_
  rintro e w' ⟨rfl, rfl⟩
  go_wp2_with fail
  rw [HN.out]
  refine (mSplit_any a ws _ _ _ R4.out).mono ?_
  rintro e w5 ⟨la, lc, rfl, hr, hb⟩
  have B5 := Lib.hid (below_then B4.out hb)
  have R5 := Lib.hid (R4.out.keep hb)
  have L5 := Lib.hid hr
  clear hb hr B4 R4
  rw [← HN.out]
  go_wp2_with fail
  rw [HN.out]
  refine (rmSplit_any a ws _ _ _ R5.out (by rw [← HN.out]; omega)).mono ?_
  rintro e w6 ⟨ma, mc, rfl, hr, hb⟩
  have B6 := Lib.hid (below_then B5.out hb)
  have L6 := Lib.hid (L5.out.keep hb)
  have M6 := Lib.hid hr
  have hll : (splitL a ws).length ≤ 1000000000 := by rw [splitL_length, ← HN.out]; split <;> omega
  clear hb hr B5 L5 R5
  rw [← HN.out]
  generalize splitL a ws = sl at *
  generalize splitE a ws = se at *
  generalize timesV a b c = x1 at *
  generalize timesE a b c = x2 at *
  generalize startV a b c = x3 at *
  generalize startE a b c = x4 at *
  generalize taxV a b = x5 at *
  generalize taxE a b = x6 at *
  have e0 : (se == se) = true := by simp
  have e1 : (x1 == x1) = true := by simp
  have e2 : (x2 == x2) = true := by simp
  have e3 : (x3 == x3) = true := by simp
  have e4 : (x4 == x4) = true := by simp
  have e5 : (x5 == x5) = true := by simp
  have e6 : (x6 == x6) = true := by simp
  go_wp2_with fail
  refine (rmInts_any sl sl la ma lc mc _ L6.out M6.out hll hll).mono ?_
  rintro e w7 ⟨rfl, k1, rfl⟩
  rw [show eqB sl sl = true from by unfold eqB; simp]
  go_wp2
  go_ret
  exact ⟨rfl, below_drewN B6.out k1⟩
end Go.Proofs.Ytahpoikbnjhkgaa
