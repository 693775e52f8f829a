/-
usableR14: few, valid, currents.
-/
import Derived.Test.YtpkonifeieepfaaGreatGLRefA
import Derived.Test.YtpkonifeieepfaaGreatGLSiteH
import Derived.Test.YtpkonifeieepfaaGreatGBuI
namespace Go.Proofs.YtpkonifeieepfaaGreat
open Go.RowKit
set_option linter.unusedVariables false
set_option linter.unusedSimpArgs false
noncomputable def useB (s : GSite) (xs : List Int) : Bool := fewS s && okSB keyL s && curB s xs
set_option maxRecDepth 100000 in
set_option maxHeartbeats 4000000 in
theorem tpUse_any (a1 a2 a3 a4 a5 : Option Addr) (n1 c1 n2 c2 n3 c3 n4 c4 n5 c5 : Nat) (aA : Option Addr) (nA cA : Nat) (s : GSite) (xs : List Int) (w : World) (HS : Hid (RdSite w a1 a2 a3 a4 a5 n1 n2 n3 n4 n5 s)) (HA : Hid (Rd 1 encI w aA xs)) (HNA : Hid (xs.length = nA)) (hnA : nA ≤ 9223372036854775807) :
    Calls Tryz.prog 6 #[.agg #[.slice a1 n1 c1, .slice a2 n2 c2, .slice a3 n3 c3, .slice a4 n4 c4, .slice a5 n5 c5], .slice aA nA cA] w fun e w' => e = .returned (.bool (useB s xs)) ∧ Below w.heap.size w w' := by
  obtain ⟨X, hX⟩ : ∃ X, X = w.heap.size := ⟨_, rfl⟩
  obtain ⟨W1, hW1⟩ : ∃ W, W = w.alloc (.cells #[.slice a1 n1 c1, .slice a2 n2 c2, .slice a3 n3 c3, .slice a4 n4 c4, .slice a5 n5 c5] 28) := ⟨_, rfl⟩
  have hb : Below w.heap.size w W1 := by rw [hW1]; exact (Below.refl _ _).alloc (Nat.le_refl _) _
  have HX : Hid (Own W1 X 28 5 (siF (.slice a1 n1 c1) (.slice a2 n2 c2) (.slice a3 n3 c3) (.slice a4 n4 c4) (.slice a5 n5 c5))) := Lib.hid (by rw [hW1]; exact Own.newAt _ 28 _ _ hX.symm (n := 5) rfl (fun i hi => by match i, hi with | 0, _ => rfl | 1, _ => rfl | 2, _ => rfl | 3, _ => rfl | 4, _ => rfl))
  have HS := Lib.hid (HS.out.keep hb)
  have HA := Lib.hid (HA.out.keep hb)
  have HB := Lib.hid hb
  have HW1 := Lib.hid hW1
  have HXw := Lib.hid hX
  clear hb hW1 hX
  go_enter Tryz.func6, Tryz.ntmps6
  go_upto_region 1 with (fail)
  rw [← HW1.out, ← HXw.out]
  clear HW1 HXw
  have k0 : W1.cell? ⟨X, 0, none⟩ = some (.slice a1 n1 c1) := HX.out.cell (i := 0) (by omega)
  have k1 : W1.cell? ⟨X, 1, none⟩ = some (.slice a2 n2 c2) := HX.out.cell (i := 1) (by omega)
  have k2 : W1.cell? ⟨X, 2, none⟩ = some (.slice a3 n3 c3) := HX.out.cell (i := 2) (by omega)
  have k3 : W1.cell? ⟨X, 3, none⟩ = some (.slice a4 n4 c4) := HX.out.cell (i := 3) (by omega)
  have k4 : W1.cell? ⟨X, 4, none⟩ = some (.slice a5 n5 c5) := HX.out.cell (i := 4) (by omega)
  have hXl : X < W1.heap.size := HX.out.lt
  go_wp2_with fail
  refine (r4Few_any a1 a2 a3 a4 a5 n1 c1 n2 c2 n3 c3 n4 c4 n5 c5 s W1 HS).mono ?_
  rintro e W2 ⟨rfl, hb⟩
  have HB := Lib.hid (below_then HB.out hb)
  have HS := Lib.hid (HS.out.keep hb)
  have HX := Lib.hid (HX.out.keep hb HX.out.lt)
  have HA := Lib.hid (HA.out.keep hb)
  clear hb
  clear k0 k1 k2 k3 k4 hXl
  cases hF : fewS s
  · have hUse : useB s xs = false := by unfold useB; rw [hF]; rfl
    go_wp2_with fail
    go_ret
    exact ⟨by rw [hUse]; rfl, HB.out⟩
  · have k0 : W2.cell? ⟨X, 0, none⟩ = some (.slice a1 n1 c1) := HX.out.cell (i := 0) (by omega)
    have k1 : W2.cell? ⟨X, 1, none⟩ = some (.slice a2 n2 c2) := HX.out.cell (i := 1) (by omega)
    have k2 : W2.cell? ⟨X, 2, none⟩ = some (.slice a3 n3 c3) := HX.out.cell (i := 2) (by omega)
    have k3 : W2.cell? ⟨X, 3, none⟩ = some (.slice a4 n4 c4) := HX.out.cell (i := 3) (by omega)
    have k4 : W2.cell? ⟨X, 4, none⟩ = some (.slice a5 n5 c5) := HX.out.cell (i := 4) (by omega)
    have hXl : X < W2.heap.size := HX.out.lt
    go_wp2_with fail
    refine (r4Valid_any a1 a2 a3 a4 a5 n1 c1 n2 c2 n3 c3 n4 c4 n5 c5 s W2 HS).mono ?_
    rintro e W3 ⟨rfl, hb⟩
    have HB := Lib.hid (below_then HB.out hb)
    have HS := Lib.hid (HS.out.keep hb)
    have HX := Lib.hid (HX.out.keep hb HX.out.lt)
    have HA := Lib.hid (HA.out.keep hb)
    clear hb
    clear k0 k1 k2 k3 k4 hXl
    cases hO : okSB keyL s
    · have hUse : useB s xs = false := by unfold useB; rw [hF, hO]; rfl
      go_wp2_with fail
      go_ret
      exact ⟨by rw [hUse]; rfl, HB.out⟩
    · have hUse : useB s xs = curB s xs := by unfold useB; rw [hF, hO]; rfl
      have k0 : W3.cell? ⟨X, 0, none⟩ = some (.slice a1 n1 c1) := HX.out.cell (i := 0) (by omega)
      have k1 : W3.cell? ⟨X, 1, none⟩ = some (.slice a2 n2 c2) := HX.out.cell (i := 1) (by omega)
      have k2 : W3.cell? ⟨X, 2, none⟩ = some (.slice a3 n3 c3) := HX.out.cell (i := 2) (by omega)
      have k3 : W3.cell? ⟨X, 3, none⟩ = some (.slice a4 n4 c4) := HX.out.cell (i := 3) (by omega)
      have k4 : W3.cell? ⟨X, 4, none⟩ = some (.slice a5 n5 c5) := HX.out.cell (i := 4) (by omega)
      have hXl : X < W3.heap.size := HX.out.lt
      go_wp2_with fail
      refine (r8Currents_any a1 a2 a3 a4 a5 n1 c1 n2 c2 n3 c3 n4 c4 n5 c5 aA nA cA s xs W3 HS HA HNA hnA).mono ?_
      rintro e W4 ⟨rfl, hb⟩
      have HB := Lib.hid (below_then HB.out hb)
      have HS := Lib.hid (HS.out.keep hb)
      have HX := Lib.hid (HX.out.keep hb HX.out.lt)
      have HA := Lib.hid (HA.out.keep hb)
      clear hb
      clear k0 k1 k2 k3 k4 hXl
      go_wp2_with fail
      go_ret
      exact ⟨by rw [hUse]; rfl, HB.out⟩
end Go.Proofs.YtpkonifeieepfaaGreat
