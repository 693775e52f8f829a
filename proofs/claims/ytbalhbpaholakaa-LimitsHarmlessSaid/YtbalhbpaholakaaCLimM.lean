/-
Law 09: valid.
-/
import Derived.Test.YtbalhbpaholakaaCLimL
namespace Go.Proofs.Ytbalhbpaholakaa
open Go.RowKit
set_option linter.unusedVariables false
set_option linter.unusedSimpArgs false
noncomputable def lhB (s : GSite) (xs : List Int) : Bool := fewS s && (okSB keyL s && curB s xs)
theorem lhB_load {s : GSite} {xs : List Int} (h : lhB s xs = true) : loadB s xs = true := by
  unfold lhB at h
  rw [Bool.and_eq_true] at h
  exact h.2
set_option maxRecDepth 100000 in
set_option maxHeartbeats 4000000 in
theorem lhValid_any (a1 a2 a3 a4 a5 : Option Addr) (n1 c1 n2 c2 n3 c3 n4 c4 n5 c5 : Nat) (aA : Option Addr) (nA cA : Nat) (s : GSite) (xs : List Int) (w : World) (HS : Hid (RdSite w a1 a2 a3 a4 a5 n1 n2 n3 n4 n5 s)) (HX : Hid (Rd 1 encI w aA xs)) (HNA : Hid (xs.length = nA)) (hnA : nA ≤ 9223372036854775807) :
    Calls Try.prog 22 #[.agg #[.slice a1 n1 c1, .slice a2 n2 c2, .slice a3 n3 c3, .slice a4 n4 c4, .slice a5 n5 c5], .slice aA nA cA] w fun e w' => e = .returned (.bool (lhB s xs)) ∧ Below w.heap.size w w' := by
  have HM0 := Lib.hid (LwM.box (c1 := c1) (c2 := c2) (c3 := c3) (c4 := c4) (c5 := c5) HS.out)
  go_enter Try.func22, Try.ntmps22
  go_wp2_with fail
  refine (r4Few_any a1 a2 a3 a4 a5 n1 c1 n2 c2 n3 c3 n4 c4 n5 c5 s _ (Lib.hid HM0.out.rs)).mono ?_
  rintro e w1 ⟨rfl, hb⟩
  have HM := Lib.hid (HM0.out.keep hb)
  generalize hXX : w.heap.size = X at HM ⊢
  have hlX : X < w1.heap.size := World.block_lt_of_cell? w1 _ HM.out.k0
  have HE : Hid (lhB s xs = (fewS s && (okSB keyL s && curB s xs))) := Lib.hid rfl
  have HSZ := Lib.hid hXX
  clear hb HM0 hXX
  obtain ⟨k0, k1, k2, k3, k4⟩ : w1.cell? ⟨X, 0, none⟩ = some (.slice a1 n1 c1) ∧ w1.cell? ⟨X, 1, none⟩ = some (.slice a2 n2 c2) ∧ w1.cell? ⟨X, 2, none⟩ = some (.slice a3 n3 c3) ∧ w1.cell? ⟨X, 3, none⟩ = some (.slice a4 n4 c4) ∧ w1.cell? ⟨X, 4, none⟩ = some (.slice a5 n5 c5) := ⟨HM.out.k0, HM.out.k1, HM.out.k2, HM.out.k3, HM.out.k4⟩
  cases hf : fewS s
  · have HE2 : Hid (lhB s xs = false) := Lib.hid (by rw [HE.out, hf]; rfl)
    go_wp2_with fail
    go_ret
    exact ⟨by rw [HE2.out]; rfl, HM.out.bel⟩
  go_wp2_with fail
  refine (r4Valid_any a1 a2 a3 a4 a5 n1 c1 n2 c2 n3 c3 n4 c4 n5 c5 s w1 (Lib.hid HM.out.rs)).mono ?_
  rintro e w2 ⟨rfl, hb⟩
  have HM := Lib.hid (HM.out.keep hb)
  have hlX : X < w2.heap.size := World.block_lt_of_cell? w2 _ HM.out.k0
  clear hb k0 k1 k2 k3 k4
  obtain ⟨k0, k1, k2, k3, k4⟩ : w2.cell? ⟨X, 0, none⟩ = some (.slice a1 n1 c1) ∧ w2.cell? ⟨X, 1, none⟩ = some (.slice a2 n2 c2) ∧ w2.cell? ⟨X, 2, none⟩ = some (.slice a3 n3 c3) ∧ w2.cell? ⟨X, 3, none⟩ = some (.slice a4 n4 c4) ∧ w2.cell? ⟨X, 4, none⟩ = some (.slice a5 n5 c5) := ⟨HM.out.k0, HM.out.k1, HM.out.k2, HM.out.k3, HM.out.k4⟩
  cases hv : okSB keyL s
  · have HE2 : Hid (lhB s xs = false) := Lib.hid (by rw [HE.out, hf, hv]; rfl)
    go_wp2_with fail
    go_ret
    exact ⟨by rw [HE2.out]; rfl, HM.out.bel⟩
  have HE2 : Hid (lhB s xs = curB s xs) := Lib.hid (by rw [HE.out, hf, hv]; rfl)
  go_wp2_with fail
  refine (r8Currents_any a1 a2 a3 a4 a5 n1 c1 n2 c2 n3 c3 n4 c4 n5 c5 aA nA cA s xs w2 (Lib.hid HM.out.rs) (Lib.hid (HX.out.keep HM.out.bel)) HNA hnA).mono ?_
  rintro e w3 ⟨rfl, hb⟩
  have HM := Lib.hid (HM.out.keep hb)
  rw [← HE2.out]
  go_wp2_with fail
  go_ret
  exact ⟨rfl, HM.out.bel⟩
end Go.Proofs.Ytbalhbpaholakaa
