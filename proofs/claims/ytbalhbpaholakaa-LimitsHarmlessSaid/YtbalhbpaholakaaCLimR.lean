/-
Law 09: sum.
-/
import Derived.Test.YtbalhbpaholakaaCLimN
namespace Go.Proofs.Ytbalhbpaholakaa
open Go.RowKit
set_option linter.unusedVariables false
set_option linter.unusedSimpArgs false
def sumK (xs ms : List Int) : Nat → Int
  | 0 => 0
  | k + 1 => sumK xs ms k + fI xs (fI ms k).toNat
theorem sumK_bd {xs ms : List Int} (h : ∀ i, 0 ≤ fI xs i ∧ fI xs i ≤ 80) : ∀ k : Nat, 0 ≤ sumK xs ms k ∧ sumK xs ms k ≤ k * 80
  | 0 => by simp [sumK]
  | k + 1 => by
    have h1 := sumK_bd (ms := ms) h k
    have h2 := h (fI ms k).toNat
    unfold sumK
    omega
set_option maxRecDepth 100000 in
set_option maxHeartbeats 4000000 in
theorem lhSum_any (cap : Int) (ma : Option Addr) (mn mc : Nat) (aA : Option Addr) (nA cA : Nat) (ms xs : List Int) (w : World) (HMS : Hid (Rd 1 encI w ma ms)) (HMN : Hid (ms.length = mn)) (hmn : mn ≤ 1000) (HX : Hid (Rd 1 encI w aA xs)) (HNA : Hid (xs.length = nA)) (hnA : nA ≤ 1000) (HIN : Hid (∀ i, i < mn → 0 ≤ fI ms i ∧ fI ms i < nA)) (HBD : Hid (∀ i, 0 ≤ fI xs i ∧ fI xs i ≤ 80)) :
    Calls Try.prog 23 #[.agg #[.int .i64 cap, .slice ma mn mc], .slice aA nA cA] w fun e w' => e = .returned (.int .i64 (sumK xs ms mn)) ∧ Below w.heap.size w w' := by
  obtain ⟨W, hW⟩ : ∃ W, W = w.alloc (.cells #[.int .i64 cap, .slice ma mn mc] 47) := ⟨_, rfl⟩
  have bw : Below w.heap.size w W := by rw [hW]; exact (Below.refl _ w).alloc (Nat.le_refl _) _
  have k1 : W.cell? ⟨w.heap.size, 1, none⟩ = some (.slice ma mn mc) := by rw [hW]; go_simp
  have HW := Lib.hid hW
  have HB := Lib.hid bw
  clear hW bw
  go_enter Try.func23, Try.ntmps23
  go_wp2_with fail
  rw [← HW.out]
  go_loopg [5, 6] mn (fun g1 v5 v6 wr => ∃ k : Nat, v6 = .int .i64 k ∧ k ≤ mn ∧ mn - k ≤ g1 ∧ v5 = .int .i64 (sumK xs ms k) ∧ W = wr)
  case atStart => exact ⟨0, by go_num, by omega, by omega, rfl, rfl⟩
  case round =>
    obtain ⟨k, rfl, hk, hg1, rfl, rfl⟩ := hrel
    by_cases hlt : k < mn
    · have hltz : (k : Int) < (mn : Int) := by omega
      obtain ⟨b, off, hA, hb, hc⟩ := HMS.out.int (k := k) (by rw [HMN.out]; exact hlt)
      have hc1 : W.cell? ⟨b, off + k, none⟩ = some (.int .i64 (fI ms k)) := (HB.out.cell (p := ⟨b, off + k, none⟩) hb).trans hc
      have hin := HIN.out k hlt
      obtain ⟨m, hm⟩ : ∃ m : Nat, fI ms k = (m : Int) := ⟨(fI ms k).toNat, by omega⟩
      have hmA : m < nA := by omega
      obtain ⟨b', off', hA', hb', hc'⟩ := HX.out.int (k := m) (by rw [HNA.out]; exact hmA)
      have hc2 : W.cell? ⟨b', off' + m, none⟩ = some (.int .i64 (fI xs m)) := (HB.out.cell (p := ⟨b', off' + m, none⟩) hb').trans hc'
      have HSU : Hid (sumK xs ms (k + 1) = sumK xs ms k + fI xs m) := Lib.hid (by
        show sumK xs ms k + fI xs (fI ms k).toNat = _
        rw [hm, Int.toNat_natCast])
      have h1 := sumK_bd (ms := ms) HBD.out k
      have h2 := HBD.out m
      have hmz : (m : Int) < (nA : Int) := by omega
      rw [hm] at hc1
      subst hA hA'
      clear hc hc' hb hb' hin hm
      generalize sumK xs ms k = y at *
      generalize fI xs m = z at *
      have hsum : IntKind.i64.wrap (y + z) = y + z := IntWalk.i64_in _ (by omega)
      clear h1 h2
      go_wp2_with fail
      go_roundg (mn - (k + 1))
      case measure => omega
      case rel => exact ⟨k + 1, by go_num, by omega, by omega, by rw [HSU.out], rfl⟩
    · have hltz : ¬ (k : Int) < (mn : Int) := by omega
      have hkn : k = mn := by omega
      subst hkn
      go_wp2_with fail
      go_ret
      exact ⟨rfl, HB.out⟩
end Go.Proofs.Ytbalhbpaholakaa
