/-
Contracts of plan.inside, plan.sum of two numbers, plan.Valid.
-/
import Derived.Test.YtgfcnkfmgpakkaaProg
import Derived.Test.YtgfcnkfmgpakkaaGBase
import Derived.Test.YtgfcnkfmgpakkaaGMath
import Derived.Test.YtgfcnkfmgpakkaaGFlowA
import Derived.Deep.LoopGhost
import Derived.Deep.DeepCutAuto
import Derived.Deep.QuietTactic
import Derived.BigQuiet
namespace Go.Proofs.Ytgfcnkfmgpakkaa
open Go.RowKit
set_option linter.unusedVariables false
def encJ (j : GJob) : List Value := [.int .i64 j.frm, .int .i64 j.till, .int .i64 j.energy, .int .i64 j.rate, .int .i64 j.rank]
def aggJ (j : GJob) : Value := .agg #[.int .i64 j.frm, .int .i64 j.till, .int .i64 j.energy, .int .i64 j.rate, .int .i64 j.rank]
theorem rdJ_at {w : World} {A : Option Addr} {js : List GJob} (h : Rd 5 encJ w A js) {k : Nat} (hk : k < js.length) :
    ∃ b off j, A = some ⟨b, off, none⟩ ∧ b < w.heap.size ∧ js[k]? = some j ∧ w.cell? ⟨b, off + k * 5, none⟩ = some (.int .i64 j.frm) ∧ w.cell? ⟨b, off + k * 5 + 1, none⟩ = some (.int .i64 j.till) ∧ w.cell? ⟨b, off + k * 5 + 2, none⟩ = some (.int .i64 j.energy) ∧ w.cell? ⟨b, off + k * 5 + 3, none⟩ = some (.int .i64 j.rate) ∧ w.cell? ⟨b, off + k * 5 + 4, none⟩ = some (.int .i64 j.rank) := by
  obtain ⟨b, off, e, hA, hlt, hx, hc⟩ := h.at_ hk
  exact ⟨b, off, e, hA, hlt, hx, hc 0 _ rfl, hc 1 _ rfl, hc 2 _ rfl, hc 3 _ rfl, hc 4 _ rfl⟩
def insB (n a b : Int) : Bool := decide (a ≤ n) && decide (n ≤ b)
theorem plInside_any (n a b : Int) (w : World) : Calls Try.prog 69 #[.int .i64 n, .int .i64 a, .int .i64 b] w fun e w' => e = .returned (.bool (insB n a b)) ∧ w' = w := by
  by_cases h : a ≤ n
  · go_enter Try.func69, Try.ntmps69
    go_wp2
    go_ret
    exact ⟨ret_bool (by unfold insB; simp [h]), rfl⟩
  · go_enter Try.func69, Try.ntmps69
    go_wp2
    go_ret
    exact ⟨ret_bool (by unfold insB; simp; omega), rfl⟩
theorem insB_true {n a b : Int} : insB n a b = true ↔ (a ≤ n ∧ n ≤ b) := by simp [insB]
theorem insB_false {n a b : Int} : insB n a b = false ↔ ¬ (a ≤ n ∧ n ≤ b) := by rw [← insB_true]; simp
theorem okJ_ins (n : Int) (j : GJob) : okJ n j = (insB j.frm 0 j.till && insB j.till 0 n && insB j.energy 0 1000 && insB j.rate 0 1000 && insB j.rank 1 9) := by
  rw [Bool.eq_iff_iff]
  simp only [Bool.and_eq_true, insB_true, okJ_iff]
  omega
set_option maxHeartbeats 1600000 in
theorem plValid_any (A A2 : Option Addr) (c N c2 T : Nat) (js : List GJob) (sup : List Int) (w : World) (hR : Rd 5 encJ w A js) (HN : Hid (js.length = N)) (hl : N ≤ 9223372036854775807) (hR2 : Rd 1 encI w A2 sup) (HN2 : Hid (sup.length = T)) (hl2 : T ≤ 9223372036854775807) :
    Calls Try.prog 50 #[.slice A N c, .slice A2 T c2] w fun e w' => e = .returned (.bool (okP js sup)) ∧ Below w.heap.size w w' := by
  by_cases h1 : N ≤ 12 ∧ T ≤ 24
  · obtain ⟨h1, h2⟩ := h1
    have Hg : Hid (okP js sup = (sup.all okU && js.all (okJ T))) := by
      unfold Hid okP
      rw [HN.out, HN2.out]
      simp [h1, h2]
    have HR := Lib.hid hR
    have HR2 := Lib.hid hR2
    clear hR hR2
    go_enter Try.func50, Try.ntmps50
    go_wp2
    go_loopg [19] T (fun g1 v19 wr => ∃ k : Nat, v19 = .int .i64 k ∧ k ≤ T ∧ T - k ≤ g1 ∧ Hid ((sup.take k).all okU = true) ∧ w = wr)
    case atStart => exact ⟨0, by go_num, by omega, by omega, Lib.hid rfl, rfl⟩
    case round =>
      obtain ⟨k, rfl, hk, hg, HA, rfl⟩ := hrel
      by_cases hlt : k < T
      · have hltz : (k : Int) < (T : Int) := by omega
        obtain ⟨b, off, x, hA, hbl, hx, hcc⟩ := HR2.out.at_ (k := k) (by rw [HN2.out]; exact hlt)
        have hc0 := hcc 0 _ rfl
        rw [Nat.mul_one, Nat.add_zero] at hc0
        subst hA
        have HX := Lib.hid hx
        clear hcc hx
        go_wp2_with fail
        refine (plInside_any x 0 1000 _).mono ?_
        rintro e w' ⟨rfl, rfl⟩
        have he : insB x 0 1000 = okU x := by unfold insB okU; by_cases p : 0 ≤ x <;> by_cases q : x ≤ 1000 <;> simp [p, q]
        rw [he]
        cases ho : okU x
        · go_wp2
          go_ret
          exact ⟨ret_bool (by rw [Hg.out, all_not HX.out ho]; rfl), Below.refl _ _⟩
        · have HA2 : Hid ((sup.take (k + 1)).all okU = true) := Lib.hid (all_snoc HX.out HA.out ho)
          go_wp2
          go_roundg (T - (k + 1))
          case measure => omega
          case rel => exact ⟨k + 1, by go_num, by omega, by omega, HA2, rfl⟩
      · have hltz : ¬ (k : Int) < (T : Int) := by omega
        have HS : Hid (sup.all okU = true) := Lib.hid (by have := HA.out; rwa [List.take_of_length_le (by rw [HN2.out]; omega)] at this)
        go_wp2
        go_loopg [29] N (fun g1 v29 wr => ∃ k : Nat, v29 = .int .i64 k ∧ k ≤ N ∧ N - k ≤ g1 ∧ Hid ((js.take k).all (okJ T) = true) ∧ Hid (Below w.heap.size w wr))
        case atStart => exact ⟨0, by go_num, by omega, by omega, Lib.hid rfl, Lib.hid (Below.refl _ _)⟩
        case round =>
          clear HA hltz hlt hg hk
          obtain ⟨k, rfl, hk, hg, HA, HB⟩ := hrel
          by_cases hlt : k < N
          · have hltz : (k : Int) < (N : Int) := by omega
            obtain ⟨b, off, j, hA, hbl, hj, g0, g1, g2, g3, g4⟩ := rdJ_at (HR.out.keep HB.out) (k := k) (by rw [HN.out]; exact hlt)
            subst hA
            have HJ := Lib.hid hj
            have hok := okJ_ins T j
            have hbx := Lib.hid (HB.out.alloc HB.out.size (.cells #[.int .i64 j.frm, .int .i64 j.till, .int .i64 j.energy, .int .i64 j.rate, .int .i64 j.rank] 25))
            clear hj hbl
            have bad : okJ T j = false → Ending.returned (.bool false) = Ending.returned (.bool (okP js sup)) := fun h => ret_bool (by rw [Hg.out, all_not HJ.out h, Bool.and_false])
            have BAD := Lib.hid bad
            clear bad
            cases q1 : insB j.frm 0 j.till
            · rw [q1] at hok
              have HF : Hid (okJ T j = false) := Lib.hid (by rw [hok]; simp)
              clear hok
              go_wp2_with (go_at_call 69; refine (plInside_any _ _ _ _).mono ?_; rintro e w' ⟨rfl, rfl⟩; (try simp only [q1]))
              go_ret
              exact ⟨BAD.out HF.out, hbx.out⟩
            rw [q1] at hok
            cases q2 : insB j.till 0 (T : Int)
            · rw [q2] at hok
              have HF : Hid (okJ T j = false) := Lib.hid (by rw [hok]; simp)
              clear hok
              go_wp2_with (go_at_call 69; refine (plInside_any _ _ _ _).mono ?_; rintro e w' ⟨rfl, rfl⟩; (try simp only [q1, q2]))
              go_ret
              exact ⟨BAD.out HF.out, hbx.out⟩
            rw [q2] at hok
            cases q3 : insB j.energy 0 1000
            · rw [q3] at hok
              have HF : Hid (okJ T j = false) := Lib.hid (by rw [hok]; simp)
              clear hok
              go_wp2_with (go_at_call 69; refine (plInside_any _ _ _ _).mono ?_; rintro e w' ⟨rfl, rfl⟩; (try simp only [q1, q2, q3]))
              go_ret
              exact ⟨BAD.out HF.out, hbx.out⟩
            rw [q3] at hok
            cases q4 : insB j.rate 0 1000
            · rw [q4] at hok
              have HF : Hid (okJ T j = false) := Lib.hid (by rw [hok]; simp)
              clear hok
              go_wp2_with (go_at_call 69; refine (plInside_any _ _ _ _).mono ?_; rintro e w' ⟨rfl, rfl⟩; (try simp only [q1, q2, q3, q4]))
              go_ret
              exact ⟨BAD.out HF.out, hbx.out⟩
            rw [q4] at hok
            cases q5 : insB j.rank 1 9
            · rw [q5] at hok
              have HF : Hid (okJ T j = false) := Lib.hid (by rw [hok]; simp)
              clear hok
              go_wp2_with (go_at_call 69; refine (plInside_any _ _ _ _).mono ?_; rintro e w' ⟨rfl, rfl⟩; (try simp only [q1, q2, q3, q4, q5]))
              go_ret
              exact ⟨BAD.out HF.out, hbx.out⟩
            rw [q5] at hok
            have HA2 : Hid ((js.take (k + 1)).all (okJ T) = true) := Lib.hid (all_snoc HJ.out HA.out (by rw [hok]; rfl))
            clear hok
            go_wp2_with (go_at_call 69; refine (plInside_any _ _ _ _).mono ?_; rintro e w' ⟨rfl, rfl⟩; (try simp only [q1, q2, q3, q4, q5]))
            go_roundg (N - (k + 1))
            case measure => omega
            case rel => exact ⟨k + 1, by go_num, by omega, by omega, HA2, hbx⟩
          · have hltz : ¬ (k : Int) < (N : Int) := by omega
            have HS2 : Hid (js.all (okJ T) = true) := Lib.hid (by have := HA.out; rwa [List.take_of_length_le (by rw [HN.out]; omega)] at this)
            go_wp2
            go_ret
            exact ⟨ret_bool (by rw [Hg.out, HS.out, HS2.out]; rfl), HB.out⟩
  · have Hg : Hid (okP js sup = false) := by
      unfold Hid okP
      rw [HN.out, HN2.out]
      simp only [Bool.and_eq_false_iff, decide_eq_false_iff_not]
      exact .inl h1
    have h1' : 12 < N ∨ N ≤ 12 ∧ 24 < T := by omega
    clear h1 hR hR2
    rcases h1' with h | ⟨h, h'⟩
    · go_enter Try.func50, Try.ntmps50
      go_wp2
      go_ret
      exact ⟨ret_bool Hg.out.symm, Below.refl _ _⟩
    · go_enter Try.func50, Try.ntmps50
      go_wp2
      go_ret
      exact ⟨ret_bool Hg.out.symm, Below.refl _ _⟩
end Go.Proofs.Ytgfcnkfmgpakkaa
