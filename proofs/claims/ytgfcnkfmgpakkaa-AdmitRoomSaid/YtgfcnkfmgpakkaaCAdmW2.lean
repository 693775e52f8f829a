/-
The law AdmitRoom, walked.
-/
import Derived.Test.YtgfcnkfmgpakkaaCAdmW1
namespace Go.Proofs.Ytgfcnkfmgpakkaa
open Go.RowKit
set_option linter.unusedVariables false
set_option linter.unusedSimpArgs false
set_option maxRecDepth 100000 in
set_option maxHeartbeats 8000000 in
theorem walk_AdmitRoom (A : Option Addr) (c N : Nat) (js : List GJob) {w : World} (hR : Rd 5 encJ w A js) (HN : Hid (js.length = N)) (hl : N ≤ 9223372036854775807) (_ : ∀ x, x ∈ js → wfJ x)
    (A2 : Option Addr) (c2 T : Nat) (sup : List Int) (hR2 : Rd 1 encI w A2 sup) (HN2 : Hid (sup.length = T)) (hl2 : T ≤ 9223372036854775807) (_ : ∀ x, x ∈ sup → wf64 x) (x : GJob) (_ : wfJ x) :
    Calls Try.prog 4 #[.slice A N c, .slice A2 T c2, .agg #[.int .i64 x.frm, .int .i64 x.till, .int .i64 x.energy, .int .i64 x.rate, .int .i64 x.rank]] w fun e w' => e = .returned (.bool true) ∧ Below w.heap.size w w' := by
  have a0 : Below w.heap.size w (w.alloc (.cells #[.int .i64 x.frm, .int .i64 x.till, .int .i64 x.energy, .int .i64 x.rate, .int .i64 x.rank] 25)) := ((Below.refl _ w).alloc (Nat.le_refl _) _)
  have j0 : RRm w (w.alloc (.cells #[.int .i64 x.frm, .int .i64 x.till, .int .i64 x.energy, .int .i64 x.rate, .int .i64 x.rank] 25)) x := ⟨jobNew w x, (Below.refl _ w).alloc (Nat.le_refl _) _⟩
  go_enter Try.func4, Try.ntmps4
  go_wp2_with fail
  refine (laHead_any _).mono ?_
  rintro e w1 ⟨rfl, hb1⟩
  have b1 := below_then a0 hb1
  have j0 := j0.keep hb1
  have af : Below w1.heap.size w1 (w1.alloc (.cells #[.slice A2 T c2] 23)) := (Below.refl _ _).alloc (Nat.le_refl _) _
  have rf : Rd 1 encRow (w1.alloc (.cells #[.slice A2 T c2] 23)) (some ⟨w1.heap.size, 0, none⟩) [⟨A2, T, c2⟩] := rd_rows w1 [⟨A2, T, c2⟩]
  have b2 := below_then b1 af
  have HJ0 := Lib.hid (j0.keep af)
  clear hb1 b1 a0 j0
  go_wp2_with fail
  refine (laFew_any A _ c N 1 1 [⟨A2, T, c2⟩] _ rf (Lib.hid rfl) (by omega) hl (fun r hr => by simp at hr; subst hr; exact hl2)).mono ?_
  rintro e w2 ⟨rfl, hw2⟩
  have hb2w : Below w.heap.size w w2 := by rw [hw2]; exact b2
  have HJ0 := Lib.hid (show RRm w w2 x from by rw [hw2]; exact HJ0.out)
  clear af rf b2 hw2
  have B2 := Lib.hid hb2w
  clear hb2w
  cases hfew : fewL [⟨A2, T, c2⟩] N
  · go_wp2_with fail
    go_ret
    exact ⟨rfl, B2.out⟩
  have hN := fewL_N hfew
  have hT : T ≤ 40 := fewL_r hfew (r := ⟨A2, T, c2⟩) (by simp)
  clear hfew
  have k0 : w2.cell? ⟨w.heap.size, 0, none⟩ = some (.int .i64 x.frm) := HJ0.out.own.cell (i := 0) (by omega)
  have k1 : w2.cell? ⟨w.heap.size, 1, none⟩ = some (.int .i64 x.till) := HJ0.out.own.cell (i := 1) (by omega)
  have k2 : w2.cell? ⟨w.heap.size, 2, none⟩ = some (.int .i64 x.energy) := HJ0.out.own.cell (i := 2) (by omega)
  have k3 : w2.cell? ⟨w.heap.size, 3, none⟩ = some (.int .i64 x.rate) := HJ0.out.own.cell (i := 3) (by omega)
  have k4 : w2.cell? ⟨w.heap.size, 4, none⟩ = some (.int .i64 x.rank) := HJ0.out.own.cell (i := 4) (by omega)
  go_wp2_with fail
  refine (aRoom_any A A2 c N c2 T js sup x w2 (hR.keep B2.out) HN hl (hR2.keep B2.out) HN2 hl2).mono ?_
  rintro e w3 ⟨hb3, n, er, rfl, h1, h2, h3⟩
  clear k0 k1 k2 k3 k4
  have HM3 := Lib.hid (HJ0.out.keep hb3)
  have HE1 := Lib.hid h1
  clear hb3
  rcases err_ok (er := er) (by rw [h1]; have := chkE_range js sup (withE x 0); omega) with ⟨he, he0⟩ | ⟨he, he0⟩
  case inr =>
    have hez : (er != 0) = true := by rw [bne_iff_ne]; exact he0
    have HE0 := Lib.hid he0
    clear h1 h2 h3 he he0
    have hsY1 := HM3.out.setE (0)
    obtain ⟨Y1, hY1⟩ : ∃ X, X = w3.setCell ⟨w.heap.size, 2, none⟩ (.int .i64 (0)) := ⟨_, rfl⟩
    rw [← hY1] at hsY1
    have HY1 := Lib.hid hsY1
    have HeY1 := Lib.hid hY1.symm
    have p2 := HM3.out.own.cell (i := 2) (by omega)
    have f2 := HM3.out.own.frozen 2
    clear hsY1 hY1
    go_upto_region 7 with (fail)
    rw [HeY1.out]
    clear p2 f2 HeY1
    have k0 : Y1.cell? ⟨w.heap.size, 0, none⟩ = some (.int .i64 x.frm) := HY1.out.own.cell (i := 0) (by omega)
    have k1 : Y1.cell? ⟨w.heap.size, 1, none⟩ = some (.int .i64 x.till) := HY1.out.own.cell (i := 1) (by omega)
    have k2 : Y1.cell? ⟨w.heap.size, 2, none⟩ = some (.int .i64 (0)) := HY1.out.own.cell (i := 2) (by omega)
    have k3 : Y1.cell? ⟨w.heap.size, 3, none⟩ = some (.int .i64 x.rate) := HY1.out.own.cell (i := 3) (by omega)
    have k4 : Y1.cell? ⟨w.heap.size, 4, none⟩ = some (.int .i64 x.rank) := HY1.out.own.cell (i := 4) (by omega)
    go_wp2_with fail
    refine (aAdmitE_any A A2 c N c2 T js sup (withE x 0) Y1 (hR.keep HY1.out.bel) HN hl (hR2.keep HY1.out.bel) HN2 hl2).mono ?_
    rintro e w4 ⟨a4, l4, d4, a4', n4', d4', a4'', n4'', d4'', er4, rfl, he4, hb4⟩
    have hee : er4 = er := by rw [he4, HE1.out]; rw [HE1.out] at HE0; exact admE_err HE0.out
    subst hee
    have HB : Hid (Below w.heap.size w (w4.alloc (.cells #[.slice a4' n4' d4', .slice a4'' n4'' d4''] 30))) := Lib.hid ((below_then HY1.out.bel hb4).alloc (below_then HY1.out.bel hb4).size _)
    clear hb4 he4 k0 k1 k2 k3 k4
    go_wp2_with fail
    go_ret
    exact ⟨rfl, HB.out⟩
  subst he0
  obtain ⟨z1, z2, z3, z4⟩ := chkE_zero HE1.out.symm
  have hro := h3 rfl
  obtain ⟨n0, n1, nm, nn⟩ := hro
  have HOK1 : Hid (admE js sup (withE x n) = 0) := Lib.hid (admE_zero.2 ⟨okP_snoc.2 ⟨z1, okP_withE z2 n0 n1, z3⟩, nm⟩)
  have HOK2 : Hid ((n < 1000 ∧ admE js sup (withE x (n + 1)) = 10) ∨ (n = 1000 ∧ admE js sup (withE x (n + 1)) = 1)) := Lib.hid (by
    by_cases c : n < 1000
    · left
      refine ⟨c, admE_full (chkE_ok z1 (okP_withE z2 (by omega) (by omega)) (by omega) z4) (nn _ (by omega) (by omega))⟩
    · right
      have c2 : chkE js sup (withE x (n + 1)) = 1 := chkE_arg (fun h => by have := okP_withE_over (x := x) (sup := sup) (e := n + 1) (by omega); rw [this] at h; cases h.2)
      refine ⟨by omega, ?_⟩
      rw [admE_err (by rw [c2]; omega), c2])
  clear h1 h2 h3 nm nn z1 z2 z3 z4 he
  have hsY1 := HM3.out.setE (n)
  obtain ⟨Y1, hY1⟩ : ∃ X, X = w3.setCell ⟨w.heap.size, 2, none⟩ (.int .i64 (n)) := ⟨_, rfl⟩
  rw [← hY1] at hsY1
  have HY1 := Lib.hid hsY1
  have HeY1 := Lib.hid hY1.symm
  have p2 := HM3.out.own.cell (i := 2) (by omega)
  have f2 := HM3.out.own.frozen 2
  clear hsY1 hY1
  go_upto_region 10 with (fail)
  rw [HeY1.out]
  clear p2 f2 HeY1
  have k0 : Y1.cell? ⟨w.heap.size, 0, none⟩ = some (.int .i64 x.frm) := HY1.out.own.cell (i := 0) (by omega)
  have k1 : Y1.cell? ⟨w.heap.size, 1, none⟩ = some (.int .i64 x.till) := HY1.out.own.cell (i := 1) (by omega)
  have k2 : Y1.cell? ⟨w.heap.size, 2, none⟩ = some (.int .i64 (n)) := HY1.out.own.cell (i := 2) (by omega)
  have k3 : Y1.cell? ⟨w.heap.size, 3, none⟩ = some (.int .i64 x.rate) := HY1.out.own.cell (i := 3) (by omega)
  have k4 : Y1.cell? ⟨w.heap.size, 4, none⟩ = some (.int .i64 x.rank) := HY1.out.own.cell (i := 4) (by omega)
  go_wp2_with fail
  refine (aAdmitE_any A A2 c N c2 T js sup (withE x n) Y1 (hR.keep HY1.out.bel) HN hl (hR2.keep HY1.out.bel) HN2 hl2).mono ?_
  rintro e w4 ⟨a4, l4, d4, a4', n4', d4', a4'', n4'', d4'', er4, rfl, he4, hb4⟩
  obtain rfl : er4 = 0 := by rw [he4, HOK1.out]
  have ba : Below w4.heap.size w4 (w4.alloc (.cells #[.slice a4' n4' d4', .slice a4'' n4'' d4''] 30)) := (Below.refl _ _).alloc (Nat.le_refl _) _
  have hM4 := HY1.out.keep (below_then hb4 ba)
  have HM4 := Lib.hid hM4
  clear hb4 he4 k0 k1 k2 k3 k4 ba hM4
  have hsY2 := HM4.out.setE (n + 1)
  obtain ⟨Y2, hY2⟩ : ∃ X, X = (w4.alloc (.cells #[.slice a4' n4' d4', .slice a4'' n4'' d4''] 30)).setCell ⟨w.heap.size, 2, none⟩ (.int .i64 (n + 1)) := ⟨_, rfl⟩
  rw [← hY2] at hsY2
  have HY2 := Lib.hid hsY2
  have HeY2 := Lib.hid hY2.symm
  have p2 := HM4.out.own.cell (i := 2) (by omega)
  have f2 := HM4.out.own.frozen 2
  clear hsY2 hY2
  go_upto_region 12 with (fail)
  rw [HeY2.out]
  clear p2 f2 HeY2
  have k0 : Y2.cell? ⟨w.heap.size, 0, none⟩ = some (.int .i64 x.frm) := HY2.out.own.cell (i := 0) (by omega)
  have k1 : Y2.cell? ⟨w.heap.size, 1, none⟩ = some (.int .i64 x.till) := HY2.out.own.cell (i := 1) (by omega)
  have k2 : Y2.cell? ⟨w.heap.size, 2, none⟩ = some (.int .i64 (n + 1)) := HY2.out.own.cell (i := 2) (by omega)
  have k3 : Y2.cell? ⟨w.heap.size, 3, none⟩ = some (.int .i64 x.rate) := HY2.out.own.cell (i := 3) (by omega)
  have k4 : Y2.cell? ⟨w.heap.size, 4, none⟩ = some (.int .i64 x.rank) := HY2.out.own.cell (i := 4) (by omega)
  go_wp2_with fail
  refine (aAdmitE_any A A2 c N c2 T js sup (withE x (n + 1)) Y2 (hR.keep HY2.out.bel) HN hl (hR2.keep HY2.out.bel) HN2 hl2).mono ?_
  rintro e w5 ⟨a5, l5, d5, a5', n5', d5', a5'', n5'', d5'', er5, rfl, he5, hb5⟩
  have HB : Hid (Below w.heap.size w (w5.alloc (.cells #[.slice a5' n5' d5', .slice a5'' n5'' d5''] 30))) := Lib.hid ((below_then HY2.out.bel hb5).alloc (below_then HY2.out.bel hb5).size _)
  clear hb5 k0 k1 k2 k3 k4
  rcases HOK2.out with ⟨hn, h10⟩ | ⟨hn, h10⟩
  · obtain rfl : er5 = 10 := by rw [he5, h10]
    clear he5 h10
    go_wp2_with fail
    go_ret
    exact ⟨rfl, HB.out⟩
  · obtain rfl : er5 = 1 := by rw [he5, h10]
    clear he5 h10
    subst hn
    go_wp2_with fail
    go_ret
    exact ⟨rfl, HB.out⟩
end Go.Proofs.Ytgfcnkfmgpakkaa
