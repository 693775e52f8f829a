/-
The law PlanJoining, walked.
-/
import Derived.Test.YtickndjlhokppaaCPlanW4
namespace Go.Proofs.Ytickndjlhokppaa
open Go.RowKit
set_option linter.unusedVariables false
theorem wrap64_fits {x : Int} (h0 : -9223372036854775808 ≤ x) (h1 : x ≤ 9223372036854775807) : wrap64 x = x := by
  unfold wrap64
  omega
theorem okP_last {js : List GJob} {sup : List Int} {a b : GJob} (h : okP (js ++ [a, b]) sup = true) : okJ sup.length a = true ∧ okJ sup.length b = true := by
  have := (okP_iff.1 h).2.2
  exact ⟨this a (by simp), this b (by simp)⟩
set_option maxRecDepth 100000 in
set_option maxHeartbeats 8000000 in
theorem walk_PlanJoining (A : Option Addr) (c N : Nat) (js : List GJob) {w : World} (hR : Rd 5 encJ w A js) (HN : Hid (js.length = N)) (hl : N ≤ 9223372036854775807) (_ : ∀ x, x ∈ js → wfJ x) (hsz : N * 40 ≤ 140737488351232)
    (A2 : Option Addr) (c2 T : Nat) (sup : List Int) (hR2 : Rd 1 encI w A2 sup) (HN2 : Hid (sup.length = T)) (hl2 : T ≤ 9223372036854775807) (_ : ∀ x, x ∈ sup → wf64 x) (j : GJob) (_ : wfJ j) (x : Int) (wx : wf64 x) (y : Int) (wy : wf64 y) :
    Calls Try.prog 9 #[.slice A N c, .slice A2 T c2, .agg #[.int .i64 j.frm, .int .i64 j.till, .int .i64 j.energy, .int .i64 j.rate, .int .i64 j.rank], .int .i64 x, .int .i64 y] w fun e w' => e = .returned (.bool true) ∧ Below w.heap.size w w' := by
  have a0 : Below w.heap.size w (w.alloc (.cells #[.int .i64 j.frm, .int .i64 j.till, .int .i64 j.energy, .int .i64 j.rate, .int .i64 j.rank] 38)) := (Below.refl _ w).alloc (Nat.le_refl _) _
  obtain ⟨mc, hmk, hown⟩ := mk_roomJ (N + 2) (by omega)
  have HOwn := Lib.hid hown
  have hmk' : ∀ W : World, (Instr.makeSlice 22 (.int .i64 0) (.int .i64 ((N : Int) + 2))).run Try.prog W = .ok (.slice (some ⟨W.heap.size, 0, none⟩) 0 (N + 2)) (W.alloc (.cells mc 38)) := hmk
  have HMK := Lib.hid hmk'
  clear hmk hown hmk'
  go_enter Try.func9, Try.ntmps9
  go_wp2_with fail
  refine (lpHead_any _).mono ?_
  rintro e w1 ⟨rfl, hb1⟩
  have b1 := below_then a0 hb1
  have k0 : w1.cell? ⟨w.heap.size, 0, none⟩ = some (.int .i64 j.frm) := (hb1.cell (p := ⟨w.heap.size, 0, none⟩) (by simp)).trans (by go_simp)
  have k1 : w1.cell? ⟨w.heap.size, 1, none⟩ = some (.int .i64 j.till) := (hb1.cell (p := ⟨w.heap.size, 1, none⟩) (by simp)).trans (by go_simp)
  have k2 : w1.cell? ⟨w.heap.size, 2, none⟩ = some (.int .i64 j.energy) := (hb1.cell (p := ⟨w.heap.size, 2, none⟩) (by simp)).trans (by go_simp)
  have k3 : w1.cell? ⟨w.heap.size, 3, none⟩ = some (.int .i64 j.rate) := (hb1.cell (p := ⟨w.heap.size, 3, none⟩) (by simp)).trans (by go_simp)
  have k4 : w1.cell? ⟨w.heap.size, 4, none⟩ = some (.int .i64 j.rank) := (hb1.cell (p := ⟨w.heap.size, 4, none⟩) (by simp)).trans (by go_simp)
  have l1 : w.heap.size < w1.heap.size := World.block_lt_of_cell? w1 _ k0
  clear hb1 a0
  obtain ⟨be, hbe⟩ : ∃ be, be = wrap64 (j.energy + x) := ⟨_, rfl⟩
  obtain ⟨br, hbr⟩ : ∃ br, br = wrap64 (j.rate + y) := ⟨_, rfl⟩
  have Hbe := Lib.hid hbe
  have Hbr := Lib.hid hbr
  clear hbe hbr
  go_upto_region 4 with (fail)
  rw [← Hbe.out, ← Hbr.out]
  obtain ⟨W2, hW2⟩ : ∃ W2, W2 = (w1.alloc (.cells #[.int .i64 j.frm, .int .i64 j.till, .int .i64 x, .int .i64 y, .int .i64 j.rank] 38)).alloc (.cells #[.int .i64 j.frm, .int .i64 j.till, .int .i64 be, .int .i64 br, .int .i64 j.rank] 38) := ⟨_, rfl⟩
  have ba : Below w1.heap.size w1 W2 := by rw [hW2]; exact ((Below.refl _ w1).alloc (Nat.le_refl _) _).alloc (by simp) _
  have m0 := (ba.cell (p := ⟨w.heap.size, 0, none⟩) l1).trans k0
  have m1 := (ba.cell (p := ⟨w.heap.size, 1, none⟩) l1).trans k1
  have m2 := (ba.cell (p := ⟨w.heap.size, 2, none⟩) l1).trans k2
  have m3 := (ba.cell (p := ⟨w.heap.size, 3, none⟩) l1).trans k3
  have m4 := (ba.cell (p := ⟨w.heap.size, 4, none⟩) l1).trans k4
  have n0 : W2.cell? ⟨w1.heap.size, 0, none⟩ = some (.int .i64 j.frm) := by rw [hW2]; go_simp
  have n1 : W2.cell? ⟨w1.heap.size, 1, none⟩ = some (.int .i64 j.till) := by rw [hW2]; go_simp
  have n2 : W2.cell? ⟨w1.heap.size, 2, none⟩ = some (.int .i64 x) := by rw [hW2]; go_simp
  have n3 : W2.cell? ⟨w1.heap.size, 3, none⟩ = some (.int .i64 y) := by rw [hW2]; go_simp
  have n4 : W2.cell? ⟨w1.heap.size, 4, none⟩ = some (.int .i64 j.rank) := by rw [hW2]; go_simp
  have p0 : W2.cell? ⟨w1.heap.size + 1, 0, none⟩ = some (.int .i64 j.frm) := by rw [hW2]; go_simp
  have p1 : W2.cell? ⟨w1.heap.size + 1, 1, none⟩ = some (.int .i64 j.till) := by rw [hW2]; go_simp
  have p2 : W2.cell? ⟨w1.heap.size + 1, 2, none⟩ = some (.int .i64 be) := by rw [hW2]; go_simp
  have p3 : W2.cell? ⟨w1.heap.size + 1, 3, none⟩ = some (.int .i64 br) := by rw [hW2]; go_simp
  have p4 : W2.cell? ⟨w1.heap.size + 1, 4, none⟩ = some (.int .i64 j.rank) := by rw [hW2]; go_simp
  have b2 := below_then b1 ba
  rw [← hW2]
  clear hW2 k0 k1 k2 k3 k4 ba
  refine wp_normal (fun K hK => ?_)
  refine pj4 W2 A c N w.heap.size w1.heap.size js j.frm j.till j.energy j.rate j.rank j.frm j.till x y j.rank mc K HMK.out HOwn (hR.keep b2) HN (by omega) m0 m1 m2 m3 m4 n0 n1 n2 n3 n4 _ _ _ _ _ _ _ _ _ _ _ _ _ _ _ _ _ _ _ _ _ _ _ _ _ _ _ _ _ _ _ _ _ _ _ _ _ _ _ _ _ _ _ _ _ _ _ _ _ _ _ _ _ _ _ _ _ _ _ _ _ _ _ _ _ _ _ _ _ _ _ _ _ _ _ _ _ _ _ _ _ _ _ _ _ _ _ _ _ _ _ _ _ _ _ _ _ _ _ _ _ _ _ _ _ _ _ _ _ _ (Lib.hid ?_)
  intro W3 v14
  intros
  rename_i ho1 hb3
  refine hK _ _ ?_
  clear hK K m0 m1 m2 m3 m4 n0 n1 n2 n3 n4
  have lp := World.block_lt_of_cell? W2 _ p0
  have q0 := (hb3.out.cell (p := ⟨w1.heap.size + 1, 0, none⟩) lp).trans p0
  have q1 := (hb3.out.cell (p := ⟨w1.heap.size + 1, 1, none⟩) lp).trans p1
  have q2 := (hb3.out.cell (p := ⟨w1.heap.size + 1, 2, none⟩) lp).trans p2
  have q3 := (hb3.out.cell (p := ⟨w1.heap.size + 1, 3, none⟩) lp).trans p3
  have q4 := (hb3.out.cell (p := ⟨w1.heap.size + 1, 4, none⟩) lp).trans p4
  have b3 := below_then b2 hb3.out
  clear p0 p1 p2 p3 p4
  go_step
  go_upto_region 5 with (fail)
  refine wp_normal (fun K hK => ?_)
  refine pj5 W3 A c N (w1.heap.size + 1) js j.frm j.till be br j.rank mc K HMK.out HOwn (hR.keep b3) HN (by omega) q0 q1 q2 q3 q4 _ _ _ _ _ _ _ _ _ _ _ _ _ _ _ _ _ _ _ _ _ _ _ _ _ _ _ _ _ _ _ _ _ _ _ _ _ _ _ _ _ _ _ _ _ _ _ _ _ _ _ _ _ _ _ _ _ _ _ _ _ _ _ _ _ _ _ _ _ _ _ _ _ _ _ _ _ _ _ _ _ _ _ _ _ _ _ _ _ _ _ _ _ _ _ _ _ _ _ _ _ _ _ _ _ _ _ _ _ _ _ (Lib.hid ?_)
  intro W4 v15
  intros
  rename_i ho2 hb4
  refine hK _ _ ?_
  clear hK K q0 q1 q2 q3 q4
  have b4 := below_then b3 hb4.out
  obtain ⟨a1, d1, e1, r1⟩ := (ho1.out.keepB hb4.out).rd encJ_len5
  obtain ⟨a2, d2, e2, r2⟩ := ho2.out.rd encJ_len5
  have L1 : Hid ((js ++ [(⟨j.frm, j.till, j.energy, j.rate, j.rank⟩ : GJob), ⟨j.frm, j.till, x, y, j.rank⟩]).length = N + 2) := Lib.hid (by rw [List.length_append, HN.out]; rfl)
  have L2 : Hid ((js ++ [(⟨j.frm, j.till, be, br, j.rank⟩ : GJob)]).length = N + 1) := Lib.hid (by rw [List.length_append, HN.out]; rfl)
  rw [L1.out] at e1
  rw [L2.out] at e2
  subst e1 e2
  clear ho1 ho2 hb3 hb4 b1 b2 b3 HOwn HMK
  go_step
  go_wp2_with fail
  refine (rpFew_any a1 A2 none none none d1 (N + 2) c2 T 0 0 0 0 0 0 _ sup [] [] [] [] W4 L1 HN2 RdP.nil (Lib.hid rfl) (by omega) (Lib.hid rfl) (Lib.hid rfl)).mono ?_
  rintro e w5 ⟨rfl, hb5⟩
  have b5 := below_then b4 hb5
  cases hfew : fewB (js ++ [(⟨j.frm, j.till, j.energy, j.rate, j.rank⟩ : GJob), ⟨j.frm, j.till, x, y, j.rank⟩]) sup [] [] []
  · go_wp2_with fail
    go_ret
    exact ⟨rfl, b5⟩
  · clear hfew
    have hS := hR2.keep b4
    go_wp2_with fail
    refine (rpValid_any a1 A2 d1 (N + 2) c2 T _ sup w5 (r1.keep hb5) L1 (by omega) (hS.keep hb5) HN2 hl2).mono ?_
    rintro e w6 ⟨rfl, hb6⟩
    have hb46 := below_then hb5 hb6
    go_wp2_with fail
    refine (rpValid_any a2 A2 d2 (N + 1) c2 T _ sup w6 (r2.keep hb46) L2 (by omega) (hS.keep hb46) HN2 hl2).mono ?_
    rintro e w7 ⟨rfl, hb7⟩
    have hb47 := below_then hb46 hb7
    have b7 := below_then b4 hb47
    cases hok1 : okP (js ++ [(⟨j.frm, j.till, j.energy, j.rate, j.rank⟩ : GJob), ⟨j.frm, j.till, x, y, j.rank⟩]) sup
    · go_wp2_with fail
      go_ret
      exact ⟨rfl, b7⟩
    cases hok2 : okP (js ++ [(⟨j.frm, j.till, be, br, j.rank⟩ : GJob)]) sup
    · go_wp2_with fail
      go_ret
      exact ⟨rfl, b7⟩
    obtain ⟨z1, z2⟩ := okP_last hok1
    have z1 := okJ_iff.1 z1
    have z2 := okJ_iff.1 z2
    dsimp only at z1 z2
    have Hjoin : Hid (Met (js ++ [(⟨j.frm, j.till, j.energy, j.rate, j.rank⟩ : GJob), ⟨j.frm, j.till, x, y, j.rank⟩]) sup → Met (js ++ [(⟨j.frm, j.till, be, br, j.rank⟩ : GJob)]) sup) := Lib.hid (fun h => by
      have := Met.join (a := ⟨j.frm, j.till, j.energy, j.rate, j.rank⟩) (b := ⟨j.frm, j.till, x, y, j.rank⟩) rfl rfl h j.rank
      rw [Hbe.out, Hbr.out, wrap64_fits (by omega) (by omega), wrap64_fits (by omega) (by omega)]
      exact this)
    clear z1 z2
    go_wp2_with fail
    refine (lpMet_any a1 A2 d1 (N + 2) c2 T _ sup w7 (r1.keep hb47) L1 (by omega) (hS.keep hb47) HN2 hl2).mono ?_
    rintro e w8 ⟨m1, rfl, hm1, _, hb8⟩
    have P1 := Lib.hid (hm1 hok1)
    rw [hok1]
    have hb48 := below_then hb47 hb8
    go_wp2_with fail
    refine (lpMet_any a2 A2 d2 (N + 1) c2 T _ sup w8 (r2.keep hb48) L2 (by omega) (hS.keep hb48) HN2 hl2).mono ?_
    rintro e w9 ⟨m2, rfl, hm2, _, hb9⟩
    have P2 := Lib.hid (hm2 hok2)
    rw [hok2]
    have Hend := Lib.hid (below_then b4 (below_then hb48 hb9))
    clear hm1 hm2
    cases m1
    · go_wp2_with fail
      go_ret
      exact ⟨rfl, Hend.out⟩
    · have hm2 : m2 = true := P2.out.1.2 (Hjoin.out (P1.out.1.1 rfl))
      subst hm2
      go_wp2_with fail
      go_ret
      exact ⟨rfl, Hend.out⟩
end Go.Proofs.Ytickndjlhokppaa
