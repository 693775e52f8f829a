/-
The law AdmitMatchesReference, walked.
-/
import Derived.Test.YtgfcnkfmgpakkaaCAdmW1
import Derived.Test.YtgfcnkfmgpakkaaCPlanR
import Derived.Test.YtgfcnkfmgpakkaaCPlanD
namespace Go.Proofs.Ytgfcnkfmgpakkaa
open Go.RowKit
set_option linter.unusedVariables false
set_option linter.unusedSimpArgs false
/-- Admit's answer. -/
def AdmRes (W : World) (js : List GJob) (sup : List Int) (x : GJob) (N : Nat) (a : Option Addr) (l : Nat) (a3 : Option Addr) (n3 : Nat) (a4 : Option Addr) (n4 : Nat) (er : Int) : Prop :=
  (er ≠ 0 ∧ er ≠ 10 ∧ l = 0 ∧ n3 = 0 ∧ n4 = 0) ∨
  (er = 0 ∧ n3 = 0 ∧ n4 = 0 ∧ l = N + 1 ∧ ∃ rs ps, RdP W a rs ps ∧ ps.length = N + 1 ∧ planB (js ++ [x]) sup ps = true) ∨
  (er = 10 ∧ l = 0 ∧ ∃ cj cs, Rd 1 encI W a3 cj ∧ cj.length = n3 ∧ n3 ≤ 12 ∧ Rd 1 encI W a4 cs ∧ cs.length = n4 ∧ n4 ≤ 24 ∧ cutPB (js ++ [x]) sup cj cs = true)
theorem AdmRes.keep {W W' : World} {js : List GJob} {sup : List Int} {x : GJob} {N : Nat} {a : Option Addr} {l : Nat} {a3 : Option Addr} {n3 : Nat} {a4 : Option Addr} {n4 : Nat} {er : Int} (h : AdmRes W js sup x N a l a3 n3 a4 n4 er) (hb : Below W.heap.size W W') : AdmRes W' js sup x N a l a3 n3 a4 n4 er := by
  rcases h with h | ⟨h1, h2, h3, h4, rs, ps, h5, h6⟩ | ⟨h1, h2, cj, cs, h3, h4, h5, h6, h7⟩
  · exact .inl h
  · exact .inr (.inl ⟨h1, h2, h3, h4, rs, ps, h5.keep hb, h6⟩)
  · exact .inr (.inr ⟨h1, h2, cj, cs, h3.keep hb, h4, h5, h6.keep hb, h7⟩)
theorem aAdmitR_any (A A2 : Option Addr) (c N c2 T : Nat) (js : List GJob) (sup : List Int) (x : GJob) (w : World) (hR : Rd 5 encJ w A js) (HN : Hid (js.length = N)) (hl : N ≤ 9223372036854775807) (hR2 : Rd 1 encI w A2 sup) (HN2 : Hid (sup.length = T)) (hl2 : T ≤ 9223372036854775807) :
    Calls Try.prog 20 #[.slice A N c, .slice A2 T c2, .agg #[.int .i64 x.frm, .int .i64 x.till, .int .i64 x.energy, .int .i64 x.rate, .int .i64 x.rank]] w fun e w' => ∃ a l d a3 n3 d3 a4 n4 d4 er, e = .returned (.tuple #[.slice a l d, .agg #[.slice a3 n3 d3, .slice a4 n4 d4], .int .i64 er]) ∧ er = admE js sup x ∧ Below w.heap.size w w' ∧ AdmRes w' js sup x N a l a3 n3 a4 n4 er := by
  refine (aAdmit_any A A2 c N c2 T js sup x w hR HN hl hR2 HN2 hl2).mono ?_
  rintro e w' ⟨hb, ⟨er, he, h1, h2⟩ | ⟨hz, gt, rs, ps, he, h3, h4, hp⟩ | ⟨hz, a3, c3, a4, c4, cj, cs, he, r3, r4, h5, h6, hc⟩⟩
  · exact ⟨_, _, _, _, _, _, _, _, _, _, he, by rw [h1] at h2 ⊢; exact (admE_err h2).symm, hb, .inl ⟨h2, by have := chkE_range js sup x; rw [← h1] at this; omega, rfl, rfl, rfl⟩⟩
  · exact ⟨_, _, _, _, _, _, _, _, _, _, he, (admE_ok hz (planB_metA hp)).symm, hb, .inr (.inl ⟨rfl, rfl, rfl, rfl, rs, ps, h3, h4, hp⟩)⟩
  · exact ⟨_, _, _, _, _, _, _, _, _, _, he, (admE_full hz (cutPB_notA hc)).symm, hb, .inr (.inr ⟨rfl, rfl, cj, cs, r3, rfl, h5, r4, rfl, h6, hc⟩)⟩
set_option maxRecDepth 100000 in
set_option maxHeartbeats 8000000 in
theorem walk_AdmitMatchesReference (A : Option Addr) (c N : Nat) (js : List GJob) {w : World} (hR : Rd 5 encJ w A js) (HN : Hid (js.length = N)) (hl : N ≤ 9223372036854775807) (_ : ∀ x, x ∈ js → wfJ x)
    (A2 : Option Addr) (c2 T : Nat) (sup : List Int) (hR2 : Rd 1 encI w A2 sup) (HN2 : Hid (sup.length = T)) (hl2 : T ≤ 9223372036854775807) (_ : ∀ x, x ∈ sup → wf64 x) (hcap2 : T ≤ c2 ∧ c2 ≤ 9223372036854775807) (x : GJob) (_ : wfJ x)
    (A3 : Option Addr) (c3 M : Nat) (done : List Int) (hR3 : Rd 1 encI w A3 done) (HN3 : Hid (done.length = M)) (hl3 : M ≤ 9223372036854775807) (_ : ∀ x, x ∈ done → wf64 x) :
    Calls Try.prog 10 #[.slice A N c, .slice A2 T c2, .agg #[.int .i64 x.frm, .int .i64 x.till, .int .i64 x.energy, .int .i64 x.rate, .int .i64 x.rank], .slice A3 M c3] w fun e w' => e = .returned (.bool true) ∧ Below w.heap.size w w' := by
  have a0 : Below w.heap.size w (w.alloc (.cells #[.int .i64 x.frm, .int .i64 x.till, .int .i64 x.energy, .int .i64 x.rate, .int .i64 x.rank] 25)) := ((Below.refl _ w).alloc (Nat.le_refl _) _)
  have j0 := JobAt.new w x
  go_enter Try.func10, Try.ntmps10
  go_wp2_with fail
  refine (laHead_any _).mono ?_
  rintro e w1 ⟨rfl, hb1⟩
  have b1 := below_then a0 hb1
  have j0 := j0.keep hb1
  have af : Below w1.heap.size w1 (w1.alloc (.cells #[.slice A2 T c2, .slice A3 M c3] 23)) := (Below.refl _ _).alloc (Nat.le_refl _) _
  have rf : Rd 1 encRow (w1.alloc (.cells #[.slice A2 T c2, .slice A3 M c3] 23)) (some ⟨w1.heap.size, 0, none⟩) [⟨A2, T, c2⟩, ⟨A3, M, c3⟩] := rd_rows w1 [⟨A2, T, c2⟩, ⟨A3, M, c3⟩]
  have b2 := below_then b1 af
  have HJ0 := Lib.hid (j0.keep af)
  clear hb1 b1 a0 j0
  go_wp2_with fail
  refine (laFew_any A _ c N 2 2 [⟨A2, T, c2⟩, ⟨A3, M, c3⟩] _ rf (Lib.hid rfl) (by omega) hl (fun r hr => by simp at hr; rcases hr with rfl | rfl; exact hl2; exact hl3)).mono ?_
  rintro e w2 ⟨rfl, hw2⟩
  have hb2w : Below w.heap.size w w2 := by rw [hw2]; exact b2
  have HJ0 := Lib.hid (show JobAt w2 w.heap.size x from by rw [hw2]; exact HJ0.out)
  clear af rf b2 hw2
  have B2 := Lib.hid hb2w
  clear hb2w
  cases hfew : fewL [⟨A2, T, c2⟩, ⟨A3, M, c3⟩] N
  · go_wp2_with fail
    go_ret
    exact ⟨rfl, B2.out⟩
  have hN := fewL_N hfew
  have hT : T ≤ 40 := fewL_r hfew (r := ⟨A2, T, c2⟩) (by simp)
  have hM : M ≤ 40 := fewL_r hfew (r := ⟨A3, M, c3⟩) (by simp)
  clear hfew
  obtain ⟨q0, q1, q2, q3, q4⟩ := HJ0.out
  go_wp2_with fail
  refine (aAdmitR_any A A2 c N c2 T js sup x w2 (hR.keep B2.out) HN hl (hR2.keep B2.out) HN2 hl2).mono ?_
  rintro e w3 ⟨a, l, d, a3, n3, d3, a4, n4, d4, er, rfl, her, hb3, hres⟩
  have ba : Below w3.heap.size w3 (w3.alloc (.cells #[.slice a3 n3 d3, .slice a4 n4 d4] 30)) := (Below.refl _ _).alloc (Nat.le_refl _) _
  have k3 := below_then hb3 ba
  have b3 := below_then B2.out k3
  have HJ3 := Lib.hid (HJ0.out.keep k3)
  have HR3' := Lib.hid (hres.keep ba)
  have HE := Lib.hid her
  have HO3 : Hid (Own (w3.alloc (.cells #[.slice a3 n3 d3, .slice a4 n4 d4] 30)) w3.heap.size 30 2 (fun i => if i = 0 then .slice a3 n3 d3 else .slice a4 n4 d4)) := Lib.hid ((Own.new w3 30 #[.slice a3 n3 d3, .slice a4 n4 d4] undef).congr (fun i hi => by
    have hi' : i < 2 := hi
    rcases i with _ | _ | i
    all_goals first | rfl | omega))
  clear q0 q1 q2 q3 q4 hb3 ba k3 hres her B2 HJ0
  obtain ⟨q0, q1, q2, q3, q4⟩ := HJ3.out
  go_wp2_with fail
  refine (raAdmit_any A A2 c N c2 T js sup x _ (hR.keep b3) HN hl (hR2.keep b3) HN2 hl2).mono ?_
  rintro e w4 ⟨ya, yl, yd, ya3, yn3, yd3, ya4, yn4, yd4, er2, rfl, her2, hb4⟩
  obtain rfl : er2 = er := by rw [her2, HE.out]
  have HE := Lib.hid her2
  clear her2 q0 q1 q2 q3 q4
  have ba : Below w4.heap.size w4 (w4.alloc (.cells #[.slice ya3 yn3 yd3, .slice ya4 yn4 yd4] 30)) := (Below.refl _ _).alloc (Nat.le_refl _) _
  have k4 := below_then hb4 ba
  have b4 := below_then b3 k4
  have HJ4 := Lib.hid (HJ3.out.keep k4)
  have HO4 := Lib.hid (HO3.out.keep k4 HO3.out.lt)
  have HR4 := Lib.hid (HR3'.out.keep k4)
  clear hb4 ba k4 b3 HJ3 HO3 HR3'
  obtain ⟨q0, q1, q2, q3, q4⟩ := HJ4.out
  go_wp2_with fail
  refine (aRoom_any A A2 c N c2 T js sup x _ (hR.keep b4) HN hl (hR2.keep b4) HN2 hl2).mono ?_
  rintro e w5 ⟨k5, n, g, rfl, g1, g2, g3⟩
  have HG1 := Lib.hid g1
  have HG2 := Lib.hid g2
  have HG3 := Lib.hid g3
  clear q0 q1 q2 q3 q4 g1 g2 g3
  have b5 := below_then b4 k5
  have HJ5 := Lib.hid (HJ4.out.keep k5)
  have HO5 := Lib.hid (HO4.out.keep k5 HO4.out.lt)
  have HR5 := Lib.hid (HR4.out.keep k5)
  clear k5 b4 HJ4 HO4 HR4
  obtain ⟨q0, q1, q2, q3, q4⟩ := HJ5.out
  go_wp2_with fail
  refine (raRoom_any A A2 c N c2 T js sup x _ (hR.keep b5) HN hl (hR2.keep b5) HN2 hl2).mono ?_
  rintro e w6 ⟨k6, n', g', rfl, g1, g2, g3⟩
  obtain rfl : g' = g := by rw [g1, HG1.out]
  obtain rfl : n' = n := by
    by_cases hz : g' = 0
    · exact (g3 hz).unique (HG3.out hz)
    · rw [g2 hz, HG2.out hz]
  clear q0 q1 q2 q3 q4 g1 g2 g3 HG1 HG2 HG3
  have b6 := below_then b5 k6
  have HJ6 := Lib.hid (HJ5.out.keep k6)
  have HO6 := Lib.hid (HO5.out.keep k6 HO5.out.lt)
  have HR6 := Lib.hid (HR5.out.keep k6)
  clear k6 b5 HJ5 HO5 HR5
  go_wp2_with fail
  refine (aAdvance_any A A2 A3 c N c2 T c3 M js sup done _ (hR.keep b6) HN hl (hR2.keep b6) HN2 hl2 (hR3.keep b6) HN3 hl3 hcap2.1).mono ?_
  rintro e w7 ⟨k7, hp⟩
  obtain ⟨u, lu, du, u2, lu2, du2, eu, xs, ys, rfl, r1, hr1, r2, hr2, hlu⟩ : ∃ u lu du u2 lu2 du2 eu xs ys, e = .returned (.tuple #[.slice u lu du, .slice u2 lu2 du2, .int .i64 eu]) ∧ Rd 5 encJ w7 u xs ∧ xs.length = lu ∧ Rd 1 encI w7 u2 ys ∧ ys.length = lu2 ∧ ((okD js sup done = false ∧ eu = 1 ∧ xs = [] ∧ ys = []) ∨ (okD js sup done = true ∧ eu = 0 ∧ xs = nextJs js done ∧ ys = sup.tail)) := by
    rcases hp with ⟨h, he⟩ | ⟨h, a, d, a2, d2, he, _, r1, r2⟩
    · exact ⟨_, _, _, _, _, _, _, [], [], he, Rd.nil, rfl, Rd.nil, rfl, .inl ⟨h, rfl, rfl, rfl⟩⟩
    · exact ⟨_, _, _, _, _, _, _, _, _, he, r1, by rw [nextJs_len, HN.out], r2, by rw [List.length_tail, HN2.out], .inr ⟨h, rfl, rfl, rfl⟩⟩
  have HX7 := Lib.hid r1
  have HY7 := Lib.hid r2
  have HXL := Lib.hid hr1
  have HYL := Lib.hid hr2
  have HLU := Lib.hid hlu
  clear r1 r2 hp hr1 hr2 hlu
  have b7 := below_then b6 k7
  have HJ7 := Lib.hid (HJ6.out.keep k7)
  have HO7 := Lib.hid (HO6.out.keep k7 HO6.out.lt)
  have HR7 := Lib.hid (HR6.out.keep k7)
  clear k7 b6 HJ6 HO6 HR6
  go_wp2_with fail
  refine (raAdvance_any A A2 A3 c N c2 T c3 M js sup done _ (hR.keep b7) HN hl (hR2.keep b7) HN2 hl2 (hR3.keep b7) HN3 hl3).mono ?_
  rintro e w8 ⟨k8, hp⟩
  obtain ⟨v, dv, v2, dv2, rfl, r1, r2⟩ : ∃ v dv v2 dv2, e = .returned (.tuple #[.slice v lu dv, .slice v2 lu2 dv2, .int .i64 eu]) ∧ Rd 5 encJ w8 v xs ∧ Rd 1 encI w8 v2 ys := by
    rcases HLU.out with ⟨h, h1, h2, h3⟩ | ⟨h, h1, h2, h3⟩
    · rcases hp with ⟨_, he⟩ | ⟨h', _⟩
      · rw [← HXL.out, ← HYL.out, h1, h2, h3]
        exact ⟨_, _, _, _, he, Rd.nil, Rd.nil⟩
      · rw [h] at h'; cases h'
    · rcases hp with ⟨h', _⟩ | ⟨_, a, d, a2, d2, he, _, r1, r2⟩
      · rw [h] at h'; cases h'
      · rw [← HXL.out, ← HYL.out, h1, h2, h3, nextJs_len, HN.out, List.length_tail, HN2.out]
        exact ⟨_, _, _, _, he, r1, r2⟩
  have hlb : lu ≤ 1000000000 ∧ lu2 ≤ 1000000000 := by
    rcases HLU.out with ⟨h, h1, h2, h3⟩ | ⟨h, h1, h2, h3⟩
    · rw [← HXL.out, ← HYL.out, h2, h3]; simp
    · rw [← HXL.out, ← HYL.out, h2, h3, nextJs_len, HN.out, List.length_tail, HN2.out]; omega
  have HX8 := Lib.hid (HX7.out.keep k8)
  have HY8 := Lib.hid (HY7.out.keep k8)
  have HX8' := Lib.hid r1
  have HY8' := Lib.hid r2
  clear r1 r2 hp HX7 HY7
  have b8 := below_then b7 k8
  have HJ8 := Lib.hid (HJ7.out.keep k8)
  have HO8 := Lib.hid (HO7.out.keep k8 HO7.out.lt)
  have HR8 := Lib.hid (HR7.out.keep k8)
  clear k8 b7 HJ7 HO7 HR7
  go_wp2_with fail
  refine (raSame_any xs xs u v _ _ lu lu w8 HX8.out HXL hlb.1 HX8'.out HXL hlb.1).mono ?_
  rintro e w9 ⟨rfl, k9⟩
  rw [sameL_self]
  have HY9 := Lib.hid (HY8.out.keep k9)
  have HY9' := Lib.hid (HY8'.out.keep k9)
  clear HX8 HX8' HY8 HY8'
  have b9 := below_then b8 k9
  have HJ9 := Lib.hid (HJ8.out.keep k9)
  have HO9 := Lib.hid (HO8.out.keep k9 HO8.out.lt)
  have HR9 := Lib.hid (HR8.out.keep k9)
  clear k9 b8 HJ8 HO8 HR8
  go_wp2_with fail
  refine (raInts_any ys ys u2 v2 _ _ lu2 lu2 w9 HY9.out HYL hlb.2 HY9'.out HYL hlb.2).mono ?_
  rintro e w10 ⟨rfl, k10⟩
  rw [sameL_self]
  clear HY9 HY9' HXL HYL HLU hlb
  have b10 := below_then b9 k10
  have HJ10 := Lib.hid (HJ9.out.keep k10)
  have HO10 := Lib.hid (HO9.out.keep k10 HO9.out.lt)
  have HR10 := Lib.hid (HR9.out.keep k10)
  clear k10 b9 HJ9 HO9 HR9
  obtain ⟨q0, q1, q2, q3, q4⟩ := HJ10.out
  go_wp2_with fail
  refine (raWith_any A c N js x w10 (hR.keep b10) HN (by omega)).mono ?_
  rintro e w11 ⟨z, dz, rfl, hz, k11⟩
  have HL : Hid ((js ++ [x]).length = N + 1) := Lib.hid (by rw [List.length_append, HN.out]; rfl)
  have HZ := Lib.hid hz
  clear q0 q1 q2 q3 q4 hz
  have b11 := below_then b10 k11
  have HJ11 := Lib.hid (HJ10.out.keep k11)
  have HO11 := Lib.hid (HO10.out.keep k11 HO10.out.lt)
  have HR11 := Lib.hid (HR10.out.keep k11)
  clear k11 b10 HJ10 HO10 HR10
  have p0 := HO11.out.cell (i := 0) (by omega)
  have p1 := HO11.out.cell (i := 1) (by omega)
  simp only [if_true] at p0
  simp only [Nat.one_ne_zero, if_false] at p1
  have HB := Lib.hid b11
  clear b11 HJ11 HO11
  rcases HR11.out with ⟨h0, h10, rfl, rfl, rfl⟩ | ⟨rfl, rfl, rfl, rfl, rs, ps, rp, hlp, hpl⟩ | ⟨rfl, rfl, cj, cs, r3, hl3', hc1, r4, hl4', hc2, hcut⟩
  · have h0z : ¬ er2 = 0 := h0
    have h10z : ¬ er2 = 10 := h10
    clear h0 h10 HR11
    go_wp2_with fail
    go_ret
    exact ⟨rfl, HB.out⟩
  · have HP := Lib.hid rp
    have HLP := Lib.hid hlp
    clear rp hlp HR11
    go_wp2_with fail
    refine (plCheckPlan_any z A2 a dz (N + 1) c2 T d (N + 1) (js ++ [x]) sup rs ps w11 HZ.out HL (by omega) (hR2.keep HB.out) HN2 hl2 HP.out HLP (by omega)).mono ?_
    rintro e w12 ⟨rfl, hb12⟩
    rw [hpl]
    have p0' := (hb12.cell (p := ⟨w3.heap.size, 0, none⟩) (World.block_lt_of_cell? w11 _ p0)).trans p0
    have p1' := (hb12.cell (p := ⟨w3.heap.size, 1, none⟩) (World.block_lt_of_cell? w11 _ p1)).trans p1
    have hB := Lib.hid (below_then HB.out hb12)
    clear hb12 p0 p1
    go_wp2_with fail
    go_ret
    exact ⟨rfl, hB.out⟩
  · have H3 := Lib.hid r3
    have H4 := Lib.hid r4
    have HL3 := Lib.hid hl3'
    have HL4 := Lib.hid hl4'
    clear r3 r4 hl3' hl4' HR11
    go_wp2_with fail
    refine (plCheckCut_any z A2 a3 a4 dz (N + 1) c2 T _ n3 _ n4 (js ++ [x]) sup cj cs w11 HZ.out HL (by omega) (hR2.keep HB.out) HN2 hl2 H3.out HL3 (by omega) H4.out HL4 (by omega)).mono ?_
    rintro e w12 ⟨rfl, hb12⟩
    rw [hcut]
    have hB := Lib.hid (below_then HB.out hb12)
    clear hb12 p0 p1
    go_wp2_with fail
    go_ret
    exact ⟨rfl, hB.out⟩
end Go.Proofs.Ytgfcnkfmgpakkaa
