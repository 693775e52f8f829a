/-
admit.check and admit.Admit, walked.
-/
import Derived.Test.YtgfcnkfmgpakkaaGAdm0
import Derived.Test.YtgfcnkfmgpakkaaCPlanX
namespace Go.Proofs.Ytgfcnkfmgpakkaa
open Go.RowKit
set_option linter.unusedVariables false
set_option linter.unusedSimpArgs false
theorem planB_metA {js : List GJob} {sup : List Int} {ps : List (List Int)} (h : planB js sup ps = true) : Met js sup := ⟨_, (planB_iff.1 h).2.2.2⟩
theorem cutPB_cutA {js : List GJob} {sup cj cs : List Int} (h : cutPB js sup cj cs = true) : okP js sup = true ∧ roomC js sup (inL cj) (inL cs) < needC js (inL cj) := by
  unfold cutPB at h
  simp only [Bool.and_eq_true, decide_eq_true_eq] at h
  exact ⟨h.1, h.2.2⟩
theorem cutPB_notA {js : List GJob} {sup cj cs : List Int} (h : cutPB js sup cj cs = true) : ¬ Met js sup := fun ⟨P, hP⟩ => by
  obtain ⟨h1, h2⟩ := cutPB_cutA h
  have := not_both h1 hP (inL cj) (inL cs)
  omega
set_option maxRecDepth 100000 in
set_option maxHeartbeats 4000000 in
theorem aCheck_any (A A2 : Option Addr) (c N c2 T : Nat) (js : List GJob) (sup : List Int) (x : GJob) (w : World) (hR : Rd 5 encJ w A js) (HN : Hid (js.length = N)) (hl : N ≤ 9223372036854775807) (hR2 : Rd 1 encI w A2 sup) (HN2 : Hid (sup.length = T)) (hl2 : T ≤ 9223372036854775807) :
    Calls Try.prog 47 #[.slice A N c, .slice A2 T c2, .agg #[.int .i64 x.frm, .int .i64 x.till, .int .i64 x.energy, .int .i64 x.rate, .int .i64 x.rank]] w fun e w' => e = .returned (.int .i64 (chkE js sup x)) ∧ Below w.heap.size w w' := by
  have a0 : Below w.heap.size w (w.alloc (.cells #[.int .i64 x.frm, .int .i64 x.till, .int .i64 x.energy, .int .i64 x.rate, .int .i64 x.rank] 25)) := (Below.refl _ w).alloc (Nat.le_refl _) _
  have j0 := JobAt.new w x
  go_enter Try.func47, Try.ntmps47
  go_wp2_with fail
  refine (plValid_any A A2 c N c2 T js sup _ (hR.keep a0) HN hl (hR2.keep a0) HN2 hl2).mono ?_
  rintro e w1 ⟨rfl, hb1⟩
  have b1 := below_then a0 hb1
  have j1 := j0.keep hb1
  obtain ⟨k0, k1, k2, k3, k4⟩ := j1
  clear hb1 a0 j0
  cases hok : okP js sup
  · go_wp2_with fail
    go_ret
    exact ⟨ret_int (chkE_arg (fun h => by rw [hok] at h; cases h.1)).symm, b1⟩
  · have bb : Below w1.heap.size w1 (w1.alloc (.cells #[.int .i64 x.frm, .int .i64 x.till, .int .i64 x.energy, .int .i64 x.rate, .int .i64 x.rank] 25)) := (Below.refl _ _).alloc (Nat.le_refl _) _
    have b2 := below_then b1 bb
    go_wp2_with fail
    refine (plValid_any (some ⟨w1.heap.size, 0, none⟩) A2 1 1 c2 T [x] sup _ (rd_oneJ w1 x) (Lib.hid rfl) (by omega) (hR2.keep b2) HN2 hl2).mono ?_
    rintro e w2 ⟨rfl, hb2⟩
    have b3 := below_then b2 hb2
    clear hb2 b2 bb b1
    cases hok2 : okP [x] sup
    · go_wp2_with fail
      go_ret
      exact ⟨ret_int (chkE_arg (fun h => by rw [hok2] at h; cases h.2)).symm, b3⟩
    · by_cases h12 : N = 12
      · have h12z : (N : Int) = 12 := by omega
        have HE := Lib.hid (chkE_limit hok hok2 (HN.out.trans h12))
        subst h12
        go_wp2_with fail
        go_ret
        exact ⟨ret_int HE.out.symm, b3⟩
      · have h12z : ¬ (N : Int) = 12 := by omega
        have HL : Hid (js.length ≠ 12) := Lib.hid (by rw [HN.out]; exact h12)
        clear h12
        go_wp2_with fail
        refine (plSchedule_any A A2 c N c2 T js sup w2 (hR.keep b3) HN hl (hR2.keep b3) HN2 hl2).mono ?_
        rintro e w4 ⟨hb4, ⟨hok3, rfl⟩ | ⟨gt, rs, ps, rfl, rp, hlp, hpl⟩ | ⟨a3, c3, a4, c4, cj, cs, rfl, r3, r4, hc1, hc2, hcut⟩⟩
        · rw [hok] at hok3
          cases hok3
        · have b4 := below_then b3 hb4
          go_wp2_with fail
          go_ret
          exact ⟨ret_int (chkE_ok hok hok2 HL.out (planB_metA hpl)).symm, b4.alloc b4.size _⟩
        · have b4 := below_then b3 hb4
          go_wp2_with fail
          go_ret
          exact ⟨ret_int (chkE_state hok hok2 HL.out (cutPB_notA hcut)).symm, b4.alloc b4.size _⟩
theorem RdP.cells {W W' : World} {A : Option Addr} {rs : List RowV} {ps : List (List Int)} (h : RdP W A rs ps) (hs : W.heap.size ≤ W'.heap.size) (hc : ∀ p v, W.cell? p = some v → W'.cell? p = some v) : RdP W' A rs ps :=
  ⟨h.top.cells hs hc, h.len, fun k r p hr hp => ⟨(h.row k r p hr hp).1, (h.row k r p hr hp).2.1, (h.row k r p hr hp).2.2.cells hs hc⟩⟩
/-- What Admit says. -/
def AdmPost (w : World) (js : List GJob) (sup : List Int) (x : GJob) (N : Nat) (e : Ending) (w' : World) : Prop :=
  Below w.heap.size w w' ∧
  ((∃ er, e = .returned (.tuple #[.slice none 0 0, .agg #[.slice none 0 0, .slice none 0 0], .int .i64 er]) ∧ er = chkE js sup x ∧ er ≠ 0) ∨
   (chkE js sup x = 0 ∧ ∃ gt rs ps, e = .returned (.tuple #[.slice (some ⟨gt, 0, none⟩) (N + 1) (N + 1), .agg #[.slice none 0 0, .slice none 0 0], .int .i64 0]) ∧ RdP w' (some ⟨gt, 0, none⟩) rs ps ∧ ps.length = N + 1 ∧ planB (js ++ [x]) sup ps = true) ∨
   (chkE js sup x = 0 ∧ ∃ a3 c3 a4 c4 cj cs, e = .returned (.tuple #[.slice none 0 0, .agg #[.slice a3 cj.length c3, .slice a4 cs.length c4], .int .i64 10]) ∧ Rd 1 encI w' a3 cj ∧ Rd 1 encI w' a4 cs ∧ cj.length ≤ 12 ∧ cs.length ≤ 24 ∧ cutPB (js ++ [x]) sup cj cs = true))
set_option maxRecDepth 100000 in
set_option maxHeartbeats 4000000 in
theorem aAdmit_any (A A2 : Option Addr) (c N c2 T : Nat) (js : List GJob) (sup : List Int) (x : GJob) (w : World) (hR : Rd 5 encJ w A js) (HN : Hid (js.length = N)) (hl : N ≤ 9223372036854775807) (hR2 : Rd 1 encI w A2 sup) (HN2 : Hid (sup.length = T)) (hl2 : T ≤ 9223372036854775807) :
    Calls Try.prog 20 #[.slice A N c, .slice A2 T c2, .agg #[.int .i64 x.frm, .int .i64 x.till, .int .i64 x.energy, .int .i64 x.rate, .int .i64 x.rank]] w (AdmPost w js sup x N) := by
  have a0 : Below w.heap.size w ((w.alloc (.cells #[.int .i64 x.frm, .int .i64 x.till, .int .i64 x.energy, .int .i64 x.rate, .int .i64 x.rank] 25)).alloc (.cells #[.slice none 0 0, .slice none 0 0] 30)) := ((Below.refl _ w).alloc (Nat.le_refl _) _).alloc (by simp) _
  have j0 := (JobAt.new w x).keep ((Below.refl _ _).alloc (Nat.le_refl _) (.cells #[.slice none 0 0, .slice none 0 0] 30))
  have o0 := new_cut (w.alloc (.cells #[.int .i64 x.frm, .int .i64 x.till, .int .i64 x.energy, .int .i64 x.rate, .int .i64 x.rank] 25))
  rw [World.size_alloc] at o0
  go_enter Try.func20, Try.ntmps20
  go_wp2_with fail
  refine (aCheck_any A A2 c N c2 T js sup x _ (hR.keep a0) HN hl (hR2.keep a0) HN2 hl2).mono ?_
  rintro e w1 ⟨rfl, hb1⟩
  have b1 := below_then a0 hb1
  have j1 := j0.keep hb1
  have o1 := o0.keep hb1 o0.lt
  clear hb1 a0 j0 o0
  have c50 := o1.cell (i := 0) (by omega)
  have c51 := o1.cell (i := 1) (by omega)
  have f50 := o1.frozen 0
  have f51 := o1.frozen 1
  obtain ⟨er, her⟩ : ∃ er, er = chkE js sup x := ⟨_, rfl⟩
  rw [← her]
  by_cases h0 : er = 0
  · have hz := her.symm.trans h0
    subst h0
    obtain ⟨k1, k2, k3, k4⟩ := chkE_zero hz
    rw [HN.out] at k3
    have HL : Hid ((js ++ [x]).length = N + 1) := Lib.hid (by rw [List.length_append, HN.out]; rfl)
    have HZ := Lib.hid hz
    have HO1 := Lib.hid o1
    have B1 := Lib.hid b1
    obtain ⟨q0, q1, q2, q3, q4⟩ := j1
    clear her hz k1 k2 k4 c50 c51 f50 f51 o1 b1
    go_wp2_with fail
    refine (aWith_any A c N js x w1 (hR.keep B1.out) HN (by omega)).mono ?_
    rintro e w2 ⟨a, d, rfl, hRa, hb2⟩
    have b2 := below_then B1.out hb2
    have o2 := HO1.out.keep hb2 HO1.out.lt
    have hSch := plSchedule_any a A2 d (N + 1) c2 T (js ++ [x]) sup w2 hRa HL (by omega) (hR2.keep b2) HN2 hl2
    have HS := Lib.hid hSch
    clear hSch q0 q1 q2 q3 q4
    go_wp2_with fail
    refine HS.out.mono ?_
    rintro e w3 ⟨hb3, hpost⟩
    have b3 := below_then b2 hb3
    have o3 := o2.keep hb3 o2.lt
    clear hb3 hb2 o2
    have c50 := o3.cell (i := 0) (by omega)
    have c51 := o3.cell (i := 1) (by omega)
    have f50 := o3.frozen 0
    have f51 := o3.frozen 1
    have hB : ∀ u v, Below w.heap.size w ((w3.setCell ⟨w.heap.size + 1, 0, none⟩ u).setCell ⟨w.heap.size + 1, 1, none⟩ v) := fun u v => (b3.setCell (p := ⟨w.heap.size + 1, 0, none⟩) (by dsimp only; omega) u).setCell (p := ⟨w.heap.size + 1, 1, none⟩) (by dsimp only; omega) v
    have HB := Lib.hid hB
    have HO := Lib.hid (fun u v => (o3.set 0 u).set 1 v)
    clear hB
    rcases hpost with ⟨hok, rfl⟩ | ⟨gt, rs, ps, rfl, rp, hlp, hpl⟩ | ⟨a3, c3, a4, c4, cj, cs, rfl, r3, r4, hc1, hc2, hcut⟩
    · obtain ⟨m1, m2, m3, m4⟩ := chkE_zero HZ.out
      rw [okP_snoc.2 ⟨m1, m2, m3⟩] at hok
      cases hok
    · have HP := Lib.hid rp
      have c51' : (w3.setCell ⟨w.heap.size + 1, 0, none⟩ (.slice none 0 0)).cell? ⟨w.heap.size + 1, 1, none⟩ = some (.slice none 0 0) := cell_again c50 _ _ c51
      have HP2 := Lib.hid ((rp.cells (W' := w3.setCell ⟨w.heap.size + 1, 0, none⟩ (.slice none 0 0)) (Nat.le_of_eq (size_set _ _ _).symm) (cell_again c50)).cells (W' := (w3.setCell ⟨w.heap.size + 1, 0, none⟩ (.slice none 0 0)).setCell ⟨w.heap.size + 1, 1, none⟩ (.slice none 0 0)) (Nat.le_of_eq (size_set _ _ _).symm) (cell_again c51'))
      clear rp c51' o3
      go_wp2
      refine bodyPost_ret (results_tct (t := 6) (a := 7) (x := 8) (by rfl) rfl (load_cut (HO.out (.slice none 0 0) (.slice none 0 0)))) rfl ?_
      exact ⟨HB.out _ _, .inr (.inl ⟨HZ.out, _, _, _, rfl, HP2.out, hlp, hpl⟩)⟩
    · have c51' : ∀ u, (w3.setCell ⟨w.heap.size + 1, 0, none⟩ u).cell? ⟨w.heap.size + 1, 1, none⟩ = some (.slice none 0 0) := fun u => (World.cell?_setCell_other _ _ _ _ (by simp)).trans c51
      have H3 := Lib.hid (fun u v => rdI_set (c51' u) v (rdI_set c50 u r3))
      have H4 := Lib.hid (fun u v => rdI_set (c51' u) v (rdI_set c50 u r4))
      clear c51' o3 r3 r4
      obtain ⟨n3, hn3⟩ : ∃ n3, n3 = cj.length := ⟨_, rfl⟩
      obtain ⟨n4, hn4⟩ : ∃ n4, n4 = cs.length := ⟨_, rfl⟩
      rw [← hn3, ← hn4]
      have HN3 := Lib.hid hn3
      have HN4 := Lib.hid hn4
      clear hn3 hn4
      go_wp2
      refine bodyPost_ret (results_tct (t := 6) (a := 7) (x := 8) (by rfl) rfl (load_cut (HO.out (.slice a3 n3 c3) (.slice a4 n4 c4)))) rfl ?_
      exact ⟨HB.out _ _, .inr (.inr ⟨HZ.out, a3, c3, a4, c4, cj, cs, by rw [← HN3.out, ← HN4.out]; rfl, H3.out _ _, H4.out _ _, hc1, hc2, hcut⟩)⟩
  · have h0z : ¬ er = 0 := h0
    have HE := Lib.hid her
    have HO := Lib.hid ((o1.set 0 (.slice none 0 0)).set 1 (.slice none 0 0))
    have HB := Lib.hid ((b1.setCell (p := ⟨w.heap.size + 1, 0, none⟩) (by dsimp only; omega) (.slice none 0 0)).setCell (p := ⟨w.heap.size + 1, 1, none⟩) (by dsimp only; omega) (.slice none 0 0))
    clear her o1 b1 h0
    go_wp2
    refine bodyPost_ret (results_tct (t := 6) (a := 7) (x := 8) (by rfl) rfl (load_cut HO.out)) rfl ?_
    exact ⟨HB.out, .inl ⟨_, rfl, HE.out, h0z⟩⟩
end Go.Proofs.Ytgfcnkfmgpakkaa
