/-
The reference's With, Met, refused and Admit, walked.
-/
import Derived.Test.YtgfcnkfmgpakkaaCAdmB
import Derived.Test.YtgfcnkfmgpakkaaCPlanRS
namespace Go.Proofs.Ytgfcnkfmgpakkaa
open Go.RowKit
set_option linter.unusedVariables false
set_option linter.unusedSimpArgs false
set_option maxRecDepth 100000 in
set_option maxHeartbeats 4000000 in
theorem raWith_any (A : Option Addr) (c N : Nat) (js : List GJob) (x : GJob) (w : World) (hR : Rd 5 encJ w A js) (HN : Hid (js.length = N)) (hN : N ≤ 1000) :
    Calls Try.prog 21 #[.slice A N c, .agg #[.int .i64 x.frm, .int .i64 x.till, .int .i64 x.energy, .int .i64 x.rate, .int .i64 x.rank]] w fun e w' => ∃ a d, e = .returned (.slice a (N + 1) d) ∧ Rd 5 encJ w' a (js ++ [x]) ∧ Below w.heap.size w w' := by
  have a0 : Below w.heap.size w (w.alloc (.cells #[.int .i64 x.frm, .int .i64 x.till, .int .i64 x.energy, .int .i64 x.rate, .int .i64 x.rank] 25)) := (Below.refl _ w).alloc (Nat.le_refl _) _
  have j0 := JobAt.new w x
  have hs0 : w.heap.size + 1 ≤ (w.alloc (.cells #[.int .i64 x.frm, .int .i64 x.till, .int .i64 x.energy, .int .i64 x.rate, .int .i64 x.rank] 25)).heap.size := by simp
  obtain ⟨Wb, hWb⟩ : ∃ Wb, Wb = w.alloc (.cells #[.int .i64 x.frm, .int .i64 x.till, .int .i64 x.energy, .int .i64 x.rate, .int .i64 x.rank] 25) := ⟨_, rfl⟩
  rw [← hWb] at a0 j0 hs0
  have HWb := Lib.hid hWb.symm
  have HR := Lib.hid (hR.keep a0)
  have HA0 := Lib.hid a0
  have HJ0 := Lib.hid j0
  have HO := Lib.hid (OwnR.nil (t := 25) (sz := 5) (enc := encJ) Wb Wb.heap.size)
  clear hR a0 j0 hWb
  go_enter Try.func21, Try.ntmps21
  go_upto_region 1 with (fail)
  rw [HWb.out]
  go_wp2
  go_loopg [5, 6] N (fun g1 v5 v6 wr => ∃ (k : Nat), v6 = .int .i64 k ∧ k ≤ N ∧ N - k ≤ g1 ∧ Hid (OwnJ wr Wb.heap.size v5 (js.take k)) ∧ Hid (Below Wb.heap.size Wb wr))
  case atStart => exact ⟨0, by go_num, by omega, by omega, HO, Lib.hid (Below.refl _ _)⟩
  case round =>
    obtain ⟨k, rfl, hk, hg1, HX, HB⟩ := hrel
    by_cases hlt : k < N
    · have hltz : (k : Int) < (N : Int) := by omega
      obtain ⟨bj, oj, j, rfl, hbj, hj, c0, c1, c2', c3', c4⟩ := rdJ_at (HR.out.keep HB.out) (k := k) (by rw [HN.out]; exact hlt)
      have HSN := Lib.hid (take_snoc hj)
      obtain ⟨ap, v', w2, av, aw, HO1, HA1⟩ := app_job j.frm j.till j.energy j.rate j.rank HX.out HB.out.size (by rw [List.length_take]; omega)
      have HB2 : Hid (Below Wb.heap.size Wb w2) := Lib.hid (HB.out.trans HA1.out.bel)
      have HO2 : Hid (OwnJ w2 Wb.heap.size v' (js.take (k + 1))) := Lib.hid (by rw [HSN.out]; exact HO1.out)
      clear HO1 HA1 HX HB HSN hj
      go_wp2
      go_roundg (N - (k + 1))
      case measure => omega
      case rel => exact ⟨k + 1, by go_num, by omega, by omega, HO2, HB2⟩
    · have hltz : ¬ (k : Int) < (N : Int) := by omega
      have hx := HX.out
      rw [List.take_of_length_le (by rw [HN.out]; omega)] at hx
      obtain ⟨k0, k1, k2, k3, k4⟩ := HJ0.out.keep HB.out
      obtain ⟨ap, v', w2, av, aw, HO1, HA1⟩ := app_job x.frm x.till x.energy x.rate x.rank hx HB.out.size (by rw [HN.out]; omega)
      have HB2 : Hid (Below w.heap.size w w2) := Lib.hid (below_then HA0.out (HB.out.trans HA1.out.bel))
      obtain ⟨a1, d1, e1, r1⟩ := HO1.out.rd encJ_len5
      rw [List.length_append, HN.out] at e1
      have HF : Hid (Rd 5 encJ w2 a1 (js ++ [x])) := Lib.hid r1
      have HE1 := Lib.hid e1
      clear HX hx HO1 HA1 r1 e1
      go_wp2
      go_ret
      first | exact ⟨a1, d1, congrArg Ending.returned HE1.out, HF.out, HB2.out⟩ | exact ⟨a1, ⟨d1, congrArg Ending.returned HE1.out⟩, HF.out, HB2.out⟩
def MetB (js : List GJob) (sup : List Int) (b : Bool) : Prop := b = true ↔ (okP js sup = true ∧ Met js sup)
set_option maxRecDepth 100000 in
set_option maxHeartbeats 1600000 in
theorem rpMet_any (A A2 : Option Addr) (c N c2 T : Nat) (js : List GJob) (sup : List Int) (w : World) (hR : Rd 5 encJ w A js) (HN : Hid (js.length = N)) (hl : N ≤ 9223372036854775807) (hR2 : Rd 1 encI w A2 sup) (HN2 : Hid (sup.length = T)) (hl2 : T ≤ 9223372036854775807) :
    Calls Try.prog 45 #[.slice A N c, .slice A2 T c2] w fun e w' => ∃ b, e = .returned (.bool b) ∧ MetB js sup b ∧ Below w.heap.size w w' := by
  go_enter Try.func45, Try.ntmps45
  go_wp2_with fail
  refine (rpSchedule_any A A2 c N c2 T js sup w hR HN hl hR2 HN2 hl2).mono ?_
  rintro e w1 ⟨a, l, c, a3, n3, c3, a4, n4, c4, er, rfl, hb, hp⟩
  have b1 : Below w.heap.size w (w1.alloc (.cells #[.slice a3 n3 c3, .slice a4 n4 c4] 30)) := hb.alloc hb.size _
  rcases hp with ⟨h1, rfl⟩ | ⟨h1, h2, rfl⟩ | ⟨h1, h2, rfl⟩
  · have HM : Hid (MetB js sup false) := Lib.hid ⟨fun h => absurd h (by decide), fun h => by rw [h1] at h; cases h.1⟩
    go_wp2_with fail
    go_ret
    first | exact ⟨false, rfl, HM.out, b1⟩ | exact ⟨HM.out, b1⟩
  · have HM : Hid (MetB js sup true) := Lib.hid ⟨fun _ => ⟨h1, h2⟩, fun _ => rfl⟩
    go_wp2_with fail
    go_ret
    first | exact ⟨true, rfl, HM.out, b1⟩ | exact ⟨HM.out, b1⟩
  · have HM : Hid (MetB js sup false) := Lib.hid ⟨fun h => absurd h (by decide), fun h => absurd h.2 h2⟩
    go_wp2_with fail
    go_ret
    first | exact ⟨false, rfl, HM.out, b1⟩ | exact ⟨HM.out, b1⟩
set_option maxRecDepth 100000 in
set_option maxHeartbeats 4000000 in
theorem raRefused_any (A A2 : Option Addr) (c N c2 T : Nat) (js : List GJob) (sup : List Int) (x : GJob) (w : World) (hR : Rd 5 encJ w A js) (HN : Hid (js.length = N)) (hl : N ≤ 9223372036854775807) (hR2 : Rd 1 encI w A2 sup) (HN2 : Hid (sup.length = T)) (hl2 : T ≤ 9223372036854775807) :
    Calls Try.prog 67 #[.slice A N c, .slice A2 T c2, .agg #[.int .i64 x.frm, .int .i64 x.till, .int .i64 x.energy, .int .i64 x.rate, .int .i64 x.rank]] w fun e w' => e = .returned (.int .i64 (chkE js sup x)) ∧ Below w.heap.size w w' := by
  have a0 : Below w.heap.size w (w.alloc (.cells #[.int .i64 x.frm, .int .i64 x.till, .int .i64 x.energy, .int .i64 x.rate, .int .i64 x.rank] 25)) := (Below.refl _ w).alloc (Nat.le_refl _) _
  have j0 := JobAt.new w x
  go_enter Try.func67, Try.ntmps67
  go_wp2_with fail
  refine (rpValid_any A A2 c N c2 T js sup _ (hR.keep a0) HN hl (hR2.keep a0) HN2 hl2).mono ?_
  rintro e w1 ⟨rfl, hb1⟩
  have b1 := below_then a0 hb1
  have j1 := j0.keep hb1
  obtain ⟨k0, k1, k2, k3, k4⟩ := j1
  clear hb1 a0 j0
  cases hok : okP js sup
  · go_wp2_with fail
    go_ret
    exact ⟨ret_int (chkE_arg (fun h => by rw [hok] at h; cases h.1)).symm, b1⟩
  · have bb : Below w1.heap.size w1 (w1.alloc (.cells #[.int .i64 x.frm, .int .i64 x.till, .int .i64 x.energy, .int .i64 x.rate, .int .i64 x.rank] 25)) := (Below.refl _ _).alloc (Nat.le_refl _) _
    have b2 := below_then b1 bb
    go_wp2_with fail
    refine (rpValid_any (some ⟨w1.heap.size, 0, none⟩) A2 1 1 c2 T [x] sup _ (rd_oneJ w1 x) (Lib.hid rfl) (by omega) (hR2.keep b2) HN2 hl2).mono ?_
    rintro e w2 ⟨rfl, hb2⟩
    have b3 := below_then b2 hb2
    clear hb2 b2 bb b1
    cases hok2 : okP [x] sup
    · go_wp2_with fail
      go_ret
      exact ⟨ret_int (chkE_arg (fun h => by rw [hok2] at h; cases h.2)).symm, b3⟩
    · by_cases h12 : N = 12
      · have h12z : (N : Int) = 12 := by omega
        have HE := Lib.hid (chkE_limit hok hok2 (HN.out.trans h12))
        subst h12
        go_wp2_with fail
        go_ret
        exact ⟨ret_int HE.out.symm, b3⟩
      · have h12z : ¬ (N : Int) = 12 := by omega
        have HL : Hid (js.length ≠ 12) := Lib.hid (by rw [HN.out]; exact h12)
        clear h12
        go_wp2_with fail
        refine (rpMet_any A A2 c N c2 T js sup w2 (hR.keep b3) HN hl (hR2.keep b3) HN2 hl2).mono ?_
        rintro e w4 ⟨b, rfl, hb, hb4⟩
        have b4 := below_then b3 hb4
        cases b
        · have HS := Lib.hid (chkE_state hok hok2 HL.out (fun h => by have := hb.2 ⟨hok, h⟩; cases this))
          clear hb
          go_wp2_with fail
          go_ret
          exact ⟨ret_int HS.out.symm, b4⟩
        · have HS := Lib.hid (chkE_ok hok hok2 HL.out (hb.1 rfl).2)
          clear hb
          go_wp2_with fail
          go_ret
          exact ⟨ret_int HS.out.symm, b4⟩
/-- What the reference's Admit says: its error. -/
def RAdmPost (w : World) (js : List GJob) (sup : List Int) (x : GJob) (e : Ending) (w' : World) : Prop :=
  ∃ a l c a3 n3 c3 a4 n4 c4 er, e = .returned (.tuple #[.slice a l c, .agg #[.slice a3 n3 c3, .slice a4 n4 c4], .int .i64 er]) ∧ er = admE js sup x ∧ Below w.heap.size w w'
set_option maxRecDepth 100000 in
set_option maxHeartbeats 4000000 in
theorem raAdmit_any (A A2 : Option Addr) (c N c2 T : Nat) (js : List GJob) (sup : List Int) (x : GJob) (w : World) (hR : Rd 5 encJ w A js) (HN : Hid (js.length = N)) (hl : N ≤ 9223372036854775807) (hR2 : Rd 1 encI w A2 sup) (HN2 : Hid (sup.length = T)) (hl2 : T ≤ 9223372036854775807) :
    Calls Try.prog 28 #[.slice A N c, .slice A2 T c2, .agg #[.int .i64 x.frm, .int .i64 x.till, .int .i64 x.energy, .int .i64 x.rate, .int .i64 x.rank]] w (RAdmPost w js sup x) := by
  have a0 : Below w.heap.size w ((w.alloc (.cells #[.int .i64 x.frm, .int .i64 x.till, .int .i64 x.energy, .int .i64 x.rate, .int .i64 x.rank] 25)).alloc (.cells #[.slice none 0 0, .slice none 0 0] 30)) := ((Below.refl _ w).alloc (Nat.le_refl _) _).alloc (by simp) _
  have j0 := (JobAt.new w x).keep ((Below.refl _ _).alloc (Nat.le_refl _) (.cells #[.slice none 0 0, .slice none 0 0] 30))
  have o0 := new_cut (w.alloc (.cells #[.int .i64 x.frm, .int .i64 x.till, .int .i64 x.energy, .int .i64 x.rate, .int .i64 x.rank] 25))
  rw [World.size_alloc] at o0
  go_enter Try.func28, Try.ntmps28
  go_wp2_with fail
  refine (raRefused_any A A2 c N c2 T js sup x _ (hR.keep a0) HN hl (hR2.keep a0) HN2 hl2).mono ?_
  rintro e w1 ⟨rfl, hb1⟩
  have b1 := below_then a0 hb1
  have j1 := j0.keep hb1
  have o1 := o0.keep hb1 o0.lt
  clear hb1 a0 j0 o0
  have c50 := o1.cell (i := 0) (by omega)
  have c51 := o1.cell (i := 1) (by omega)
  have f50 := o1.frozen 0
  have f51 := o1.frozen 1
  obtain ⟨er, her⟩ : ∃ er, er = chkE js sup x := ⟨_, rfl⟩
  rw [← her]
  by_cases h0 : er = 0
  · have hz := her.symm.trans h0
    subst h0
    obtain ⟨k1, k2, k3, k4⟩ := chkE_zero hz
    rw [HN.out] at k3
    have HL : Hid ((js ++ [x]).length = N + 1) := Lib.hid (by rw [List.length_append, HN.out]; rfl)
    have HZ := Lib.hid hz
    have HO1 := Lib.hid o1
    have B1 := Lib.hid b1
    obtain ⟨q0, q1, q2, q3, q4⟩ := j1
    clear her hz k1 k2 k4 c50 c51 f50 f51 o1 b1
    go_wp2_with fail
    refine (raWith_any A c N js x w1 (hR.keep B1.out) HN (by omega)).mono ?_
    rintro e w2 ⟨a, d, rfl, hRa, hb2⟩
    have b2 := below_then B1.out hb2
    have o2 := HO1.out.keep hb2 HO1.out.lt
    have hSch := rpSchedule_any a A2 d (N + 1) c2 T (js ++ [x]) sup w2 hRa HL (by omega) (hR2.keep b2) HN2 hl2
    have HS := Lib.hid hSch
    clear hSch q0 q1 q2 q3 q4
    go_wp2_with fail
    refine HS.out.mono ?_
    rintro e w3 ⟨a, l, c, a3, n3, c3, a4, n4, c4, er, rfl, hb3, hp⟩
    have b3 := below_then b2 hb3
    have o3 := o2.keep hb3 o2.lt
    have HE : Hid (er = admE js sup x) := Lib.hid (by
      obtain ⟨m1, m2, m3, m4⟩ := chkE_zero HZ.out
      have hok := okP_snoc.2 ⟨m1, m2, m3⟩
      rcases hp with ⟨h1, h2⟩ | ⟨h1, h2, h3⟩ | ⟨h1, h2, h3⟩
      · rw [hok] at h1; cases h1
      · rw [admE_ok HZ.out h2, h3]
      · rw [admE_full HZ.out h2, h3])
    clear hp
    clear hb3 hb2 o2
    have c50 := o3.cell (i := 0) (by omega)
    have c51 := o3.cell (i := 1) (by omega)
    have f50 := o3.frozen 0
    have f51 := o3.frozen 1
    have hB : ∀ u v, Below w.heap.size w ((w3.setCell ⟨w.heap.size + 1, 0, none⟩ u).setCell ⟨w.heap.size + 1, 1, none⟩ v) := fun u v => (b3.setCell (p := ⟨w.heap.size + 1, 0, none⟩) (by dsimp only; omega) u).setCell (p := ⟨w.heap.size + 1, 1, none⟩) (by dsimp only; omega) v
    have HB := Lib.hid hB
    have HO := Lib.hid (fun u v => (o3.set 0 u).set 1 v)
    clear hB o3
    go_wp2
    refine bodyPost_ret (results_tct (t := 6) (a := 7) (x := 8) (by rfl) rfl (load_cut (HO.out (.slice a3 n3 c3) (.slice a4 n4 c4)))) rfl ?_
    exact ⟨_, _, _, _, _, _, _, _, _, _, rfl, HE.out, HB.out _ _⟩
  · have h0z : ¬ er = 0 := h0
    have HE : Hid (er = admE js sup x) := Lib.hid (by rw [her] at h0 ⊢; exact (admE_err h0).symm)
    have HO := Lib.hid ((o1.set 0 (.slice none 0 0)).set 1 (.slice none 0 0))
    have HB := Lib.hid ((b1.setCell (p := ⟨w.heap.size + 1, 0, none⟩) (by dsimp only; omega) (.slice none 0 0)).setCell (p := ⟨w.heap.size + 1, 1, none⟩) (by dsimp only; omega) (.slice none 0 0))
    clear her o1 b1 h0
    go_wp2
    refine bodyPost_ret (results_tct (t := 6) (a := 7) (x := 8) (by rfl) rfl (load_cut HO.out)) rfl ?_
    exact ⟨_, _, _, _, _, _, _, _, _, _, rfl, HE.out, HB.out⟩
end Go.Proofs.Ytgfcnkfmgpakkaa
