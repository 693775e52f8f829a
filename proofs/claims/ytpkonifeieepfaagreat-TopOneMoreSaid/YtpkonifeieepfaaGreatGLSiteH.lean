/-
Several texts in one: SiteH, SiteI.
-/
import Derived.Test.YtpkonifeieepfaaGreatGLSiteF
import Derived.Test.YtpkonifeieepfaaGreatGLSiteV
import Derived.Deep.QuietTactic
import Derived.BigQuiet
import Derived.IntWalk
/-
The reference's Charger and conductor, walked.
-/
namespace Go.Proofs.YtpkonifeieepfaaGreat
open Go.RowKit
set_option linter.unusedVariables false
set_option linter.unusedSimpArgs false
def rChgB (c : GChg) : Bool := inside c.ph 1 7 && (inside c.mn 1 80 && (inside c.mx c.mn 80 && (inside c.step 1 80 && ((c.fb == 0) || inside c.fb c.mn c.mx))))
set_option maxRecDepth 100000 in
set_option maxHeartbeats 8000000 in
theorem r4Chg_any (c : GChg) (w : World) : Calls Tryz.prog 33 #[.agg #[.string c.name, .int .i64 c.place, .int .i64 c.ph, .int .i64 c.mn, .int .i64 c.mx, .int .i64 c.step, .int .i64 c.fb, .int .i64 c.own]] w fun e w' => e = .returned (.bool (rChgB c)) ∧ Below w.heap.size w w' := by
  obtain ⟨W0, hW0⟩ : ∃ W0, W0 = w.alloc (.cells #[.string c.name, .int .i64 c.place, .int .i64 c.ph, .int .i64 c.mn, .int .i64 c.mx, .int .i64 c.step, .int .i64 c.fb, .int .i64 c.own] 45) := ⟨_, rfl⟩
  have b0 : Below w.heap.size w W0 := by rw [hW0]; exact (Below.refl _ w).alloc (Nat.le_refl _) _
  have q2 : W0.cell? ⟨w.heap.size, 2, none⟩ = some (.int .i64 c.ph) := by rw [hW0]; go_simp
  have q3 : W0.cell? ⟨w.heap.size, 3, none⟩ = some (.int .i64 c.mn) := by rw [hW0]; go_simp
  have q4 : W0.cell? ⟨w.heap.size, 4, none⟩ = some (.int .i64 c.mx) := by rw [hW0]; go_simp
  have q5 : W0.cell? ⟨w.heap.size, 5, none⟩ = some (.int .i64 c.step) := by rw [hW0]; go_simp
  have q6 : W0.cell? ⟨w.heap.size, 6, none⟩ = some (.int .i64 c.fb) := by rw [hW0]; go_simp
  have HW0 := Lib.hid hW0.symm
  have HB0 := Lib.hid b0
  clear hW0 b0
  have HR : Hid (rChgB c = (inside c.ph 1 7 && (inside c.mn 1 80 && (inside c.mx c.mn 80 && (inside c.step 1 80 && ((c.fb == 0) || inside c.fb c.mn c.mx)))))) := Lib.hid rfl
  go_enter Tryz.func33, Tryz.ntmps33
  go_upto_region 1 with (fail)
  rw [HW0.out]
  go_wp2_with fail
  refine (r4Inside_any c.ph 1 7 _).mono ?_
  rintro e w0 ⟨rfl, hw0⟩
  subst hw0
  obtain ⟨z0, hz0⟩ : ∃ z, inside c.ph 1 7 = z := ⟨_, rfl⟩
  rw [hz0] at HR ⊢
  clear hz0
  cases z0
  · have HF : Hid (false = rChgB c) := Lib.hid (by rw [HR.out]; simp)
    clear HR
    go_wp2_with fail
    go_ret
    exact ⟨ret_bool HF.out, HB0.out⟩
  · skip
    go_wp2_with fail
    refine (r4Inside_any c.mn 1 80 _).mono ?_
    rintro e w1 ⟨rfl, hw1⟩
    subst hw1
    obtain ⟨z1, hz1⟩ : ∃ z, inside c.mn 1 80 = z := ⟨_, rfl⟩
    rw [hz1] at HR ⊢
    clear hz1
    cases z1
    · have HF : Hid (false = rChgB c) := Lib.hid (by rw [HR.out]; simp)
      clear HR
      go_wp2_with fail
      go_ret
      exact ⟨ret_bool HF.out, HB0.out⟩
    · skip
      go_wp2_with fail
      refine (r4Inside_any c.mx c.mn 80 _).mono ?_
      rintro e w2 ⟨rfl, hw2⟩
      subst hw2
      obtain ⟨z2, hz2⟩ : ∃ z, inside c.mx c.mn 80 = z := ⟨_, rfl⟩
      rw [hz2] at HR ⊢
      clear hz2
      cases z2
      · have HF : Hid (false = rChgB c) := Lib.hid (by rw [HR.out]; simp)
        clear HR
        go_wp2_with fail
        go_ret
        exact ⟨ret_bool HF.out, HB0.out⟩
      · skip
        go_wp2_with fail
        refine (r4Inside_any c.step 1 80 _).mono ?_
        rintro e w3 ⟨rfl, hw3⟩
        subst hw3
        obtain ⟨z3, hz3⟩ : ∃ z, inside c.step 1 80 = z := ⟨_, rfl⟩
        rw [hz3] at HR ⊢
        clear hz3
        cases z3
        · have HF : Hid (false = rChgB c) := Lib.hid (by rw [HR.out]; simp)
          clear HR
          go_wp2_with fail
          go_ret
          exact ⟨ret_bool HF.out, HB0.out⟩
        · skip
          obtain ⟨y, hy⟩ : ∃ z, (c.fb == 0) = z := ⟨_, rfl⟩
          have HR2 : Hid (rChgB c = (y || inside c.fb c.mn c.mx)) := Lib.hid (by rw [HR.out, hy]; simp)
          clear HR
          cases y
          · go_wp2_with fail
            refine (r4Inside_any c.fb c.mn c.mx _).mono ?_
            rintro e w4 ⟨rfl, hw4⟩
            subst hw4
            have HF : Hid (inside c.fb c.mn c.mx = rChgB c) := Lib.hid (by rw [HR2.out]; simp)
            clear HR2
            go_wp2_with fail
            go_ret
            exact ⟨ret_bool HF.out, HB0.out⟩
          · have HF : Hid (true = rChgB c) := Lib.hid (by rw [HR2.out]; simp)
            clear HR2
            go_wp2_with fail
            go_ret
            exact ⟨ret_bool HF.out, HB0.out⟩
def rUpB (i : Nat) (up : Int) : Bool := if ((i : Int) == 0) then (up == -1) else inside up 0 ((i : Int) - 1)
theorem rUpB_eq (i : Nat) (up : Int) : rUpB i up = okUp i up := by
  unfold rUpB okUp
  rw [Bool.eq_iff_iff]
  by_cases h : i = 0
  · subst h; simp
  · rw [if_neg (by simp; omega), inside_iff]; simp only [decide_eq_true_eq]; omega
def rQ (i : Nat) (c : GCon) : Bool := inside c.limit 1 1000 && (inside c.neutral 1 1000 && rUpB i c.up)
set_option maxRecDepth 100000 in
set_option maxHeartbeats 16000000 in
theorem r4Con_any (c : GCon) (i : Nat) (w : World) (hi : i ≤ 1000) : Calls Tryz.prog 32 #[.agg #[.string c.name, .int .i64 c.up, .int .i64 c.limit, .int .i64 c.neutral, .int .i64 c.rated, .int .i64 c.heat, .int .i64 c.amb, .int .i64 c.most, .int .i64 c.gain, .int .i64 c.loss, .int .i64 c.den], .int .i64 i] w fun e w' => e = .returned (.bool (okCon i c)) ∧ Below w.heap.size w w' := by
  obtain ⟨W0, hW0⟩ : ∃ W0, W0 = w.alloc (.cells #[.string c.name, .int .i64 c.up, .int .i64 c.limit, .int .i64 c.neutral, .int .i64 c.rated, .int .i64 c.heat, .int .i64 c.amb, .int .i64 c.most, .int .i64 c.gain, .int .i64 c.loss, .int .i64 c.den] 74) := ⟨_, rfl⟩
  have b0 : Below w.heap.size w W0 := by rw [hW0]; exact (Below.refl _ w).alloc (Nat.le_refl _) _
  have hs0 : w.heap.size < W0.heap.size := by rw [hW0]; simp
  have q1 : W0.cell? ⟨w.heap.size, 1, none⟩ = some (.int .i64 c.up) := by rw [hW0]; go_simp
  have q2 : W0.cell? ⟨w.heap.size, 2, none⟩ = some (.int .i64 c.limit) := by rw [hW0]; go_simp
  have q3 : W0.cell? ⟨w.heap.size, 3, none⟩ = some (.int .i64 c.neutral) := by rw [hW0]; go_simp
  have q4 : W0.cell? ⟨w.heap.size, 4, none⟩ = some (.int .i64 c.rated) := by rw [hW0]; go_simp
  have q5 : W0.cell? ⟨w.heap.size, 5, none⟩ = some (.int .i64 c.heat) := by rw [hW0]; go_simp
  have q6 : W0.cell? ⟨w.heap.size, 6, none⟩ = some (.int .i64 c.amb) := by rw [hW0]; go_simp
  have q7 : W0.cell? ⟨w.heap.size, 7, none⟩ = some (.int .i64 c.most) := by rw [hW0]; go_simp
  have q8 : W0.cell? ⟨w.heap.size, 8, none⟩ = some (.int .i64 c.gain) := by rw [hW0]; go_simp
  have q9 : W0.cell? ⟨w.heap.size, 9, none⟩ = some (.int .i64 c.loss) := by rw [hW0]; go_simp
  have q10 : W0.cell? ⟨w.heap.size, 10, none⟩ = some (.int .i64 c.den) := by rw [hW0]; go_simp
  have HW0 := Lib.hid hW0.symm
  have HB0 := Lib.hid b0
  have HS0 := Lib.hid hs0
  clear hW0 b0 hs0
  have HR : Hid (okCon i c = (rQ i c && okFuse c && okCable c)) := Lib.hid (by unfold okCon rQ; rw [rUpB_eq]; cases okUp i c.up <;> cases inside c.limit 1 1000 <;> cases inside c.neutral 1 1000 <;> rfl)
  go_enter Tryz.func32, Tryz.ntmps32
  go_upto_region 1 with (fail)
  rw [HW0.out]
  go_cut [7, 8, 9, 10, 11, 12, 13, 14, 15, 16, 17, 18, 19, 20, 21, 22, 23, 24, 25, 26, 27, 28, 29, 30, 31, 32, 33, 34, 35, 36, 37] (fun v7 v8 v9 v10 v11 v12 v13 v14 v15 v16 v17 v18 v19 v20 v21 v22 v23 v24 v25 v26 v27 v28 v29 v30 v31 v32 v33 v34 v35 v36 v37 wx => v37 = .bool (!rQ i c) ∧ Hid (W0 = wx))
  case first =>
    go_wp2_with fail
    refine (r4Inside_any c.limit 1 1000 _).mono ?_
    rintro e x1 ⟨rfl, hx1⟩
    subst hx1
    obtain ⟨z1, hz1⟩ : ∃ z, inside c.limit 1 1000 = z := ⟨_, rfl⟩
    have HZ1 := Lib.hid hz1
    rw [hz1]
    clear hz1
    cases z1
    · go_wp2_with fail
      try go_step
      go_meet
      exact ⟨by unfold rQ; simp [HZ1.out], Lib.hid rfl⟩
    · skip
      go_wp2_with fail
      refine (r4Inside_any c.neutral 1 1000 _).mono ?_
      rintro e x2 ⟨rfl, hx2⟩
      subst hx2
      obtain ⟨z2, hz2⟩ : ∃ z, inside c.neutral 1 1000 = z := ⟨_, rfl⟩
      have HZ2 := Lib.hid hz2
      rw [hz2]
      clear hz2
      cases z2
      · go_wp2_with fail
        try go_step
        go_meet
        exact ⟨by unfold rQ; simp [HZ1.out, HZ2.out], Lib.hid rfl⟩
      · skip
        obtain ⟨bi, hbi⟩ : ∃ z, ((i : Int) == 0) = z := ⟨_, rfl⟩
        have HBI := Lib.hid hbi
        cases bi
        · have h0 : (0 : Int) < (i : Int) := by simp at hbi; omega
          go_wp2_with fail
          refine (r4Inside_any c.up 0 ((i : Int) - 1) _).mono ?_
          rintro e x3 ⟨rfl, hx3⟩
          subst hx3
          obtain ⟨z3, hz3⟩ : ∃ z, inside c.up 0 ((i : Int) - 1) = z := ⟨_, rfl⟩
          have HZ3 := Lib.hid hz3
          rw [hz3]
          clear hz3
          cases z3
          · go_wp2_with fail
            try go_step
            go_meet
            exact ⟨by unfold rQ rUpB; simp only [HZ1.out, HZ2.out, HBI.out, HZ3.out]; rfl, Lib.hid rfl⟩
          · go_wp2_with fail
            try go_step
            go_meet
            exact ⟨by unfold rQ rUpB; simp only [HZ1.out, HZ2.out, HBI.out, HZ3.out]; rfl, Lib.hid rfl⟩
        · have h0 : ¬ (0 : Int) < (i : Int) := by simp at hbi; omega
          obtain ⟨bu, hbu⟩ : ∃ z, (c.up == -1) = z := ⟨_, rfl⟩
          have HBU := Lib.hid hbu
          have hbu2 : (c.up != -1) = !bu := by rw [← hbu]; rfl
          clear hbu
          cases bu
          · simp only [Bool.not_false, Bool.not_true] at hbu2
            go_wp2_with fail
            try go_step
            go_meet
            exact ⟨by unfold rQ rUpB; simp only [HZ1.out, HZ2.out, HBI.out, HBU.out]; rfl, Lib.hid rfl⟩
          · simp only [Bool.not_false, Bool.not_true] at hbu2
            go_wp2_with fail
            try go_step
            go_meet
            exact ⟨by unfold rQ rUpB; simp only [HZ1.out, HZ2.out, HBI.out, HBU.out]; rfl, Lib.hid rfl⟩
  case rest =>
    obtain ⟨rfl, hwx⟩ := hcut
    have hwx := hwx.out
    subst hwx
    obtain ⟨zq, hzq⟩ : ∃ z, rQ i c = z := ⟨_, rfl⟩
    have HZQ := Lib.hid hzq
    rw [hzq]
    clear hzq
    cases zq
    · have HF : Hid (false = okCon i c) := Lib.hid (by rw [HR.out, HZQ.out]; rfl)
      go_wp2_with fail
      go_ret
      exact ⟨ret_bool HF.out, HB0.out⟩
    · have HR2 : Hid (okCon i c = (okFuse c && okCable c)) := Lib.hid (by rw [HR.out, HZQ.out]; rfl)
      clear HR HZQ
      have hs0 := HS0.out
      obtain ⟨W5, hW5⟩ : ∃ W5, W5 = (W0.alloc (.cells #[.int .i64 c.rated, .int .i64 c.heat] 70)).alloc (.cells #[.int .i64 c.amb, .int .i64 c.most, .int .i64 c.gain, .int .i64 c.loss, .int .i64 c.den] 72) := ⟨_, rfl⟩
      have f0 : W5.cell? ⟨W0.heap.size, 0, none⟩ = some (.int .i64 c.rated) := by rw [hW5]; go_simp
      have f1 : W5.cell? ⟨W0.heap.size, 1, none⟩ = some (.int .i64 c.heat) := by rw [hW5]; go_simp
      have g0 : W5.cell? ⟨W0.heap.size + 1, 0, none⟩ = some (.int .i64 c.amb) := by rw [hW5]; go_simp
      have g1 : W5.cell? ⟨W0.heap.size + 1, 1, none⟩ = some (.int .i64 c.most) := by rw [hW5]; go_simp
      have g2 : W5.cell? ⟨W0.heap.size + 1, 2, none⟩ = some (.int .i64 c.gain) := by rw [hW5]; go_simp
      have g3 : W5.cell? ⟨W0.heap.size + 1, 3, none⟩ = some (.int .i64 c.loss) := by rw [hW5]; go_simp
      have g4 : W5.cell? ⟨W0.heap.size + 1, 4, none⟩ = some (.int .i64 c.den) := by rw [hW5]; go_simp
      have HB5 : Hid (Below w.heap.size w W5) := Lib.hid (by rw [hW5]; exact below_then HB0.out (((Below.refl _ _).alloc (Nat.le_refl _) _).alloc (by simp) _))
      have HW5 := Lib.hid hW5.symm
      clear hW5
      go_upto_region 5 with (fail)
      rw [HW5.out]
      clear q1 q2 q3 q4 q5 q6 q7 q8 q9 q10 HW5 HB0 HW0 HS0 hs0
      go_cut [42, 43, 44, 45, 46, 47, 48, 49, 50, 51, 52, 53, 54, 55, 56] (fun v42 v43 v44 v45 v46 v47 v48 v49 v50 v51 v52 v53 v54 v55 v56 wx => v56 = .bool (!okFuse c) ∧ Hid (W5 = wx))
      case first =>
        have HF1 : Hid (inside c.rated 1 1000 = true → inside c.heat 0 1000000 = true → okFuse c = true) := Lib.hid (fun h1 h2 => by
          have := inside_iff.1 h1; have := inside_iff.1 h2; unfold okFuse; simp only [decide_eq_true_eq]; omega)
        have HF2 : Hid ((c.rated == 0) = true → (c.heat == 0) = true → okFuse c = true) := Lib.hid (fun h1 h2 => by
          simp at h1 h2; unfold okFuse; simp only [decide_eq_true_eq]; omega)
        have HF3 : Hid (((c.rated == 0) = false ∨ (c.heat == 0) = false) → (inside c.rated 1 1000 = false ∨ inside c.heat 0 1000000 = false) → okFuse c = false) := Lib.hid (fun h1 h2 => by
          unfold okFuse
          simp only [decide_eq_false_iff_not]
          rintro (⟨e1, e2⟩ | ⟨e1, e2⟩)
          · rw [e1, e2] at h1; simp at h1
          · rw [inside_iff.2 e1, inside_iff.2 e2] at h2; simp at h2)
        obtain ⟨br, hbr⟩ : ∃ z, (c.rated == 0) = z := ⟨_, rfl⟩
        obtain ⟨bh, hbh⟩ : ∃ z, (c.heat == 0) = z := ⟨_, rfl⟩
        have HBR := Lib.hid hbr
        have HBH := Lib.hid hbh
        cases br <;> cases bh
        · skip
          go_wp2_with fail
          refine (r4Inside_any c.rated 1 1000 _).mono ?_
          rintro e x4 ⟨rfl, hx4⟩
          subst hx4
          obtain ⟨z4, hz4⟩ : ∃ z, inside c.rated 1 1000 = z := ⟨_, rfl⟩
          have HZ4 := Lib.hid hz4
          rw [hz4]
          clear hz4
          cases z4
          · skip
            go_wp2_with fail
            try go_step
            go_meet
            exact ⟨by rw [HF3.out (by first | exact .inl HBR.out | exact .inr HBH.out) (.inl HZ4.out)]; rfl, Lib.hid rfl⟩
          · skip
            go_wp2_with fail
            refine (r4Inside_any c.heat 0 1000000 _).mono ?_
            rintro e x5 ⟨rfl, hx5⟩
            subst hx5
            obtain ⟨z5, hz5⟩ : ∃ z, inside c.heat 0 1000000 = z := ⟨_, rfl⟩
            have HZ5 := Lib.hid hz5
            rw [hz5]
            clear hz5
            cases z5
            · skip
              go_wp2_with fail
              try go_step
              go_meet
              exact ⟨by rw [HF3.out (by first | exact .inl HBR.out | exact .inr HBH.out) (.inr HZ5.out)]; rfl, Lib.hid rfl⟩
            · skip
              go_wp2_with fail
              try go_step
              go_meet
              exact ⟨by rw [HF1.out HZ4.out HZ5.out]; rfl, Lib.hid rfl⟩
        · skip
          go_wp2_with fail
          refine (r4Inside_any c.rated 1 1000 _).mono ?_
          rintro e x4 ⟨rfl, hx4⟩
          subst hx4
          obtain ⟨z4, hz4⟩ : ∃ z, inside c.rated 1 1000 = z := ⟨_, rfl⟩
          have HZ4 := Lib.hid hz4
          rw [hz4]
          clear hz4
          cases z4
          · skip
            go_wp2_with fail
            try go_step
            go_meet
            exact ⟨by rw [HF3.out (by first | exact .inl HBR.out | exact .inr HBH.out) (.inl HZ4.out)]; rfl, Lib.hid rfl⟩
          · skip
            go_wp2_with fail
            refine (r4Inside_any c.heat 0 1000000 _).mono ?_
            rintro e x5 ⟨rfl, hx5⟩
            subst hx5
            obtain ⟨z5, hz5⟩ : ∃ z, inside c.heat 0 1000000 = z := ⟨_, rfl⟩
            have HZ5 := Lib.hid hz5
            rw [hz5]
            clear hz5
            cases z5
            · skip
              go_wp2_with fail
              try go_step
              go_meet
              exact ⟨by rw [HF3.out (by first | exact .inl HBR.out | exact .inr HBH.out) (.inr HZ5.out)]; rfl, Lib.hid rfl⟩
            · skip
              go_wp2_with fail
              try go_step
              go_meet
              exact ⟨by rw [HF1.out HZ4.out HZ5.out]; rfl, Lib.hid rfl⟩
        · skip
          go_wp2_with fail
          refine (r4Inside_any c.rated 1 1000 _).mono ?_
          rintro e x4 ⟨rfl, hx4⟩
          subst hx4
          obtain ⟨z4, hz4⟩ : ∃ z, inside c.rated 1 1000 = z := ⟨_, rfl⟩
          have HZ4 := Lib.hid hz4
          rw [hz4]
          clear hz4
          cases z4
          · skip
            go_wp2_with fail
            try go_step
            go_meet
            exact ⟨by rw [HF3.out (by first | exact .inl HBR.out | exact .inr HBH.out) (.inl HZ4.out)]; rfl, Lib.hid rfl⟩
          · skip
            go_wp2_with fail
            refine (r4Inside_any c.heat 0 1000000 _).mono ?_
            rintro e x5 ⟨rfl, hx5⟩
            subst hx5
            obtain ⟨z5, hz5⟩ : ∃ z, inside c.heat 0 1000000 = z := ⟨_, rfl⟩
            have HZ5 := Lib.hid hz5
            rw [hz5]
            clear hz5
            cases z5
            · skip
              go_wp2_with fail
              try go_step
              go_meet
              exact ⟨by rw [HF3.out (by first | exact .inl HBR.out | exact .inr HBH.out) (.inr HZ5.out)]; rfl, Lib.hid rfl⟩
            · skip
              go_wp2_with fail
              try go_step
              go_meet
              exact ⟨by rw [HF1.out HZ4.out HZ5.out]; rfl, Lib.hid rfl⟩
        · skip
          go_wp2_with fail
          try go_step
          go_meet
          exact ⟨by rw [HF2.out HBR.out HBH.out]; rfl, Lib.hid rfl⟩
      case rest =>
        obtain ⟨rfl, hwx⟩ := hcut
        have hwx := hwx.out
        subst hwx
        obtain ⟨zf, hzf⟩ : ∃ z, okFuse c = z := ⟨_, rfl⟩
        have HZF := Lib.hid hzf
        rw [hzf]
        clear hzf f0 f1
        cases zf
        · have HF : Hid (false = okCon i c) := Lib.hid (by rw [HR2.out, HZF.out]; rfl)
          go_wp2_with fail
          go_ret
          exact ⟨ret_bool HF.out, HB5.out⟩
        · have HR3 : Hid (okCable c = okCon i c) := Lib.hid (by rw [HR2.out, HZF.out]; rfl)
          clear HR2 HZF
          have HG0 : Hid ((c.amb == 0) = true → (c.most == 0) = true → (c.gain == 0) = true → (c.loss == 0) = true → (c.den == 0) = true → true = okCon i c) := Lib.hid (fun h0 h1 h2 h3 h4 => by
            rw [← HR3.out]; simp at h0 h1 h2 h3 h4; unfold okCable; symm; simp only [decide_eq_true_eq]; exact .inl ⟨h0, h1, h2, h3, h4⟩)
          have HG1 : Hid (inside c.amb 0 200000 = true → inside c.most (c.amb + 1) 200000 = true → inside c.gain 0 1000 = true → inside c.loss 0 1000 = true → inside c.den 1 1000000 = true → true = okCon i c) := Lib.hid (fun h0 h1 h2 h3 h4 => by
            rw [← HR3.out]; have := inside_iff.1 h0; have := inside_iff.1 h1; have := inside_iff.1 h2; have := inside_iff.1 h3; have := inside_iff.1 h4; unfold okCable; symm; simp only [decide_eq_true_eq]; omega)
          have HG2 : Hid (((c.amb == 0) = false ∨ (c.most == 0) = false ∨ (c.gain == 0) = false ∨ (c.loss == 0) = false ∨ (c.den == 0) = false) → (inside c.amb 0 200000 = false ∨ inside c.most (c.amb + 1) 200000 = false ∨ inside c.gain 0 1000 = false ∨ inside c.loss 0 1000 = false ∨ inside c.den 1 1000000 = false) → false = okCon i c) := Lib.hid (fun h0 h1 => by
            rw [← HR3.out]
            unfold okCable
            symm
            simp only [decide_eq_false_iff_not]
            rintro (⟨e0, e1, e2, e3, e4⟩ | ⟨e0, e1, e2, e3, e4, e5⟩)
            · rw [e0, e1, e2, e3, e4] at h0; simp at h0
            · rcases h1 with h | h | h | h | h
              · rw [inside_iff.2 (by omega)] at h; cases h
              · rw [inside_iff.2 (by omega)] at h; cases h
              · rw [inside_iff.2 (by omega)] at h; cases h
              · rw [inside_iff.2 (by omega)] at h; cases h
              · rw [inside_iff.2 (by omega)] at h; cases h)
          clear HR3
          obtain ⟨y0, hy0⟩ : ∃ z, (c.amb == 0) = z := ⟨_, rfl⟩
          have HY0 := Lib.hid hy0
          cases y0
          · skip
            go_wp2_with fail
            refine (r4Inside_any c.amb 0 200000 _).mono ?_
            rintro e x6 ⟨rfl, hx6⟩
            subst hx6
            obtain ⟨z6, hz6⟩ : ∃ z, inside c.amb 0 200000 = z := ⟨_, rfl⟩
            have HZ6 := Lib.hid hz6
            rw [hz6]
            clear hz6
            cases z6
            · skip
              have HF := Lib.hid (HG2.out (.inl HY0.out) (.inl HZ6.out))
              clear HG0 HG1 HG2
              go_wp2_with fail
              go_ret
              exact ⟨ret_bool HF.out, HB5.out⟩
            · skip
              have h01 := inside_iff.1 HZ6.out
              go_wp2_with fail
              refine (r4Inside_any c.most (c.amb + 1) 200000 _).mono ?_
              rintro e x7 ⟨rfl, hx7⟩
              subst hx7
              obtain ⟨z7, hz7⟩ : ∃ z, inside c.most (c.amb + 1) 200000 = z := ⟨_, rfl⟩
              have HZ7 := Lib.hid hz7
              rw [hz7]
              clear hz7
              cases z7
              · skip
                have HF := Lib.hid (HG2.out (.inl HY0.out) (.inr (.inl HZ7.out)))
                clear HG0 HG1 HG2
                go_wp2_with fail
                go_ret
                exact ⟨ret_bool HF.out, HB5.out⟩
              · skip
                go_wp2_with fail
                refine (r4Inside_any c.gain 0 1000 _).mono ?_
                rintro e x8 ⟨rfl, hx8⟩
                subst hx8
                obtain ⟨z8, hz8⟩ : ∃ z, inside c.gain 0 1000 = z := ⟨_, rfl⟩
                have HZ8 := Lib.hid hz8
                rw [hz8]
                clear hz8
                cases z8
                · skip
                  have HF := Lib.hid (HG2.out (.inl HY0.out) (.inr (.inr (.inl HZ8.out))))
                  clear HG0 HG1 HG2
                  go_wp2_with fail
                  go_ret
                  exact ⟨ret_bool HF.out, HB5.out⟩
                · skip
                  go_wp2_with fail
                  refine (r4Inside_any c.loss 0 1000 _).mono ?_
                  rintro e x9 ⟨rfl, hx9⟩
                  subst hx9
                  obtain ⟨z9, hz9⟩ : ∃ z, inside c.loss 0 1000 = z := ⟨_, rfl⟩
                  have HZ9 := Lib.hid hz9
                  rw [hz9]
                  clear hz9
                  cases z9
                  · skip
                    have HF := Lib.hid (HG2.out (.inl HY0.out) (.inr (.inr (.inr (.inl HZ9.out)))))
                    clear HG0 HG1 HG2
                    go_wp2_with fail
                    go_ret
                    exact ⟨ret_bool HF.out, HB5.out⟩
                  · skip
                    go_wp2_with fail
                    refine (r4Inside_any c.den 1 1000000 _).mono ?_
                    rintro e x10 ⟨rfl, hx10⟩
                    subst hx10
                    obtain ⟨z10, hz10⟩ : ∃ z, inside c.den 1 1000000 = z := ⟨_, rfl⟩
                    have HZ10 := Lib.hid hz10
                    rw [hz10]
                    clear hz10
                    cases z10
                    · skip
                      have HF := Lib.hid (HG2.out (.inl HY0.out) (.inr (.inr (.inr (.inr (HZ10.out))))))
                      clear HG0 HG1 HG2
                      go_wp2_with fail
                      go_ret
                      exact ⟨ret_bool HF.out, HB5.out⟩
                    · skip
                      have HF := Lib.hid (HG1.out HZ6.out HZ7.out HZ8.out HZ9.out HZ10.out)
                      clear HG0 HG1 HG2
                      go_wp2_with fail
                      go_ret
                      exact ⟨ret_bool HF.out, HB5.out⟩
          · skip
            obtain ⟨y1, hy1⟩ : ∃ z, (c.most == 0) = z := ⟨_, rfl⟩
            have HY1 := Lib.hid hy1
            cases y1
            · skip
              go_wp2_with fail
              refine (r4Inside_any c.amb 0 200000 _).mono ?_
              rintro e x6 ⟨rfl, hx6⟩
              subst hx6
              obtain ⟨z6, hz6⟩ : ∃ z, inside c.amb 0 200000 = z := ⟨_, rfl⟩
              have HZ6 := Lib.hid hz6
              rw [hz6]
              clear hz6
              cases z6
              · skip
                have HF := Lib.hid (HG2.out (.inr (.inl HY1.out)) (.inl HZ6.out))
                clear HG0 HG1 HG2
                go_wp2_with fail
                go_ret
                exact ⟨ret_bool HF.out, HB5.out⟩
              · skip
                have h01 := inside_iff.1 HZ6.out
                go_wp2_with fail
                refine (r4Inside_any c.most (c.amb + 1) 200000 _).mono ?_
                rintro e x7 ⟨rfl, hx7⟩
                subst hx7
                obtain ⟨z7, hz7⟩ : ∃ z, inside c.most (c.amb + 1) 200000 = z := ⟨_, rfl⟩
                have HZ7 := Lib.hid hz7
                rw [hz7]
                clear hz7
                cases z7
                · skip
                  have HF := Lib.hid (HG2.out (.inr (.inl HY1.out)) (.inr (.inl HZ7.out)))
                  clear HG0 HG1 HG2
                  go_wp2_with fail
                  go_ret
                  exact ⟨ret_bool HF.out, HB5.out⟩
                · skip
                  go_wp2_with fail
                  refine (r4Inside_any c.gain 0 1000 _).mono ?_
                  rintro e x8 ⟨rfl, hx8⟩
                  subst hx8
                  obtain ⟨z8, hz8⟩ : ∃ z, inside c.gain 0 1000 = z := ⟨_, rfl⟩
                  have HZ8 := Lib.hid hz8
                  rw [hz8]
                  clear hz8
                  cases z8
                  · skip
                    have HF := Lib.hid (HG2.out (.inr (.inl HY1.out)) (.inr (.inr (.inl HZ8.out))))
                    clear HG0 HG1 HG2
                    go_wp2_with fail
                    go_ret
                    exact ⟨ret_bool HF.out, HB5.out⟩
                  · skip
                    go_wp2_with fail
                    refine (r4Inside_any c.loss 0 1000 _).mono ?_
                    rintro e x9 ⟨rfl, hx9⟩
                    subst hx9
                    obtain ⟨z9, hz9⟩ : ∃ z, inside c.loss 0 1000 = z := ⟨_, rfl⟩
                    have HZ9 := Lib.hid hz9
                    rw [hz9]
                    clear hz9
                    cases z9
                    · skip
                      have HF := Lib.hid (HG2.out (.inr (.inl HY1.out)) (.inr (.inr (.inr (.inl HZ9.out)))))
                      clear HG0 HG1 HG2
                      go_wp2_with fail
                      go_ret
                      exact ⟨ret_bool HF.out, HB5.out⟩
                    · skip
                      go_wp2_with fail
                      refine (r4Inside_any c.den 1 1000000 _).mono ?_
                      rintro e x10 ⟨rfl, hx10⟩
                      subst hx10
                      obtain ⟨z10, hz10⟩ : ∃ z, inside c.den 1 1000000 = z := ⟨_, rfl⟩
                      have HZ10 := Lib.hid hz10
                      rw [hz10]
                      clear hz10
                      cases z10
                      · skip
                        have HF := Lib.hid (HG2.out (.inr (.inl HY1.out)) (.inr (.inr (.inr (.inr (HZ10.out))))))
                        clear HG0 HG1 HG2
                        go_wp2_with fail
                        go_ret
                        exact ⟨ret_bool HF.out, HB5.out⟩
                      · skip
                        have HF := Lib.hid (HG1.out HZ6.out HZ7.out HZ8.out HZ9.out HZ10.out)
                        clear HG0 HG1 HG2
                        go_wp2_with fail
                        go_ret
                        exact ⟨ret_bool HF.out, HB5.out⟩
            · skip
              obtain ⟨y2, hy2⟩ : ∃ z, (c.gain == 0) = z := ⟨_, rfl⟩
              have HY2 := Lib.hid hy2
              cases y2
              · skip
                go_wp2_with fail
                refine (r4Inside_any c.amb 0 200000 _).mono ?_
                rintro e x6 ⟨rfl, hx6⟩
                subst hx6
                obtain ⟨z6, hz6⟩ : ∃ z, inside c.amb 0 200000 = z := ⟨_, rfl⟩
                have HZ6 := Lib.hid hz6
                rw [hz6]
                clear hz6
                cases z6
                · skip
                  have HF := Lib.hid (HG2.out (.inr (.inr (.inl HY2.out))) (.inl HZ6.out))
                  clear HG0 HG1 HG2
                  go_wp2_with fail
                  go_ret
                  exact ⟨ret_bool HF.out, HB5.out⟩
                · skip
                  have h01 := inside_iff.1 HZ6.out
                  go_wp2_with fail
                  refine (r4Inside_any c.most (c.amb + 1) 200000 _).mono ?_
                  rintro e x7 ⟨rfl, hx7⟩
                  subst hx7
                  obtain ⟨z7, hz7⟩ : ∃ z, inside c.most (c.amb + 1) 200000 = z := ⟨_, rfl⟩
                  have HZ7 := Lib.hid hz7
                  rw [hz7]
                  clear hz7
                  cases z7
                  · skip
                    have HF := Lib.hid (HG2.out (.inr (.inr (.inl HY2.out))) (.inr (.inl HZ7.out)))
                    clear HG0 HG1 HG2
                    go_wp2_with fail
                    go_ret
                    exact ⟨ret_bool HF.out, HB5.out⟩
                  · skip
                    go_wp2_with fail
                    refine (r4Inside_any c.gain 0 1000 _).mono ?_
                    rintro e x8 ⟨rfl, hx8⟩
                    subst hx8
                    obtain ⟨z8, hz8⟩ : ∃ z, inside c.gain 0 1000 = z := ⟨_, rfl⟩
                    have HZ8 := Lib.hid hz8
                    rw [hz8]
                    clear hz8
                    cases z8
                    · skip
                      have HF := Lib.hid (HG2.out (.inr (.inr (.inl HY2.out))) (.inr (.inr (.inl HZ8.out))))
                      clear HG0 HG1 HG2
                      go_wp2_with fail
                      go_ret
                      exact ⟨ret_bool HF.out, HB5.out⟩
                    · skip
                      go_wp2_with fail
                      refine (r4Inside_any c.loss 0 1000 _).mono ?_
                      rintro e x9 ⟨rfl, hx9⟩
                      subst hx9
                      obtain ⟨z9, hz9⟩ : ∃ z, inside c.loss 0 1000 = z := ⟨_, rfl⟩
                      have HZ9 := Lib.hid hz9
                      rw [hz9]
                      clear hz9
                      cases z9
                      · skip
                        have HF := Lib.hid (HG2.out (.inr (.inr (.inl HY2.out))) (.inr (.inr (.inr (.inl HZ9.out)))))
                        clear HG0 HG1 HG2
                        go_wp2_with fail
                        go_ret
                        exact ⟨ret_bool HF.out, HB5.out⟩
                      · skip
                        go_wp2_with fail
                        refine (r4Inside_any c.den 1 1000000 _).mono ?_
                        rintro e x10 ⟨rfl, hx10⟩
                        subst hx10
                        obtain ⟨z10, hz10⟩ : ∃ z, inside c.den 1 1000000 = z := ⟨_, rfl⟩
                        have HZ10 := Lib.hid hz10
                        rw [hz10]
                        clear hz10
                        cases z10
                        · skip
                          have HF := Lib.hid (HG2.out (.inr (.inr (.inl HY2.out))) (.inr (.inr (.inr (.inr (HZ10.out))))))
                          clear HG0 HG1 HG2
                          go_wp2_with fail
                          go_ret
                          exact ⟨ret_bool HF.out, HB5.out⟩
                        · skip
                          have HF := Lib.hid (HG1.out HZ6.out HZ7.out HZ8.out HZ9.out HZ10.out)
                          clear HG0 HG1 HG2
                          go_wp2_with fail
                          go_ret
                          exact ⟨ret_bool HF.out, HB5.out⟩
              · skip
                obtain ⟨y3, hy3⟩ : ∃ z, (c.loss == 0) = z := ⟨_, rfl⟩
                have HY3 := Lib.hid hy3
                cases y3
                · skip
                  go_wp2_with fail
                  refine (r4Inside_any c.amb 0 200000 _).mono ?_
                  rintro e x6 ⟨rfl, hx6⟩
                  subst hx6
                  obtain ⟨z6, hz6⟩ : ∃ z, inside c.amb 0 200000 = z := ⟨_, rfl⟩
                  have HZ6 := Lib.hid hz6
                  rw [hz6]
                  clear hz6
                  cases z6
                  · skip
                    have HF := Lib.hid (HG2.out (.inr (.inr (.inr (.inl HY3.out)))) (.inl HZ6.out))
                    clear HG0 HG1 HG2
                    go_wp2_with fail
                    go_ret
                    exact ⟨ret_bool HF.out, HB5.out⟩
                  · skip
                    have h01 := inside_iff.1 HZ6.out
                    go_wp2_with fail
                    refine (r4Inside_any c.most (c.amb + 1) 200000 _).mono ?_
                    rintro e x7 ⟨rfl, hx7⟩
                    subst hx7
                    obtain ⟨z7, hz7⟩ : ∃ z, inside c.most (c.amb + 1) 200000 = z := ⟨_, rfl⟩
                    have HZ7 := Lib.hid hz7
                    rw [hz7]
                    clear hz7
                    cases z7
                    · skip
                      have HF := Lib.hid (HG2.out (.inr (.inr (.inr (.inl HY3.out)))) (.inr (.inl HZ7.out)))
                      clear HG0 HG1 HG2
                      go_wp2_with fail
                      go_ret
                      exact ⟨ret_bool HF.out, HB5.out⟩
                    · skip
                      go_wp2_with fail
                      refine (r4Inside_any c.gain 0 1000 _).mono ?_
                      rintro e x8 ⟨rfl, hx8⟩
                      subst hx8
                      obtain ⟨z8, hz8⟩ : ∃ z, inside c.gain 0 1000 = z := ⟨_, rfl⟩
                      have HZ8 := Lib.hid hz8
                      rw [hz8]
                      clear hz8
                      cases z8
                      · skip
                        have HF := Lib.hid (HG2.out (.inr (.inr (.inr (.inl HY3.out)))) (.inr (.inr (.inl HZ8.out))))
                        clear HG0 HG1 HG2
                        go_wp2_with fail
                        go_ret
                        exact ⟨ret_bool HF.out, HB5.out⟩
                      · skip
                        go_wp2_with fail
                        refine (r4Inside_any c.loss 0 1000 _).mono ?_
                        rintro e x9 ⟨rfl, hx9⟩
                        subst hx9
                        obtain ⟨z9, hz9⟩ : ∃ z, inside c.loss 0 1000 = z := ⟨_, rfl⟩
                        have HZ9 := Lib.hid hz9
                        rw [hz9]
                        clear hz9
                        cases z9
                        · skip
                          have HF := Lib.hid (HG2.out (.inr (.inr (.inr (.inl HY3.out)))) (.inr (.inr (.inr (.inl HZ9.out)))))
                          clear HG0 HG1 HG2
                          go_wp2_with fail
                          go_ret
                          exact ⟨ret_bool HF.out, HB5.out⟩
                        · skip
                          go_wp2_with fail
                          refine (r4Inside_any c.den 1 1000000 _).mono ?_
                          rintro e x10 ⟨rfl, hx10⟩
                          subst hx10
                          obtain ⟨z10, hz10⟩ : ∃ z, inside c.den 1 1000000 = z := ⟨_, rfl⟩
                          have HZ10 := Lib.hid hz10
                          rw [hz10]
                          clear hz10
                          cases z10
                          · skip
                            have HF := Lib.hid (HG2.out (.inr (.inr (.inr (.inl HY3.out)))) (.inr (.inr (.inr (.inr (HZ10.out))))))
                            clear HG0 HG1 HG2
                            go_wp2_with fail
                            go_ret
                            exact ⟨ret_bool HF.out, HB5.out⟩
                          · skip
                            have HF := Lib.hid (HG1.out HZ6.out HZ7.out HZ8.out HZ9.out HZ10.out)
                            clear HG0 HG1 HG2
                            go_wp2_with fail
                            go_ret
                            exact ⟨ret_bool HF.out, HB5.out⟩
                · skip
                  obtain ⟨y4, hy4⟩ : ∃ z, (c.den == 0) = z := ⟨_, rfl⟩
                  have HY4 := Lib.hid hy4
                  cases y4
                  · skip
                    go_wp2_with fail
                    refine (r4Inside_any c.amb 0 200000 _).mono ?_
                    rintro e x6 ⟨rfl, hx6⟩
                    subst hx6
                    obtain ⟨z6, hz6⟩ : ∃ z, inside c.amb 0 200000 = z := ⟨_, rfl⟩
                    have HZ6 := Lib.hid hz6
                    rw [hz6]
                    clear hz6
                    cases z6
                    · skip
                      have HF := Lib.hid (HG2.out (.inr (.inr (.inr (.inr (HY4.out))))) (.inl HZ6.out))
                      clear HG0 HG1 HG2
                      go_wp2_with fail
                      go_ret
                      exact ⟨ret_bool HF.out, HB5.out⟩
                    · skip
                      have h01 := inside_iff.1 HZ6.out
                      go_wp2_with fail
                      refine (r4Inside_any c.most (c.amb + 1) 200000 _).mono ?_
                      rintro e x7 ⟨rfl, hx7⟩
                      subst hx7
                      obtain ⟨z7, hz7⟩ : ∃ z, inside c.most (c.amb + 1) 200000 = z := ⟨_, rfl⟩
                      have HZ7 := Lib.hid hz7
                      rw [hz7]
                      clear hz7
                      cases z7
                      · skip
                        have HF := Lib.hid (HG2.out (.inr (.inr (.inr (.inr (HY4.out))))) (.inr (.inl HZ7.out)))
                        clear HG0 HG1 HG2
                        go_wp2_with fail
                        go_ret
                        exact ⟨ret_bool HF.out, HB5.out⟩
                      · skip
                        go_wp2_with fail
                        refine (r4Inside_any c.gain 0 1000 _).mono ?_
                        rintro e x8 ⟨rfl, hx8⟩
                        subst hx8
                        obtain ⟨z8, hz8⟩ : ∃ z, inside c.gain 0 1000 = z := ⟨_, rfl⟩
                        have HZ8 := Lib.hid hz8
                        rw [hz8]
                        clear hz8
                        cases z8
                        · skip
                          have HF := Lib.hid (HG2.out (.inr (.inr (.inr (.inr (HY4.out))))) (.inr (.inr (.inl HZ8.out))))
                          clear HG0 HG1 HG2
                          go_wp2_with fail
                          go_ret
                          exact ⟨ret_bool HF.out, HB5.out⟩
                        · skip
                          go_wp2_with fail
                          refine (r4Inside_any c.loss 0 1000 _).mono ?_
                          rintro e x9 ⟨rfl, hx9⟩
                          subst hx9
                          obtain ⟨z9, hz9⟩ : ∃ z, inside c.loss 0 1000 = z := ⟨_, rfl⟩
                          have HZ9 := Lib.hid hz9
                          rw [hz9]
                          clear hz9
                          cases z9
                          · skip
                            have HF := Lib.hid (HG2.out (.inr (.inr (.inr (.inr (HY4.out))))) (.inr (.inr (.inr (.inl HZ9.out)))))
                            clear HG0 HG1 HG2
                            go_wp2_with fail
                            go_ret
                            exact ⟨ret_bool HF.out, HB5.out⟩
                          · skip
                            go_wp2_with fail
                            refine (r4Inside_any c.den 1 1000000 _).mono ?_
                            rintro e x10 ⟨rfl, hx10⟩
                            subst hx10
                            obtain ⟨z10, hz10⟩ : ∃ z, inside c.den 1 1000000 = z := ⟨_, rfl⟩
                            have HZ10 := Lib.hid hz10
                            rw [hz10]
                            clear hz10
                            cases z10
                            · skip
                              have HF := Lib.hid (HG2.out (.inr (.inr (.inr (.inr (HY4.out))))) (.inr (.inr (.inr (.inr (HZ10.out))))))
                              clear HG0 HG1 HG2
                              go_wp2_with fail
                              go_ret
                              exact ⟨ret_bool HF.out, HB5.out⟩
                            · skip
                              have HF := Lib.hid (HG1.out HZ6.out HZ7.out HZ8.out HZ9.out HZ10.out)
                              clear HG0 HG1 HG2
                              go_wp2_with fail
                              go_ret
                              exact ⟨ret_bool HF.out, HB5.out⟩
                  · skip
                    have HF := Lib.hid (HG0.out HY0.out HY1.out HY2.out HY3.out HY4.out)
                    clear HG0 HG1 HG2
                    go_wp2_with fail
                    go_ret
                    exact ⟨ret_bool HF.out, HB5.out⟩
end Go.Proofs.YtpkonifeieepfaaGreat
/-
The reference's Valid of a site, walked.
-/
namespace Go.Proofs.YtpkonifeieepfaaGreat
open Go.RowKit
set_option linter.unusedVariables false
set_option linter.unusedSimpArgs false
theorem below_drewG {B : Nat} {w w' : World} (n : Nat) (h : Below B w w') : Below B w (w'.drewN n) := ⟨h.os, h.tape, h.output, h.size, h.block⟩
theorem okChg_r (n1 n2 : Nat) (c : GChg) : okChg n1 n2 c = (rChgB c && (inside c.place 0 ((n1 : Int) - 1) && inside c.own 0 ((n2 : Int) - 1))) := by
  rw [Bool.eq_iff_iff]
  unfold okChg rChgB
  simp only [Bool.and_eq_true, Bool.or_eq_true, inside_iff, decide_eq_true_eq, beq_iff_eq]
  omega
set_option maxRecDepth 100000 in
set_option maxHeartbeats 16000000 in
theorem r4Valid_any (a1 a2 a3 a4 a5 : Option Addr) (n1 c1 n2 c2 n3 c3 n4 c4 n5 c5 : Nat) (s : GSite) (w : World) (HS : Hid (RdSite w a1 a2 a3 a4 a5 n1 n2 n3 n4 n5 s)) :
    Calls Tryz.prog 14 #[.agg #[.slice a1 n1 c1, .slice a2 n2 c2, .slice a3 n3 c3, .slice a4 n4 c4, .slice a5 n5 c5]] w fun e w' => e = .returned (.bool (okSB keyL s)) ∧ Below w.heap.size w w' := by
  obtain ⟨m1, m2, m3, m4, m5⟩ : n1 ≤ 9223372036854775807 ∧ n2 ≤ 9223372036854775807 ∧ n3 ≤ 9223372036854775807 ∧ n4 ≤ 9223372036854775807 ∧ n5 ≤ 9223372036854775807 := ⟨HS.out.m1, HS.out.m2, HS.out.m3, HS.out.m4, HS.out.m5⟩
  obtain ⟨W0, hW0⟩ : ∃ W0, W0 = w.alloc (.cells #[.slice a1 n1 c1, .slice a2 n2 c2, .slice a3 n3 c3, .slice a4 n4 c4, .slice a5 n5 c5] 28) := ⟨_, rfl⟩
  have b0 : Below w.heap.size w W0 := by rw [hW0]; exact (Below.refl _ w).alloc (Nat.le_refl _) _
  have hs0 : w.heap.size < W0.heap.size := by rw [hW0]; simp
  have q0 : W0.cell? ⟨w.heap.size, 0, none⟩ = some (.slice a1 n1 c1) := by rw [hW0]; go_simp
  have q1 : W0.cell? ⟨w.heap.size, 1, none⟩ = some (.slice a2 n2 c2) := by rw [hW0]; go_simp
  have q2 : W0.cell? ⟨w.heap.size, 2, none⟩ = some (.slice a3 n3 c3) := by rw [hW0]; go_simp
  have q3 : W0.cell? ⟨w.heap.size, 3, none⟩ = some (.slice a4 n4 c4) := by rw [hW0]; go_simp
  have q4 : W0.cell? ⟨w.heap.size, 4, none⟩ = some (.slice a5 n5 c5) := by rw [hW0]; go_simp
  have HW0 := Lib.hid hW0.symm
  have HB0 := Lib.hid b0
  have HSW := Lib.hid (HS.out.keep b0)
  have HL : Hid (s.cons.length = n1 ∧ s.owns.length = n2 ∧ s.ctrs.length = n3 ∧ s.chgs.length = n4 ∧ s.bays.length = n5) := Lib.hid ⟨HS.out.l1, HS.out.l2, HS.out.l3, HS.out.l4, HS.out.l5⟩
  clear hW0 b0 HS
  go_enter Tryz.func14, Tryz.ntmps14
  go_upto_region 1 with (fail)
  rw [HW0.out]
  go_cut [10, 11, 12, 13, 14, 15, 16, 17, 18, 19, 20, 21, 22, 23, 24, 25, 26, 27, 28, 29, 30, 31, 32, 33, 34, 35, 36, 37, 38, 39, 40, 41, 42, 43] (fun v10 v11 v12 v13 v14 v15 v16 v17 v18 v19 v20 v21 v22 v23 v24 v25 v26 v27 v28 v29 v30 v31 v32 v33 v34 v35 v36 v37 v38 v39 v40 v41 v42 v43 wx => ∃ zq : Bool, v43 = .bool zq ∧ Hid (zq = true → false = okSB keyL s) ∧ Hid (zq = false → ((1 ≤ n1 ∧ n1 ≤ 16) ∧ n2 ≤ 8 ∧ n3 ≤ 32 ∧ n4 ≤ 16 ∧ n5 ≤ 24 ∧ okNamesP keyL (allNames s))) ∧ Hid (Below W0.heap.size W0 wx))
  case first =>
    go_wp2_with fail
    refine (r4Inside_any (n1 : Int) 1 16 _).mono ?_
    rintro e x1 ⟨rfl, hx1⟩
    subst x1
    obtain ⟨z1, hz1⟩ : ∃ z, inside (n1 : Int) 1 16 = z := ⟨_, rfl⟩
    have HZ1 := Lib.hid hz1
    rw [hz1]
    clear hz1
    cases z1
    · have HF : Hid (false = okSB keyL s) := Lib.hid (okSB_of (fun h => by
        have e1 := h.n1; have e2 := h.n2; rw [HL.out.1] at e1 e2
        have := HZ1.out
        rw [inside_iff.2 ⟨by omega, by omega⟩] at this; cases this))
      go_wp2_with fail
      try go_step
      go_meet
      exact ⟨true, rfl, Lib.hid (fun _ => HF.out), Lib.hid (fun h => (by cases h)), Lib.hid (Below.refl _ _)⟩
    have h1 : 1 ≤ n1 ∧ n1 ≤ 16 := by have := inside_iff.1 HZ1.out; omega
    by_cases h2 : n2 ≤ 8
    case neg =>
      have HF : Hid (false = okSB keyL s) := Lib.hid (okSB_of (fun h => h2 (by have := h.n3; rw [HL.out.2.1] at this; exact this)))
      have hz2 : (8 : Int) < (n2 : Int) := by omega
      clear h2
      go_wp2_with fail
      try go_step
      go_meet
      exact ⟨true, rfl, Lib.hid (fun _ => HF.out), Lib.hid (fun h => (by cases h)), Lib.hid (Below.refl _ _)⟩
    have hz2 : ¬ (8 : Int) < (n2 : Int) := by omega
    by_cases h3 : n3 ≤ 32
    case neg =>
      have HF : Hid (false = okSB keyL s) := Lib.hid (okSB_of (fun h => h3 (by have := h.n4; rw [HL.out.2.2.1] at this; exact this)))
      have hz3 : (32 : Int) < (n3 : Int) := by omega
      clear h3
      go_wp2_with fail
      try go_step
      go_meet
      exact ⟨true, rfl, Lib.hid (fun _ => HF.out), Lib.hid (fun h => (by cases h)), Lib.hid (Below.refl _ _)⟩
    have hz3 : ¬ (32 : Int) < (n3 : Int) := by omega
    by_cases h4 : n4 ≤ 16
    case neg =>
      have HF : Hid (false = okSB keyL s) := Lib.hid (okSB_of (fun h => h4 (by have := h.n5; rw [HL.out.2.2.2.1] at this; exact this)))
      have hz4 : (16 : Int) < (n4 : Int) := by omega
      clear h4
      go_wp2_with fail
      try go_step
      go_meet
      exact ⟨true, rfl, Lib.hid (fun _ => HF.out), Lib.hid (fun h => (by cases h)), Lib.hid (Below.refl _ _)⟩
    have hz4 : ¬ (16 : Int) < (n4 : Int) := by omega
    by_cases h5 : n5 ≤ 24
    case neg =>
      have HF : Hid (false = okSB keyL s) := Lib.hid (okSB_of (fun h => h5 (by have := h.n6; rw [HL.out.2.2.2.2] at this; exact this)))
      have hz5 : (24 : Int) < (n5 : Int) := by omega
      clear h5
      go_wp2_with fail
      try go_step
      go_meet
      exact ⟨true, rfl, Lib.hid (fun _ => HF.out), Lib.hid (fun h => (by cases h)), Lib.hid (Below.refl _ _)⟩
    have hz5 : ¬ (24 : Int) < (n5 : Int) := by omega
    go_wp2_with fail
    refine (r4Names_any a1 a2 a3 a4 a5 n1 c1 n2 c2 n3 c3 n4 c4 n5 c5 s W0 HSW h1.2 h2 h3 h4 h5).mono ?_
    rintro e x2 ⟨rfl, hb2⟩
    have HB2 := Lib.hid hb2
    clear hb2
    obtain ⟨z2, hz2⟩ : ∃ z, okNamesB keyL (allNames s) = z := ⟨_, rfl⟩
    have HZ2 := Lib.hid hz2
    rw [hz2]
    clear hz2
    cases z2
    · go_wp2_with fail
      try go_step
      go_meet
      exact ⟨true, rfl, Lib.hid (fun _ => okSB_of (fun h => by
        have := okNamesB_iff.2 h.names
        rw [HZ2.out] at this; cases this)), Lib.hid (fun h => (by cases h)), HB2⟩
    · go_wp2_with fail
      try go_step
      go_meet
      exact ⟨false, by first | rfl | (refine congrArg Value.bool ?_; rw [Bool.eq_false_iff]; simp only [ne_eq, Bool.or_eq_true, decide_eq_true_eq]; omega), Lib.hid (fun h => (by cases h)), Lib.hid (fun _ => ⟨h1, h2, h3, h4, h5, okNamesB_iff.1 HZ2.out⟩), HB2⟩
  case rest =>
    obtain ⟨zq, rfl, HQ1, HQ2, HBC⟩ := hcut
    cases zq
    case true =>
      have HF := Lib.hid (HQ1.out rfl)
      have HE := Lib.hid (below_then HB0.out HBC.out)
      clear HQ1 HQ2
      go_wp2_with fail
      go_ret
      exact ⟨ret_bool HF.out, HE.out⟩
    case false =>
      obtain ⟨⟨ha1, ha2⟩, ha3, ha4, ha5, ha6, HNM0⟩ := HQ2.out rfl
      have HNM := Lib.hid HNM0
      clear HQ1 HQ2 HNM0
      go_wp2_with fail
      go_loopg [3] n1 (fun g1 v3 wr => ∃ k : Nat, v3 = .int .i64 k ∧ k ≤ n1 ∧ n1 - k ≤ g1 ∧ Hid (∀ i c, i < k → s.cons[i]? = some c → okCon i c = true) ∧ Hid (Below W0.heap.size W0 wr))
      case atStart => exact ⟨0, by go_num, by omega, by omega, Lib.hid (fun i c hi => by omega), HBC⟩
      case round =>
        clear HBC
        obtain ⟨k, rfl, hk, hg1, HA, HB⟩ := hrel
        have p0 := (HB.out.cell (p := ⟨w.heap.size, 0, none⟩) hs0).trans q0
        by_cases hlt : k < n1
        · have hltz : (k : Int) < (n1 : Int) := by omega
          obtain ⟨b, off, c, hbe, hbl, hc, k0, k1, k2, k3, k4, k5, k6, k7, k8, k9, k10⟩ := rdCon_at (HSW.out.r1.keep HB.out) (k := k) (by rw [HSW.out.l1]; exact hlt)
          have hCall := Lib.hid (r4Con_any c k wr (by omega))
          have HC := Lib.hid hc
          subst hbe
          clear hc
          go_wp2_with fail
          refine hCall.out.mono ?_
          rintro e w5 ⟨rfl, hb5⟩
          have HB5 := Lib.hid (HB.out.trans (hb5.mono HB.out.size))
          clear hb5 HB p0 hCall k0 k1 k2 k3 k4 k5 k6 k7 k8 k9 k10
          obtain ⟨z, hz⟩ : ∃ z, okCon k c = z := ⟨_, rfl⟩
          rw [hz]
          have HZ := Lib.hid hz
          clear hz
          cases z
          · have HF : Hid (false = okSB keyL s) := Lib.hid (okSB_of (fun h => by have := h.con k c HC.out; rw [HZ.out] at this; cases this))
            have HE := Lib.hid (below_then HB0.out HB5.out)
            go_wp2_with fail
            go_ret
            exact ⟨ret_bool HF.out, HE.out⟩
          · have HA2 : Hid (∀ i c, i < k + 1 → s.cons[i]? = some c → okCon i c = true) := Lib.hid (fun i c' hi hc' => by
              by_cases e : i = k
              · subst e
                rw [HC.out] at hc'
                injection hc' with hc'
                rw [← hc']; exact HZ.out
              · exact HA.out i c' (by omega) hc')
            clear HA
            go_wp2_with fail
            go_roundg (n1 - (k + 1))
            case measure => omega
            case rel => exact ⟨k + 1, by go_num, by omega, by omega, HA2, HB5⟩
        · have hltz : ¬ (k : Int) < (n1 : Int) := by omega
          have HCON : Hid (∀ i c, s.cons[i]? = some c → okCon i c = true) := Lib.hid (fun i c hc => HA.out i c (by have := (List.getElem?_eq_some_iff.1 hc).1; rw [HL.out.1] at this; omega) hc)
          have HB1 := HB
          have p2 := (HB.out.cell (p := ⟨w.heap.size, 2, none⟩) hs0).trans q2
          clear HA HB hk hg1 hlt
          go_wp2_with fail
          clear p0 p2
          go_loopg [4, 5, 6] n3 (fun g1 v4 v5 v6 wr => ∃ k : Nat, v4 = .int .i64 k ∧ k ≤ n3 ∧ n3 - k ≤ g1 ∧ Hid (∀ i c, i < k → s.ctrs[i]? = some c → okCtr n2 c = true) ∧ Hid (((s.ctrs.take k).map (·.card)).Nodup) ∧ Hid (Below W0.heap.size W0 wr))
          case atStart => exact ⟨0, by go_num, by omega, by omega, Lib.hid (fun i c hi => by omega), Lib.hid (by simp), HB1⟩
          case round =>
            clear HB1
            obtain ⟨k, rfl, hk, hg1, HA, HND, HB⟩ := hrel
            have p2 := (HB.out.cell (p := ⟨w.heap.size, 2, none⟩) hs0).trans q2
            by_cases hlt : k < n3
            · have hltz : (k : Int) < (n3 : Int) := by omega
              obtain ⟨b, off, c, hbe, hbl, hc, k0, k1, k2, k3⟩ := rdCtr_at (HSW.out.r3.keep HB.out) (k := k) (by rw [HSW.out.l3]; exact hlt)
              have HOK : Hid (okCtr n2 c = (inside c.own 0 ((n2 : Int) - 1) && (inside c.rank 1 9 && inside c.card 1 1000000))) := Lib.hid (by
                rw [Bool.eq_iff_iff]
                unfold okCtr
                simp only [Bool.and_eq_true, inside_iff, decide_eq_true_eq]
                omega)
              have HBADC : Hid (okCtr n2 c = false → false = okSB keyL s) := Lib.hid (fun h => okSB_of (fun hp => by
                have := hp.ctr c (List.mem_of_getElem? hc)
                rw [HL.out.2.1, h] at this
                cases this))
              obtain ⟨X, hX⟩ : ∃ X, X = wr.alloc (.cells #[.string c.name, .int .i64 c.own, .int .i64 c.rank, .int .i64 c.card] 100) := ⟨_, rfl⟩
              have al : Below wr.heap.size wr X := by rw [hX]; exact (Below.refl _ _).alloc (Nat.le_refl _) _
              have g1 : X.cell? ⟨wr.heap.size, 1, none⟩ = some (.int .i64 c.own) := by rw [hX]; go_simp
              have g2 : X.cell? ⟨wr.heap.size, 2, none⟩ = some (.int .i64 c.rank) := by rw [hX]; go_simp
              have g3 : X.cell? ⟨wr.heap.size, 3, none⟩ = some (.int .i64 c.card) := by rw [hX]; go_simp
              have hBX := HB.out.trans (al.mono HB.out.size)
              have HBX := Lib.hid hBX
              have p1 := (hBX.cell (p := ⟨w.heap.size, 1, none⟩) hs0).trans q1
              have HE := Lib.hid (below_then HB0.out hBX)
              have HR3 := Lib.hid (HSW.out.r3.keep hBX)
              have HC := Lib.hid hc
              have HXX := Lib.hid hX.symm
              obtain ⟨bc, hbc⟩ : ∃ bc, bc = wr.heap.size := ⟨_, rfl⟩
              have HBC := Lib.hid hbc
              rw [← hbc] at g1 g2 g3
              subst hbe
              clear hc al HB hX hbc hBX
              go_upto_region 12 with (fail)
              rw [HXX.out, ← HBC.out]
              clear HXX HBC k0 k1 k2 k3
              have p2 := p2
              clear p2
              obtain ⟨y0, hy0⟩ : ∃ z, inside c.own 0 ((n2 : Int) - 1) = z := ⟨_, rfl⟩
              obtain ⟨y1, hy1⟩ : ∃ z, inside c.rank 1 9 = z := ⟨_, rfl⟩
              obtain ⟨y2, hy2⟩ : ∃ z, inside c.card 1 1000000 = z := ⟨_, rfl⟩
              rw [hy0, hy1, hy2] at HOK
              have HY0 := Lib.hid hy0
              have HY1 := Lib.hid hy1
              have HY2 := Lib.hid hy2
              clear hy0 hy1 hy2
              go_wp2_with fail
              refine (r4Inside_any c.own 0 ((n2 : Int) - 1) _).mono ?_
              rw [HY0.out]
              rintro e x1 ⟨rfl, hx1⟩
              subst x1
              cases y0
              · have HF := Lib.hid (HBADC.out (by rw [HOK.out]; rfl))
                go_wp2_with fail
                go_ret
                exact ⟨ret_bool HF.out, HE.out⟩
              go_wp2_with fail
              refine (r4Inside_any c.rank 1 9 _).mono ?_
              rw [HY1.out]
              rintro e x2 ⟨rfl, hx2⟩
              subst x2
              cases y1
              · have HF := Lib.hid (HBADC.out (by rw [HOK.out]; rfl))
                go_wp2_with fail
                go_ret
                exact ⟨ret_bool HF.out, HE.out⟩
              go_wp2_with fail
              refine (r4Inside_any c.card 1 1000000 _).mono ?_
              rw [HY2.out]
              rintro e x3 ⟨rfl, hx3⟩
              subst x3
              cases y2
              · have HF := Lib.hid (HBADC.out (by rw [HOK.out]; rfl))
                go_wp2_with fail
                go_ret
                exact ⟨ret_bool HF.out, HE.out⟩
              have HA2 : Hid (∀ i c, i < k + 1 → s.ctrs[i]? = some c → okCtr n2 c = true) := Lib.hid (fun i c' hi hc' => by
                by_cases e : i = k
                · subst e
                  rw [HC.out] at hc'
                  injection hc' with hc'
                  rw [← hc', HOK.out]; rfl
                · exact HA.out i c' (by omega) hc')
              clear HA HBADC HOK HY0 HY1 HY2 g1 g2
              have q2X := (HBX.out.cell (p := ⟨w.heap.size, 2, none⟩) hs0).trans q2
              go_wp2_with fail
              go_loopg [6] k (fun g1 v6 wy => ∃ j : Nat, v6 = .int .i64 j ∧ j ≤ k ∧ k - j ≤ g1 ∧ Hid (∀ i d, i < j → s.ctrs[i]? = some d → ¬ d.card = c.card) ∧ Hid (∃ q, wy = X.drewN q))
              case atStart => exact ⟨0, by go_num, by omega, by omega, Lib.hid (fun i d hi => by omega), Lib.hid ⟨0, rfl⟩⟩
              case round =>
                obtain ⟨j, rfl, hj, hg2, HJ, HQ⟩ := hrel
                obtain ⟨q, hq⟩ := HQ.out
                subst hq
                by_cases hlj : j < k
                · have hljz : (j : Int) < (k : Int) := by omega
                  have hljn : (j : Int) < (n3 : Int) := by omega
                  obtain ⟨b2, off2, d, hbe, hbl2, hd, l0, l1, l2, l3⟩ := rdCtr_at HR3.out (k := j) (by rw [HL.out.2.2.1]; omega)
                  injection hbe with hbe
                  injection hbe with e1 e2
                  subst e1 e2
                  have HD := Lib.hid hd
                  have HEq : Hid (∀ q, Below w.heap.size w (X.drewN q)) := Lib.hid (fun q => (HE.out.trans (below_drewG q (Below.refl _ _))))
                  obtain ⟨z, hz⟩ : ∃ z, (d.card == c.card) = z := ⟨_, rfl⟩
                  have HZ := Lib.hid hz
                  clear hd
                  go_wp2_with fail
                  go_quiet (fail)
                  cases z
                  · have HJ2 : Hid (∀ i d, i < j + 1 → s.ctrs[i]? = some d → ¬ d.card = c.card) := Lib.hid (fun i d' hi hd' => by
                      by_cases e : i = j
                      · subst e
                        rw [HD.out] at hd'
                        injection hd' with hd'
                        rw [← hd']
                        have := HZ.out
                        simpa using this
                      · exact HJ.out i d' (by omega) hd')
                    clear HJ
                    go_wp2_with fail
                    go_roundg (k - (j + 1))
                    case measure => omega
                    case rel => exact ⟨j + 1, by go_num, by omega, by omega, HJ2, Lib.hid ⟨_, rfl⟩⟩
                  · have HF : Hid (false = okSB keyL s) := Lib.hid (okSB_of (fun hp => by
                      have h2 := hp.cards
                      have e1 : (s.ctrs.map (·.card))[j]? = some d.card := by rw [List.getElem?_map, HD.out]; rfl
                      have e2 : (s.ctrs.map (·.card))[k]? = some d.card := by rw [List.getElem?_map, HC.out]; have := HZ.out; simp at this; rw [this]; rfl
                      obtain ⟨l1, g1⟩ := List.getElem?_eq_some_iff.1 e1
                      obtain ⟨l2, g2⟩ := List.getElem?_eq_some_iff.1 e2
                      exact List.pairwise_iff_getElem.1 h2 j k l1 l2 hlj (g1.trans g2.symm)))
                    go_wp2_with fail
                    go_ret
                    exact ⟨ret_bool HF.out, by first | exact HEq.out _ | (rw [World.drewN_drewN]; exact HEq.out _)⟩
                · have hljz : ¬ (j : Int) < (k : Int) := by omega
                  have HND2 : Hid (((s.ctrs.take (k + 1)).map (·.card)).Nodup) := Lib.hid (by
                    rw [take_snoc HC.out, List.map_append, List.nodup_append]
                    refine ⟨HND.out, by simp, fun a ha b3 hb3 hab => ?_⟩
                    simp only [List.map_cons, List.map_nil, List.mem_singleton] at hb3
                    obtain ⟨y, hy, hyx⟩ := List.mem_map.1 ha
                    obtain ⟨i, hi⟩ := List.mem_iff_getElem?.1 hy
                    have hik : i < k := by
                      have := (List.getElem?_eq_some_iff.1 hi).1
                      rw [List.length_take] at this; omega
                    rw [List.getElem?_take_of_lt hik] at hi
                    exact HJ.out i y (by omega) hi (by rw [hyx, hab, hb3]))
                  have HB5 : Hid (Below W0.heap.size W0 (X.drewN q)) := Lib.hid (below_drewG q HBX.out)
                  clear HJ HND HBX HE
                  go_wp2_with fail
                  go_roundg (n3 - (k + 1))
                  case measure => omega
                  case rel => exact ⟨k + 1, by go_num, by omega, by omega, HA2, HND2, HB5⟩
            · have hltz : ¬ (k : Int) < (n3 : Int) := by omega
              have HCTR : Hid (∀ c, c ∈ s.ctrs → okCtr s.owns.length c = true) := Lib.hid (fun c hc => by
                obtain ⟨i, hi⟩ := List.mem_iff_getElem?.1 hc
                rw [HL.out.2.1]
                exact HA.out i c (by have := (List.getElem?_eq_some_iff.1 hi).1; rw [HL.out.2.2.1] at this; omega) hi)
              have HCARD : Hid ((s.ctrs.map (·.card)).Nodup) := Lib.hid (by
                have h := HND.out
                rw [List.take_of_length_le (by rw [HL.out.2.2.1]; omega)] at h
                exact h)
              have HB2 := HB
              have p3 := (HB.out.cell (p := ⟨w.heap.size, 3, none⟩) hs0).trans q3
              clear HA HND HB hk hg1 hlt
              go_wp2_with fail
              clear p3
              go_loopg [7, 8] n4 (fun g1 v7 v8 wr => ∃ k : Nat, v7 = .int .i64 k ∧ k ≤ n4 ∧ n4 - k ≤ g1 ∧ Hid (∀ i c, i < k → s.chgs[i]? = some c → okChg n1 n2 c = true) ∧ Hid (Below W0.heap.size W0 wr))
              case atStart => exact ⟨0, by go_num, by omega, by omega, Lib.hid (fun i c hi => by omega), HB2⟩
              case round =>
                clear HB2
                obtain ⟨k, rfl, hk, hg1, HA, HB⟩ := hrel
                have p3 := (HB.out.cell (p := ⟨w.heap.size, 3, none⟩) hs0).trans q3
                by_cases hlt : k < n4
                · have hltz : (k : Int) < (n4 : Int) := by omega
                  obtain ⟨b, off, c, hbe, hbl, hc, k0, k1, k2, k3, k4, k5, k6, k7⟩ := rdChg_at (HSW.out.r4.keep HB.out) (k := k) (by rw [HSW.out.l4]; exact hlt)
                  have HOK : Hid (okChg n1 n2 c = (rChgB c && (inside c.place 0 ((n1 : Int) - 1) && inside c.own 0 ((n2 : Int) - 1)))) := Lib.hid (okChg_r n1 n2 c)
                  have HBADC : Hid (okChg n1 n2 c = false → false = okSB keyL s) := Lib.hid (fun h => okSB_of (fun hp => by
                    have := hp.chg c (List.mem_of_getElem? hc)
                    rw [HL.out.1, HL.out.2.1, h] at this
                    cases this))
                  obtain ⟨X, hX⟩ : ∃ X, X = wr.alloc (.cells #[.string c.name, .int .i64 c.place, .int .i64 c.ph, .int .i64 c.mn, .int .i64 c.mx, .int .i64 c.step, .int .i64 c.fb, .int .i64 c.own] 45) := ⟨_, rfl⟩
                  have al : Below wr.heap.size wr X := by rw [hX]; exact (Below.refl _ _).alloc (Nat.le_refl _) _
                  have lX : wr.heap.size < X.heap.size := by rw [hX]; simp
                  have g0 : X.cell? ⟨wr.heap.size, 0, none⟩ = some (.string c.name) := by rw [hX]; go_simp
                  have g1 : X.cell? ⟨wr.heap.size, 1, none⟩ = some (.int .i64 c.place) := by rw [hX]; go_simp
                  have g2 : X.cell? ⟨wr.heap.size, 2, none⟩ = some (.int .i64 c.ph) := by rw [hX]; go_simp
                  have g3 : X.cell? ⟨wr.heap.size, 3, none⟩ = some (.int .i64 c.mn) := by rw [hX]; go_simp
                  have g4 : X.cell? ⟨wr.heap.size, 4, none⟩ = some (.int .i64 c.mx) := by rw [hX]; go_simp
                  have g5 : X.cell? ⟨wr.heap.size, 5, none⟩ = some (.int .i64 c.step) := by rw [hX]; go_simp
                  have g6 : X.cell? ⟨wr.heap.size, 6, none⟩ = some (.int .i64 c.fb) := by rw [hX]; go_simp
                  have g7 : X.cell? ⟨wr.heap.size, 7, none⟩ = some (.int .i64 c.own) := by rw [hX]; go_simp
                  have HBX := Lib.hid (HB.out.trans (al.mono HB.out.size))
                  have HC := Lib.hid hc
                  have HXX := Lib.hid hX.symm
                  obtain ⟨bc, hbc⟩ : ∃ bc, bc = wr.heap.size := ⟨_, rfl⟩
                  have HBC := Lib.hid hbc
                  rw [← hbc] at g0 g1 g2 g3 g4 g5 g6 g7 lX
                  subst hbe
                  clear hc al HB hX hbc
                  go_upto_region 23 with (fail)
                  rw [HXX.out, ← HBC.out]
                  clear HXX HBC k0 k1 k2 k3 k4 k5 k6 k7 p3
                  have hCall := Lib.hid (r4Chg_any c X)
                  go_wp2_with fail
                  refine hCall.out.mono ?_
                  rintro e w5 ⟨rfl, hb5⟩
                  have HB5 := Lib.hid (HBX.out.trans (hb5.mono HBX.out.size))
                  have g1 := (hb5.cell (p := ⟨bc, 1, none⟩) lX).trans g1
                  have g7 := (hb5.cell (p := ⟨bc, 7, none⟩) lX).trans g7
                  have p0 := (HB5.out.cell (p := ⟨w.heap.size, 0, none⟩) hs0).trans q0
                  have p1 := (HB5.out.cell (p := ⟨w.heap.size, 1, none⟩) hs0).trans q1
                  have HE := Lib.hid (below_then HB0.out HB5.out)
                  clear hb5 HBX hCall g0 g2 g3 g4 g5 g6 lX
                  obtain ⟨y0, hy0⟩ : ∃ z, rChgB c = z := ⟨_, rfl⟩
                  obtain ⟨y1, hy1⟩ : ∃ z, inside c.place 0 ((n1 : Int) - 1) = z := ⟨_, rfl⟩
                  obtain ⟨y2, hy2⟩ : ∃ z, inside c.own 0 ((n2 : Int) - 1) = z := ⟨_, rfl⟩
                  rw [hy0, hy1, hy2] at HOK
                  rw [hy0]
                  have HY1 := Lib.hid hy1
                  have HY2 := Lib.hid hy2
                  clear hy0 hy1 hy2
                  cases y0
                  · have HF := Lib.hid (HBADC.out (by rw [HOK.out]; rfl))
                    go_wp2_with fail
                    go_ret
                    exact ⟨ret_bool HF.out, HE.out⟩
                  go_wp2_with fail
                  refine (r4Inside_any c.place 0 ((n1 : Int) - 1) _).mono ?_
                  rw [HY1.out]
                  rintro e x1 ⟨rfl, hx1⟩
                  subst x1
                  cases y1
                  · have HF := Lib.hid (HBADC.out (by rw [HOK.out]; rfl))
                    go_wp2_with fail
                    go_ret
                    exact ⟨ret_bool HF.out, HE.out⟩
                  go_wp2_with fail
                  refine (r4Inside_any c.own 0 ((n2 : Int) - 1) _).mono ?_
                  rw [HY2.out]
                  rintro e x2 ⟨rfl, hx2⟩
                  subst x2
                  cases y2
                  · have HF := Lib.hid (HBADC.out (by rw [HOK.out]; rfl))
                    go_wp2_with fail
                    go_ret
                    exact ⟨ret_bool HF.out, HE.out⟩
                  have HA2 : Hid (∀ i c, i < k + 1 → s.chgs[i]? = some c → okChg n1 n2 c = true) := Lib.hid (fun i c' hi hc' => by
                    by_cases e : i = k
                    · subst e
                      rw [HC.out] at hc'
                      injection hc' with hc'
                      rw [← hc', HOK.out]; rfl
                    · exact HA.out i c' (by omega) hc')
                  clear HA HBADC HOK
                  go_wp2_with fail
                  go_roundg (n4 - (k + 1))
                  case measure => omega
                  case rel => exact ⟨k + 1, by go_num, by omega, by omega, HA2, HB5⟩
                · have hltz : ¬ (k : Int) < (n4 : Int) := by omega
                  have HCHG : Hid (∀ c, c ∈ s.chgs → okChg s.cons.length s.owns.length c = true) := Lib.hid (fun c hc => by
                    obtain ⟨i, hi⟩ := List.mem_iff_getElem?.1 hc
                    rw [HL.out.1, HL.out.2.1]
                    exact HA.out i c (by have := (List.getElem?_eq_some_iff.1 hi).1; rw [HL.out.2.2.2.1] at this; omega) hi)
                  have HB3 := HB
                  have p4 := (HB.out.cell (p := ⟨w.heap.size, 4, none⟩) hs0).trans q4
                  clear HA HB hk hg1 hlt
                  go_wp2_with fail
                  clear p3 p4
                  go_loopg [9] n5 (fun g1 v9 wr => ∃ k : Nat, v9 = .int .i64 k ∧ k ≤ n5 ∧ n5 - k ≤ g1 ∧ Hid (∀ i c, i < k → s.bays[i]? = some c → okBay n4 c = true) ∧ Hid (Below W0.heap.size W0 wr))
                  case atStart => exact ⟨0, by go_num, by omega, by omega, Lib.hid (fun i c hi => by omega), HB3⟩
                  case round =>
                    clear HB3
                    obtain ⟨k, rfl, hk, hg1, HA, HB⟩ := hrel
                    have p3 := (HB.out.cell (p := ⟨w.heap.size, 3, none⟩) hs0).trans q3
                    have p4 := (HB.out.cell (p := ⟨w.heap.size, 4, none⟩) hs0).trans q4
                    by_cases hlt : k < n5
                    · have hltz : (k : Int) < (n5 : Int) := by omega
                      obtain ⟨b, off, c, hbe, hbl, hc, k0, k1⟩ := rdBay_at (HSW.out.r5.keep HB.out) (k := k) (by rw [HSW.out.l5]; exact hlt)
                      have HC := Lib.hid hc
                      have HE := Lib.hid (below_then HB0.out HB.out)
                      obtain ⟨z, hz⟩ : ∃ z, inside c.chg 0 ((n4 : Int) - 1) = z := ⟨_, rfl⟩
                      have HZ := Lib.hid hz
                      have HOK : Hid (okBay n4 c = z) := Lib.hid (by
                        rw [← HZ.out, Bool.eq_iff_iff]; unfold okBay; simp only [inside_iff, decide_eq_true_eq]; omega)
                      have hw1 : IntKind.i64.wrap ((n4 : Int) - 1) = (n4 : Int) - 1 := IntWalk.i64_in _ (by omega)
                      subst hbe
                      clear hc hz
                      go_wp2_with fail
                      have HIN : Hid (∀ W : World, Calls Tryz.prog 30 #[.int .i64 c.chg, .int .i64 0, .int .i64 ((n4 : Int) - 1)] W fun e w' => e = .returned (.bool z) ∧ w' = W) := Lib.hid (fun W => (r4Inside_any c.chg 0 ((n4 : Int) - 1) W).mono (fun e w' h => ⟨h.1.trans (by rw [HZ.out]), h.2⟩))
                      have HBq : Hid (∀ q, Below W0.heap.size W0 (wr.drewN q)) := Lib.hid (fun q => (HB.out.trans (below_drewG q (Below.refl _ _))))
                      have HEq : Hid (∀ q, Below w.heap.size w (wr.drewN q)) := Lib.hid (fun q => (HE.out.trans (below_drewG q (Below.refl _ _))))
                      go_quiet (first | (go_at_call 30; exact Calls.quiet_of_same (HIN.out _)))
                      clear hw1 HIN
                      cases z
                      · have HF : Hid (false = okSB keyL s) := Lib.hid (okSB_of (fun hp => by
                          have := hp.bay c (List.mem_of_getElem? HC.out)
                          rw [HL.out.2.2.2.1, HOK.out] at this
                          cases this))
                        go_wp2_with fail
                        go_ret
                        exact ⟨ret_bool HF.out, HEq.out _⟩
                      · have HA2 : Hid (∀ i c, i < k + 1 → s.bays[i]? = some c → okBay n4 c = true) := Lib.hid (fun i c' hi hc' => by
                          by_cases e : i = k
                          · subst e
                            rw [HC.out] at hc'
                            injection hc' with hc'
                            rw [← hc', HOK.out]
                          · exact HA.out i c' (by omega) hc')
                        clear HA HOK HZ
                        go_wp2_with fail
                        go_roundg (n5 - (k + 1))
                        case measure => omega
                        case rel => exact ⟨k + 1, by go_num, by omega, by omega, HA2, Lib.hid (HBq.out _)⟩
                    · have hltz : ¬ (k : Int) < (n5 : Int) := by omega
                      have HF : Hid (true = okSB keyL s) := Lib.hid (okSB_iff.2 ⟨by rw [HL.out.1]; exact ha1, by rw [HL.out.1]; exact ha2, by rw [HL.out.2.1]; exact ha3, by rw [HL.out.2.2.1]; exact ha4, by rw [HL.out.2.2.2.1]; exact ha5, by rw [HL.out.2.2.2.2]; exact ha6, HNM.out, HCON.out, HCTR.out, HCARD.out, HCHG.out, fun c hc => by
                        obtain ⟨i, hi⟩ := List.mem_iff_getElem?.1 hc
                        rw [HL.out.2.2.2.1]
                        exact HA.out i c (by have := (List.getElem?_eq_some_iff.1 hi).1; rw [HL.out.2.2.2.2] at this; omega) hi⟩).symm
                      have HE := Lib.hid (below_then HB0.out HB.out)
                      clear HA HB hk hg1 hlt
                      go_wp2_with fail
                      go_ret
                      exact ⟨ret_bool HF.out, HE.out⟩
end Go.Proofs.YtpkonifeieepfaaGreat
