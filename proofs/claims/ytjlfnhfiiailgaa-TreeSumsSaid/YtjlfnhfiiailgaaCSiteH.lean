/-
The reference's Charger and conductor, walked.
-/
import Derived.Test.YtjlfnhfiiailgaaCSiteG
namespace Go.Proofs.Ytjlfnhfiiailgaa
open Go.RowKit
set_option linter.unusedVariables false
set_option linter.unusedSimpArgs false
def rChgB (c : GChg) : Bool := inside c.ph 1 7 && (inside c.mn 1 80 && (inside c.mx c.mn 80 && (inside c.step 1 80 && ((c.fb == 0) || inside c.fb c.mn c.mx))))
set_option maxRecDepth 100000 in
set_option maxHeartbeats 8000000 in
theorem r4Chg_any (c : GChg) (w : World) : Calls Try.prog 43 #[.agg #[.string c.name, .int .i64 c.place, .int .i64 c.ph, .int .i64 c.mn, .int .i64 c.mx, .int .i64 c.step, .int .i64 c.fb, .int .i64 c.own]] w fun e w' => e = .returned (.bool (rChgB c)) ∧ Below w.heap.size w w' := by
  obtain ⟨W0, hW0⟩ : ∃ W0, W0 = w.alloc (.cells #[.string c.name, .int .i64 c.place, .int .i64 c.ph, .int .i64 c.mn, .int .i64 c.mx, .int .i64 c.step, .int .i64 c.fb, .int .i64 c.own] 42) := ⟨_, rfl⟩
  have b0 : Below w.heap.size w W0 := by rw [hW0]; exact (Below.refl _ w).alloc (Nat.le_refl _) _
  have q2 : W0.cell? ⟨w.heap.size, 2, none⟩ = some (.int .i64 c.ph) := by rw [hW0]; go_simp
  have q3 : W0.cell? ⟨w.heap.size, 3, none⟩ = some (.int .i64 c.mn) := by rw [hW0]; go_simp
  have q4 : W0.cell? ⟨w.heap.size, 4, none⟩ = some (.int .i64 c.mx) := by rw [hW0]; go_simp
  have q5 : W0.cell? ⟨w.heap.size, 5, none⟩ = some (.int .i64 c.step) := by rw [hW0]; go_simp
  have q6 : W0.cell? ⟨w.heap.size, 6, none⟩ = some (.int .i64 c.fb) := by rw [hW0]; go_simp
  have HW0 := Lib.hid hW0.symm
  have HB0 := Lib.hid b0
  clear hW0 b0
  have HR : Hid (rChgB c = (inside c.ph 1 7 && (inside c.mn 1 80 && (inside c.mx c.mn 80 && (inside c.step 1 80 && ((c.fb == 0) || inside c.fb c.mn c.mx)))))) := Lib.hid rfl
  go_enter Try.func43, Try.ntmps43
  go_upto_region 1 with (fail)
  rw [HW0.out]
  go_wp2_with fail
  refine (r4Inside_any c.ph 1 7 _).mono ?_
  rintro e w0 ⟨rfl, hw0⟩
  subst hw0
  obtain ⟨z0, hz0⟩ : ∃ z, inside c.ph 1 7 = z := ⟨_, rfl⟩
  rw [hz0] at HR ⊢
  clear hz0
  cases z0
  · have HF : Hid (false = rChgB c) := Lib.hid (by rw [HR.out]; simp)
    clear HR
    go_wp2_with fail
    go_ret
    exact ⟨ret_bool HF.out, HB0.out⟩
  · skip
    go_wp2_with fail
    refine (r4Inside_any c.mn 1 80 _).mono ?_
    rintro e w1 ⟨rfl, hw1⟩
    subst hw1
    obtain ⟨z1, hz1⟩ : ∃ z, inside c.mn 1 80 = z := ⟨_, rfl⟩
    rw [hz1] at HR ⊢
    clear hz1
    cases z1
    · have HF : Hid (false = rChgB c) := Lib.hid (by rw [HR.out]; simp)
      clear HR
      go_wp2_with fail
      go_ret
      exact ⟨ret_bool HF.out, HB0.out⟩
    · skip
      go_wp2_with fail
      refine (r4Inside_any c.mx c.mn 80 _).mono ?_
      rintro e w2 ⟨rfl, hw2⟩
      subst hw2
      obtain ⟨z2, hz2⟩ : ∃ z, inside c.mx c.mn 80 = z := ⟨_, rfl⟩
      rw [hz2] at HR ⊢
      clear hz2
      cases z2
      · have HF : Hid (false = rChgB c) := Lib.hid (by rw [HR.out]; simp)
        clear HR
        go_wp2_with fail
        go_ret
        exact ⟨ret_bool HF.out, HB0.out⟩
      · skip
        go_wp2_with fail
        refine (r4Inside_any c.step 1 80 _).mono ?_
        rintro e w3 ⟨rfl, hw3⟩
        subst hw3
        obtain ⟨z3, hz3⟩ : ∃ z, inside c.step 1 80 = z := ⟨_, rfl⟩
        rw [hz3] at HR ⊢
        clear hz3
        cases z3
        · have HF : Hid (false = rChgB c) := Lib.hid (by rw [HR.out]; simp)
          clear HR
          go_wp2_with fail
          go_ret
          exact ⟨ret_bool HF.out, HB0.out⟩
        · skip
          obtain ⟨y, hy⟩ : ∃ z, (c.fb == 0) = z := ⟨_, rfl⟩
          have HR2 : Hid (rChgB c = (y || inside c.fb c.mn c.mx)) := Lib.hid (by rw [HR.out, hy]; simp)
          clear HR
          cases y
          · go_wp2_with fail
            refine (r4Inside_any c.fb c.mn c.mx _).mono ?_
            rintro e w4 ⟨rfl, hw4⟩
            subst hw4
            have HF : Hid (inside c.fb c.mn c.mx = rChgB c) := Lib.hid (by rw [HR2.out]; simp)
            clear HR2
            go_wp2_with fail
            go_ret
            exact ⟨ret_bool HF.out, HB0.out⟩
          · have HF : Hid (true = rChgB c) := Lib.hid (by rw [HR2.out]; simp)
            clear HR2
            go_wp2_with fail
            go_ret
            exact ⟨ret_bool HF.out, HB0.out⟩
def rUpB (i : Nat) (up : Int) : Bool := if ((i : Int) == 0) then (up == -1) else inside up 0 ((i : Int) - 1)
theorem rUpB_eq (i : Nat) (up : Int) : rUpB i up = okUp i up := by
  unfold rUpB okUp
  rw [Bool.eq_iff_iff]
  by_cases h : i = 0
  · subst h; simp
  · rw [if_neg (by simp; omega), inside_iff]; simp only [decide_eq_true_eq]; omega
def rQ (i : Nat) (c : GCon) : Bool := inside c.limit 1 1000 && (inside c.neutral 1 1000 && rUpB i c.up)
set_option maxRecDepth 100000 in
set_option maxHeartbeats 16000000 in
theorem r4Con_any (c : GCon) (i : Nat) (w : World) (hi : i ≤ 1000) : Calls Try.prog 42 #[.agg #[.string c.name, .int .i64 c.up, .int .i64 c.limit, .int .i64 c.neutral, .int .i64 c.rated, .int .i64 c.heat, .int .i64 c.amb, .int .i64 c.most, .int .i64 c.gain, .int .i64 c.loss, .int .i64 c.den], .int .i64 i] w fun e w' => e = .returned (.bool (okCon i c)) ∧ Below w.heap.size w w' := by
  obtain ⟨W0, hW0⟩ : ∃ W0, W0 = w.alloc (.cells #[.string c.name, .int .i64 c.up, .int .i64 c.limit, .int .i64 c.neutral, .int .i64 c.rated, .int .i64 c.heat, .int .i64 c.amb, .int .i64 c.most, .int .i64 c.gain, .int .i64 c.loss, .int .i64 c.den] 48) := ⟨_, rfl⟩
  have b0 : Below w.heap.size w W0 := by rw [hW0]; exact (Below.refl _ w).alloc (Nat.le_refl _) _
  have hs0 : w.heap.size < W0.heap.size := by rw [hW0]; simp
  have q1 : W0.cell? ⟨w.heap.size, 1, none⟩ = some (.int .i64 c.up) := by rw [hW0]; go_simp
  have q2 : W0.cell? ⟨w.heap.size, 2, none⟩ = some (.int .i64 c.limit) := by rw [hW0]; go_simp
  have q3 : W0.cell? ⟨w.heap.size, 3, none⟩ = some (.int .i64 c.neutral) := by rw [hW0]; go_simp
  have q4 : W0.cell? ⟨w.heap.size, 4, none⟩ = some (.int .i64 c.rated) := by rw [hW0]; go_simp
  have q5 : W0.cell? ⟨w.heap.size, 5, none⟩ = some (.int .i64 c.heat) := by rw [hW0]; go_simp
  have q6 : W0.cell? ⟨w.heap.size, 6, none⟩ = some (.int .i64 c.amb) := by rw [hW0]; go_simp
  have q7 : W0.cell? ⟨w.heap.size, 7, none⟩ = some (.int .i64 c.most) := by rw [hW0]; go_simp
  have q8 : W0.cell? ⟨w.heap.size, 8, none⟩ = some (.int .i64 c.gain) := by rw [hW0]; go_simp
  have q9 : W0.cell? ⟨w.heap.size, 9, none⟩ = some (.int .i64 c.loss) := by rw [hW0]; go_simp
  have q10 : W0.cell? ⟨w.heap.size, 10, none⟩ = some (.int .i64 c.den) := by rw [hW0]; go_simp
  have HW0 := Lib.hid hW0.symm
  have HB0 := Lib.hid b0
  have HS0 := Lib.hid hs0
  clear hW0 b0 hs0
  have HR : Hid (okCon i c = (rQ i c && okFuse c && okCable c)) := Lib.hid (by unfold okCon rQ; rw [rUpB_eq]; cases okUp i c.up <;> cases inside c.limit 1 1000 <;> cases inside c.neutral 1 1000 <;> rfl)
  go_enter Try.func42, Try.ntmps42
  go_upto_region 1 with (fail)
  rw [HW0.out]
  go_cut [7, 8, 9, 10, 11, 12, 13, 14, 15, 16, 17, 18, 19, 20, 21, 22, 23, 24, 25, 26, 27, 28, 29, 30, 31, 32, 33, 34, 35, 36, 37] (fun v7 v8 v9 v10 v11 v12 v13 v14 v15 v16 v17 v18 v19 v20 v21 v22 v23 v24 v25 v26 v27 v28 v29 v30 v31 v32 v33 v34 v35 v36 v37 wx => v37 = .bool (!rQ i c) ∧ Hid (W0 = wx))
  case first =>
    go_wp2_with fail
    refine (r4Inside_any c.limit 1 1000 _).mono ?_
    rintro e x1 ⟨rfl, hx1⟩
    subst hx1
    obtain ⟨z1, hz1⟩ : ∃ z, inside c.limit 1 1000 = z := ⟨_, rfl⟩
    have HZ1 := Lib.hid hz1
    rw [hz1]
    clear hz1
    cases z1
    · go_wp2_with fail
      try go_step
      go_meet
      exact ⟨by unfold rQ; simp [HZ1.out], Lib.hid rfl⟩
    · skip
      go_wp2_with fail
      refine (r4Inside_any c.neutral 1 1000 _).mono ?_
      rintro e x2 ⟨rfl, hx2⟩
      subst hx2
      obtain ⟨z2, hz2⟩ : ∃ z, inside c.neutral 1 1000 = z := ⟨_, rfl⟩
      have HZ2 := Lib.hid hz2
      rw [hz2]
      clear hz2
      cases z2
      · go_wp2_with fail
        try go_step
        go_meet
        exact ⟨by unfold rQ; simp [HZ1.out, HZ2.out], Lib.hid rfl⟩
      · skip
        obtain ⟨bi, hbi⟩ : ∃ z, ((i : Int) == 0) = z := ⟨_, rfl⟩
        have HBI := Lib.hid hbi
        cases bi
        · have h0 : (0 : Int) < (i : Int) := by simp at hbi; omega
          go_wp2_with fail
          refine (r4Inside_any c.up 0 ((i : Int) - 1) _).mono ?_
          rintro e x3 ⟨rfl, hx3⟩
          subst hx3
          obtain ⟨z3, hz3⟩ : ∃ z, inside c.up 0 ((i : Int) - 1) = z := ⟨_, rfl⟩
          have HZ3 := Lib.hid hz3
          rw [hz3]
          clear hz3
          cases z3
          · go_wp2_with fail
            try go_step
            go_meet
            exact ⟨by unfold rQ rUpB; simp only [HZ1.out, HZ2.out, HBI.out, HZ3.out]; rfl, Lib.hid rfl⟩
          · go_wp2_with fail
            try go_step
            go_meet
            exact ⟨by unfold rQ rUpB; simp only [HZ1.out, HZ2.out, HBI.out, HZ3.out]; rfl, Lib.hid rfl⟩
        · have h0 : ¬ (0 : Int) < (i : Int) := by simp at hbi; omega
          obtain ⟨bu, hbu⟩ : ∃ z, (c.up == -1) = z := ⟨_, rfl⟩
          have HBU := Lib.hid hbu
          have hbu2 : (c.up != -1) = !bu := by rw [← hbu]; rfl
          clear hbu
          cases bu
          · simp only [Bool.not_false, Bool.not_true] at hbu2
            go_wp2_with fail
            try go_step
            go_meet
            exact ⟨by unfold rQ rUpB; simp only [HZ1.out, HZ2.out, HBI.out, HBU.out]; rfl, Lib.hid rfl⟩
          · simp only [Bool.not_false, Bool.not_true] at hbu2
            go_wp2_with fail
            try go_step
            go_meet
            exact ⟨by unfold rQ rUpB; simp only [HZ1.out, HZ2.out, HBI.out, HBU.out]; rfl, Lib.hid rfl⟩
  case rest =>
    obtain ⟨rfl, hwx⟩ := hcut
    have hwx := hwx.out
    subst hwx
    obtain ⟨zq, hzq⟩ : ∃ z, rQ i c = z := ⟨_, rfl⟩
    have HZQ := Lib.hid hzq
    rw [hzq]
    clear hzq
    cases zq
    · have HF : Hid (false = okCon i c) := Lib.hid (by rw [HR.out, HZQ.out]; rfl)
      go_wp2_with fail
      go_ret
      exact ⟨ret_bool HF.out, HB0.out⟩
    · have HR2 : Hid (okCon i c = (okFuse c && okCable c)) := Lib.hid (by rw [HR.out, HZQ.out]; rfl)
      clear HR HZQ
      have hs0 := HS0.out
      obtain ⟨W5, hW5⟩ : ∃ W5, W5 = (W0.alloc (.cells #[.int .i64 c.rated, .int .i64 c.heat] 44)).alloc (.cells #[.int .i64 c.amb, .int .i64 c.most, .int .i64 c.gain, .int .i64 c.loss, .int .i64 c.den] 46) := ⟨_, rfl⟩
      have f0 : W5.cell? ⟨W0.heap.size, 0, none⟩ = some (.int .i64 c.rated) := by rw [hW5]; go_simp
      have f1 : W5.cell? ⟨W0.heap.size, 1, none⟩ = some (.int .i64 c.heat) := by rw [hW5]; go_simp
      have g0 : W5.cell? ⟨W0.heap.size + 1, 0, none⟩ = some (.int .i64 c.amb) := by rw [hW5]; go_simp
      have g1 : W5.cell? ⟨W0.heap.size + 1, 1, none⟩ = some (.int .i64 c.most) := by rw [hW5]; go_simp
      have g2 : W5.cell? ⟨W0.heap.size + 1, 2, none⟩ = some (.int .i64 c.gain) := by rw [hW5]; go_simp
      have g3 : W5.cell? ⟨W0.heap.size + 1, 3, none⟩ = some (.int .i64 c.loss) := by rw [hW5]; go_simp
      have g4 : W5.cell? ⟨W0.heap.size + 1, 4, none⟩ = some (.int .i64 c.den) := by rw [hW5]; go_simp
      have HB5 : Hid (Below w.heap.size w W5) := Lib.hid (by rw [hW5]; exact below_then HB0.out (((Below.refl _ _).alloc (Nat.le_refl _) _).alloc (by simp) _))
      have HW5 := Lib.hid hW5.symm
      clear hW5
      go_upto_region 5 with (fail)
      rw [HW5.out]
      clear q1 q2 q3 q4 q5 q6 q7 q8 q9 q10 HW5 HB0 HW0 HS0 hs0
      go_cut [42, 43, 44, 45, 46, 47, 48, 49, 50, 51, 52, 53, 54, 55, 56] (fun v42 v43 v44 v45 v46 v47 v48 v49 v50 v51 v52 v53 v54 v55 v56 wx => v56 = .bool (!okFuse c) ∧ Hid (W5 = wx))
      case first =>
        have HF1 : Hid (inside c.rated 1 1000 = true → inside c.heat 0 1000000 = true → okFuse c = true) := Lib.hid (fun h1 h2 => by
          have := inside_iff.1 h1; have := inside_iff.1 h2; unfold okFuse; simp only [decide_eq_true_eq]; omega)
        have HF2 : Hid ((c.rated == 0) = true → (c.heat == 0) = true → okFuse c = true) := Lib.hid (fun h1 h2 => by
          simp at h1 h2; unfold okFuse; simp only [decide_eq_true_eq]; omega)
        have HF3 : Hid (((c.rated == 0) = false ∨ (c.heat == 0) = false) → (inside c.rated 1 1000 = false ∨ inside c.heat 0 1000000 = false) → okFuse c = false) := Lib.hid (fun h1 h2 => by
          unfold okFuse
          simp only [decide_eq_false_iff_not]
          rintro (⟨e1, e2⟩ | ⟨e1, e2⟩)
          · rw [e1, e2] at h1; simp at h1
          · rw [inside_iff.2 e1, inside_iff.2 e2] at h2; simp at h2)
        obtain ⟨br, hbr⟩ : ∃ z, (c.rated == 0) = z := ⟨_, rfl⟩
        obtain ⟨bh, hbh⟩ : ∃ z, (c.heat == 0) = z := ⟨_, rfl⟩
        have HBR := Lib.hid hbr
        have HBH := Lib.hid hbh
        cases br <;> cases bh
        · skip
          go_wp2_with fail
          refine (r4Inside_any c.rated 1 1000 _).mono ?_
          rintro e x4 ⟨rfl, hx4⟩
          subst hx4
          obtain ⟨z4, hz4⟩ : ∃ z, inside c.rated 1 1000 = z := ⟨_, rfl⟩
          have HZ4 := Lib.hid hz4
          rw [hz4]
          clear hz4
          cases z4
          · skip
            go_wp2_with fail
            try go_step
            go_meet
            exact ⟨by rw [HF3.out (by first | exact .inl HBR.out | exact .inr HBH.out) (.inl HZ4.out)]; rfl, Lib.hid rfl⟩
          · skip
            go_wp2_with fail
            refine (r4Inside_any c.heat 0 1000000 _).mono ?_
            rintro e x5 ⟨rfl, hx5⟩
            subst hx5
            obtain ⟨z5, hz5⟩ : ∃ z, inside c.heat 0 1000000 = z := ⟨_, rfl⟩
            have HZ5 := Lib.hid hz5
            rw [hz5]
            clear hz5
            cases z5
            · skip
              go_wp2_with fail
              try go_step
              go_meet
              exact ⟨by rw [HF3.out (by first | exact .inl HBR.out | exact .inr HBH.out) (.inr HZ5.out)]; rfl, Lib.hid rfl⟩
            · skip
              go_wp2_with fail
              try go_step
              go_meet
              exact ⟨by rw [HF1.out HZ4.out HZ5.out]; rfl, Lib.hid rfl⟩
        · skip
          go_wp2_with fail
          refine (r4Inside_any c.rated 1 1000 _).mono ?_
          rintro e x4 ⟨rfl, hx4⟩
          subst hx4
          obtain ⟨z4, hz4⟩ : ∃ z, inside c.rated 1 1000 = z := ⟨_, rfl⟩
          have HZ4 := Lib.hid hz4
          rw [hz4]
          clear hz4
          cases z4
          · skip
            go_wp2_with fail
            try go_step
            go_meet
            exact ⟨by rw [HF3.out (by first | exact .inl HBR.out | exact .inr HBH.out) (.inl HZ4.out)]; rfl, Lib.hid rfl⟩
          · skip
            go_wp2_with fail
            refine (r4Inside_any c.heat 0 1000000 _).mono ?_
            rintro e x5 ⟨rfl, hx5⟩
            subst hx5
            obtain ⟨z5, hz5⟩ : ∃ z, inside c.heat 0 1000000 = z := ⟨_, rfl⟩
            have HZ5 := Lib.hid hz5
            rw [hz5]
            clear hz5
            cases z5
            · skip
              go_wp2_with fail
              try go_step
              go_meet
              exact ⟨by rw [HF3.out (by first | exact .inl HBR.out | exact .inr HBH.out) (.inr HZ5.out)]; rfl, Lib.hid rfl⟩
            · skip
              go_wp2_with fail
              try go_step
              go_meet
              exact ⟨by rw [HF1.out HZ4.out HZ5.out]; rfl, Lib.hid rfl⟩
        · skip
          go_wp2_with fail
          refine (r4Inside_any c.rated 1 1000 _).mono ?_
          rintro e x4 ⟨rfl, hx4⟩
          subst hx4
          obtain ⟨z4, hz4⟩ : ∃ z, inside c.rated 1 1000 = z := ⟨_, rfl⟩
          have HZ4 := Lib.hid hz4
          rw [hz4]
          clear hz4
          cases z4
          · skip
            go_wp2_with fail
            try go_step
            go_meet
            exact ⟨by rw [HF3.out (by first | exact .inl HBR.out | exact .inr HBH.out) (.inl HZ4.out)]; rfl, Lib.hid rfl⟩
          · skip
            go_wp2_with fail
            refine (r4Inside_any c.heat 0 1000000 _).mono ?_
            rintro e x5 ⟨rfl, hx5⟩
            subst hx5
            obtain ⟨z5, hz5⟩ : ∃ z, inside c.heat 0 1000000 = z := ⟨_, rfl⟩
            have HZ5 := Lib.hid hz5
            rw [hz5]
            clear hz5
            cases z5
            · skip
              go_wp2_with fail
              try go_step
              go_meet
              exact ⟨by rw [HF3.out (by first | exact .inl HBR.out | exact .inr HBH.out) (.inr HZ5.out)]; rfl, Lib.hid rfl⟩
            · skip
              go_wp2_with fail
              try go_step
              go_meet
              exact ⟨by rw [HF1.out HZ4.out HZ5.out]; rfl, Lib.hid rfl⟩
        · skip
          go_wp2_with fail
          try go_step
          go_meet
          exact ⟨by rw [HF2.out HBR.out HBH.out]; rfl, Lib.hid rfl⟩
      case rest =>
        obtain ⟨rfl, hwx⟩ := hcut
        have hwx := hwx.out
        subst hwx
        obtain ⟨zf, hzf⟩ : ∃ z, okFuse c = z := ⟨_, rfl⟩
        have HZF := Lib.hid hzf
        rw [hzf]
        clear hzf f0 f1
        cases zf
        · have HF : Hid (false = okCon i c) := Lib.hid (by rw [HR2.out, HZF.out]; rfl)
          go_wp2_with fail
          go_ret
          exact ⟨ret_bool HF.out, HB5.out⟩
        · have HR3 : Hid (okCable c = okCon i c) := Lib.hid (by rw [HR2.out, HZF.out]; rfl)
          clear HR2 HZF
          have HG0 : Hid ((c.amb == 0) = true → (c.most == 0) = true → (c.gain == 0) = true → (c.loss == 0) = true → (c.den == 0) = true → true = okCon i c) := Lib.hid (fun h0 h1 h2 h3 h4 => by
            rw [← HR3.out]; simp at h0 h1 h2 h3 h4; unfold okCable; symm; simp only [decide_eq_true_eq]; exact .inl ⟨h0, h1, h2, h3, h4⟩)
          have HG1 : Hid (inside c.amb 0 200000 = true → inside c.most (c.amb + 1) 200000 = true → inside c.gain 0 1000 = true → inside c.loss 0 1000 = true → inside c.den 1 1000000 = true → true = okCon i c) := Lib.hid (fun h0 h1 h2 h3 h4 => by
            rw [← HR3.out]; have := inside_iff.1 h0; have := inside_iff.1 h1; have := inside_iff.1 h2; have := inside_iff.1 h3; have := inside_iff.1 h4; unfold okCable; symm; simp only [decide_eq_true_eq]; omega)
          have HG2 : Hid (((c.amb == 0) = false ∨ (c.most == 0) = false ∨ (c.gain == 0) = false ∨ (c.loss == 0) = false ∨ (c.den == 0) = false) → (inside c.amb 0 200000 = false ∨ inside c.most (c.amb + 1) 200000 = false ∨ inside c.gain 0 1000 = false ∨ inside c.loss 0 1000 = false ∨ inside c.den 1 1000000 = false) → false = okCon i c) := Lib.hid (fun h0 h1 => by
            rw [← HR3.out]
            unfold okCable
            symm
            simp only [decide_eq_false_iff_not]
            rintro (⟨e0, e1, e2, e3, e4⟩ | ⟨e0, e1, e2, e3, e4, e5⟩)
            · rw [e0, e1, e2, e3, e4] at h0; simp at h0
            · rcases h1 with h | h | h | h | h
              · rw [inside_iff.2 (by omega)] at h; cases h
              · rw [inside_iff.2 (by omega)] at h; cases h
              · rw [inside_iff.2 (by omega)] at h; cases h
              · rw [inside_iff.2 (by omega)] at h; cases h
              · rw [inside_iff.2 (by omega)] at h; cases h)
          clear HR3
          obtain ⟨y0, hy0⟩ : ∃ z, (c.amb == 0) = z := ⟨_, rfl⟩
          have HY0 := Lib.hid hy0
          cases y0
          · skip
            go_wp2_with fail
            refine (r4Inside_any c.amb 0 200000 _).mono ?_
            rintro e x6 ⟨rfl, hx6⟩
            subst hx6
            obtain ⟨z6, hz6⟩ : ∃ z, inside c.amb 0 200000 = z := ⟨_, rfl⟩
            have HZ6 := Lib.hid hz6
            rw [hz6]
            clear hz6
            cases z6
            · skip
              have HF := Lib.hid (HG2.out (.inl HY0.out) (.inl HZ6.out))
              clear HG0 HG1 HG2
              go_wp2_with fail
              go_ret
              exact ⟨ret_bool HF.out, HB5.out⟩
            · skip
              have h01 := inside_iff.1 HZ6.out
              go_wp2_with fail
              refine (r4Inside_any c.most (c.amb + 1) 200000 _).mono ?_
              rintro e x7 ⟨rfl, hx7⟩
              subst hx7
              obtain ⟨z7, hz7⟩ : ∃ z, inside c.most (c.amb + 1) 200000 = z := ⟨_, rfl⟩
              have HZ7 := Lib.hid hz7
              rw [hz7]
              clear hz7
              cases z7
              · skip
                have HF := Lib.hid (HG2.out (.inl HY0.out) (.inr (.inl HZ7.out)))
                clear HG0 HG1 HG2
                go_wp2_with fail
                go_ret
                exact ⟨ret_bool HF.out, HB5.out⟩
              · skip
                go_wp2_with fail
                refine (r4Inside_any c.gain 0 1000 _).mono ?_
                rintro e x8 ⟨rfl, hx8⟩
                subst hx8
                obtain ⟨z8, hz8⟩ : ∃ z, inside c.gain 0 1000 = z := ⟨_, rfl⟩
                have HZ8 := Lib.hid hz8
                rw [hz8]
                clear hz8
                cases z8
                · skip
                  have HF := Lib.hid (HG2.out (.inl HY0.out) (.inr (.inr (.inl HZ8.out))))
                  clear HG0 HG1 HG2
                  go_wp2_with fail
                  go_ret
                  exact ⟨ret_bool HF.out, HB5.out⟩
                · skip
                  go_wp2_with fail
                  refine (r4Inside_any c.loss 0 1000 _).mono ?_
                  rintro e x9 ⟨rfl, hx9⟩
                  subst hx9
                  obtain ⟨z9, hz9⟩ : ∃ z, inside c.loss 0 1000 = z := ⟨_, rfl⟩
                  have HZ9 := Lib.hid hz9
                  rw [hz9]
                  clear hz9
                  cases z9
                  · skip
                    have HF := Lib.hid (HG2.out (.inl HY0.out) (.inr (.inr (.inr (.inl HZ9.out)))))
                    clear HG0 HG1 HG2
                    go_wp2_with fail
                    go_ret
                    exact ⟨ret_bool HF.out, HB5.out⟩
                  · skip
                    go_wp2_with fail
                    refine (r4Inside_any c.den 1 1000000 _).mono ?_
                    rintro e x10 ⟨rfl, hx10⟩
                    subst hx10
                    obtain ⟨z10, hz10⟩ : ∃ z, inside c.den 1 1000000 = z := ⟨_, rfl⟩
                    have HZ10 := Lib.hid hz10
                    rw [hz10]
                    clear hz10
                    cases z10
                    · skip
                      have HF := Lib.hid (HG2.out (.inl HY0.out) (.inr (.inr (.inr (.inr (HZ10.out))))))
                      clear HG0 HG1 HG2
                      go_wp2_with fail
                      go_ret
                      exact ⟨ret_bool HF.out, HB5.out⟩
                    · skip
                      have HF := Lib.hid (HG1.out HZ6.out HZ7.out HZ8.out HZ9.out HZ10.out)
                      clear HG0 HG1 HG2
                      go_wp2_with fail
                      go_ret
                      exact ⟨ret_bool HF.out, HB5.out⟩
          · skip
            obtain ⟨y1, hy1⟩ : ∃ z, (c.most == 0) = z := ⟨_, rfl⟩
            have HY1 := Lib.hid hy1
            cases y1
            · skip
              go_wp2_with fail
              refine (r4Inside_any c.amb 0 200000 _).mono ?_
              rintro e x6 ⟨rfl, hx6⟩
              subst hx6
              obtain ⟨z6, hz6⟩ : ∃ z, inside c.amb 0 200000 = z := ⟨_, rfl⟩
              have HZ6 := Lib.hid hz6
              rw [hz6]
              clear hz6
              cases z6
              · skip
                have HF := Lib.hid (HG2.out (.inr (.inl HY1.out)) (.inl HZ6.out))
                clear HG0 HG1 HG2
                go_wp2_with fail
                go_ret
                exact ⟨ret_bool HF.out, HB5.out⟩
              · skip
                have h01 := inside_iff.1 HZ6.out
                go_wp2_with fail
                refine (r4Inside_any c.most (c.amb + 1) 200000 _).mono ?_
                rintro e x7 ⟨rfl, hx7⟩
                subst hx7
                obtain ⟨z7, hz7⟩ : ∃ z, inside c.most (c.amb + 1) 200000 = z := ⟨_, rfl⟩
                have HZ7 := Lib.hid hz7
                rw [hz7]
                clear hz7
                cases z7
                · skip
                  have HF := Lib.hid (HG2.out (.inr (.inl HY1.out)) (.inr (.inl HZ7.out)))
                  clear HG0 HG1 HG2
                  go_wp2_with fail
                  go_ret
                  exact ⟨ret_bool HF.out, HB5.out⟩
                · skip
                  go_wp2_with fail
                  refine (r4Inside_any c.gain 0 1000 _).mono ?_
                  rintro e x8 ⟨rfl, hx8⟩
                  subst hx8
                  obtain ⟨z8, hz8⟩ : ∃ z, inside c.gain 0 1000 = z := ⟨_, rfl⟩
                  have HZ8 := Lib.hid hz8
                  rw [hz8]
                  clear hz8
                  cases z8
                  · skip
                    have HF := Lib.hid (HG2.out (.inr (.inl HY1.out)) (.inr (.inr (.inl HZ8.out))))
                    clear HG0 HG1 HG2
                    go_wp2_with fail
                    go_ret
                    exact ⟨ret_bool HF.out, HB5.out⟩
                  · skip
                    go_wp2_with fail
                    refine (r4Inside_any c.loss 0 1000 _).mono ?_
                    rintro e x9 ⟨rfl, hx9⟩
                    subst hx9
                    obtain ⟨z9, hz9⟩ : ∃ z, inside c.loss 0 1000 = z := ⟨_, rfl⟩
                    have HZ9 := Lib.hid hz9
                    rw [hz9]
                    clear hz9
                    cases z9
                    · skip
                      have HF := Lib.hid (HG2.out (.inr (.inl HY1.out)) (.inr (.inr (.inr (.inl HZ9.out)))))
                      clear HG0 HG1 HG2
                      go_wp2_with fail
                      go_ret
                      exact ⟨ret_bool HF.out, HB5.out⟩
                    · skip
                      go_wp2_with fail
                      refine (r4Inside_any c.den 1 1000000 _).mono ?_
                      rintro e x10 ⟨rfl, hx10⟩
                      subst hx10
                      obtain ⟨z10, hz10⟩ : ∃ z, inside c.den 1 1000000 = z := ⟨_, rfl⟩
                      have HZ10 := Lib.hid hz10
                      rw [hz10]
                      clear hz10
                      cases z10
                      · skip
                        have HF := Lib.hid (HG2.out (.inr (.inl HY1.out)) (.inr (.inr (.inr (.inr (HZ10.out))))))
                        clear HG0 HG1 HG2
                        go_wp2_with fail
                        go_ret
                        exact ⟨ret_bool HF.out, HB5.out⟩
                      · skip
                        have HF := Lib.hid (HG1.out HZ6.out HZ7.out HZ8.out HZ9.out HZ10.out)
                        clear HG0 HG1 HG2
                        go_wp2_with fail
                        go_ret
                        exact ⟨ret_bool HF.out, HB5.out⟩
            · skip
              obtain ⟨y2, hy2⟩ : ∃ z, (c.gain == 0) = z := ⟨_, rfl⟩
              have HY2 := Lib.hid hy2
              cases y2
              · skip
                go_wp2_with fail
                refine (r4Inside_any c.amb 0 200000 _).mono ?_
                rintro e x6 ⟨rfl, hx6⟩
                subst hx6
                obtain ⟨z6, hz6⟩ : ∃ z, inside c.amb 0 200000 = z := ⟨_, rfl⟩
                have HZ6 := Lib.hid hz6
                rw [hz6]
                clear hz6
                cases z6
                · skip
                  have HF := Lib.hid (HG2.out (.inr (.inr (.inl HY2.out))) (.inl HZ6.out))
                  clear HG0 HG1 HG2
                  go_wp2_with fail
                  go_ret
                  exact ⟨ret_bool HF.out, HB5.out⟩
                · skip
                  have h01 := inside_iff.1 HZ6.out
                  go_wp2_with fail
                  refine (r4Inside_any c.most (c.amb + 1) 200000 _).mono ?_
                  rintro e x7 ⟨rfl, hx7⟩
                  subst hx7
                  obtain ⟨z7, hz7⟩ : ∃ z, inside c.most (c.amb + 1) 200000 = z := ⟨_, rfl⟩
                  have HZ7 := Lib.hid hz7
                  rw [hz7]
                  clear hz7
                  cases z7
                  · skip
                    have HF := Lib.hid (HG2.out (.inr (.inr (.inl HY2.out))) (.inr (.inl HZ7.out)))
                    clear HG0 HG1 HG2
                    go_wp2_with fail
                    go_ret
                    exact ⟨ret_bool HF.out, HB5.out⟩
                  · skip
                    go_wp2_with fail
                    refine (r4Inside_any c.gain 0 1000 _).mono ?_
                    rintro e x8 ⟨rfl, hx8⟩
                    subst hx8
                    obtain ⟨z8, hz8⟩ : ∃ z, inside c.gain 0 1000 = z := ⟨_, rfl⟩
                    have HZ8 := Lib.hid hz8
                    rw [hz8]
                    clear hz8
                    cases z8
                    · skip
                      have HF := Lib.hid (HG2.out (.inr (.inr (.inl HY2.out))) (.inr (.inr (.inl HZ8.out))))
                      clear HG0 HG1 HG2
                      go_wp2_with fail
                      go_ret
                      exact ⟨ret_bool HF.out, HB5.out⟩
                    · skip
                      go_wp2_with fail
                      refine (r4Inside_any c.loss 0 1000 _).mono ?_
                      rintro e x9 ⟨rfl, hx9⟩
                      subst hx9
                      obtain ⟨z9, hz9⟩ : ∃ z, inside c.loss 0 1000 = z := ⟨_, rfl⟩
                      have HZ9 := Lib.hid hz9
                      rw [hz9]
                      clear hz9
                      cases z9
                      · skip
                        have HF := Lib.hid (HG2.out (.inr (.inr (.inl HY2.out))) (.inr (.inr (.inr (.inl HZ9.out)))))
                        clear HG0 HG1 HG2
                        go_wp2_with fail
                        go_ret
                        exact ⟨ret_bool HF.out, HB5.out⟩
                      · skip
                        go_wp2_with fail
                        refine (r4Inside_any c.den 1 1000000 _).mono ?_
                        rintro e x10 ⟨rfl, hx10⟩
                        subst hx10
                        obtain ⟨z10, hz10⟩ : ∃ z, inside c.den 1 1000000 = z := ⟨_, rfl⟩
                        have HZ10 := Lib.hid hz10
                        rw [hz10]
                        clear hz10
                        cases z10
                        · skip
                          have HF := Lib.hid (HG2.out (.inr (.inr (.inl HY2.out))) (.inr (.inr (.inr (.inr (HZ10.out))))))
                          clear HG0 HG1 HG2
                          go_wp2_with fail
                          go_ret
                          exact ⟨ret_bool HF.out, HB5.out⟩
                        · skip
                          have HF := Lib.hid (HG1.out HZ6.out HZ7.out HZ8.out HZ9.out HZ10.out)
                          clear HG0 HG1 HG2
                          go_wp2_with fail
                          go_ret
                          exact ⟨ret_bool HF.out, HB5.out⟩
              · skip
                obtain ⟨y3, hy3⟩ : ∃ z, (c.loss == 0) = z := ⟨_, rfl⟩
                have HY3 := Lib.hid hy3
                cases y3
                · skip
                  go_wp2_with fail
                  refine (r4Inside_any c.amb 0 200000 _).mono ?_
                  rintro e x6 ⟨rfl, hx6⟩
                  subst hx6
                  obtain ⟨z6, hz6⟩ : ∃ z, inside c.amb 0 200000 = z := ⟨_, rfl⟩
                  have HZ6 := Lib.hid hz6
                  rw [hz6]
                  clear hz6
                  cases z6
                  · skip
                    have HF := Lib.hid (HG2.out (.inr (.inr (.inr (.inl HY3.out)))) (.inl HZ6.out))
                    clear HG0 HG1 HG2
                    go_wp2_with fail
                    go_ret
                    exact ⟨ret_bool HF.out, HB5.out⟩
                  · skip
                    have h01 := inside_iff.1 HZ6.out
                    go_wp2_with fail
                    refine (r4Inside_any c.most (c.amb + 1) 200000 _).mono ?_
                    rintro e x7 ⟨rfl, hx7⟩
                    subst hx7
                    obtain ⟨z7, hz7⟩ : ∃ z, inside c.most (c.amb + 1) 200000 = z := ⟨_, rfl⟩
                    have HZ7 := Lib.hid hz7
                    rw [hz7]
                    clear hz7
                    cases z7
                    · skip
                      have HF := Lib.hid (HG2.out (.inr (.inr (.inr (.inl HY3.out)))) (.inr (.inl HZ7.out)))
                      clear HG0 HG1 HG2
                      go_wp2_with fail
                      go_ret
                      exact ⟨ret_bool HF.out, HB5.out⟩
                    · skip
                      go_wp2_with fail
                      refine (r4Inside_any c.gain 0 1000 _).mono ?_
                      rintro e x8 ⟨rfl, hx8⟩
                      subst hx8
                      obtain ⟨z8, hz8⟩ : ∃ z, inside c.gain 0 1000 = z := ⟨_, rfl⟩
                      have HZ8 := Lib.hid hz8
                      rw [hz8]
                      clear hz8
                      cases z8
                      · skip
                        have HF := Lib.hid (HG2.out (.inr (.inr (.inr (.inl HY3.out)))) (.inr (.inr (.inl HZ8.out))))
                        clear HG0 HG1 HG2
                        go_wp2_with fail
                        go_ret
                        exact ⟨ret_bool HF.out, HB5.out⟩
                      · skip
                        go_wp2_with fail
                        refine (r4Inside_any c.loss 0 1000 _).mono ?_
                        rintro e x9 ⟨rfl, hx9⟩
                        subst hx9
                        obtain ⟨z9, hz9⟩ : ∃ z, inside c.loss 0 1000 = z := ⟨_, rfl⟩
                        have HZ9 := Lib.hid hz9
                        rw [hz9]
                        clear hz9
                        cases z9
                        · skip
                          have HF := Lib.hid (HG2.out (.inr (.inr (.inr (.inl HY3.out)))) (.inr (.inr (.inr (.inl HZ9.out)))))
                          clear HG0 HG1 HG2
                          go_wp2_with fail
                          go_ret
                          exact ⟨ret_bool HF.out, HB5.out⟩
                        · skip
                          go_wp2_with fail
                          refine (r4Inside_any c.den 1 1000000 _).mono ?_
                          rintro e x10 ⟨rfl, hx10⟩
                          subst hx10
                          obtain ⟨z10, hz10⟩ : ∃ z, inside c.den 1 1000000 = z := ⟨_, rfl⟩
                          have HZ10 := Lib.hid hz10
                          rw [hz10]
                          clear hz10
                          cases z10
                          · skip
                            have HF := Lib.hid (HG2.out (.inr (.inr (.inr (.inl HY3.out)))) (.inr (.inr (.inr (.inr (HZ10.out))))))
                            clear HG0 HG1 HG2
                            go_wp2_with fail
                            go_ret
                            exact ⟨ret_bool HF.out, HB5.out⟩
                          · skip
                            have HF := Lib.hid (HG1.out HZ6.out HZ7.out HZ8.out HZ9.out HZ10.out)
                            clear HG0 HG1 HG2
                            go_wp2_with fail
                            go_ret
                            exact ⟨ret_bool HF.out, HB5.out⟩
                · skip
                  obtain ⟨y4, hy4⟩ : ∃ z, (c.den == 0) = z := ⟨_, rfl⟩
                  have HY4 := Lib.hid hy4
                  cases y4
                  · skip
                    go_wp2_with fail
                    refine (r4Inside_any c.amb 0 200000 _).mono ?_
                    rintro e x6 ⟨rfl, hx6⟩
                    subst hx6
                    obtain ⟨z6, hz6⟩ : ∃ z, inside c.amb 0 200000 = z := ⟨_, rfl⟩
                    have HZ6 := Lib.hid hz6
                    rw [hz6]
                    clear hz6
                    cases z6
                    · skip
                      have HF := Lib.hid (HG2.out (.inr (.inr (.inr (.inr (HY4.out))))) (.inl HZ6.out))
                      clear HG0 HG1 HG2
                      go_wp2_with fail
                      go_ret
                      exact ⟨ret_bool HF.out, HB5.out⟩
                    · skip
                      have h01 := inside_iff.1 HZ6.out
                      go_wp2_with fail
                      refine (r4Inside_any c.most (c.amb + 1) 200000 _).mono ?_
                      rintro e x7 ⟨rfl, hx7⟩
                      subst hx7
                      obtain ⟨z7, hz7⟩ : ∃ z, inside c.most (c.amb + 1) 200000 = z := ⟨_, rfl⟩
                      have HZ7 := Lib.hid hz7
                      rw [hz7]
                      clear hz7
                      cases z7
                      · skip
                        have HF := Lib.hid (HG2.out (.inr (.inr (.inr (.inr (HY4.out))))) (.inr (.inl HZ7.out)))
                        clear HG0 HG1 HG2
                        go_wp2_with fail
                        go_ret
                        exact ⟨ret_bool HF.out, HB5.out⟩
                      · skip
                        go_wp2_with fail
                        refine (r4Inside_any c.gain 0 1000 _).mono ?_
                        rintro e x8 ⟨rfl, hx8⟩
                        subst hx8
                        obtain ⟨z8, hz8⟩ : ∃ z, inside c.gain 0 1000 = z := ⟨_, rfl⟩
                        have HZ8 := Lib.hid hz8
                        rw [hz8]
                        clear hz8
                        cases z8
                        · skip
                          have HF := Lib.hid (HG2.out (.inr (.inr (.inr (.inr (HY4.out))))) (.inr (.inr (.inl HZ8.out))))
                          clear HG0 HG1 HG2
                          go_wp2_with fail
                          go_ret
                          exact ⟨ret_bool HF.out, HB5.out⟩
                        · skip
                          go_wp2_with fail
                          refine (r4Inside_any c.loss 0 1000 _).mono ?_
                          rintro e x9 ⟨rfl, hx9⟩
                          subst hx9
                          obtain ⟨z9, hz9⟩ : ∃ z, inside c.loss 0 1000 = z := ⟨_, rfl⟩
                          have HZ9 := Lib.hid hz9
                          rw [hz9]
                          clear hz9
                          cases z9
                          · skip
                            have HF := Lib.hid (HG2.out (.inr (.inr (.inr (.inr (HY4.out))))) (.inr (.inr (.inr (.inl HZ9.out)))))
                            clear HG0 HG1 HG2
                            go_wp2_with fail
                            go_ret
                            exact ⟨ret_bool HF.out, HB5.out⟩
                          · skip
                            go_wp2_with fail
                            refine (r4Inside_any c.den 1 1000000 _).mono ?_
                            rintro e x10 ⟨rfl, hx10⟩
                            subst hx10
                            obtain ⟨z10, hz10⟩ : ∃ z, inside c.den 1 1000000 = z := ⟨_, rfl⟩
                            have HZ10 := Lib.hid hz10
                            rw [hz10]
                            clear hz10
                            cases z10
                            · skip
                              have HF := Lib.hid (HG2.out (.inr (.inr (.inr (.inr (HY4.out))))) (.inr (.inr (.inr (.inr (HZ10.out))))))
                              clear HG0 HG1 HG2
                              go_wp2_with fail
                              go_ret
                              exact ⟨ret_bool HF.out, HB5.out⟩
                            · skip
                              have HF := Lib.hid (HG1.out HZ6.out HZ7.out HZ8.out HZ9.out HZ10.out)
                              clear HG0 HG1 HG2
                              go_wp2_with fail
                              go_ret
                              exact ⟨ret_bool HF.out, HB5.out⟩
                  · skip
                    have HF := Lib.hid (HG0.out HY0.out HY1.out HY2.out HY3.out HY4.out)
                    clear HG0 HG1 HG2
                    go_wp2_with fail
                    go_ret
                    exact ⟨ret_bool HF.out, HB5.out⟩
end Go.Proofs.Ytjlfnhfiiailgaa
