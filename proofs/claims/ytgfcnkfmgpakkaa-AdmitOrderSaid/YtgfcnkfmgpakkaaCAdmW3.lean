/-
The law AdmitOrder, walked.
-/
import Derived.Test.YtgfcnkfmgpakkaaCAdmW1
namespace Go.Proofs.Ytgfcnkfmgpakkaa
open Go.RowKit
set_option linter.unusedVariables false
set_option linter.unusedSimpArgs false
set_option maxRecDepth 100000 in
set_option maxHeartbeats 8000000 in
theorem walk_AdmitOrder (A : Option Addr) (c N : Nat) (js : List GJob) {w : World} (hR : Rd 5 encJ w A js) (HN : Hid (js.length = N)) (hl : N ≤ 9223372036854775807) (_ : ∀ x, x ∈ js → wfJ x)
    (A2 : Option Addr) (c2 T : Nat) (sup : List Int) (hR2 : Rd 1 encI w A2 sup) (HN2 : Hid (sup.length = T)) (hl2 : T ≤ 9223372036854775807) (_ : ∀ x, x ∈ sup → wf64 x) (x : GJob) (_ : wfJ x) (y : GJob) (_ : wfJ y) :
    Calls Try.prog 7 #[.slice A N c, .slice A2 T c2, .agg #[.int .i64 x.frm, .int .i64 x.till, .int .i64 x.energy, .int .i64 x.rate, .int .i64 x.rank], .agg #[.int .i64 y.frm, .int .i64 y.till, .int .i64 y.energy, .int .i64 y.rate, .int .i64 y.rank]] w fun e w' => e = .returned (.bool true) ∧ Below w.heap.size w w' := by
  have a0 : Below w.heap.size w ((w.alloc (.cells #[.int .i64 x.frm, .int .i64 x.till, .int .i64 x.energy, .int .i64 x.rate, .int .i64 x.rank] 25)).alloc (.cells #[.int .i64 y.frm, .int .i64 y.till, .int .i64 y.energy, .int .i64 y.rate, .int .i64 y.rank] 25)) := (((Below.refl _ w).alloc (Nat.le_refl _) _).alloc (by simp) _)
  have j0 := JobAt.new w x
  have j0 := j0.keep (W' := ((w.alloc (.cells #[.int .i64 x.frm, .int .i64 x.till, .int .i64 x.energy, .int .i64 x.rate, .int .i64 x.rank] 25)).alloc (.cells #[.int .i64 y.frm, .int .i64 y.till, .int .i64 y.energy, .int .i64 y.rate, .int .i64 y.rank] 25))) ((Below.refl _ _).alloc (Nat.le_refl _) _)
  have j1 := JobAt.new (w.alloc (.cells #[.int .i64 x.frm, .int .i64 x.till, .int .i64 x.energy, .int .i64 x.rate, .int .i64 x.rank] 25)) y
  rw [World.size_alloc] at j1
  go_enter Try.func7, Try.ntmps7
  go_wp2_with fail
  refine (laHead_any _).mono ?_
  rintro e w1 ⟨rfl, hb1⟩
  have b1 := below_then a0 hb1
  have j0 := j0.keep hb1
  have j1 := j1.keep hb1
  have af : Below w1.heap.size w1 (w1.alloc (.cells #[.slice A2 T c2] 23)) := (Below.refl _ _).alloc (Nat.le_refl _) _
  have rf : Rd 1 encRow (w1.alloc (.cells #[.slice A2 T c2] 23)) (some ⟨w1.heap.size, 0, none⟩) [⟨A2, T, c2⟩] := rd_rows w1 [⟨A2, T, c2⟩]
  have b2 := below_then b1 af
  have HJ0 := Lib.hid (j0.keep af)
  have HJ1 := Lib.hid (j1.keep af)
  clear hb1 b1 a0 j0 j1
  go_wp2_with fail
  refine (laFew_any A _ c N 1 1 [⟨A2, T, c2⟩] _ rf (Lib.hid rfl) (by omega) hl (fun r hr => by simp at hr; subst hr; exact hl2)).mono ?_
  rintro e w2 ⟨rfl, hw2⟩
  have hb2w : Below w.heap.size w w2 := by rw [hw2]; exact b2
  have HJ0 := Lib.hid (show JobAt w2 w.heap.size x from by rw [hw2]; exact HJ0.out)
  have HJ1 := Lib.hid (show JobAt w2 (w.heap.size + 1) y from by rw [hw2]; exact HJ1.out)
  clear af rf b2 hw2
  have B2 := Lib.hid hb2w
  clear hb2w
  cases hfew : fewL [⟨A2, T, c2⟩] N
  · go_wp2_with fail
    go_ret
    exact ⟨rfl, B2.out⟩
  have hN := fewL_N hfew
  have hT : T ≤ 40 := fewL_r hfew (r := ⟨A2, T, c2⟩) (by simp)
  clear hfew
  have HNL : Hid (∀ z, (js ++ [z]).length = N + 1) := Lib.hid (fun z => by rw [List.length_append, HN.out]; rfl)
  obtain ⟨ka0, ka1, ka2, ka3, ka4⟩ := HJ0.out
  obtain ⟨kb0, kb1, kb2, kb3, kb4⟩ := HJ1.out
  have lka := HJ0.out.lt
  have lkb := HJ1.out.lt
  go_wp2_with fail
  refine (aAdmitE_any A A2 c N c2 T js sup x w2 (hR.keep B2.out) HN hl (hR2.keep B2.out) HN2 hl2).mono ?_
  rintro e w3 ⟨a3, l3, d3, a3', n3', d3', a3'', n3'', d3'', er3, rfl, he3, hb3⟩
  have HE3 := Lib.hid he3
  clear he3
  clear ka0 ka1 ka2 ka3 ka4 kb0 kb1 kb2 kb3 kb4 lka lkb
  have ba : Below w3.heap.size w3 (w3.alloc (.cells #[.slice a3' n3' d3', .slice a3'' n3'' d3''] 30)) := (Below.refl _ _).alloc (Nat.le_refl _) _
  have k3 := below_then hb3 ba
  have hJ0 := HJ0.out.keep k3
  have hJ1 := HJ1.out.keep k3
  have hB := below_then B2.out k3
  clear hb3 ba k3
  go_upto_region 5 with (fail)
  refine wp_world (fun X => JobAt X w.heap.size x ∧ JobAt X (w.heap.size + 1) y ∧ Below w.heap.size w X) ⟨hJ0, hJ1, hB⟩ ?_
  clear hJ0 hJ1 hB HJ0 HJ1 B2
  rintro W ⟨hJ0, hJ1, hB⟩
  have HJ0 := Lib.hid hJ0
  have HJ1 := Lib.hid hJ1
  have HBW := Lib.hid hB
  clear hJ0 hJ1 hB
  go_cut [13, 14, 15] (fun v13 v14 v15 wx => ∃ er : Int, v15 = .int .i64 er ∧ Hid (er = admE (js ++ [x]) sup y) ∧ Hid (Below W.heap.size W wx))
  case first =>
    obtain ⟨ka0, ka1, ka2, ka3, ka4⟩ := HJ0.out
    obtain ⟨kb0, kb1, kb2, kb3, kb4⟩ := HJ1.out
    have lka := HJ0.out.lt
    have lkb := HJ1.out.lt
    refine region_z (S := fun w' => Below W.heap.size W w') [13] (by kernel_rfl) (Below.refl _ _).drew (fun hHeld => ?_)
    refine wpAnyZ_take (i := 0) (v := .slice A N c) [13] rfl (by kernel_rfl) (by kernel_rfl) (by kernel_rfl) (by kernel_rfl) (fun _ _ _ h => h) (Or.inl ⟨by rfl, fun w' hSw => ?_⟩) hHeld ?_
    · clear hHeld
      go_simp
    simp only [Act.put, List.setIfInBounds_toArray, List.set_cons_zero, List.set_cons_succ]
    refine wpAnyZ_take (i := 1) (v := .agg #[.int .i64 x.frm, .int .i64 x.till, .int .i64 x.energy, .int .i64 x.rate, .int .i64 x.rank]) [13] rfl (by kernel_rfl) (by kernel_rfl) (by kernel_rfl) (by kernel_rfl) (fun _ _ _ h => h) (Or.inl ⟨by rfl, fun w' hSw => ?_⟩) hHeld ?_
    · clear hHeld
      have s0 := (hSw.cell (p := ⟨w.heap.size, 0, none⟩) lka).trans ka0
      have s1 := (hSw.cell (p := ⟨w.heap.size, 1, none⟩) lka).trans ka1
      have s2 := (hSw.cell (p := ⟨w.heap.size, 2, none⟩) lka).trans ka2
      have s3 := (hSw.cell (p := ⟨w.heap.size, 3, none⟩) lka).trans ka3
      have s4 := (hSw.cell (p := ⟨w.heap.size, 4, none⟩) lka).trans ka4
      go_simp
    simp only [Act.put, List.setIfInBounds_toArray, List.set_cons_zero, List.set_cons_succ]
    refine wpAnyZ_take (i := 3) (v := .slice A2 T c2) [13] rfl (by kernel_rfl) (by kernel_rfl) (by kernel_rfl) (by kernel_rfl) (fun _ _ _ h => h) (Or.inl ⟨by rfl, fun w' hSw => ?_⟩) hHeld ?_
    · clear hHeld
      go_simp
    simp only [Act.put, List.setIfInBounds_toArray, List.set_cons_zero, List.set_cons_succ]
    refine wpAnyZ_take (i := 4) (v := .agg #[.int .i64 y.frm, .int .i64 y.till, .int .i64 y.energy, .int .i64 y.rate, .int .i64 y.rank]) [13] rfl (by kernel_rfl) (by kernel_rfl) (by kernel_rfl) (by kernel_rfl) (fun _ _ _ h => h) (Or.inl ⟨by rfl, fun w' hSw => ?_⟩) hHeld ?_
    · clear hHeld
      have s0 := (hSw.cell (p := ⟨w.heap.size + 1, 0, none⟩) lkb).trans kb0
      have s1 := (hSw.cell (p := ⟨w.heap.size + 1, 1, none⟩) lkb).trans kb1
      have s2 := (hSw.cell (p := ⟨w.heap.size + 1, 2, none⟩) lkb).trans kb2
      have s3 := (hSw.cell (p := ⟨w.heap.size + 1, 3, none⟩) lkb).trans kb3
      have s4 := (hSw.cell (p := ⟨w.heap.size + 1, 4, none⟩) lkb).trans kb4
      go_simp
    simp only [Act.put, List.setIfInBounds_toArray, List.set_cons_zero, List.set_cons_succ]
    refine wpAnyZ_two (i := 2) (k := 10) (by kernel_rfl) rfl rfl (fun K' hK => ?_) (fun K' hK => ?_)
    · go_simp
      refine (raWith_any A c N js x _ (hR.keep (below_then HBW.out hHeld)) HN (by omega)).mono ?_
      rintro e y1 ⟨aa, dd, rfl, hRa, hb⟩
      refine hK.out _ _ ?_ (fun hHeld' => ?_)
      · exact below_then hHeld hb
      clear hK K' hb hHeld
      have hHeld := hHeld'
      clear hHeld'
      try simp only [Act.put, List.setIfInBounds_toArray, List.set_cons_zero, List.set_cons_succ]
      refine wpAnyZ_two (i := 5) (k := 10) (by kernel_rfl) rfl rfl (fun K' hK => ?_) (fun K' hK => ?_)
      · go_simp
        refine (aAdmitE_any aa A2 dd (N + 1) c2 T (js ++ [x]) sup y _ hRa (Lib.hid (HNL.out _)) (by omega) (hR2.keep (below_then HBW.out hHeld)) HN2 hl2).mono ?_
        rintro e y2 ⟨a0, l0, d0, a3, n3, d3, a4, n4, d4, er, rfl, hst, hb⟩
        have HST := Lib.hid hst
        clear hst
        refine hK.out _ _ ?_ (fun hHeld' => ?_)
        · exact below_then hHeld hb
        clear hK K' hb hRa hHeld
        have hHeld := hHeld'
        clear hHeld'
        try simp only [Act.put, List.setIfInBounds_toArray, List.set_cons_zero, List.set_cons_succ]
        refine wpAnyZ_take (i := 6) (v := .tuple #[.slice a0 l0 d0, .agg #[.slice a3 n3 d3, .slice a4 n4 d4], .int .i64 er]) [13] rfl (by kernel_rfl) (by kernel_rfl) (by kernel_rfl) (by kernel_rfl) (fun _ _ _ h => h) (Or.inl ⟨by rfl, fun w' hSw => ?_⟩) hHeld ?_
        · clear hHeld
          go_simp
        simp only [Act.put, List.setIfInBounds_toArray, List.set_cons_zero, List.set_cons_succ]
        refine wpAnyZ_take (i := 7) (v := .slice a0 l0 d0) [13] rfl (by kernel_rfl) (by kernel_rfl) (by kernel_rfl) (by kernel_rfl) (fun _ _ _ h => h) (Or.inl ⟨by rfl, fun w' hSw => ?_⟩) hHeld ?_
        · clear hHeld
          go_simp
        simp only [Act.put, List.setIfInBounds_toArray, List.set_cons_zero, List.set_cons_succ]
        refine wpAnyZ_take (i := 8) (v := .agg #[.slice a3 n3 d3, .slice a4 n4 d4]) [13] rfl (by kernel_rfl) (by kernel_rfl) (by kernel_rfl) (by kernel_rfl) (fun _ _ _ h => h) (Or.inl ⟨by rfl, fun w' hSw => ?_⟩) hHeld ?_
        · clear hHeld
          go_simp
        simp only [Act.put, List.setIfInBounds_toArray, List.set_cons_zero, List.set_cons_succ]
        refine wpAnyZ_take (i := 9) (v := .int .i64 er) [13] rfl (by kernel_rfl) (by kernel_rfl) (by kernel_rfl) (by kernel_rfl) (fun _ _ _ h => h) (Or.inl ⟨by rfl, fun w' hSw => ?_⟩) hHeld ?_
        · clear hHeld
          go_simp
        simp only [Act.put, List.setIfInBounds_toArray, List.set_cons_zero, List.set_cons_succ]
        refine wpAnyZ_one (i := 10) (by kernel_rfl) rfl (fun K' hK => ?_)
        go_simp
        have hO : Own (y2.alloc (.cells #[.slice none 0 0, .slice none 0 0] 30)) y2.heap.size 30 2 (fun _ => .slice none 0 0) := new_cut y2
        have hq : W.heap.size ≤ y2.heap.size := hHeld.size
        have hPre := hHeld
        refine hK.out _ _ ?_ (fun hHeld' => ?_)
        · exact hHeld.alloc hHeld.size _
        clear hK K'  hHeld
        have hHeld := hHeld'
        clear hHeld'
        try simp only [Act.put, List.setIfInBounds_toArray, List.set_cons_zero, List.set_cons_succ]
        have c50 := hO.cell (i := 0) (by omega)
        have c51 := hO.cell (i := 1) (by omega)
        have f50 := hO.frozen 0
        have f51 := hO.frozen 1
        clear hO
        refine wpAnyZ_one (i := 11) (by kernel_rfl) rfl (fun K' hK => ?_)
        go_simp
        refine hK.out _ _ ?_ (fun hHeld' => ?_)
        · exact hHeld
        clear hK K'  hHeld
        have hHeld := hHeld'
        clear hHeld'
        try simp only [Act.put, List.setIfInBounds_toArray, List.set_cons_zero, List.set_cons_succ]
        refine wpAnyZ_one (i := 12) (by kernel_rfl) rfl (fun K' hK => ?_)
        go_simp
        refine hK.out _ _ ?_ (fun hHeld' => ?_)
        · first | exact (hHeld.setCell (p := ⟨_, _, _⟩) hq _).setCell (p := ⟨_, _, _⟩) hq _ | exact hPre.alloc hPre.size _
        clear hK K'  hHeld
        have hHeld := hHeld'
        clear hHeld'
        try simp only [Act.put, List.setIfInBounds_toArray, List.set_cons_zero, List.set_cons_succ]
        refine wpAnyZ_last (i := 13) (by kernel_rfl) rfl (by kernel_rfl) (fun K' hK => ?_)
        go_simp
        refine hK.out _ _ ?_
        clear hK K'
        try simp only [Act.put, List.setIfInBounds_toArray, List.set_cons_zero, List.set_cons_succ]
        refine wpAnyZ_done (by kernel_rfl) ?_ _
        have HH := Lib.hid hHeld
        clear hHeld c50 c51 f50 f51
        go_step
        go_step
        go_meet
        exact ⟨_, rfl, HST, HH⟩
      · go_simp
        have hO : Own (y1.alloc (.cells #[.slice none 0 0, .slice none 0 0] 30)) y1.heap.size 30 2 (fun _ => .slice none 0 0) := new_cut y1
        have hRa := hRa.keep ((Below.refl _ y1).alloc (Nat.le_refl _) (.cells #[.slice none 0 0, .slice none 0 0] 30))
        have hq : W.heap.size ≤ y1.heap.size := hHeld.size
        have hPre := hHeld
        refine hK.out _ _ ?_ (fun hHeld' => ?_)
        · exact hHeld.alloc hHeld.size _
        clear hK K'  hHeld
        have hHeld := hHeld'
        clear hHeld'
        try simp only [Act.put, List.setIfInBounds_toArray, List.set_cons_zero, List.set_cons_succ]
        refine wpAnyZ_one (i := 5) (by kernel_rfl) rfl (fun K' hK => ?_)
        go_simp
        refine (aAdmitE_any aa A2 dd (N + 1) c2 T (js ++ [x]) sup y _ hRa (Lib.hid (HNL.out _)) (by omega) (hR2.keep (below_then HBW.out hHeld)) HN2 hl2).mono ?_
        rintro e y2 ⟨a0, l0, d0, a3, n3, d3, a4, n4, d4, er, rfl, hst, hb⟩
        have HST := Lib.hid hst
        clear hst
        have hO := hO.keep hb hO.lt
        refine hK.out _ _ ?_ (fun hHeld' => ?_)
        · exact below_then hHeld hb
        clear hK K' hb hRa hHeld
        have hHeld := hHeld'
        clear hHeld'
        try simp only [Act.put, List.setIfInBounds_toArray, List.set_cons_zero, List.set_cons_succ]
        refine wpAnyZ_take (i := 6) (v := .tuple #[.slice a0 l0 d0, .agg #[.slice a3 n3 d3, .slice a4 n4 d4], .int .i64 er]) [13] rfl (by kernel_rfl) (by kernel_rfl) (by kernel_rfl) (by kernel_rfl) (fun _ _ _ h => h) (Or.inl ⟨by rfl, fun w' hSw => ?_⟩) hHeld ?_
        · clear hHeld
          go_simp
        simp only [Act.put, List.setIfInBounds_toArray, List.set_cons_zero, List.set_cons_succ]
        refine wpAnyZ_take (i := 7) (v := .slice a0 l0 d0) [13] rfl (by kernel_rfl) (by kernel_rfl) (by kernel_rfl) (by kernel_rfl) (fun _ _ _ h => h) (Or.inl ⟨by rfl, fun w' hSw => ?_⟩) hHeld ?_
        · clear hHeld
          go_simp
        simp only [Act.put, List.setIfInBounds_toArray, List.set_cons_zero, List.set_cons_succ]
        refine wpAnyZ_take (i := 8) (v := .agg #[.slice a3 n3 d3, .slice a4 n4 d4]) [13] rfl (by kernel_rfl) (by kernel_rfl) (by kernel_rfl) (by kernel_rfl) (fun _ _ _ h => h) (Or.inl ⟨by rfl, fun w' hSw => ?_⟩) hHeld ?_
        · clear hHeld
          go_simp
        simp only [Act.put, List.setIfInBounds_toArray, List.set_cons_zero, List.set_cons_succ]
        refine wpAnyZ_take (i := 9) (v := .int .i64 er) [13] rfl (by kernel_rfl) (by kernel_rfl) (by kernel_rfl) (by kernel_rfl) (fun _ _ _ h => h) (Or.inl ⟨by rfl, fun w' hSw => ?_⟩) hHeld ?_
        · clear hHeld
          go_simp
        simp only [Act.put, List.setIfInBounds_toArray, List.set_cons_zero, List.set_cons_succ]
        have c50 := hO.cell (i := 0) (by omega)
        have c51 := hO.cell (i := 1) (by omega)
        have f50 := hO.frozen 0
        have f51 := hO.frozen 1
        clear hO
        refine wpAnyZ_one (i := 11) (by kernel_rfl) rfl (fun K' hK => ?_)
        go_simp
        refine hK.out _ _ ?_ (fun hHeld' => ?_)
        · exact hHeld
        clear hK K'  hHeld
        have hHeld := hHeld'
        clear hHeld'
        try simp only [Act.put, List.setIfInBounds_toArray, List.set_cons_zero, List.set_cons_succ]
        refine wpAnyZ_one (i := 12) (by kernel_rfl) rfl (fun K' hK => ?_)
        go_simp
        refine hK.out _ _ ?_ (fun hHeld' => ?_)
        · first | exact (hHeld.setCell (p := ⟨_, _, _⟩) hq _).setCell (p := ⟨_, _, _⟩) hq _ | exact hPre.alloc hPre.size _
        clear hK K'  hHeld
        have hHeld := hHeld'
        clear hHeld'
        try simp only [Act.put, List.setIfInBounds_toArray, List.set_cons_zero, List.set_cons_succ]
        refine wpAnyZ_last (i := 13) (by kernel_rfl) rfl (by kernel_rfl) (fun K' hK => ?_)
        go_simp
        refine hK.out _ _ ?_
        clear hK K'
        try simp only [Act.put, List.setIfInBounds_toArray, List.set_cons_zero, List.set_cons_succ]
        refine wpAnyZ_done (by kernel_rfl) ?_ _
        have HH := Lib.hid hHeld
        clear hHeld c50 c51 f50 f51
        go_step
        go_step
        go_meet
        exact ⟨_, rfl, HST, HH⟩
    · go_simp
      have hO : Own (W.drew.alloc (.cells #[.slice none 0 0, .slice none 0 0] 30)) W.heap.size 30 2 (fun _ => .slice none 0 0) := new_cut W.drew
      have hq : W.heap.size ≤ W.heap.size := hHeld.size
      have hPre := hHeld
      refine hK.out _ _ ?_ (fun hHeld' => ?_)
      · exact hHeld.alloc hHeld.size _
      clear hK K'  hHeld
      have hHeld := hHeld'
      clear hHeld'
      try simp only [Act.put, List.setIfInBounds_toArray, List.set_cons_zero, List.set_cons_succ]
      refine wpAnyZ_one (i := 2) (by kernel_rfl) rfl (fun K' hK => ?_)
      go_simp
      refine (raWith_any A c N js x _ (hR.keep (below_then HBW.out hHeld)) HN (by omega)).mono ?_
      rintro e y1 ⟨aa, dd, rfl, hRa, hb⟩
      have hO := hO.keep hb hO.lt
      refine hK.out _ _ ?_ (fun hHeld' => ?_)
      · exact below_then hHeld hb
      clear hK K' hb hHeld
      have hHeld := hHeld'
      clear hHeld'
      try simp only [Act.put, List.setIfInBounds_toArray, List.set_cons_zero, List.set_cons_succ]
      refine wpAnyZ_one (i := 5) (by kernel_rfl) rfl (fun K' hK => ?_)
      go_simp
      refine (aAdmitE_any aa A2 dd (N + 1) c2 T (js ++ [x]) sup y _ hRa (Lib.hid (HNL.out _)) (by omega) (hR2.keep (below_then HBW.out hHeld)) HN2 hl2).mono ?_
      rintro e y2 ⟨a0, l0, d0, a3, n3, d3, a4, n4, d4, er, rfl, hst, hb⟩
      have HST := Lib.hid hst
      clear hst
      have hO := hO.keep hb hO.lt
      refine hK.out _ _ ?_ (fun hHeld' => ?_)
      · exact below_then hHeld hb
      clear hK K' hb hRa hHeld
      have hHeld := hHeld'
      clear hHeld'
      try simp only [Act.put, List.setIfInBounds_toArray, List.set_cons_zero, List.set_cons_succ]
      refine wpAnyZ_take (i := 6) (v := .tuple #[.slice a0 l0 d0, .agg #[.slice a3 n3 d3, .slice a4 n4 d4], .int .i64 er]) [13] rfl (by kernel_rfl) (by kernel_rfl) (by kernel_rfl) (by kernel_rfl) (fun _ _ _ h => h) (Or.inl ⟨by rfl, fun w' hSw => ?_⟩) hHeld ?_
      · clear hHeld
        go_simp
      simp only [Act.put, List.setIfInBounds_toArray, List.set_cons_zero, List.set_cons_succ]
      refine wpAnyZ_take (i := 7) (v := .slice a0 l0 d0) [13] rfl (by kernel_rfl) (by kernel_rfl) (by kernel_rfl) (by kernel_rfl) (fun _ _ _ h => h) (Or.inl ⟨by rfl, fun w' hSw => ?_⟩) hHeld ?_
      · clear hHeld
        go_simp
      simp only [Act.put, List.setIfInBounds_toArray, List.set_cons_zero, List.set_cons_succ]
      refine wpAnyZ_take (i := 8) (v := .agg #[.slice a3 n3 d3, .slice a4 n4 d4]) [13] rfl (by kernel_rfl) (by kernel_rfl) (by kernel_rfl) (by kernel_rfl) (fun _ _ _ h => h) (Or.inl ⟨by rfl, fun w' hSw => ?_⟩) hHeld ?_
      · clear hHeld
        go_simp
      simp only [Act.put, List.setIfInBounds_toArray, List.set_cons_zero, List.set_cons_succ]
      refine wpAnyZ_take (i := 9) (v := .int .i64 er) [13] rfl (by kernel_rfl) (by kernel_rfl) (by kernel_rfl) (by kernel_rfl) (fun _ _ _ h => h) (Or.inl ⟨by rfl, fun w' hSw => ?_⟩) hHeld ?_
      · clear hHeld
        go_simp
      simp only [Act.put, List.setIfInBounds_toArray, List.set_cons_zero, List.set_cons_succ]
      have c50 := hO.cell (i := 0) (by omega)
      have c51 := hO.cell (i := 1) (by omega)
      have f50 := hO.frozen 0
      have f51 := hO.frozen 1
      clear hO
      refine wpAnyZ_one (i := 11) (by kernel_rfl) rfl (fun K' hK => ?_)
      go_simp
      refine hK.out _ _ ?_ (fun hHeld' => ?_)
      · exact hHeld
      clear hK K'  hHeld
      have hHeld := hHeld'
      clear hHeld'
      try simp only [Act.put, List.setIfInBounds_toArray, List.set_cons_zero, List.set_cons_succ]
      refine wpAnyZ_one (i := 12) (by kernel_rfl) rfl (fun K' hK => ?_)
      go_simp
      refine hK.out _ _ ?_ (fun hHeld' => ?_)
      · first | exact (hHeld.setCell (p := ⟨_, _, _⟩) hq _).setCell (p := ⟨_, _, _⟩) hq _ | exact hPre.alloc hPre.size _
      clear hK K'  hHeld
      have hHeld := hHeld'
      clear hHeld'
      try simp only [Act.put, List.setIfInBounds_toArray, List.set_cons_zero, List.set_cons_succ]
      refine wpAnyZ_last (i := 13) (by kernel_rfl) rfl (by kernel_rfl) (fun K' hK => ?_)
      go_simp
      refine hK.out _ _ ?_
      clear hK K'
      try simp only [Act.put, List.setIfInBounds_toArray, List.set_cons_zero, List.set_cons_succ]
      refine wpAnyZ_done (by kernel_rfl) ?_ _
      have HH := Lib.hid hHeld
      clear hHeld c50 c51 f50 f51
      go_step
      go_step
      go_meet
      exact ⟨_, rfl, HST, HH⟩
  case rest =>
    obtain ⟨er4, rfl, he4, hb4⟩ := hcut
    have HJ0' := Lib.hid (HJ0.out.keep hb4.out)
    have HJ1' := Lib.hid (HJ1.out.keep hb4.out)
    have HBW' := Lib.hid (below_then HBW.out hb4.out)
    clear HJ0 HJ1 HBW hb4
    obtain ⟨ka0, ka1, ka2, ka3, ka4⟩ := HJ0'.out
    obtain ⟨kb0, kb1, kb2, kb3, kb4⟩ := HJ1'.out
    have lka := HJ0'.out.lt
    have lkb := HJ1'.out.lt
    go_wp2_with fail
    refine (aAdmitE_any A A2 c N c2 T js sup y wc (hR.keep HBW'.out) HN hl (hR2.keep HBW'.out) HN2 hl2).mono ?_
    rintro e w5 ⟨a5, l5, d5, a5', n5', d5', a5'', n5'', d5'', er5, rfl, he5, hb5⟩
    have HE5 := Lib.hid he5
    clear he5
    clear ka0 ka1 ka2 ka3 ka4 kb0 kb1 kb2 kb3 kb4 lka lkb
    have ba : Below w5.heap.size w5 (w5.alloc (.cells #[.slice a5' n5' d5', .slice a5'' n5'' d5''] 30)) := (Below.refl _ _).alloc (Nat.le_refl _) _
    have k3 := below_then hb5 ba
    have hJ0 := HJ0'.out.keep k3
    have hJ1 := HJ1'.out.keep k3
    have hB := below_then HBW'.out k3
    clear hb5 ba k3
    go_upto_region 7 with (fail)
    refine wp_world (fun X => JobAt X w.heap.size x ∧ JobAt X (w.heap.size + 1) y ∧ Below w.heap.size w X) ⟨hJ0, hJ1, hB⟩ ?_
    clear hJ0 hJ1 hB HJ0' HJ1' HBW'
    rintro W ⟨hJ0, hJ1, hB⟩
    have HJ0 := Lib.hid hJ0
    have HJ1 := Lib.hid hJ1
    have HBW := Lib.hid hB
    clear hJ0 hJ1 hB
    go_cut [19, 20, 21] (fun v19 v20 v21 wx => ∃ er : Int, v21 = .int .i64 er ∧ Hid (er = admE (js ++ [y]) sup x) ∧ Hid (Below W.heap.size W wx))
    case first =>
      obtain ⟨ka0, ka1, ka2, ka3, ka4⟩ := HJ0.out
      obtain ⟨kb0, kb1, kb2, kb3, kb4⟩ := HJ1.out
      have lka := HJ0.out.lt
      have lkb := HJ1.out.lt
      refine region_z (S := fun w' => Below W.heap.size W w') [13] (by kernel_rfl) (Below.refl _ _).drew (fun hHeld => ?_)
      refine wpAnyZ_take (i := 0) (v := .slice A N c) [13] rfl (by kernel_rfl) (by kernel_rfl) (by kernel_rfl) (by kernel_rfl) (fun _ _ _ h => h) (Or.inl ⟨by rfl, fun w' hSw => ?_⟩) hHeld ?_
      · clear hHeld
        go_simp
      simp only [Act.put, List.setIfInBounds_toArray, List.set_cons_zero, List.set_cons_succ]
      refine wpAnyZ_take (i := 1) (v := .agg #[.int .i64 y.frm, .int .i64 y.till, .int .i64 y.energy, .int .i64 y.rate, .int .i64 y.rank]) [13] rfl (by kernel_rfl) (by kernel_rfl) (by kernel_rfl) (by kernel_rfl) (fun _ _ _ h => h) (Or.inl ⟨by rfl, fun w' hSw => ?_⟩) hHeld ?_
      · clear hHeld
        have s0 := (hSw.cell (p := ⟨w.heap.size + 1, 0, none⟩) lkb).trans kb0
        have s1 := (hSw.cell (p := ⟨w.heap.size + 1, 1, none⟩) lkb).trans kb1
        have s2 := (hSw.cell (p := ⟨w.heap.size + 1, 2, none⟩) lkb).trans kb2
        have s3 := (hSw.cell (p := ⟨w.heap.size + 1, 3, none⟩) lkb).trans kb3
        have s4 := (hSw.cell (p := ⟨w.heap.size + 1, 4, none⟩) lkb).trans kb4
        go_simp
      simp only [Act.put, List.setIfInBounds_toArray, List.set_cons_zero, List.set_cons_succ]
      refine wpAnyZ_take (i := 3) (v := .slice A2 T c2) [13] rfl (by kernel_rfl) (by kernel_rfl) (by kernel_rfl) (by kernel_rfl) (fun _ _ _ h => h) (Or.inl ⟨by rfl, fun w' hSw => ?_⟩) hHeld ?_
      · clear hHeld
        go_simp
      simp only [Act.put, List.setIfInBounds_toArray, List.set_cons_zero, List.set_cons_succ]
      refine wpAnyZ_take (i := 4) (v := .agg #[.int .i64 x.frm, .int .i64 x.till, .int .i64 x.energy, .int .i64 x.rate, .int .i64 x.rank]) [13] rfl (by kernel_rfl) (by kernel_rfl) (by kernel_rfl) (by kernel_rfl) (fun _ _ _ h => h) (Or.inl ⟨by rfl, fun w' hSw => ?_⟩) hHeld ?_
      · clear hHeld
        have s0 := (hSw.cell (p := ⟨w.heap.size, 0, none⟩) lka).trans ka0
        have s1 := (hSw.cell (p := ⟨w.heap.size, 1, none⟩) lka).trans ka1
        have s2 := (hSw.cell (p := ⟨w.heap.size, 2, none⟩) lka).trans ka2
        have s3 := (hSw.cell (p := ⟨w.heap.size, 3, none⟩) lka).trans ka3
        have s4 := (hSw.cell (p := ⟨w.heap.size, 4, none⟩) lka).trans ka4
        go_simp
      simp only [Act.put, List.setIfInBounds_toArray, List.set_cons_zero, List.set_cons_succ]
      refine wpAnyZ_two (i := 2) (k := 10) (by kernel_rfl) rfl rfl (fun K' hK => ?_) (fun K' hK => ?_)
      · go_simp
        refine (raWith_any A c N js y _ (hR.keep (below_then HBW.out hHeld)) HN (by omega)).mono ?_
        rintro e y1 ⟨aa, dd, rfl, hRa, hb⟩
        refine hK.out _ _ ?_ (fun hHeld' => ?_)
        · exact below_then hHeld hb
        clear hK K' hb hHeld
        have hHeld := hHeld'
        clear hHeld'
        try simp only [Act.put, List.setIfInBounds_toArray, List.set_cons_zero, List.set_cons_succ]
        refine wpAnyZ_two (i := 5) (k := 10) (by kernel_rfl) rfl rfl (fun K' hK => ?_) (fun K' hK => ?_)
        · go_simp
          refine (aAdmitE_any aa A2 dd (N + 1) c2 T (js ++ [y]) sup x _ hRa (Lib.hid (HNL.out _)) (by omega) (hR2.keep (below_then HBW.out hHeld)) HN2 hl2).mono ?_
          rintro e y2 ⟨a0, l0, d0, a3, n3, d3, a4, n4, d4, er, rfl, hst, hb⟩
          have HST := Lib.hid hst
          clear hst
          refine hK.out _ _ ?_ (fun hHeld' => ?_)
          · exact below_then hHeld hb
          clear hK K' hb hRa hHeld
          have hHeld := hHeld'
          clear hHeld'
          try simp only [Act.put, List.setIfInBounds_toArray, List.set_cons_zero, List.set_cons_succ]
          refine wpAnyZ_take (i := 6) (v := .tuple #[.slice a0 l0 d0, .agg #[.slice a3 n3 d3, .slice a4 n4 d4], .int .i64 er]) [13] rfl (by kernel_rfl) (by kernel_rfl) (by kernel_rfl) (by kernel_rfl) (fun _ _ _ h => h) (Or.inl ⟨by rfl, fun w' hSw => ?_⟩) hHeld ?_
          · clear hHeld
            go_simp
          simp only [Act.put, List.setIfInBounds_toArray, List.set_cons_zero, List.set_cons_succ]
          refine wpAnyZ_take (i := 7) (v := .slice a0 l0 d0) [13] rfl (by kernel_rfl) (by kernel_rfl) (by kernel_rfl) (by kernel_rfl) (fun _ _ _ h => h) (Or.inl ⟨by rfl, fun w' hSw => ?_⟩) hHeld ?_
          · clear hHeld
            go_simp
          simp only [Act.put, List.setIfInBounds_toArray, List.set_cons_zero, List.set_cons_succ]
          refine wpAnyZ_take (i := 8) (v := .agg #[.slice a3 n3 d3, .slice a4 n4 d4]) [13] rfl (by kernel_rfl) (by kernel_rfl) (by kernel_rfl) (by kernel_rfl) (fun _ _ _ h => h) (Or.inl ⟨by rfl, fun w' hSw => ?_⟩) hHeld ?_
          · clear hHeld
            go_simp
          simp only [Act.put, List.setIfInBounds_toArray, List.set_cons_zero, List.set_cons_succ]
          refine wpAnyZ_take (i := 9) (v := .int .i64 er) [13] rfl (by kernel_rfl) (by kernel_rfl) (by kernel_rfl) (by kernel_rfl) (fun _ _ _ h => h) (Or.inl ⟨by rfl, fun w' hSw => ?_⟩) hHeld ?_
          · clear hHeld
            go_simp
          simp only [Act.put, List.setIfInBounds_toArray, List.set_cons_zero, List.set_cons_succ]
          refine wpAnyZ_one (i := 10) (by kernel_rfl) rfl (fun K' hK => ?_)
          go_simp
          have hO : Own (y2.alloc (.cells #[.slice none 0 0, .slice none 0 0] 30)) y2.heap.size 30 2 (fun _ => .slice none 0 0) := new_cut y2
          have hq : W.heap.size ≤ y2.heap.size := hHeld.size
          have hPre := hHeld
          refine hK.out _ _ ?_ (fun hHeld' => ?_)
          · exact hHeld.alloc hHeld.size _
          clear hK K'  hHeld
          have hHeld := hHeld'
          clear hHeld'
          try simp only [Act.put, List.setIfInBounds_toArray, List.set_cons_zero, List.set_cons_succ]
          have c50 := hO.cell (i := 0) (by omega)
          have c51 := hO.cell (i := 1) (by omega)
          have f50 := hO.frozen 0
          have f51 := hO.frozen 1
          clear hO
          refine wpAnyZ_one (i := 11) (by kernel_rfl) rfl (fun K' hK => ?_)
          go_simp
          refine hK.out _ _ ?_ (fun hHeld' => ?_)
          · exact hHeld
          clear hK K'  hHeld
          have hHeld := hHeld'
          clear hHeld'
          try simp only [Act.put, List.setIfInBounds_toArray, List.set_cons_zero, List.set_cons_succ]
          refine wpAnyZ_one (i := 12) (by kernel_rfl) rfl (fun K' hK => ?_)
          go_simp
          refine hK.out _ _ ?_ (fun hHeld' => ?_)
          · first | exact (hHeld.setCell (p := ⟨_, _, _⟩) hq _).setCell (p := ⟨_, _, _⟩) hq _ | exact hPre.alloc hPre.size _
          clear hK K'  hHeld
          have hHeld := hHeld'
          clear hHeld'
          try simp only [Act.put, List.setIfInBounds_toArray, List.set_cons_zero, List.set_cons_succ]
          refine wpAnyZ_last (i := 13) (by kernel_rfl) rfl (by kernel_rfl) (fun K' hK => ?_)
          go_simp
          refine hK.out _ _ ?_
          clear hK K'
          try simp only [Act.put, List.setIfInBounds_toArray, List.set_cons_zero, List.set_cons_succ]
          refine wpAnyZ_done (by kernel_rfl) ?_ _
          have HH := Lib.hid hHeld
          clear hHeld c50 c51 f50 f51
          go_step
          go_step
          go_meet
          exact ⟨_, rfl, HST, HH⟩
        · go_simp
          have hO : Own (y1.alloc (.cells #[.slice none 0 0, .slice none 0 0] 30)) y1.heap.size 30 2 (fun _ => .slice none 0 0) := new_cut y1
          have hRa := hRa.keep ((Below.refl _ y1).alloc (Nat.le_refl _) (.cells #[.slice none 0 0, .slice none 0 0] 30))
          have hq : W.heap.size ≤ y1.heap.size := hHeld.size
          have hPre := hHeld
          refine hK.out _ _ ?_ (fun hHeld' => ?_)
          · exact hHeld.alloc hHeld.size _
          clear hK K'  hHeld
          have hHeld := hHeld'
          clear hHeld'
          try simp only [Act.put, List.setIfInBounds_toArray, List.set_cons_zero, List.set_cons_succ]
          refine wpAnyZ_one (i := 5) (by kernel_rfl) rfl (fun K' hK => ?_)
          go_simp
          refine (aAdmitE_any aa A2 dd (N + 1) c2 T (js ++ [y]) sup x _ hRa (Lib.hid (HNL.out _)) (by omega) (hR2.keep (below_then HBW.out hHeld)) HN2 hl2).mono ?_
          rintro e y2 ⟨a0, l0, d0, a3, n3, d3, a4, n4, d4, er, rfl, hst, hb⟩
          have HST := Lib.hid hst
          clear hst
          have hO := hO.keep hb hO.lt
          refine hK.out _ _ ?_ (fun hHeld' => ?_)
          · exact below_then hHeld hb
          clear hK K' hb hRa hHeld
          have hHeld := hHeld'
          clear hHeld'
          try simp only [Act.put, List.setIfInBounds_toArray, List.set_cons_zero, List.set_cons_succ]
          refine wpAnyZ_take (i := 6) (v := .tuple #[.slice a0 l0 d0, .agg #[.slice a3 n3 d3, .slice a4 n4 d4], .int .i64 er]) [13] rfl (by kernel_rfl) (by kernel_rfl) (by kernel_rfl) (by kernel_rfl) (fun _ _ _ h => h) (Or.inl ⟨by rfl, fun w' hSw => ?_⟩) hHeld ?_
          · clear hHeld
            go_simp
          simp only [Act.put, List.setIfInBounds_toArray, List.set_cons_zero, List.set_cons_succ]
          refine wpAnyZ_take (i := 7) (v := .slice a0 l0 d0) [13] rfl (by kernel_rfl) (by kernel_rfl) (by kernel_rfl) (by kernel_rfl) (fun _ _ _ h => h) (Or.inl ⟨by rfl, fun w' hSw => ?_⟩) hHeld ?_
          · clear hHeld
            go_simp
          simp only [Act.put, List.setIfInBounds_toArray, List.set_cons_zero, List.set_cons_succ]
          refine wpAnyZ_take (i := 8) (v := .agg #[.slice a3 n3 d3, .slice a4 n4 d4]) [13] rfl (by kernel_rfl) (by kernel_rfl) (by kernel_rfl) (by kernel_rfl) (fun _ _ _ h => h) (Or.inl ⟨by rfl, fun w' hSw => ?_⟩) hHeld ?_
          · clear hHeld
            go_simp
          simp only [Act.put, List.setIfInBounds_toArray, List.set_cons_zero, List.set_cons_succ]
          refine wpAnyZ_take (i := 9) (v := .int .i64 er) [13] rfl (by kernel_rfl) (by kernel_rfl) (by kernel_rfl) (by kernel_rfl) (fun _ _ _ h => h) (Or.inl ⟨by rfl, fun w' hSw => ?_⟩) hHeld ?_
          · clear hHeld
            go_simp
          simp only [Act.put, List.setIfInBounds_toArray, List.set_cons_zero, List.set_cons_succ]
          have c50 := hO.cell (i := 0) (by omega)
          have c51 := hO.cell (i := 1) (by omega)
          have f50 := hO.frozen 0
          have f51 := hO.frozen 1
          clear hO
          refine wpAnyZ_one (i := 11) (by kernel_rfl) rfl (fun K' hK => ?_)
          go_simp
          refine hK.out _ _ ?_ (fun hHeld' => ?_)
          · exact hHeld
          clear hK K'  hHeld
          have hHeld := hHeld'
          clear hHeld'
          try simp only [Act.put, List.setIfInBounds_toArray, List.set_cons_zero, List.set_cons_succ]
          refine wpAnyZ_one (i := 12) (by kernel_rfl) rfl (fun K' hK => ?_)
          go_simp
          refine hK.out _ _ ?_ (fun hHeld' => ?_)
          · first | exact (hHeld.setCell (p := ⟨_, _, _⟩) hq _).setCell (p := ⟨_, _, _⟩) hq _ | exact hPre.alloc hPre.size _
          clear hK K'  hHeld
          have hHeld := hHeld'
          clear hHeld'
          try simp only [Act.put, List.setIfInBounds_toArray, List.set_cons_zero, List.set_cons_succ]
          refine wpAnyZ_last (i := 13) (by kernel_rfl) rfl (by kernel_rfl) (fun K' hK => ?_)
          go_simp
          refine hK.out _ _ ?_
          clear hK K'
          try simp only [Act.put, List.setIfInBounds_toArray, List.set_cons_zero, List.set_cons_succ]
          refine wpAnyZ_done (by kernel_rfl) ?_ _
          have HH := Lib.hid hHeld
          clear hHeld c50 c51 f50 f51
          go_step
          go_step
          go_meet
          exact ⟨_, rfl, HST, HH⟩
      · go_simp
        have hO : Own (W.drew.alloc (.cells #[.slice none 0 0, .slice none 0 0] 30)) W.heap.size 30 2 (fun _ => .slice none 0 0) := new_cut W.drew
        have hq : W.heap.size ≤ W.heap.size := hHeld.size
        have hPre := hHeld
        refine hK.out _ _ ?_ (fun hHeld' => ?_)
        · exact hHeld.alloc hHeld.size _
        clear hK K'  hHeld
        have hHeld := hHeld'
        clear hHeld'
        try simp only [Act.put, List.setIfInBounds_toArray, List.set_cons_zero, List.set_cons_succ]
        refine wpAnyZ_one (i := 2) (by kernel_rfl) rfl (fun K' hK => ?_)
        go_simp
        refine (raWith_any A c N js y _ (hR.keep (below_then HBW.out hHeld)) HN (by omega)).mono ?_
        rintro e y1 ⟨aa, dd, rfl, hRa, hb⟩
        have hO := hO.keep hb hO.lt
        refine hK.out _ _ ?_ (fun hHeld' => ?_)
        · exact below_then hHeld hb
        clear hK K' hb hHeld
        have hHeld := hHeld'
        clear hHeld'
        try simp only [Act.put, List.setIfInBounds_toArray, List.set_cons_zero, List.set_cons_succ]
        refine wpAnyZ_one (i := 5) (by kernel_rfl) rfl (fun K' hK => ?_)
        go_simp
        refine (aAdmitE_any aa A2 dd (N + 1) c2 T (js ++ [y]) sup x _ hRa (Lib.hid (HNL.out _)) (by omega) (hR2.keep (below_then HBW.out hHeld)) HN2 hl2).mono ?_
        rintro e y2 ⟨a0, l0, d0, a3, n3, d3, a4, n4, d4, er, rfl, hst, hb⟩
        have HST := Lib.hid hst
        clear hst
        have hO := hO.keep hb hO.lt
        refine hK.out _ _ ?_ (fun hHeld' => ?_)
        · exact below_then hHeld hb
        clear hK K' hb hRa hHeld
        have hHeld := hHeld'
        clear hHeld'
        try simp only [Act.put, List.setIfInBounds_toArray, List.set_cons_zero, List.set_cons_succ]
        refine wpAnyZ_take (i := 6) (v := .tuple #[.slice a0 l0 d0, .agg #[.slice a3 n3 d3, .slice a4 n4 d4], .int .i64 er]) [13] rfl (by kernel_rfl) (by kernel_rfl) (by kernel_rfl) (by kernel_rfl) (fun _ _ _ h => h) (Or.inl ⟨by rfl, fun w' hSw => ?_⟩) hHeld ?_
        · clear hHeld
          go_simp
        simp only [Act.put, List.setIfInBounds_toArray, List.set_cons_zero, List.set_cons_succ]
        refine wpAnyZ_take (i := 7) (v := .slice a0 l0 d0) [13] rfl (by kernel_rfl) (by kernel_rfl) (by kernel_rfl) (by kernel_rfl) (fun _ _ _ h => h) (Or.inl ⟨by rfl, fun w' hSw => ?_⟩) hHeld ?_
        · clear hHeld
          go_simp
        simp only [Act.put, List.setIfInBounds_toArray, List.set_cons_zero, List.set_cons_succ]
        refine wpAnyZ_take (i := 8) (v := .agg #[.slice a3 n3 d3, .slice a4 n4 d4]) [13] rfl (by kernel_rfl) (by kernel_rfl) (by kernel_rfl) (by kernel_rfl) (fun _ _ _ h => h) (Or.inl ⟨by rfl, fun w' hSw => ?_⟩) hHeld ?_
        · clear hHeld
          go_simp
        simp only [Act.put, List.setIfInBounds_toArray, List.set_cons_zero, List.set_cons_succ]
        refine wpAnyZ_take (i := 9) (v := .int .i64 er) [13] rfl (by kernel_rfl) (by kernel_rfl) (by kernel_rfl) (by kernel_rfl) (fun _ _ _ h => h) (Or.inl ⟨by rfl, fun w' hSw => ?_⟩) hHeld ?_
        · clear hHeld
          go_simp
        simp only [Act.put, List.setIfInBounds_toArray, List.set_cons_zero, List.set_cons_succ]
        have c50 := hO.cell (i := 0) (by omega)
        have c51 := hO.cell (i := 1) (by omega)
        have f50 := hO.frozen 0
        have f51 := hO.frozen 1
        clear hO
        refine wpAnyZ_one (i := 11) (by kernel_rfl) rfl (fun K' hK => ?_)
        go_simp
        refine hK.out _ _ ?_ (fun hHeld' => ?_)
        · exact hHeld
        clear hK K'  hHeld
        have hHeld := hHeld'
        clear hHeld'
        try simp only [Act.put, List.setIfInBounds_toArray, List.set_cons_zero, List.set_cons_succ]
        refine wpAnyZ_one (i := 12) (by kernel_rfl) rfl (fun K' hK => ?_)
        go_simp
        refine hK.out _ _ ?_ (fun hHeld' => ?_)
        · first | exact (hHeld.setCell (p := ⟨_, _, _⟩) hq _).setCell (p := ⟨_, _, _⟩) hq _ | exact hPre.alloc hPre.size _
        clear hK K'  hHeld
        have hHeld := hHeld'
        clear hHeld'
        try simp only [Act.put, List.setIfInBounds_toArray, List.set_cons_zero, List.set_cons_succ]
        refine wpAnyZ_last (i := 13) (by kernel_rfl) rfl (by kernel_rfl) (fun K' hK => ?_)
        go_simp
        refine hK.out _ _ ?_
        clear hK K'
        try simp only [Act.put, List.setIfInBounds_toArray, List.set_cons_zero, List.set_cons_succ]
        refine wpAnyZ_done (by kernel_rfl) ?_ _
        have HH := Lib.hid hHeld
        clear hHeld c50 c51 f50 f51
        go_step
        go_step
        go_meet
        exact ⟨_, rfl, HST, HH⟩
    case rest =>
      obtain ⟨er6, rfl, he6, hb6⟩ := hcut
      have HB := Lib.hid (below_then HBW.out hb6.out)
      have HO : Hid ((er3 = 0 ∧ er4 = 0) ↔ (er5 = 0 ∧ er6 = 0)) := Lib.hid (by rw [HE3.out, he4.out, HE5.out, he6.out]; exact adm_order)
      have q3 := err_ok (er := er3) (by rw [HE3.out]; exact admE_cases _ _ _)
      have q4 := err_ok (er := er4) (by rw [he4.out]; exact admE_cases _ _ _)
      have q5 := err_ok (er := er5) (by rw [HE5.out]; exact admE_cases _ _ _)
      have q6 := err_ok (er := er6) (by rw [he6.out]; exact admE_cases _ _ _)
      clear HJ0 HJ1 HBW hb6 he4 he6 HE3 HE5
      rcases q3 with ⟨b3, rfl⟩ | ⟨b3, z3⟩ <;> rcases q4 with ⟨b4, rfl⟩ | ⟨b4, z4⟩ <;> rcases q5 with ⟨b5, rfl⟩ | ⟨b5, z5⟩ <;> rcases q6 with ⟨b6, rfl⟩ | ⟨b6, z6⟩
      all_goals first | (exfalso; have := HO.out; omega) | (clear HO; go_wp2_with fail; go_ret; exact ⟨rfl, HB.out⟩)
end Go.Proofs.Ytgfcnkfmgpakkaa
