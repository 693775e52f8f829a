/-
The law AdmitCrowds, walked.
-/
import Derived.Test.YtgfcnkfmgpakkaaCAdmW1
namespace Go.Proofs.Ytgfcnkfmgpakkaa
open Go.RowKit
set_option linter.unusedVariables false
set_option linter.unusedSimpArgs false
set_option maxRecDepth 100000 in
set_option maxHeartbeats 8000000 in
theorem walk_AdmitCrowds (A : Option Addr) (c N : Nat) (js : List GJob) {w : World} (hR : Rd 5 encJ w A js) (HN : Hid (js.length = N)) (hl : N ≤ 9223372036854775807) (_ : ∀ x, x ∈ js → wfJ x)
    (A2 : Option Addr) (c2 T : Nat) (sup : List Int) (hR2 : Rd 1 encI w A2 sup) (HN2 : Hid (sup.length = T)) (hl2 : T ≤ 9223372036854775807) (_ : ∀ x, x ∈ sup → wf64 x) (x : GJob) (_ : wfJ x) (y : GJob) (_ : wfJ y) :
    Calls Try.prog 9 #[.slice A N c, .slice A2 T c2, .agg #[.int .i64 x.frm, .int .i64 x.till, .int .i64 x.energy, .int .i64 x.rate, .int .i64 x.rank], .agg #[.int .i64 y.frm, .int .i64 y.till, .int .i64 y.energy, .int .i64 y.rate, .int .i64 y.rank]] w fun e w' => e = .returned (.bool true) ∧ Below w.heap.size w w' := by
  have a0 : Below w.heap.size w ((w.alloc (.cells #[.int .i64 x.frm, .int .i64 x.till, .int .i64 x.energy, .int .i64 x.rate, .int .i64 x.rank] 25)).alloc (.cells #[.int .i64 y.frm, .int .i64 y.till, .int .i64 y.energy, .int .i64 y.rate, .int .i64 y.rank] 25)) := (((Below.refl _ w).alloc (Nat.le_refl _) _).alloc (by simp) _)
  have j0 := JobAt.new w x
  have j0 := j0.keep (W' := ((w.alloc (.cells #[.int .i64 x.frm, .int .i64 x.till, .int .i64 x.energy, .int .i64 x.rate, .int .i64 x.rank] 25)).alloc (.cells #[.int .i64 y.frm, .int .i64 y.till, .int .i64 y.energy, .int .i64 y.rate, .int .i64 y.rank] 25))) ((Below.refl _ _).alloc (Nat.le_refl _) _)
  have j1 := JobAt.new (w.alloc (.cells #[.int .i64 x.frm, .int .i64 x.till, .int .i64 x.energy, .int .i64 x.rate, .int .i64 x.rank] 25)) y
  rw [World.size_alloc] at j1
  go_enter Try.func9, Try.ntmps9
  go_wp2_with fail
  refine (laHead_any _).mono ?_
  rintro e w1 ⟨rfl, hb1⟩
  have b1 := below_then a0 hb1
  have j0 := j0.keep hb1
  have j1 := j1.keep hb1
  have af : Below w1.heap.size w1 (w1.alloc (.cells #[.slice A2 T c2] 23)) := (Below.refl _ _).alloc (Nat.le_refl _) _
  have rf : Rd 1 encRow (w1.alloc (.cells #[.slice A2 T c2] 23)) (some ⟨w1.heap.size, 0, none⟩) [⟨A2, T, c2⟩] := rd_rows w1 [⟨A2, T, c2⟩]
  have b2 := below_then b1 af
  have HJ0 := Lib.hid (j0.keep af)
  have HJ1 := Lib.hid (j1.keep af)
  clear hb1 b1 a0 j0 j1
  go_wp2_with fail
  refine (laFew_any A _ c N 1 1 [⟨A2, T, c2⟩] _ rf (Lib.hid rfl) (by omega) hl (fun r hr => by simp at hr; subst hr; exact hl2)).mono ?_
  rintro e w2 ⟨rfl, hw2⟩
  have hb2w : Below w.heap.size w w2 := by rw [hw2]; exact b2
  have HJ0 := Lib.hid (show JobAt w2 w.heap.size x from by rw [hw2]; exact HJ0.out)
  have HJ1 := Lib.hid (show JobAt w2 (w.heap.size + 1) y from by rw [hw2]; exact HJ1.out)
  clear af rf b2 hw2
  have B2 := Lib.hid hb2w
  clear hb2w
  cases hfew : fewL [⟨A2, T, c2⟩] N
  · go_wp2_with fail
    go_ret
    exact ⟨rfl, B2.out⟩
  have hN := fewL_N hfew
  have hT : T ≤ 40 := fewL_r hfew (r := ⟨A2, T, c2⟩) (by simp)
  clear hfew
  have HNL : Hid (∀ z, (js ++ [z]).length = N + 1) := Lib.hid (fun z => by rw [List.length_append, HN.out]; rfl)
  obtain ⟨ka0, ka1, ka2, ka3, ka4⟩ := HJ0.out
  obtain ⟨kb0, kb1, kb2, kb3, kb4⟩ := HJ1.out
  have lka := HJ0.out.lt
  have lkb := HJ1.out.lt
  go_wp2_with fail
  refine (aAdmitE_any A A2 c N c2 T js sup x w2 (hR.keep B2.out) HN hl (hR2.keep B2.out) HN2 hl2).mono ?_
  rintro e w3 ⟨a3, l3, d3, a3', n3', d3', a3'', n3'', d3'', er3, rfl, he3, hb3⟩
  have HE3 := Lib.hid he3
  clear he3
  clear ka0 ka1 ka2 ka3 ka4 kb0 kb1 kb2 kb3 kb4 lka lkb
  have ba : Below w3.heap.size w3 (w3.alloc (.cells #[.slice a3' n3' d3', .slice a3'' n3'' d3''] 30)) := (Below.refl _ _).alloc (Nat.le_refl _) _
  have k3 := below_then hb3 ba
  have hJ0 := Lib.hid (HJ0.out.keep k3)
  have hJ1 := Lib.hid (HJ1.out.keep k3)
  have hB := Lib.hid (below_then B2.out k3)
  clear hb3 ba k3 HJ0 HJ1 B2
  rcases err_ok (er := er3) (by rw [HE3.out]; exact admE_cases _ _ _) with ⟨_, rfl⟩ | ⟨b3, z3⟩
  case inr =>
    go_wp2_with fail
    go_ret
    exact ⟨rfl, hB.out⟩
  obtain ⟨hok, hmet⟩ := admE_zero.1 HE3.out.symm
  have HOK := Lib.hid hok
  have HMET := Lib.hid hmet
  clear hok hmet
  obtain ⟨ka0, ka1, ka2, ka3, ka4⟩ := hJ0.out
  obtain ⟨kb0, kb1, kb2, kb3, kb4⟩ := hJ1.out
  have lka := hJ0.out.lt
  have lkb := hJ1.out.lt
  go_wp2_with fail
  refine (aRoom_any A A2 c N c2 T js sup y _ (hR.keep hB.out) HN hl (hR2.keep hB.out) HN2 hl2).mono ?_
  rintro e W ⟨hb4, n, er1, rfl, h1, h2, h3⟩
  have HS1' := Lib.hid h1
  have HS3' := Lib.hid h3
  have HJ0 := Lib.hid (hJ0.out.keep hb4)
  have HJ1 := Lib.hid (hJ1.out.keep hb4)
  have HBW := Lib.hid (below_then hB.out hb4)
  clear h1 h2 h3 hb4 hJ0 hJ1 hB ka0 ka1 ka2 ka3 ka4 kb0 kb1 kb2 kb3 kb4 lka lkb
  obtain ⟨ka0, ka1, ka2, ka3, ka4⟩ := HJ0.out
  obtain ⟨kb0, kb1, kb2, kb3, kb4⟩ := HJ1.out
  have lka := HJ0.out.lt
  have lkb := HJ1.out.lt
  clear HJ0 HJ1
  go_upto_region 8 with (fail)
  refine region_z (S := fun w' => Below W.heap.size W w') [10] (by kernel_rfl) (Below.refl _ _).drew (fun hHeld => ?_)
  refine wpAnyZ_take (i := 0) (v := .slice A N c) [10] rfl (by kernel_rfl) (by kernel_rfl) (by kernel_rfl) (by kernel_rfl) (fun _ _ _ h => h) (Or.inl ⟨by rfl, fun w' hSw => ?_⟩) hHeld ?_
  · clear hHeld
    go_simp
  simp only [Act.put, List.setIfInBounds_toArray, List.set_cons_zero, List.set_cons_succ]
  refine wpAnyZ_take (i := 1) (v := .agg #[.int .i64 x.frm, .int .i64 x.till, .int .i64 x.energy, .int .i64 x.rate, .int .i64 x.rank]) [10] rfl (by kernel_rfl) (by kernel_rfl) (by kernel_rfl) (by kernel_rfl) (fun _ _ _ h => h) (Or.inl ⟨by rfl, fun w' hSw => ?_⟩) hHeld ?_
  · clear hHeld
    have s0 := (hSw.cell (p := ⟨w.heap.size, 0, none⟩) lka).trans ka0
    have s1 := (hSw.cell (p := ⟨w.heap.size, 1, none⟩) lka).trans ka1
    have s2 := (hSw.cell (p := ⟨w.heap.size, 2, none⟩) lka).trans ka2
    have s3 := (hSw.cell (p := ⟨w.heap.size, 3, none⟩) lka).trans ka3
    have s4 := (hSw.cell (p := ⟨w.heap.size, 4, none⟩) lka).trans ka4
    go_simp
  simp only [Act.put, List.setIfInBounds_toArray, List.set_cons_zero, List.set_cons_succ]
  refine wpAnyZ_take (i := 3) (v := .slice A2 T c2) [10] rfl (by kernel_rfl) (by kernel_rfl) (by kernel_rfl) (by kernel_rfl) (fun _ _ _ h => h) (Or.inl ⟨by rfl, fun w' hSw => ?_⟩) hHeld ?_
  · clear hHeld
    go_simp
  simp only [Act.put, List.setIfInBounds_toArray, List.set_cons_zero, List.set_cons_succ]
  refine wpAnyZ_take (i := 4) (v := .agg #[.int .i64 y.frm, .int .i64 y.till, .int .i64 y.energy, .int .i64 y.rate, .int .i64 y.rank]) [10] rfl (by kernel_rfl) (by kernel_rfl) (by kernel_rfl) (by kernel_rfl) (fun _ _ _ h => h) (Or.inl ⟨by rfl, fun w' hSw => ?_⟩) hHeld ?_
  · clear hHeld
    have s0 := (hSw.cell (p := ⟨w.heap.size + 1, 0, none⟩) lkb).trans kb0
    have s1 := (hSw.cell (p := ⟨w.heap.size + 1, 1, none⟩) lkb).trans kb1
    have s2 := (hSw.cell (p := ⟨w.heap.size + 1, 2, none⟩) lkb).trans kb2
    have s3 := (hSw.cell (p := ⟨w.heap.size + 1, 3, none⟩) lkb).trans kb3
    have s4 := (hSw.cell (p := ⟨w.heap.size + 1, 4, none⟩) lkb).trans kb4
    go_simp
  simp only [Act.put, List.setIfInBounds_toArray, List.set_cons_zero, List.set_cons_succ]
  refine wpAnyZ_one (i := 2) (by kernel_rfl) rfl (fun K' hK => ?_)
  go_simp
  refine (raWith_any A c N js x _ (hR.keep (below_then HBW.out hHeld)) HN (by omega)).mono ?_
  rintro e y1 ⟨aa, dd, rfl, hRa, hb⟩
  refine hK.out _ _ ?_ (fun hHeld' => ?_)
  · exact below_then hHeld hb
  clear hK K' hb hHeld
  have hHeld := hHeld'
  clear hHeld'
  try simp only [Act.put, List.setIfInBounds_toArray, List.set_cons_zero, List.set_cons_succ]
  refine wpAnyZ_one (i := 5) (by kernel_rfl) rfl (fun K' hK => ?_)
  go_simp
  refine (aRoom_any aa A2 dd (N + 1) c2 T (js ++ [x]) sup y _ hRa (Lib.hid (HNL.out _)) (by omega) (hR2.keep (below_then HBW.out hHeld)) HN2 hl2).mono ?_
  rintro e y2 ⟨hb, m, er2, rfl, hs1, hs2, hs3⟩
  have HS1 := Lib.hid hs1
  have HS3 := Lib.hid hs3
  clear hs1 hs2 hs3
  refine hK.out _ _ ?_ (fun hHeld' => ?_)
  · exact below_then hHeld hb
  clear hK K' hb hRa hHeld
  have hHeld := hHeld'
  clear hHeld'
  try simp only [Act.put, List.setIfInBounds_toArray, List.set_cons_zero, List.set_cons_succ]
  refine wpAnyZ_take (i := 6) (v := .tuple #[.int .i64 m, .int .i64 er2]) [10] rfl (by kernel_rfl) (by kernel_rfl) (by kernel_rfl) (by kernel_rfl) (fun _ _ _ h => h) (Or.inl ⟨by rfl, fun w' hSw => ?_⟩) hHeld ?_
  · clear hHeld
    go_simp
  simp only [Act.put, List.setIfInBounds_toArray, List.set_cons_zero, List.set_cons_succ]
  refine wpAnyZ_take (i := 7) (v := .int .i64 m) [10] rfl (by kernel_rfl) (by kernel_rfl) (by kernel_rfl) (by kernel_rfl) (fun _ _ _ h => h) (Or.inl ⟨by rfl, fun w' hSw => ?_⟩) hHeld ?_
  · clear hHeld
    go_simp
  simp only [Act.put, List.setIfInBounds_toArray, List.set_cons_zero, List.set_cons_succ]
  refine wpAnyZ_take (i := 8) (v := .int .i64 er2) [10] rfl (by kernel_rfl) (by kernel_rfl) (by kernel_rfl) (by kernel_rfl) (fun _ _ _ h => h) (Or.inl ⟨by rfl, fun w' hSw => ?_⟩) hHeld ?_
  · clear hHeld
    go_simp
  simp only [Act.put, List.setIfInBounds_toArray, List.set_cons_zero, List.set_cons_succ]
  refine wpAnyZ_one (i := 9) (by kernel_rfl) rfl (fun K' hK => ?_)
  go_simp
  refine hK.out _ _ ?_ (fun hHeld' => ?_)
  · exact hHeld
  clear hK K'  hHeld
  have hHeld := hHeld'
  clear hHeld'
  try simp only [Act.put, List.setIfInBounds_toArray, List.set_cons_zero, List.set_cons_succ]
  refine wpAnyZ_last (i := 10) (by kernel_rfl) rfl (by kernel_rfl) (fun K' hK => ?_)
  go_simp
  refine hK.out _ _ ?_
  clear hK K'
  try simp only [Act.put, List.setIfInBounds_toArray, List.set_cons_zero, List.set_cons_succ]
  refine wpAnyZ_done (by kernel_rfl) ?_ _
  have HB := Lib.hid (below_then HBW.out hHeld)
  clear hHeld ka0 ka1 ka2 ka3 ka4 kb0 kb1 kb2 kb3 kb4 lka lkb
  go_step
  have HF : Hid ((er2 = 0 ∧ er1 = 0 ∧ m ≤ n) ∨ (er2 = 1 ∧ er1 = 1) ∨ er2 = 2) := Lib.hid (by
    have hok := HOK.out
    obtain ⟨z1, z2, z3⟩ := okP_snoc.1 hok
    have hm := HMET.out
    have hlen : (js ++ [x]).length = js.length + 1 := by simp
    rcases chkE_range (js ++ [x]) sup (withE y 0) with q | q | q | q
    · obtain ⟨y1, y2, y3, y4⟩ := chkE_zero q
      have q1 : chkE js sup (withE y 0) = 0 := chkE_ok z1 y2 (by omega) hm.butlast
      have e2 : er2 = 0 := HS1.out.trans q
      have e1 : er1 = 0 := HS1'.out.trans q1
      exact .inl ⟨e2, e1, (HS3'.out e1).crowds (HS3.out e2)⟩
    · right; left
      have hn : okP [withE y 0] sup = false := by
        cases c : okP [withE y 0] sup
        · rfl
        · exfalso
          by_cases l : (js ++ [x]).length = 12
          · rw [chkE_limit hok c l] at q; omega
          · rw [chkE_ok hok c l hm] at q; omega
      exact ⟨HS1.out.trans q, HS1'.out.trans (chkE_arg (fun h => by rw [hn] at h; cases h.2))⟩
    · exact .inr (.inr (HS1.out.trans q))
    · exfalso
      by_cases c : okP [withE y 0] sup = true
      · by_cases l : (js ++ [x]).length = 12
        · rw [chkE_limit hok c l] at q; omega
        · rw [chkE_ok hok c l hm] at q; omega
      · rw [chkE_arg (fun h => c h.2)] at q; omega)
  have HER1 : Hid (er1 = 0 ∨ er1 = 1 ∨ er1 = 2 ∨ er1 = 6) := Lib.hid (by rw [HS1'.out]; exact chkE_range _ _ _)
  clear HS1 HS3 HS1' HS3'
  rcases HF.out with ⟨rfl, rfl, hmn⟩ | ⟨rfl, rfl⟩ | rfl
  · go_wp2_with fail
    go_ret
    exact ⟨by first | rfl | simp [hmn], HB.out⟩
  · go_wp2_with fail
    go_ret
    exact ⟨rfl, HB.out⟩
  · rcases HER1.out with rfl | rfl | rfl | rfl
    all_goals
      go_wp2_with fail
      go_ret
      exact ⟨rfl, HB.out⟩
end Go.Proofs.Ytgfcnkfmgpakkaa
