/-
The law PlanMatchesReference, walked.
-/
import Derived.Test.YtmmmgafnmpaohaaCPlanW1
import Derived.Test.YtmmmgafnmpaohaaCPlanRS
namespace Go.Proofs.Ytmmmgafnmpaohaa
open Go.RowKit
set_option linter.unusedVariables false
set_option linter.unusedSimpArgs false
noncomputable def pm8Code : Code := ((Try.f3.body.bind (findRegion 8)).getD .skip)
set_option maxRecDepth 100000 in
set_option maxHeartbeats 64000000 in
theorem pm8 (Wx : World) (A A2 A5 A3 A4 : Option Addr) (c N c2 T c5 N5 c3 N3 c4 N4 bq : Nat) (js : List GJob) (sup cj cs : List Int) (rs : List RowV) (ps : List (List Int)) (K : Act → World → Prop)
  (hJ : Rd 5 encJ Wx A js) (HN : Hid (js.length = N)) (hl : N ≤ 9223372036854775807) (hS : Rd 1 encI Wx A2 sup) (HN2 : Hid (sup.length = T)) (hl2 : T ≤ 9223372036854775807) (hP : RdP Wx A5 rs ps) (HN5 : Hid (ps.length = N5)) (hl5 : N5 ≤ 9223372036854775807)
  (h3 : Rd 1 encI Wx A3 cj) (HN3 : Hid (cj.length = N3)) (hl3 : N3 ≤ 9223372036854775807) (h4 : Rd 1 encI Wx A4 cs) (HN4 : Hid (cs.length = N4)) (hl4 : N4 ≤ 9223372036854775807)
  (k0 : Wx.cell? ⟨bq, 0, none⟩ = some (.slice A3 N3 c3)) (k1 : Wx.cell? ⟨bq, 1, none⟩ = some (.slice A4 N4 c4)) (lx : bq < Wx.heap.size)
  (u3 u4 u5 u6 u8 u10 u11 u12 u13 u14 u15 u16 u17 u18 u19 u20 u21 u22 u23 u24 u25 u26 u27 u28 u29 u30 u31 u32 u33 u34 u35 u36 u37 u38 u39 u40 u41 u42 u43 u44 u45 u46 u47 u48 u49 u50 u51 u52 u53 u54 u55 u56 u57 u58 u59 u60 u61 u62 u63 u64 u65 u66 u67 u68 u69 u70 u71 u72 u73 u74 u75 u76 u77 u78 u79 u80 u81 u82 u83 u84 u85 u86 u87 u88 u89 u90 u91 u92 u93 u94 u95 u96 u97 u98 u99 u100 : Value)
  (HK : Hid (∀ (W' : World) (v69 v70 v71 v72 v73 v74 v75 v76 v77 v78 v79 v80 v81 v82 v83 v84 v85 v86 v87 v88 v89 v90 v91 v92 v93 v94 v95 v96 v97 v98 v99 v100 : Value), Below Wx.heap.size Wx W' → K ⟨List.toArray ((.slice A N c) :: (.slice A2 T c2) :: (.slice A5 N5 c5) :: u3 :: u4 :: u5 :: u6 :: (.pointer (some ⟨bq, 0, none⟩)) :: (.bool true) :: (.bool true) :: u10 :: u11 :: u12 :: u13 :: u14 :: u15 :: u16 :: u17 :: u18 :: u19 :: u20 :: u21 :: u22 :: u23 :: u24 :: u25 :: u26 :: u27 :: u28 :: u29 :: u30 :: u31 :: u32 :: u33 :: u34 :: u35 :: u36 :: u37 :: u38 :: u39 :: u40 :: u41 :: u42 :: u43 :: u44 :: u45 :: u46 :: u47 :: u48 :: u49 :: u50 :: u51 :: u52 :: u53 :: u54 :: u55 :: u56 :: u57 :: u58 :: u59 :: u60 :: u61 :: u62 :: u63 :: u64 :: u65 :: u66 :: u67 :: u68 :: v69 :: v70 :: v71 :: v72 :: v73 :: v74 :: v75 :: v76 :: v77 :: v78 :: v79 :: v80 :: v81 :: v82 :: v83 :: v84 :: v85 :: v86 :: v87 :: v88 :: v89 :: v90 :: v91 :: v92 :: v93 :: v94 :: v95 :: v96 :: v97 :: v98 :: v99 :: v100 :: []), []⟩ W')) :
  Code.wp Try.prog pm8Code (Exit.then K (fun _ _ _ => False)) ⟨List.toArray ((.slice A N c) :: (.slice A2 T c2) :: (.slice A5 N5 c5) :: u3 :: u4 :: u5 :: u6 :: (.pointer (some ⟨bq, 0, none⟩)) :: u8 :: (.bool true) :: u10 :: u11 :: u12 :: u13 :: u14 :: u15 :: u16 :: u17 :: u18 :: u19 :: u20 :: u21 :: u22 :: u23 :: u24 :: u25 :: u26 :: u27 :: u28 :: u29 :: u30 :: u31 :: u32 :: u33 :: u34 :: u35 :: u36 :: u37 :: u38 :: u39 :: u40 :: u41 :: u42 :: u43 :: u44 :: u45 :: u46 :: u47 :: u48 :: u49 :: u50 :: u51 :: u52 :: u53 :: u54 :: u55 :: u56 :: u57 :: u58 :: u59 :: u60 :: u61 :: u62 :: u63 :: u64 :: u65 :: u66 :: u67 :: u68 :: u69 :: u70 :: u71 :: u72 :: u73 :: u74 :: u75 :: u76 :: u77 :: u78 :: u79 :: u80 :: u81 :: u82 :: u83 :: u84 :: u85 :: u86 :: u87 :: u88 :: u89 :: u90 :: u91 :: u92 :: u93 :: u94 :: u95 :: u96 :: u97 :: u98 :: u99 :: u100 :: []), []⟩ Wx := by
  conv => arg 2; whnf
  refine region_z (S := fun w' => Below Wx.heap.size Wx w') [32] (by kernel_rfl) (Below.refl _ _).drew (fun hHeld => ?_)
  refine wpAnyZ_take (i := 0) (v := .bool true) [32] rfl (by kernel_rfl) (by kernel_rfl) (by kernel_rfl) (by kernel_rfl) (fun _ _ _ h => h) (Or.inl ⟨by kernel_rfl, fun w' hSw => ?_⟩) hHeld ?_
  · clear hHeld
    go_simp
  simp only [Act.put, List.setIfInBounds_toArray, List.set_cons_zero, List.set_cons_succ]
  refine wpAnyZ_take (i := 1) (v := .bool true) [32] rfl (by kernel_rfl) (by kernel_rfl) (by kernel_rfl) (by kernel_rfl) (fun _ _ _ h => h) (Or.inl ⟨by kernel_rfl, fun w' hSw => ?_⟩) hHeld ?_
  · clear hHeld
    go_simp
  simp only [Act.put, List.setIfInBounds_toArray, List.set_cons_zero, List.set_cons_succ]
  refine wpAnyZ_take (i := 2) (v := .slice A N c) [32] rfl (by kernel_rfl) (by kernel_rfl) (by kernel_rfl) (by kernel_rfl) (fun _ _ _ h => h) (Or.inl ⟨by kernel_rfl, fun w' hSw => ?_⟩) hHeld ?_
  · clear hHeld
    go_simp
  simp only [Act.put, List.setIfInBounds_toArray, List.set_cons_zero, List.set_cons_succ]
  refine wpAnyZ_take (i := 3) (v := .slice A2 T c2) [32] rfl (by kernel_rfl) (by kernel_rfl) (by kernel_rfl) (by kernel_rfl) (fun _ _ _ h => h) (Or.inl ⟨by kernel_rfl, fun w' hSw => ?_⟩) hHeld ?_
  · clear hHeld
    go_simp
  simp only [Act.put, List.setIfInBounds_toArray, List.set_cons_zero, List.set_cons_succ]
  refine wpAnyZ_take (i := 5) (v := .slice A N c) [32] rfl (by kernel_rfl) (by kernel_rfl) (by kernel_rfl) (by kernel_rfl) (fun _ _ _ h => h) (Or.inl ⟨by kernel_rfl, fun w' hSw => ?_⟩) hHeld ?_
  · clear hHeld
    go_simp
  simp only [Act.put, List.setIfInBounds_toArray, List.set_cons_zero, List.set_cons_succ]
  refine wpAnyZ_take (i := 6) (v := .slice A2 T c2) [32] rfl (by kernel_rfl) (by kernel_rfl) (by kernel_rfl) (by kernel_rfl) (fun _ _ _ h => h) (Or.inl ⟨by kernel_rfl, fun w' hSw => ?_⟩) hHeld ?_
  · clear hHeld
    go_simp
  simp only [Act.put, List.setIfInBounds_toArray, List.set_cons_zero, List.set_cons_succ]
  refine wpAnyZ_one (i := 4) (by kernel_rfl) rfl (fun K' hK => ?_)
  go_simp
  refine (plValid_any A A2 c N c2 T js sup _ (hJ.keep hHeld) HN hl (hS.keep hHeld) HN2 hl2).mono ?_
  rintro e y1 ⟨rfl, hb⟩
  refine hK.out _ _ ?_ (fun hHeld' => ?_)
  · exact below_then hHeld hb
  clear hK K' hb hHeld
  have hHeld := hHeld'
  clear hHeld'
  try simp only [Act.put, List.setIfInBounds_toArray, List.set_cons_zero, List.set_cons_succ]
  refine wpAnyZ_one (i := 7) (by kernel_rfl) rfl (fun K' hK => ?_)
  go_simp
  refine (rpValid_any A A2 c N c2 T js sup _ (hJ.keep hHeld) HN hl (hS.keep hHeld) HN2 hl2).mono ?_
  rintro e y2 ⟨rfl, hb⟩
  refine hK.out _ _ ?_ (fun hHeld' => ?_)
  · exact below_then hHeld hb
  clear hK K' hb hHeld
  have hHeld := hHeld'
  clear hHeld'
  try simp only [Act.put, List.setIfInBounds_toArray, List.set_cons_zero, List.set_cons_succ]
  refine wpAnyZ_take (i := 8) (v := .bool true) [32] rfl (by kernel_rfl) (by kernel_rfl) (by kernel_rfl) (by kernel_rfl) (fun _ _ _ h => h) (Or.inl ⟨by kernel_rfl, fun w' hSw => ?_⟩) hHeld ?_
  · clear hHeld
    go_simp
  simp only [Act.put, List.setIfInBounds_toArray, List.set_cons_zero, List.set_cons_succ]
  refine wpAnyZ_take (i := 9) (v := .bool true) [32] rfl (by kernel_rfl) (by kernel_rfl) (by kernel_rfl) (by kernel_rfl) (fun _ _ _ h => h) (Or.inl ⟨by kernel_rfl, fun w' hSw => ?_⟩) hHeld ?_
  · clear hHeld
    go_simp
  simp only [Act.put, List.setIfInBounds_toArray, List.set_cons_zero, List.set_cons_succ]
  refine wpAnyZ_take (i := 10) (v := .bool true) [32] rfl (by kernel_rfl) (by kernel_rfl) (by kernel_rfl) (by kernel_rfl) (fun _ _ _ h => h) (Or.inl ⟨by kernel_rfl, fun w' hSw => ?_⟩) hHeld ?_
  · clear hHeld
    go_simp
  simp only [Act.put, List.setIfInBounds_toArray, List.set_cons_zero, List.set_cons_succ]
  refine wpAnyZ_take (i := 11) (v := .slice A N c) [32] rfl (by kernel_rfl) (by kernel_rfl) (by kernel_rfl) (by kernel_rfl) (fun _ _ _ h => h) (Or.inl ⟨by kernel_rfl, fun w' hSw => ?_⟩) hHeld ?_
  · clear hHeld
    go_simp
  simp only [Act.put, List.setIfInBounds_toArray, List.set_cons_zero, List.set_cons_succ]
  refine wpAnyZ_take (i := 12) (v := .slice A2 T c2) [32] rfl (by kernel_rfl) (by kernel_rfl) (by kernel_rfl) (by kernel_rfl) (fun _ _ _ h => h) (Or.inl ⟨by kernel_rfl, fun w' hSw => ?_⟩) hHeld ?_
  · clear hHeld
    go_simp
  simp only [Act.put, List.setIfInBounds_toArray, List.set_cons_zero, List.set_cons_succ]
  refine wpAnyZ_take (i := 13) (v := .slice A5 N5 c5) [32] rfl (by kernel_rfl) (by kernel_rfl) (by kernel_rfl) (by kernel_rfl) (fun _ _ _ h => h) (Or.inl ⟨by kernel_rfl, fun w' hSw => ?_⟩) hHeld ?_
  · clear hHeld
    go_simp
  simp only [Act.put, List.setIfInBounds_toArray, List.set_cons_zero, List.set_cons_succ]
  refine wpAnyZ_take (i := 15) (v := .slice A N c) [32] rfl (by kernel_rfl) (by kernel_rfl) (by kernel_rfl) (by kernel_rfl) (fun _ _ _ h => h) (Or.inl ⟨by kernel_rfl, fun w' hSw => ?_⟩) hHeld ?_
  · clear hHeld
    go_simp
  simp only [Act.put, List.setIfInBounds_toArray, List.set_cons_zero, List.set_cons_succ]
  refine wpAnyZ_take (i := 16) (v := .slice A2 T c2) [32] rfl (by kernel_rfl) (by kernel_rfl) (by kernel_rfl) (by kernel_rfl) (fun _ _ _ h => h) (Or.inl ⟨by kernel_rfl, fun w' hSw => ?_⟩) hHeld ?_
  · clear hHeld
    go_simp
  simp only [Act.put, List.setIfInBounds_toArray, List.set_cons_zero, List.set_cons_succ]
  refine wpAnyZ_take (i := 17) (v := .slice A5 N5 c5) [32] rfl (by kernel_rfl) (by kernel_rfl) (by kernel_rfl) (by kernel_rfl) (fun _ _ _ h => h) (Or.inl ⟨by kernel_rfl, fun w' hSw => ?_⟩) hHeld ?_
  · clear hHeld
    go_simp
  simp only [Act.put, List.setIfInBounds_toArray, List.set_cons_zero, List.set_cons_succ]
  refine wpAnyZ_one (i := 14) (by kernel_rfl) rfl (fun K' hK => ?_)
  go_simp
  refine (plCheckPlan_any A A2 A5 c N c2 T c5 N5 js sup rs ps _ (hJ.keep hHeld) HN hl (hS.keep hHeld) HN2 hl2 (hP.keep hHeld) HN5 hl5).mono ?_
  rintro e y3 ⟨rfl, hb⟩
  refine hK.out _ _ ?_ (fun hHeld' => ?_)
  · exact below_then hHeld hb
  clear hK K' hb hHeld
  have hHeld := hHeld'
  clear hHeld'
  try simp only [Act.put, List.setIfInBounds_toArray, List.set_cons_zero, List.set_cons_succ]
  refine wpAnyZ_one (i := 18) (by kernel_rfl) rfl (fun K' hK => ?_)
  go_simp
  refine (rpCheckPlan_any A A2 A5 c N c2 T c5 N5 js sup rs ps _ (hJ.keep hHeld) HN hl (hS.keep hHeld) HN2 hl2 (hP.keep hHeld) HN5 hl5).mono ?_
  rintro e y4 ⟨rfl, hb⟩
  refine hK.out _ _ ?_ (fun hHeld' => ?_)
  · exact below_then hHeld hb
  clear hK K' hb hHeld
  have hHeld := hHeld'
  clear hHeld'
  try simp only [Act.put, List.setIfInBounds_toArray, List.set_cons_zero, List.set_cons_succ]
  refine wpAnyZ_take (i := 19) (v := .bool true) [32] rfl (by kernel_rfl) (by kernel_rfl) (by kernel_rfl) (by kernel_rfl) (fun _ _ _ h => h) (Or.inl ⟨by kernel_rfl, fun w' hSw => ?_⟩) hHeld ?_
  · clear hHeld
    go_simp
  simp only [Act.put, List.setIfInBounds_toArray, List.set_cons_zero, List.set_cons_succ]
  refine wpAnyZ_take (i := 20) (v := .bool true) [32] rfl (by kernel_rfl) (by kernel_rfl) (by kernel_rfl) (by kernel_rfl) (fun _ _ _ h => h) (Or.inl ⟨by kernel_rfl, fun w' hSw => ?_⟩) hHeld ?_
  · clear hHeld
    go_simp
  simp only [Act.put, List.setIfInBounds_toArray, List.set_cons_zero, List.set_cons_succ]
  refine wpAnyZ_take (i := 21) (v := .bool true) [32] rfl (by kernel_rfl) (by kernel_rfl) (by kernel_rfl) (by kernel_rfl) (fun _ _ _ h => h) (Or.inl ⟨by kernel_rfl, fun w' hSw => ?_⟩) hHeld ?_
  · clear hHeld
    go_simp
  simp only [Act.put, List.setIfInBounds_toArray, List.set_cons_zero, List.set_cons_succ]
  refine wpAnyZ_take (i := 22) (v := .slice A N c) [32] rfl (by kernel_rfl) (by kernel_rfl) (by kernel_rfl) (by kernel_rfl) (fun _ _ _ h => h) (Or.inl ⟨by kernel_rfl, fun w' hSw => ?_⟩) hHeld ?_
  · clear hHeld
    go_simp
  simp only [Act.put, List.setIfInBounds_toArray, List.set_cons_zero, List.set_cons_succ]
  refine wpAnyZ_take (i := 23) (v := .slice A2 T c2) [32] rfl (by kernel_rfl) (by kernel_rfl) (by kernel_rfl) (by kernel_rfl) (fun _ _ _ h => h) (Or.inl ⟨by kernel_rfl, fun w' hSw => ?_⟩) hHeld ?_
  · clear hHeld
    go_simp
  simp only [Act.put, List.setIfInBounds_toArray, List.set_cons_zero, List.set_cons_succ]
  refine wpAnyZ_take (i := 24) (v := .agg #[.slice A3 N3 c3, .slice A4 N4 c4]) [32] rfl (by kernel_rfl) (by kernel_rfl) (by kernel_rfl) (by kernel_rfl) (fun _ _ _ h => h) (Or.inl ⟨by kernel_rfl, fun w' hSw => ?_⟩) hHeld ?_
  · clear hHeld
    have s0 := (hSw.cell (p := ⟨bq, 0, none⟩) lx).trans k0
    have s1 := (hSw.cell (p := ⟨bq, 1, none⟩) lx).trans k1
    go_simp
  simp only [Act.put, List.setIfInBounds_toArray, List.set_cons_zero, List.set_cons_succ]
  refine wpAnyZ_take (i := 26) (v := .slice A N c) [32] rfl (by kernel_rfl) (by kernel_rfl) (by kernel_rfl) (by kernel_rfl) (fun _ _ _ h => h) (Or.inl ⟨by kernel_rfl, fun w' hSw => ?_⟩) hHeld ?_
  · clear hHeld
    go_simp
  simp only [Act.put, List.setIfInBounds_toArray, List.set_cons_zero, List.set_cons_succ]
  refine wpAnyZ_take (i := 27) (v := .slice A2 T c2) [32] rfl (by kernel_rfl) (by kernel_rfl) (by kernel_rfl) (by kernel_rfl) (fun _ _ _ h => h) (Or.inl ⟨by kernel_rfl, fun w' hSw => ?_⟩) hHeld ?_
  · clear hHeld
    go_simp
  simp only [Act.put, List.setIfInBounds_toArray, List.set_cons_zero, List.set_cons_succ]
  refine wpAnyZ_take (i := 28) (v := .agg #[.slice A3 N3 c3, .slice A4 N4 c4]) [32] rfl (by kernel_rfl) (by kernel_rfl) (by kernel_rfl) (by kernel_rfl) (fun _ _ _ h => h) (Or.inl ⟨by kernel_rfl, fun w' hSw => ?_⟩) hHeld ?_
  · clear hHeld
    have s0 := (hSw.cell (p := ⟨bq, 0, none⟩) lx).trans k0
    have s1 := (hSw.cell (p := ⟨bq, 1, none⟩) lx).trans k1
    go_simp
  simp only [Act.put, List.setIfInBounds_toArray, List.set_cons_zero, List.set_cons_succ]
  refine wpAnyZ_one (i := 25) (by kernel_rfl) rfl (fun K' hK => ?_)
  go_simp
  refine (plCheckCut_any A A2 A3 A4 c N c2 T c3 N3 c4 N4 js sup cj cs _ (hJ.keep hHeld) HN hl (hS.keep hHeld) HN2 hl2 (h3.keep hHeld) HN3 hl3 (h4.keep hHeld) HN4 hl4).mono ?_
  rintro e y5 ⟨rfl, hb⟩
  refine hK.out _ _ ?_ (fun hHeld' => ?_)
  · exact below_then hHeld hb
  clear hK K' hb hHeld
  have hHeld := hHeld'
  clear hHeld'
  try simp only [Act.put, List.setIfInBounds_toArray, List.set_cons_zero, List.set_cons_succ]
  refine wpAnyZ_one (i := 29) (by kernel_rfl) rfl (fun K' hK => ?_)
  go_simp
  refine (rpCheckCut_any A A2 A3 A4 c N c2 T c3 N3 c4 N4 js sup cj cs _ (hJ.keep hHeld) HN hl (hS.keep hHeld) HN2 hl2 (h3.keep hHeld) HN3 hl3 (h4.keep hHeld) HN4 hl4).mono ?_
  rintro e y6 ⟨rfl, hb⟩
  refine hK.out _ _ ?_ (fun hHeld' => ?_)
  · exact below_then hHeld hb
  clear hK K' hb hHeld
  have hHeld := hHeld'
  clear hHeld'
  try simp only [Act.put, List.setIfInBounds_toArray, List.set_cons_zero, List.set_cons_succ]
  refine wpAnyZ_take (i := 30) (v := .bool true) [32] rfl (by kernel_rfl) (by kernel_rfl) (by kernel_rfl) (by kernel_rfl) (fun _ _ _ h => h) (Or.inl ⟨by kernel_rfl, fun w' hSw => ?_⟩) hHeld ?_
  · clear hHeld
    go_simp
  simp only [Act.put, List.setIfInBounds_toArray, List.set_cons_zero, List.set_cons_succ]
  refine wpAnyZ_take (i := 31) (v := .bool true) [32] rfl (by kernel_rfl) (by kernel_rfl) (by kernel_rfl) (by kernel_rfl) (fun _ _ _ h => h) (Or.inl ⟨by kernel_rfl, fun w' hSw => ?_⟩) hHeld ?_
  · clear hHeld
    go_simp
  simp only [Act.put, List.setIfInBounds_toArray, List.set_cons_zero, List.set_cons_succ]
  refine wpAnyZ_last (i := 32) (by kernel_rfl) rfl (by kernel_rfl) (fun K' hK => ?_)
  go_simp
  refine hK.out _ _ ?_
  clear hK K'
  try simp only [Act.put, List.setIfInBounds_toArray, List.set_cons_zero, List.set_cons_succ]
  refine wpAnyZ_done (by kernel_rfl) ?_ _
  exact HK.out _ _ _ _ _ _ _ _ _ _ _ _ _ _ _ _ _ _ _ _ _ _ _ _ _ _ _ _ _ _ _ _ _ hHeld
set_option maxRecDepth 100000 in
set_option maxHeartbeats 64000000 in
theorem walk_PlanMatchesReference (A : Option Addr) (c N : Nat) (js : List GJob) {w : World} (hR : Rd 5 encJ w A js) (HN : Hid (js.length = N)) (hl : N ≤ 9223372036854775807) (_ : ∀ x, x ∈ js → wfJ x)
    (A2 : Option Addr) (c2 T : Nat) (sup : List Int) (hR2 : Rd 1 encI w A2 sup) (HN2 : Hid (sup.length = T)) (hl2 : T ≤ 9223372036854775807) (_ : ∀ x, x ∈ sup → wf64 x)
    (A5 : Option Addr) (c5 N5 : Nat) (rs : List RowV) (ps : List (List Int)) (hR5 : RdP w A5 rs ps) (HN5 : Hid (ps.length = N5)) (hl5 : N5 ≤ 9223372036854775807)
    (A3 : Option Addr) (c3 N3 : Nat) (cj : List Int) (hR3 : Rd 1 encI w A3 cj) (HN3 : Hid (cj.length = N3)) (hl3 : N3 ≤ 9223372036854775807) (A4 : Option Addr) (c4 N4 : Nat) (cs : List Int) (hR4 : Rd 1 encI w A4 cs) (HN4 : Hid (cs.length = N4)) (hl4 : N4 ≤ 9223372036854775807) :
    Calls Try.prog 3 #[.slice A N c, .slice A2 T c2, .slice A5 N5 c5, .agg #[.slice A3 N3 c3, .slice A4 N4 c4]] w fun e w' => e = .returned (.bool true) ∧ Below w.heap.size w w' := by
  have a0 : Below w.heap.size w (w.alloc (.cells #[.slice A3 N3 c3, .slice A4 N4 c4] 26)) := (Below.refl _ w).alloc (Nat.le_refl _) _
  go_enter Try.func3, Try.ntmps3
  go_wp2_with fail
  refine (lpHead_any _).mono ?_
  rintro e w1 ⟨rfl, hb1⟩
  have k0 : w1.cell? ⟨w.heap.size, 0, none⟩ = some (.slice A3 N3 c3) := (hb1.cell (p := ⟨w.heap.size, 0, none⟩) (by simp)).trans (by go_simp)
  have k1 : w1.cell? ⟨w.heap.size, 1, none⟩ = some (.slice A4 N4 c4) := (hb1.cell (p := ⟨w.heap.size, 1, none⟩) (by simp)).trans (by go_simp)
  have b1 := below_then a0 hb1
  have l1 : w.heap.size < w1.heap.size := World.block_lt_of_cell? w1 _ k0
  clear hb1 a0
  go_wp2_with fail
  refine (rpFew_any A A2 A5 A3 A4 c N c2 T c5 N5 c3 N3 c4 N4 js sup cj cs rs ps w1 HN HN2 (hR5.keep b1) HN5 hl5 HN3 HN4).mono ?_
  rintro e w2 ⟨rfl, hb2⟩
  have b2 := below_then b1 hb2
  cases hfew : fewB js sup ps cj cs
  · go_wp2_with fail
    go_ret
    exact ⟨rfl, b2⟩
  · go_wp2_with fail
    refine (plSchedule_any A A2 c N c2 T js sup w2 (hR.keep b2) HN hl (hR2.keep b2) HN2 hl2).mono ?_
    rintro e w3 ⟨hb3, hpost⟩
    have hpost' : ∃ a l d a3 n3 d3 a4 n4 d4 er, e = .returned (.tuple #[.slice a l d, .agg #[.slice a3 n3 d3, .slice a4 n4 d4], .int .i64 er]) ∧ (er ≠ 0 → l = 0) ∧ (er ≠ 10 → n3 = 0 ∧ n4 = 0) ∧ n3 ≤ 1000 ∧ n4 ≤ 1000 ∧
        ((okP js sup = false ∧ er = 1) ∨ (okP js sup = true ∧ Met js sup ∧ er = 0) ∨ (okP js sup = true ∧ ¬ Met js sup ∧ er = 10)) := by
      rcases hpost with ⟨hok, rfl⟩ | ⟨gt, rs', ps', rfl, rp, hlp, hpl⟩ | ⟨a3, d3, a4, d4, cj', cs', rfl, r3, r4, hc1, hc2, hcut⟩
      · exact ⟨_, _, _, _, _, _, _, _, _, _, rfl, fun _ => rfl, fun _ => ⟨rfl, rfl⟩, by omega, by omega, .inl ⟨hok, rfl⟩⟩
      · exact ⟨_, _, _, _, _, _, _, _, _, _, rfl, fun h => absurd rfl h, fun _ => ⟨rfl, rfl⟩, by omega, by omega, .inr (.inl ⟨(planB_iff.1 hpl).1, planB_met hpl, rfl⟩)⟩
      · exact ⟨_, _, _, _, _, _, _, _, _, _, rfl, fun _ => rfl, fun h => absurd rfl h, by omega, by omega, .inr (.inr ⟨(cutPB_cut hcut).1, cutPB_not hcut, rfl⟩)⟩
    clear hpost
    obtain ⟨a, l, d, a3, n3, d3, a4, n4, d4, er, rfl, z1, z2, z3, z4, hst⟩ := hpost'
    have ba : Below w3.heap.size w3 (w3.alloc (.cells #[.slice a3 n3 d3, .slice a4 n4 d4] 26)) := (Below.refl _ _).alloc (Nat.le_refl _) _
    have b3 := below_then (below_then b2 hb3) ba
    have q0 : (w3.alloc (.cells #[.slice a3 n3 d3, .slice a4 n4 d4] 26)).cell? ⟨w3.heap.size, 0, none⟩ = some (.slice a3 n3 d3) := by go_simp
    have q1 : (w3.alloc (.cells #[.slice a3 n3 d3, .slice a4 n4 d4] 26)).cell? ⟨w3.heap.size, 1, none⟩ = some (.slice a4 n4 d4) := by go_simp
    go_wp2_with fail
    refine (rpSchedule_any A A2 c N c2 T js sup _ (hR.keep b3) HN hl (hR2.keep b3) HN2 hl2).mono ?_
    rintro e w4 ⟨a', l', d', x3, m3, y3', x4, m4, y4', er', rfl, hb4, hst'⟩
    have her : er' = er := by
      rcases hst with ⟨h1, h2⟩ | ⟨h1, h2, h3⟩ | ⟨h1, h2, h3⟩ <;> rcases hst' with ⟨g1, g2⟩ | ⟨g1, g2, g3⟩ | ⟨g1, g2, g3⟩ <;> first | (rw [h1] at g1; cases g1; done) | exact absurd h2 g2 | exact absurd g2 h2 | omega
    subst her
    have q0' := (hb4.cell (p := ⟨w3.heap.size, 0, none⟩) (by simp)).trans q0
    have q1' := (hb4.cell (p := ⟨w3.heap.size, 1, none⟩) (by simp)).trans q1
    have b4 := below_then b3 hb4
    have hk14 := below_then hb2 (below_then hb3 (below_then ba hb4))
    obtain ⟨Wx, hWx⟩ : ∃ Wx, Wx = w4.alloc (.cells #[.slice x3 m3 y3', .slice x4 m4 y4'] 26) := ⟨_, rfl⟩
    have bx : Below w4.heap.size w4 Wx := by rw [hWx]; exact (Below.refl _ _).alloc (Nat.le_refl _) _
    have k0 := ((below_then hk14 bx).cell (p := ⟨w.heap.size, 0, none⟩) l1).trans k0
    have k1 := ((below_then hk14 bx).cell (p := ⟨w.heap.size, 1, none⟩) l1).trans k1
    have lq := World.block_lt_of_cell? w4 _ q0'
    have s0 := (bx.cell (p := ⟨w3.heap.size, 0, none⟩) lq).trans q0'
    have s1 := (bx.cell (p := ⟨w3.heap.size, 1, none⟩) lq).trans q1'
    have lx := World.block_lt_of_cell? Wx _ k0
    have hb5 := below_then b4 bx
    have hJ := hR.keep hb5
    have hS := hR2.keep hb5
    have hP := hR5.keep hb5
    have h3 := hR3.keep hb5
    have h4 := hR4.keep hb5
    have HX := Lib.hid hWx.symm
    have Hend := Lib.hid hb5
    have hcases : er' = 1 ∧ l = 0 ∧ n3 = 0 ∧ n4 = 0 ∨ er' = 0 ∧ n3 = 0 ∧ n4 = 0 ∨ er' = 10 ∧ l = 0 := by
      rcases hst with ⟨h1, h2⟩ | ⟨h1, h2, h3⟩ | ⟨h1, h2, h3⟩
      · exact .inl ⟨h2, z1 (by omega), z2 (by omega)⟩
      · exact .inr (.inl ⟨h3, z2 (by omega)⟩)
      · exact .inr (.inr ⟨h3, z1 (by omega)⟩)
    clear hst hst' q0 q1 q0' q1' hWx bx hb4 b4 b3 ba hb3 hb2 b2 b1 hR hR2 hR3 hR4 hR5 hk14 z1 z2 hfew hb5
    dsimp only at lx
    rcases hcases with ⟨rfl, rfl, rfl, rfl⟩ | ⟨rfl, rfl, rfl⟩ | ⟨rfl, rfl⟩
    · go_upto_region 7 with (fail)
      rw [HX.out]
      go_wp2
      refine wp_normal (fun K0 hK0 => ?_)
      refine pm8 Wx A A2 A5 A3 A4 c N c2 T c5 N5 c3 N3 c4 N4 w.heap.size js sup cj cs rs ps K0 hJ HN hl hS HN2 hl2 hP HN5 hl5 h3 HN3 hl3 h4 HN4 hl4 k0 k1 lx _ _ _ _ _ _ _ _ _ _ _ _ _ _ _ _ _ _ _ _ _ _ _ _ _ _ _ _ _ _ _ _ _ _ _ _ _ _ _ _ _ _ _ _ _ _ _ _ _ _ _ _ _ _ _ _ _ _ _ _ _ _ _ _ _ _ _ _ _ _ _ _ _ _ _ _ _ _ _ _ _ _ _ _ _ _ _ _ _ _ _ _ _ _ _ _ (Lib.hid ?_)
      intro W'
      intros
      rename_i hHeld
      refine hK0 _ _ ?_
      clear hK0 K0
      go_step
      go_wp2
      go_ret
      exact ⟨rfl, below_then Hend.out hHeld⟩
    · go_upto_region 7 with (fail)
      rw [HX.out]
      go_wp2
      refine wp_normal (fun K0 hK0 => ?_)
      refine pm8 Wx A A2 A5 A3 A4 c N c2 T c5 N5 c3 N3 c4 N4 w.heap.size js sup cj cs rs ps K0 hJ HN hl hS HN2 hl2 hP HN5 hl5 h3 HN3 hl3 h4 HN4 hl4 k0 k1 lx _ _ _ _ _ _ _ _ _ _ _ _ _ _ _ _ _ _ _ _ _ _ _ _ _ _ _ _ _ _ _ _ _ _ _ _ _ _ _ _ _ _ _ _ _ _ _ _ _ _ _ _ _ _ _ _ _ _ _ _ _ _ _ _ _ _ _ _ _ _ _ _ _ _ _ _ _ _ _ _ _ _ _ _ _ _ _ _ _ _ _ _ _ _ _ _ (Lib.hid ?_)
      intro W'
      intros
      rename_i hHeld
      refine hK0 _ _ ?_
      clear hK0 K0
      go_step
      go_wp2
      go_ret
      exact ⟨rfl, below_then Hend.out hHeld⟩
    · go_upto_region 7 with (fail)
      rw [HX.out]
      go_wp2
      refine wp_normal (fun K0 hK0 => ?_)
      refine pm8 Wx A A2 A5 A3 A4 c N c2 T c5 N5 c3 N3 c4 N4 w.heap.size js sup cj cs rs ps K0 hJ HN hl hS HN2 hl2 hP HN5 hl5 h3 HN3 hl3 h4 HN4 hl4 k0 k1 lx _ _ _ _ _ _ _ _ _ _ _ _ _ _ _ _ _ _ _ _ _ _ _ _ _ _ _ _ _ _ _ _ _ _ _ _ _ _ _ _ _ _ _ _ _ _ _ _ _ _ _ _ _ _ _ _ _ _ _ _ _ _ _ _ _ _ _ _ _ _ _ _ _ _ _ _ _ _ _ _ _ _ _ _ _ _ _ _ _ _ _ _ _ _ _ _ (Lib.hid ?_)
      intro W'
      intros
      rename_i hHeld
      refine hK0 _ _ ?_
      clear hK0 K0
      go_step
      go_wp2
      go_ret
      exact ⟨rfl, below_then Hend.out hHeld⟩
end Go.Proofs.Ytmmmgafnmpaohaa
