/-
The law PlanJoining, walked.
-/
import Derived.Test.YtickndjlhokppaaCPlanW1
import Derived.Test.YtickndjlhokppaaCAppJ3
namespace Go.Proofs.Ytickndjlhokppaa
open Go.RowKit
set_option linter.unusedVariables false
set_option linter.unusedSimpArgs false
theorem wrap_fits {x : Int} (h0 : -9223372036854775808 ≤ x) (h1 : x ≤ 9223372036854775807) : IntKind.i64.wrap x = x := by
  unfold IntKind.wrap
  simp [IntKind.signed, IntKind.bits]
  omega
noncomputable def pj4Code : Code := ((Try.f9.body.bind (findRegion 4)).getD .skip)
set_option maxRecDepth 100000 in
set_option maxHeartbeats 8000000 in
theorem pj4 (W : World) (A : Option Addr) (c N bp bq : Nat) (js : List GJob) (a0 a1 a2 a3 a4 c0 c1 c2 c3 c4 : Int) (mc : Array Value) (K : Act → World → Prop)
  (hmk : ∀ W : World, (Instr.makeSlice 22 (.int .i64 0) (.int .i64 ((N : Int) + 2))).run Try.prog W = .ok (.slice (some ⟨W.heap.size, 0, none⟩) 0 (N + 2)) (W.alloc (.cells mc 38)))
  (HOwn : Hid (∀ (W : World) (base : Nat), base ≤ W.heap.size → OwnJ (W.alloc (.cells mc 38)) base (.slice (some ⟨W.heap.size, 0, none⟩) 0 (N + 2)) []))
  (rd : Rd 5 encJ W A js) (HN : Hid (js.length = N)) (hs : (N + 2) * 40 ≤ 140737488355328) (kbp0 : W.cell? ⟨bp, 0, none⟩ = some (.int .i64 a0)) (kbp1 : W.cell? ⟨bp, 1, none⟩ = some (.int .i64 a1)) (kbp2 : W.cell? ⟨bp, 2, none⟩ = some (.int .i64 a2)) (kbp3 : W.cell? ⟨bp, 3, none⟩ = some (.int .i64 a3)) (kbp4 : W.cell? ⟨bp, 4, none⟩ = some (.int .i64 a4)) (kbq0 : W.cell? ⟨bq, 0, none⟩ = some (.int .i64 c0)) (kbq1 : W.cell? ⟨bq, 1, none⟩ = some (.int .i64 c1)) (kbq2 : W.cell? ⟨bq, 2, none⟩ = some (.int .i64 c2)) (kbq3 : W.cell? ⟨bq, 3, none⟩ = some (.int .i64 c3)) (kbq4 : W.cell? ⟨bq, 4, none⟩ = some (.int .i64 c4))
  (u1 u2 u3 u4 u5 u6 u8 u9 u10 u11 u13 u14 u15 u16 u17 u18 u19 u20 u21 u22 u23 u24 u25 u26 u27 u28 u29 u30 u31 u32 u33 u34 u35 u36 u37 u38 u39 u40 u41 u42 u43 u44 u45 u46 u47 u48 u49 u50 u51 u52 u53 u54 u55 u56 u57 u58 u59 u60 u61 u62 u63 u64 u65 u66 u67 u68 u69 u70 u71 u72 u73 u74 u75 u76 u77 u78 u79 u80 u81 u82 u83 u84 u85 u86 u87 u88 u89 u90 u91 u92 u93 u94 u95 u96 u97 u98 u99 u100 u101 u102 u103 u104 u105 u106 u107 u108 u109 u110 u111 u112 : Value)
  (HK : Hid (∀ (W' : World) (vd v48 v49 v50 v51 v52 v53 v54 v55 v56 v57 : Value), Hid (OwnJ W' W.heap.size vd (js ++ [⟨a0, a1, a2, a3, a4⟩, ⟨c0, c1, c2, c3, c4⟩])) → Hid (Below W.heap.size W W') → K ⟨List.toArray ((.slice A N c) :: u1 :: u2 :: u3 :: u4 :: u5 :: u6 :: (.pointer (some ⟨bp, 0, none⟩)) :: u8 :: u9 :: u10 :: u11 :: (.pointer (some ⟨bq, 0, none⟩)) :: u13 :: vd :: u15 :: u16 :: u17 :: u18 :: u19 :: u20 :: u21 :: u22 :: u23 :: u24 :: u25 :: u26 :: u27 :: u28 :: u29 :: u30 :: u31 :: u32 :: u33 :: u34 :: u35 :: u36 :: u37 :: u38 :: u39 :: u40 :: u41 :: u42 :: u43 :: u44 :: u45 :: u46 :: u47 :: v48 :: v49 :: v50 :: v51 :: v52 :: v53 :: v54 :: v55 :: v56 :: v57 :: u58 :: u59 :: u60 :: u61 :: u62 :: u63 :: u64 :: u65 :: u66 :: u67 :: u68 :: u69 :: u70 :: u71 :: u72 :: u73 :: u74 :: u75 :: u76 :: u77 :: u78 :: u79 :: u80 :: u81 :: u82 :: u83 :: u84 :: u85 :: u86 :: u87 :: u88 :: u89 :: u90 :: u91 :: u92 :: u93 :: u94 :: u95 :: u96 :: u97 :: u98 :: u99 :: u100 :: u101 :: u102 :: u103 :: u104 :: u105 :: u106 :: u107 :: u108 :: u109 :: u110 :: u111 :: u112 :: []), []⟩ W')) :
  Code.wp Try.prog pj4Code (Exit.then K (fun _ _ _ => False)) ⟨List.toArray ((.slice A N c) :: u1 :: u2 :: u3 :: u4 :: u5 :: u6 :: (.pointer (some ⟨bp, 0, none⟩)) :: u8 :: u9 :: u10 :: u11 :: (.pointer (some ⟨bq, 0, none⟩)) :: u13 :: u14 :: u15 :: u16 :: u17 :: u18 :: u19 :: u20 :: u21 :: u22 :: u23 :: u24 :: u25 :: u26 :: u27 :: u28 :: u29 :: u30 :: u31 :: u32 :: u33 :: u34 :: u35 :: u36 :: u37 :: u38 :: u39 :: u40 :: u41 :: u42 :: u43 :: u44 :: u45 :: u46 :: u47 :: u48 :: u49 :: u50 :: u51 :: u52 :: u53 :: u54 :: u55 :: u56 :: u57 :: u58 :: u59 :: u60 :: u61 :: u62 :: u63 :: u64 :: u65 :: u66 :: u67 :: u68 :: u69 :: u70 :: u71 :: u72 :: u73 :: u74 :: u75 :: u76 :: u77 :: u78 :: u79 :: u80 :: u81 :: u82 :: u83 :: u84 :: u85 :: u86 :: u87 :: u88 :: u89 :: u90 :: u91 :: u92 :: u93 :: u94 :: u95 :: u96 :: u97 :: u98 :: u99 :: u100 :: u101 :: u102 :: u103 :: u104 :: u105 :: u106 :: u107 :: u108 :: u109 :: u110 :: u111 :: u112 :: []), []⟩ W := by
  have lbp := World.block_lt_of_cell? W _ kbp0
  have lbq := World.block_lt_of_cell? W _ kbq0
  dsimp only at lbp lbq
  obtain ⟨pA1, vA1, WA1, pA2, pA3, pA4, vA2, WA2, pA5, pA6, oA, bA1, bA2⟩ := made_A (c := c) (ys := [⟨a0, a1, a2, a3, a4⟩, ⟨c0, c1, c2, c3, c4⟩]) (m := 2) HOwn.out rd HN.out rfl rfl hs
  obtain ⟨pB1, vB1, WB1, pB2, pB3, pB4, vB2, WB2, pB5, pB6, oB, bB1, bB2⟩ := made_B (c := c) (ys := [⟨a0, a1, a2, a3, a4⟩, ⟨c0, c1, c2, c3, c4⟩]) (m := 2) HOwn.out rd HN.out rfl rfl hs
  obtain ⟨pC1, vC1, WC1, pC2, pC3, pC4, vC2, WC2, pC5, pC6, oC, bC1, bC2⟩ := made_C (c := c) (ys := [⟨a0, a1, a2, a3, a4⟩, ⟨c0, c1, c2, c3, c4⟩]) (m := 2) HOwn.out rd HN.out rfl rfl hs
  clear rd
  conv => arg 2; whnf
  refine region_z (S := fun w' => Below W.heap.size W w') [10] (by kernel_rfl) (Below.refl _ _).drew (fun hHeld => ?_)
  refine wpAnyZ_take (i := 0) (v := .slice A N c) [10] rfl (by kernel_rfl) (by kernel_rfl) (by kernel_rfl) (by kernel_rfl) (fun _ _ _ h => h) (Or.inl ⟨by rfl, fun w' hSw => ?_⟩) hHeld ?_
  · clear hHeld
    go_simp
  simp only [Act.put, List.setIfInBounds_toArray, List.set_cons_zero, List.set_cons_succ]
  refine wpAnyZ_take (i := 1) (v := .int .i64 N) [10] rfl (by kernel_rfl) (by kernel_rfl) (by kernel_rfl) (by kernel_rfl) (fun _ _ _ h => h) (Or.inl ⟨by rfl, fun w' hSw => ?_⟩) hHeld ?_
  · clear hHeld
    go_simp
  simp only [Act.put, List.setIfInBounds_toArray, List.set_cons_zero, List.set_cons_succ]
  refine wpAnyZ_take (i := 2) (v := .int .i64 ((N : Int) + 2)) [10] rfl (by kernel_rfl) (by kernel_rfl) (by kernel_rfl) (by kernel_rfl) (fun _ _ _ h => h) (Or.inl ⟨by rfl, fun w' hSw => ?_⟩) hHeld ?_
  · clear hHeld
    go_simp
    exact wrap_fits (by omega) (by omega)
  simp only [Act.put, List.setIfInBounds_toArray, List.set_cons_zero, List.set_cons_succ]
  refine wpAnyZ_take (i := 4) (v := .slice A N c) [10] rfl (by kernel_rfl) (by kernel_rfl) (by kernel_rfl) (by kernel_rfl) (fun _ _ _ h => h) (Or.inl ⟨by rfl, fun w' hSw => ?_⟩) hHeld ?_
  · clear hHeld
    go_simp
  simp only [Act.put, List.setIfInBounds_toArray, List.set_cons_zero, List.set_cons_succ]
  refine wpAnyZ_take (i := 6) (v := .agg #[.int .i64 a0, .int .i64 a1, .int .i64 a2, .int .i64 a3, .int .i64 a4]) [10] rfl (by kernel_rfl) (by kernel_rfl) (by kernel_rfl) (by kernel_rfl) (fun _ _ _ h => h) (Or.inl ⟨by rfl, fun w' hSw => ?_⟩) hHeld ?_
  · clear hHeld
    have s0 := (hSw.cell (p := ⟨bp, 0, none⟩) lbp).trans kbp0
    have s1 := (hSw.cell (p := ⟨bp, 1, none⟩) lbp).trans kbp1
    have s2 := (hSw.cell (p := ⟨bp, 2, none⟩) lbp).trans kbp2
    have s3 := (hSw.cell (p := ⟨bp, 3, none⟩) lbp).trans kbp3
    have s4 := (hSw.cell (p := ⟨bp, 4, none⟩) lbp).trans kbp4
    go_simp
  simp only [Act.put, List.setIfInBounds_toArray, List.set_cons_zero, List.set_cons_succ]
  refine wpAnyZ_take (i := 7) (v := .agg #[.int .i64 c0, .int .i64 c1, .int .i64 c2, .int .i64 c3, .int .i64 c4]) [10] rfl (by kernel_rfl) (by kernel_rfl) (by kernel_rfl) (by kernel_rfl) (fun _ _ _ h => h) (Or.inl ⟨by rfl, fun w' hSw => ?_⟩) hHeld ?_
  · clear hHeld
    have s0 := (hSw.cell (p := ⟨bq, 0, none⟩) lbq).trans kbq0
    have s1 := (hSw.cell (p := ⟨bq, 1, none⟩) lbq).trans kbq1
    have s2 := (hSw.cell (p := ⟨bq, 2, none⟩) lbq).trans kbq2
    have s3 := (hSw.cell (p := ⟨bq, 3, none⟩) lbq).trans kbq3
    have s4 := (hSw.cell (p := ⟨bq, 4, none⟩) lbq).trans kbq4
    go_simp
  simp only [Act.put, List.setIfInBounds_toArray, List.set_cons_zero, List.set_cons_succ]
  refine wpAnyZ_two (i := 3) (k := 8) (by kernel_rfl) rfl rfl (fun K' hK => ?_) (fun K' hK => ?_)
  · go_simp
    refine hK.out _ _ ?_ (fun hHeld => ?_)
    · exact hHeld.alloc hHeld.size _
    clear hK K'
    try simp only [Act.put, List.setIfInBounds_toArray, List.set_cons_zero, List.set_cons_succ]
    refine wpAnyZ_two (i := 5) (k := 8) (by kernel_rfl) rfl rfl (fun K' hK => ?_) (fun K' hK => ?_)
    · rw [if_pos (by rfl)]
      refine append_go rfl rfl pC1 pC2 pC3 ?_
      refine hK.out _ _ ?_ (fun hHeld => ?_)
      · exact bC1.out
      clear hK K'
      try simp only [Act.put, List.setIfInBounds_toArray, List.set_cons_zero, List.set_cons_succ]
      refine wpAnyZ_one (i := 8) (by kernel_rfl) rfl (fun K' hK => ?_)
      go_simp
      refine hK.out _ _ ?_ (fun hHeld => ?_)
      · exact hHeld.alloc hHeld.size _
      clear hK K'
      try simp only [Act.put, List.setIfInBounds_toArray, List.set_cons_zero, List.set_cons_succ]
      refine wpAnyZ_one (i := 9) (by kernel_rfl) rfl (fun K' hK => ?_)
      rw [if_pos (by rfl)]
      refine append_go rfl rfl pC4 pC5 pC6 ?_
      refine hK.out _ _ ?_ (fun hHeld => ?_)
      · exact bC2.out
      clear hK K'
      try simp only [Act.put, List.setIfInBounds_toArray, List.set_cons_zero, List.set_cons_succ]
      refine wpAnyZ_last (i := 10) (by kernel_rfl) rfl (by kernel_rfl) (fun K' hK => ?_)
      go_simp
      refine hK.out _ _ ?_
      clear hK K'
      try simp only [Act.put, List.setIfInBounds_toArray, List.set_cons_zero, List.set_cons_succ]
      refine wpAnyZ_done (by kernel_rfl) ?_ _
      clear hHeld
      exact HK.out _ _ _ _ _ _ _ _ _ _ _ _ oC bC2
    · go_simp
      refine hK.out _ _ ?_ (fun hHeld => ?_)
      · exact hHeld.alloc hHeld.size _
      clear hK K'
      try simp only [Act.put, List.setIfInBounds_toArray, List.set_cons_zero, List.set_cons_succ]
      refine wpAnyZ_one (i := 5) (by kernel_rfl) rfl (fun K' hK => ?_)
      rw [if_pos (by rfl)]
      refine append_go rfl rfl pB1 pB2 pB3 ?_
      refine hK.out _ _ ?_ (fun hHeld => ?_)
      · exact bB1.out
      clear hK K'
      try simp only [Act.put, List.setIfInBounds_toArray, List.set_cons_zero, List.set_cons_succ]
      refine wpAnyZ_one (i := 9) (by kernel_rfl) rfl (fun K' hK => ?_)
      rw [if_pos (by rfl)]
      refine append_go rfl rfl pB4 pB5 pB6 ?_
      refine hK.out _ _ ?_ (fun hHeld => ?_)
      · exact bB2.out
      clear hK K'
      try simp only [Act.put, List.setIfInBounds_toArray, List.set_cons_zero, List.set_cons_succ]
      refine wpAnyZ_last (i := 10) (by kernel_rfl) rfl (by kernel_rfl) (fun K' hK => ?_)
      go_simp
      refine hK.out _ _ ?_
      clear hK K'
      try simp only [Act.put, List.setIfInBounds_toArray, List.set_cons_zero, List.set_cons_succ]
      refine wpAnyZ_done (by kernel_rfl) ?_ _
      clear hHeld
      exact HK.out _ _ _ _ _ _ _ _ _ _ _ _ oB bB2
  · go_simp
    refine hK.out _ _ ?_ (fun hHeld => ?_)
    · exact hHeld.alloc hHeld.size _
    clear hK K'
    try simp only [Act.put, List.setIfInBounds_toArray, List.set_cons_zero, List.set_cons_succ]
    refine wpAnyZ_one (i := 3) (by kernel_rfl) rfl (fun K' hK => ?_)
    go_simp
    refine hK.out _ _ ?_ (fun hHeld => ?_)
    · exact hHeld.alloc hHeld.size _
    clear hK K'
    try simp only [Act.put, List.setIfInBounds_toArray, List.set_cons_zero, List.set_cons_succ]
    refine wpAnyZ_one (i := 5) (by kernel_rfl) rfl (fun K' hK => ?_)
    rw [if_pos (by rfl)]
    refine append_go rfl rfl pA1 pA2 pA3 ?_
    refine hK.out _ _ ?_ (fun hHeld => ?_)
    · exact bA1.out
    clear hK K'
    try simp only [Act.put, List.setIfInBounds_toArray, List.set_cons_zero, List.set_cons_succ]
    refine wpAnyZ_one (i := 9) (by kernel_rfl) rfl (fun K' hK => ?_)
    rw [if_pos (by rfl)]
    refine append_go rfl rfl pA4 pA5 pA6 ?_
    refine hK.out _ _ ?_ (fun hHeld => ?_)
    · exact bA2.out
    clear hK K'
    try simp only [Act.put, List.setIfInBounds_toArray, List.set_cons_zero, List.set_cons_succ]
    refine wpAnyZ_last (i := 10) (by kernel_rfl) rfl (by kernel_rfl) (fun K' hK => ?_)
    go_simp
    refine hK.out _ _ ?_
    clear hK K'
    try simp only [Act.put, List.setIfInBounds_toArray, List.set_cons_zero, List.set_cons_succ]
    refine wpAnyZ_done (by kernel_rfl) ?_ _
    clear hHeld
    exact HK.out _ _ _ _ _ _ _ _ _ _ _ _ oA bA2
noncomputable def pj5Code : Code := ((Try.f9.body.bind (findRegion 5)).getD .skip)
set_option maxRecDepth 100000 in
set_option maxHeartbeats 8000000 in
theorem pj5 (W : World) (A : Option Addr) (c N bp : Nat) (js : List GJob) (a0 a1 a2 a3 a4 : Int) (mc : Array Value) (K : Act → World → Prop)
  (hmk : ∀ W : World, (Instr.makeSlice 22 (.int .i64 0) (.int .i64 ((N : Int) + 2))).run Try.prog W = .ok (.slice (some ⟨W.heap.size, 0, none⟩) 0 (N + 2)) (W.alloc (.cells mc 38)))
  (HOwn : Hid (∀ (W : World) (base : Nat), base ≤ W.heap.size → OwnJ (W.alloc (.cells mc 38)) base (.slice (some ⟨W.heap.size, 0, none⟩) 0 (N + 2)) []))
  (rd : Rd 5 encJ W A js) (HN : Hid (js.length = N)) (hs : (N + 1) * 40 ≤ 140737488355328) (kbp0 : W.cell? ⟨bp, 0, none⟩ = some (.int .i64 a0)) (kbp1 : W.cell? ⟨bp, 1, none⟩ = some (.int .i64 a1)) (kbp2 : W.cell? ⟨bp, 2, none⟩ = some (.int .i64 a2)) (kbp3 : W.cell? ⟨bp, 3, none⟩ = some (.int .i64 a3)) (kbp4 : W.cell? ⟨bp, 4, none⟩ = some (.int .i64 a4))
  (u1 u2 u3 u4 u5 u6 u7 u8 u9 u10 u11 u12 u14 u15 u16 u17 u18 u19 u20 u21 u22 u23 u24 u25 u26 u27 u28 u29 u30 u31 u32 u33 u34 u35 u36 u37 u38 u39 u40 u41 u42 u43 u44 u45 u46 u47 u48 u49 u50 u51 u52 u53 u54 u55 u56 u57 u58 u59 u60 u61 u62 u63 u64 u65 u66 u67 u68 u69 u70 u71 u72 u73 u74 u75 u76 u77 u78 u79 u80 u81 u82 u83 u84 u85 u86 u87 u88 u89 u90 u91 u92 u93 u94 u95 u96 u97 u98 u99 u100 u101 u102 u103 u104 u105 u106 u107 u108 u109 u110 u111 u112 : Value)
  (HK : Hid (∀ (W' : World) (vd v58 v59 v60 v61 v62 v63 v64 v65 v66 : Value), Hid (OwnJ W' W.heap.size vd (js ++ [⟨a0, a1, a2, a3, a4⟩])) → Hid (Below W.heap.size W W') → K ⟨List.toArray ((.slice A N c) :: u1 :: u2 :: u3 :: u4 :: u5 :: u6 :: u7 :: u8 :: u9 :: u10 :: u11 :: u12 :: (.pointer (some ⟨bp, 0, none⟩)) :: u14 :: vd :: u16 :: u17 :: u18 :: u19 :: u20 :: u21 :: u22 :: u23 :: u24 :: u25 :: u26 :: u27 :: u28 :: u29 :: u30 :: u31 :: u32 :: u33 :: u34 :: u35 :: u36 :: u37 :: u38 :: u39 :: u40 :: u41 :: u42 :: u43 :: u44 :: u45 :: u46 :: u47 :: u48 :: u49 :: u50 :: u51 :: u52 :: u53 :: u54 :: u55 :: u56 :: u57 :: v58 :: v59 :: v60 :: v61 :: v62 :: v63 :: v64 :: v65 :: v66 :: u67 :: u68 :: u69 :: u70 :: u71 :: u72 :: u73 :: u74 :: u75 :: u76 :: u77 :: u78 :: u79 :: u80 :: u81 :: u82 :: u83 :: u84 :: u85 :: u86 :: u87 :: u88 :: u89 :: u90 :: u91 :: u92 :: u93 :: u94 :: u95 :: u96 :: u97 :: u98 :: u99 :: u100 :: u101 :: u102 :: u103 :: u104 :: u105 :: u106 :: u107 :: u108 :: u109 :: u110 :: u111 :: u112 :: []), []⟩ W')) :
  Code.wp Try.prog pj5Code (Exit.then K (fun _ _ _ => False)) ⟨List.toArray ((.slice A N c) :: u1 :: u2 :: u3 :: u4 :: u5 :: u6 :: u7 :: u8 :: u9 :: u10 :: u11 :: u12 :: (.pointer (some ⟨bp, 0, none⟩)) :: u14 :: u15 :: u16 :: u17 :: u18 :: u19 :: u20 :: u21 :: u22 :: u23 :: u24 :: u25 :: u26 :: u27 :: u28 :: u29 :: u30 :: u31 :: u32 :: u33 :: u34 :: u35 :: u36 :: u37 :: u38 :: u39 :: u40 :: u41 :: u42 :: u43 :: u44 :: u45 :: u46 :: u47 :: u48 :: u49 :: u50 :: u51 :: u52 :: u53 :: u54 :: u55 :: u56 :: u57 :: u58 :: u59 :: u60 :: u61 :: u62 :: u63 :: u64 :: u65 :: u66 :: u67 :: u68 :: u69 :: u70 :: u71 :: u72 :: u73 :: u74 :: u75 :: u76 :: u77 :: u78 :: u79 :: u80 :: u81 :: u82 :: u83 :: u84 :: u85 :: u86 :: u87 :: u88 :: u89 :: u90 :: u91 :: u92 :: u93 :: u94 :: u95 :: u96 :: u97 :: u98 :: u99 :: u100 :: u101 :: u102 :: u103 :: u104 :: u105 :: u106 :: u107 :: u108 :: u109 :: u110 :: u111 :: u112 :: []), []⟩ W := by
  have lbp := World.block_lt_of_cell? W _ kbp0
  dsimp only at lbp
  obtain ⟨pA1, vA1, WA1, pA2, pA3, pA4, vA2, WA2, pA5, pA6, oA, bA1, bA2⟩ := made_A (c := c) (ys := [⟨a0, a1, a2, a3, a4⟩]) (m := 1) HOwn.out rd HN.out rfl rfl hs
  obtain ⟨pB1, vB1, WB1, pB2, pB3, pB4, vB2, WB2, pB5, pB6, oB, bB1, bB2⟩ := made_B (c := c) (ys := [⟨a0, a1, a2, a3, a4⟩]) (m := 1) HOwn.out rd HN.out rfl rfl hs
  obtain ⟨pC1, vC1, WC1, pC2, pC3, pC4, vC2, WC2, pC5, pC6, oC, bC1, bC2⟩ := made_C (c := c) (ys := [⟨a0, a1, a2, a3, a4⟩]) (m := 1) HOwn.out rd HN.out rfl rfl hs
  clear rd
  conv => arg 2; whnf
  refine region_z (S := fun w' => Below W.heap.size W w') [9] (by kernel_rfl) (Below.refl _ _).drew (fun hHeld => ?_)
  refine wpAnyZ_take (i := 0) (v := .slice A N c) [9] rfl (by kernel_rfl) (by kernel_rfl) (by kernel_rfl) (by kernel_rfl) (fun _ _ _ h => h) (Or.inl ⟨by rfl, fun w' hSw => ?_⟩) hHeld ?_
  · clear hHeld
    go_simp
  simp only [Act.put, List.setIfInBounds_toArray, List.set_cons_zero, List.set_cons_succ]
  refine wpAnyZ_take (i := 1) (v := .int .i64 N) [9] rfl (by kernel_rfl) (by kernel_rfl) (by kernel_rfl) (by kernel_rfl) (fun _ _ _ h => h) (Or.inl ⟨by rfl, fun w' hSw => ?_⟩) hHeld ?_
  · clear hHeld
    go_simp
  simp only [Act.put, List.setIfInBounds_toArray, List.set_cons_zero, List.set_cons_succ]
  refine wpAnyZ_take (i := 2) (v := .int .i64 ((N : Int) + 2)) [9] rfl (by kernel_rfl) (by kernel_rfl) (by kernel_rfl) (by kernel_rfl) (fun _ _ _ h => h) (Or.inl ⟨by rfl, fun w' hSw => ?_⟩) hHeld ?_
  · clear hHeld
    go_simp
    exact wrap_fits (by omega) (by omega)
  simp only [Act.put, List.setIfInBounds_toArray, List.set_cons_zero, List.set_cons_succ]
  refine wpAnyZ_take (i := 4) (v := .slice A N c) [9] rfl (by kernel_rfl) (by kernel_rfl) (by kernel_rfl) (by kernel_rfl) (fun _ _ _ h => h) (Or.inl ⟨by rfl, fun w' hSw => ?_⟩) hHeld ?_
  · clear hHeld
    go_simp
  simp only [Act.put, List.setIfInBounds_toArray, List.set_cons_zero, List.set_cons_succ]
  refine wpAnyZ_take (i := 6) (v := .agg #[.int .i64 a0, .int .i64 a1, .int .i64 a2, .int .i64 a3, .int .i64 a4]) [9] rfl (by kernel_rfl) (by kernel_rfl) (by kernel_rfl) (by kernel_rfl) (fun _ _ _ h => h) (Or.inl ⟨by rfl, fun w' hSw => ?_⟩) hHeld ?_
  · clear hHeld
    have s0 := (hSw.cell (p := ⟨bp, 0, none⟩) lbp).trans kbp0
    have s1 := (hSw.cell (p := ⟨bp, 1, none⟩) lbp).trans kbp1
    have s2 := (hSw.cell (p := ⟨bp, 2, none⟩) lbp).trans kbp2
    have s3 := (hSw.cell (p := ⟨bp, 3, none⟩) lbp).trans kbp3
    have s4 := (hSw.cell (p := ⟨bp, 4, none⟩) lbp).trans kbp4
    go_simp
  simp only [Act.put, List.setIfInBounds_toArray, List.set_cons_zero, List.set_cons_succ]
  refine wpAnyZ_two (i := 3) (k := 7) (by kernel_rfl) rfl rfl (fun K' hK => ?_) (fun K' hK => ?_)
  · go_simp
    refine hK.out _ _ ?_ (fun hHeld => ?_)
    · exact hHeld.alloc hHeld.size _
    clear hK K'
    try simp only [Act.put, List.setIfInBounds_toArray, List.set_cons_zero, List.set_cons_succ]
    refine wpAnyZ_two (i := 5) (k := 7) (by kernel_rfl) rfl rfl (fun K' hK => ?_) (fun K' hK => ?_)
    · rw [if_pos (by rfl)]
      refine append_go rfl rfl pC1 pC2 pC3 ?_
      refine hK.out _ _ ?_ (fun hHeld => ?_)
      · exact bC1.out
      clear hK K'
      try simp only [Act.put, List.setIfInBounds_toArray, List.set_cons_zero, List.set_cons_succ]
      refine wpAnyZ_one (i := 7) (by kernel_rfl) rfl (fun K' hK => ?_)
      go_simp
      refine hK.out _ _ ?_ (fun hHeld => ?_)
      · exact hHeld.alloc hHeld.size _
      clear hK K'
      try simp only [Act.put, List.setIfInBounds_toArray, List.set_cons_zero, List.set_cons_succ]
      refine wpAnyZ_one (i := 8) (by kernel_rfl) rfl (fun K' hK => ?_)
      rw [if_pos (by rfl)]
      refine append_go rfl rfl pC4 pC5 pC6 ?_
      refine hK.out _ _ ?_ (fun hHeld => ?_)
      · exact bC2.out
      clear hK K'
      try simp only [Act.put, List.setIfInBounds_toArray, List.set_cons_zero, List.set_cons_succ]
      refine wpAnyZ_last (i := 9) (by kernel_rfl) rfl (by kernel_rfl) (fun K' hK => ?_)
      go_simp
      refine hK.out _ _ ?_
      clear hK K'
      try simp only [Act.put, List.setIfInBounds_toArray, List.set_cons_zero, List.set_cons_succ]
      refine wpAnyZ_done (by kernel_rfl) ?_ _
      clear hHeld
      exact HK.out _ _ _ _ _ _ _ _ _ _ _ oC bC2
    · go_simp
      refine hK.out _ _ ?_ (fun hHeld => ?_)
      · exact hHeld.alloc hHeld.size _
      clear hK K'
      try simp only [Act.put, List.setIfInBounds_toArray, List.set_cons_zero, List.set_cons_succ]
      refine wpAnyZ_one (i := 5) (by kernel_rfl) rfl (fun K' hK => ?_)
      rw [if_pos (by rfl)]
      refine append_go rfl rfl pB1 pB2 pB3 ?_
      refine hK.out _ _ ?_ (fun hHeld => ?_)
      · exact bB1.out
      clear hK K'
      try simp only [Act.put, List.setIfInBounds_toArray, List.set_cons_zero, List.set_cons_succ]
      refine wpAnyZ_one (i := 8) (by kernel_rfl) rfl (fun K' hK => ?_)
      rw [if_pos (by rfl)]
      refine append_go rfl rfl pB4 pB5 pB6 ?_
      refine hK.out _ _ ?_ (fun hHeld => ?_)
      · exact bB2.out
      clear hK K'
      try simp only [Act.put, List.setIfInBounds_toArray, List.set_cons_zero, List.set_cons_succ]
      refine wpAnyZ_last (i := 9) (by kernel_rfl) rfl (by kernel_rfl) (fun K' hK => ?_)
      go_simp
      refine hK.out _ _ ?_
      clear hK K'
      try simp only [Act.put, List.setIfInBounds_toArray, List.set_cons_zero, List.set_cons_succ]
      refine wpAnyZ_done (by kernel_rfl) ?_ _
      clear hHeld
      exact HK.out _ _ _ _ _ _ _ _ _ _ _ oB bB2
  · go_simp
    refine hK.out _ _ ?_ (fun hHeld => ?_)
    · exact hHeld.alloc hHeld.size _
    clear hK K'
    try simp only [Act.put, List.setIfInBounds_toArray, List.set_cons_zero, List.set_cons_succ]
    refine wpAnyZ_one (i := 3) (by kernel_rfl) rfl (fun K' hK => ?_)
    go_simp
    refine hK.out _ _ ?_ (fun hHeld => ?_)
    · exact hHeld.alloc hHeld.size _
    clear hK K'
    try simp only [Act.put, List.setIfInBounds_toArray, List.set_cons_zero, List.set_cons_succ]
    refine wpAnyZ_one (i := 5) (by kernel_rfl) rfl (fun K' hK => ?_)
    rw [if_pos (by rfl)]
    refine append_go rfl rfl pA1 pA2 pA3 ?_
    refine hK.out _ _ ?_ (fun hHeld => ?_)
    · exact bA1.out
    clear hK K'
    try simp only [Act.put, List.setIfInBounds_toArray, List.set_cons_zero, List.set_cons_succ]
    refine wpAnyZ_one (i := 8) (by kernel_rfl) rfl (fun K' hK => ?_)
    rw [if_pos (by rfl)]
    refine append_go rfl rfl pA4 pA5 pA6 ?_
    refine hK.out _ _ ?_ (fun hHeld => ?_)
    · exact bA2.out
    clear hK K'
    try simp only [Act.put, List.setIfInBounds_toArray, List.set_cons_zero, List.set_cons_succ]
    refine wpAnyZ_last (i := 9) (by kernel_rfl) rfl (by kernel_rfl) (fun K' hK => ?_)
    go_simp
    refine hK.out _ _ ?_
    clear hK K'
    try simp only [Act.put, List.setIfInBounds_toArray, List.set_cons_zero, List.set_cons_succ]
    refine wpAnyZ_done (by kernel_rfl) ?_ _
    clear hHeld
    exact HK.out _ _ _ _ _ _ _ _ _ _ _ oA bA2
end Go.Proofs.Ytickndjlhokppaa
