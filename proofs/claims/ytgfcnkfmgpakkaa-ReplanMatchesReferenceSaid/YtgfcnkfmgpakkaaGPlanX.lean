/-
Several texts in one: PlanX0, PlanX1, PlanV, PlanW, PlanX2.
-/
import Derived.Test.YtgfcnkfmgpakkaaGPlanU
/-
Two drawn regions of plan.Schedule: an edge to a job, an edge from a slot.
-/
namespace Go.Proofs.Ytgfcnkfmgpakkaa
open Go.RowKit Go.Shelf
set_option linter.unusedVariables false
set_option linter.unusedSimpArgs false
noncomputable def sc11Code : Code := ((Try.f23.body.bind (findRegion 11)).getD .skip)
set_option maxRecDepth 100000 in
set_option maxHeartbeats 8000000 in
theorem sc11 (w W : World) (A : Option Addr) (c N bi nn k : Nat) (v : Value) (es : List GEdge) (e : Int) (ds : List Deferred) (K : Act → World → Prop) (hk : k ≤ 1000) (hel : es.length ≤ 100000)
  (HM : Hid (SCm w W A c N bi nn v es)) (bx : Nat) (cx : W.cell? ⟨bx, 2, none⟩ = some (.int .i64 e)) (hvx : v.ownBlock ≠ some bx)
  (u0 u1 u2 u3 u4 u5 u6 u8 u10 u12 u15 u16 u17 u18 u19 u20 u21 u22 u23 u24 u25 u26 u27 u28 u29 u30 u31 u32 u33 u34 u35 u36 u37 u38 u39 u40 u41 u42 u43 u44 u45 u46 u47 u48 u49 u50 u51 u52 u53 u54 u55 u56 u57 u58 u59 u60 u61 u62 u63 u64 u65 u66 u67 u68 u69 u70 u71 u72 u73 u74 u75 u76 u77 u78 u79 u80 u81 u82 u83 u84 u85 u86 u87 u88 u89 u90 u91 u92 u93 u94 u95 u96 u97 u98 u99 u100 u101 u102 u103 u104 u105 u106 u107 u108 u109 u110 u111 u112 u113 u114 u115 u116 u117 u118 u119 u120 u121 u122 u123 u124 u125 u126 u127 u128 u129 u130 u131 u132 u133 u134 u135 u136 u137 u138 u139 u140 u141 u142 u143 u144 u145 u146 u147 u148 u149 u150 u151 u152 u153 u154 u155 u156 u157 u158 u159 u160 u161 u162 u163 u164 u165 u166 u167 u168 u169 u170 u171 u172 : Value)
  (HK : Hid (∀ (W' : World) (v' v48 v49 v50 v51 v52 v53 v54 v55 v56 v57 v58 v59 : Value), SCm w W' A c N bi nn v' (es ++ [⟨0, ((2 + k : Nat) : Int), e⟩]) → Mod (fun q => v.ownBlock = some q ∨ q = bi + 2) W W' → K ⟨List.toArray (u0 :: u1 :: u2 :: u3 :: u4 :: u5 :: u6 :: (.int .i64 0) :: u8 :: (.pointer (some ⟨bi, 0, none⟩)) :: u10 :: (.pointer (some ⟨bi + 2, 0, none⟩)) :: u12 :: (.int .i64 k) :: (.pointer (some ⟨bx, 0, none⟩)) :: u15 :: u16 :: u17 :: u18 :: u19 :: u20 :: u21 :: u22 :: u23 :: u24 :: u25 :: u26 :: u27 :: u28 :: u29 :: u30 :: u31 :: u32 :: u33 :: u34 :: u35 :: u36 :: u37 :: u38 :: u39 :: u40 :: u41 :: u42 :: u43 :: u44 :: u45 :: u46 :: u47 :: v48 :: v49 :: v50 :: v51 :: v52 :: v53 :: v54 :: v55 :: v56 :: v57 :: v58 :: v59 :: u60 :: u61 :: u62 :: u63 :: u64 :: u65 :: u66 :: u67 :: u68 :: u69 :: u70 :: u71 :: u72 :: u73 :: u74 :: u75 :: u76 :: u77 :: u78 :: u79 :: u80 :: u81 :: u82 :: u83 :: u84 :: u85 :: u86 :: u87 :: u88 :: u89 :: u90 :: u91 :: u92 :: u93 :: u94 :: u95 :: u96 :: u97 :: u98 :: u99 :: u100 :: u101 :: u102 :: u103 :: u104 :: u105 :: u106 :: u107 :: u108 :: u109 :: u110 :: u111 :: u112 :: u113 :: u114 :: u115 :: u116 :: u117 :: u118 :: u119 :: u120 :: u121 :: u122 :: u123 :: u124 :: u125 :: u126 :: u127 :: u128 :: u129 :: u130 :: u131 :: u132 :: u133 :: u134 :: u135 :: u136 :: u137 :: u138 :: u139 :: u140 :: u141 :: u142 :: u143 :: u144 :: u145 :: u146 :: u147 :: u148 :: u149 :: u150 :: u151 :: u152 :: u153 :: u154 :: u155 :: u156 :: u157 :: u158 :: u159 :: u160 :: u161 :: u162 :: u163 :: u164 :: u165 :: u166 :: u167 :: u168 :: u169 :: u170 :: u171 :: u172 :: []), ds⟩ W')) :
  Code.wp Try.prog sc11Code (Exit.then K (fun _ _ _ => False)) ⟨List.toArray (u0 :: u1 :: u2 :: u3 :: u4 :: u5 :: u6 :: (.int .i64 0) :: u8 :: (.pointer (some ⟨bi, 0, none⟩)) :: u10 :: (.pointer (some ⟨bi + 2, 0, none⟩)) :: u12 :: (.int .i64 k) :: (.pointer (some ⟨bx, 0, none⟩)) :: u15 :: u16 :: u17 :: u18 :: u19 :: u20 :: u21 :: u22 :: u23 :: u24 :: u25 :: u26 :: u27 :: u28 :: u29 :: u30 :: u31 :: u32 :: u33 :: u34 :: u35 :: u36 :: u37 :: u38 :: u39 :: u40 :: u41 :: u42 :: u43 :: u44 :: u45 :: u46 :: u47 :: u48 :: u49 :: u50 :: u51 :: u52 :: u53 :: u54 :: u55 :: u56 :: u57 :: u58 :: u59 :: u60 :: u61 :: u62 :: u63 :: u64 :: u65 :: u66 :: u67 :: u68 :: u69 :: u70 :: u71 :: u72 :: u73 :: u74 :: u75 :: u76 :: u77 :: u78 :: u79 :: u80 :: u81 :: u82 :: u83 :: u84 :: u85 :: u86 :: u87 :: u88 :: u89 :: u90 :: u91 :: u92 :: u93 :: u94 :: u95 :: u96 :: u97 :: u98 :: u99 :: u100 :: u101 :: u102 :: u103 :: u104 :: u105 :: u106 :: u107 :: u108 :: u109 :: u110 :: u111 :: u112 :: u113 :: u114 :: u115 :: u116 :: u117 :: u118 :: u119 :: u120 :: u121 :: u122 :: u123 :: u124 :: u125 :: u126 :: u127 :: u128 :: u129 :: u130 :: u131 :: u132 :: u133 :: u134 :: u135 :: u136 :: u137 :: u138 :: u139 :: u140 :: u141 :: u142 :: u143 :: u144 :: u145 :: u146 :: u147 :: u148 :: u149 :: u150 :: u151 :: u152 :: u153 :: u154 :: u155 :: u156 :: u157 :: u158 :: u159 :: u160 :: u161 :: u162 :: u163 :: u164 :: u165 :: u166 :: u167 :: u168 :: u169 :: u170 :: u171 :: u172 :: []), ds⟩ W := by
  have m := HM.out
  have c9 := m.k9
  have cg : W.cell? ⟨bi + 2, 1, none⟩ = some v := by have := m.og.cell (i := 1) (by omega); simpa [gcell] using this
  obtain ⟨ap, a5, l5, c5, w1, av, aw, e1, e2, Hfar, HM5, HM6, Hob⟩ := m.push 0 ((2 + k : Nat) : Int) e (by omega)
  have d9 := Hfar.out _ _ c9 (fun x => by have := (m.own_ge x).1; dsimp only at this; omega)
  have dx := Hfar.out _ _ cx hvx
  have l9 := World.block_lt_of_cell? W _ c9
  have lg := World.block_lt_of_cell? W _ cg
  have lx := World.block_lt_of_cell? W _ cx
  dsimp only at l9 lg lx
  have HC1 : Hid (∀ W', Calls Try.prog 51 #[.int .i64 k] W' fun e w' => e = .returned (.int .i64 ((2 + k : Nat) : Int)) ∧ w' = W') := Lib.hid (fun W' => plSched1_any k W' (by omega))
  clear m Hfar
  generalize 2 + k = n1 at *
  conv => arg 2; whnf
  refine region_z (S := fun w' => w'.cell? ⟨bi + 2, 1, none⟩ = some v ∧ w'.cell? ⟨bi, 0, none⟩ = some (.func (.func 51) #[] #[]) ∧ w'.cell? ⟨bx, 2, none⟩ = some (.int .i64 e)) [12] (by kernel_rfl) ⟨cg, c9, cx⟩ (fun hHeld => ?_)
  refine wpAnyZ_take (i := 0) (v := .pointer (some ⟨bi + 2, 1, none⟩)) [12] rfl (by kernel_rfl) (by kernel_rfl) (by kernel_rfl) (by kernel_rfl) (fun _ _ _ h => h) (Or.inl ⟨by rfl, fun w' hSw => ?_⟩) hHeld ?_
  · obtain ⟨s0, s1, s2⟩ := hSw
    go_simp
  simp only [Act.put, List.setIfInBounds_toArray, List.set_cons_zero, List.set_cons_succ]
  refine wpAnyZ_take (i := 1) (v := v) [12] rfl (by kernel_rfl) (by kernel_rfl) (by kernel_rfl) (by kernel_rfl) (fun _ _ _ h => h) (Or.inl ⟨by rfl, fun w' hSw => ?_⟩) hHeld ?_
  · obtain ⟨s0, s1, s2⟩ := hSw
    go_simp
  simp only [Act.put, List.setIfInBounds_toArray, List.set_cons_zero, List.set_cons_succ]
  refine wpAnyZ_take (i := 2) (v := .int .i64 0) [12] rfl (by kernel_rfl) (by kernel_rfl) (by kernel_rfl) (by kernel_rfl) (fun _ _ _ h => h) (Or.inl ⟨by rfl, fun w' hSw => ?_⟩) hHeld ?_
  · obtain ⟨s0, s1, s2⟩ := hSw
    go_simp
  simp only [Act.put, List.setIfInBounds_toArray, List.set_cons_zero, List.set_cons_succ]
  refine wpAnyZ_take (i := 3) (v := (.func (.func 51) #[] #[])) [12] rfl (by kernel_rfl) (by kernel_rfl) (by kernel_rfl) (by kernel_rfl) (fun _ _ _ h => h) (Or.inl ⟨by rfl, fun w' hSw => ?_⟩) hHeld ?_
  · obtain ⟨s0, s1, s2⟩ := hSw
    go_simp
  simp only [Act.put, List.setIfInBounds_toArray, List.set_cons_zero, List.set_cons_succ]
  refine wpAnyZ_take (i := 4) (v := .int .i64 k) [12] rfl (by kernel_rfl) (by kernel_rfl) (by kernel_rfl) (by kernel_rfl) (fun _ _ _ h => h) (Or.inl ⟨by rfl, fun w' hSw => ?_⟩) hHeld ?_
  · obtain ⟨s0, s1, s2⟩ := hSw
    go_simp
  simp only [Act.put, List.setIfInBounds_toArray, List.set_cons_zero, List.set_cons_succ]
  refine wpAnyZ_take (i := 6) (v := .pointer (some ⟨bx, 2, none⟩)) [12] rfl (by kernel_rfl) (by kernel_rfl) (by kernel_rfl) (by kernel_rfl) (fun _ _ _ h => h) (Or.inl ⟨by rfl, fun w' hSw => ?_⟩) hHeld ?_
  · obtain ⟨s0, s1, s2⟩ := hSw
    go_simp
  simp only [Act.put, List.setIfInBounds_toArray, List.set_cons_zero, List.set_cons_succ]
  refine wpAnyZ_take (i := 7) (v := .int .i64 e) [12] rfl (by kernel_rfl) (by kernel_rfl) (by kernel_rfl) (by kernel_rfl) (fun _ _ _ h => h) (Or.inl ⟨by rfl, fun w' hSw => ?_⟩) hHeld ?_
  · obtain ⟨s0, s1, s2⟩ := hSw
    go_simp
  simp only [Act.put, List.setIfInBounds_toArray, List.set_cons_zero, List.set_cons_succ]
  refine wpAnyZ_one (i := 5) (by kernel_rfl) rfl (fun K hK => ?_)
  go_simp
  refine (HC1.out _).mono ?_
  rintro e w' ⟨rfl, rfl⟩
  refine hK.out _ _ ?_ (fun hHeld => ?_)
  · exact hHeld
  clear hK K
  try simp only [Act.put, List.setIfInBounds_toArray, List.set_cons_zero, List.set_cons_succ]
  refine wpAnyZ_one (i := 8) (by kernel_rfl) rfl (fun K hK => ?_)
  go_simp
  refine hK.out _ _ ?_ (fun hHeld => ?_)
  · exact hHeld
  clear hK K
  try simp only [Act.put, List.setIfInBounds_toArray, List.set_cons_zero, List.set_cons_succ]
  refine wpAnyZ_one (i := 9) (by kernel_rfl) rfl (fun K hK => ?_)
  go_simp
  refine hK.out _ _ ?_ (fun hHeld => ?_)
  · refine ⟨?_, ?_, ?_⟩ <;> go_simp
  clear hK K
  try simp only [Act.put, List.setIfInBounds_toArray, List.set_cons_zero, List.set_cons_succ]
  refine wpAnyZ_one (i := 10) (by kernel_rfl) rfl (fun K hK => ?_)
  rw [if_pos (by rfl)]
  refine append_go rfl rfl ap av aw ?_
  refine hK.out _ _ ?_ (fun hHeld => ?_)
  · exact ⟨e1, d9, dx⟩
  clear hK K
  try simp only [Act.put, List.setIfInBounds_toArray, List.set_cons_zero, List.set_cons_succ]
  refine wpAnyZ_take (i := 11) (v := .pointer (some ⟨bi + 2, 1, none⟩)) [12] rfl (by kernel_rfl) (by kernel_rfl) (by kernel_rfl) (by kernel_rfl) (fun _ _ _ h => h) (Or.inl ⟨by rfl, fun w' hSw => ?_⟩) hHeld ?_
  · obtain ⟨s0, s1, s2⟩ := hSw
    go_simp
  simp only [Act.put, List.setIfInBounds_toArray, List.set_cons_zero, List.set_cons_succ]
  refine wpAnyZ_last (i := 12) (by kernel_rfl) rfl (by kernel_rfl) (fun K hK => ?_)
  go_simp
  refine hK.out _ _ ?_
  clear hK K
  try simp only [Act.put, List.setIfInBounds_toArray, List.set_cons_zero, List.set_cons_succ]
  refine wpAnyZ_done (by kernel_rfl) ?_ _
  clear hHeld
  exact HK.out _ _ _ _ _ _ _ _ _ _ _ _ _ _ HM5.out HM6.out
noncomputable def sc17Code : Code := ((Try.f23.body.bind (findRegion 17)).getD .skip)
set_option maxRecDepth 100000 in
set_option maxHeartbeats 8000000 in
theorem sc17 (w W : World) (A : Option Addr) (c N bi nn k : Nat) (v : Value) (es : List GEdge) (e : Int) (ds : List Deferred) (K : Act → World → Prop) (hk : k ≤ 1000) (hel : es.length ≤ 100000)
  (HM : Hid (SCm w W A c N bi nn v es)) (hN : N ≤ 1000)
  (u0 u1 u2 u3 u4 u5 u6 u7 u9 u12 u13 u14 u17 u18 u19 u20 u21 u22 u23 u24 u25 u26 u27 u28 u29 u30 u31 u32 u33 u34 u35 u36 u37 u38 u39 u40 u41 u42 u43 u44 u45 u46 u47 u48 u49 u50 u51 u52 u53 u54 u55 u56 u57 u58 u59 u60 u61 u62 u63 u64 u65 u66 u67 u68 u69 u70 u71 u72 u73 u74 u75 u76 u77 u78 u79 u80 u81 u82 u83 u84 u85 u86 u87 u88 u89 u90 u91 u92 u93 u94 u95 u96 u97 u98 u99 u100 u101 u102 u103 u104 u105 u106 u107 u108 u109 u110 u111 u112 u113 u114 u115 u116 u117 u118 u119 u120 u121 u122 u123 u124 u125 u126 u127 u128 u129 u130 u131 u132 u133 u134 u135 u136 u137 u138 u139 u140 u141 u142 u143 u144 u145 u146 u147 u148 u149 u150 u151 u152 u153 u154 u155 u156 u157 u158 u159 u160 u161 u162 u163 u164 u165 u166 u167 u168 u169 u170 u171 u172 : Value)
  (HK : Hid (∀ (W' : World) (v' v73 v74 v75 v76 v77 v78 v79 v80 v81 v82 v83 : Value), SCm w W' A c N bi nn v' (es ++ [⟨((2 + N + k : Nat) : Int), 1, e⟩]) → Mod (fun q => v.ownBlock = some q ∨ q = bi + 2) W W' → K ⟨List.toArray (u0 :: u1 :: u2 :: u3 :: u4 :: u5 :: u6 :: u7 :: (.int .i64 1) :: u9 :: (.pointer (some ⟨bi + 1, 0, none⟩)) :: (.pointer (some ⟨bi + 2, 0, none⟩)) :: u12 :: u13 :: u14 :: (.int .i64 k) :: (.int .i64 e) :: u17 :: u18 :: u19 :: u20 :: u21 :: u22 :: u23 :: u24 :: u25 :: u26 :: u27 :: u28 :: u29 :: u30 :: u31 :: u32 :: u33 :: u34 :: u35 :: u36 :: u37 :: u38 :: u39 :: u40 :: u41 :: u42 :: u43 :: u44 :: u45 :: u46 :: u47 :: u48 :: u49 :: u50 :: u51 :: u52 :: u53 :: u54 :: u55 :: u56 :: u57 :: u58 :: u59 :: u60 :: u61 :: u62 :: u63 :: u64 :: u65 :: u66 :: u67 :: u68 :: u69 :: u70 :: u71 :: u72 :: v73 :: v74 :: v75 :: v76 :: v77 :: v78 :: v79 :: v80 :: v81 :: v82 :: v83 :: u84 :: u85 :: u86 :: u87 :: u88 :: u89 :: u90 :: u91 :: u92 :: u93 :: u94 :: u95 :: u96 :: u97 :: u98 :: u99 :: u100 :: u101 :: u102 :: u103 :: u104 :: u105 :: u106 :: u107 :: u108 :: u109 :: u110 :: u111 :: u112 :: u113 :: u114 :: u115 :: u116 :: u117 :: u118 :: u119 :: u120 :: u121 :: u122 :: u123 :: u124 :: u125 :: u126 :: u127 :: u128 :: u129 :: u130 :: u131 :: u132 :: u133 :: u134 :: u135 :: u136 :: u137 :: u138 :: u139 :: u140 :: u141 :: u142 :: u143 :: u144 :: u145 :: u146 :: u147 :: u148 :: u149 :: u150 :: u151 :: u152 :: u153 :: u154 :: u155 :: u156 :: u157 :: u158 :: u159 :: u160 :: u161 :: u162 :: u163 :: u164 :: u165 :: u166 :: u167 :: u168 :: u169 :: u170 :: u171 :: u172 :: []), ds⟩ W')) :
  Code.wp Try.prog sc17Code (Exit.then K (fun _ _ _ => False)) ⟨List.toArray (u0 :: u1 :: u2 :: u3 :: u4 :: u5 :: u6 :: u7 :: (.int .i64 1) :: u9 :: (.pointer (some ⟨bi + 1, 0, none⟩)) :: (.pointer (some ⟨bi + 2, 0, none⟩)) :: u12 :: u13 :: u14 :: (.int .i64 k) :: (.int .i64 e) :: u17 :: u18 :: u19 :: u20 :: u21 :: u22 :: u23 :: u24 :: u25 :: u26 :: u27 :: u28 :: u29 :: u30 :: u31 :: u32 :: u33 :: u34 :: u35 :: u36 :: u37 :: u38 :: u39 :: u40 :: u41 :: u42 :: u43 :: u44 :: u45 :: u46 :: u47 :: u48 :: u49 :: u50 :: u51 :: u52 :: u53 :: u54 :: u55 :: u56 :: u57 :: u58 :: u59 :: u60 :: u61 :: u62 :: u63 :: u64 :: u65 :: u66 :: u67 :: u68 :: u69 :: u70 :: u71 :: u72 :: u73 :: u74 :: u75 :: u76 :: u77 :: u78 :: u79 :: u80 :: u81 :: u82 :: u83 :: u84 :: u85 :: u86 :: u87 :: u88 :: u89 :: u90 :: u91 :: u92 :: u93 :: u94 :: u95 :: u96 :: u97 :: u98 :: u99 :: u100 :: u101 :: u102 :: u103 :: u104 :: u105 :: u106 :: u107 :: u108 :: u109 :: u110 :: u111 :: u112 :: u113 :: u114 :: u115 :: u116 :: u117 :: u118 :: u119 :: u120 :: u121 :: u122 :: u123 :: u124 :: u125 :: u126 :: u127 :: u128 :: u129 :: u130 :: u131 :: u132 :: u133 :: u134 :: u135 :: u136 :: u137 :: u138 :: u139 :: u140 :: u141 :: u142 :: u143 :: u144 :: u145 :: u146 :: u147 :: u148 :: u149 :: u150 :: u151 :: u152 :: u153 :: u154 :: u155 :: u156 :: u157 :: u158 :: u159 :: u160 :: u161 :: u162 :: u163 :: u164 :: u165 :: u166 :: u167 :: u168 :: u169 :: u170 :: u171 :: u172 :: []), ds⟩ W := by
  have m := HM.out
  have c10 := m.k10
  have k0 := m.k0
  have cg : W.cell? ⟨bi + 2, 1, none⟩ = some v := by have := m.og.cell (i := 1) (by omega); simpa [gcell] using this
  obtain ⟨ap, a5, l5, c5, w1, av, aw, e1, e2, Hfar, HM5, HM6, Hob⟩ := m.push ((2 + N + k : Nat) : Int) 1 e (by omega)
  have d10 := Hfar.out _ _ c10 (fun x => by have := (m.own_ge x).1; dsimp only at this; omega)
  have l10 := World.block_lt_of_cell? W _ c10
  have lg := World.block_lt_of_cell? W _ cg
  dsimp only at l10 lg
  have HC2 : Hid (Calls Try.prog 52 #[.int .i64 k, .pointer (some ⟨w.heap.size, 0, none⟩)] W.drew fun e w' => e = .returned (.int .i64 ((2 + N + k : Nat) : Int)) ∧ w' = W.drew) := Lib.hid (plSched2_any k w.heap.size 0 N c _ W.drew (by omega) (by omega) k0)
  clear m Hfar k0
  generalize 2 + N + k = n1 at *
  conv => arg 2; whnf
  refine region_z (S := fun w' => w'.cell? ⟨bi + 2, 1, none⟩ = some v ∧ w'.cell? ⟨bi + 1, 0, none⟩ = some (.func (.func 52) #[] #[.pointer (some ⟨w.heap.size, 0, none⟩)])) [11] (by kernel_rfl) ⟨cg, c10⟩ (fun hHeld => ?_)
  refine wpAnyZ_take (i := 0) (v := .pointer (some ⟨bi + 2, 1, none⟩)) [11] rfl (by kernel_rfl) (by kernel_rfl) (by kernel_rfl) (by kernel_rfl) (fun _ _ _ h => h) (Or.inl ⟨by rfl, fun w' hSw => ?_⟩) hHeld ?_
  · obtain ⟨s0, s1⟩ := hSw
    go_simp
  simp only [Act.put, List.setIfInBounds_toArray, List.set_cons_zero, List.set_cons_succ]
  refine wpAnyZ_take (i := 1) (v := v) [11] rfl (by kernel_rfl) (by kernel_rfl) (by kernel_rfl) (by kernel_rfl) (fun _ _ _ h => h) (Or.inl ⟨by rfl, fun w' hSw => ?_⟩) hHeld ?_
  · obtain ⟨s0, s1⟩ := hSw
    go_simp
  simp only [Act.put, List.setIfInBounds_toArray, List.set_cons_zero, List.set_cons_succ]
  refine wpAnyZ_take (i := 2) (v := (.func (.func 52) #[] #[.pointer (some ⟨w.heap.size, 0, none⟩)])) [11] rfl (by kernel_rfl) (by kernel_rfl) (by kernel_rfl) (by kernel_rfl) (fun _ _ _ h => h) (Or.inl ⟨by rfl, fun w' hSw => ?_⟩) hHeld ?_
  · obtain ⟨s0, s1⟩ := hSw
    go_simp
  simp only [Act.put, List.setIfInBounds_toArray, List.set_cons_zero, List.set_cons_succ]
  refine wpAnyZ_take (i := 3) (v := .int .i64 k) [11] rfl (by kernel_rfl) (by kernel_rfl) (by kernel_rfl) (by kernel_rfl) (fun _ _ _ h => h) (Or.inl ⟨by rfl, fun w' hSw => ?_⟩) hHeld ?_
  · obtain ⟨s0, s1⟩ := hSw
    go_simp
  simp only [Act.put, List.setIfInBounds_toArray, List.set_cons_zero, List.set_cons_succ]
  refine wpAnyZ_take (i := 5) (v := .int .i64 1) [11] rfl (by kernel_rfl) (by kernel_rfl) (by kernel_rfl) (by kernel_rfl) (fun _ _ _ h => h) (Or.inl ⟨by rfl, fun w' hSw => ?_⟩) hHeld ?_
  · obtain ⟨s0, s1⟩ := hSw
    go_simp
  simp only [Act.put, List.setIfInBounds_toArray, List.set_cons_zero, List.set_cons_succ]
  refine wpAnyZ_take (i := 6) (v := .int .i64 e) [11] rfl (by kernel_rfl) (by kernel_rfl) (by kernel_rfl) (by kernel_rfl) (fun _ _ _ h => h) (Or.inl ⟨by rfl, fun w' hSw => ?_⟩) hHeld ?_
  · obtain ⟨s0, s1⟩ := hSw
    go_simp
  simp only [Act.put, List.setIfInBounds_toArray, List.set_cons_zero, List.set_cons_succ]
  refine wpAnyZ_one (i := 4) (by kernel_rfl) rfl (fun K hK => ?_)
  go_simp
  refine HC2.out.mono ?_
  rintro e w' ⟨rfl, rfl⟩
  refine hK.out _ _ ?_ (fun hHeld => ?_)
  · exact hHeld
  clear hK K
  try simp only [Act.put, List.setIfInBounds_toArray, List.set_cons_zero, List.set_cons_succ]
  refine wpAnyZ_one (i := 7) (by kernel_rfl) rfl (fun K hK => ?_)
  go_simp
  refine hK.out _ _ ?_ (fun hHeld => ?_)
  · exact hHeld
  clear hK K
  try simp only [Act.put, List.setIfInBounds_toArray, List.set_cons_zero, List.set_cons_succ]
  refine wpAnyZ_one (i := 8) (by kernel_rfl) rfl (fun K hK => ?_)
  go_simp
  refine hK.out _ _ ?_ (fun hHeld => ?_)
  · refine ⟨?_, ?_⟩ <;> go_simp
  clear hK K
  try simp only [Act.put, List.setIfInBounds_toArray, List.set_cons_zero, List.set_cons_succ]
  refine wpAnyZ_one (i := 9) (by kernel_rfl) rfl (fun K hK => ?_)
  rw [if_pos (by rfl)]
  refine append_go rfl rfl ap av aw ?_
  refine hK.out _ _ ?_ (fun hHeld => ?_)
  · exact ⟨e1, d10⟩
  clear hK K
  try simp only [Act.put, List.setIfInBounds_toArray, List.set_cons_zero, List.set_cons_succ]
  refine wpAnyZ_take (i := 10) (v := .pointer (some ⟨bi + 2, 1, none⟩)) [11] rfl (by kernel_rfl) (by kernel_rfl) (by kernel_rfl) (by kernel_rfl) (fun _ _ _ h => h) (Or.inl ⟨by rfl, fun w' hSw => ?_⟩) hHeld ?_
  · obtain ⟨s0, s1⟩ := hSw
    go_simp
  simp only [Act.put, List.setIfInBounds_toArray, List.set_cons_zero, List.set_cons_succ]
  refine wpAnyZ_last (i := 11) (by kernel_rfl) rfl (by kernel_rfl) (fun K hK => ?_)
  go_simp
  refine hK.out _ _ ?_
  clear hK K
  try simp only [Act.put, List.setIfInBounds_toArray, List.set_cons_zero, List.set_cons_succ]
  refine wpAnyZ_done (by kernel_rfl) ?_ _
  clear hHeld
  exact HK.out _ _ _ _ _ _ _ _ _ _ _ _ _ HM5.out HM6.out
end Go.Proofs.Ytgfcnkfmgpakkaa
/-
The drawn region of plan.Schedule that lays the cut.
-/
namespace Go.Proofs.Ytgfcnkfmgpakkaa
open Go.RowKit Go.Shelf
set_option linter.unusedVariables false
set_option linter.unusedSimpArgs false
structure CutOut (W W' : World) (b : Nat) (cj cs : List Int) (a3 a4 : Option Addr) (c3 c4 : Nat) : Prop where
  own : Own W' b 30 2 (fun i => if i = 0 then .slice a3 cj.length c3 else .slice a4 cs.length c4)
  r3 : Rd 1 encI W' a3 cj
  r4 : Rd 1 encI W' a4 cs
  bel : Below W.heap.size W W'
  lb : W.heap.size ≤ b
  fr : ∀ q, (Value.slice a4 cs.length c4).ownBlock = some q → W.heap.size ≤ q
theorem cut_fin {W W2 : World} {X b1 b2 c3 c4 : Nat} {a3 a4 : Option Addr} {cj cs : List Int} {f : Nat → Value} (hW : Below W.heap.size W W2) (hX : W.heap.size ≤ X) (o : Own W2 X 30 2 f)
    (o1 : OwnL W2 b1 (.slice a3 cj.length c3) cj) (o2 : OwnL W2 b2 (.slice a4 cs.length c4) cs) (n1 : ∀ q, (Value.slice a3 cj.length c3).ownBlock = some q → q ≠ X) (n2 : ∀ q, (Value.slice a4 cs.length c4).ownBlock = some q → q ≠ X) (hb2 : W.heap.size ≤ b2) :
    CutOut W ((W2.setCell ⟨X, 0, none⟩ (.slice a3 cj.length c3)).setCell ⟨X, 1, none⟩ (.slice a4 cs.length c4)) X cj cs a3 a4 c3 c4 := by
  have hM : Mod (fun q => q = X) W2 ((W2.setCell ⟨X, 0, none⟩ (.slice a3 cj.length c3)).setCell ⟨X, 1, none⟩ (.slice a4 cs.length c4)) :=
    ((Mod.refl (fun q => q = X) W2).setCell (p := ⟨X, 0, none⟩) (.inl rfl) _).setCell (p := ⟨X, 1, none⟩) (.inl rfl) _
  refine ⟨((o.set 0 _).set 1 _).congr (fun i hi => ?_), ?_, ?_, hW.trans (hM.below hW.size (fun q _ hq => by omega)), hX, fun q hq => Nat.le_trans hb2 (World.ownsRow.lt o2 q hq).1⟩
  · rcases i with _ | _ | i
    · simp
    · simp
    · omega
  · obtain ⟨a, c, e, r⟩ := (o1.mod hM n1).rd
    injection e with e1 e2 e3
    subst e1
    exact r
  · obtain ⟨a, c, e, r⟩ := (o2.mod hM n2).rd
    injection e with e1 e2 e3
    subst e1
    exact r
theorem new_cut (W : World) : Own (W.alloc (.cells #[.slice none 0 0, .slice none 0 0] 30)) W.heap.size 30 2 (fun _ => .slice none 0 0) :=
  Own.newAt _ _ _ _ rfl (n := 2) rfl (fun i hi => by
    rcases i with _ | _ | i
    · rfl
    · rfl
    · omega)
theorem cut_finC {W W2 : World} {b1 b2 c3 c4 : Nat} {a3 a4 : Option Addr} {cj cs : List Int} (hW : Below W.heap.size W W2) (o1 : OwnL W2 b1 (.slice a3 cj.length c3) cj) (o2 : OwnL W2 b2 (.slice a4 cs.length c4) cs) (hb2 : W.heap.size ≤ b2) :
    CutOut W (W2.alloc (.cells #[.slice a3 cj.length c3, .slice a4 cs.length c4] 30)) W2.heap.size cj cs a3 a4 c3 c4 := by
  have ba : Below W2.heap.size W2 (W2.alloc (.cells #[.slice a3 cj.length c3, .slice a4 cs.length c4] 30)) := (Below.refl _ _).alloc (Nat.le_refl _) _
  refine ⟨Own.newAt _ _ _ _ rfl (n := 2) rfl (fun i hi => ?_), ?_, ?_, below_then hW ba, hW.size, fun q hq => Nat.le_trans hb2 (World.ownsRow.lt o2 q hq).1⟩
  · rcases i with _ | _ | i
    · rfl
    · rfl
    · omega
  · obtain ⟨a, c, e, r⟩ := (o1.keep ba).rd
    injection e with e1 e2 e3
    subst e1
    exact r
  · obtain ⟨a, c, e, r⟩ := (o2.keep ba).rd
    injection e with e1 e2 e3
    subst e1
    exact r
theorem cut_finB {W W1 W2 : World} {b1 c3 c4 : Nat} {a3 a4 : Option Addr} {cj cs : List Int} (hW : Below W.heap.size W W1) (o1 : OwnL W1 b1 (.slice a3 cj.length c3) cj)
    (b2 : Below (W1.alloc (.cells #[.slice none 0 0, .slice none 0 0] 30)).heap.size (W1.alloc (.cells #[.slice none 0 0, .slice none 0 0] 30)) W2) (o2 : OwnL W2 (W1.alloc (.cells #[.slice none 0 0, .slice none 0 0] 30)).heap.size (.slice a4 cs.length c4) cs) :
    CutOut W ((W2.setCell ⟨W1.heap.size, 0, none⟩ (.slice a3 cj.length c3)).setCell ⟨W1.heap.size, 1, none⟩ (.slice a4 cs.length c4)) W1.heap.size cj cs a3 a4 c3 c4 := by
  have ba : Below W1.heap.size W1 (W1.alloc (.cells #[.slice none 0 0, .slice none 0 0] 30)) := (Below.refl _ _).alloc (Nat.le_refl _) _
  have bb := below_then ba b2
  refine cut_fin (below_then hW bb) hW.size ((new_cut W1).keep b2 (by simp)) (o1.keep bb) o2 (fun q hq e => by have := (World.ownsRow.lt o1 q hq).2; omega) (fun q hq e => by have := (World.ownsRow.lt o2 q hq).1; simp at this; omega) (Nat.le_trans hW.size ba.size)
theorem cut_finA {W W1 W2 : World} {c3 c4 : Nat} {a3 a4 : Option Addr} {cj cs : List Int} (b1 : Below (W.alloc (.cells #[.slice none 0 0, .slice none 0 0] 30)).drew.heap.size (W.alloc (.cells #[.slice none 0 0, .slice none 0 0] 30)).drew W1) (o1 : OwnL W1 (W.alloc (.cells #[.slice none 0 0, .slice none 0 0] 30)).drew.heap.size (.slice a3 cj.length c3) cj)
    (b2 : Below W1.heap.size W1 W2) (o2 : OwnL W2 W1.heap.size (.slice a4 cs.length c4) cs) :
    CutOut W ((W2.setCell ⟨W.heap.size, 0, none⟩ (.slice a3 cj.length c3)).setCell ⟨W.heap.size, 1, none⟩ (.slice a4 cs.length c4)) W.heap.size cj cs a3 a4 c3 c4 := by
  have ba : Below W.heap.size W (W.alloc (.cells #[.slice none 0 0, .slice none 0 0] 30)).drew := ((Below.refl _ _).alloc (Nat.le_refl _) _).drew
  have hs : (W.alloc (.cells #[.slice none 0 0, .slice none 0 0] 30)).drew.heap.size = W.heap.size + 1 := by simp [World.drew]
  have hs1 := b1.size
  have nc : Own (W.alloc (.cells #[.slice none 0 0, .slice none 0 0] 30)).drew W.heap.size 30 2 (fun _ => .slice none 0 0) := (new_cut W).drew
  refine cut_fin (below_then (below_then ba b1) b2) (Nat.le_refl _) ((nc.keep b1 (by omega)).keep b2 (by omega)) (o1.keep b2) o2 (fun q hq e => by have := (World.ownsRow.lt o1 q hq).1; omega) (fun q hq e => by have := (World.ownsRow.lt o2 q hq).1; omega) (by omega)
noncomputable def sc30Code : Code := ((Try.f23.body.bind (findRegion 30)).getD .skip)
set_option maxRecDepth 100000 in
set_option maxHeartbeats 8000000 in
theorem sc30 (w W : World) (A A2 : Option Addr) (c N c2 T bi gs nn : Nat) (sd : List Bool) (ds : List Deferred) (K : Act → World → Prop) (hnn : 2 + N + T = nn) (hM : nn ≤ 1000)
  (k0 : W.cell? ⟨w.heap.size, 0, none⟩ = some (.slice A N c)) (k9 : W.cell? ⟨bi, 0, none⟩ = some (.func (.func 51) #[] #[])) (k10 : W.cell? ⟨bi + 1, 0, none⟩ = some (.func (.func 52) #[] #[.pointer (some ⟨w.heap.size, 0, none⟩)])) (hsd : Rd 1 encB W (some ⟨gs, 0, none⟩) sd) (HM : Hid (sd.length = nn))
  (u0 u3 u4 u5 u6 u7 u8 u11 u12 u13 u14 u15 u16 u17 u18 u19 u20 u21 u23 u24 u25 u26 u27 u28 u29 u30 u31 u32 u33 u34 u35 u36 u37 u38 u39 u40 u41 u42 u43 u44 u45 u46 u47 u48 u49 u50 u51 u52 u53 u54 u55 u56 u57 u58 u59 u60 u61 u62 u63 u64 u65 u66 u67 u68 u69 u70 u71 u72 u73 u74 u75 u76 u77 u78 u79 u80 u81 u82 u83 u84 u85 u86 u87 u88 u89 u90 u91 u92 u93 u94 u95 u96 u97 u98 u99 u100 u101 u102 u103 u104 u105 u106 u107 u108 u109 u110 u111 u112 u113 u114 u115 u116 u117 u118 u119 u120 u121 u122 u123 u124 u125 u126 u127 u128 u129 u130 u131 u132 u133 u134 u135 u136 u137 u138 u139 u140 u141 u142 u143 u144 u145 u146 u147 u148 u149 u150 u151 u152 u153 u154 u155 u156 u157 u158 u159 u160 u161 u162 u163 u164 u165 u166 u167 u168 u169 u170 u171 u172 : Value)
  (HK : Hid (∀ (W' : World) (b : Nat) (a3 a4 : Option Addr) (c3 c4 : Nat) (v125 v126 v127 v128 v129 v130 v131 v132 v133 v134 v135 : Value), CutOut W W' b (chosenTo sd 2 N) (chosenTo sd (2 + N) T) a3 a4 c3 c4 → K ⟨List.toArray (u0 :: (.slice A2 T c2) :: (.pointer (some ⟨w.heap.size, 0, none⟩)) :: u3 :: u4 :: u5 :: u6 :: u7 :: u8 :: (.pointer (some ⟨bi, 0, none⟩)) :: (.pointer (some ⟨bi + 1, 0, none⟩)) :: u11 :: u12 :: u13 :: u14 :: u15 :: u16 :: u17 :: u18 :: u19 :: u20 :: u21 :: (.slice (some ⟨gs, 0, none⟩) nn nn) :: u23 :: (.pointer (some ⟨b, 0, none⟩)) :: u25 :: u26 :: u27 :: u28 :: u29 :: u30 :: u31 :: u32 :: u33 :: u34 :: u35 :: u36 :: u37 :: u38 :: u39 :: u40 :: u41 :: u42 :: u43 :: u44 :: u45 :: u46 :: u47 :: u48 :: u49 :: u50 :: u51 :: u52 :: u53 :: u54 :: u55 :: u56 :: u57 :: u58 :: u59 :: u60 :: u61 :: u62 :: u63 :: u64 :: u65 :: u66 :: u67 :: u68 :: u69 :: u70 :: u71 :: u72 :: u73 :: u74 :: u75 :: u76 :: u77 :: u78 :: u79 :: u80 :: u81 :: u82 :: u83 :: u84 :: u85 :: u86 :: u87 :: u88 :: u89 :: u90 :: u91 :: u92 :: u93 :: u94 :: u95 :: u96 :: u97 :: u98 :: u99 :: u100 :: u101 :: u102 :: u103 :: u104 :: u105 :: u106 :: u107 :: u108 :: u109 :: u110 :: u111 :: u112 :: u113 :: u114 :: u115 :: u116 :: u117 :: u118 :: u119 :: u120 :: u121 :: u122 :: u123 :: u124 :: v125 :: v126 :: v127 :: v128 :: v129 :: v130 :: v131 :: v132 :: v133 :: v134 :: v135 :: u136 :: u137 :: u138 :: u139 :: u140 :: u141 :: u142 :: u143 :: u144 :: u145 :: u146 :: u147 :: u148 :: u149 :: u150 :: u151 :: u152 :: u153 :: u154 :: u155 :: u156 :: u157 :: u158 :: u159 :: u160 :: u161 :: u162 :: u163 :: u164 :: u165 :: u166 :: u167 :: u168 :: u169 :: u170 :: u171 :: u172 :: []), ds⟩ W')) :
  Code.wp Try.prog sc30Code (Exit.then K (fun _ _ _ => False)) ⟨List.toArray (u0 :: (.slice A2 T c2) :: (.pointer (some ⟨w.heap.size, 0, none⟩)) :: u3 :: u4 :: u5 :: u6 :: u7 :: u8 :: (.pointer (some ⟨bi, 0, none⟩)) :: (.pointer (some ⟨bi + 1, 0, none⟩)) :: u11 :: u12 :: u13 :: u14 :: u15 :: u16 :: u17 :: u18 :: u19 :: u20 :: u21 :: (.slice (some ⟨gs, 0, none⟩) nn nn) :: u23 :: u24 :: u25 :: u26 :: u27 :: u28 :: u29 :: u30 :: u31 :: u32 :: u33 :: u34 :: u35 :: u36 :: u37 :: u38 :: u39 :: u40 :: u41 :: u42 :: u43 :: u44 :: u45 :: u46 :: u47 :: u48 :: u49 :: u50 :: u51 :: u52 :: u53 :: u54 :: u55 :: u56 :: u57 :: u58 :: u59 :: u60 :: u61 :: u62 :: u63 :: u64 :: u65 :: u66 :: u67 :: u68 :: u69 :: u70 :: u71 :: u72 :: u73 :: u74 :: u75 :: u76 :: u77 :: u78 :: u79 :: u80 :: u81 :: u82 :: u83 :: u84 :: u85 :: u86 :: u87 :: u88 :: u89 :: u90 :: u91 :: u92 :: u93 :: u94 :: u95 :: u96 :: u97 :: u98 :: u99 :: u100 :: u101 :: u102 :: u103 :: u104 :: u105 :: u106 :: u107 :: u108 :: u109 :: u110 :: u111 :: u112 :: u113 :: u114 :: u115 :: u116 :: u117 :: u118 :: u119 :: u120 :: u121 :: u122 :: u123 :: u124 :: u125 :: u126 :: u127 :: u128 :: u129 :: u130 :: u131 :: u132 :: u133 :: u134 :: u135 :: u136 :: u137 :: u138 :: u139 :: u140 :: u141 :: u142 :: u143 :: u144 :: u145 :: u146 :: u147 :: u148 :: u149 :: u150 :: u151 :: u152 :: u153 :: u154 :: u155 :: u156 :: u157 :: u158 :: u159 :: u160 :: u161 :: u162 :: u163 :: u164 :: u165 :: u166 :: u167 :: u168 :: u169 :: u170 :: u171 :: u172 :: []), ds⟩ W := by
  have l0 := World.block_lt_of_cell? W _ k0
  have l9 := World.block_lt_of_cell? W _ k9
  have l10 := World.block_lt_of_cell? W _ k10
  dsimp only at l0 l9 l10
  conv => arg 2; whnf
  refine region_z (S := fun w' => w'.cell? ⟨w.heap.size, 0, none⟩ = some (.slice A N c) ∧ w'.cell? ⟨bi, 0, none⟩ = some (.func (.func 51) #[] #[]) ∧ w'.cell? ⟨bi + 1, 0, none⟩ = some (.func (.func 52) #[] #[.pointer (some ⟨w.heap.size, 0, none⟩)])) [12] (by kernel_rfl) ⟨k0, k9, k10⟩ (fun hHeld => ?_)
  refine wpAnyZ_take (i := 0) (v := .slice A N c) [12] rfl (by kernel_rfl) (by kernel_rfl) (by kernel_rfl) (by kernel_rfl) (fun _ _ _ h => h) (Or.inl ⟨by rfl, fun w' hSw => ?_⟩) hHeld ?_
  · obtain ⟨s0, s1, s2⟩ := hSw
    go_simp
  simp only [Act.put, List.setIfInBounds_toArray, List.set_cons_zero, List.set_cons_succ]
  refine wpAnyZ_take (i := 1) (v := .int .i64 N) [12] rfl (by kernel_rfl) (by kernel_rfl) (by kernel_rfl) (by kernel_rfl) (fun _ _ _ h => h) (Or.inl ⟨by rfl, fun w' hSw => ?_⟩) hHeld ?_
  · obtain ⟨s0, s1, s2⟩ := hSw
    go_simp
  simp only [Act.put, List.setIfInBounds_toArray, List.set_cons_zero, List.set_cons_succ]
  refine wpAnyZ_take (i := 2) (v := .slice (some ⟨gs, 0, none⟩) nn nn) [12] rfl (by kernel_rfl) (by kernel_rfl) (by kernel_rfl) (by kernel_rfl) (fun _ _ _ h => h) (Or.inl ⟨by rfl, fun w' hSw => ?_⟩) hHeld ?_
  · obtain ⟨s0, s1, s2⟩ := hSw
    go_simp
  simp only [Act.put, List.setIfInBounds_toArray, List.set_cons_zero, List.set_cons_succ]
  refine wpAnyZ_take (i := 3) (v := (.func (.func 51) #[] #[])) [12] rfl (by kernel_rfl) (by kernel_rfl) (by kernel_rfl) (by kernel_rfl) (fun _ _ _ h => h) (Or.inl ⟨by rfl, fun w' hSw => ?_⟩) hHeld ?_
  · obtain ⟨s0, s1, s2⟩ := hSw
    go_simp
  simp only [Act.put, List.setIfInBounds_toArray, List.set_cons_zero, List.set_cons_succ]
  refine wpAnyZ_take (i := 5) (v := .slice A2 T c2) [12] rfl (by kernel_rfl) (by kernel_rfl) (by kernel_rfl) (by kernel_rfl) (fun _ _ _ h => h) (Or.inl ⟨by rfl, fun w' hSw => ?_⟩) hHeld ?_
  · obtain ⟨s0, s1, s2⟩ := hSw
    go_simp
  simp only [Act.put, List.setIfInBounds_toArray, List.set_cons_zero, List.set_cons_succ]
  refine wpAnyZ_take (i := 6) (v := .int .i64 T) [12] rfl (by kernel_rfl) (by kernel_rfl) (by kernel_rfl) (by kernel_rfl) (fun _ _ _ h => h) (Or.inl ⟨by rfl, fun w' hSw => ?_⟩) hHeld ?_
  · obtain ⟨s0, s1, s2⟩ := hSw
    go_simp
  simp only [Act.put, List.setIfInBounds_toArray, List.set_cons_zero, List.set_cons_succ]
  refine wpAnyZ_take (i := 7) (v := .slice (some ⟨gs, 0, none⟩) nn nn) [12] rfl (by kernel_rfl) (by kernel_rfl) (by kernel_rfl) (by kernel_rfl) (fun _ _ _ h => h) (Or.inl ⟨by rfl, fun w' hSw => ?_⟩) hHeld ?_
  · obtain ⟨s0, s1, s2⟩ := hSw
    go_simp
  simp only [Act.put, List.setIfInBounds_toArray, List.set_cons_zero, List.set_cons_succ]
  refine wpAnyZ_take (i := 8) (v := (.func (.func 52) #[] #[.pointer (some ⟨w.heap.size, 0, none⟩)])) [12] rfl (by kernel_rfl) (by kernel_rfl) (by kernel_rfl) (by kernel_rfl) (fun _ _ _ h => h) (Or.inl ⟨by rfl, fun w' hSw => ?_⟩) hHeld ?_
  · obtain ⟨s0, s1, s2⟩ := hSw
    go_simp
  simp only [Act.put, List.setIfInBounds_toArray, List.set_cons_zero, List.set_cons_succ]
  refine wpAnyZ_two (i := 4) (k := 11) (by kernel_rfl) rfl rfl (fun K' hK => ?_) (fun K' hK => ?_)
  · go_simp
    refine (plChosen_1 (some ⟨gs, 0, none⟩) N nn nn sd (W.drew) (hsd.keep (Below.refl _ _).drew) HM hM (by omega)).mono ?_
    rintro e W1 ⟨v1, rfl, o1, b1⟩
    obtain ⟨a3, c3, rfl⟩ := o1.shape
    refine hK.out _ _ ?_ (fun hHeld => ?_)
    · exact ⟨(b1.cell (p := ⟨w.heap.size, 0, none⟩) (by first | assumption | (simp only [World.size_alloc, World.drew]; omega) | omega)).trans hHeld.1, (b1.cell (p := ⟨bi, 0, none⟩) (by first | assumption | (simp only [World.size_alloc, World.drew]; omega) | omega)).trans hHeld.2.1, (b1.cell (p := ⟨bi + 1, 0, none⟩) (by first | assumption | (simp only [World.size_alloc, World.drew]; omega) | omega)).trans hHeld.2.2⟩
    clear hK K'
    try simp only [Act.put, List.setIfInBounds_toArray, List.set_cons_zero, List.set_cons_succ]
    have hs1 := b1.size
    simp only [World.drew] at hs1
    refine wpAnyZ_two (i := 9) (k := 11) (by kernel_rfl) rfl rfl (fun K' hK => ?_) (fun K' hK => ?_)
    · go_simp
      refine (plChosen_2 (some ⟨gs, 0, none⟩) T nn nn sd (W1) N c w.heap.size A hHeld.1 (by first | assumption | (simp only [World.size_alloc, World.drew]; omega) | omega) (hsd.keep (below_of_drew b1)) HM hM (by omega)).mono ?_
      rintro e W2 ⟨v2, rfl, o2, b2⟩
      obtain ⟨a4, c4, rfl⟩ := o2.shape
      refine hK.out _ _ ?_ (fun hHeld => ?_)
      · exact ⟨(b2.cell (p := ⟨w.heap.size, 0, none⟩) (by first | assumption | (simp only [World.size_alloc, World.drew]; omega) | omega)).trans hHeld.1, (b2.cell (p := ⟨bi, 0, none⟩) (by first | assumption | (simp only [World.size_alloc, World.drew]; omega) | omega)).trans hHeld.2.1, (b2.cell (p := ⟨bi + 1, 0, none⟩) (by first | assumption | (simp only [World.size_alloc, World.drew]; omega) | omega)).trans hHeld.2.2⟩
      clear hK K'
      try simp only [Act.put, List.setIfInBounds_toArray, List.set_cons_zero, List.set_cons_succ]
      have hb12 : Below W.heap.size W W2 := below_then (below_of_drew b1) b2
      have hs1 := b1.size
      have hs2 := b2.size
      refine wpAnyZ_take (i := 10) (v := .agg #[.slice a3 (chosenTo sd 2 N).length c3, .slice a4 (chosenTo sd (2 + N) T).length c4]) [12] rfl (by kernel_rfl) (by kernel_rfl) (by kernel_rfl) (by kernel_rfl) (fun _ _ _ h => h) (Or.inl ⟨by rfl, fun w' hSw => ?_⟩) hHeld ?_
      · obtain ⟨s0, s1, s2⟩ := hSw
        go_simp
      simp only [Act.put, List.setIfInBounds_toArray, List.set_cons_zero, List.set_cons_succ]
      refine wpAnyZ_one (i := 11) (by kernel_rfl) rfl (fun K' hK => ?_)
      go_simp
      refine hK.out _ _ ?_ (fun hHeld => ?_)
      · exact ⟨(((Below.refl W2.heap.size W2).alloc (Nat.le_refl _) (.cells #[.slice none 0 0, .slice none 0 0] 30)).cell (p := ⟨w.heap.size, 0, none⟩) (by first | assumption | (simp only [World.size_alloc, World.drew]; omega) | omega)).trans hHeld.1, (((Below.refl W2.heap.size W2).alloc (Nat.le_refl _) (.cells #[.slice none 0 0, .slice none 0 0] 30)).cell (p := ⟨bi, 0, none⟩) (by first | assumption | (simp only [World.size_alloc, World.drew]; omega) | omega)).trans hHeld.2.1, (((Below.refl W2.heap.size W2).alloc (Nat.le_refl _) (.cells #[.slice none 0 0, .slice none 0 0] 30)).cell (p := ⟨bi + 1, 0, none⟩) (by first | assumption | (simp only [World.size_alloc, World.drew]; omega) | omega)).trans hHeld.2.2⟩
      clear hK K'
      try simp only [Act.put, List.setIfInBounds_toArray, List.set_cons_zero, List.set_cons_succ]
      refine wpAnyZ_last (i := 12) (by kernel_rfl) rfl (by kernel_rfl) (fun K hK => ?_)
      go_simp
      refine hK.out _ _ ?_
      clear hK K
      try simp only [Act.put, List.setIfInBounds_toArray, List.set_cons_zero, List.set_cons_succ]
      refine wpAnyZ_done (by kernel_rfl) ?_ _
      clear hHeld
      exact HK.out _ _ a3 a4 c3 c4 _ _ _ _ _ _ _ _ _ _ _ (cut_finC hb12 (o1.keep b2) o2 (by omega))
    · go_simp
      refine hK.out _ _ ?_ (fun hHeld => ?_)
      · exact ⟨(((Below.refl W1.heap.size W1).alloc (Nat.le_refl _) (.cells #[.slice none 0 0, .slice none 0 0] 30)).cell (p := ⟨w.heap.size, 0, none⟩) (by first | assumption | (simp only [World.size_alloc, World.drew]; omega) | omega)).trans hHeld.1, (((Below.refl W1.heap.size W1).alloc (Nat.le_refl _) (.cells #[.slice none 0 0, .slice none 0 0] 30)).cell (p := ⟨bi, 0, none⟩) (by first | assumption | (simp only [World.size_alloc, World.drew]; omega) | omega)).trans hHeld.2.1, (((Below.refl W1.heap.size W1).alloc (Nat.le_refl _) (.cells #[.slice none 0 0, .slice none 0 0] 30)).cell (p := ⟨bi + 1, 0, none⟩) (by first | assumption | (simp only [World.size_alloc, World.drew]; omega) | omega)).trans hHeld.2.2⟩
      clear hK K'
      try simp only [Act.put, List.setIfInBounds_toArray, List.set_cons_zero, List.set_cons_succ]
      refine wpAnyZ_one (i := 9) (by kernel_rfl) rfl (fun K' hK => ?_)
      go_simp
      refine (plChosen_2 (some ⟨gs, 0, none⟩) T nn nn sd (W1.alloc (.cells #[.slice none 0 0, .slice none 0 0] 30)) N c w.heap.size A hHeld.1 (by first | assumption | (simp only [World.size_alloc, World.drew]; omega) | omega) (hsd.keep (below_then (below_of_drew b1) ((Below.refl W1.heap.size W1).alloc (Nat.le_refl _) (.cells #[.slice none 0 0, .slice none 0 0] 30)))) HM hM (by omega)).mono ?_
      rintro e W2 ⟨v2, rfl, o2, b2⟩
      obtain ⟨a4, c4, rfl⟩ := o2.shape
      refine hK.out _ _ ?_ (fun hHeld => ?_)
      · exact ⟨(b2.cell (p := ⟨w.heap.size, 0, none⟩) (by first | assumption | (simp only [World.size_alloc, World.drew]; omega) | omega)).trans hHeld.1, (b2.cell (p := ⟨bi, 0, none⟩) (by first | assumption | (simp only [World.size_alloc, World.drew]; omega) | omega)).trans hHeld.2.1, (b2.cell (p := ⟨bi + 1, 0, none⟩) (by first | assumption | (simp only [World.size_alloc, World.drew]; omega) | omega)).trans hHeld.2.2⟩
      clear hK K'
      try simp only [Act.put, List.setIfInBounds_toArray, List.set_cons_zero, List.set_cons_succ]
      have oX := (new_cut W1).keep b2 (by simp)
      have oX0 := oX.cell (i := 0) (by omega)
      have oX1 := oX.cell (i := 1) (by omega)
      have oF0 := oX.frozen 0
      have oF1 := oX.frozen 1
      refine wpAnyZ_take (i := 10) (v := .agg #[.slice a3 (chosenTo sd 2 N).length c3, .slice a4 (chosenTo sd (2 + N) T).length c4]) [12] rfl (by kernel_rfl) (by kernel_rfl) (by kernel_rfl) (by kernel_rfl) (fun _ _ _ h => h) (Or.inl ⟨by rfl, fun w' hSw => ?_⟩) hHeld ?_
      · obtain ⟨s0, s1, s2⟩ := hSw
        go_simp
      simp only [Act.put, List.setIfInBounds_toArray, List.set_cons_zero, List.set_cons_succ]
      refine wpAnyZ_last (i := 12) (by kernel_rfl) rfl (by kernel_rfl) (fun K hK => ?_)
      go_simp
      refine hK.out _ _ ?_
      clear hK K
      try simp only [Act.put, List.setIfInBounds_toArray, List.set_cons_zero, List.set_cons_succ]
      refine wpAnyZ_done (by kernel_rfl) ?_ _
      clear hHeld
      exact HK.out _ _ a3 a4 c3 c4 _ _ _ _ _ _ _ _ _ _ _ (cut_finB (below_of_drew b1) o1 b2 o2)
  · go_simp
    refine hK.out _ _ ?_ (fun hHeld => ?_)
    · exact ⟨(((Below.refl W.heap.size W).alloc (Nat.le_refl _) (.cells #[.slice none 0 0, .slice none 0 0] 30)).cell (p := ⟨w.heap.size, 0, none⟩) (by first | assumption | (simp only [World.size_alloc, World.drew]; omega) | omega)).trans hHeld.1, (((Below.refl W.heap.size W).alloc (Nat.le_refl _) (.cells #[.slice none 0 0, .slice none 0 0] 30)).cell (p := ⟨bi, 0, none⟩) (by first | assumption | (simp only [World.size_alloc, World.drew]; omega) | omega)).trans hHeld.2.1, (((Below.refl W.heap.size W).alloc (Nat.le_refl _) (.cells #[.slice none 0 0, .slice none 0 0] 30)).cell (p := ⟨bi + 1, 0, none⟩) (by first | assumption | (simp only [World.size_alloc, World.drew]; omega) | omega)).trans hHeld.2.2⟩
    clear hK K'
    try simp only [Act.put, List.setIfInBounds_toArray, List.set_cons_zero, List.set_cons_succ]
    refine wpAnyZ_one (i := 4) (by kernel_rfl) rfl (fun K' hK => ?_)
    go_simp
    refine (plChosen_1 (some ⟨gs, 0, none⟩) N nn nn sd ((W.alloc (.cells #[.slice none 0 0, .slice none 0 0] 30)).drew) (hsd.keep ((Below.refl W.heap.size W).alloc (Nat.le_refl _) (.cells #[.slice none 0 0, .slice none 0 0] 30)).drew) HM hM (by omega)).mono ?_
    rintro e W1 ⟨v1, rfl, o1, b1⟩
    obtain ⟨a3, c3, rfl⟩ := o1.shape
    refine hK.out _ _ ?_ (fun hHeld => ?_)
    · exact ⟨(b1.cell (p := ⟨w.heap.size, 0, none⟩) (by first | assumption | (simp only [World.size_alloc, World.drew]; omega) | omega)).trans hHeld.1, (b1.cell (p := ⟨bi, 0, none⟩) (by first | assumption | (simp only [World.size_alloc, World.drew]; omega) | omega)).trans hHeld.2.1, (b1.cell (p := ⟨bi + 1, 0, none⟩) (by first | assumption | (simp only [World.size_alloc, World.drew]; omega) | omega)).trans hHeld.2.2⟩
    clear hK K'
    try simp only [Act.put, List.setIfInBounds_toArray, List.set_cons_zero, List.set_cons_succ]
    have hs1 : W.heap.size + 1 ≤ W1.heap.size := by have := b1.size; simpa [World.drew] using this
    refine wpAnyZ_one (i := 9) (by kernel_rfl) rfl (fun K' hK => ?_)
    go_simp
    refine (plChosen_2 (some ⟨gs, 0, none⟩) T nn nn sd (W1) N c w.heap.size A hHeld.1 (by first | assumption | (simp only [World.size_alloc, World.drew]; omega) | omega) (hsd.keep (below_then (((Below.refl W.heap.size W).alloc (Nat.le_refl _) (.cells #[.slice none 0 0, .slice none 0 0] 30)).drew) b1)) HM hM (by omega)).mono ?_
    rintro e W2 ⟨v2, rfl, o2, b2⟩
    obtain ⟨a4, c4, rfl⟩ := o2.shape
    refine hK.out _ _ ?_ (fun hHeld => ?_)
    · exact ⟨(b2.cell (p := ⟨w.heap.size, 0, none⟩) (by first | assumption | (simp only [World.size_alloc, World.drew]; omega) | omega)).trans hHeld.1, (b2.cell (p := ⟨bi, 0, none⟩) (by first | assumption | (simp only [World.size_alloc, World.drew]; omega) | omega)).trans hHeld.2.1, (b2.cell (p := ⟨bi + 1, 0, none⟩) (by first | assumption | (simp only [World.size_alloc, World.drew]; omega) | omega)).trans hHeld.2.2⟩
    clear hK K'
    try simp only [Act.put, List.setIfInBounds_toArray, List.set_cons_zero, List.set_cons_succ]
    have oX := ((new_cut W).drew.keep b1 (by simp [World.drew])).keep b2 (by omega)
    have oX0 := oX.cell (i := 0) (by omega)
    have oX1 := oX.cell (i := 1) (by omega)
    have oF0 := oX.frozen 0
    have oF1 := oX.frozen 1
    refine wpAnyZ_take (i := 10) (v := .agg #[.slice a3 (chosenTo sd 2 N).length c3, .slice a4 (chosenTo sd (2 + N) T).length c4]) [12] rfl (by kernel_rfl) (by kernel_rfl) (by kernel_rfl) (by kernel_rfl) (fun _ _ _ h => h) (Or.inl ⟨by rfl, fun w' hSw => ?_⟩) hHeld ?_
    · obtain ⟨s0, s1, s2⟩ := hSw
      go_simp
    simp only [Act.put, List.setIfInBounds_toArray, List.set_cons_zero, List.set_cons_succ]
    refine wpAnyZ_last (i := 12) (by kernel_rfl) rfl (by kernel_rfl) (fun K hK => ?_)
    go_simp
    refine hK.out _ _ ?_
    clear hK K
    try simp only [Act.put, List.setIfInBounds_toArray, List.set_cons_zero, List.set_cons_succ]
    refine wpAnyZ_done (by kernel_rfl) ?_ _
    clear hHeld
    exact HK.out _ _ a3 a4 c3 c4 _ _ _ _ _ _ _ _ _ _ _ (cut_finA b1 o1 b2 o2)
end Go.Proofs.Ytgfcnkfmgpakkaa
/-
A round of the third loop of plan.Schedule: the edges from one job to its slots.
-/
namespace Go.Proofs.Ytgfcnkfmgpakkaa
open Go.RowKit Go.Shelf
attribute [local go_sem] Oper.semAt_some
set_option linter.unusedVariables false
set_option linter.unusedSimpArgs false
noncomputable def scBody3 : Code := ((Try.f23.body.bind (loopOf 21)).getD .skip)
def edS (k N : Nat) (r : Int) (t : Nat) : GEdge := ⟨((2 + k : Nat) : Int), ((2 + N + t : Nat) : Int), r⟩
theorem edS_all {js : List GJob} {k : Nat} (N m : Nat) : (slotsTo (jAt js k) m).map (edS k N (jAt js k).rate) = mk m (edR js N k) := by
  induction m with
  | zero => rfl
  | succ m ih =>
    unfold slotsTo at *
    rw [mk_succ, mk_succ, List.map_append, ih]
    simp [edS, edR]
set_option maxRecDepth 100000 in
/-- What holds between two slots. -/
def ScMid (w : World) (A : Option Addr) (c N bi nn k bx m0 B : Nat) (r : Int) (es : List GEdge) (ds : List Deferred) (pre : List Nat) (W : World) : Prop :=
  ∃ v, SCm w W A c N bi nn v (es ++ pre.map (edS k N r)) ∧ (∀ q, v.ownBlock = some q → q < bx ∨ m0 ≤ q) ∧ W.cell? ⟨bx, 0, none⟩ = some (.int .i64 k) ∧ W.cell? ⟨bx + 1, 3, none⟩ = some (.int .i64 r) ∧ MarksLt B m0 W ds ∧ m0 ≤ W.heap.size
theorem ScMid.nc {w : World} {A : Option Addr} {c N bi nn k bx m0 B : Nat} {r : Int} {es : List GEdge} {ds : List Deferred} {pre : List Nat} {W W' : World} (h : ScMid w A c N bi nn k bx m0 B r es ds pre W) (hn : Nc m0 W W') (hw : w.heap.size ≤ m0) : ScMid w A c N bi nn k bx m0 B r es ds pre W' := by
  obtain ⟨v, m, hv, c0, c1, mk, hs⟩ := h
  refine ⟨v, m.nc hn hw, hv, cell_nc c0 hn, cell_nc c1 hn, mk.nc hn, ?_⟩
  obtain ⟨row, hg, _⟩ := hn
  exact Nat.le_trans hs hg.size
set_option maxRecDepth 100000 in
set_option maxHeartbeats 8000000 in
theorem sc_round (w W : World) (A2 : Option Addr) (bj oj c N c2 T bi nn B k : Nat) (js : List GJob) (sup : List Int) (need : Int) (v : Value) (es : List GEdge) (ds : List Deferred) (R : Act → World → Prop) (Q0 : Exit → Act → World → Prop)
  (HR : Hid (Rd 5 encJ w (some ⟨bj, oj, none⟩) js)) (HN : Hid (js.length = N)) (HOK : Hid (okP js sup = true)) (HN2 : Hid (sup.length = T)) (hk : k < N) (hel : es.length ≤ 100000)
  (HM : Hid (SCm w W (some ⟨bj, oj, none⟩) c N bi nn v es)) (hmk : Marks B W ds) (hB : w.heap.size ≤ B) (hBW : B ≤ W.heap.size)
  (u0 u3 u4 u6 u13 u14 u15 u16 u17 u18 u19 u20 u21 u22 u23 u24 u25 u26 u27 u28 u29 u30 u31 u32 u33 u34 u35 u36 u37 u38 u39 u40 u41 u42 u43 u44 u45 u46 u47 u48 u49 u50 u51 u52 u53 u54 u55 u56 u57 u58 u59 u60 u61 u62 u63 u64 u65 u66 u67 u68 u69 u70 u71 u72 u73 u74 u75 u76 u77 u78 u79 u80 u81 u82 u83 u84 u88 u89 u90 u91 u92 u93 u94 u95 u96 u97 u98 u99 u100 u101 u102 u103 u104 u105 u106 u107 u108 u109 u110 u111 u112 u113 u114 u115 u116 u117 u118 u119 u120 u121 u122 u123 u124 u125 u126 u127 u128 u129 u130 u131 u132 u133 u134 u135 u136 u137 u138 u139 u140 u141 u142 u143 u144 u145 u146 u147 u148 u149 u150 u151 u152 u153 u154 u155 u156 u157 u158 u159 u160 u161 u162 u163 u164 u165 u166 u167 u168 u169 u170 u171 u172 : Value)
  (HK : Hid (∀ (W' : World) (D : Nat) (v' : Value) (u0 u3 u4 u6 u13 u14 u15 u16 u17 u18 u19 u20 u21 u22 u23 u24 u25 u26 u27 u28 u29 u30 u31 u32 u33 u34 u35 u36 u37 u38 u39 u40 u41 u42 u43 u44 u45 u46 u47 u48 u49 u50 u51 u52 u53 u54 u55 u56 u57 u58 u59 u60 u61 u62 u63 u64 u65 u66 u67 u68 u69 u70 u71 u72 u73 u74 u75 u76 u77 u78 u79 u80 u81 u82 u83 u84 u88 u89 u90 u91 u92 u93 u94 u95 u96 u97 u98 u99 u100 u101 u102 u103 u104 u105 u106 u107 u108 u109 u110 u111 u112 u113 u114 u115 u116 u117 u118 u119 u120 u121 u122 u123 u124 u125 u126 u127 u128 u129 u130 u131 u132 u133 u134 u135 u136 u137 u138 u139 u140 u141 u142 u143 u144 u145 u146 u147 u148 u149 u150 u151 u152 u153 u154 u155 u156 u157 u158 u159 u160 u161 u162 u163 u164 u165 u166 u167 u168 u169 u170 u171 u172 : Value), SCm w W' (some ⟨bj, oj, none⟩) c N bi nn v' (es ++ mk (lenJ (jAt js k)) (edR js N k)) → Marks B W' ({ target := .collected D, args := #[] } :: ds) → B ≤ W'.heap.size → R ⟨List.toArray (u0 :: (.slice A2 T c2) :: (.pointer (some ⟨w.heap.size, 0, none⟩)) :: u3 :: u4 :: (.pointer (some ⟨w.heap.size + 1, 0, none⟩)) :: u6 :: (.int .i64 0) :: (.int .i64 1) :: (.pointer (some ⟨bi, 0, none⟩)) :: (.pointer (some ⟨bi + 1, 0, none⟩)) :: (.pointer (some ⟨bi + 2, 0, none⟩)) :: (.int .i64 need) :: u13 :: u14 :: u15 :: u16 :: u17 :: u18 :: u19 :: u20 :: u21 :: u22 :: u23 :: u24 :: u25 :: u26 :: u27 :: u28 :: u29 :: u30 :: u31 :: u32 :: u33 :: u34 :: u35 :: u36 :: u37 :: u38 :: u39 :: u40 :: u41 :: u42 :: u43 :: u44 :: u45 :: u46 :: u47 :: u48 :: u49 :: u50 :: u51 :: u52 :: u53 :: u54 :: u55 :: u56 :: u57 :: u58 :: u59 :: u60 :: u61 :: u62 :: u63 :: u64 :: u65 :: u66 :: u67 :: u68 :: u69 :: u70 :: u71 :: u72 :: u73 :: u74 :: u75 :: u76 :: u77 :: u78 :: u79 :: u80 :: u81 :: u82 :: u83 :: u84 :: (.slice (some ⟨bj, oj, none⟩) N c) :: (.int .i64 N) :: (.int .i64 ((k : Int) + 1)) :: u88 :: u89 :: u90 :: u91 :: u92 :: u93 :: u94 :: u95 :: u96 :: u97 :: u98 :: u99 :: u100 :: u101 :: u102 :: u103 :: u104 :: u105 :: u106 :: u107 :: u108 :: u109 :: u110 :: u111 :: u112 :: u113 :: u114 :: u115 :: u116 :: u117 :: u118 :: u119 :: u120 :: u121 :: u122 :: u123 :: u124 :: u125 :: u126 :: u127 :: u128 :: u129 :: u130 :: u131 :: u132 :: u133 :: u134 :: u135 :: u136 :: u137 :: u138 :: u139 :: u140 :: u141 :: u142 :: u143 :: u144 :: u145 :: u146 :: u147 :: u148 :: u149 :: u150 :: u151 :: u152 :: u153 :: u154 :: u155 :: u156 :: u157 :: u158 :: u159 :: u160 :: u161 :: u162 :: u163 :: u164 :: u165 :: u166 :: u167 :: u168 :: u169 :: u170 :: u171 :: u172 :: []), { target := .collected D, args := #[] } :: ds⟩ W')) :
  Code.wp Try.prog scBody3 (Exit.then R Q0) ⟨List.toArray (u0 :: (.slice A2 T c2) :: (.pointer (some ⟨w.heap.size, 0, none⟩)) :: u3 :: u4 :: (.pointer (some ⟨w.heap.size + 1, 0, none⟩)) :: u6 :: (.int .i64 0) :: (.int .i64 1) :: (.pointer (some ⟨bi, 0, none⟩)) :: (.pointer (some ⟨bi + 1, 0, none⟩)) :: (.pointer (some ⟨bi + 2, 0, none⟩)) :: (.int .i64 need) :: u13 :: u14 :: u15 :: u16 :: u17 :: u18 :: u19 :: u20 :: u21 :: u22 :: u23 :: u24 :: u25 :: u26 :: u27 :: u28 :: u29 :: u30 :: u31 :: u32 :: u33 :: u34 :: u35 :: u36 :: u37 :: u38 :: u39 :: u40 :: u41 :: u42 :: u43 :: u44 :: u45 :: u46 :: u47 :: u48 :: u49 :: u50 :: u51 :: u52 :: u53 :: u54 :: u55 :: u56 :: u57 :: u58 :: u59 :: u60 :: u61 :: u62 :: u63 :: u64 :: u65 :: u66 :: u67 :: u68 :: u69 :: u70 :: u71 :: u72 :: u73 :: u74 :: u75 :: u76 :: u77 :: u78 :: u79 :: u80 :: u81 :: u82 :: u83 :: u84 :: (.slice (some ⟨bj, oj, none⟩) N c) :: (.int .i64 N) :: (.int .i64 k) :: u88 :: u89 :: u90 :: u91 :: u92 :: u93 :: u94 :: u95 :: u96 :: u97 :: u98 :: u99 :: u100 :: u101 :: u102 :: u103 :: u104 :: u105 :: u106 :: u107 :: u108 :: u109 :: u110 :: u111 :: u112 :: u113 :: u114 :: u115 :: u116 :: u117 :: u118 :: u119 :: u120 :: u121 :: u122 :: u123 :: u124 :: u125 :: u126 :: u127 :: u128 :: u129 :: u130 :: u131 :: u132 :: u133 :: u134 :: u135 :: u136 :: u137 :: u138 :: u139 :: u140 :: u141 :: u142 :: u143 :: u144 :: u145 :: u146 :: u147 :: u148 :: u149 :: u150 :: u151 :: u152 :: u153 :: u154 :: u155 :: u156 :: u157 :: u158 :: u159 :: u160 :: u161 :: u162 :: u163 :: u164 :: u165 :: u166 :: u167 :: u168 :: u169 :: u170 :: u171 :: u172 :: []), ds⟩ W := by
  have okj := okP_job HOK.out (i := k) (by rw [HN.out]; exact hk)
  obtain ⟨p1, p2, p3, p4, p5, p6, p7, _, _⟩ := okj
  have hT : T ≤ 24 := by have := (okP_iff.1 HOK.out).1.2; rw [HN2.out] at this; exact this
  have hN : N ≤ 12 := by have := (okP_iff.1 HOK.out).1.1; rw [HN.out] at this; exact this
  rw [HN2.out] at p3
  obtain ⟨b, off, j, hA, hbl, hj, g0, g1, g2, g3, g4⟩ := rdJ_at (HR.out.keep HM.out.bel) (k := k) (by rw [HN.out]; exact hk)
  injection hA with hA
  injection hA with ea eb
  subst ea eb
  have ej : jAt js k = j := by unfold jAt; rw [hj]; rfl
  have HEA := Lib.hid (edS_all (js := js) (k := k) N (lenJ (jAt js k)))
  rw [ej] at p1 p2 p3 p4 p5 p6 p7 HK HEA
  have Hj := Lib.hid ej
  clear hj ej
  have hkz : (k : Int) < (N : Int) := by omega
  have lbj := World.block_lt_of_cell? W _ g0
  dsimp only at lbj
  conv => arg 2; whnf
  go_wp2_with fail
  have hps := plSlots_any j ((W.alloc (.cells #[.int .i64 k] 3)).alloc (.cells #[.int .i64 j.frm, .int .i64 j.till, .int .i64 j.energy, .int .i64 j.rate, .int .i64 j.rank] 25))
  rw [World.size_alloc, World.size_alloc] at hps
  refine hps.mono ?_
  clear hps
  rintro e w' ⟨rfl, rfl⟩
  obtain ⟨bx, hbx⟩ : ∃ bx, bx = W.heap.size := ⟨_, rfl⟩
  obtain ⟨W3, hW3⟩ : ∃ W3, W3 = ((W.alloc (.cells #[.int .i64 k] 3)).alloc (.cells #[.int .i64 j.frm, .int .i64 j.till, .int .i64 j.energy, .int .i64 j.rate, .int .i64 j.rank] 25)).alloc (.cells #[.int .i64 j.frm, .int .i64 j.till, .int .i64 j.energy, .int .i64 j.rate, .int .i64 j.rank] 25) := ⟨_, rfl⟩
  have bw3 : Below W.heap.size W W3 := by rw [hW3]; exact (((Below.refl _ W).alloc (Nat.le_refl _) _).alloc (by simp) _).alloc (by simp; omega) _
  have z0 : W3.cell? ⟨bx + 2, 0, none⟩ = some (.int .i64 j.frm) := by rw [hW3, hbx]; go_simp
  have z1 : W3.cell? ⟨bx + 2, 1, none⟩ = some (.int .i64 j.till) := by rw [hW3, hbx]; go_simp
  have cx0 : W3.cell? ⟨bx, 0, none⟩ = some (.int .i64 k) := by rw [hW3, hbx]; go_simp
  have cx1 : W3.cell? ⟨bx + 1, 3, none⟩ = some (.int .i64 j.rate) := by rw [hW3, hbx]; go_simp
  have hs3 : W3.heap.size = bx + 3 := by rw [hW3, hbx]; simp
  rw [← hW3, ← hbx]
  have hmk0 := hmk
  have HM3 := Lib.hid (HM.out.keep bw3)
  have mk3 := hmk.below bw3
  have hB3 : B ≤ W3.heap.size := by omega
  have Hv : Hid (∀ q, v.ownBlock = some q → q < bx ∨ W3.heap.size ≤ q) := Lib.hid (fun q hq => .inl (by rw [hbx]; exact (HM.out.own_ge hq).2))
  have Hs3 := Lib.hid hs3
  have hbib : bi + 2 < bx := by rw [hbx]; exact HM.out.size
  have hwb := HM.out.bb
  clear hs3 hW3 HM hmk hmk0 g0 g1 g2 g3 g4 bw3 hbx hbl lbj hBW
  go_wp2_with fail
  have hw3 : w.heap.size ≤ W3.heap.size := HM3.out.bel.size
  refine range_slots2 (j := j) p1 p2 (by omega) (g := .tmp 93) (p := 94) 19 (B := w.heap.size) (b1 := bx + 2) rfl z0 z1 hw3 (fun pre W' => ScMid w (some ⟨bj, oj, none⟩) c N bi nn k bx W3.heap.size B j.rate es ds (pre.map (fun (y : SlotAt j) => y.1)) W') ?hI ?h0 ?assign ?body ?done
  case hI => exact fun pre W' W'' h hn => h.nc hn hw3
  case h0 =>
    refine ⟨v, by simpa using HM3.out, Hv.out, cx0, cx1, ⟨mk3, ?_⟩, Nat.le_refl _⟩
    obtain ⟨Ds, e, _, hD⟩ := mk3
    intro x hx
    rw [e] at hx
    obtain ⟨D, hm, rfl⟩ := List.mem_map.1 hx
    exact ⟨D, rfl, (hD D hm).2.1⟩
  case assign =>
    intro l x W1 K hK
    gi_wp2
    exact hK
  case body =>
    rintro l pre ⟨t, ht⟩ W1 ⟨v, m, hv, x0, x1, mk, hs⟩ hlen
    simp only [List.setIfInBounds_toArray, List.set_cons_zero, List.set_cons_succ]
    have hin := ht
    unfold inJ at hin
    have htT : t < T := by omega
    have hl24 : lenJ j ≤ 24 := by unfold lenJ; omega
    have c9 := m.k9
    have c10 := m.k10
    have cg : W1.cell? ⟨bi + 2, 1, none⟩ = some v := by have := m.og.cell (i := 1) (by omega); simpa [gcell] using this
    obtain ⟨ap, a5, l5, c5, w1, av, aw, e1, e2, Hfar, HM5, HM6, Hob⟩ := m.push ((2 + k : Nat) : Int) ((2 + N + t : Nat) : Int) j.rate (by simp; omega)
    have hz := Hs3.out
    have hvx : ∀ q, bx ≤ q → q < bx + 3 → v.ownBlock ≠ some q := fun q h1 h2 e => by have := hv q e; omega
    have hvs : ∀ q, q < bi + 3 → v.ownBlock ≠ some q := fun q h1 e => by have := (m.own_ge e).1; omega
    have d9 := Hfar.out _ _ c9 (hvs _ (by dsimp only; omega))
    have d10 := Hfar.out _ _ c10 (hvs _ (by dsimp only; omega))
    have dx0 := Hfar.out _ _ x0 (hvx _ (by dsimp only; omega) (by dsimp only; omega))
    have dx1 := Hfar.out _ _ x1 (hvx _ (by dsimp only; omega) (by dsimp only; omega))
    have l9 := World.block_lt_of_cell? W1 _ c9
    have l10 := World.block_lt_of_cell? W1 _ c10
    have lg := World.block_lt_of_cell? W1 _ cg
    have lx0 := World.block_lt_of_cell? W1 _ x0
    have lx1 := World.block_lt_of_cell? W1 _ x1
    dsimp only at l9 l10 lg lx0 lx1
    have k0 := m.k0
    have HC1 : Hid (∀ W', Calls Try.prog 51 #[.int .i64 k] W' fun e w' => e = .returned (.int .i64 ((2 + k : Nat) : Int)) ∧ w' = W') := Lib.hid (fun W' => plSched1_any k W' (by omega))
    have HC2 : Hid (Calls Try.prog 52 #[.int .i64 t, .pointer (some ⟨w.heap.size, 0, none⟩)] W1.drew fun e w' => e = .returned (.int .i64 ((2 + N + t : Nat) : Int)) ∧ w' = W1.drew) := Lib.hid (plSched2_any t w.heap.size 0 N c _ W1.drew (by omega) (by omega) k0)
    have HCE := Lib.hid (fun (q : Nat) (hq : v.ownBlock = some q ∨ q = bi + 2) (o : Obj) (ho : W1.heap[q]? = some o) => m.cells hq ho)
    have Hmk := Lib.hid mk
    have Hv' := Lib.hid hv
    have HM7 : Hid (Below w.heap.size W1 (w1.setCell ⟨bi + 2, 1, none⟩ (.slice a5 l5 c5))) := Lib.hid (HM6.out.below m.bel.size (fun q _ hq => by
      rcases hq with hq | hq
      · have := (m.own_ge hq).1; omega
      · omega))
    clear m mk hv Hfar k0
    generalize hn1 : 2 + k = n1 at *
    generalize hn2 : 2 + N + t = n2 at *
    have Hn := Lib.hid (And.intro hn1 hn2)
    clear hn1 hn2
    gi_wp2
    refine region_round_z (S := fun w' => w'.cell? ⟨bi + 2, 1, none⟩ = some v ∧ w'.cell? ⟨bi, 0, none⟩ = some (.func (.func 51) #[] #[]) ∧ w'.cell? ⟨bi + 1, 0, none⟩ = some (.func (.func 52) #[] #[.pointer (some ⟨w.heap.size, 0, none⟩)]) ∧ w'.cell? ⟨bx, 0, none⟩ = some (.int .i64 k) ∧ w'.cell? ⟨bx + 1, 3, none⟩ = some (.int .i64 j.rate)) [14] (by kernel_rfl) (by kernel_rfl) ⟨cg, c9, c10, x0, x1⟩ (fun hHeld => ?_)
    refine wpAnyZ_take (i := 0) (v := .pointer (some ⟨bi + 2, 1, none⟩)) [1, 12, 14] rfl (by kernel_rfl) (by kernel_rfl) (by kernel_rfl) (by kernel_rfl) (fun _ _ _ h => absurd h.1 (by simp)) (Or.inl ⟨by rfl, fun w' hSw => ?_⟩) hHeld ?_
    · obtain ⟨s0, s1, s2, s3, s4⟩ := hSw
      go_simp
    simp only [Act.put, List.setIfInBounds_toArray, List.set_cons_zero, List.set_cons_succ]
    refine wpAnyZ_take (i := 1) (v := v) [12, 14] rfl (by kernel_rfl) (by kernel_rfl) (by kernel_rfl) (by kernel_rfl) (fun _ _ _ h => absurd h.1 (by simp)) (Or.inl ⟨by rfl, fun w' hSw => ?_⟩) hHeld ?_
    · obtain ⟨s0, s1, s2, s3, s4⟩ := hSw
      go_simp
    simp only [Act.put, List.setIfInBounds_toArray, List.set_cons_zero, List.set_cons_succ]
    refine wpAnyZ_take (i := 2) (v := (.func (.func 51) #[] #[])) [4, 10, 11, 12, 14] rfl (by kernel_rfl) (by kernel_rfl) (by kernel_rfl) (by kernel_rfl) (fun _ _ _ h => absurd h.1 (by simp)) (Or.inl ⟨by rfl, fun w' hSw => ?_⟩) hHeld ?_
    · obtain ⟨s0, s1, s2, s3, s4⟩ := hSw
      go_simp
    simp only [Act.put, List.setIfInBounds_toArray, List.set_cons_zero, List.set_cons_succ]
    refine wpAnyZ_take (i := 3) (v := .int .i64 k) [4, 10, 11, 12, 14] rfl (by kernel_rfl) (by kernel_rfl) (by kernel_rfl) (by kernel_rfl) (fun _ _ _ h => absurd h.1 (by simp)) (Or.inl ⟨by rfl, fun w' hSw => ?_⟩) hHeld ?_
    · obtain ⟨s0, s1, s2, s3, s4⟩ := hSw
      go_simp
    simp only [Act.put, List.setIfInBounds_toArray, List.set_cons_zero, List.set_cons_succ]
    refine wpAnyZ_take (i := 5) (v := (.func (.func 52) #[] #[.pointer (some ⟨w.heap.size, 0, none⟩)])) [7, 10, 11, 12, 14] rfl (by kernel_rfl) (by kernel_rfl) (by kernel_rfl) (by kernel_rfl) (fun _ _ _ h => absurd h.1 (by simp)) (Or.inl ⟨by rfl, fun w' hSw => ?_⟩) hHeld ?_
    · obtain ⟨s0, s1, s2, s3, s4⟩ := hSw
      go_simp
    simp only [Act.put, List.setIfInBounds_toArray, List.set_cons_zero, List.set_cons_succ]
    refine wpAnyZ_take (i := 6) (v := .int .i64 t) [7, 10, 11, 12, 14] rfl (by kernel_rfl) (by kernel_rfl) (by kernel_rfl) (by kernel_rfl) (fun _ _ _ h => absurd h.1 (by simp)) (Or.inl ⟨by rfl, fun w' hSw => ?_⟩) hHeld ?_
    · obtain ⟨s0, s1, s2, s3, s4⟩ := hSw
      go_simp
    simp only [Act.put, List.setIfInBounds_toArray, List.set_cons_zero, List.set_cons_succ]
    refine wpAnyZ_take (i := 8) (v := .pointer (some ⟨bx + 1, 3, none⟩)) [9, 10, 11, 12, 14] rfl (by kernel_rfl) (by kernel_rfl) (by kernel_rfl) (by kernel_rfl) (fun _ _ _ h => absurd h.1 (by simp)) (Or.inl ⟨by rfl, fun w' hSw => ?_⟩) hHeld ?_
    · obtain ⟨s0, s1, s2, s3, s4⟩ := hSw
      go_simp
    simp only [Act.put, List.setIfInBounds_toArray, List.set_cons_zero, List.set_cons_succ]
    refine wpAnyZ_take (i := 9) (v := .int .i64 j.rate) [10, 11, 12, 14] rfl (by kernel_rfl) (by kernel_rfl) (by kernel_rfl) (by kernel_rfl) (fun _ _ _ h => absurd h.1 (by simp)) (Or.inl ⟨by rfl, fun w' hSw => ?_⟩) hHeld ?_
    · obtain ⟨s0, s1, s2, s3, s4⟩ := hSw
      go_simp
    simp only [Act.put, List.setIfInBounds_toArray, List.set_cons_zero, List.set_cons_succ]
    refine wpAnyZ_one (i := 4) (by kernel_rfl) rfl (fun K hK => ?_)
    go_simp
    refine (HC1.out _).mono ?_
    rintro e w' ⟨rfl, rfl⟩
    refine hK.out _ _ ?_ (fun hHeld => ?_)
    · exact hHeld
    clear hK K
    try simp only [Act.put, List.setIfInBounds_toArray, List.set_cons_zero, List.set_cons_succ]
    refine wpAnyZ_one (i := 7) (by kernel_rfl) rfl (fun K hK => ?_)
    go_simp
    refine HC2.out.mono ?_
    rintro e w' ⟨rfl, rfl⟩
    refine hK.out _ _ ?_ (fun hHeld => ?_)
    · exact hHeld
    clear hK K
    try simp only [Act.put, List.setIfInBounds_toArray, List.set_cons_zero, List.set_cons_succ]
    refine wpAnyZ_one (i := 10) (by kernel_rfl) rfl (fun K hK => ?_)
    go_simp
    refine hK.out _ _ ?_ (fun hHeld => ?_)
    · exact hHeld
    clear hK K
    try simp only [Act.put, List.setIfInBounds_toArray, List.set_cons_zero, List.set_cons_succ]
    refine wpAnyZ_one (i := 11) (by kernel_rfl) rfl (fun K hK => ?_)
    go_simp
    refine hK.out _ _ ?_ (fun hHeld => ?_)
    · refine ⟨?_, ?_, ?_, ?_, ?_⟩ <;> go_simp
    clear hK K
    try simp only [Act.put, List.setIfInBounds_toArray, List.set_cons_zero, List.set_cons_succ]
    refine wpAnyZ_one (i := 12) (by kernel_rfl) rfl (fun K hK => ?_)
    rw [if_pos (by rfl)]
    refine append_go rfl rfl ap av aw ?_
    refine hK.out _ _ ?_ (fun hHeld => ?_)
    · exact ⟨e1, d9, d10, dx0, dx1⟩
    clear hK K
    try simp only [Act.put, List.setIfInBounds_toArray, List.set_cons_zero, List.set_cons_succ]
    refine wpAnyZ_take (i := 13) (v := .pointer (some ⟨bi + 2, 1, none⟩)) [14] rfl (by kernel_rfl) (by kernel_rfl) (by kernel_rfl) (by kernel_rfl) (fun _ _ _ h => absurd h.1 (by simp)) (Or.inl ⟨by rfl, fun w' hSw => ?_⟩) hHeld ?_
    · obtain ⟨s0, s1, s2, s3, s4⟩ := hSw
      go_simp
    simp only [Act.put, List.setIfInBounds_toArray, List.set_cons_zero, List.set_cons_succ]
    refine wpAnyZ_last (i := 14) (by kernel_rfl) rfl (by kernel_rfl) (fun K hK => ?_)
    go_simp
    refine hK.out _ _ ?_
    clear hK K
    try simp only [Act.put, List.setIfInBounds_toArray, List.set_cons_zero, List.set_cons_succ]
    refine wpAnyZ_done (by kernel_rfl) ⟨rfl, ?_⟩ _
    clear hHeld
    have hM6 := HM6.out
    have hkf : ∀ B', KeepsFrom B' W1 (w1.setCell ⟨bi + 2, 1, none⟩ (.slice a5 l5 c5)) := fun B' => keepsFrom_mod hM6 _ (fun q hq o ho => HCE.out q hq o ho)
    have nh : ∀ q, bx ≤ q → q < bx + 3 → ¬ (v.ownBlock = some q ∨ q = bi + 2) := fun q h1 h2 e => by
      rcases e with e | e
      · exact hvx q h1 h2 e
      · omega
    refine And.intro (a := Exit.normal = Exit.normal) rfl ⟨hkf _, ⟨HM7.out, hM6.block _ (by omega) (nh _ (by omega) (by omega))⟩, .slice a5 l5 c5, ?_, ?_, (hM6.cell (p := ⟨bx, 0, none⟩) lx0 (nh _ (by dsimp only; omega) (by dsimp only; omega))).trans x0, (hM6.cell (p := ⟨bx + 1, 3, none⟩) lx1 (nh _ (by dsimp only; omega) (by dsimp only; omega))).trans x1, ⟨Hmk.out.1.keeps (hkf _), Hmk.out.2⟩, Nat.le_trans hs hM6.size⟩
    · rw [List.map_append, List.map_append, ← List.append_assoc]
      have e : ([(⟨t, ht⟩ : SlotAt j)].map (fun (y : SlotAt j) => y.1)).map (edS k N j.rate) = [⟨(n1 : Int), (n2 : Int), j.rate⟩] := by
        simp [edS, ← Hn.out.1, ← Hn.out.2]
      rw [e]
      exact HM5.out
    · intro q hq
      rcases Hob.out with e | e
      · rw [e] at hq; exact Hv'.out q hq
      · rw [e] at hq
        injection hq with hq
        right; omega
  case done =>
    intro D ys W1 hD hS hm hdf
    obtain ⟨v', m, _, x0, x1, mk, hs⟩ := hm
    rw [hS, HEA.out] at m
    have Hm := Lib.hid m
    have Hmk : Hid (Marks B W1 ({ target := .collected D, args := #[] } :: ds)) := Lib.hid (marks_more mk hD hB3 hdf)
    have hBW1 : B ≤ W1.heap.size := Nat.le_trans hB3 hs
    clear m mk
    go_wp2_with fail
    exact HK.out W1 D v' _ _ _ _ _ _ _ _ _ _ _ _ _ _ _ _ _ _ _ _ _ _ _ _ _ _ _ _ _ _ _ _ _ _ _ _ _ _ _ _ _ _ _ _ _ _ _ _ _ _ _ _ _ _ _ _ _ _ _ _ _ _ _ _ _ _ _ _ _ _ _ _ _ _ _ _ _ _ _ _ _ _ _ _ _ _ _ _ _ _ _ _ _ _ _ _ _ _ _ _ _ _ _ _ _ _ _ _ _ _ _ _ _ _ _ _ _ _ _ _ _ _ _ _ _ _ _ _ _ _ _ _ _ _ _ _ _ _ _ _ _ _ _ _ _ _ _ _ _ _ _ _ _ _ _ _ _ _ _ _ _ Hm.out Hmk.out hBW1
end Go.Proofs.Ytgfcnkfmgpakkaa
/-
A round of the fourth loop of plan.Schedule: the plan of one job.
-/
namespace Go.Proofs.Ytgfcnkfmgpakkaa
open Go.RowKit Go.Shelf
attribute [local go_sem] Oper.semAt_some
set_option linter.unusedVariables false
set_option linter.unusedSimpArgs false
noncomputable def scBody4 : Code := ((Try.f23.body.bind (loopOf 36)).getD .skip)
/-- What holds between two slots. -/
def SpMid (w : World) (A : Option Addr) (c N T bp gt ga gF M k bx m0 B : Nat) (fl : List Int) (h : Nat → Nat → Int) (rest : Nat) (ds : List Deferred) (pre : List Nat) (W : World) : Prop :=
  SPm w W A c N T bp gt ga gF M fl (fun i t => if i = k then laid (fun q => fAt fl (M - rest + q)) pre t else h i t) (rest - pre.length) ∧ W.cell? ⟨bx, 0, none⟩ = some (.int .i64 k) ∧ MarksLt B m0 W ds ∧ m0 ≤ W.heap.size
theorem SpMid.nc {w : World} {A : Option Addr} {c N T bp gt ga gF M k bx m0 B : Nat} {fl : List Int} {h : Nat → Nat → Int} {rest : Nat} {ds : List Deferred} {pre : List Nat} {W W' : World} (x : SpMid w A c N T bp gt ga gF M k bx m0 B fl h rest ds pre W) (hn : Nc m0 W W') (hw : w.heap.size ≤ m0) : SpMid w A c N T bp gt ga gF M k bx m0 B fl h rest ds pre W' := by
  obtain ⟨m, c0, mk, hs⟩ := x
  refine ⟨m.nc hn hw, cell_nc c0 hn, mk.nc hn, ?_⟩
  obtain ⟨row, hg, _⟩ := hn
  exact Nat.le_trans hs hg.size
set_option maxRecDepth 100000 in
set_option maxHeartbeats 8000000 in
theorem sp_round (w W : World) (bj oj c N T bp gt ga gF M B k rest : Nat) (js : List GJob) (sup : List Int) (fl : List Int) (h : Nat → Nat → Int) (ds : List Deferred) (R : Act → World → Prop) (Q0 : Exit → Act → World → Prop)
  (HR : Hid (Rd 5 encJ w (some ⟨bj, oj, none⟩) js)) (HN : Hid (js.length = N)) (HOK : Hid (okP js sup = true)) (HN2 : Hid (sup.length = T)) (hk : k < N) (Hz : Hid (∀ t, h k t = 0)) (Hrest : Hid (lenJ (jAt js k) ≤ rest)) (hrM : rest ≤ M) (hM : M ≤ 1000) (HM0 : Hid (fl.length = M))
  (HM : Hid (SPm w W (some ⟨bj, oj, none⟩) c N T bp gt ga gF M fl h rest)) (hmk : Marks B W ds) (hB : w.heap.size ≤ B) (hBW : B ≤ W.heap.size)
  (u0 u1 u3 u4 u6 u7 u8 u9 u10 u11 u12 u13 u14 u15 u16 u17 u18 u19 u20 u21 u22 u23 u24 u27 u28 u29 u30 u31 u32 u33 u34 u35 u36 u37 u38 u39 u40 u41 u42 u43 u44 u45 u46 u47 u48 u49 u50 u51 u52 u53 u54 u55 u56 u57 u58 u59 u60 u61 u62 u63 u64 u65 u66 u67 u68 u69 u70 u71 u72 u73 u74 u75 u76 u77 u78 u79 u80 u81 u82 u83 u84 u85 u86 u87 u88 u89 u90 u91 u92 u93 u94 u95 u96 u97 u98 u99 u100 u101 u102 u103 u104 u105 u106 u107 u108 u109 u110 u111 u112 u113 u114 u115 u116 u117 u118 u119 u120 u121 u122 u123 u124 u125 u126 u127 u128 u129 u130 u131 u132 u133 u134 u135 u136 u137 u138 u139 u140 u141 u142 u143 u144 u145 u146 u147 u148 u152 u153 u154 u155 u156 u157 u158 u159 u160 u161 u162 u163 u164 u165 u166 u167 u168 u169 u170 u171 u172 : Value)
  (HK : Hid (∀ (W' : World) (D : Nat) (u0 u1 u3 u4 u6 u7 u8 u9 u10 u11 u12 u13 u14 u15 u16 u17 u18 u19 u20 u21 u22 u23 u24 u27 u28 u29 u30 u31 u32 u33 u34 u35 u36 u37 u38 u39 u40 u41 u42 u43 u44 u45 u46 u47 u48 u49 u50 u51 u52 u53 u54 u55 u56 u57 u58 u59 u60 u61 u62 u63 u64 u65 u66 u67 u68 u69 u70 u71 u72 u73 u74 u75 u76 u77 u78 u79 u80 u81 u82 u83 u84 u85 u86 u87 u88 u89 u90 u91 u92 u93 u94 u95 u96 u97 u98 u99 u100 u101 u102 u103 u104 u105 u106 u107 u108 u109 u110 u111 u112 u113 u114 u115 u116 u117 u118 u119 u120 u121 u122 u123 u124 u125 u126 u127 u128 u129 u130 u131 u132 u133 u134 u135 u136 u137 u138 u139 u140 u141 u142 u143 u144 u145 u146 u147 u148 u152 u153 u154 u155 u156 u157 u158 u159 u160 u161 u162 u163 u164 u165 u166 u167 u168 u169 u170 u171 u172 : Value), SPm w W' (some ⟨bj, oj, none⟩) c N T bp gt ga gF M fl (fun i t => if i = k then laid (fun q => fAt fl (M - rest + q)) (slotsTo (jAt js k) (lenJ (jAt js k))) t else h i t) (rest - lenJ (jAt js k)) → Marks B W' ({ target := .collected D, args := #[] } :: ds) → B ≤ W'.heap.size → R ⟨List.toArray (u0 :: u1 :: (.pointer (some ⟨w.heap.size, 0, none⟩)) :: u3 :: u4 :: (.pointer (some ⟨w.heap.size + 1, 0, none⟩)) :: u6 :: u7 :: u8 :: u9 :: u10 :: u11 :: u12 :: u13 :: u14 :: u15 :: u16 :: u17 :: u18 :: u19 :: u20 :: u21 :: u22 :: u23 :: u24 :: (.pointer (some ⟨bp, 0, none⟩)) :: (.pointer (some ⟨bp + 1, 0, none⟩)) :: u27 :: u28 :: u29 :: u30 :: u31 :: u32 :: u33 :: u34 :: u35 :: u36 :: u37 :: u38 :: u39 :: u40 :: u41 :: u42 :: u43 :: u44 :: u45 :: u46 :: u47 :: u48 :: u49 :: u50 :: u51 :: u52 :: u53 :: u54 :: u55 :: u56 :: u57 :: u58 :: u59 :: u60 :: u61 :: u62 :: u63 :: u64 :: u65 :: u66 :: u67 :: u68 :: u69 :: u70 :: u71 :: u72 :: u73 :: u74 :: u75 :: u76 :: u77 :: u78 :: u79 :: u80 :: u81 :: u82 :: u83 :: u84 :: u85 :: u86 :: u87 :: u88 :: u89 :: u90 :: u91 :: u92 :: u93 :: u94 :: u95 :: u96 :: u97 :: u98 :: u99 :: u100 :: u101 :: u102 :: u103 :: u104 :: u105 :: u106 :: u107 :: u108 :: u109 :: u110 :: u111 :: u112 :: u113 :: u114 :: u115 :: u116 :: u117 :: u118 :: u119 :: u120 :: u121 :: u122 :: u123 :: u124 :: u125 :: u126 :: u127 :: u128 :: u129 :: u130 :: u131 :: u132 :: u133 :: u134 :: u135 :: u136 :: u137 :: u138 :: u139 :: u140 :: u141 :: u142 :: u143 :: u144 :: u145 :: u146 :: u147 :: u148 :: (.slice (some ⟨bj, oj, none⟩) N c) :: (.int .i64 N) :: (.int .i64 ((k : Int) + 1)) :: u152 :: u153 :: u154 :: u155 :: u156 :: u157 :: u158 :: u159 :: u160 :: u161 :: u162 :: u163 :: u164 :: u165 :: u166 :: u167 :: u168 :: u169 :: u170 :: u171 :: u172 :: []), { target := .collected D, args := #[] } :: ds⟩ W')) :
  Code.wp Try.prog scBody4 (Exit.then R Q0) ⟨List.toArray (u0 :: u1 :: (.pointer (some ⟨w.heap.size, 0, none⟩)) :: u3 :: u4 :: (.pointer (some ⟨w.heap.size + 1, 0, none⟩)) :: u6 :: u7 :: u8 :: u9 :: u10 :: u11 :: u12 :: u13 :: u14 :: u15 :: u16 :: u17 :: u18 :: u19 :: u20 :: u21 :: u22 :: u23 :: u24 :: (.pointer (some ⟨bp, 0, none⟩)) :: (.pointer (some ⟨bp + 1, 0, none⟩)) :: u27 :: u28 :: u29 :: u30 :: u31 :: u32 :: u33 :: u34 :: u35 :: u36 :: u37 :: u38 :: u39 :: u40 :: u41 :: u42 :: u43 :: u44 :: u45 :: u46 :: u47 :: u48 :: u49 :: u50 :: u51 :: u52 :: u53 :: u54 :: u55 :: u56 :: u57 :: u58 :: u59 :: u60 :: u61 :: u62 :: u63 :: u64 :: u65 :: u66 :: u67 :: u68 :: u69 :: u70 :: u71 :: u72 :: u73 :: u74 :: u75 :: u76 :: u77 :: u78 :: u79 :: u80 :: u81 :: u82 :: u83 :: u84 :: u85 :: u86 :: u87 :: u88 :: u89 :: u90 :: u91 :: u92 :: u93 :: u94 :: u95 :: u96 :: u97 :: u98 :: u99 :: u100 :: u101 :: u102 :: u103 :: u104 :: u105 :: u106 :: u107 :: u108 :: u109 :: u110 :: u111 :: u112 :: u113 :: u114 :: u115 :: u116 :: u117 :: u118 :: u119 :: u120 :: u121 :: u122 :: u123 :: u124 :: u125 :: u126 :: u127 :: u128 :: u129 :: u130 :: u131 :: u132 :: u133 :: u134 :: u135 :: u136 :: u137 :: u138 :: u139 :: u140 :: u141 :: u142 :: u143 :: u144 :: u145 :: u146 :: u147 :: u148 :: (.slice (some ⟨bj, oj, none⟩) N c) :: (.int .i64 N) :: (.int .i64 k) :: u152 :: u153 :: u154 :: u155 :: u156 :: u157 :: u158 :: u159 :: u160 :: u161 :: u162 :: u163 :: u164 :: u165 :: u166 :: u167 :: u168 :: u169 :: u170 :: u171 :: u172 :: []), ds⟩ W := by
  have okj := okP_job HOK.out (i := k) (by rw [HN.out]; exact hk)
  obtain ⟨p1, p2, p3, p4, p5, p6, p7, _, _⟩ := okj
  have hT : T ≤ 24 := by have := (okP_iff.1 HOK.out).1.2; rw [HN2.out] at this; exact this
  have hN : N ≤ 12 := by have := (okP_iff.1 HOK.out).1.1; rw [HN.out] at this; exact this
  rw [HN2.out] at p3
  obtain ⟨b, off, j, hA, hbl, hj, g0, g1, g2, g3, g4⟩ := rdJ_at (HR.out.keep HM.out.bel) (k := k) (by rw [HN.out]; exact hk)
  injection hA with hA
  injection hA with ea eb
  subst ea eb
  have ej : jAt js k = j := by unfold jAt; rw [hj]; rfl
  rw [ej] at p1 p2 p3 p4 p5 p6 p7 HK Hrest
  clear hj ej
  have hkz : (k : Int) < (N : Int) := by omega
  have lbj := World.block_lt_of_cell? W _ g0
  dsimp only at lbj
  conv => arg 2; whnf
  go_wp2_with fail
  have hps := plSlots_any j ((W.alloc (.cells #[.int .i64 k] 3)).alloc (.cells #[.int .i64 j.frm, .int .i64 j.till, .int .i64 j.energy, .int .i64 j.rate, .int .i64 j.rank] 25))
  rw [World.size_alloc, World.size_alloc] at hps
  refine hps.mono ?_
  clear hps
  rintro e w' ⟨rfl, rfl⟩
  obtain ⟨bx, hbx⟩ : ∃ bx, bx = W.heap.size := ⟨_, rfl⟩
  obtain ⟨W3, hW3⟩ : ∃ W3, W3 = ((W.alloc (.cells #[.int .i64 k] 3)).alloc (.cells #[.int .i64 j.frm, .int .i64 j.till, .int .i64 j.energy, .int .i64 j.rate, .int .i64 j.rank] 25)).alloc (.cells #[.int .i64 j.frm, .int .i64 j.till, .int .i64 j.energy, .int .i64 j.rate, .int .i64 j.rank] 25) := ⟨_, rfl⟩
  have bw3 : Below W.heap.size W W3 := by rw [hW3]; exact (((Below.refl _ W).alloc (Nat.le_refl _) _).alloc (by simp) _).alloc (by simp; omega) _
  have z0 : W3.cell? ⟨bx + 2, 0, none⟩ = some (.int .i64 j.frm) := by rw [hW3, hbx]; go_simp
  have z1 : W3.cell? ⟨bx + 2, 1, none⟩ = some (.int .i64 j.till) := by rw [hW3, hbx]; go_simp
  have cx0 : W3.cell? ⟨bx, 0, none⟩ = some (.int .i64 k) := by rw [hW3, hbx]; go_simp
  have hs3 : W3.heap.size = bx + 3 := by rw [hW3, hbx]; simp
  rw [← hW3, ← hbx]
  have HM3 := Lib.hid (HM.out.keep bw3)
  have mk3 := hmk.below bw3
  have hB3 : B ≤ W3.heap.size := by omega
  have Hs3 := Lib.hid hs3
  have hbpx : bp + 1 < bx := by
    obtain ⟨_, o, _⟩ := HM.out.o26
    rw [hbx]
    exact o.lt
  have q1 := HM.out.b1
  have q2 := HM.out.b2
  have q3 := HM.out.b3
  have q4 := HM.out.b4
  have q5 := HM.out.b5
  have q6 := HM.out.b6
  clear hs3 hW3 HM hmk g0 g1 g2 g3 g4 bw3 hbx hbl lbj hBW
  go_wp2_with fail
  have hw3 : w.heap.size ≤ W3.heap.size := HM3.out.bel.size
  refine range_slots2 (j := j) p1 p2 (by omega) (g := .tmp 157) (p := 158) 29 (B := w.heap.size) (b1 := bx + 2) rfl z0 z1 hw3 (fun pre W' => SpMid w (some ⟨bj, oj, none⟩) c N T bp gt ga gF M k bx W3.heap.size B fl h rest ds (pre.map (fun (y : SlotAt j) => y.1)) W') ?hI ?h0 ?assign ?body ?done
  case hI => exact fun pre W' W'' h hn => h.nc hn hw3
  case h0 =>
    refine ⟨HM3.out.congr (fun i t hi ht => ?_), cx0, ⟨mk3, ?_⟩, Nat.le_refl _⟩
    · by_cases e : i = k
      · subst e
        rw [if_pos rfl, Hz.out]
        rfl
      · rw [if_neg e]
    obtain ⟨Ds, e, _, hD⟩ := mk3
    intro x hx
    rw [e] at hx
    obtain ⟨D, hm, rfl⟩ := List.mem_map.1 hx
    exact ⟨D, rfl, (hD D hm).2.1⟩
  case assign =>
    intro l x W1 K hK
    gi_wp2
    exact hK
  case body =>
    rintro l pre ⟨t, ht⟩ W1 ⟨m, x0, mk, hs⟩ hlen
    simp only [List.setIfInBounds_toArray, List.set_cons_zero, List.set_cons_succ]
    have hin := ht
    unfold inJ at hin
    have htT : t < T := by omega
    have hlj := Hrest.out
    rw [List.length_map] at m
    obtain ⟨r1, hr1⟩ : ∃ r1, rest - pre.length = r1 + 1 := ⟨rest - pre.length - 1, by omega⟩
    rw [hr1] at m
    obtain ⟨ad, o26, had⟩ := m.o26
    obtain rfl := had (by omega)
    have c25 := m.k25
    have c26 := o26.cell (i := 0) (by omega)
    have f26 := o26.frozen 0
    have ct := m.ot.cell hk
    have hidx : k * T + t < N * T := by
      have : k * T + T ≤ N * T := by rw [← Nat.succ_mul]; exact Nat.mul_le_mul_right _ hk
      omega
    have ca := m.oa.cell hidx
    have fa := m.oa.frozen (k * T + t)
    obtain ⟨b8, o8, hA8, hbl8, hc8⟩ := m.rf.int (k := M - (r1 + 1)) (by rw [HM0.out]; omega)
    injection hA8 with hA8
    injection hA8 with e8a e8b
    subst e8a e8b
    rw [Nat.zero_add] at hc8
    have hc9 : W1.cell? ⟨gF, M - (r1 + 1), none⟩ = some (.int .i64 (fAt fl (M - (r1 + 1)))) := hc8
    have Hx : Hid (fAt fl (M - (r1 + 1)) = fAt fl (M - rest + (pre.map (fun (y : SlotAt j) => y.1)).length)) := Lib.hid (by rw [List.length_map]; congr 1; omega)
    generalize fAt fl (M - (r1 + 1)) = x at *
    have HP := Lib.hid (fun ad' hd => m.put k t hk htT x ad' r1 hd)
    have hMw : w.heap.size ≤ W1.heap.size := m.bel.size
    have Hcells : Hid (∀ q, (q = ga ∨ q = bp + 1) → ∀ o, W1.heap[q]? = some o → o.isCells = true) := Lib.hid (fun q hq o ho => by
      rcases hq with rfl | rfl
      · exact m.oa.cells ho
      · exact o26.cells ho)
    have Hmk := Lib.hid mk
    have l25 := World.block_lt_of_cell? W1 _ c25
    have l26 := World.block_lt_of_cell? W1 _ c26
    have lt' := World.block_lt_of_cell? W1 _ ct
    have la := World.block_lt_of_cell? W1 _ ca
    have lx := World.block_lt_of_cell? W1 _ x0
    dsimp only at l25 l26 lt' la lx
    have Hr1 := Lib.hid hr1
    have htz : (t : Int) < (T : Int) := by omega
    generalize hKT : k * T = kT at *
    generalize hoff : M - (r1 + 1) = off at *
    have Hoff := Lib.hid hoff
    have HKT := Lib.hid hKT
    clear m mk hc8 o26 had hr1 hoff hKT
    have hr1z : (0 : Int) < ((r1 + 1 : Nat) : Int) := by omega
    have hr1y : (1 : Int) ≤ ((r1 + 1 : Nat) : Int) := by omega
    have hr1w : (1 : Int) ≤ (r1 : Int) + 1 := by omega
    obtain ⟨ad', had'⟩ : ∃ ad' : Option Addr, ad' = if r1 = 0 then some ⟨gF, off, none⟩ else some ⟨gF, off + 1, none⟩ := ⟨_, rfl⟩
    have Had := Lib.hid had'
    clear had'
    have q3' := q3 (by rw [HM0.out]; have := Hr1.out; omega)
    have n1 : bp ≠ ga := by omega
    have n2 : bx ≠ ga := by omega
    have n3 : gt ≠ ga := by omega
    have n4 : bp + 1 ≠ ga := by omega
    have n5 : gF ≠ ga := by omega
    gi_wp2
    refine region_round_z (S := fun w' => w'.cell? ⟨bp, 0, none⟩ = some (.slice (some ⟨gt, 0, none⟩) N N) ∧ w'.cell? ⟨bx, 0, none⟩ = some (.int .i64 k) ∧ w'.cell? ⟨gt, k, none⟩ = some (.slice (some ⟨ga, kT, none⟩) T T) ∧ w'.cell? ⟨bp + 1, 0, none⟩ = some (.slice (some ⟨gF, off, none⟩) (r1 + 1) (r1 + 1)) ∧ w'.cell? ⟨gF, off, none⟩ = some (.int .i64 x)) [12] (by kernel_rfl) (by kernel_rfl) ⟨c25, x0, ct, c26, hc9⟩ (fun hHeld => ?_)
    refine wpAnyZ_take (i := 0) (v := .slice (some ⟨gt, 0, none⟩) N N) [12] rfl (by kernel_rfl) (by kernel_rfl) (by kernel_rfl) (by kernel_rfl) (fun _ _ _ h => absurd h.1 (by simp)) (Or.inl ⟨by rfl, fun w' hSw => ?_⟩) hHeld ?_
    · obtain ⟨s0, s1, s2, s3, s4⟩ := hSw
      go_simp
    simp only [Act.put, List.setIfInBounds_toArray, List.set_cons_zero, List.set_cons_succ]
    refine wpAnyZ_take (i := 1) (v := .int .i64 k) [12] rfl (by kernel_rfl) (by kernel_rfl) (by kernel_rfl) (by kernel_rfl) (fun _ _ _ h => absurd h.1 (by simp)) (Or.inl ⟨by rfl, fun w' hSw => ?_⟩) hHeld ?_
    · obtain ⟨s0, s1, s2, s3, s4⟩ := hSw
      go_simp
    simp only [Act.put, List.setIfInBounds_toArray, List.set_cons_zero, List.set_cons_succ]
    refine wpAnyZ_take (i := 2) (v := .pointer (some ⟨gt, k, none⟩)) [12] rfl (by kernel_rfl) (by kernel_rfl) (by kernel_rfl) (by kernel_rfl) (fun _ _ _ h => absurd h.1 (by simp)) (Or.inl ⟨by rfl, fun w' hSw => ?_⟩) hHeld ?_
    · obtain ⟨s0, s1, s2, s3, s4⟩ := hSw
      go_simp
    simp only [Act.put, List.setIfInBounds_toArray, List.set_cons_zero, List.set_cons_succ]
    refine wpAnyZ_take (i := 3) (v := .slice (some ⟨ga, kT, none⟩) T T) [12] rfl (by kernel_rfl) (by kernel_rfl) (by kernel_rfl) (by kernel_rfl) (fun _ _ _ h => absurd h.1 (by simp)) (Or.inl ⟨by rfl, fun w' hSw => ?_⟩) hHeld ?_
    · obtain ⟨s0, s1, s2, s3, s4⟩ := hSw
      go_simp
    simp only [Act.put, List.setIfInBounds_toArray, List.set_cons_zero, List.set_cons_succ]
    refine wpAnyZ_take (i := 4) (v := .int .i64 t) [12] rfl (by kernel_rfl) (by kernel_rfl) (by kernel_rfl) (by kernel_rfl) (fun _ _ _ h => absurd h.1 (by simp)) (Or.inl ⟨by rfl, fun w' hSw => ?_⟩) hHeld ?_
    · obtain ⟨s0, s1, s2, s3, s4⟩ := hSw
      go_simp
    simp only [Act.put, List.setIfInBounds_toArray, List.set_cons_zero, List.set_cons_succ]
    refine wpAnyZ_take (i := 5) (v := .slice (some ⟨gF, off, none⟩) (r1 + 1) (r1 + 1)) [12] rfl (by kernel_rfl) (by kernel_rfl) (by kernel_rfl) (by kernel_rfl) (fun _ _ _ h => absurd h.1 (by simp)) (Or.inl ⟨by rfl, fun w' hSw => ?_⟩) hHeld ?_
    · obtain ⟨s0, s1, s2, s3, s4⟩ := hSw
      go_simp
    simp only [Act.put, List.setIfInBounds_toArray, List.set_cons_zero, List.set_cons_succ]
    refine wpAnyZ_take (i := 6) (v := .pointer (some ⟨gF, off, none⟩)) [12] rfl (by kernel_rfl) (by kernel_rfl) (by kernel_rfl) (by kernel_rfl) (fun _ _ _ h => absurd h.1 (by simp)) (Or.inl ⟨by rfl, fun w' hSw => ?_⟩) hHeld ?_
    · obtain ⟨s0, s1, s2, s3, s4⟩ := hSw
      go_simp
    simp only [Act.put, List.setIfInBounds_toArray, List.set_cons_zero, List.set_cons_succ]
    refine wpAnyZ_take (i := 7) (v := .int .i64 x) [12] rfl (by kernel_rfl) (by kernel_rfl) (by kernel_rfl) (by kernel_rfl) (fun _ _ _ h => absurd h.1 (by simp)) (Or.inl ⟨by rfl, fun w' hSw => ?_⟩) hHeld ?_
    · obtain ⟨s0, s1, s2, s3, s4⟩ := hSw
      go_simp
    simp only [Act.put, List.setIfInBounds_toArray, List.set_cons_zero, List.set_cons_succ]
    refine wpAnyZ_take (i := 8) (v := .slice (some ⟨gF, off, none⟩) (r1 + 1) (r1 + 1)) [12] rfl (by kernel_rfl) (by kernel_rfl) (by kernel_rfl) (by kernel_rfl) (fun _ _ _ h => absurd h.1 (by simp)) (Or.inl ⟨by rfl, fun w' hSw => ?_⟩) hHeld ?_
    · obtain ⟨s0, s1, s2, s3, s4⟩ := hSw
      go_simp
    simp only [Act.put, List.setIfInBounds_toArray, List.set_cons_zero, List.set_cons_succ]
    refine wpAnyZ_take (i := 9) (v := .slice ad' r1 r1) [12] rfl (by kernel_rfl) (by kernel_rfl) (by kernel_rfl) (by kernel_rfl) (fun _ _ _ h => absurd h.1 (by simp)) (Or.inl ⟨by rfl, fun w' hSw => ?_⟩) hHeld ?_
    · obtain ⟨s0, s1, s2, s3, s4⟩ := hSw
      go_simp
      rw [← Had.out]
    simp only [Act.put, List.setIfInBounds_toArray, List.set_cons_zero, List.set_cons_succ]
    refine wpAnyZ_take (i := 10) (v := .pointer (some ⟨ga, kT + t, none⟩)) [12] rfl (by kernel_rfl) (by kernel_rfl) (by kernel_rfl) (by kernel_rfl) (fun _ _ _ h => absurd h.1 (by simp)) (Or.inl ⟨by rfl, fun w' hSw => ?_⟩) hHeld ?_
    · obtain ⟨s0, s1, s2, s3, s4⟩ := hSw
      go_simp
    simp only [Act.put, List.setIfInBounds_toArray, List.set_cons_zero, List.set_cons_succ]
    refine wpAnyZ_one (i := 11) (by kernel_rfl) rfl (fun K hK => ?_)
    go_simp
    refine hK.out _ _ ?_ (fun hHeld => ?_)
    · refine ⟨?_, ?_, ?_, ?_, ?_⟩ <;> go_simp
    clear hK K
    try simp only [Act.put, List.setIfInBounds_toArray, List.set_cons_zero, List.set_cons_succ]
    refine wpAnyZ_last (i := 12) (by kernel_rfl) rfl (by kernel_rfl) (fun K hK => ?_)
    go_simp
    refine hK.out _ _ ?_
    clear hK K
    try simp only [Act.put, List.setIfInBounds_toArray, List.set_cons_zero, List.set_cons_succ]
    refine wpAnyZ_done (by kernel_rfl) ⟨rfl, ?_⟩ _
    clear hHeld
    have hP := HP.out ad' (fun h0 => by
      have e1 := Had.out
      have e2 := Hoff.out
      have e3 := Hr1.out
      rw [e1, if_neg (by omega), show off + 1 = M - r1 by omega])
    obtain ⟨m', hM6⟩ := hP
    have hkf : ∀ B', KeepsFrom B' W1 _ := fun B' => keepsFrom_mod hM6 _ (fun q hq o ho => Hcells.out q hq o ho)
    have hz := Hs3.out
    refine And.intro (a := Exit.normal = Exit.normal) rfl ⟨hkf _, ⟨hM6.below hMw (fun q _ hq => by omega), hM6.block _ (by omega) (by omega)⟩, ?_, (hM6.cell (p := ⟨bx, 0, none⟩) lx (by dsimp only; omega)).trans x0, ⟨Hmk.out.1.keeps (hkf _), Hmk.out.2⟩, Nat.le_trans hs hM6.size⟩
    rw [List.map_append, List.length_append, List.length_map]
    have e1 : rest - (pre.length + [(⟨t, ht⟩ : SlotAt j)].length) = r1 := by have := Hr1.out; simp; omega
    rw [List.length_map, e1]
    refine m'.congr (fun i s hi hs => ?_)
    have e2 : [(⟨t, ht⟩ : SlotAt j)].map (fun (y : SlotAt j) => y.1) = [t] := rfl
    rw [e2]
    by_cases c1 : i = k
    · subst c1
      rw [if_pos rfl, if_pos rfl, laid_snoc]
      by_cases c2 : s = t
      · rw [if_pos ⟨rfl, c2⟩, if_pos c2]
        exact Hx.out
      · rw [if_neg (fun x => c2 x.2), if_neg c2]
    · rw [if_neg c1, if_neg (fun x => c1 x.1), if_neg c1]
  case done =>
    intro D ys W1 hD hS hm hdf
    obtain ⟨m, x0, mk, hs⟩ := hm
    rw [hS] at m
    have hsl : (slotsTo j (lenJ j)).length = lenJ j := by unfold slotsTo; exact mk_len _ _
    rw [hsl] at m
    have Hm := Lib.hid m
    have Hmk : Hid (Marks B W1 ({ target := .collected D, args := #[] } :: ds)) := Lib.hid (marks_more mk hD hB3 hdf)
    have hBW1 : B ≤ W1.heap.size := Nat.le_trans hB3 hs
    clear m mk
    go_wp2_with fail
    exact HK.out W1 D _ _ _ _ _ _ _ _ _ _ _ _ _ _ _ _ _ _ _ _ _ _ _ _ _ _ _ _ _ _ _ _ _ _ _ _ _ _ _ _ _ _ _ _ _ _ _ _ _ _ _ _ _ _ _ _ _ _ _ _ _ _ _ _ _ _ _ _ _ _ _ _ _ _ _ _ _ _ _ _ _ _ _ _ _ _ _ _ _ _ _ _ _ _ _ _ _ _ _ _ _ _ _ _ _ _ _ _ _ _ _ _ _ _ _ _ _ _ _ _ _ _ _ _ _ _ _ _ _ _ _ _ _ _ _ _ _ _ _ _ _ _ _ _ _ _ _ _ _ _ _ _ _ _ _ _ _ _ _ _ _ _ _ _ _ _ Hm.out Hmk.out hBW1
end Go.Proofs.Ytgfcnkfmgpakkaa
/-
The third and the fourth loop of plan.Schedule: what holds at the head of each round.
-/
namespace Go.Proofs.Ytgfcnkfmgpakkaa
open Go.RowKit Go.Shelf
set_option linter.unusedVariables false
set_option maxRecDepth 100000
theorem fr_intro {ds : List Deferred} {xs : List Value} (F : (Nat → Value) → List Value) (h : xs = F (fun i => xs.getD i undef)) : ∃ f, (⟨List.toArray xs, ds⟩ : Act) = ⟨List.toArray (F f), ds⟩ := ⟨_, by rw [← h]⟩
def FR3 (w : World) (A A2 : Option Addr) (c N c2 T bi k : Nat) (need : Int) (f : Nat → Value) : List Value := f 0 :: (.slice A2 T c2) :: (.pointer (some ⟨w.heap.size, 0, none⟩)) :: f 3 :: f 4 :: (.pointer (some ⟨w.heap.size + 1, 0, none⟩)) :: f 6 :: (.int .i64 0) :: (.int .i64 1) :: (.pointer (some ⟨bi, 0, none⟩)) :: (.pointer (some ⟨bi + 1, 0, none⟩)) :: (.pointer (some ⟨bi + 2, 0, none⟩)) :: (.int .i64 need) :: f 13 :: f 14 :: f 15 :: f 16 :: f 17 :: f 18 :: f 19 :: f 20 :: f 21 :: f 22 :: f 23 :: f 24 :: f 25 :: f 26 :: f 27 :: f 28 :: f 29 :: f 30 :: f 31 :: f 32 :: f 33 :: f 34 :: f 35 :: f 36 :: f 37 :: f 38 :: f 39 :: f 40 :: f 41 :: f 42 :: f 43 :: f 44 :: f 45 :: f 46 :: f 47 :: f 48 :: f 49 :: f 50 :: f 51 :: f 52 :: f 53 :: f 54 :: f 55 :: f 56 :: f 57 :: f 58 :: f 59 :: f 60 :: f 61 :: f 62 :: f 63 :: f 64 :: f 65 :: f 66 :: f 67 :: f 68 :: f 69 :: f 70 :: f 71 :: f 72 :: f 73 :: f 74 :: f 75 :: f 76 :: f 77 :: f 78 :: f 79 :: f 80 :: f 81 :: f 82 :: f 83 :: f 84 :: (.slice A N c) :: (.int .i64 N) :: (.int .i64 (k : Nat)) :: f 88 :: f 89 :: f 90 :: f 91 :: f 92 :: f 93 :: f 94 :: f 95 :: f 96 :: f 97 :: f 98 :: f 99 :: f 100 :: f 101 :: f 102 :: f 103 :: f 104 :: f 105 :: f 106 :: f 107 :: f 108 :: f 109 :: f 110 :: f 111 :: f 112 :: f 113 :: f 114 :: f 115 :: f 116 :: f 117 :: f 118 :: f 119 :: f 120 :: f 121 :: f 122 :: f 123 :: f 124 :: f 125 :: f 126 :: f 127 :: f 128 :: f 129 :: f 130 :: f 131 :: f 132 :: f 133 :: f 134 :: f 135 :: f 136 :: f 137 :: f 138 :: f 139 :: f 140 :: f 141 :: f 142 :: f 143 :: f 144 :: f 145 :: f 146 :: f 147 :: f 148 :: f 149 :: f 150 :: f 151 :: f 152 :: f 153 :: f 154 :: f 155 :: f 156 :: f 157 :: f 158 :: f 159 :: f 160 :: f 161 :: f 162 :: f 163 :: f 164 :: f 165 :: f 166 :: f 167 :: f 168 :: f 169 :: f 170 :: f 171 :: f 172 :: []
def SInv3 (w : World) (A A2 : Option Addr) (c N c2 T bi nn B : Nat) (js : List GJob) (need : Int) (es0 : List GEdge) (a : Act) (W : World) : Prop :=
  ∃ (k : Nat) (v : Value) (ds : List Deferred), k ≤ N ∧ SCm w W A c N bi nn v (es0 ++ rowsR js N k) ∧ Marks B W ds ∧ B ≤ W.heap.size ∧ ∃ f, a = ⟨List.toArray (FR3 w A A2 c N c2 T bi k need f), ds⟩
def SMu3 (N : Nat) (a : Act) (_ : World) : Nat := N - (intOf (a.tmps.getD 87 undef)).toNat
set_option maxHeartbeats 4000000 in
theorem sc3_some (w W : World) (A A2 : Option Addr) (c N c2 T bi nn B k : Nat) (js : List GJob) (sup : List Int) (need : Int) (v : Value) (es0 : List GEdge) (ds : List Deferred) (Q0 : Exit → Act → World → Prop) (f : Nat → Value)
  (HR : Hid (Rd 5 encJ w A js)) (HN : Hid (js.length = N)) (HOK : Hid (okP js sup = true)) (HN2 : Hid (sup.length = T)) (hk : k < N) (hel : es0.length ≤ 1000)
  (m : SCm w W A c N bi nn v (es0 ++ rowsR js N k)) (hmk : Marks B W ds) (hB : w.heap.size ≤ B) (hBW : B ≤ W.heap.size) :
  Code.wp Try.prog scBody3 (Exit.then (fun a' W' => SInv3 w A A2 c N c2 T bi nn B js need es0 a' W' ∧ SMu3 N a' W' < SMu3 N ⟨List.toArray (FR3 w A A2 c N c2 T bi k need f), ds⟩ W) Q0) ⟨List.toArray (FR3 w A A2 c N c2 T bi k need f), ds⟩ W := by
  obtain ⟨bj, oj, e, _⟩ := HR.out (by rw [HN.out]; omega)
  subst e
  have hoff := off_le HOK.out k (by rw [HN.out]; omega)
  have hN12 : N ≤ 12 := by have := (okP_iff.1 HOK.out).1.1; rw [HN.out] at this; exact this
  refine sc_round w W A2 bj oj c N c2 T bi nn B k js sup need v (es0 ++ rowsR js N k) ds _ Q0 HR HN HOK HN2 hk (by rw [List.length_append, rowsR_len]; omega) (Lib.hid m) hmk hB hBW _ _ _ _ _ _ _ _ _ _ _ _ _ _ _ _ _ _ _ _ _ _ _ _ _ _ _ _ _ _ _ _ _ _ _ _ _ _ _ _ _ _ _ _ _ _ _ _ _ _ _ _ _ _ _ _ _ _ _ _ _ _ _ _ _ _ _ _ _ _ _ _ _ _ _ _ _ _ _ _ _ _ _ _ _ _ _ _ _ _ _ _ _ _ _ _ _ _ _ _ _ _ _ _ _ _ _ _ _ _ _ _ _ _ _ _ _ _ _ _ _ _ _ _ _ _ _ _ _ _ _ _ _ _ _ _ _ _ _ _ _ _ _ _ _ _ _ _ _ _ _ _ _ _ _ _ _ _ _ _ _ (Lib.hid ?_)
  intro W' D v'
  intros
  rename_i m' mk' hb'
  refine ⟨⟨k + 1, v', _, hk, ?_, mk', hb', fr_intro (FR3 w (some ⟨bj, oj, none⟩) A2 c N c2 T bi (k + 1) need) rfl⟩, ?_⟩
  · rw [rowsR_succ, ← List.append_assoc]
    exact m'
  · show N - (intOf (.int .i64 ((k : Int) + 1))).toNat < N - (intOf (.int .i64 (k : Int))).toNat
    simp [intOf]
    omega
def FR4 (w : World) (A : Option Addr) (c N bp k : Nat) (f : Nat → Value) : List Value := f 0 :: f 1 :: (.pointer (some ⟨w.heap.size, 0, none⟩)) :: f 3 :: f 4 :: (.pointer (some ⟨w.heap.size + 1, 0, none⟩)) :: f 6 :: f 7 :: f 8 :: f 9 :: f 10 :: f 11 :: f 12 :: f 13 :: f 14 :: f 15 :: f 16 :: f 17 :: f 18 :: f 19 :: f 20 :: f 21 :: f 22 :: f 23 :: f 24 :: (.pointer (some ⟨bp, 0, none⟩)) :: (.pointer (some ⟨bp + 1, 0, none⟩)) :: f 27 :: f 28 :: f 29 :: f 30 :: f 31 :: f 32 :: f 33 :: f 34 :: f 35 :: f 36 :: f 37 :: f 38 :: f 39 :: f 40 :: f 41 :: f 42 :: f 43 :: f 44 :: f 45 :: f 46 :: f 47 :: f 48 :: f 49 :: f 50 :: f 51 :: f 52 :: f 53 :: f 54 :: f 55 :: f 56 :: f 57 :: f 58 :: f 59 :: f 60 :: f 61 :: f 62 :: f 63 :: f 64 :: f 65 :: f 66 :: f 67 :: f 68 :: f 69 :: f 70 :: f 71 :: f 72 :: f 73 :: f 74 :: f 75 :: f 76 :: f 77 :: f 78 :: f 79 :: f 80 :: f 81 :: f 82 :: f 83 :: f 84 :: f 85 :: f 86 :: f 87 :: f 88 :: f 89 :: f 90 :: f 91 :: f 92 :: f 93 :: f 94 :: f 95 :: f 96 :: f 97 :: f 98 :: f 99 :: f 100 :: f 101 :: f 102 :: f 103 :: f 104 :: f 105 :: f 106 :: f 107 :: f 108 :: f 109 :: f 110 :: f 111 :: f 112 :: f 113 :: f 114 :: f 115 :: f 116 :: f 117 :: f 118 :: f 119 :: f 120 :: f 121 :: f 122 :: f 123 :: f 124 :: f 125 :: f 126 :: f 127 :: f 128 :: f 129 :: f 130 :: f 131 :: f 132 :: f 133 :: f 134 :: f 135 :: f 136 :: f 137 :: f 138 :: f 139 :: f 140 :: f 141 :: f 142 :: f 143 :: f 144 :: f 145 :: f 146 :: f 147 :: f 148 :: (.slice A N c) :: (.int .i64 N) :: (.int .i64 (k : Nat)) :: f 152 :: f 153 :: f 154 :: f 155 :: f 156 :: f 157 :: f 158 :: f 159 :: f 160 :: f 161 :: f 162 :: f 163 :: f 164 :: f 165 :: f 166 :: f 167 :: f 168 :: f 169 :: f 170 :: f 171 :: f 172 :: []
/-- The plan as far as k jobs. -/
def planTo (js : List GJob) (T : Nat) (fl : List Int) (k : Nat) : Nat → Nat → Int := fun i t => if i < k then planOf js T fl i t else 0
def SInv4 (w : World) (A : Option Addr) (c N T bp gt ga gF M B : Nat) (js : List GJob) (fl : List Int) (a : Act) (W : World) : Prop :=
  ∃ (k : Nat) (ds : List Deferred), k ≤ N ∧ SPm w W A c N T bp gt ga gF M fl (planTo js T fl k) (offJ js N - offJ js k) ∧ Marks B W ds ∧ B ≤ W.heap.size ∧ ∃ f, a = ⟨List.toArray (FR4 w A c N bp k f), ds⟩
def SMu4 (N : Nat) (a : Act) (_ : World) : Nat := N - (intOf (a.tmps.getD 151 undef)).toNat
theorem off_mono2 {js : List GJob} {i n : Nat} (h : i ≤ n) : offJ js i ≤ offJ js n := by
  rcases Nat.lt_or_ge i n with h1 | h1
  · have := off_mono (js := js) h1; omega
  · have : i = n := by omega
    subst this; exact Nat.le_refl _
set_option maxHeartbeats 4000000 in
theorem sp4_some (w W : World) (A : Option Addr) (c N T bp gt ga gF M B k : Nat) (js : List GJob) (sup : List Int) (fl : List Int) (ds : List Deferred) (Q0 : Exit → Act → World → Prop) (f : Nat → Value)
  (HR : Hid (Rd 5 encJ w A js)) (HN : Hid (js.length = N)) (HOK : Hid (okP js sup = true)) (HN2 : Hid (sup.length = T)) (hk : k < N) (hM : M = N + T + offJ js N) (HM0 : Hid (fl.length = M))
  (m : SPm w W A c N T bp gt ga gF M fl (planTo js T fl k) (offJ js N - offJ js k)) (hmk : Marks B W ds) (hB : w.heap.size ≤ B) (hBW : B ≤ W.heap.size) :
  Code.wp Try.prog scBody4 (Exit.then (fun a' W' => SInv4 w A c N T bp gt ga gF M B js fl a' W' ∧ SMu4 N a' W' < SMu4 N ⟨List.toArray (FR4 w A c N bp k f), ds⟩ W) Q0) ⟨List.toArray (FR4 w A c N bp k f), ds⟩ W := by
  obtain ⟨bj, oj, e, _⟩ := HR.out (by rw [HN.out]; omega)
  subst e
  have hoff := off_le HOK.out N (by rw [HN.out]; omega)
  have hN12 : N ≤ 12 := by have := (okP_iff.1 HOK.out).1.1; rw [HN.out] at this; exact this
  have hT24 : T ≤ 24 := by have := (okP_iff.1 HOK.out).1.2; rw [HN2.out] at this; exact this
  have hm1 := off_mono (js := js) hk
  have hm2 := off_mono2 (js := js) (Nat.le_of_lt hk)
  have hm3 := off_mono2 (js := js) (i := k + 1) (n := N) hk
  have hofs : offJ js (k + 1) = offJ js k + lenJ (jAt js k) := rfl
  obtain ⟨p1, p2, p3, _⟩ := okP_job HOK.out (i := k) (by rw [HN.out]; exact hk)
  refine sp_round w W bj oj c N T bp gt ga gF M B k (offJ js N - offJ js k) js sup fl (planTo js T fl k) ds _ Q0 HR HN HOK HN2 hk (Lib.hid (fun t => by unfold planTo; rw [if_neg (by omega)])) (Lib.hid (by omega)) (by omega) (by omega) HM0 (Lib.hid m) hmk hB hBW _ _ _ _ _ _ _ _ _ _ _ _ _ _ _ _ _ _ _ _ _ _ _ _ _ _ _ _ _ _ _ _ _ _ _ _ _ _ _ _ _ _ _ _ _ _ _ _ _ _ _ _ _ _ _ _ _ _ _ _ _ _ _ _ _ _ _ _ _ _ _ _ _ _ _ _ _ _ _ _ _ _ _ _ _ _ _ _ _ _ _ _ _ _ _ _ _ _ _ _ _ _ _ _ _ _ _ _ _ _ _ _ _ _ _ _ _ _ _ _ _ _ _ _ _ _ _ _ _ _ _ _ _ _ _ _ _ _ _ _ _ _ _ _ _ _ _ _ _ _ _ _ _ _ _ _ _ _ _ _ _ _ _ _ _ _ (Lib.hid ?_)
  intro W' D
  intros
  rename_i m' mk' hb'
  refine ⟨⟨k + 1, _, hk, ?_, mk', hb', fr_intro (FR4 w (some ⟨bj, oj, none⟩) c N bp (k + 1)) rfl⟩, ?_⟩
  · have e1 : offJ js N - offJ js (k + 1) = offJ js N - offJ js k - lenJ (jAt js k) := by omega
    rw [e1]
    refine m'.congr (fun i t hi ht => ?_)
    unfold planTo
    by_cases c1 : i = k
    · subst c1
      rw [if_pos rfl, if_pos (by omega), laid_slots]
      unfold planOf
      by_cases c2 : inJ (jAt js i) t
      · rw [pick_pos c2]
        unfold inJ at c2
        unfold lenJ
        rw [if_pos (by omega), HN.out]
        congr 1
        omega
      · rw [pick_neg c2]
        unfold inJ at c2
        unfold lenJ
        rw [if_neg (by omega)]
    · rw [if_neg c1]
      by_cases c2 : i < k
      · rw [if_pos c2, if_pos (by omega)]
      · rw [if_neg c2, if_neg (by omega)]
  · show N - (intOf (.int .i64 ((k : Int) + 1))).toNat < N - (intOf (.int .i64 (k : Int))).toNat
    simp [intOf]
    omega
end Go.Proofs.Ytgfcnkfmgpakkaa
