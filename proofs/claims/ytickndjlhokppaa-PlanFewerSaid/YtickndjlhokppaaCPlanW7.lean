/-
The drawn region of the law PlanFewer.
-/
import Derived.Test.YtickndjlhokppaaCPlanW6
namespace Go.Proofs.Ytickndjlhokppaa
open Go.RowKit
set_option linter.unusedVariables false
set_option linter.unusedSimpArgs false
noncomputable def pf8Code : Code := ((Try.f6.body.bind (findRegion 8)).getD .skip)
set_option maxRecDepth 100000 in
set_option maxHeartbeats 8000000 in
theorem pf8 (W : World) (b off c N q : Nat) (js : List GJob) (mc : Array Value) (K : Act → World → Prop)
  (hmk : ∀ W : World, (Instr.makeSlice 22 (.int .i64 0) (.int .i64 N)).run Try.prog W = .ok (.slice (some ⟨W.heap.size, 0, none⟩) 0 N) (W.alloc (.cells mc 38)))
  (HOwn : Hid (∀ (W : World) (base : Nat), base ≤ W.heap.size → OwnJ (W.alloc (.cells mc 38)) base (.slice (some ⟨W.heap.size, 0, none⟩) 0 N) []))
  (rd : Rd 5 encJ W (some ⟨b, off, none⟩) js) (HN : Hid (js.length = N)) (hN : N ≤ 12) (hq : q < N) (hc : N ≤ c) (hc63 : c ≤ 9223372036854775807)
  (u1 u2 u3 u4 u5 u6 u7 u8 u9 u10 u11 u12 u13 u14 u15 u16 u17 u18 u19 u21 u22 u23 u24 u25 u26 u27 u28 u29 u30 u31 u32 u33 u34 u35 u36 u37 u38 u39 u40 u41 u42 u43 u44 u45 u46 u47 u48 u49 u50 u51 u52 u53 u54 u55 u56 u57 u58 u59 u60 u61 u62 u63 u64 u65 u66 u67 u68 u69 u70 u71 u72 u73 u74 u75 u76 u77 u78 u79 u80 u81 u82 u83 u84 u85 u86 u87 u88 u89 u90 u91 u92 u93 u94 u95 u96 u97 u98 u99 u100 u101 u102 u103 u104 u105 u106 u107 u108 u109 u110 u111 u112 u113 u114 u115 u116 u117 u118 u119 u120 u121 u122 u123 u124 u125 u126 u127 u128 u129 u130 u131 u132 u133 u134 u135 u136 u137 u138 u139 u140 u141 u142 u143 u144 u145 u146 u147 u148 u149 u150 u151 u152 u153 u154 u155 u156 u157 u158 u159 u160 u161 u162 u163 u164 u165 u166 u167 u168 u169 u170 u171 u172 u173 u174 u175 u176 u177 u178 u179 u180 u181 u182 u183 u184 u185 u186 u187 u188 u189 u190 u191 u192 u193 u194 u195 u196 u197 u198 u199 u200 u201 u202 u203 u204 u205 : Value)
  (HK : Hid (∀ (W' : World) (vd v86 v87 v88 v89 v90 v91 v92 v93 v94 v95 v96 v97 : Value), Hid (OwnJ W' W.heap.size vd (js.take q ++ js.drop (q + 1))) → Hid (Below W.heap.size W W') → K ⟨List.toArray ((.slice (some ⟨b, off, none⟩) N c) :: u1 :: u2 :: u3 :: u4 :: u5 :: u6 :: u7 :: u8 :: u9 :: u10 :: u11 :: u12 :: u13 :: u14 :: u15 :: u16 :: u17 :: u18 :: u19 :: (.int .i64 q) :: vd :: u22 :: u23 :: u24 :: u25 :: u26 :: u27 :: u28 :: u29 :: u30 :: u31 :: u32 :: u33 :: u34 :: u35 :: u36 :: u37 :: u38 :: u39 :: u40 :: u41 :: u42 :: u43 :: u44 :: u45 :: u46 :: u47 :: u48 :: u49 :: u50 :: u51 :: u52 :: u53 :: u54 :: u55 :: u56 :: u57 :: u58 :: u59 :: u60 :: u61 :: u62 :: u63 :: u64 :: u65 :: u66 :: u67 :: u68 :: u69 :: u70 :: u71 :: u72 :: u73 :: u74 :: u75 :: u76 :: u77 :: u78 :: u79 :: u80 :: u81 :: u82 :: u83 :: u84 :: u85 :: v86 :: v87 :: v88 :: v89 :: v90 :: v91 :: v92 :: v93 :: v94 :: v95 :: v96 :: v97 :: u98 :: u99 :: u100 :: u101 :: u102 :: u103 :: u104 :: u105 :: u106 :: u107 :: u108 :: u109 :: u110 :: u111 :: u112 :: u113 :: u114 :: u115 :: u116 :: u117 :: u118 :: u119 :: u120 :: u121 :: u122 :: u123 :: u124 :: u125 :: u126 :: u127 :: u128 :: u129 :: u130 :: u131 :: u132 :: u133 :: u134 :: u135 :: u136 :: u137 :: u138 :: u139 :: u140 :: u141 :: u142 :: u143 :: u144 :: u145 :: u146 :: u147 :: u148 :: u149 :: u150 :: u151 :: u152 :: u153 :: u154 :: u155 :: u156 :: u157 :: u158 :: u159 :: u160 :: u161 :: u162 :: u163 :: u164 :: u165 :: u166 :: u167 :: u168 :: u169 :: u170 :: u171 :: u172 :: u173 :: u174 :: u175 :: u176 :: u177 :: u178 :: u179 :: u180 :: u181 :: u182 :: u183 :: u184 :: u185 :: u186 :: u187 :: u188 :: u189 :: u190 :: u191 :: u192 :: u193 :: u194 :: u195 :: u196 :: u197 :: u198 :: u199 :: u200 :: u201 :: u202 :: u203 :: u204 :: u205 :: []), []⟩ W')) :
  Code.wp Try.prog pf8Code (Exit.then K (fun _ _ _ => False)) ⟨List.toArray ((.slice (some ⟨b, off, none⟩) N c) :: u1 :: u2 :: u3 :: u4 :: u5 :: u6 :: u7 :: u8 :: u9 :: u10 :: u11 :: u12 :: u13 :: u14 :: u15 :: u16 :: u17 :: u18 :: u19 :: (.int .i64 q) :: u21 :: u22 :: u23 :: u24 :: u25 :: u26 :: u27 :: u28 :: u29 :: u30 :: u31 :: u32 :: u33 :: u34 :: u35 :: u36 :: u37 :: u38 :: u39 :: u40 :: u41 :: u42 :: u43 :: u44 :: u45 :: u46 :: u47 :: u48 :: u49 :: u50 :: u51 :: u52 :: u53 :: u54 :: u55 :: u56 :: u57 :: u58 :: u59 :: u60 :: u61 :: u62 :: u63 :: u64 :: u65 :: u66 :: u67 :: u68 :: u69 :: u70 :: u71 :: u72 :: u73 :: u74 :: u75 :: u76 :: u77 :: u78 :: u79 :: u80 :: u81 :: u82 :: u83 :: u84 :: u85 :: u86 :: u87 :: u88 :: u89 :: u90 :: u91 :: u92 :: u93 :: u94 :: u95 :: u96 :: u97 :: u98 :: u99 :: u100 :: u101 :: u102 :: u103 :: u104 :: u105 :: u106 :: u107 :: u108 :: u109 :: u110 :: u111 :: u112 :: u113 :: u114 :: u115 :: u116 :: u117 :: u118 :: u119 :: u120 :: u121 :: u122 :: u123 :: u124 :: u125 :: u126 :: u127 :: u128 :: u129 :: u130 :: u131 :: u132 :: u133 :: u134 :: u135 :: u136 :: u137 :: u138 :: u139 :: u140 :: u141 :: u142 :: u143 :: u144 :: u145 :: u146 :: u147 :: u148 :: u149 :: u150 :: u151 :: u152 :: u153 :: u154 :: u155 :: u156 :: u157 :: u158 :: u159 :: u160 :: u161 :: u162 :: u163 :: u164 :: u165 :: u166 :: u167 :: u168 :: u169 :: u170 :: u171 :: u172 :: u173 :: u174 :: u175 :: u176 :: u177 :: u178 :: u179 :: u180 :: u181 :: u182 :: u183 :: u184 :: u185 :: u186 :: u187 :: u188 :: u189 :: u190 :: u191 :: u192 :: u193 :: u194 :: u195 :: u196 :: u197 :: u198 :: u199 :: u200 :: u201 :: u202 :: u203 :: u204 :: u205 :: []), []⟩ W := by
  obtain ⟨ad, had⟩ : ∃ ad : Option Addr, ad = if c = q + 1 then some ⟨b, off, none⟩ else some ⟨b, off + (q + 1) * 5, none⟩ := ⟨_, rfl⟩
  have bb : Below W.heap.size W (W.alloc (.cells mc 38)).drew := ((Below.refl _ _).alloc (Nat.le_refl _) _).drew
  have ow : OwnJ (W.alloc (.cells mc 38)).drew W.heap.size (.slice (some ⟨W.heap.size, 0, none⟩) 0 N) [] := HOwn.out W W.heap.size (Nat.le_refl _)
  have lt1 : (js.take q).length = q := by rw [List.length_take, HN.out]; omega
  have lt2 : (js.drop (q + 1)).length = N - (q + 1) := by rw [List.length_drop, HN.out]
  obtain ⟨p1, v1, W1, p2, p3, o1, s1⟩ := app_argJ (w := (W.alloc (.cells mc 38)).drew) (c := c) ow ((rd.keep bb).takeN q) lt1 bb.size (by simp; omega)
  have hb1 : Below W.heap.size W W1 := bb.trans s1.out.bel
  have rd2 : Rd 5 encJ W1 ad (js.drop (q + 1)) := by
    rcases Nat.eq_zero_or_pos (js.drop (q + 1)).length with h | h
    · intro h'; omega
    · rw [had, if_neg (by omega)]
      exact (rd.keep hb1).dropN (q + 1)
  obtain ⟨p4, v2, W2, p5, p6, o2, s2⟩ := app_argJ (c := c - (q + 1)) o1.out rd2 lt2 hb1.size (by rw [List.nil_append, lt1]; omega)
  have hb2 : Below W.heap.size W W2 := hb1.trans s2.out.bel
  have Had := Lib.hid had
  clear had rd rd2 o1 s1 s2 ow
  have hqz : (q : Int) ≤ (c : Int) := by omega
  have hqz1 : (q : Int) + 1 ≤ (N : Int) := by omega
  have hqz0 : (0 : Int) ≤ (q : Int) + 1 := by omega
  conv => arg 2; whnf
  refine region_z (S := fun w' => Below W.heap.size W w') [12] (by kernel_rfl) (Below.refl _ _).drew (fun hHeld => ?_)
  refine wpAnyZ_take (i := 0) (v := .slice (some ⟨b, off, none⟩) N c) [12] rfl (by kernel_rfl) (by kernel_rfl) (by kernel_rfl) (by kernel_rfl) (fun _ _ _ h => h) (Or.inl ⟨by rfl, fun w' hSw => ?_⟩) hHeld ?_
  · clear hHeld
    go_simp
  simp only [Act.put, List.setIfInBounds_toArray, List.set_cons_zero, List.set_cons_succ]
  refine wpAnyZ_take (i := 1) (v := .int .i64 N) [12] rfl (by kernel_rfl) (by kernel_rfl) (by kernel_rfl) (by kernel_rfl) (fun _ _ _ h => h) (Or.inl ⟨by rfl, fun w' hSw => ?_⟩) hHeld ?_
  · clear hHeld
    go_simp
  simp only [Act.put, List.setIfInBounds_toArray, List.set_cons_zero, List.set_cons_succ]
  refine wpAnyZ_take (i := 3) (v := .slice (some ⟨b, off, none⟩) N c) [12] rfl (by kernel_rfl) (by kernel_rfl) (by kernel_rfl) (by kernel_rfl) (fun _ _ _ h => h) (Or.inl ⟨by rfl, fun w' hSw => ?_⟩) hHeld ?_
  · clear hHeld
    go_simp
  simp only [Act.put, List.setIfInBounds_toArray, List.set_cons_zero, List.set_cons_succ]
  refine wpAnyZ_take (i := 4) (v := .int .i64 q) [12] rfl (by kernel_rfl) (by kernel_rfl) (by kernel_rfl) (by kernel_rfl) (fun _ _ _ h => h) (Or.inl ⟨by rfl, fun w' hSw => ?_⟩) hHeld ?_
  · clear hHeld
    go_simp
  simp only [Act.put, List.setIfInBounds_toArray, List.set_cons_zero, List.set_cons_succ]
  refine wpAnyZ_take (i := 5) (v := .slice (some ⟨b, off, none⟩) q c) [12] rfl (by kernel_rfl) (by kernel_rfl) (by kernel_rfl) (by kernel_rfl) (fun _ _ _ h => h) (Or.inl ⟨by rfl, fun w' hSw => ?_⟩) hHeld ?_
  · clear hHeld
    go_simp
  simp only [Act.put, List.setIfInBounds_toArray, List.set_cons_zero, List.set_cons_succ]
  refine wpAnyZ_take (i := 7) (v := .slice (some ⟨b, off, none⟩) N c) [12] rfl (by kernel_rfl) (by kernel_rfl) (by kernel_rfl) (by kernel_rfl) (fun _ _ _ h => h) (Or.inl ⟨by rfl, fun w' hSw => ?_⟩) hHeld ?_
  · clear hHeld
    go_simp
  simp only [Act.put, List.setIfInBounds_toArray, List.set_cons_zero, List.set_cons_succ]
  refine wpAnyZ_take (i := 8) (v := .int .i64 q) [12] rfl (by kernel_rfl) (by kernel_rfl) (by kernel_rfl) (by kernel_rfl) (fun _ _ _ h => h) (Or.inl ⟨by rfl, fun w' hSw => ?_⟩) hHeld ?_
  · clear hHeld
    go_simp
  simp only [Act.put, List.setIfInBounds_toArray, List.set_cons_zero, List.set_cons_succ]
  refine wpAnyZ_take (i := 9) (v := .int .i64 ((q : Int) + 1)) [12] rfl (by kernel_rfl) (by kernel_rfl) (by kernel_rfl) (by kernel_rfl) (fun _ _ _ h => h) (Or.inl ⟨by rfl, fun w' hSw => ?_⟩) hHeld ?_
  · clear hHeld
    go_simp
    exact wrap_fits (by omega) (by omega)
  simp only [Act.put, List.setIfInBounds_toArray, List.set_cons_zero, List.set_cons_succ]
  refine wpAnyZ_take (i := 10) (v := .slice ad (N - (q + 1)) (c - (q + 1))) [12] rfl (by kernel_rfl) (by kernel_rfl) (by kernel_rfl) (by kernel_rfl) (fun _ _ _ h => h) (Or.inl ⟨by rfl, fun w' hSw => ?_⟩) hHeld ?_
  · clear hHeld
    go_simp
    rw [← Had.out]
  simp only [Act.put, List.setIfInBounds_toArray, List.set_cons_zero, List.set_cons_succ]
  refine wpAnyZ_one (i := 2) (by kernel_rfl) rfl (fun K' hK => ?_)
  go_simp
  refine hK.out _ _ ?_ (fun hHeld => ?_)
  · exact hHeld.alloc hHeld.size _
  clear hK K'
  try simp only [Act.put, List.setIfInBounds_toArray, List.set_cons_zero, List.set_cons_succ]
  refine wpAnyZ_one (i := 6) (by kernel_rfl) rfl (fun K' hK => ?_)
  rw [if_pos (by rfl)]
  refine append_go rfl rfl p1 p2 p3 ?_
  refine hK.out _ _ ?_ (fun hHeld => ?_)
  · exact hb1
  clear hK K'
  try simp only [Act.put, List.setIfInBounds_toArray, List.set_cons_zero, List.set_cons_succ]
  refine wpAnyZ_one (i := 11) (by kernel_rfl) rfl (fun K' hK => ?_)
  rw [if_pos (by rfl)]
  refine append_go rfl rfl p4 p5 p6 ?_
  refine hK.out _ _ ?_ (fun hHeld => ?_)
  · exact hb2
  clear hK K'
  try simp only [Act.put, List.setIfInBounds_toArray, List.set_cons_zero, List.set_cons_succ]
  refine wpAnyZ_last (i := 12) (by kernel_rfl) rfl (by kernel_rfl) (fun K' hK => ?_)
  go_simp
  refine hK.out _ _ ?_
  clear hK K'
  try simp only [Act.put, List.setIfInBounds_toArray, List.set_cons_zero, List.set_cons_succ]
  refine wpAnyZ_done (by kernel_rfl) ?_ _
  clear hHeld
  exact HK.out _ _ _ _ _ _ _ _ _ _ _ _ _ _ (Lib.hid o2.out) (Lib.hid hb2)
end Go.Proofs.Ytickndjlhokppaa
