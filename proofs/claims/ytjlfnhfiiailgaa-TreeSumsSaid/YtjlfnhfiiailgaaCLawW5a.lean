/-
TreeOne: the plain law, and its drawn region.
-/
import Derived.Test.YtjlfnhfiiailgaaCLawW4
import Derived.Test.YtjlfnhfiiailgaaGBase
namespace Go.Proofs.Ytjlfnhfiiailgaa
open Go.RowKit
set_option linter.unusedVariables false
set_option linter.unusedSimpArgs false
/-- One current is greater. -/
def oneF (f : Nat → Int) (k : Nat) (d : Int) (i : Nat) : Int := if i = k then f k + d else f i
theorem loadS_one (s : GSite) (f : Nat → Int) (k : Nat) (d : Int) (n j : Nat) (hk : k < n) : loadS s (oneF f k d) n j = loadS s f n j + pick (onB s k (j / 3) (j % 3) = true) d := by
  have e : ∀ i, i < n → pick (onB s i (j / 3) (j % 3) = true) (oneF f k d i) = pick (onB s i (j / 3) (j % 3) = true) (f i) + (if i = k then pick (onB s k (j / 3) (j % 3) = true) d else 0) := fun i _ => by
    unfold oneF pick
    by_cases h : i = k
    · subst h
      rw [if_pos rfl, if_pos rfl]
      split <;> omega
    · rw [if_neg h, if_neg h]
      split <;> omega
  unfold loadS
  rw [S_congr e, S_add]
  congr 1
  rw [S_single hk (fun i _ h => if_neg h), if_pos rfl]
theorem loadS_none (s : GSite) (n j : Nat) : loadS s (fun _ => 0) n j = 0 := by
  unfold loadS
  rw [S_congr (h := fun _ => 0) (fun i _ => by unfold pick; split <;> rfl), S_zero]
theorem Own.rdC {w : World} {g : Nat} {t : TypeId} {c n : Nat} {F : Nat → Value} {f : Nat → Int} (h : Own w g t c F) (hn : n ≤ c) (hf : ∀ i, i < n → F i = .int .i64 (f i)) : Rd 1 encI w (some ⟨g, 0, none⟩) (ampL f n) := by
  refine h.rd (by rw [ampL_len]; omega) (fun _ => rfl) (fun k x hx j v hv => ?_)
  have hj : j = 0 := by have := (List.getElem?_eq_some_iff.1 hv).1; simp [encI] at this; exact this
  subst hj
  have hk : k < n := by have := (List.getElem?_eq_some_iff.1 hx).1; rw [ampL_len] at this; exact this
  have e := ampL_at f hk
  unfold fI at e
  rw [hx] at e
  simp [encI] at hv
  rw [Nat.mul_one, Nat.add_zero, ← hv, hf k hk]
  have e2 : x = f k := e
  rw [e2]
theorem ltLoads_rd (a1 a2 a3 a4 a5 : Option Addr) (n1 c1 n2 c2 n3 c3 n4 c4 n5 c5 : Nat) (A : Option Addr) (cA : Nat) (s : GSite) (f : Nat → Int) (w : World) (HS : RdSite w a1 a2 a3 a4 a5 n1 n2 n3 n4 n5 s) (hk : okSB keyL s = true) (HO : Rd 1 encI w A (ampL f n4)) (h : ∀ i, i < n4 → 0 ≤ f i ∧ f i ≤ 80) :
    Calls Try.prog 23 #[.agg #[.slice a1 n1 c1, .slice a2 n2 c2, .slice a3 n3 c3, .slice a4 n4 c4, .slice a5 n5 c5], .slice A n4 cA] w fun e w' => LaPost w n1 (loadS s f n4) e w' := by
  have h4 := HS.l4
  have h1 := HS.l1
  have hn : n4 ≤ 16 := by have := (okSB_iff.1 hk).n5; omega
  refine (ltLoads_any a1 a2 a3 a4 a5 n1 c1 n2 c2 n3 c3 n4 c4 n5 c5 A n4 cA s (ampL f n4) w (Lib.hid HS) (Lib.hid HO) (Lib.hid (ampL_len _ _)) (by omega)).mono ?_
  rintro e w' ⟨a, c, rfl, hr, hb⟩
  have e1 : loadsO s (ampL f n4) = (List.range n1).map (row3 (loadS s f n4)) := by
    have := loadsO_amp (s := s) (f := f) hk (by rw [h4]; exact h)
    rw [h4, h1] at this
    exact this
  have e2 : loadB s (ampL f n4) = true := by
    have := loadB_yes hk (curB_amp (s := s) (f := f) (by rw [h4]; exact h))
    rw [h4] at this
    exact this
  rw [e1] at hr
  refine ⟨a, c, ?_, hr, hb⟩
  rw [e1, e2, List.length_map, List.length_range]
noncomputable def toReg : Code := ((Try.f8.body.bind (findRegion 11)).getD .skip)
set_option maxHeartbeats 4000000 in
set_option maxRecDepth 100000 in
theorem toReg_ok (wc : World) (X g : Nat) (a1 : Option Addr) (n1 c1 : Nat) (a2 : Option Addr) (n2 c2 : Nat) (a3 : Option Addr) (n3 c3 : Nat) (a4 : Option Addr) (n4 c4 : Nat) (a5 : Option Addr) (n5 c5 : Nat) (s : GSite) (K : Act → World → Prop) (HS : Hid (RdSite wc a1 a2 a3 a4 a5 n1 n2 n3 n4 n5 s)) (hk : Hid (okSB keyL s = true)) (hn4 : n4 ≤ 16) (lX : X < wc.heap.size)
  (q0 : wc.cell? ⟨X, 0, none⟩ = some (.slice a1 n1 c1)) (q1 : wc.cell? ⟨X, 1, none⟩ = some (.slice a2 n2 c2)) (q2 : wc.cell? ⟨X, 2, none⟩ = some (.slice a3 n3 c3)) (q3 : wc.cell? ⟨X, 3, none⟩ = some (.slice a4 n4 c4)) (q4 : wc.cell? ⟨X, 4, none⟩ = some (.slice a5 n5 c5))
  (u0 u1 u2 u3 u5 u6 u7 u8 u9 u10 u12 u13 u14 u15 u16 u17 u18 u19 u20 u21 u22 u23 u24 u25 u26 u27 u28 u29 u30 u31 u32 u33 u34 u35 u36 u37 u38 u39 u40 u41 u42 u43 u44 u45 u46 u47 u48 u49 u50 u51 u52 u53 u54 u55 u56 u57 u58 u59 u60 u61 u62 u63 u64 u65 u66 u67 u68 u69 u70 u71 u72 u73 u74 u75 u76 u77 u78 u79 u80 u81 u82 u83 u84 u85 u86 u87 u88 u89 u90 u91 u92 u93 u94 u95 u96 u97 u98 u99 u100 u101 u102 u103 u104 u105 u106 u107 u108 u109 u110 u111 u112 u113 u114 u115 u116 u117 u118 u119 u120 u121 u122 u123 u124 u125 u126 u127 u128 u129 u130 u131 u132 u133 u134 u135 u136 u137 u138 u139 u140 u141 u142 u143 u144 u145 u146 u147 u148 u149 u150 u151 u152 u153 u154 : Value)
  (HK : Hid (∀ (W' : World) (pz : Option Addr) (cz : Nat) (v76 v77 v78 v79 v80 v81 v82 : Value), Rd 3 enc3 W' pz ((List.range n1).map (row3 (loadS s (fun _ => 0) n4))) → Below wc.heap.size wc W' → K ⟨List.toArray (u0 :: u1 :: u2 :: u3 :: (.pointer (some ⟨X, 0, none⟩)) :: u5 :: u6 :: u7 :: u8 :: u9 :: u10 :: (.slice (some ⟨g, 0, none⟩) n4 n4) :: u12 :: u13 :: u14 :: u15 :: u16 :: u17 :: (.slice pz n1 cz) :: (.bool true) :: u20 :: u21 :: u22 :: u23 :: u24 :: u25 :: u26 :: u27 :: u28 :: u29 :: u30 :: u31 :: u32 :: u33 :: u34 :: u35 :: u36 :: u37 :: u38 :: u39 :: u40 :: u41 :: u42 :: u43 :: u44 :: u45 :: u46 :: u47 :: u48 :: u49 :: u50 :: u51 :: u52 :: u53 :: u54 :: u55 :: u56 :: u57 :: u58 :: u59 :: u60 :: u61 :: u62 :: u63 :: u64 :: u65 :: u66 :: u67 :: u68 :: u69 :: u70 :: u71 :: u72 :: u73 :: u74 :: (.tuple #[.slice pz n1 cz, .bool true]) :: v76 :: v77 :: v78 :: v79 :: v80 :: v81 :: v82 :: u83 :: u84 :: u85 :: u86 :: u87 :: u88 :: u89 :: u90 :: u91 :: u92 :: u93 :: u94 :: u95 :: u96 :: u97 :: u98 :: u99 :: u100 :: u101 :: u102 :: u103 :: u104 :: u105 :: u106 :: u107 :: u108 :: u109 :: u110 :: u111 :: u112 :: u113 :: u114 :: u115 :: u116 :: u117 :: u118 :: u119 :: u120 :: u121 :: u122 :: u123 :: u124 :: u125 :: u126 :: u127 :: u128 :: u129 :: u130 :: u131 :: u132 :: u133 :: u134 :: u135 :: u136 :: u137 :: u138 :: u139 :: u140 :: u141 :: u142 :: u143 :: u144 :: u145 :: u146 :: u147 :: u148 :: u149 :: u150 :: u151 :: u152 :: u153 :: u154 :: []), []⟩ W')) :
  Code.wp Try.prog toReg (Exit.then K fun _ _ _ => False) ⟨List.toArray (u0 :: u1 :: u2 :: u3 :: (.pointer (some ⟨X, 0, none⟩)) :: u5 :: u6 :: u7 :: u8 :: u9 :: u10 :: (.slice (some ⟨g, 0, none⟩) n4 n4) :: u12 :: u13 :: u14 :: u15 :: u16 :: u17 :: u18 :: u19 :: u20 :: u21 :: u22 :: u23 :: u24 :: u25 :: u26 :: u27 :: u28 :: u29 :: u30 :: u31 :: u32 :: u33 :: u34 :: u35 :: u36 :: u37 :: u38 :: u39 :: u40 :: u41 :: u42 :: u43 :: u44 :: u45 :: u46 :: u47 :: u48 :: u49 :: u50 :: u51 :: u52 :: u53 :: u54 :: u55 :: u56 :: u57 :: u58 :: u59 :: u60 :: u61 :: u62 :: u63 :: u64 :: u65 :: u66 :: u67 :: u68 :: u69 :: u70 :: u71 :: u72 :: u73 :: u74 :: u75 :: u76 :: u77 :: u78 :: u79 :: u80 :: u81 :: u82 :: u83 :: u84 :: u85 :: u86 :: u87 :: u88 :: u89 :: u90 :: u91 :: u92 :: u93 :: u94 :: u95 :: u96 :: u97 :: u98 :: u99 :: u100 :: u101 :: u102 :: u103 :: u104 :: u105 :: u106 :: u107 :: u108 :: u109 :: u110 :: u111 :: u112 :: u113 :: u114 :: u115 :: u116 :: u117 :: u118 :: u119 :: u120 :: u121 :: u122 :: u123 :: u124 :: u125 :: u126 :: u127 :: u128 :: u129 :: u130 :: u131 :: u132 :: u133 :: u134 :: u135 :: u136 :: u137 :: u138 :: u139 :: u140 :: u141 :: u142 :: u143 :: u144 :: u145 :: u146 :: u147 :: u148 :: u149 :: u150 :: u151 :: u152 :: u153 :: u154 :: []), []⟩ wc := by
  conv => arg 2; whnf
  obtain ⟨W4, hmk, ho4, bw4, hsz4⟩ := mk_intsT n4 (by omega) wc.drew
  have HO4 := Lib.hid ho4
  have HB4 : Hid (Below wc.heap.size wc W4) := Lib.hid ((Below.refl _ wc).drew.trans bw4)
  clear ho4 bw4 hsz4
  refine region_z (S := fun w' => Below wc.heap.size wc w') [] (by kernel_rfl) (Below.refl _ _).drew (fun hHeld => ?_)
  refine wpAnyZ_take (i := 0) (v := (.agg #[.slice a1 n1 c1, .slice a2 n2 c2, .slice a3 n3 c3, .slice a4 n4 c4, .slice a5 n5 c5])) [] rfl (by kernel_rfl) (by kernel_rfl) (by kernel_rfl) (by kernel_rfl) (fun _ _ _ h => h) (Or.inl ⟨by kernel_rfl, fun w' hSw => ?_⟩) hHeld ?_
  · clear hHeld
    have s0 := (hSw.cell (p := ⟨X, 0, none⟩) lX).trans q0
    have s1 := (hSw.cell (p := ⟨X, 1, none⟩) lX).trans q1
    have s2 := (hSw.cell (p := ⟨X, 2, none⟩) lX).trans q2
    have s3 := (hSw.cell (p := ⟨X, 3, none⟩) lX).trans q3
    have s4 := (hSw.cell (p := ⟨X, 4, none⟩) lX).trans q4
    clear q0 q1 q2 q3 q4
    go_simp
  simp only [Act.put, List.getElem_toArray, List.getElem_cons_zero, List.getElem_cons_succ, List.setIfInBounds_toArray, List.set_cons_zero, List.set_cons_succ]
  refine wpAnyZ_take (i := 1) (v := (.slice (some ⟨g, 0, none⟩) n4 n4)) [] rfl (by kernel_rfl) (by kernel_rfl) (by kernel_rfl) (by kernel_rfl) (fun _ _ _ h => h) (Or.inl ⟨by kernel_rfl, fun w' hSw => ?_⟩) hHeld ?_
  · clear hHeld
    go_simp
  simp only [Act.put, List.getElem_toArray, List.getElem_cons_zero, List.getElem_cons_succ, List.setIfInBounds_toArray, List.set_cons_zero, List.set_cons_succ]
  refine wpAnyZ_take (i := 2) (v := (.int .i64 (n4 : Nat))) [] rfl (by kernel_rfl) (by kernel_rfl) (by kernel_rfl) (by kernel_rfl) (fun _ _ _ h => h) (Or.inl ⟨by kernel_rfl, fun w' hSw => ?_⟩) hHeld ?_
  · clear hHeld
    go_simp
  simp only [Act.put, List.getElem_toArray, List.getElem_cons_zero, List.getElem_cons_succ, List.setIfInBounds_toArray, List.set_cons_zero, List.set_cons_succ]
  refine wpAnyZ_one (i := 3) (by kernel_rfl) rfl (fun K' hK => ?_)
  go_simp
  refine hK.out _ _ ?_ (fun hHeld' => ?_)
  · exact HB4.out
  clear hK K' hHeld
  have hHeld := hHeld'
  clear hHeld'
  try simp only [Act.put, List.getElem_toArray, List.getElem_cons_zero, List.getElem_cons_succ, List.setIfInBounds_toArray, List.set_cons_zero, List.set_cons_succ]
  refine wpAnyZ_one (i := 4) (by kernel_rfl) rfl (fun K' hK => ?_)
  go_simp
  refine (ltLoads_rd a1 a2 a3 a4 a5 n1 c1 n2 c2 n3 c3 n4 c4 n5 c5 (some ⟨wc.heap.size, 0, none⟩) n4 s (fun _ => 0) W4 (HS.out.keep HB4.out) hk.out (Own.rdA (f := fun _ => 0) HO4.out) (fun _ _ => by omega)).mono ?_
  rintro e W5 ⟨pz, cz, rfl, hr, hb⟩
  have HR := Lib.hid hr
  have HB5 := Lib.hid (below_then HB4.out hb)
  refine hK.out _ _ ?_ (fun hHeld' => ?_)
  · exact HB5.out
  clear hK K' hHeld hr hb
  have hHeld := hHeld'
  clear hHeld'
  try simp only [Act.put, List.getElem_toArray, List.getElem_cons_zero, List.getElem_cons_succ, List.setIfInBounds_toArray, List.set_cons_zero, List.set_cons_succ]
  refine wpAnyZ_take (i := 5) (v := (.tuple #[.slice pz n1 cz, .bool true])) [] rfl (by kernel_rfl) (by kernel_rfl) (by kernel_rfl) (by kernel_rfl) (fun _ _ _ h => h) (Or.inl ⟨by kernel_rfl, fun w' hSw => ?_⟩) hHeld ?_
  · clear hHeld
    go_simp
  simp only [Act.put, List.getElem_toArray, List.getElem_cons_zero, List.getElem_cons_succ, List.setIfInBounds_toArray, List.set_cons_zero, List.set_cons_succ]
  refine wpAnyZ_take (i := 6) (v := (.slice pz n1 cz)) [] rfl (by kernel_rfl) (by kernel_rfl) (by kernel_rfl) (by kernel_rfl) (fun _ _ _ h => h) (Or.inl ⟨by kernel_rfl, fun w' hSw => ?_⟩) hHeld ?_
  · clear hHeld
    go_simp
  simp only [Act.put, List.getElem_toArray, List.getElem_cons_zero, List.getElem_cons_succ, List.setIfInBounds_toArray, List.set_cons_zero, List.set_cons_succ]
  refine wpAnyZ_take (i := 7) (v := (.bool true)) [] rfl (by kernel_rfl) (by kernel_rfl) (by kernel_rfl) (by kernel_rfl) (fun _ _ _ h => h) (Or.inl ⟨by kernel_rfl, fun w' hSw => ?_⟩) hHeld ?_
  · clear hHeld
    go_simp
  simp only [Act.put, List.getElem_toArray, List.getElem_cons_zero, List.getElem_cons_succ, List.setIfInBounds_toArray, List.set_cons_zero, List.set_cons_succ]
  refine wpAnyZ_take (i := 8) (v := (.slice pz n1 cz)) [] rfl (by kernel_rfl) (by kernel_rfl) (by kernel_rfl) (by kernel_rfl) (fun _ _ _ h => h) (Or.inl ⟨by kernel_rfl, fun w' hSw => ?_⟩) hHeld ?_
  · clear hHeld
    go_simp
  simp only [Act.put, List.getElem_toArray, List.getElem_cons_zero, List.getElem_cons_succ, List.setIfInBounds_toArray, List.set_cons_zero, List.set_cons_succ]
  refine wpAnyZ_take (i := 9) (v := (.bool true)) [] rfl (by kernel_rfl) (by kernel_rfl) (by kernel_rfl) (by kernel_rfl) (fun _ _ _ h => h) (Or.inl ⟨by kernel_rfl, fun w' hSw => ?_⟩) hHeld ?_
  · clear hHeld
    go_simp
  simp only [Act.put, List.getElem_toArray, List.getElem_cons_zero, List.getElem_cons_succ, List.setIfInBounds_toArray, List.set_cons_zero, List.set_cons_succ]
  refine wpAnyZ_done (by kernel_rfl) ?_ _
  go_step
  exact HK.out _ _ _ _ _ _ _ _ _ _ HR.out hHeld
end Go.Proofs.Ytjlfnhfiiailgaa
