/-
Several texts in one: RefD0, RefD.
-/
import Derived.Test.YtbjmpfchapggfaaGLRefA
import Derived.IntWalk
/-
The guarded drawn region of the reference's Loads.
-/
namespace Go.Proofs.Ytbjmpfchapggfaa
open Go.RowKit
set_option linter.unusedVariables false
set_option linter.unusedSimpArgs false
noncomputable def rlReg : Code := ((Try.f29.body.bind (findRegion 13)).getD .skip)
theorem onB_eq (s : GSite) (i k p : Nat) : onB s i k p = (bitP (phOf s i) p && decide (((k : Nat) : Int) ∈ pthI s.cons (placeOf s i))) := by
  unfold onB pthI
  congr 1
  rw [decide_eq_decide]
  constructor
  · intro h; exact List.mem_map.2 ⟨k, h, rfl⟩
  · intro h
    obtain ⟨x, hx, e⟩ := List.mem_map.1 h
    have : x = k := by omega
    rw [← this]; exact hx
set_option maxHeartbeats 4000000 in
set_option maxRecDepth 100000 in
theorem rlReg_ok (wc : World) (bs b off : Nat) (a1 a2 a3 a5 : Option Addr) (n1 c1 n2 c2 n3 c3 n4 c4 n5 c5 k i p : Nat) (g : GChg) (s : GSite) (K : Act → World → Prop) (lbs : bs < wc.heap.size) (hbl : b < wc.heap.size)
  (q0 : wc.cell? ⟨bs, 0, none⟩ = some (.slice a1 n1 c1)) (q1 : wc.cell? ⟨bs, 1, none⟩ = some (.slice a2 n2 c2)) (q2 : wc.cell? ⟨bs, 2, none⟩ = some (.slice a3 n3 c3)) (q3 : wc.cell? ⟨bs, 3, none⟩ = some (.slice (some ⟨b, off, none⟩) n4 c4)) (q4 : wc.cell? ⟨bs, 4, none⟩ = some (.slice a5 n5 c5))
  (e0 : wc.cell? ⟨b, off + i * 8, none⟩ = some (.string g.name)) (e1 : wc.cell? ⟨b, off + i * 8 + 1, none⟩ = some (.int .i64 g.place)) (e2 : wc.cell? ⟨b, off + i * 8 + 2, none⟩ = some (.int .i64 g.ph)) (e3 : wc.cell? ⟨b, off + i * 8 + 3, none⟩ = some (.int .i64 g.mn)) (e4 : wc.cell? ⟨b, off + i * 8 + 4, none⟩ = some (.int .i64 g.mx)) (e5 : wc.cell? ⟨b, off + i * 8 + 5, none⟩ = some (.int .i64 g.step)) (e6 : wc.cell? ⟨b, off + i * 8 + 6, none⟩ = some (.int .i64 g.fb)) (e7 : wc.cell? ⟨b, off + i * 8 + 7, none⟩ = some (.int .i64 g.own))
  (HR : Hid (Rd 11 encCon wc a1 s.cons)) (HU : Hid (OkUps s.cons)) (HPL : Hid (placeOf s i < s.cons.length ∧ ((placeOf s i : Nat) : Int) = g.place)) (HPH : Hid (phOf s i = g.ph ∧ 1 ≤ g.ph ∧ g.ph ≤ 7)) (HN1 : Hid (s.cons.length = n1 ∧ n1 ≤ 16)) (hp : p < 3) (hi : i < n4) (hin : (i : Int) < (n4 : Int)) (hn4 : n4 ≤ 16)
  (u0 u1 u3 u4 u5 u6 u10 u11 u12 u13 u14 u15 u16 u17 u18 u19 u20 u21 u22 u23 u24 u25 u26 u27 u28 u29 u30 u31 u32 u33 u34 u35 u36 u37 u38 u39 u40 u41 u42 u43 u44 u45 u46 u47 u48 u49 u50 u51 u52 u53 u54 u55 u56 u57 u58 u59 u60 u61 u62 u63 u64 u65 u66 u67 u68 u69 u70 u71 u72 u73 u74 u75 : Value)
  (HK : Hid (∀ (W' : World) (v41 v42 v43 v44 v45 v46 v47 v48 v49 v50 v51 v52 v53 v54 v55 v56 v57 : Value), Below wc.heap.size wc W' → K ⟨List.toArray (u0 :: u1 :: (.pointer (some ⟨bs, 0, none⟩)) :: u3 :: u4 :: u5 :: u6 :: (.int .i64 (k : Nat)) :: (.int .i64 (i : Nat)) :: (.int .i64 (p : Nat)) :: u10 :: u11 :: u12 :: u13 :: u14 :: u15 :: u16 :: u17 :: u18 :: u19 :: u20 :: u21 :: u22 :: u23 :: u24 :: u25 :: u26 :: u27 :: u28 :: u29 :: u30 :: u31 :: u32 :: u33 :: u34 :: u35 :: u36 :: u37 :: u38 :: u39 :: u40 :: v41 :: v42 :: v43 :: v44 :: v45 :: v46 :: v47 :: v48 :: v49 :: v50 :: v51 :: v52 :: v53 :: v54 :: v55 :: v56 :: v57 :: (.bool (onB s i k p)) :: u59 :: u60 :: u61 :: u62 :: u63 :: u64 :: u65 :: u66 :: u67 :: u68 :: u69 :: u70 :: u71 :: u72 :: u73 :: u74 :: u75 :: []), []⟩ W')) :
  Code.wp Try.prog rlReg (Exit.then K fun _ _ _ => False) ⟨List.toArray (u0 :: u1 :: (.pointer (some ⟨bs, 0, none⟩)) :: u3 :: u4 :: u5 :: u6 :: (.int .i64 (k : Nat)) :: (.int .i64 (i : Nat)) :: (.int .i64 (p : Nat)) :: u10 :: u11 :: u12 :: u13 :: u14 :: u15 :: u16 :: u17 :: u18 :: u19 :: u20 :: u21 :: u22 :: u23 :: u24 :: u25 :: u26 :: u27 :: u28 :: u29 :: u30 :: u31 :: u32 :: u33 :: u34 :: u35 :: u36 :: u37 :: u38 :: u39 :: u40 :: u41 :: u42 :: u43 :: u44 :: u45 :: u46 :: u47 :: u48 :: u49 :: u50 :: u51 :: u52 :: u53 :: u54 :: u55 :: u56 :: u57 :: u58 :: u59 :: u60 :: u61 :: u62 :: u63 :: u64 :: u65 :: u66 :: u67 :: u68 :: u69 :: u70 :: u71 :: u72 :: u73 :: u74 :: u75 :: []), []⟩ wc := by
  conv => arg 2; whnf
  refine region_z (S := fun w' => Below wc.heap.size wc w') [] (by kernel_rfl) (Below.refl _ _).drew (fun hHeld => ?_)
  rw [onB_eq] at HK
  refine wpAnyZ_take (i := 0) (v := (.pointer (some ⟨bs, 3, none⟩))) [] rfl (by kernel_rfl) (by kernel_rfl) (by kernel_rfl) (by kernel_rfl) (fun _ _ _ h => h) (Or.inl ⟨by kernel_rfl, fun w' hSw => ?_⟩) hHeld ?_
  · clear hHeld
    go_simp
  simp only [Act.put, List.getElem_toArray, List.getElem_cons_zero, List.getElem_cons_succ, List.setIfInBounds_toArray, List.set_cons_zero, List.set_cons_succ]
  refine wpAnyZ_take (i := 1) (v := (.slice (some ⟨b, off, none⟩) n4 c4)) [] rfl (by kernel_rfl) (by kernel_rfl) (by kernel_rfl) (by kernel_rfl) (fun _ _ _ h => h) (Or.inl ⟨by kernel_rfl, fun w' hSw => ?_⟩) hHeld ?_
  · clear hHeld
    have s0 := (hSw.cell (p := ⟨bs, 3, none⟩) lbs).trans q3
    go_simp
  simp only [Act.put, List.getElem_toArray, List.getElem_cons_zero, List.getElem_cons_succ, List.setIfInBounds_toArray, List.set_cons_zero, List.set_cons_succ]
  refine wpAnyZ_take (i := 2) (v := (.int .i64 (i : Nat))) [] rfl (by kernel_rfl) (by kernel_rfl) (by kernel_rfl) (by kernel_rfl) (fun _ _ _ h => h) (Or.inl ⟨by kernel_rfl, fun w' hSw => ?_⟩) hHeld ?_
  · clear hHeld
    go_simp
  simp only [Act.put, List.getElem_toArray, List.getElem_cons_zero, List.getElem_cons_succ, List.setIfInBounds_toArray, List.set_cons_zero, List.set_cons_succ]
  refine wpAnyZ_take (i := 3) (v := (.pointer (some ⟨b, off + i * 8, none⟩))) [] rfl (by kernel_rfl) (by kernel_rfl) (by kernel_rfl) (by kernel_rfl) (fun _ _ _ h => h) (Or.inl ⟨by kernel_rfl, fun w' hSw => ?_⟩) hHeld ?_
  · clear hHeld
    go_simp
  simp only [Act.put, List.getElem_toArray, List.getElem_cons_zero, List.getElem_cons_succ, List.setIfInBounds_toArray, List.set_cons_zero, List.set_cons_succ]
  refine wpAnyZ_take (i := 4) (v := (.agg #[.string g.name, .int .i64 g.place, .int .i64 g.ph, .int .i64 g.mn, .int .i64 g.mx, .int .i64 g.step, .int .i64 g.fb, .int .i64 g.own])) [] rfl (by kernel_rfl) (by kernel_rfl) (by kernel_rfl) (by kernel_rfl) (fun _ _ _ h => h) (Or.inl ⟨by kernel_rfl, fun w' hSw => ?_⟩) hHeld ?_
  · clear hHeld
    have s0 := (hSw.cell (p := ⟨b, off + i * 8, none⟩) hbl).trans e0
    have s1 := (hSw.cell (p := ⟨b, off + i * 8 + 1, none⟩) hbl).trans e1
    have s2 := (hSw.cell (p := ⟨b, off + i * 8 + 2, none⟩) hbl).trans e2
    have s3 := (hSw.cell (p := ⟨b, off + i * 8 + 3, none⟩) hbl).trans e3
    have s4 := (hSw.cell (p := ⟨b, off + i * 8 + 4, none⟩) hbl).trans e4
    have s5 := (hSw.cell (p := ⟨b, off + i * 8 + 5, none⟩) hbl).trans e5
    have s6 := (hSw.cell (p := ⟨b, off + i * 8 + 6, none⟩) hbl).trans e6
    have s7 := (hSw.cell (p := ⟨b, off + i * 8 + 7, none⟩) hbl).trans e7
    go_simp
  simp only [Act.put, List.getElem_toArray, List.getElem_cons_zero, List.getElem_cons_succ, List.setIfInBounds_toArray, List.set_cons_zero, List.set_cons_succ]
  refine wpAnyZ_take (i := 5) (v := (.int .i64 (p : Nat))) [] rfl (by kernel_rfl) (by kernel_rfl) (by kernel_rfl) (by kernel_rfl) (fun _ _ _ h => h) (Or.inl ⟨by kernel_rfl, fun w' hSw => ?_⟩) hHeld ?_
  · clear hHeld
    go_simp
  simp only [Act.put, List.getElem_toArray, List.getElem_cons_zero, List.getElem_cons_succ, List.setIfInBounds_toArray, List.set_cons_zero, List.set_cons_succ]
  refine wpAnyZ_one (i := 6) (by kernel_rfl) rfl (fun K' hK => ?_)
  go_simp
  refine (r8Uses_any g.name g.place g.ph g.mn g.mx g.step g.fb g.own p hp HPH.out.2 _).mono ?_
  rintro e w5 ⟨rfl, hb5⟩
  refine hK.out _ _ ?_ (fun hHeld' => ?_)
  · exact below_then hHeld hb5
  clear hK K' hb5 hHeld
  have hHeld := hHeld'
  clear hHeld'
  try simp only [Act.put, List.getElem_toArray, List.getElem_cons_zero, List.getElem_cons_succ, List.setIfInBounds_toArray, List.set_cons_zero, List.set_cons_succ]
  rw [HPH.out.1] at HK
  obtain ⟨z, hz⟩ : ∃ z, bitP g.ph p = z := ⟨_, rfl⟩
  rw [hz] at HK ⊢
  have HZ := Lib.hid hz
  clear hz
  cases z
  · simp only [Bool.false_and] at HK
    refine wpAnyZ_take (i := 7) (v := (.bool false)) [] rfl (by kernel_rfl) (by kernel_rfl) (by kernel_rfl) (by kernel_rfl) (fun _ _ _ h => h) (Or.inl ⟨by kernel_rfl, fun w' hSw => ?_⟩) hHeld ?_
    · clear hHeld
      go_simp
    simp only [Act.put, List.getElem_toArray, List.getElem_cons_zero, List.getElem_cons_succ, List.setIfInBounds_toArray, List.set_cons_zero, List.set_cons_succ]
    refine wpAnyZ_take (i := 8) (v := undef) [] rfl (by kernel_rfl) (by kernel_rfl) (by kernel_rfl) (by kernel_rfl) (fun _ _ _ h => h) (Or.inr ⟨by kernel_rfl, rfl⟩) hHeld ?_
    simp only [Act.put, List.getElem_toArray, List.getElem_cons_zero, List.getElem_cons_succ, List.setIfInBounds_toArray, List.set_cons_zero, List.set_cons_succ]
    refine wpAnyZ_take (i := 9) (v := undef) [] rfl (by kernel_rfl) (by kernel_rfl) (by kernel_rfl) (by kernel_rfl) (fun _ _ _ h => h) (Or.inr ⟨by kernel_rfl, rfl⟩) hHeld ?_
    simp only [Act.put, List.getElem_toArray, List.getElem_cons_zero, List.getElem_cons_succ, List.setIfInBounds_toArray, List.set_cons_zero, List.set_cons_succ]
    refine wpAnyZ_take (i := 10) (v := undef) [] rfl (by kernel_rfl) (by kernel_rfl) (by kernel_rfl) (by kernel_rfl) (fun _ _ _ h => h) (Or.inr ⟨by kernel_rfl, rfl⟩) hHeld ?_
    simp only [Act.put, List.getElem_toArray, List.getElem_cons_zero, List.getElem_cons_succ, List.setIfInBounds_toArray, List.set_cons_zero, List.set_cons_succ]
    refine wpAnyZ_take (i := 11) (v := undef) [] rfl (by kernel_rfl) (by kernel_rfl) (by kernel_rfl) (by kernel_rfl) (fun _ _ _ h => h) (Or.inr ⟨by kernel_rfl, rfl⟩) hHeld ?_
    simp only [Act.put, List.getElem_toArray, List.getElem_cons_zero, List.getElem_cons_succ, List.setIfInBounds_toArray, List.set_cons_zero, List.set_cons_succ]
    refine wpAnyZ_take (i := 12) (v := undef) [] rfl (by kernel_rfl) (by kernel_rfl) (by kernel_rfl) (by kernel_rfl) (fun _ _ _ h => h) (Or.inr ⟨by kernel_rfl, rfl⟩) hHeld ?_
    simp only [Act.put, List.getElem_toArray, List.getElem_cons_zero, List.getElem_cons_succ, List.setIfInBounds_toArray, List.set_cons_zero, List.set_cons_succ]
    refine wpAnyZ_take (i := 13) (v := undef) [] rfl (by kernel_rfl) (by kernel_rfl) (by kernel_rfl) (by kernel_rfl) (fun _ _ _ h => h) (Or.inr ⟨by kernel_rfl, rfl⟩) hHeld ?_
    simp only [Act.put, List.getElem_toArray, List.getElem_cons_zero, List.getElem_cons_succ, List.setIfInBounds_toArray, List.set_cons_zero, List.set_cons_succ]
    refine wpAnyZ_take (i := 14) (v := undef) [] rfl (by kernel_rfl) (by kernel_rfl) (by kernel_rfl) (by kernel_rfl) (fun _ _ _ h => h) (Or.inr ⟨by kernel_rfl, rfl⟩) hHeld ?_
    simp only [Act.put, List.getElem_toArray, List.getElem_cons_zero, List.getElem_cons_succ, List.setIfInBounds_toArray, List.set_cons_zero, List.set_cons_succ]
    refine wpAnyZ_take (i := 15) (v := undef) [] rfl (by kernel_rfl) (by kernel_rfl) (by kernel_rfl) (by kernel_rfl) (fun _ _ _ h => h) (Or.inr ⟨by kernel_rfl, rfl⟩) hHeld ?_
    simp only [Act.put, List.getElem_toArray, List.getElem_cons_zero, List.getElem_cons_succ, List.setIfInBounds_toArray, List.set_cons_zero, List.set_cons_succ]
    refine wpAnyZ_take (i := 16) (v := undef) [] rfl (by kernel_rfl) (by kernel_rfl) (by kernel_rfl) (by kernel_rfl) (fun _ _ _ h => h) (Or.inr ⟨by kernel_rfl, rfl⟩) hHeld ?_
    simp only [Act.put, List.getElem_toArray, List.getElem_cons_zero, List.getElem_cons_succ, List.setIfInBounds_toArray, List.set_cons_zero, List.set_cons_succ]
    refine wpAnyZ_take (i := 17) (v := (.bool false)) [] rfl (by kernel_rfl) (by kernel_rfl) (by kernel_rfl) (by kernel_rfl) (fun _ _ _ h => h) (Or.inl ⟨by kernel_rfl, fun w' hSw => ?_⟩) hHeld ?_
    · clear hHeld
      go_simp
    simp only [Act.put, List.getElem_toArray, List.getElem_cons_zero, List.getElem_cons_succ, List.setIfInBounds_toArray, List.set_cons_zero, List.set_cons_succ]
    refine wpAnyZ_done (by kernel_rfl) ?_ _
    go_step
    exact HK.out _ _ _ _ _ _ _ _ _ _ _ _ _ _ _ _ _ _ hHeld
  · simp only [Bool.true_and] at HK
    refine wpAnyZ_take (i := 7) (v := (.bool true)) [] rfl (by kernel_rfl) (by kernel_rfl) (by kernel_rfl) (by kernel_rfl) (fun _ _ _ h => h) (Or.inl ⟨by kernel_rfl, fun w' hSw => ?_⟩) hHeld ?_
    · clear hHeld
      go_simp
    simp only [Act.put, List.getElem_toArray, List.getElem_cons_zero, List.getElem_cons_succ, List.setIfInBounds_toArray, List.set_cons_zero, List.set_cons_succ]
    refine wpAnyZ_take (i := 8) (v := (.agg #[.slice a1 n1 c1, .slice a2 n2 c2, .slice a3 n3 c3, .slice (some ⟨b, off, none⟩) n4 c4, .slice a5 n5 c5])) [] rfl (by kernel_rfl) (by kernel_rfl) (by kernel_rfl) (by kernel_rfl) (fun _ _ _ h => h) (Or.inl ⟨by kernel_rfl, fun w' hSw => ?_⟩) hHeld ?_
    · clear hHeld
      have s0 := (hSw.cell (p := ⟨bs, 0, none⟩) lbs).trans q0
      have s1 := (hSw.cell (p := ⟨bs, 1, none⟩) lbs).trans q1
      have s2 := (hSw.cell (p := ⟨bs, 2, none⟩) lbs).trans q2
      have s3 := (hSw.cell (p := ⟨bs, 3, none⟩) lbs).trans q3
      have s4 := (hSw.cell (p := ⟨bs, 4, none⟩) lbs).trans q4
      go_simp
    simp only [Act.put, List.getElem_toArray, List.getElem_cons_zero, List.getElem_cons_succ, List.setIfInBounds_toArray, List.set_cons_zero, List.set_cons_succ]
    refine wpAnyZ_take (i := 9) (v := (.int .i64 (k : Nat))) [] rfl (by kernel_rfl) (by kernel_rfl) (by kernel_rfl) (by kernel_rfl) (fun _ _ _ h => h) (Or.inl ⟨by kernel_rfl, fun w' hSw => ?_⟩) hHeld ?_
    · clear hHeld
      go_simp
    simp only [Act.put, List.getElem_toArray, List.getElem_cons_zero, List.getElem_cons_succ, List.setIfInBounds_toArray, List.set_cons_zero, List.set_cons_succ]
    refine wpAnyZ_take (i := 10) (v := (.pointer (some ⟨bs, 3, none⟩))) [] rfl (by kernel_rfl) (by kernel_rfl) (by kernel_rfl) (by kernel_rfl) (fun _ _ _ h => h) (Or.inl ⟨by kernel_rfl, fun w' hSw => ?_⟩) hHeld ?_
    · clear hHeld
      go_simp
    simp only [Act.put, List.getElem_toArray, List.getElem_cons_zero, List.getElem_cons_succ, List.setIfInBounds_toArray, List.set_cons_zero, List.set_cons_succ]
    refine wpAnyZ_take (i := 11) (v := (.slice (some ⟨b, off, none⟩) n4 c4)) [] rfl (by kernel_rfl) (by kernel_rfl) (by kernel_rfl) (by kernel_rfl) (fun _ _ _ h => h) (Or.inl ⟨by kernel_rfl, fun w' hSw => ?_⟩) hHeld ?_
    · clear hHeld
      have s0 := (hSw.cell (p := ⟨bs, 3, none⟩) lbs).trans q3
      go_simp
    simp only [Act.put, List.getElem_toArray, List.getElem_cons_zero, List.getElem_cons_succ, List.setIfInBounds_toArray, List.set_cons_zero, List.set_cons_succ]
    refine wpAnyZ_take (i := 12) (v := (.int .i64 (i : Nat))) [] rfl (by kernel_rfl) (by kernel_rfl) (by kernel_rfl) (by kernel_rfl) (fun _ _ _ h => h) (Or.inl ⟨by kernel_rfl, fun w' hSw => ?_⟩) hHeld ?_
    · clear hHeld
      go_simp
    simp only [Act.put, List.getElem_toArray, List.getElem_cons_zero, List.getElem_cons_succ, List.setIfInBounds_toArray, List.set_cons_zero, List.set_cons_succ]
    refine wpAnyZ_take (i := 13) (v := (.pointer (some ⟨b, off + i * 8, none⟩))) [] rfl (by kernel_rfl) (by kernel_rfl) (by kernel_rfl) (by kernel_rfl) (fun _ _ _ h => h) (Or.inl ⟨by kernel_rfl, fun w' hSw => ?_⟩) hHeld ?_
    · clear hHeld
      go_simp
    simp only [Act.put, List.getElem_toArray, List.getElem_cons_zero, List.getElem_cons_succ, List.setIfInBounds_toArray, List.set_cons_zero, List.set_cons_succ]
    refine wpAnyZ_take (i := 14) (v := (.pointer (some ⟨b, off + i * 8 + 1, none⟩))) [] rfl (by kernel_rfl) (by kernel_rfl) (by kernel_rfl) (by kernel_rfl) (fun _ _ _ h => h) (Or.inl ⟨by kernel_rfl, fun w' hSw => ?_⟩) hHeld ?_
    · clear hHeld
      go_simp
    simp only [Act.put, List.getElem_toArray, List.getElem_cons_zero, List.getElem_cons_succ, List.setIfInBounds_toArray, List.set_cons_zero, List.set_cons_succ]
    refine wpAnyZ_take (i := 15) (v := (.int .i64 g.place)) [] rfl (by kernel_rfl) (by kernel_rfl) (by kernel_rfl) (by kernel_rfl) (fun _ _ _ h => h) (Or.inl ⟨by kernel_rfl, fun w' hSw => ?_⟩) hHeld ?_
    · clear hHeld
      have s0 := (hSw.cell (p := ⟨b, off + i * 8 + 1, none⟩) hbl).trans e1
      go_simp
    simp only [Act.put, List.getElem_toArray, List.getElem_cons_zero, List.getElem_cons_succ, List.setIfInBounds_toArray, List.set_cons_zero, List.set_cons_succ]
    refine wpAnyZ_one (i := 16) (by kernel_rfl) rfl (fun K' hK => ?_)
    go_simp
    rw [← HPL.out.2]
    refine (r8On_any a1 a2 a3 (some ⟨b, off, none⟩) a5 n1 c1 n2 c2 n3 c3 n4 c4 n5 c5 s.cons HU.out (placeOf s i) HPL.out.1 HN1.out.1 HN1.out.2 ((k : Nat) : Int) _ (HR.out.keep hHeld)).mono ?_
    rintro e w5 ⟨rfl, hb5⟩
    refine hK.out _ _ ?_ (fun hHeld' => ?_)
    · exact below_then hHeld hb5
    clear hK K' hb5 hHeld
    have hHeld := hHeld'
    clear hHeld'
    try simp only [Act.put, List.getElem_toArray, List.getElem_cons_zero, List.getElem_cons_succ, List.setIfInBounds_toArray, List.set_cons_zero, List.set_cons_succ]
    refine wpAnyZ_take (i := 17) (v := (.bool (decide (((k : Nat) : Int) ∈ pthI s.cons (placeOf s i))))) [] rfl (by kernel_rfl) (by kernel_rfl) (by kernel_rfl) (by kernel_rfl) (fun _ _ _ h => h) (Or.inl ⟨by kernel_rfl, fun w' hSw => ?_⟩) hHeld ?_
    · clear hHeld
      go_simp
    simp only [Act.put, List.getElem_toArray, List.getElem_cons_zero, List.getElem_cons_succ, List.setIfInBounds_toArray, List.set_cons_zero, List.set_cons_succ]
    refine wpAnyZ_done (by kernel_rfl) ?_ _
    go_step
    exact HK.out _ _ _ _ _ _ _ _ _ _ _ _ _ _ _ _ _ _ hHeld
end Go.Proofs.Ytbjmpfchapggfaa
/-
The reference: Loads.
-/
namespace Go.Proofs.Ytbjmpfchapggfaa
open Go.RowKit
set_option linter.unusedVariables false
set_option linter.unusedSimpArgs false
/-- The loads in the middle of the reference's three loops. -/
def gL (s : GSite) (am : Nat → Int) (n k i p j : Nat) : Int := if j / 3 < k then loadS s am n j else if j / 3 = k then loadS s am (if j % 3 < p then i + 1 else i) j else 0
theorem gL_zero (s : GSite) (am : Nat → Int) (n j : Nat) : gL s am n 0 0 0 j = 0 := by
  unfold gL
  rw [if_neg (by omega)]
  by_cases h : j / 3 = 0
  · rw [if_pos h, if_neg (by omega)]; rfl
  · rw [if_neg h]
theorem gL_at (s : GSite) (am : Nat → Int) (n k i p : Nat) (hp : p < 3) : gL s am n k i p (k * 3 + p) = loadS s am i (k * 3 + p) := by
  unfold gL
  rw [if_neg (by omega), if_pos (by omega), if_neg (by omega)]
theorem loadS_succ (s : GSite) (am : Nat → Int) (i j : Nat) : loadS s am (i + 1) j = loadS s am i j + pick (onB s i (j / 3) (j % 3) = true) (am i) := by unfold loadS; rw [S_succ]
theorem gL_no {s : GSite} {am : Nat → Int} {n k i p : Nat} (hp : p < 3) (h : onB s i k p = false) (j : Nat) : gL s am n k i (p + 1) j = gL s am n k i p j := by
  unfold gL
  by_cases h1 : j / 3 < k
  · rw [if_pos h1, if_pos h1]
  rw [if_neg h1, if_neg h1]
  by_cases h2 : j / 3 = k
  · rw [if_pos h2, if_pos h2]
    by_cases h3 : j % 3 = p
    · rw [if_pos (by omega), if_neg (by omega), loadS_succ, h2, h3, pick_neg (by rw [h]; simp), Int.add_zero]
    · by_cases h4 : j % 3 < p
      · rw [if_pos (by omega), if_pos h4]
      · rw [if_neg (by omega), if_neg h4]
  · rw [if_neg h2, if_neg h2]
theorem gL_yes {s : GSite} {am : Nat → Int} {n k i p : Nat} (hp : p < 3) (h : onB s i k p = true) (j : Nat) : gL s am n k i (p + 1) j = if j = k * 3 + p then loadS s am i (k * 3 + p) + am i else gL s am n k i p j := by
  by_cases e : j = k * 3 + p
  · subst e
    rw [if_pos rfl]
    unfold gL
    rw [if_neg (by omega), if_pos (by omega), if_pos (by omega), loadS_succ, show (k * 3 + p) / 3 = k by omega, show (k * 3 + p) % 3 = p by omega, pick_pos h]
  · rw [if_neg e]
    unfold gL
    by_cases h1 : j / 3 < k
    · rw [if_pos h1, if_pos h1]
    rw [if_neg h1, if_neg h1]
    by_cases h2 : j / 3 = k
    · rw [if_pos h2, if_pos h2]
      by_cases h4 : j % 3 < p
      · rw [if_pos (by omega), if_pos h4]
      · rw [if_neg (by omega), if_neg h4]
    · rw [if_neg h2, if_neg h2]
theorem gL_three (s : GSite) (am : Nat → Int) (n k i j : Nat) : gL s am n k i 3 j = gL s am n k (i + 1) 0 j := by
  unfold gL
  rw [if_pos (show j % 3 < 3 by omega), if_neg (show ¬ j % 3 < 0 by omega)]
theorem gL_row (s : GSite) (am : Nat → Int) (n k j : Nat) : gL s am n k n 0 j = gL s am n (k + 1) 0 0 j := by
  unfold gL
  rw [if_neg (show ¬ j % 3 < 0 by omega), if_neg (show ¬ j % 3 < 0 by omega)]
  by_cases h1 : j / 3 < k
  · rw [if_pos h1, if_pos (by omega)]
  rw [if_neg h1]
  by_cases h2 : j / 3 = k
  · rw [if_pos h2, if_pos (by omega)]
  · rw [if_neg h2, if_neg (by omega)]
    by_cases h3 : j / 3 = k + 1
    · rw [if_pos h3]; rfl
    · rw [if_neg h3]
theorem gL_end (s : GSite) (am : Nat → Int) (n m j : Nat) (hj : j < m * 3) : gL s am n m 0 0 j = loadS s am n j := by
  unfold gL
  rw [if_pos (by omega)]
set_option maxHeartbeats 8000000 in
set_option maxRecDepth 100000 in
theorem r8Loads_any (a1 a2 a3 a4 a5 : Option Addr) (n1 c1 n2 c2 n3 c3 n4 c4 n5 c5 : Nat) (aA : Option Addr) (nA cA : Nat) (s : GSite) (xs : List Int) (w : World) (HS : Hid (RdSite w a1 a2 a3 a4 a5 n1 n2 n3 n4 n5 s)) (HX : Hid (Rd 1 encI w aA xs)) (HNA : Hid (xs.length = nA)) (hnA : nA ≤ 9223372036854775807) :
    Calls Try.prog 29 #[.agg #[.slice a1 n1 c1, .slice a2 n2 c2, .slice a3 n3 c3, .slice a4 n4 c4, .slice a5 n5 c5], .slice aA nA cA] w fun e w' => LdPost w s xs e w' := by
  obtain ⟨m1, m2, m3, m4, m5⟩ : n1 ≤ 9223372036854775807 ∧ n2 ≤ 9223372036854775807 ∧ n3 ≤ 9223372036854775807 ∧ n4 ≤ 9223372036854775807 ∧ n5 ≤ 9223372036854775807 := ⟨HS.out.m1, HS.out.m2, HS.out.m3, HS.out.m4, HS.out.m5⟩
  have hW0 : Below w.heap.size w (w.alloc (.cells #[.slice a1 n1 c1, .slice a2 n2 c2, .slice a3 n3 c3, .slice a4 n4 c4, .slice a5 n5 c5] 28)) := (Below.refl _ w).alloc (Nat.le_refl _) _
  have HV := Lib.hid (r4Valid_any a1 a2 a3 a4 a5 n1 c1 n2 c2 n3 c3 n4 c4 n5 c5 s (w.alloc (.cells #[.slice a1 n1 c1, .slice a2 n2 c2, .slice a3 n3 c3, .slice a4 n4 c4, .slice a5 n5 c5] 28)) (Lib.hid (HS.out.keep hW0)))
  go_enter Try.func29, Try.ntmps29
  go_wp2_with fail
  refine HV.out.mono ?_
  rintro e w0 ⟨rfl, hb0⟩
  have hbz : Below w.heap.size w w0 := below_then hW0 hb0
  have hs0 : w.heap.size + 1 ≤ w0.heap.size := by have := hb0.size; rw [World.size_alloc] at this; exact this
  have hs0b : w.heap.size < w0.heap.size := by omega
  have q0 : w0.cell? ⟨w.heap.size, 0, none⟩ = some (.slice a1 n1 c1) := (hb0.cell (p := ⟨w.heap.size, 0, none⟩) (by simp)).trans (by go_simp)
  have q1 : w0.cell? ⟨w.heap.size, 1, none⟩ = some (.slice a2 n2 c2) := (hb0.cell (p := ⟨w.heap.size, 1, none⟩) (by simp)).trans (by go_simp)
  have q2 : w0.cell? ⟨w.heap.size, 2, none⟩ = some (.slice a3 n3 c3) := (hb0.cell (p := ⟨w.heap.size, 2, none⟩) (by simp)).trans (by go_simp)
  have q3 : w0.cell? ⟨w.heap.size, 3, none⟩ = some (.slice a4 n4 c4) := (hb0.cell (p := ⟨w.heap.size, 3, none⟩) (by simp)).trans (by go_simp)
  have q4 : w0.cell? ⟨w.heap.size, 4, none⟩ = some (.slice a5 n5 c5) := (hb0.cell (p := ⟨w.heap.size, 4, none⟩) (by simp)).trans (by go_simp)
  have HBZ := Lib.hid hbz
  have HS0 := Lib.hid (HS.out.keep hbz)
  have HX0 := Lib.hid (HX.out.keep hbz)
  clear hb0 HV hW0
  cases hok : okSB keyL s
  · have HN : Hid (loadB s xs = false) := Lib.hid (loadB_no1 hok)
    go_wp2_with fail
    refine bodyPost_ret (results_tmp2 rfl _ _ _) rfl ?_
    exact ⟨none, 0, by rw [HN.out, loadsO_no HN.out]; rfl, by rw [loadsO_no HN.out]; exact Rd.nil, HBZ.out⟩
  have HOK := Lib.hid (okSB_iff.1 hok)
  have HOKB := Lib.hid hok
  have HCU := Lib.hid (r8Currents_any a1 a2 a3 a4 a5 n1 c1 n2 c2 n3 c3 n4 c4 n5 c5 aA nA cA s xs w0 HS0 HX0 HNA hnA)
  clear hok hbz
  go_wp2_with fail
  refine HCU.out.mono ?_
  rintro e w1 ⟨rfl, hb1⟩
  have hb : Below w.heap.size w w1 := below_then HBZ.out hb1
  have q0 := (hb1.cell (p := ⟨w.heap.size, 0, none⟩) hs0b).trans q0
  have q1 := (hb1.cell (p := ⟨w.heap.size, 1, none⟩) hs0b).trans q1
  have q2 := (hb1.cell (p := ⟨w.heap.size, 2, none⟩) hs0b).trans q2
  have q3 := (hb1.cell (p := ⟨w.heap.size, 3, none⟩) hs0b).trans q3
  have q4 := (hb1.cell (p := ⟨w.heap.size, 4, none⟩) hs0b).trans q4
  have hs1 : w.heap.size < w1.heap.size := by have := hb1.size; omega
  have HB := Lib.hid hb
  have HX1 := Lib.hid (HX.out.keep hb)
  have HS1 := Lib.hid (HS.out.keep hb)
  clear hb hb1 HCU HS0 HX0 HBZ hs0 hs0b
  cases hcu : curB s xs
  · have HN : Hid (loadB s xs = false) := Lib.hid (loadB_no2 hcu)
    go_wp2_with fail
    refine bodyPost_ret (results_tmp2 rfl _ _ _) rfl ?_
    exact ⟨none, 0, by rw [HN.out, loadsO_no HN.out]; rfl, by rw [loadsO_no HN.out]; exact Rd.nil, HB.out⟩
  have HA := Lib.hid (curB_iff.1 hcu)
  have HY : Hid (loadB s xs = true) := Lib.hid (loadB_yes HOKB.out hcu)
  have hn16 : n1 ≤ 16 := by have := HOK.out.n2; have := HS.out.l1; omega
  have hn416 : n4 ≤ 16 := by have := HOK.out.n5; have := HS.out.l4; omega
  have hnA4 : nA = n4 := by have := HA.out.1; have := HNA.out; have := HS.out.l4; omega
  have HGB : Hid (∀ i j : Nat, i < n4 → 0 ≤ loadS s (fI xs) i j ∧ loadS s (fI xs) i j ≤ 1280) := Lib.hid (fun i j hi => by
    have h := loadS_bd (s := s) (am := fI xs) (m := i) (fun c hc => HA.out.2 c (by have := HA.out.1; have := HS.out.l4; omega)) j
    omega)
  obtain ⟨W2, hmk, ho2, bw2, hsz2⟩ := mk_rows3 n1 (by omega) w1
  have HO2 := Lib.hid ho2
  have HBW2 := Lib.hid bw2
  have hlt2 : w.heap.size < W2.heap.size := by omega
  clear hcu ho2 bw2 hsz2
  go_wp2_with fail
  generalize hg0 : w1.heap.size = g0 at *
  have hgg : Hid (g0 = w1.heap.size) := Lib.hid hg0.symm
  clear hg0
  go_loopg [7] n1 (fun g1 v7 wr => ∃ k : Nat, v7 = .int .i64 k ∧ k ≤ n1 ∧ n1 - k ≤ g1 ∧ Hid (Own wr g0 55 (n1 * 3) (fun j => .int .i64 (gL s (fI xs) n4 k 0 0 j))) ∧ Hid (Below g0 w1 wr))
  case atStart => exact ⟨0, by go_num, by omega, by omega, Lib.hid (HO2.out.congr (fun j _ => by rw [gL_zero])), HBW2⟩
  case round =>
    obtain ⟨k, rfl, hk, hg1, HO, HW⟩ := hrel
    clear HO2 HBW2
    have r0 := (HW.out.cell (p := ⟨w.heap.size, 0, none⟩) hs1).trans q0
    by_cases hlk : k < n1
    · have hlkz : (k : Int) < (n1 : Int) := by omega
      go_wp2_with fail
      go_loopg [8] n4 (fun g2 v8 wi => ∃ i : Nat, v8 = .int .i64 i ∧ i ≤ n4 ∧ n4 - i ≤ g2 ∧ Hid (Own wi g0 55 (n1 * 3) (fun j => .int .i64 (gL s (fI xs) n4 k i 0 j))) ∧ Hid (Below g0 w1 wi))
      case atStart => exact ⟨0, by go_num, by omega, by omega, HO, HW⟩
      case round =>
        obtain ⟨i, rfl, hi, hg2, HOi, HWi⟩ := hrel
        clear HO HW r0
        have r3 := (HWi.out.cell (p := ⟨w.heap.size, 3, none⟩) hs1).trans q3
        by_cases hli : i < n4
        · have hliz : (i : Int) < (n4 : Int) := by omega
          go_wp2_with fail
          go_loopg [9] 3 (fun g3 v9 wp => ∃ p : Nat, v9 = .int .i64 p ∧ p ≤ 3 ∧ 3 - p ≤ g3 ∧ Hid (Own wp g0 55 (n1 * 3) (fun j => .int .i64 (gL s (fI xs) n4 k i p j))) ∧ Hid (Below g0 w1 wp))
          case atStart => exact ⟨0, by go_num, by omega, by omega, HOi, HWi⟩
          case round =>
            obtain ⟨p, rfl, hp, hg3, HOp, HWp⟩ := hrel
            clear HOi HWi r3
            by_cases hlp : p < 3
            · have hlpz : (p : Int) < 3 := by omega
              have t0 := (HWp.out.cell (p := ⟨w.heap.size, 0, none⟩) hs1).trans q0
              have t1 := (HWp.out.cell (p := ⟨w.heap.size, 1, none⟩) hs1).trans q1
              have t2 := (HWp.out.cell (p := ⟨w.heap.size, 2, none⟩) hs1).trans q2
              have t3 := (HWp.out.cell (p := ⟨w.heap.size, 3, none⟩) hs1).trans q3
              have t4 := (HWp.out.cell (p := ⟨w.heap.size, 4, none⟩) hs1).trans q4
              have hsp : g0 ≤ wr.heap.size := by have h1 := HWp.out.size; have h2 := hgg.out; omega
              have hi4 : i < s.chgs.length := by rw [HS1.out.l4]; exact hli
              obtain ⟨b, off, g, hA4, hbl, hgx, d0, d1, d2, d3, d4, d5, d6, d7⟩ := rdChg_at HS1.out.r4 hi4
              obtain ⟨p1, p2, p3⟩ := HOK.out.place hgx
              have hpn : placeOf s i < s.cons.length := by omega
              have hph : phOf s i = g.ph := by unfold phOf; rw [hgx]; rfl
              have hphb : 1 ≤ g.ph ∧ g.ph ≤ 7 := by
                have h1 := HOK.out.chg g (List.mem_of_getElem? hgx)
                unfold okChg at h1
                simp only [decide_eq_true_eq] at h1
                exact h1.2.2.1
              have hbg : b < g0 := by rw [hgg.out]; exact hbl
              have f0 := (HWp.out.cell (p := ⟨b, off + i * 8, none⟩) hbg).trans d0
              have f1 := (HWp.out.cell (p := ⟨b, off + i * 8 + 1, none⟩) hbg).trans d1
              have f2 := (HWp.out.cell (p := ⟨b, off + i * 8 + 2, none⟩) hbg).trans d2
              have f3 := (HWp.out.cell (p := ⟨b, off + i * 8 + 3, none⟩) hbg).trans d3
              have f4 := (HWp.out.cell (p := ⟨b, off + i * 8 + 4, none⟩) hbg).trans d4
              have f5 := (HWp.out.cell (p := ⟨b, off + i * 8 + 5, none⟩) hbg).trans d5
              have f6 := (HWp.out.cell (p := ⟨b, off + i * 8 + 6, none⟩) hbg).trans d6
              have f7 := (HWp.out.cell (p := ⟨b, off + i * 8 + 7, none⟩) hbg).trans d7
              have HRp := Lib.hid (HS1.out.r1.belowB HWp.out (fun a ha => by
                obtain ⟨b', off', hA', hb', _⟩ := HS1.out.r1 (by have := HOK.out.n1; omega)
                rw [hA'] at ha
                cases ha
                rw [hgg.out]; exact hb'))
              have hiA : i < xs.length := by rw [HA.out.1]; exact hi4
              obtain ⟨ba, oa, hAA, hba, hax⟩ := HX1.out.int hiA
              have hbag : ba < g0 := by rw [hgg.out]; exact hba
              have hax1 : wr.cell? ⟨ba, oa + i, none⟩ = some (.int .i64 (fI xs i)) := (HWp.out.cell (p := ⟨ba, oa + i, none⟩) hbag).trans hax
              have HPQ := Lib.hid (And.intro hpn p3)
              have HPH := Lib.hid (And.intro hph hphb)
              have HN1 := Lib.hid (And.intro HS1.out.l1 hn16)
              have HU := Lib.hid HOK.out.ups
              subst hA4 hAA
              clear hgx d0 d1 d2 d3 d4 d5 d6 d7 hax p1 p2 p3 hph hphb
              go_wp2_with fail
              refine wp_normal (fun K hK => ?_)
              refine rlReg_ok wr w.heap.size b off a1 a2 a3 a5 n1 c1 n2 c2 n3 c3 n4 c4 n5 c5 k i p g s K (by omega) (by omega) t0 t1 t2 t3 t4 f0 f1 f2 f3 f4 f5 f6 f7 HRp HU HPQ HPH HN1 hlp hli hliz hn416 _ _ _ _ _ _ _ _ _ _ _ _ _ _ _ _ _ _ _ _ _ _ _ _ _ _ _ _ _ _ _ _ _ _ _ _ _ _ _ _ _ _ _ _ _ _ _ _ _ _ _ _ _ _ _ _ _ _ _ _ _ _ _ _ _ _ _ _ _ _ _ _ ?_
              refine Lib.hid ?_
              intro w5 v41 v42 v43 v44 v45 v46 v47 v48 v49 v50 v51 v52 v53 v54 v55 v56 v57 hb5
              refine hK _ _ ?_
              have HO5 := Lib.hid (HOp.out.keep hb5 HOp.out.lt)
              have HW5 := Lib.hid (HWp.out.trans (hb5.mono hsp))
              have ha5 := (hb5.cell (p := ⟨ba, oa + i, none⟩) (by dsimp only; omega)).trans hax1
              clear hK K hb5 HOp HWp t0 t1 t2 t3 t4 f0 f1 f2 f3 f4 f5 f6 f7 HRp HU HPQ HPH HN1 hax1
              obtain ⟨z, hz⟩ : ∃ z, onB s i k p = z := ⟨_, rfl⟩
              rw [hz]
              have HZ := Lib.hid hz
              clear hz
              cases z
              · have HO6 : Hid (Own w5 g0 55 (n1 * 3) (fun j => .int .i64 (gL s (fI xs) n4 k i (p + 1) j))) := Lib.hid (HO5.out.congr (fun j _ => by rw [gL_no hlp HZ.out]))
                clear HO5 ha5
                go_step
                go_wp2_with fail
                go_roundg (3 - (p + 1))
                case measure => omega
                case rel => exact ⟨p + 1, by go_num, by omega, by omega, HO6, HW5⟩
              · have hin : k * 3 + p < n1 * 3 := by omega
                have o0 := HO5.out.cell (i := k * 3 + p) hin
                rw [gL_at s (fI xs) n4 k i p hlp] at o0
                have of := HO5.out.frozen (k * 3 + p)
                have hbx := HGB.out i (k * 3 + p) hli
                have hax := HA.out.2 i hiA
                have HSet := Lib.hid (fun u => HO5.out.set (k * 3 + p) u)
                have HMS := Lib.hid (fun u => (Mod.refl (fun j => j = g0) w5).setCell (p := ⟨g0, k * 3 + p, none⟩) (.inl rfl) u)
                have hol := HO5.out.lt
                have HGY := Lib.hid (gL_yes (am := fI xs) (n := n4) hlp HZ.out)
                have hiAz : (i : Int) < (nA : Int) := by omega
                have hiAn : i < nA := by omega
                clear HO5
                generalize loadS s (fI xs) i (k * 3 + p) = x at *
                generalize hy : fI xs i = y at *
                have HYY := Lib.hid hy
                clear hy
                have hsum : IntKind.i64.wrap (x + y) = x + y := IntWalk.i64_in _ (by omega)
                go_step
                go_wp2_with fail
                go_still_tail 16, (by kernel_rfl)
                change wpList _ _ _ _ _ w5.drew
                go_wp2_with fail
                go_roundg (3 - (p + 1))
                case measure => omega
                case rel => exact ⟨p + 1, by go_num, by omega, by omega, Lib.hid ((HSet.out (.int .i64 (x + y))).congr (fun j _ => by
                    rw [HGY.out]
                    by_cases e : j = k * 3 + p
                    · rw [if_pos e, if_pos e]
                    · rw [if_neg e, if_neg e])), Lib.hid (HW5.out.trans (((HMS.out (.int .i64 (x + y))).drew).below (by have := HW5.out.size; have := hgg.out; omega) (fun j _ hj => by omega)))⟩
            · have hlpz : ¬ (p : Int) < 3 := by omega
              have hp3 : p = 3 := by omega
              subst hp3
              go_wp2_with fail
              go_roundg (n4 - (i + 1))
              case measure => omega
              case rel => exact ⟨i + 1, by go_num, by omega, by omega, Lib.hid (HOp.out.congr (fun j _ => by rw [gL_three])), HWp⟩
        · have hliz : ¬ (i : Int) < (n4 : Int) := by omega
          have hi4 : i = n4 := by omega
          subst hi4
          go_wp2_with fail
          go_roundg (n1 - (k + 1))
          case measure => omega
          case rel => exact ⟨k + 1, by go_num, by omega, by omega, Lib.hid (HOi.out.congr (fun j _ => by rw [gL_row])), HWi⟩
    · have hlkz : ¬ (k : Int) < (n1 : Int) := by omega
      have hk1 : k = n1 := by omega
      subst hk1
      go_wp2_with fail
      refine bodyPost_ret (results_tmp2 rfl _ _ _) rfl ?_
      have hl : s.cons.length = k := HS.out.l1
      have hcl : s.chgs.length = n4 := HS.out.l4
      refine ⟨some ⟨g0, 0, none⟩, k, ?_, ?_, below_then HB.out (by rw [← hgg.out]; exact HW.out)⟩
      · rw [HY.out, loadsO_yes HY.out, loadsOf_len, hl]
        rfl
      · rw [loadsO_yes HY.out]
        unfold loadsOf
        rw [hl, hcl]
        exact (HO.out.congr (fun j hj => by rw [gL_end _ _ _ _ _ hj])).rd3
end Go.Proofs.Ytbjmpfchapggfaa
