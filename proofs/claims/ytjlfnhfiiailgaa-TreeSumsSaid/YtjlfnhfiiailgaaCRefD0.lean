/-
The guarded drawn region of the reference's Loads.
-/
import Derived.Test.YtjlfnhfiiailgaaCRefC
namespace Go.Proofs.Ytjlfnhfiiailgaa
open Go.RowKit
set_option linter.unusedVariables false
set_option linter.unusedSimpArgs false
noncomputable def rlReg : Code := ((Try.f15.body.bind (findRegion 13)).getD .skip)
theorem onB_eq (s : GSite) (i k p : Nat) : onB s i k p = (bitP (phOf s i) p && decide (((k : Nat) : Int) ∈ pthI s.cons (placeOf s i))) := by
  unfold onB pthI
  congr 1
  rw [decide_eq_decide]
  constructor
  · intro h; exact List.mem_map.2 ⟨k, h, rfl⟩
  · intro h
    obtain ⟨x, hx, e⟩ := List.mem_map.1 h
    have : x = k := by omega
    rw [← this]; exact hx
set_option maxHeartbeats 4000000 in
set_option maxRecDepth 100000 in
theorem rlReg_ok (wc : World) (bs b off : Nat) (a1 a2 a3 a5 : Option Addr) (n1 c1 n2 c2 n3 c3 n4 c4 n5 c5 k i p : Nat) (g : GChg) (s : GSite) (K : Act → World → Prop) (lbs : bs < wc.heap.size) (hbl : b < wc.heap.size)
  (q0 : wc.cell? ⟨bs, 0, none⟩ = some (.slice a1 n1 c1)) (q1 : wc.cell? ⟨bs, 1, none⟩ = some (.slice a2 n2 c2)) (q2 : wc.cell? ⟨bs, 2, none⟩ = some (.slice a3 n3 c3)) (q3 : wc.cell? ⟨bs, 3, none⟩ = some (.slice (some ⟨b, off, none⟩) n4 c4)) (q4 : wc.cell? ⟨bs, 4, none⟩ = some (.slice a5 n5 c5))
  (e0 : wc.cell? ⟨b, off + i * 8, none⟩ = some (.string g.name)) (e1 : wc.cell? ⟨b, off + i * 8 + 1, none⟩ = some (.int .i64 g.place)) (e2 : wc.cell? ⟨b, off + i * 8 + 2, none⟩ = some (.int .i64 g.ph)) (e3 : wc.cell? ⟨b, off + i * 8 + 3, none⟩ = some (.int .i64 g.mn)) (e4 : wc.cell? ⟨b, off + i * 8 + 4, none⟩ = some (.int .i64 g.mx)) (e5 : wc.cell? ⟨b, off + i * 8 + 5, none⟩ = some (.int .i64 g.step)) (e6 : wc.cell? ⟨b, off + i * 8 + 6, none⟩ = some (.int .i64 g.fb)) (e7 : wc.cell? ⟨b, off + i * 8 + 7, none⟩ = some (.int .i64 g.own))
  (HR : Hid (Rd 11 encCon wc a1 s.cons)) (HU : Hid (OkUps s.cons)) (HPL : Hid (placeOf s i < s.cons.length ∧ ((placeOf s i : Nat) : Int) = g.place)) (HPH : Hid (phOf s i = g.ph ∧ 1 ≤ g.ph ∧ g.ph ≤ 7)) (HN1 : Hid (s.cons.length = n1 ∧ n1 ≤ 16)) (hp : p < 3) (hi : i < n4) (hin : (i : Int) < (n4 : Int)) (hn4 : n4 ≤ 16)
  (u0 u1 u3 u4 u5 u6 u10 u11 u12 u13 u14 u15 u16 u17 u18 u19 u20 u21 u22 u23 u24 u25 u26 u27 u28 u29 u30 u31 u32 u33 u34 u35 u36 u37 u38 u39 u40 u41 u42 u43 u44 u45 u46 u47 u48 u49 u50 u51 u52 u53 u54 u55 u56 u57 u58 u59 u60 u61 u62 u63 u64 u65 u66 u67 u68 u69 u70 u71 u72 u73 u74 u75 : Value)
  (HK : Hid (∀ (W' : World) (v41 v42 v43 v44 v45 v46 v47 v48 v49 v50 v51 v52 v53 v54 v55 v56 v57 : Value), Below wc.heap.size wc W' → K ⟨List.toArray (u0 :: u1 :: (.pointer (some ⟨bs, 0, none⟩)) :: u3 :: u4 :: u5 :: u6 :: (.int .i64 (k : Nat)) :: (.int .i64 (i : Nat)) :: (.int .i64 (p : Nat)) :: u10 :: u11 :: u12 :: u13 :: u14 :: u15 :: u16 :: u17 :: u18 :: u19 :: u20 :: u21 :: u22 :: u23 :: u24 :: u25 :: u26 :: u27 :: u28 :: u29 :: u30 :: u31 :: u32 :: u33 :: u34 :: u35 :: u36 :: u37 :: u38 :: u39 :: u40 :: v41 :: v42 :: v43 :: v44 :: v45 :: v46 :: v47 :: v48 :: v49 :: v50 :: v51 :: v52 :: v53 :: v54 :: v55 :: v56 :: v57 :: (.bool (onB s i k p)) :: u59 :: u60 :: u61 :: u62 :: u63 :: u64 :: u65 :: u66 :: u67 :: u68 :: u69 :: u70 :: u71 :: u72 :: u73 :: u74 :: u75 :: []), []⟩ W')) :
  Code.wp Try.prog rlReg (Exit.then K fun _ _ _ => False) ⟨List.toArray (u0 :: u1 :: (.pointer (some ⟨bs, 0, none⟩)) :: u3 :: u4 :: u5 :: u6 :: (.int .i64 (k : Nat)) :: (.int .i64 (i : Nat)) :: (.int .i64 (p : Nat)) :: u10 :: u11 :: u12 :: u13 :: u14 :: u15 :: u16 :: u17 :: u18 :: u19 :: u20 :: u21 :: u22 :: u23 :: u24 :: u25 :: u26 :: u27 :: u28 :: u29 :: u30 :: u31 :: u32 :: u33 :: u34 :: u35 :: u36 :: u37 :: u38 :: u39 :: u40 :: u41 :: u42 :: u43 :: u44 :: u45 :: u46 :: u47 :: u48 :: u49 :: u50 :: u51 :: u52 :: u53 :: u54 :: u55 :: u56 :: u57 :: u58 :: u59 :: u60 :: u61 :: u62 :: u63 :: u64 :: u65 :: u66 :: u67 :: u68 :: u69 :: u70 :: u71 :: u72 :: u73 :: u74 :: u75 :: []), []⟩ wc := by
  conv => arg 2; whnf
  refine region_z (S := fun w' => Below wc.heap.size wc w') [] (by kernel_rfl) (Below.refl _ _).drew (fun hHeld => ?_)
  rw [onB_eq] at HK
  refine wpAnyZ_take (i := 0) (v := (.pointer (some ⟨bs, 3, none⟩))) [] rfl (by kernel_rfl) (by kernel_rfl) (by kernel_rfl) (by kernel_rfl) (fun _ _ _ h => h) (Or.inl ⟨by kernel_rfl, fun w' hSw => ?_⟩) hHeld ?_
  · clear hHeld
    go_simp
  simp only [Act.put, List.getElem_toArray, List.getElem_cons_zero, List.getElem_cons_succ, List.setIfInBounds_toArray, List.set_cons_zero, List.set_cons_succ]
  refine wpAnyZ_take (i := 1) (v := (.slice (some ⟨b, off, none⟩) n4 c4)) [] rfl (by kernel_rfl) (by kernel_rfl) (by kernel_rfl) (by kernel_rfl) (fun _ _ _ h => h) (Or.inl ⟨by kernel_rfl, fun w' hSw => ?_⟩) hHeld ?_
  · clear hHeld
    have s0 := (hSw.cell (p := ⟨bs, 3, none⟩) lbs).trans q3
    go_simp
  simp only [Act.put, List.getElem_toArray, List.getElem_cons_zero, List.getElem_cons_succ, List.setIfInBounds_toArray, List.set_cons_zero, List.set_cons_succ]
  refine wpAnyZ_take (i := 2) (v := (.int .i64 (i : Nat))) [] rfl (by kernel_rfl) (by kernel_rfl) (by kernel_rfl) (by kernel_rfl) (fun _ _ _ h => h) (Or.inl ⟨by kernel_rfl, fun w' hSw => ?_⟩) hHeld ?_
  · clear hHeld
    go_simp
  simp only [Act.put, List.getElem_toArray, List.getElem_cons_zero, List.getElem_cons_succ, List.setIfInBounds_toArray, List.set_cons_zero, List.set_cons_succ]
  refine wpAnyZ_take (i := 3) (v := (.pointer (some ⟨b, off + i * 8, none⟩))) [] rfl (by kernel_rfl) (by kernel_rfl) (by kernel_rfl) (by kernel_rfl) (fun _ _ _ h => h) (Or.inl ⟨by kernel_rfl, fun w' hSw => ?_⟩) hHeld ?_
  · clear hHeld
    go_simp
  simp only [Act.put, List.getElem_toArray, List.getElem_cons_zero, List.getElem_cons_succ, List.setIfInBounds_toArray, List.set_cons_zero, List.set_cons_succ]
  refine wpAnyZ_take (i := 4) (v := (.agg #[.string g.name, .int .i64 g.place, .int .i64 g.ph, .int .i64 g.mn, .int .i64 g.mx, .int .i64 g.step, .int .i64 g.fb, .int .i64 g.own])) [] rfl (by kernel_rfl) (by kernel_rfl) (by kernel_rfl) (by kernel_rfl) (fun _ _ _ h => h) (Or.inl ⟨by kernel_rfl, fun w' hSw => ?_⟩) hHeld ?_
  · clear hHeld
    have s0 := (hSw.cell (p := ⟨b, off + i * 8, none⟩) hbl).trans e0
    have s1 := (hSw.cell (p := ⟨b, off + i * 8 + 1, none⟩) hbl).trans e1
    have s2 := (hSw.cell (p := ⟨b, off + i * 8 + 2, none⟩) hbl).trans e2
    have s3 := (hSw.cell (p := ⟨b, off + i * 8 + 3, none⟩) hbl).trans e3
    have s4 := (hSw.cell (p := ⟨b, off + i * 8 + 4, none⟩) hbl).trans e4
    have s5 := (hSw.cell (p := ⟨b, off + i * 8 + 5, none⟩) hbl).trans e5
    have s6 := (hSw.cell (p := ⟨b, off + i * 8 + 6, none⟩) hbl).trans e6
    have s7 := (hSw.cell (p := ⟨b, off + i * 8 + 7, none⟩) hbl).trans e7
    go_simp
  simp only [Act.put, List.getElem_toArray, List.getElem_cons_zero, List.getElem_cons_succ, List.setIfInBounds_toArray, List.set_cons_zero, List.set_cons_succ]
  refine wpAnyZ_take (i := 5) (v := (.int .i64 (p : Nat))) [] rfl (by kernel_rfl) (by kernel_rfl) (by kernel_rfl) (by kernel_rfl) (fun _ _ _ h => h) (Or.inl ⟨by kernel_rfl, fun w' hSw => ?_⟩) hHeld ?_
  · clear hHeld
    go_simp
  simp only [Act.put, List.getElem_toArray, List.getElem_cons_zero, List.getElem_cons_succ, List.setIfInBounds_toArray, List.set_cons_zero, List.set_cons_succ]
  refine wpAnyZ_one (i := 6) (by kernel_rfl) rfl (fun K' hK => ?_)
  go_simp
  refine (r8Uses_any g.name g.place g.ph g.mn g.mx g.step g.fb g.own p hp HPH.out.2 _).mono ?_
  rintro e w5 ⟨rfl, hb5⟩
  refine hK.out _ _ ?_ (fun hHeld' => ?_)
  · exact below_then hHeld hb5
  clear hK K' hb5 hHeld
  have hHeld := hHeld'
  clear hHeld'
  try simp only [Act.put, List.getElem_toArray, List.getElem_cons_zero, List.getElem_cons_succ, List.setIfInBounds_toArray, List.set_cons_zero, List.set_cons_succ]
  rw [HPH.out.1] at HK
  obtain ⟨z, hz⟩ : ∃ z, bitP g.ph p = z := ⟨_, rfl⟩
  rw [hz] at HK ⊢
  have HZ := Lib.hid hz
  clear hz
  cases z
  · simp only [Bool.false_and] at HK
    refine wpAnyZ_take (i := 7) (v := (.bool false)) [] rfl (by kernel_rfl) (by kernel_rfl) (by kernel_rfl) (by kernel_rfl) (fun _ _ _ h => h) (Or.inl ⟨by kernel_rfl, fun w' hSw => ?_⟩) hHeld ?_
    · clear hHeld
      go_simp
    simp only [Act.put, List.getElem_toArray, List.getElem_cons_zero, List.getElem_cons_succ, List.setIfInBounds_toArray, List.set_cons_zero, List.set_cons_succ]
    refine wpAnyZ_take (i := 8) (v := undef) [] rfl (by kernel_rfl) (by kernel_rfl) (by kernel_rfl) (by kernel_rfl) (fun _ _ _ h => h) (Or.inr ⟨by kernel_rfl, rfl⟩) hHeld ?_
    simp only [Act.put, List.getElem_toArray, List.getElem_cons_zero, List.getElem_cons_succ, List.setIfInBounds_toArray, List.set_cons_zero, List.set_cons_succ]
    refine wpAnyZ_take (i := 9) (v := undef) [] rfl (by kernel_rfl) (by kernel_rfl) (by kernel_rfl) (by kernel_rfl) (fun _ _ _ h => h) (Or.inr ⟨by kernel_rfl, rfl⟩) hHeld ?_
    simp only [Act.put, List.getElem_toArray, List.getElem_cons_zero, List.getElem_cons_succ, List.setIfInBounds_toArray, List.set_cons_zero, List.set_cons_succ]
    refine wpAnyZ_take (i := 10) (v := undef) [] rfl (by kernel_rfl) (by kernel_rfl) (by kernel_rfl) (by kernel_rfl) (fun _ _ _ h => h) (Or.inr ⟨by kernel_rfl, rfl⟩) hHeld ?_
    simp only [Act.put, List.getElem_toArray, List.getElem_cons_zero, List.getElem_cons_succ, List.setIfInBounds_toArray, List.set_cons_zero, List.set_cons_succ]
    refine wpAnyZ_take (i := 11) (v := undef) [] rfl (by kernel_rfl) (by kernel_rfl) (by kernel_rfl) (by kernel_rfl) (fun _ _ _ h => h) (Or.inr ⟨by kernel_rfl, rfl⟩) hHeld ?_
    simp only [Act.put, List.getElem_toArray, List.getElem_cons_zero, List.getElem_cons_succ, List.setIfInBounds_toArray, List.set_cons_zero, List.set_cons_succ]
    refine wpAnyZ_take (i := 12) (v := undef) [] rfl (by kernel_rfl) (by kernel_rfl) (by kernel_rfl) (by kernel_rfl) (fun _ _ _ h => h) (Or.inr ⟨by kernel_rfl, rfl⟩) hHeld ?_
    simp only [Act.put, List.getElem_toArray, List.getElem_cons_zero, List.getElem_cons_succ, List.setIfInBounds_toArray, List.set_cons_zero, List.set_cons_succ]
    refine wpAnyZ_take (i := 13) (v := undef) [] rfl (by kernel_rfl) (by kernel_rfl) (by kernel_rfl) (by kernel_rfl) (fun _ _ _ h => h) (Or.inr ⟨by kernel_rfl, rfl⟩) hHeld ?_
    simp only [Act.put, List.getElem_toArray, List.getElem_cons_zero, List.getElem_cons_succ, List.setIfInBounds_toArray, List.set_cons_zero, List.set_cons_succ]
    refine wpAnyZ_take (i := 14) (v := undef) [] rfl (by kernel_rfl) (by kernel_rfl) (by kernel_rfl) (by kernel_rfl) (fun _ _ _ h => h) (Or.inr ⟨by kernel_rfl, rfl⟩) hHeld ?_
    simp only [Act.put, List.getElem_toArray, List.getElem_cons_zero, List.getElem_cons_succ, List.setIfInBounds_toArray, List.set_cons_zero, List.set_cons_succ]
    refine wpAnyZ_take (i := 15) (v := undef) [] rfl (by kernel_rfl) (by kernel_rfl) (by kernel_rfl) (by kernel_rfl) (fun _ _ _ h => h) (Or.inr ⟨by kernel_rfl, rfl⟩) hHeld ?_
    simp only [Act.put, List.getElem_toArray, List.getElem_cons_zero, List.getElem_cons_succ, List.setIfInBounds_toArray, List.set_cons_zero, List.set_cons_succ]
    refine wpAnyZ_take (i := 16) (v := undef) [] rfl (by kernel_rfl) (by kernel_rfl) (by kernel_rfl) (by kernel_rfl) (fun _ _ _ h => h) (Or.inr ⟨by kernel_rfl, rfl⟩) hHeld ?_
    simp only [Act.put, List.getElem_toArray, List.getElem_cons_zero, List.getElem_cons_succ, List.setIfInBounds_toArray, List.set_cons_zero, List.set_cons_succ]
    refine wpAnyZ_take (i := 17) (v := (.bool false)) [] rfl (by kernel_rfl) (by kernel_rfl) (by kernel_rfl) (by kernel_rfl) (fun _ _ _ h => h) (Or.inl ⟨by kernel_rfl, fun w' hSw => ?_⟩) hHeld ?_
    · clear hHeld
      go_simp
    simp only [Act.put, List.getElem_toArray, List.getElem_cons_zero, List.getElem_cons_succ, List.setIfInBounds_toArray, List.set_cons_zero, List.set_cons_succ]
    refine wpAnyZ_done (by kernel_rfl) ?_ _
    go_step
    exact HK.out _ _ _ _ _ _ _ _ _ _ _ _ _ _ _ _ _ _ hHeld
  · simp only [Bool.true_and] at HK
    refine wpAnyZ_take (i := 7) (v := (.bool true)) [] rfl (by kernel_rfl) (by kernel_rfl) (by kernel_rfl) (by kernel_rfl) (fun _ _ _ h => h) (Or.inl ⟨by kernel_rfl, fun w' hSw => ?_⟩) hHeld ?_
    · clear hHeld
      go_simp
    simp only [Act.put, List.getElem_toArray, List.getElem_cons_zero, List.getElem_cons_succ, List.setIfInBounds_toArray, List.set_cons_zero, List.set_cons_succ]
    refine wpAnyZ_take (i := 8) (v := (.agg #[.slice a1 n1 c1, .slice a2 n2 c2, .slice a3 n3 c3, .slice (some ⟨b, off, none⟩) n4 c4, .slice a5 n5 c5])) [] rfl (by kernel_rfl) (by kernel_rfl) (by kernel_rfl) (by kernel_rfl) (fun _ _ _ h => h) (Or.inl ⟨by kernel_rfl, fun w' hSw => ?_⟩) hHeld ?_
    · clear hHeld
      have s0 := (hSw.cell (p := ⟨bs, 0, none⟩) lbs).trans q0
      have s1 := (hSw.cell (p := ⟨bs, 1, none⟩) lbs).trans q1
      have s2 := (hSw.cell (p := ⟨bs, 2, none⟩) lbs).trans q2
      have s3 := (hSw.cell (p := ⟨bs, 3, none⟩) lbs).trans q3
      have s4 := (hSw.cell (p := ⟨bs, 4, none⟩) lbs).trans q4
      go_simp
    simp only [Act.put, List.getElem_toArray, List.getElem_cons_zero, List.getElem_cons_succ, List.setIfInBounds_toArray, List.set_cons_zero, List.set_cons_succ]
    refine wpAnyZ_take (i := 9) (v := (.int .i64 (k : Nat))) [] rfl (by kernel_rfl) (by kernel_rfl) (by kernel_rfl) (by kernel_rfl) (fun _ _ _ h => h) (Or.inl ⟨by kernel_rfl, fun w' hSw => ?_⟩) hHeld ?_
    · clear hHeld
      go_simp
    simp only [Act.put, List.getElem_toArray, List.getElem_cons_zero, List.getElem_cons_succ, List.setIfInBounds_toArray, List.set_cons_zero, List.set_cons_succ]
    refine wpAnyZ_take (i := 10) (v := (.pointer (some ⟨bs, 3, none⟩))) [] rfl (by kernel_rfl) (by kernel_rfl) (by kernel_rfl) (by kernel_rfl) (fun _ _ _ h => h) (Or.inl ⟨by kernel_rfl, fun w' hSw => ?_⟩) hHeld ?_
    · clear hHeld
      go_simp
    simp only [Act.put, List.getElem_toArray, List.getElem_cons_zero, List.getElem_cons_succ, List.setIfInBounds_toArray, List.set_cons_zero, List.set_cons_succ]
    refine wpAnyZ_take (i := 11) (v := (.slice (some ⟨b, off, none⟩) n4 c4)) [] rfl (by kernel_rfl) (by kernel_rfl) (by kernel_rfl) (by kernel_rfl) (fun _ _ _ h => h) (Or.inl ⟨by kernel_rfl, fun w' hSw => ?_⟩) hHeld ?_
    · clear hHeld
      have s0 := (hSw.cell (p := ⟨bs, 3, none⟩) lbs).trans q3
      go_simp
    simp only [Act.put, List.getElem_toArray, List.getElem_cons_zero, List.getElem_cons_succ, List.setIfInBounds_toArray, List.set_cons_zero, List.set_cons_succ]
    refine wpAnyZ_take (i := 12) (v := (.int .i64 (i : Nat))) [] rfl (by kernel_rfl) (by kernel_rfl) (by kernel_rfl) (by kernel_rfl) (fun _ _ _ h => h) (Or.inl ⟨by kernel_rfl, fun w' hSw => ?_⟩) hHeld ?_
    · clear hHeld
      go_simp
    simp only [Act.put, List.getElem_toArray, List.getElem_cons_zero, List.getElem_cons_succ, List.setIfInBounds_toArray, List.set_cons_zero, List.set_cons_succ]
    refine wpAnyZ_take (i := 13) (v := (.pointer (some ⟨b, off + i * 8, none⟩))) [] rfl (by kernel_rfl) (by kernel_rfl) (by kernel_rfl) (by kernel_rfl) (fun _ _ _ h => h) (Or.inl ⟨by kernel_rfl, fun w' hSw => ?_⟩) hHeld ?_
    · clear hHeld
      go_simp
    simp only [Act.put, List.getElem_toArray, List.getElem_cons_zero, List.getElem_cons_succ, List.setIfInBounds_toArray, List.set_cons_zero, List.set_cons_succ]
    refine wpAnyZ_take (i := 14) (v := (.pointer (some ⟨b, off + i * 8 + 1, none⟩))) [] rfl (by kernel_rfl) (by kernel_rfl) (by kernel_rfl) (by kernel_rfl) (fun _ _ _ h => h) (Or.inl ⟨by kernel_rfl, fun w' hSw => ?_⟩) hHeld ?_
    · clear hHeld
      go_simp
    simp only [Act.put, List.getElem_toArray, List.getElem_cons_zero, List.getElem_cons_succ, List.setIfInBounds_toArray, List.set_cons_zero, List.set_cons_succ]
    refine wpAnyZ_take (i := 15) (v := (.int .i64 g.place)) [] rfl (by kernel_rfl) (by kernel_rfl) (by kernel_rfl) (by kernel_rfl) (fun _ _ _ h => h) (Or.inl ⟨by kernel_rfl, fun w' hSw => ?_⟩) hHeld ?_
    · clear hHeld
      have s0 := (hSw.cell (p := ⟨b, off + i * 8 + 1, none⟩) hbl).trans e1
      go_simp
    simp only [Act.put, List.getElem_toArray, List.getElem_cons_zero, List.getElem_cons_succ, List.setIfInBounds_toArray, List.set_cons_zero, List.set_cons_succ]
    refine wpAnyZ_one (i := 16) (by kernel_rfl) rfl (fun K' hK => ?_)
    go_simp
    rw [← HPL.out.2]
    refine (r8On_any a1 a2 a3 (some ⟨b, off, none⟩) a5 n1 c1 n2 c2 n3 c3 n4 c4 n5 c5 s.cons HU.out (placeOf s i) HPL.out.1 HN1.out.1 HN1.out.2 ((k : Nat) : Int) _ (HR.out.keep hHeld)).mono ?_
    rintro e w5 ⟨rfl, hb5⟩
    refine hK.out _ _ ?_ (fun hHeld' => ?_)
    · exact below_then hHeld hb5
    clear hK K' hb5 hHeld
    have hHeld := hHeld'
    clear hHeld'
    try simp only [Act.put, List.getElem_toArray, List.getElem_cons_zero, List.getElem_cons_succ, List.setIfInBounds_toArray, List.set_cons_zero, List.set_cons_succ]
    refine wpAnyZ_take (i := 17) (v := (.bool (decide (((k : Nat) : Int) ∈ pthI s.cons (placeOf s i))))) [] rfl (by kernel_rfl) (by kernel_rfl) (by kernel_rfl) (by kernel_rfl) (fun _ _ _ h => h) (Or.inl ⟨by kernel_rfl, fun w' hSw => ?_⟩) hHeld ?_
    · clear hHeld
      go_simp
    simp only [Act.put, List.getElem_toArray, List.getElem_cons_zero, List.getElem_cons_succ, List.setIfInBounds_toArray, List.set_cons_zero, List.set_cons_succ]
    refine wpAnyZ_done (by kernel_rfl) ?_ _
    go_step
    exact HK.out _ _ _ _ _ _ _ _ _ _ _ _ _ _ _ _ _ _ hHeld
end Go.Proofs.Ytjlfnhfiiailgaa
