/-
Several texts in one: RepH, RepI, RepJ.
-/
import Derived.Test.YtgfcnkfmgpakkaaGRepF
import Derived.Test.YtgfcnkfmgpakkaaCSortO
/-
The drawn region of replan.Keep's closure that calls Schedule.
-/
namespace Go.Proofs.Ytgfcnkfmgpakkaa
open Go.RowKit
set_option linter.unusedVariables false
set_option linter.unusedSimpArgs false
/-- What Schedule answered: the jobs are met, or a cut that shows that they are not. -/
structure SchR (js : List GJob) (sup : List Int) (w1 w' : World) (a3 : Option Addr) (n3 : Nat) (a4 : Option Addr) (n4 d4 : Nat) (er : Int) : Prop where
  res : (er = 0 ∧ Met js sup) ∨ (er = 10 ∧ ∃ cj cs : List Int, cj.length = n3 ∧ cs.length = n4 ∧ Rd 1 encI w' a3 cj ∧ Rd 1 encI w' a4 cs ∧ n3 ≤ 12 ∧ n4 ≤ 24 ∧ cutPB js sup cj cs = true ∧ ∀ q, (Value.slice a4 n4 d4).ownBlock = some q → w1.heap.size ≤ q)
theorem SchR.from_ {js : List GJob} {sup : List Int} {w0 w1 w' : World} {a3 a4 : Option Addr} {n3 n4 d4 : Nat} {er : Int} (h : SchR js sup w1 w' a3 n3 a4 n4 d4 er) (hs : w0.heap.size ≤ w1.heap.size) : SchR js sup w0 w' a3 n3 a4 n4 d4 er := by
  rcases h.res with x | ⟨e, cj, cs, h1, h2, h3, h4, h5, h6, h7, h8⟩
  · exact ⟨.inl x⟩
  · exact ⟨.inr ⟨e, cj, cs, h1, h2, h3, h4, h5, h6, h7, fun q hq => Nat.le_trans hs (h8 q hq)⟩⟩
theorem SchR.keep {js : List GJob} {sup : List Int} {w1 w' w2 : World} {a3 a4 : Option Addr} {n3 n4 d4 : Nat} {er : Int} (h : SchR js sup w1 w' a3 n3 a4 n4 d4 er) (hb : Below w'.heap.size w' w2) : SchR js sup w1 w2 a3 n3 a4 n4 d4 er := by
  rcases h.res with x | ⟨e, cj, cs, h1, h2, h3, h4, h5, h6, h7, h8⟩
  · exact ⟨.inl x⟩
  · exact ⟨.inr ⟨e, cj, cs, h1, h2, h3.keep hb, h4.keep hb, h5, h6, h7, h8⟩⟩
theorem SchR.own {js : List GJob} {sup : List Int} {w1 w' w2 : World} {a3 a4 : Option Addr} {n3 n4 d4 X : Nat} {er : Int} (h : SchR js sup w1 w' a3 n3 a4 n4 d4 er) (o : Own w' X 30 2 (fun _ => .slice none 0 0)) (hm : Mod (fun q => q = X) w' w2) : SchR js sup w1 w2 a3 n3 a4 n4 d4 er := by
  rcases h.res with x | ⟨e, cj, cs, h1, h2, h3, h4, h5, h6, h7, h8⟩
  · exact ⟨.inl x⟩
  · exact ⟨.inr ⟨e, cj, cs, h1, h2, h3.mod hm (rd_ne o (fun i x h => by cases h) h3), h4.mod hm (rd_ne o (fun i x h => by cases h) h4), h5, h6, h7, h8⟩⟩
theorem schedTupleC {w w' : World} {js : List GJob} {sup : List Int} {N : Nat} {e : Ending} (hok0 : okP js sup = true) (hpost : SchedPostC w js sup N e w') :
    ∃ a0 l0 d0 a3 n3 d3 a4 n4 d4 er, e = .returned (.tuple #[.slice a0 l0 d0, .agg #[.slice a3 n3 d3, .slice a4 n4 d4], .int .i64 er]) ∧ SchR js sup w w' a3 n3 a4 n4 d4 er := by
  obtain ⟨_, ⟨hok, rfl⟩ | ⟨gt, rs, ps, rfl, rp, hlp, hpl, _⟩ | ⟨a3, d3, a4, d4, cj, cs, rfl, r3, r4, hc1, hc2, hcut, hfr⟩⟩ := hpost
  · rw [hok0] at hok
    cases hok
  · exact ⟨_, _, _, _, _, _, _, _, _, _, rfl, ⟨.inl ⟨rfl, planB_metA hpl⟩⟩⟩
  · exact ⟨_, _, _, _, _, _, _, _, _, _, rfl, ⟨.inr ⟨rfl, cj, cs, rfl, rfl, r3, r4, hc1, hc2, hcut, hfr⟩⟩⟩
/-- What is left behind the region: the cut lies in block b. -/
structure SchOut (js : List GJob) (sup : List Int) (W W' : World) (b : Nat) (a3 : Option Addr) (n3 d3 : Nat) (a4 : Option Addr) (n4 d4 : Nat) (er : Int) : Prop where
  bel : Below W.heap.size W W'
  own : Own W' b 30 2 (fun i => if i = 0 then .slice a3 n3 d3 else .slice a4 n4 d4)
  res : SchR js sup W W' a3 n3 a4 n4 d4 er
theorem sch_new {js : List GJob} {sup : List Int} {W y2 : World} {a3 a4 : Option Addr} {n3 d3 n4 d4 : Nat} {er : Int} (hW : Below W.heap.size W y2) (r : SchR js sup W y2 a3 n3 a4 n4 d4 er) :
    SchOut js sup W (y2.alloc (.cells #[.slice a3 n3 d3, .slice a4 n4 d4] 30)) y2.heap.size a3 n3 d3 a4 n4 d4 er := by
  have ba : Below y2.heap.size y2 (y2.alloc (.cells #[.slice a3 n3 d3, .slice a4 n4 d4] 30)) := (Below.refl _ _).alloc (Nat.le_refl _) _
  refine ⟨below_then hW ba, Own.newAt _ _ _ _ rfl (n := 2) rfl (fun i hi => ?_), r.keep ba⟩
  rcases i with _ | _ | i
  · rfl
  · rfl
  · omega
theorem sch_old {js : List GJob} {sup : List Int} {W y2 : World} {X : Nat} {a3 a4 : Option Addr} {n3 d3 n4 d4 : Nat} {er : Int} (hW : Below W.heap.size W y2) (hX : W.heap.size ≤ X) (o : Own y2 X 30 2 (fun _ => .slice none 0 0)) (r : SchR js sup W y2 a3 n3 a4 n4 d4 er) :
    SchOut js sup W ((y2.setCell ⟨X, 0, none⟩ (.slice a3 n3 d3)).setCell ⟨X, 1, none⟩ (.slice a4 n4 d4)) X a3 n3 d3 a4 n4 d4 er := by
  have hM : Mod (fun q => q = X) y2 ((y2.setCell ⟨X, 0, none⟩ (.slice a3 n3 d3)).setCell ⟨X, 1, none⟩ (.slice a4 n4 d4)) :=
    ((Mod.refl (fun q => q = X) y2).setCell (p := ⟨X, 0, none⟩) (.inl rfl) _).setCell (p := ⟨X, 1, none⟩) (.inl rfl) _
  refine ⟨hW.trans (hM.below hW.size (fun q _ hq => by omega)), ((o.set 0 _).set 1 _).congr (fun i hi => ?_), r.own o hM⟩
  rcases i with _ | _ | i
  · simp
  · simp
  · omega
noncomputable def kp1Code : Code := ((Try.f73.body.bind (findRegion 1)).getD .skip)
set_option maxRecDepth 100000 in
set_option maxHeartbeats 8000000 in
theorem kp1 (W : World) (bk bj bs bc : Nat) (A A2 A5 : Option Addr) (c N c2 T c5 M : Nat) (js : List GJob) (sup which : List Int) (ds : List Deferred) (K : Act → World → Prop) (hcj : W.cell? ⟨bj, 0, none⟩ = some (.slice A N c)) (hcs : W.cell? ⟨bs, 0, none⟩ = some (.slice A2 T c2))
  (hR : Rd 5 encJ W A js) (HN : Hid (js.length = N)) (hN : N ≤ 12) (hR2 : Rd 1 encI W A2 sup) (HN2 : Hid (sup.length = T)) (hT : T ≤ 24) (hR5 : Rd 1 encI W A5 which) (HM : Hid (which.length = M)) (hM : M ≤ 12) (HV : Hid (ValidL js.length which)) (hok : okP (someJ js which) sup = true)
  (u0 u5 u7 u8 u9 u10 u11 u12 u13 u14 u15 u16 u17 u18 u19 u20 u21 u22 u23 u24 u25 u26 u27 u28 u29 u30 u31 u32 u33 u34 u35 u36 u37 u38 u39 u40 u41 u42 u43 u44 u45 u46 u47 u48 u49 u50 u51 u52 u53 u54 u55 u56 u57 : Value)
  (HK : Hid (∀ (W' : World) (b : Nat) (a3 : Option Addr) (n3 d3 : Nat) (a4 : Option Addr) (n4 d4 : Nat) (er : Int) (v7 v18 v19 v20 v21 v22 v23 v24 v25 v26 : Value), SchOut (someJ js which) sup W W' b a3 n3 d3 a4 n4 d4 er → K ⟨List.toArray (u0 :: (.pointer (some ⟨bk, 0, none⟩)) :: (.pointer (some ⟨bj, 0, none⟩)) :: (.pointer (some ⟨bs, 0, none⟩)) :: (.pointer (some ⟨bc, 0, none⟩)) :: u5 :: (.slice A5 M c5) :: v7 :: (.pointer (some ⟨b, 0, none⟩)) :: (.int .i64 er) :: u10 :: u11 :: u12 :: u13 :: u14 :: u15 :: u16 :: u17 :: v18 :: v19 :: v20 :: v21 :: v22 :: v23 :: v24 :: v25 :: v26 :: u27 :: u28 :: u29 :: u30 :: u31 :: u32 :: u33 :: u34 :: u35 :: u36 :: u37 :: u38 :: u39 :: u40 :: u41 :: u42 :: u43 :: u44 :: u45 :: u46 :: u47 :: u48 :: u49 :: u50 :: u51 :: u52 :: u53 :: u54 :: u55 :: u56 :: u57 :: []), ds⟩ W')) :
  Code.wp Try.prog kp1Code (Exit.then K (fun _ _ _ => False)) ⟨List.toArray (u0 :: (.pointer (some ⟨bk, 0, none⟩)) :: (.pointer (some ⟨bj, 0, none⟩)) :: (.pointer (some ⟨bs, 0, none⟩)) :: (.pointer (some ⟨bc, 0, none⟩)) :: u5 :: (.slice A5 M c5) :: u7 :: u8 :: u9 :: u10 :: u11 :: u12 :: u13 :: u14 :: u15 :: u16 :: u17 :: u18 :: u19 :: u20 :: u21 :: u22 :: u23 :: u24 :: u25 :: u26 :: u27 :: u28 :: u29 :: u30 :: u31 :: u32 :: u33 :: u34 :: u35 :: u36 :: u37 :: u38 :: u39 :: u40 :: u41 :: u42 :: u43 :: u44 :: u45 :: u46 :: u47 :: u48 :: u49 :: u50 :: u51 :: u52 :: u53 :: u54 :: u55 :: u56 :: u57 :: []), ds⟩ W := by
  have HR := Lib.hid hR
  have HR2 := Lib.hid hR2
  have HR5 := Lib.hid hR5
  have HOK := Lib.hid hok
  have HL : Hid ((someJ js which).length = M) := Lib.hid (by rw [someJ_len, HM.out])
  have lj : bj < W.heap.size := World.block_lt_of_cell? W _ hcj
  have ls : bs < W.heap.size := World.block_lt_of_cell? W _ hcs
  clear hR hR2 hR5 hok
  conv => arg 2; whnf
  refine region_z (S := fun w' => Below W.heap.size W w') [12] (by kernel_rfl) (Below.refl _ _).drew (fun hHeld => ?_)
  refine wpAnyZ_take (i := 0) (v := .slice A N c) [12] rfl (by kernel_rfl) (by kernel_rfl) (by kernel_rfl) (by kernel_rfl) (fun _ _ _ h => h) (Or.inl ⟨by kernel_rfl, fun w' hSw => ?_⟩) hHeld ?_
  · clear hHeld
    have s0 := (hSw.cell (p := ⟨bj, 0, none⟩) lj).trans hcj
    go_simp
  simp only [Act.put, List.setIfInBounds_toArray, List.set_cons_zero, List.set_cons_succ]
  refine wpAnyZ_take (i := 1) (v := .slice A5 M c5) [12] rfl (by kernel_rfl) (by kernel_rfl) (by kernel_rfl) (by kernel_rfl) (fun _ _ _ h => h) (Or.inl ⟨by kernel_rfl, fun w' hSw => ?_⟩) hHeld ?_
  · clear hHeld
    go_simp
  simp only [Act.put, List.setIfInBounds_toArray, List.set_cons_zero, List.set_cons_succ]
  refine wpAnyZ_take (i := 3) (v := .slice A2 T c2) [12] rfl (by kernel_rfl) (by kernel_rfl) (by kernel_rfl) (by kernel_rfl) (fun _ _ _ h => h) (Or.inl ⟨by kernel_rfl, fun w' hSw => ?_⟩) hHeld ?_
  · clear hHeld
    have s0 := (hSw.cell (p := ⟨bs, 0, none⟩) ls).trans hcs
    go_simp
  simp only [Act.put, List.setIfInBounds_toArray, List.set_cons_zero, List.set_cons_succ]
  refine wpAnyZ_two (i := 2) (k := 9) (by kernel_rfl) rfl rfl (fun K' hK => ?_) (fun K' hK => ?_)
  · go_simp
    refine (rSome_any A A5 c N c5 M js which _ (HR.out.keep hHeld) HN (by omega) (HR5.out.keep hHeld) HM (by omega) HV).mono ?_
    rintro e y1 ⟨a, d, rfl, hRa, hb⟩
    refine hK.out _ _ ?_ (fun hHeld' => ?_)
    · exact below_then hHeld hb
    clear hK K' hb hHeld
    have hHeld := hHeld'
    clear hHeld'
    try simp only [Act.put, List.setIfInBounds_toArray, List.set_cons_zero, List.set_cons_succ]
    refine wpAnyZ_two (i := 4) (k := 9) (by kernel_rfl) rfl rfl (fun K' hK => ?_) (fun K' hK => ?_)
    · go_simp
      refine (plSchedule_caps a A2 d M c2 T (someJ js which) sup _ hRa HL (by omega) (HR2.out.keep hHeld) HN2 (by omega)).mono ?_
      rintro e y2 hpost
      have hb := hpost.1
      obtain ⟨a0, l0, d0, a3, n3, d3, a4, n4, d4, er, rfl, hst0⟩ := schedTupleC HOK.out hpost
      have hst : Hid (SchR (someJ js which) sup W y2 a3 n3 a4 n4 d4 er) := Lib.hid (hst0.from_ hHeld.size)
      clear hpost hst0
      refine hK.out _ _ ?_ (fun hHeld' => ?_)
      · exact below_then hHeld hb
      clear hK K' hb hRa hHeld
      have hHeld := hHeld'
      clear hHeld'
      try simp only [Act.put, List.setIfInBounds_toArray, List.set_cons_zero, List.set_cons_succ]
      refine wpAnyZ_take (i := 5) (v := .tuple #[.slice a0 l0 d0, .agg #[.slice a3 n3 d3, .slice a4 n4 d4], .int .i64 er]) [12] rfl (by kernel_rfl) (by kernel_rfl) (by kernel_rfl) (by kernel_rfl) (fun _ _ _ h => h) (Or.inl ⟨by kernel_rfl, fun w' hSw => ?_⟩) hHeld ?_
      · clear hHeld
        go_simp
      simp only [Act.put, List.setIfInBounds_toArray, List.set_cons_zero, List.set_cons_succ]
      refine wpAnyZ_take (i := 6) (v := .slice a0 l0 d0) [12] rfl (by kernel_rfl) (by kernel_rfl) (by kernel_rfl) (by kernel_rfl) (fun _ _ _ h => h) (Or.inl ⟨by kernel_rfl, fun w' hSw => ?_⟩) hHeld ?_
      · clear hHeld
        go_simp
      simp only [Act.put, List.setIfInBounds_toArray, List.set_cons_zero, List.set_cons_succ]
      refine wpAnyZ_take (i := 7) (v := .agg #[.slice a3 n3 d3, .slice a4 n4 d4]) [12] rfl (by kernel_rfl) (by kernel_rfl) (by kernel_rfl) (by kernel_rfl) (fun _ _ _ h => h) (Or.inl ⟨by kernel_rfl, fun w' hSw => ?_⟩) hHeld ?_
      · clear hHeld
        go_simp
      simp only [Act.put, List.setIfInBounds_toArray, List.set_cons_zero, List.set_cons_succ]
      refine wpAnyZ_take (i := 8) (v := .int .i64 er) [12] rfl (by kernel_rfl) (by kernel_rfl) (by kernel_rfl) (by kernel_rfl) (fun _ _ _ h => h) (Or.inl ⟨by kernel_rfl, fun w' hSw => ?_⟩) hHeld ?_
      · clear hHeld
        go_simp
      simp only [Act.put, List.setIfInBounds_toArray, List.set_cons_zero, List.set_cons_succ]
      refine wpAnyZ_one (i := 9) (by kernel_rfl) rfl (fun K' hK => ?_)
      go_simp
      have hO : Own (y2.alloc (.cells #[.slice none 0 0, .slice none 0 0] 30)) y2.heap.size 30 2 (fun _ => .slice none 0 0) := new_cut y2
      have hq : W.heap.size ≤ y2.heap.size := hHeld.size
      have hPre := hHeld
      refine hK.out _ _ ?_ (fun hHeld' => ?_)
      · exact hHeld.alloc hHeld.size _
      clear hK K'  hHeld
      have hHeld := hHeld'
      clear hHeld'
      try simp only [Act.put, List.setIfInBounds_toArray, List.set_cons_zero, List.set_cons_succ]
      have hO2 := Lib.hid hO
      have c50 := hO.cell (i := 0) (by omega)
      have c51 := hO.cell (i := 1) (by omega)
      have f50 := hO.frozen 0
      have f51 := hO.frozen 1
      have hY := hPre
      clear hO
      refine wpAnyZ_one (i := 10) (by kernel_rfl) rfl (fun K' hK => ?_)
      go_simp
      refine hK.out _ _ ?_ (fun hHeld' => ?_)
      · exact hHeld
      clear hK K'  hHeld
      have hHeld := hHeld'
      clear hHeld'
      try simp only [Act.put, List.setIfInBounds_toArray, List.set_cons_zero, List.set_cons_succ]
      refine wpAnyZ_one (i := 11) (by kernel_rfl) rfl (fun K' hK => ?_)
      go_simp
      refine hK.out _ _ ?_ (fun hHeld' => ?_)
      · first | exact (hHeld.setCell (p := ⟨_, _, _⟩) hq _).setCell (p := ⟨_, _, _⟩) hq _ | exact hPre.alloc hPre.size _
      clear hK K'  hHeld
      have hHeld := hHeld'
      clear hHeld'
      try simp only [Act.put, List.setIfInBounds_toArray, List.set_cons_zero, List.set_cons_succ]
      refine wpAnyZ_last (i := 12) (by kernel_rfl) rfl (by kernel_rfl) (fun K' hK => ?_)
      go_simp
      refine hK.out _ _ ?_
      clear hK K'
      try simp only [Act.put, List.setIfInBounds_toArray, List.set_cons_zero, List.set_cons_succ]
      refine wpAnyZ_done (by kernel_rfl) ?_ _
      clear hHeld c50 c51 f50 f51
      exact HK.out _ _ a3 n3 d3 a4 n4 d4 er _ _ _ _ _ _ _ _ _ _ (sch_new hY hst.out)
    · go_simp
      have hO : Own (y1.alloc (.cells #[.slice none 0 0, .slice none 0 0] 30)) y1.heap.size 30 2 (fun _ => .slice none 0 0) := new_cut y1
      have hRa := hRa.keep ((Below.refl _ y1).alloc (Nat.le_refl _) (.cells #[.slice none 0 0, .slice none 0 0] 30))
      have hq : W.heap.size ≤ y1.heap.size := hHeld.size
      have hPre := hHeld
      refine hK.out _ _ ?_ (fun hHeld' => ?_)
      · exact hHeld.alloc hHeld.size _
      clear hK K'  hHeld
      have hHeld := hHeld'
      clear hHeld'
      try simp only [Act.put, List.setIfInBounds_toArray, List.set_cons_zero, List.set_cons_succ]
      refine wpAnyZ_one (i := 4) (by kernel_rfl) rfl (fun K' hK => ?_)
      go_simp
      refine (plSchedule_caps a A2 d M c2 T (someJ js which) sup _ hRa HL (by omega) (HR2.out.keep hHeld) HN2 (by omega)).mono ?_
      rintro e y2 hpost
      have hb := hpost.1
      obtain ⟨a0, l0, d0, a3, n3, d3, a4, n4, d4, er, rfl, hst0⟩ := schedTupleC HOK.out hpost
      have hst : Hid (SchR (someJ js which) sup W y2 a3 n3 a4 n4 d4 er) := Lib.hid (hst0.from_ hHeld.size)
      clear hpost hst0
      have hO := hO.keep hb hO.lt
      refine hK.out _ _ ?_ (fun hHeld' => ?_)
      · exact below_then hHeld hb
      clear hK K' hb hRa hHeld
      have hHeld := hHeld'
      clear hHeld'
      try simp only [Act.put, List.setIfInBounds_toArray, List.set_cons_zero, List.set_cons_succ]
      refine wpAnyZ_take (i := 5) (v := .tuple #[.slice a0 l0 d0, .agg #[.slice a3 n3 d3, .slice a4 n4 d4], .int .i64 er]) [12] rfl (by kernel_rfl) (by kernel_rfl) (by kernel_rfl) (by kernel_rfl) (fun _ _ _ h => h) (Or.inl ⟨by kernel_rfl, fun w' hSw => ?_⟩) hHeld ?_
      · clear hHeld
        go_simp
      simp only [Act.put, List.setIfInBounds_toArray, List.set_cons_zero, List.set_cons_succ]
      refine wpAnyZ_take (i := 6) (v := .slice a0 l0 d0) [12] rfl (by kernel_rfl) (by kernel_rfl) (by kernel_rfl) (by kernel_rfl) (fun _ _ _ h => h) (Or.inl ⟨by kernel_rfl, fun w' hSw => ?_⟩) hHeld ?_
      · clear hHeld
        go_simp
      simp only [Act.put, List.setIfInBounds_toArray, List.set_cons_zero, List.set_cons_succ]
      refine wpAnyZ_take (i := 7) (v := .agg #[.slice a3 n3 d3, .slice a4 n4 d4]) [12] rfl (by kernel_rfl) (by kernel_rfl) (by kernel_rfl) (by kernel_rfl) (fun _ _ _ h => h) (Or.inl ⟨by kernel_rfl, fun w' hSw => ?_⟩) hHeld ?_
      · clear hHeld
        go_simp
      simp only [Act.put, List.setIfInBounds_toArray, List.set_cons_zero, List.set_cons_succ]
      refine wpAnyZ_take (i := 8) (v := .int .i64 er) [12] rfl (by kernel_rfl) (by kernel_rfl) (by kernel_rfl) (by kernel_rfl) (fun _ _ _ h => h) (Or.inl ⟨by kernel_rfl, fun w' hSw => ?_⟩) hHeld ?_
      · clear hHeld
        go_simp
      simp only [Act.put, List.setIfInBounds_toArray, List.set_cons_zero, List.set_cons_succ]
      have hO2 := Lib.hid hO
      have c50 := hO.cell (i := 0) (by omega)
      have c51 := hO.cell (i := 1) (by omega)
      have f50 := hO.frozen 0
      have f51 := hO.frozen 1
      have hY := hHeld
      clear hO
      refine wpAnyZ_one (i := 10) (by kernel_rfl) rfl (fun K' hK => ?_)
      go_simp
      refine hK.out _ _ ?_ (fun hHeld' => ?_)
      · exact hHeld
      clear hK K'  hHeld
      have hHeld := hHeld'
      clear hHeld'
      try simp only [Act.put, List.setIfInBounds_toArray, List.set_cons_zero, List.set_cons_succ]
      refine wpAnyZ_one (i := 11) (by kernel_rfl) rfl (fun K' hK => ?_)
      go_simp
      refine hK.out _ _ ?_ (fun hHeld' => ?_)
      · first | exact (hHeld.setCell (p := ⟨_, _, _⟩) hq _).setCell (p := ⟨_, _, _⟩) hq _ | exact hPre.alloc hPre.size _
      clear hK K'  hHeld
      have hHeld := hHeld'
      clear hHeld'
      try simp only [Act.put, List.setIfInBounds_toArray, List.set_cons_zero, List.set_cons_succ]
      refine wpAnyZ_last (i := 12) (by kernel_rfl) rfl (by kernel_rfl) (fun K' hK => ?_)
      go_simp
      refine hK.out _ _ ?_
      clear hK K'
      try simp only [Act.put, List.setIfInBounds_toArray, List.set_cons_zero, List.set_cons_succ]
      refine wpAnyZ_done (by kernel_rfl) ?_ _
      clear hHeld c50 c51 f50 f51
      exact HK.out _ _ a3 n3 d3 a4 n4 d4 er _ _ _ _ _ _ _ _ _ _ (sch_old hY hq hO2.out hst.out)
  · go_simp
    have hO : Own (W.drew.alloc (.cells #[.slice none 0 0, .slice none 0 0] 30)) W.heap.size 30 2 (fun _ => .slice none 0 0) := new_cut W.drew
    have hq : W.heap.size ≤ W.heap.size := hHeld.size
    have hPre := hHeld
    refine hK.out _ _ ?_ (fun hHeld' => ?_)
    · exact hHeld.alloc hHeld.size _
    clear hK K'  hHeld
    have hHeld := hHeld'
    clear hHeld'
    try simp only [Act.put, List.setIfInBounds_toArray, List.set_cons_zero, List.set_cons_succ]
    refine wpAnyZ_one (i := 2) (by kernel_rfl) rfl (fun K' hK => ?_)
    go_simp
    refine (rSome_any A A5 c N c5 M js which _ (HR.out.keep hHeld) HN (by omega) (HR5.out.keep hHeld) HM (by omega) HV).mono ?_
    rintro e y1 ⟨a, d, rfl, hRa, hb⟩
    have hO := hO.keep hb hO.lt
    refine hK.out _ _ ?_ (fun hHeld' => ?_)
    · exact below_then hHeld hb
    clear hK K' hb hHeld
    have hHeld := hHeld'
    clear hHeld'
    try simp only [Act.put, List.setIfInBounds_toArray, List.set_cons_zero, List.set_cons_succ]
    refine wpAnyZ_one (i := 4) (by kernel_rfl) rfl (fun K' hK => ?_)
    go_simp
    refine (plSchedule_caps a A2 d M c2 T (someJ js which) sup _ hRa HL (by omega) (HR2.out.keep hHeld) HN2 (by omega)).mono ?_
    rintro e y2 hpost
    have hb := hpost.1
    obtain ⟨a0, l0, d0, a3, n3, d3, a4, n4, d4, er, rfl, hst0⟩ := schedTupleC HOK.out hpost
    have hst : Hid (SchR (someJ js which) sup W y2 a3 n3 a4 n4 d4 er) := Lib.hid (hst0.from_ hHeld.size)
    clear hpost hst0
    have hO := hO.keep hb hO.lt
    refine hK.out _ _ ?_ (fun hHeld' => ?_)
    · exact below_then hHeld hb
    clear hK K' hb hRa hHeld
    have hHeld := hHeld'
    clear hHeld'
    try simp only [Act.put, List.setIfInBounds_toArray, List.set_cons_zero, List.set_cons_succ]
    refine wpAnyZ_take (i := 5) (v := .tuple #[.slice a0 l0 d0, .agg #[.slice a3 n3 d3, .slice a4 n4 d4], .int .i64 er]) [12] rfl (by kernel_rfl) (by kernel_rfl) (by kernel_rfl) (by kernel_rfl) (fun _ _ _ h => h) (Or.inl ⟨by kernel_rfl, fun w' hSw => ?_⟩) hHeld ?_
    · clear hHeld
      go_simp
    simp only [Act.put, List.setIfInBounds_toArray, List.set_cons_zero, List.set_cons_succ]
    refine wpAnyZ_take (i := 6) (v := .slice a0 l0 d0) [12] rfl (by kernel_rfl) (by kernel_rfl) (by kernel_rfl) (by kernel_rfl) (fun _ _ _ h => h) (Or.inl ⟨by kernel_rfl, fun w' hSw => ?_⟩) hHeld ?_
    · clear hHeld
      go_simp
    simp only [Act.put, List.setIfInBounds_toArray, List.set_cons_zero, List.set_cons_succ]
    refine wpAnyZ_take (i := 7) (v := .agg #[.slice a3 n3 d3, .slice a4 n4 d4]) [12] rfl (by kernel_rfl) (by kernel_rfl) (by kernel_rfl) (by kernel_rfl) (fun _ _ _ h => h) (Or.inl ⟨by kernel_rfl, fun w' hSw => ?_⟩) hHeld ?_
    · clear hHeld
      go_simp
    simp only [Act.put, List.setIfInBounds_toArray, List.set_cons_zero, List.set_cons_succ]
    refine wpAnyZ_take (i := 8) (v := .int .i64 er) [12] rfl (by kernel_rfl) (by kernel_rfl) (by kernel_rfl) (by kernel_rfl) (fun _ _ _ h => h) (Or.inl ⟨by kernel_rfl, fun w' hSw => ?_⟩) hHeld ?_
    · clear hHeld
      go_simp
    simp only [Act.put, List.setIfInBounds_toArray, List.set_cons_zero, List.set_cons_succ]
    have hO2 := Lib.hid hO
    have c50 := hO.cell (i := 0) (by omega)
    have c51 := hO.cell (i := 1) (by omega)
    have f50 := hO.frozen 0
    have f51 := hO.frozen 1
    have hY := hHeld
    clear hO
    refine wpAnyZ_one (i := 10) (by kernel_rfl) rfl (fun K' hK => ?_)
    go_simp
    refine hK.out _ _ ?_ (fun hHeld' => ?_)
    · exact hHeld
    clear hK K'  hHeld
    have hHeld := hHeld'
    clear hHeld'
    try simp only [Act.put, List.setIfInBounds_toArray, List.set_cons_zero, List.set_cons_succ]
    refine wpAnyZ_one (i := 11) (by kernel_rfl) rfl (fun K' hK => ?_)
    go_simp
    refine hK.out _ _ ?_ (fun hHeld' => ?_)
    · first | exact (hHeld.setCell (p := ⟨_, _, _⟩) hq _).setCell (p := ⟨_, _, _⟩) hq _ | exact hPre.alloc hPre.size _
    clear hK K'  hHeld
    have hHeld := hHeld'
    clear hHeld'
    try simp only [Act.put, List.setIfInBounds_toArray, List.set_cons_zero, List.set_cons_succ]
    refine wpAnyZ_last (i := 12) (by kernel_rfl) rfl (by kernel_rfl) (fun K' hK => ?_)
    go_simp
    refine hK.out _ _ ?_
    clear hK K'
    try simp only [Act.put, List.setIfInBounds_toArray, List.set_cons_zero, List.set_cons_succ]
    refine wpAnyZ_done (by kernel_rfl) ?_ _
    clear hHeld c50 c51 f50 f51
    exact HK.out _ _ a3 n3 d3 a4 n4 d4 er _ _ _ _ _ _ _ _ _ _ (sch_old hY hq hO2.out hst.out)
end Go.Proofs.Ytgfcnkfmgpakkaa
/-
replan.Keep's closure, walked.
-/
namespace Go.Proofs.Ytgfcnkfmgpakkaa
open Go.RowKit
set_option linter.unusedVariables false
set_option linter.unusedSimpArgs false
/-- The variables that Keep's closure sees: the boxes of kept (bk), of cuts (bc), of jobs (bj), of supply (bs). -/
structure KeepW (w W : World) (bk bc bj bs : Nat) (A A2 : Option Addr) (N c T c2 : Nat) (vk vC : Value) (K : List Int) (C : List (List Int × List Int)) : Prop where
  bel : Below w.heap.size w W
  ok : Own W bk 23 1 (fun _ => vk)
  oc : Own W bc 51 1 (fun _ => vC)
  cj : W.cell? ⟨bj, 0, none⟩ = some (.slice A N c)
  cs : W.cell? ⟨bs, 0, none⟩ = some (.slice A2 T c2)
  kl : OwnN W w.heap.size vk K
  cl : OwnC W w.heap.size (fun q => q = bk ∨ q = bc) vC C
  ob : w.heap.size ≤ bk ∧ w.heap.size ≤ bc
  ne : bk ≠ bj ∧ bk ≠ bs ∧ bc ≠ bj ∧ bc ≠ bs ∧ bk ≠ bc
  nk : ∀ q, vk.ownBlock = some q → q ≠ bk ∧ q ≠ bc ∧ vC.ownBlock ≠ some q
  nc : ∀ q, vC.ownBlock = some q → q ≠ bk ∧ q ≠ bc ∧ q ≠ bj ∧ q ≠ bs
section
variable {w W W' : World} {bk bc bj bs : Nat} {A A2 : Option Addr} {N c T c2 : Nat} {vk vC : Value} {K : List Int} {C : List (List Int × List Int)}
theorem KeepW.keep (h : KeepW w W bk bc bj bs A A2 N c T c2 vk vC K C) (hb : Below W.heap.size W W') : KeepW w W' bk bc bj bs A A2 N c T c2 vk vC K C :=
  ⟨below_then h.bel hb, h.ok.keep hb h.ok.lt, h.oc.keep hb h.oc.lt, (hb.cell (p := ⟨bj, 0, none⟩) (World.block_lt_of_cell? W _ h.cj)).trans h.cj, (hb.cell (p := ⟨bs, 0, none⟩) (World.block_lt_of_cell? W _ h.cs)).trans h.cs,
   h.kl.keep hb, h.cl.keep hb, h.ob, h.ne, h.nk, h.nc⟩
/-- kept := another list. -/
theorem KeepW.setK {v2 : Value} {K2 : List Int} (h : KeepW w W bk bc bj bs A A2 N c T c2 vk vC K C) (hk : OwnN W w.heap.size v2 K2) (hn : ∀ q, v2.ownBlock = some q → q ≠ bk ∧ q ≠ bc ∧ vC.ownBlock ≠ some q) :
    KeepW w (W.setCell ⟨bk, 0, none⟩ v2) bk bc bj bs A A2 N c T c2 v2 vC K2 C := by
  have hM : Mod (fun q => q = bk) W (W.setCell ⟨bk, 0, none⟩ v2) := (Mod.refl (fun q => q = bk) W).setCell (p := ⟨bk, 0, none⟩) (.inl rfl) _
  refine ⟨h.bel.trans (hM.below h.bel.size (fun q _ hq => by subst hq; exact h.ob.1)), (h.ok.set 0 v2).congr (fun i hi => ?_), h.oc.mod hM (fun e => h.ne.2.2.2.2 e.symm), (World.cell?_setCell_far _ _ _ _ h.ne.1).trans h.cj, (World.cell?_setCell_far _ _ _ _ h.ne.2.1).trans h.cs,
    hk.mod hM (fun k hk2 e => (hn k hk2).1 e), h.cl.mod hM (fun k hk2 e => (h.nc k hk2).1 e) (fun q hq => .inl (.inl hq)), h.ob, h.ne, hn, h.nc⟩
  rcases i with _ | i
  · simp
  · omega
/-- cuts := cuts with one more. -/
theorem KeepW.addC {w5 : World} {v' : Value} {C2 : List (List Int × List Int)} (h : KeepW w W bk bc bj bs A A2 N c T c2 vk vC K C) (hm : Mod (fun k => vC.ownBlock = some k) W w5) (hc : OwnC w5 w.heap.size (fun q => q = bk ∨ q = bc) v' C2)
    (hv : v'.ownBlock = vC.ownBlock ∨ ∃ q, v'.ownBlock = some q ∧ W.heap.size ≤ q) : KeepW w (w5.setCell ⟨bc, 0, none⟩ v') bk bc bj bs A A2 N c T c2 vk v' K C2 := by
  have hM : Mod (fun q => q = bc) w5 (w5.setCell ⟨bc, 0, none⟩ v') := (Mod.refl (fun q => q = bc) w5).setCell (p := ⟨bc, 0, none⟩) (.inl rfl) _
  have lj := World.block_lt_of_cell? W _ h.cj
  have ls := World.block_lt_of_cell? W _ h.cs
  have lk := h.ok.lt
  have lc := h.oc.lt
  dsimp only at lj ls
  have hnc : ∀ q, v'.ownBlock = some q → q ≠ bk ∧ q ≠ bc ∧ q ≠ bj ∧ q ≠ bs := by
    intro q hq
    rcases hv with e | ⟨p, e, hp⟩
    · exact h.nc q (by rw [← e]; exact hq)
    · rw [e] at hq
      injection hq with hq
      omega
  have hlow : ∀ k, k < W.heap.size → vC.ownBlock = some k → w.heap.size ≤ k := by
    intro k _ hk
    obtain ⟨vs, h1, _, _⟩ := h.cl.out
    exact (World.ownsRow.lt h1 k hk).1
  have b5 := h.bel.trans (hm.below h.bel.size hlow)
  have ok5 := h.ok.mod hm (fun e => (h.nc bk e).1 rfl)
  have oc5 := h.oc.mod hm (fun e => (h.nc bc e).2.1 rfl)
  have kl5 := h.kl.mod hm (fun k hk e => (h.nk k hk).2.2 e)
  refine ⟨b5.trans (hM.below b5.size (fun q _ hq => by subst hq; exact h.ob.2)), ok5.mod hM h.ne.2.2.2.2, (oc5.set 0 v').congr (fun i hi => ?_), (World.cell?_setCell_far _ _ _ _ h.ne.2.2.1).trans ((hm.cell lj (fun e => (h.nc bj e).2.2.1 rfl)).trans h.cj),
    (World.cell?_setCell_far _ _ _ _ h.ne.2.2.2.1).trans ((hm.cell ls (fun e => (h.nc bs e).2.2.2 rfl)).trans h.cs), kl5.mod hM (fun k hk e => (h.nk k hk).2.1 e), hc.mod hM (fun k hk e => (hnc k hk).2.1 e) (fun q hq => .inl (.inr hq)), h.ob, h.ne, fun q hq => ⟨(h.nk q hq).1, (h.nk q hq).2.1, ?_⟩, hnc⟩
  · rcases i with _ | i
    · simp
    · omega
  · intro e2
    rcases hv with e | ⟨p, e, hp⟩
    · exact (h.nk q hq).2.2 (by rw [← e]; exact e2)
    · rw [e] at e2
      injection e2 with e2
      have := (World.ownsRow.lt h.kl q hq).2
      omega
end
theorem OwnR.base_ {α : Type} {t : TypeId} {sz : Nat} {enc : α → List Value} {w : World} {base b0 : Nat} {v : Value} {xs : List α} (h : OwnR t sz enc w base v xs) (hb : b0 ≤ base) : OwnR t sz enc w b0 v xs := by
  refine ⟨h.1, ?_⟩
  rcases h.2 with x | ⟨g, cap, cur, hv, hg, rest⟩
  · exact .inl x
  · exact .inr ⟨g, cap, cur, hv, Nat.le_trans hb hg, rest⟩
theorem seg_mk (f : Nat → Int) (n : Nat) : seg f 0 n = mk n f := by
  unfold seg mk
  simp
theorem mk_fAtI (l : List Int) : mk l.length (fAt l) = l := by
  apply List.ext_getElem?
  intro k
  rcases Nat.lt_or_ge k l.length with hk | hk
  · rw [mk_at _ hk]
    simp [fAt, List.getElem?_eq_getElem hk]
  · rw [List.getElem?_eq_none (by rw [mk_len]; exact hk), List.getElem?_eq_none hk]
theorem fAt_mkI (n : Nat) (f : Nat → Int) {k : Nat} (hk : k < n) : fAt (mk n f) k = f k := by
  unfold fAt
  rw [mk_at _ hk]
  rfl
/-- A sorted list of numbers without repeats: marks in order. -/
theorem srt_good {l : List Int} {N : Nat} {f' : Nat → Int} (hn : l.Nodup) (hv : ValidL N l) (h : SrtO 0 l.length (fAt l) f') : goodTo (mk l.length f') (N : Int) (mk l.length f').length ∧ ∀ x, x ∈ mk l.length f' ↔ x ∈ l := by
  have hp : (mk l.length f').Perm l := by
    have := h.perm
    rw [seg_mk, seg_mk, mk_fAtI] at this
    exact this
  have hnd : (mk l.length f').Nodup := hp.nodup_iff.2 hn
  have hval : ∀ k, k < l.length → 0 ≤ f' k ∧ f' k < N := by
    intro k hk
    refine hv _ (hp.mem_iff.1 ?_)
    exact List.mem_iff_getElem?.2 ⟨k, mk_at _ hk⟩
  refine ⟨fun k hk => ?_, fun x => hp.mem_iff⟩
  rw [mk_len] at hk
  rw [fAt_mkI _ _ hk]
  refine ⟨?_, (hval k hk).2⟩
  rcases k with _ | k
  · have := (hval 0 hk).1
    show (-1 : Int) < f' 0
    omega
  · show fAt (mk l.length f') k < f' (k + 1)
    rw [fAt_mkI _ _ (by omega)]
    have h1 := h.sorted k (k + 1) (by omega) (by omega) hk
    have h2 : f' k ≠ f' (k + 1) := by
      intro e
      have l1 : k < (mk l.length f').length := by rw [mk_len]; omega
      have l2 : k + 1 < (mk l.length f').length := by rw [mk_len]; exact hk
      have e1 := mk_at f' (by omega : k < l.length)
      have e2 := mk_at f' hk
      rw [List.getElem?_eq_getElem l1] at e1
      rw [List.getElem?_eq_getElem l2] at e2
      injection e1 with e1
      injection e2 with e2
      exact List.pairwise_iff_getElem.1 hnd k (k + 1) l1 l2 (by omega) (by rw [e1, e2, e])
    omega
/-- Numbers named by a list. -/
def nameL (l cj : List Int) : List Int := cj.map (fun x => fAt l x.toNat)
theorem nameL_len (l cj : List Int) : (nameL l cj).length = cj.length := by simp [nameL]
theorem nameL_snoc {l cj : List Int} {k : Nat} {x : Int} (h : cj[k]? = some x) : nameL l (cj.take (k + 1)) = nameL l (cj.take k) ++ [fAt l x.toNat] := by
  unfold nameL
  rw [take_snocM h, List.map_append]
  rfl
theorem nameL_nodup {l cj : List Int} (hl : l.Nodup) (hc : cj.Nodup) (hv : ValidL l.length cj) : (nameL l cj).Nodup := by
  refine List.pairwise_iff_getElem.2 fun a b h1 h2 hab e => ?_
  rw [nameL_len] at h1 h2
  simp only [nameL, List.getElem_map] at e
  have v1 := hv _ (List.getElem_mem h1)
  have v2 := hv _ (List.getElem_mem h2)
  have e2 := nodup_fAt hl (i := cj[a].toNat) (k := cj[b].toNat) (by omega) (by omega) e
  have e3 : cj[a] = cj[b] := by omega
  exact List.pairwise_iff_getElem.1 hc a b h1 h2 hab e3
theorem nameL_valid {l cj : List Int} {N : Nat} (hl : ValidL N l) (hv : ValidL l.length cj) : ValidL N (nameL l cj) := by
  intro x hx
  obtain ⟨y, hy, e⟩ := List.mem_map.1 hx
  have v := hv y hy
  rw [← e]
  have hk : y.toNat < l.length := by omega
  have : fAt l y.toNat ∈ l := by
    simp [fAt, List.getElem?_eq_getElem hk]
  exact hl _ this
/-- The closure's end. -/
def KeepPost (w W0 : World) (vC0 : Value) (bk bc bj bs : Nat) (A A2 : Option Addr) (N c T c2 : Nat) (js : List GJob) (sup : List Int) (i : Int) (K : List Int) (C : List (List Int × List Int)) (e : Ending) (w' : World) : Prop :=
  e = .returned (.tuple #[]) ∧ Mod (fun q => q = bk ∨ q = bc ∨ vC0.ownBlock = some q) W0 w' ∧ ∃ vk vC K2 C2, (vC.ownBlock = vC0.ownBlock ∨ ∃ q, vC.ownBlock = some q ∧ W0.heap.size ≤ q) ∧ KeepW w w' bk bc bj bs A A2 N c T c2 vk vC K2 C2 ∧ ((Met (someJ js (K ++ [i])) sup ∧ K2 = K ++ [i] ∧ C2 = C) ∨ (¬ Met (someJ js (K ++ [i])) sup ∧ K2 = K ∧ ∃ x, expl js sup x i K ∧ C2 = C ++ [x]))
set_option maxRecDepth 100000 in
set_option maxHeartbeats 8000000 in
theorem rKeep1_any (w W0 : World) (bk bc bj bs : Nat) (A A2 : Option Addr) (N c T c2 : Nat) (vk vC : Value) (js : List GJob) (sup : List Int) (i : Int) (K : List Int) (C : List (List Int × List Int)) (hR : Rd 5 encJ w A js) (HN : Hid (js.length = N)) (hR2 : Rd 1 encI w A2 sup) (HN2 : Hid (sup.length = T))
    (hok : okP js sup = true) (h : KeepW w W0 bk bc bj bs A A2 N c T c2 vk vC K C) (hnd : (K ++ [i]).Nodup) (hv : ValidL js.length (K ++ [i])) (hmet : Met (someJ js K) sup) (hKl : K.length < 12) (hCl : C.length ≤ 12) :
    Calls Try.prog 73 #[.int .i64 i, .pointer (some ⟨bk, 0, none⟩), .pointer (some ⟨bj, 0, none⟩), .pointer (some ⟨bs, 0, none⟩), .pointer (some ⟨bc, 0, none⟩)] W0 (KeepPost w W0 vC bk bc bj bs A A2 N c T c2 js sup i K C) := by
  obtain ⟨⟨t1, t2⟩, _, _⟩ := okP_iff.1 hok
  rw [HN.out] at t1
  rw [HN2.out] at t2
  have HOK := Lib.hid hok
  have HND := Lib.hid hnd
  have HV := Lib.hid hv
  have HMET := Lib.hid hmet
  have HCL := Lib.hid hCl
  have HR := Lib.hid hR
  have HR2 := Lib.hid hR2
  obtain ⟨ak, ck, rfl, rk⟩ := h.kl.rd encI_len1
  have HRK := Lib.hid rk
  have HW := Lib.hid h
  have hck := h.ok.cell (i := 0) (by omega)
  obtain ⟨n, HKn⟩ : ∃ n, Hid (K.length = n) := ⟨_, Lib.hid rfl⟩
  have hn12 : n < 12 := by rw [← HKn.out]; exact hKl
  rw [HKn.out] at hck
  clear hnd hv hmet hCl hR hR2 hok h rk hKl
  go_enter Try.func73, Try.ntmps73
  go_wp2_with fail
  refine (sClone_any ak ck n K W0 HRK.out HKn (by omega)).mono ?_
  rintro e w1 ⟨v1, rfl, HO1, hb1⟩
  obtain ⟨ap, v2, w2, av, aw, HO2, HA⟩ := app_num i HO1.out hb1.size (by rw [HKn.out]; omega)
  have HB2 := Lib.hid (hb1.trans HA.out.bel)
  clear hb1 HO1 hck
  go_upto_region 1 with (fail)
  clear ap av aw HA
  obtain ⟨a5, c5, hv2, hc5, r5⟩ := HO2.out.rdC encI_len1
  have hlen5 : (K ++ [i]).length = n + 1 := by rw [List.length_append, HKn.out]; rfl
  rw [hlen5] at hv2 hc5
  subst hv2
  have HR5 := Lib.hid r5
  have HL5 := Lib.hid hlen5
  have W2 := Lib.hid (HW.out.keep HB2.out)
  have hok2 := okP_some HOK.out HV.out (by rw [hlen5]; omega)
  clear r5 hlen5
  refine wp_normal (fun K' hK => ?_)
  refine kp1 w2 bk bj bs bc A A2 a5 c N c2 T c5 (n + 1) js sup (K ++ [i]) [] K' W2.out.cj W2.out.cs (HR.out.keep W2.out.bel) HN t1 (HR2.out.keep W2.out.bel) HN2 t2 HR5.out HL5 (by omega) HV hok2 _ _ _ _ _ _ _ _ _ _ _ _ _ _ _ _ _ _ _ _ _ _ _ _ _ _ _ _ _ _ _ _ _ _ _ _ _ _ _ _ _ _ _ _ _ _ _ _ _ _ _ _ _ (Lib.hid ?_)
  intro W3 b a3 n3 d3 a4 n4 d4 er
  intros
  rename_i so
  refine hK _ _ ?_
  clear hK K' hok2
  have SO := Lib.hid so
  have W3k := Lib.hid (W2.out.keep so.bel)
  have hfr : ∀ q, (Value.slice a5 (n + 1) c5).ownBlock = some q → W0.heap.size ≤ q ∧ q < w2.heap.size := fun q hq => World.ownsRow.lt HO2.out q hq
  have HK5 : Hid (OwnN W3 w.heap.size (.slice a5 (n + 1) c5) (K ++ [i])) := Lib.hid ((HO2.out.keep so.bel).base_ HW.out.bel.size)
  have HFR : Hid (∀ q, (Value.slice a5 (n + 1) c5).ownBlock = some q → q ≠ bk ∧ q ≠ bc ∧ vC.ownBlock ≠ some q) := Lib.hid (fun q hq => by
    have h1 := (hfr q hq).1
    have h2 := HW.out.ok.lt
    have h3 := HW.out.oc.lt
    refine ⟨by omega, by omega, fun e => ?_⟩
    obtain ⟨vs, h4, _, _⟩ := HW.out.cl.out
    have := (World.ownsRow.lt h4 q e).2
    omega)
  have HB3 : Hid (Below W0.heap.size W0 W3) := Lib.hid (below_then HB2.out so.bel)
  clear hfr HO2 HB2
  go_step
  rcases so.res.res with ⟨rfl, hm⟩ | ⟨rfl, cj, cs, hn3, hn4, r3, r4, hc3, hc4, hcut, hfr4⟩
  · have HM := Lib.hid hm
    have k1 := W3k.out.ok.cell (i := 0) (by omega)
    have f1 := W3k.out.ok.frozen 0
    have HE := Lib.hid (W3k.out.setK HK5.out HFR.out)
    clear hm so SO
    go_wp2_with fail
    go_end0
    exact ⟨rfl, (((Mod.of_below HB3.out).mono (fun q h1 h2 => absurd h1 (by omega))).setCell (p := ⟨bk, 0, none⟩) (.inl (.inl rfl)) _), _, _, _, _, .inl rfl, HE.out, .inl ⟨HM.out, rfl, rfl⟩⟩
  · have hl5 := HL5.out
    have HVC : Hid (ValidL (n + 1) cj) := Lib.hid (by
      have := good_valid (cutPB_iff.1 hcut).2.1
      rwa [someJ_len, hl5] at this)
    have HCUT := Lib.hid hcut
    have HNM : Hid (¬ Met (someJ js (K ++ [i])) sup) := Lib.hid (cutPB_notA hcut)
    have h0n : 0 < n3 := by
      rcases Nat.eq_zero_or_pos n3 with h | h
      · have hc0 : cj = [] := List.eq_nil_of_length_eq_zero (by omega)
        subst hc0
        have := expl_named (named := []) HOK.out HND.out HV.out HMET.out (by rw [HKn.out]; exact hn12) hcut (fun a ha => by simp at ha) (fun x => by simp)
        exact absurd this.2.1 (by simp)
      · exact h
    have q0 : W3.cell? ⟨b, 0, none⟩ = some (.slice a3 n3 d3) := so.own.cell (i := 0) (by omega)
    have q1 : W3.cell? ⟨b, 1, none⟩ = some (.slice a4 n4 d4) := so.own.cell (i := 1) (by omega)
    have lb : b < W3.heap.size := so.own.lt
    have HQ1 := Lib.hid q1
    have HR3 := Lib.hid r3
    have HR4 := Lib.hid r4
    have HN3 := Lib.hid hn3
    have HN4 := Lib.hid hn4
    have HF4 := Lib.hid hfr4
    have HR5b := Lib.hid (HR5.out.keep so.bel)
    obtain ⟨mc, hmk, hown⟩ := mk_roomI n3 (by omega)
    have HO0 : Hid (OwnN (W3.alloc (.cells mc 3)) W3.heap.size (.slice (some ⟨W3.heap.size, 0, none⟩) 0 n3) (nameL (K ++ [i]) (cj.take 0))) := Lib.hid (hown W3 _ (Nat.le_refl _))
    have HB0 : Hid (Below W3.heap.size W3 (W3.alloc (.cells mc 3))) := Lib.hid ((Below.refl _ _).alloc (Nat.le_refl _) _)
    have q0a : (W3.alloc (.cells mc 3)).cell? ⟨b, 0, none⟩ = some (.slice a3 n3 d3) := (HB0.out.cell (p := ⟨b, 0, none⟩) lb).trans q0
    have hw2 : w2.heap.size ≤ W3.heap.size := so.bel.size
    have hb2k : bk < w2.heap.size := W2.out.ok.lt
    have hb2c : bc < w2.heap.size := W2.out.oc.lt
    have HSP : Hid (∀ q, vC.ownBlock = some q → q < w2.heap.size) := Lib.hid (fun q hq => by
      obtain ⟨vs, h4, _, _⟩ := W2.out.cl.out
      exact (World.ownsRow.lt h4 q hq).2)
    clear so SO r3 r4 hn3 hn4 hcut hfr4 hown hl5 q1 HK5 HFR
    go_wp2
    go_loopg [10, 12, 37] n3 (fun g1 v10 v12 v37 wr => ∃ (k : Nat), v37 = .int .i64 k ∧ k ≤ n3 ∧ n3 - k ≤ g1 ∧ Hid (OwnN wr W3.heap.size v10 (nameL (K ++ [i]) (cj.take k))) ∧ Hid (Below W3.heap.size W3 wr))
    case atStart => exact ⟨0, by go_num, by omega, by omega, HO0, HB0⟩
    case round =>
      clear HO0 HB0 q0a hmk
      obtain ⟨k, rfl, hk, hg1, HO, HB⟩ := hrel
      by_cases hlt : k < n3
      · have hltz : (k : Int) < (n3 : Int) := by omega
        obtain ⟨b3, o3, x, ha3, hb3, hx, hxc⟩ := (HR3.out.keep HB.out).at_ (k := k) (by rw [HN3.out]; exact hlt)
        subst ha3
        have hvx := HVC.out x (List.mem_of_getElem? hx)
        obtain ⟨xn, rfl⟩ : ∃ xn : Nat, x = xn := ⟨x.toNat, by omega⟩
        have hx0 : wr.cell? ⟨b3, o3 + k, none⟩ = some (.int .i64 xn) := by have := hxc 0 _ rfl; simpa using this
        obtain ⟨b5, o5, y, ha5, hb5, hy, hyc⟩ := (HR5b.out.keep HB.out).at_ (k := xn) (by rw [HL5.out]; omega)
        subst ha5
        have hy0 : wr.cell? ⟨b5, o5 + xn, none⟩ = some (.int .i64 y) := by have := hyc 0 _ rfl; simpa using this
        have hxn : (xn : Int) < ((n + 1 : Nat) : Int) := by omega
        have hyy : fAt (K ++ [i]) ((xn : Int)).toNat = y := by simp [fAt, hy]
        have HX := Lib.hid (nameL_snoc (l := K ++ [i]) hx)
        have HYY := Lib.hid hyy
        obtain ⟨ap, v2, w5, av, aw, HO5, HA5⟩ := app_num y HO.out HB.out.size (by rw [nameL_len, List.length_take]; omega)
        have HO6 : Hid (OwnN w5 W3.heap.size v2 (nameL (K ++ [i]) (cj.take (k + 1)))) := Lib.hid (by rw [HX.out, HYY.out]; exact HO5.out)
        have HB6 := Lib.hid (HB.out.trans HA5.out.bel)
        clear hxc hyc hx hy hyy HO HB HA5 HO5 hvx
        go_wp2
        go_roundg (n3 - (k + 1))
        case measure => omega
        case rel => exact ⟨k + 1, by go_num, by omega, by omega, HO6, HB6⟩
      · have hltz : ¬ (k : Int) < (n3 : Int) := by omega
        have hkn : k = n3 := by omega
        subst hkn
        have HO9 : Hid (OwnN wr W3.heap.size u10 (nameL (K ++ [i]) cj)) := Lib.hid (by have := HO.out; rwa [List.take_of_length_le (by rw [HN3.out]; omega)] at this)
        have HLN : Hid ((nameL (K ++ [i]) cj).length = k) := Lib.hid (by rw [nameL_len, HN3.out])
        obtain ⟨g, cg, hv10, hgB, hP⟩ := HO9.out.ownP (by rw [HLN.out]; exact h0n)
        rw [HLN.out] at hv10 hP
        subst hv10
        have HS := Lib.hid (sSort_few g k cg (fAt (nameL (K ++ [i]) cj)) wr wr ⟨hP, Mod.refl _ _⟩ (by omega))
        clear HO HO9 hP
        go_wp2_with fail
        refine HS.out.mono ?_
        rintro e w6 ⟨rfl, f', hs, S6⟩
        have hB6 := HB.out.trans (S6.mod.below HB.out.size (fun q _ hq => by subst hq; exact hgB))
        have K6 := Lib.hid (W3k.out.keep hB6)
        have p1 : w6.cell? ⟨b, 1, none⟩ = some (.slice a4 n4 d4) := (hB6.cell (p := ⟨b, 1, none⟩) lb).trans HQ1.out
        have p2 := K6.out.oc.cell (i := 0) (by omega)
        have f2 := K6.out.oc.frozen 0
        have hgood := srt_good (N := js.length) (nameL_nodup HND.out (good_nodup (cutPB_iff.1 HCUT.out).2.1 rfl) (by rw [HL5.out]; exact HVC.out)) (nameL_valid HV.out (by rw [HL5.out]; exact HVC.out)) (by rw [HLN.out]; exact hs)
        rw [HLN.out] at hgood
        have HEX : Hid (expl js sup (mk k f', cs) i K) := Lib.hid (expl_named HOK.out HND.out HV.out HMET.out (by rw [HKn.out]; exact hn12) HCUT.out hgood.1 (fun x => by
          rw [hgood.2, nameL, List.mem_map]
          exact ⟨fun ⟨z, h1, h2⟩ => ⟨z, h1, h2.symm⟩, fun ⟨z, h1, h2⟩ => ⟨z, h1, h2.symm⟩⟩))
        have hrow : RowF w6 (fun q => (q = bk ∨ q = bc) ∨ vC.ownBlock = some q) ⟨some ⟨g, 0, none⟩, k, cg, a4, n4, d4⟩ (mk k f', cs) := by
          have hq : ∀ q, ((q = bk ∨ q = bc) ∨ vC.ownBlock = some q) → q < w2.heap.size := by
            rintro q ((rfl | rfl) | hq)
            · exact hb2k
            · exact hb2c
            · exact HSP.out q hq
          refine ⟨⟨mk_len _ _, (by show k ≤ 9223372036854775807; omega), S6.own.rd, HN4.out, (by show n4 ≤ 9223372036854775807; omega), HR4.out.keep hB6⟩, fun q hq0 b' hb' h0 e => ?_, fun q hq0 b' hb' h0 e => ?_⟩
          · have := hq q hq0
            injection hb' with hb'
            subst hb'
            dsimp only at e
            omega
          · have := hq q hq0
            have h9 := HF4.out b'.block (by dsimp only at hb'; rw [hb']; rfl)
            omega
        obtain ⟨ap, v7, w7, av, aw, HC7, HM7, HV7⟩ := app_cut K6.out.cl K6.out.bel.size (by have := HCL.out; omega) (by rintro q (rfl | rfl); exact K6.out.ok.lt; exact K6.out.oc.lt) hrow
        have HE := Lib.hid (K6.out.addC HM7.out HC7.out HV7.out)
        have hB06 := HB3.out.trans (hB6.mono HB3.out.size)
        have HMM : Hid (Mod (fun q => q = bk ∨ q = bc ∨ vC.ownBlock = some q) W0 w7) := Lib.hid (((Mod.of_below hB06).mono (fun q h1 h2 => absurd h1 (by omega))).trans (HM7.out.mono (fun q h1 h2 => .inr (.inr h2))))
        have HVV : Hid (v7.ownBlock = vC.ownBlock ∨ ∃ q, v7.ownBlock = some q ∧ W0.heap.size ≤ q) := Lib.hid (by
          rcases HV7.out with e | ⟨q, e, hq⟩
          · exact .inl e
          · exact .inr ⟨q, e, Nat.le_trans hB06.size hq⟩)
        have p3 : ∃ u, w7.cell? ⟨bc, 0, none⟩ = some u := ⟨_, (HM7.out.cell (p := ⟨bc, 0, none⟩) K6.out.oc.lt (fun e => (K6.out.nc bc e).2.1 rfl)).trans p2⟩
        obtain ⟨u3, p3⟩ := p3
        have f3 : w7.frozen? ⟨bc, 0, none⟩ = false := (HM7.out.frozen (p := ⟨bc, 0, none⟩) K6.out.oc.lt (fun e => (K6.out.nc bc e).2.1 rfl)).trans f2
        obtain ⟨a7, c7, hv7⟩ := HC7.out.shape
        rw [List.length_append, List.length_singleton] at hv7
        subst hv7
        clear hB06 hs S6 hB6 K6 hgood hrow HC7 HM7 HV7 HS HB
        go_wp2
        go_end0
        exact ⟨rfl, HMM.out.setCell (p := ⟨bc, 0, none⟩) (.inl (.inr (.inl rfl))) _, _, _, _, _, HVV.out, HE.out, .inr ⟨HNM.out, rfl, (mk k f', cs), HEX.out, rfl⟩⟩
end Go.Proofs.Ytgfcnkfmgpakkaa
/-
replan.Keep, walked.
-/
namespace Go.Proofs.Ytgfcnkfmgpakkaa
open Go.RowKit
set_option linter.unusedVariables false
set_option linter.unusedSimpArgs false
/-- What Keep answers. -/
def KeepEnd (w : World) (js : List GJob) (sup : List Int) (e : Ending) (w' : World) : Prop :=
  Below w.heap.size w w' ∧
  ((okP js sup = false ∧ e = .returned (.tuple #[.slice none 0 0, .slice none 0 0, .int .i64 1])) ∨
   (okP js sup = true ∧ ∃ ord ak ck ac cc vs C, IsOrd js ord ∧ e = .returned (.tuple #[.slice ak (keptTo js sup ord ord.length).length ck, .slice ac C.length cc, .int .i64 0]) ∧ CutsTo js sup ord ord.length C ∧
     Rd 1 encI w' ak (keptTo js sup ord ord.length) ∧ RdC w' ac vs C ∧ (keptTo js sup ord ord.length).length ≤ ck ∧ C.length ≤ cc ∧ ck ≤ 9223372036854775807 ∧ cc ≤ 9223372036854775807))
theorem OwnR.cap_le {α : Type} {t : TypeId} {sz : Nat} {enc : α → List Value} {w : World} {base n c : Nat} {a : Option Addr} {xs : List α} (h : OwnR t sz enc w base (.slice a n c) xs) : c ≤ 9223372036854775807 := by
  rcases h.2 with ⟨h1, _⟩ | ⟨g, cap, cur, hv, hb, hg, hl, hm, hs, hc⟩
  · injection h1 with _ _ h3
    omega
  · injection hv with _ _ h3
    unfold maxLen at hm
    omega
theorem OwnC.cap_le {w : World} {base n c : Nat} {P : Nat → Prop} {a : Option Addr} {C : List (List Int × List Int)} (h : OwnC w base P (.slice a n c) C) : c ≤ 9223372036854775807 := by
  obtain ⟨vs, h1, _, _⟩ := h.out
  exact h1.cap_le
theorem KeepW.start {w w1 : World} {bj bs : Nat} {A A2 : Option Addr} {N c T c2 : Nat} (hb : Below w.heap.size w w1) (hcj : w1.cell? ⟨bj, 0, none⟩ = some (.slice A N c)) (hcs : w1.cell? ⟨bs, 0, none⟩ = some (.slice A2 T c2)) :
    KeepW w ((w1.alloc (.cells #[.slice none 0 0] 23)).alloc (.cells #[.slice none 0 0] 51)) w1.heap.size (w1.heap.size + 1) bj bs A A2 N c T c2 (.slice none 0 0) (.slice none 0 0) [] [] := by
  have lj := World.block_lt_of_cell? w1 _ hcj
  have ls := World.block_lt_of_cell? w1 _ hcs
  dsimp only at lj ls
  have ba : Below w1.heap.size w1 ((w1.alloc (.cells #[.slice none 0 0] 23)).alloc (.cells #[.slice none 0 0] 51)) := ((Below.refl _ w1).alloc (Nat.le_refl _) _).alloc (by simp) _
  have hs := hb.size
  refine ⟨below_then hb ba, ?_, ?_, (ba.cell (p := ⟨bj, 0, none⟩) lj).trans hcj, (ba.cell (p := ⟨bs, 0, none⟩) ls).trans hcs, OwnR.nil _ _, OwnC.nil _ _ _, ⟨hs, by omega⟩, ⟨by omega, by omega, by omega, by omega, by omega⟩, fun q hq => (by cases hq), fun q hq => (by cases hq)⟩
  · have o1 : Own (w1.alloc (.cells #[.slice none 0 0] 23)) w1.heap.size 23 1 (fun _ => .slice none 0 0) := Own.newAt _ _ _ _ rfl (n := 1) rfl (fun i hi => by
      rcases i with _ | i
      · rfl
      · omega)
    exact o1.keep ((Below.refl _ _).alloc (Nat.le_refl _) _) (by simp)
  · exact Own.newAt _ _ _ _ (by simp) (n := 1) rfl (fun i hi => by
      rcases i with _ | i
      · rfl
      · omega)
set_option maxRecDepth 100000 in
set_option maxHeartbeats 8000000 in
theorem rKeep_any (A A2 : Option Addr) (c N c2 T : Nat) (js : List GJob) (sup : List Int) (w : World) (hR : Rd 5 encJ w A js) (HN : Hid (js.length = N)) (hl : N ≤ 9223372036854775807) (hR2 : Rd 1 encI w A2 sup) (HN2 : Hid (sup.length = T)) (hl2 : T ≤ 9223372036854775807) :
    Calls Try.prog 37 #[.slice A N c, .slice A2 T c2] w (KeepEnd w js sup) := by
  have a1 : Below w.heap.size w ((w.alloc (.cells #[.slice A N c] 22)).alloc (.cells #[.slice A2 T c2] 23)) := ((Below.refl _ w).alloc (Nat.le_refl _) _).alloc (by simp) _
  have HR := Lib.hid hR
  have HR2 := Lib.hid hR2
  go_enter Try.func37, Try.ntmps37
  go_wp2_with fail
  refine (plValid_any A A2 c N c2 T js sup _ (hR.keep a1) HN hl (hR2.keep a1) HN2 hl2).mono ?_
  rintro e w1 ⟨rfl, hb1⟩
  have k0 : w1.cell? ⟨w.heap.size, 0, none⟩ = some (.slice A N c) := (hb1.cell (p := ⟨w.heap.size, 0, none⟩) (by simp; omega)).trans (by go_simp)
  have k1 : w1.cell? ⟨w.heap.size + 1, 0, none⟩ = some (.slice A2 T c2) := (hb1.cell (p := ⟨w.heap.size + 1, 0, none⟩) (by simp)).trans (by go_simp)
  have B1 := Lib.hid (below_then a1 hb1)
  clear hb1 a1 hR hR2
  cases hok : okP js sup
  · have HF := Lib.hid hok
    clear k0 k1 hok
    go_wp2_with fail
    go_ret3
    exact ⟨B1.out, .inl ⟨HF.out, rfl⟩⟩
  obtain ⟨⟨t1, t2⟩, _, _⟩ := okP_iff.1 hok
  rw [HN.out] at t1
  rw [HN2.out] at t2
  have HOK := Lib.hid hok
  have HW0 := Lib.hid (KeepW.start B1.out k0 k1)
  have k0a := HW0.out.cj
  clear hok
  go_wp2_with fail
  refine (rInOrder_any A c N js _ (HR.out.keep HW0.out.bel) HN t1).mono ?_
  rintro e w3 ⟨ao, dord, ord, rfl, ro, ho, hb3⟩
  have HRO := Lib.hid ro
  have HO := Lib.hid ho
  have HLO : Hid (ord.length = N) := Lib.hid (by rw [ho.len, HN.out])
  have HW3 : Hid (KeepW w w3 w1.heap.size (w1.heap.size + 1) w.heap.size (w.heap.size + 1) A A2 N c T c2 (.slice none 0 0) (.slice none 0 0) (keptTo js sup ord 0) []) := Lib.hid (by rw [keptTo_zero]; exact HW0.out.keep hb3)
  have HC0 := Lib.hid (CutsTo.zero js sup ord)
  obtain ⟨bk, hbk⟩ : ∃ bk, bk = w1.heap.size := ⟨_, rfl⟩
  rw [← hbk] at HW3 ⊢
  have HBK := Lib.hid hbk
  have HLT := Lib.hid (fun h0 => rd_lt ro h0)
  clear ro ho hb3 HW0 k0 k1 k0a hbk
  go_wp2
  go_loopg [11, 20] N (fun g1 v11 v20 wr => ∃ (k : Nat) (vk vC : Value) (C : List (List Int × List Int)), v20 = .int .i64 k ∧ k ≤ N ∧ N - k ≤ g1 ∧ Hid (KeepW w wr bk (bk + 1) w.heap.size (w.heap.size + 1) A A2 N c T c2 vk vC (keptTo js sup ord k) C) ∧ Hid (CutsTo js sup ord k C) ∧ Hid (∀ q, vC.ownBlock = some q → w3.heap.size ≤ q) ∧ Hid (Rd 1 encI wr ao ord) ∧ w3.heap.size ≤ wr.heap.size)
  case atStart => exact ⟨0, _, _, [], by go_num, by omega, by omega, HW3, HC0, Lib.hid (fun q hq => by cases hq), HRO, Nat.le_refl _⟩
  case round =>
    clear HW3 HC0 HRO
    obtain ⟨k, vk, vC, C, rfl, hk, hg1, HW, HC, HQ, HRO, hs3w⟩ := hrel
    obtain ⟨akk, ckk, hvk⟩ := HW.out.kl.shape
    obtain ⟨acc, ccc, hvc0⟩ := HW.out.cl.shape
    subst hvk hvc0
    by_cases hlt : k < N
    · have hltz : (k : Int) < (N : Int) := by omega
      obtain ⟨bo, oo, i, hao, hbo, hi, hio⟩ := HRO.out.at_ (k := k) (by rw [HLO.out]; exact hlt)
      subst hao
      have hio0 : wr.cell? ⟨bo, oo + k, none⟩ = some (.int .i64 i) := by have := hio 0 _ rfl; simpa using this
      have HI := Lib.hid hi
      have ka := kept_all HOK.out HO.out.nodup HO.out.valid k (by rw [HLO.out]; exact hk)
      have kv := kept_valid HOK.out HO.out.nodup HO.out.valid (k := k) (by rw [HLO.out]; exact hk)
      have hnot : ¬ i ∈ keptTo js sup ord k := fun h => not_take HO.out.nodup hi (ka.sub i h)
      have hnd : (keptTo js sup ord k ++ [i]).Nodup := List.nodup_append.2 ⟨ka.nodup, by simp, fun a ha b hb e => by simp at hb; subst hb; subst e; exact hnot ha⟩
      have hvv : ValidL js.length (keptTo js sup ord k ++ [i]) := by
        intro x hx
        rcases List.mem_append.1 hx with h | h
        · exact kv x h
        · simp at h; subst h; exact HO.out.valid x (List.mem_of_getElem? hi)
      have hCALL := Lib.hid (rKeep1_any w wr bk (bk + 1) w.heap.size (w.heap.size + 1) A A2 N c T c2 _ _ js sup i (keptTo js sup ord k) C HR.out HN HR2.out HN2 HOK.out HW.out hnd hvv ka.met (by have := ka.len; omega) (by have := HC.out.len; omega))
      clear hi hio ka kv hnot hnd hvv
      go_wp2_with fail
      refine hCALL.out.mono ?_
      rintro e w5 ⟨rfl, hmod, vk2, vC2, K2, C2, hvc, hW2, hcase⟩
      have hs3 : w3.heap.size ≤ wr.heap.size := hs3w
      have HQ2 : Hid (∀ q, vC2.ownBlock = some q → w3.heap.size ≤ q) := Lib.hid (fun q hq => by
        rcases hvc with e | ⟨p, e, hp⟩
        · exact HQ.out q (by rw [← e]; exact hq)
        · rw [e] at hq; injection hq with hq; omega)
      have HRO2 : Hid (Rd 1 encI w5 (some ⟨bo, oo, none⟩) ord) := Lib.hid (HRO.out.mod hmod (fun a ha h0 hbad => by
        have l1 := HLT.out h0 a ha
        rcases hbad with e | e | e
        · exact rd_ne HW.out.ok (fun i x h => by cases h) HRO.out a ha h0 e
        · exact rd_ne HW.out.oc (fun i x h => by cases h) HRO.out a ha h0 e
        · have := HQ.out _ e; omega))
      have HW2 := Lib.hid hW2
      have HCS := Lib.hid hcase
      clear hW2 hcase hCALL
      go_wp2
      go_roundg (N - (k + 1))
      case measure => omega
      case rel =>
        rcases HCS.out with ⟨hm, rfl, rfl⟩ | ⟨hm, rfl, x, hx, rfl⟩
        · refine ⟨k + 1, vk2, vC2, _, by go_num, by omega, by omega, Lib.hid ?_, Lib.hid (HC.out.kept HI.out hm), HQ2, Lib.hid ?_, Nat.le_trans hs3 hmod.size⟩
          · rw [keptTo_succ HI.out, stepK_yes hm]; exact HW2.out
          · exact HRO2.out
        · refine ⟨k + 1, vk2, vC2, _, by go_num, by omega, by omega, Lib.hid ?_, Lib.hid (HC.out.broken HI.out hm hx), HQ2, Lib.hid ?_, Nat.le_trans hs3 hmod.size⟩
          · rw [keptTo_succ HI.out, stepK_no hm]; exact HW2.out
          · exact HRO2.out
    · have hltz : ¬ (k : Int) < (N : Int) := by omega
      have hkN : k = ord.length := by rw [HLO.out]; omega
      have q1 := HW.out.ok.cell (i := 0) (by omega)
      have q2 := HW.out.oc.cell (i := 0) (by omega)
      have HW9 := Lib.hid HW.out
      have HC9 := Lib.hid HC.out
      clear HW HC
      go_wp2_with fail
      go_quiet (fail)
      go_wp2
      obtain ⟨ak, ck, e1, hc1, r1⟩ := HW9.out.kl.rdC encI_len1
      obtain ⟨ac, cc, vs, e2, hc2, r2⟩ := HW9.out.cl.rd
      subst hkN
      go_ret3
      exact ⟨below_drewN HW9.out.bel _, .inr ⟨HOK.out, ord, akk, ckk, acc, ccc, vs, C, HO.out, rfl, HC9.out, by injection e1 with e1 _ _; rw [e1]; exact r1, by injection e2 with e2 _ _; rw [e2]; exact r2.keep (below_drewN (Below.refl _ _) _), by injection e1 with _ _ e3; omega, by injection e2 with _ _ e3; omega, HW9.out.kl.cap_le, HW9.out.cl.cap_le⟩⟩
end Go.Proofs.Ytgfcnkfmgpakkaa
