/-
cable.Permitted, limits.limit, and the reference's.
-/
import Derived.Test.YtbalhbpaholakaaCLimA
import Derived.Test.YtbalhbpaholakaaGBase
import Derived.Test.YtbalhbpaholakaaGLSiteH
namespace Go.Proofs.Ytbalhbpaholakaa
open Go.RowKit
set_option linter.unusedVariables false
set_option linter.unusedSimpArgs false
theorem WarmM.keep {W W' : World} {b : Nat} {c : GCon} (h : WarmM W b c) (hb : Below W.heap.size W W') : WarmM W' b c := by
  have l := World.block_lt_of_cell? W _ h.k0
  exact ⟨(hb.cell (p := ⟨b, 0, none⟩) l).trans h.k0, (hb.cell (p := ⟨b, 1, none⟩) l).trans h.k1, (hb.cell (p := ⟨b, 2, none⟩) l).trans h.k2, (hb.cell (p := ⟨b, 3, none⟩) l).trans h.k3, (hb.cell (p := ⟨b, 4, none⟩) l).trans h.k4⟩
set_option maxRecDepth 100000 in
set_option maxHeartbeats 4000000 in
theorem cbPerm_ok (c : GCon) (hc : OkC c) (w : World) : Calls Try.prog 80 #[.agg #[.int .i64 c.amb, .int .i64 c.most, .int .i64 c.gain, .int .i64 c.loss, .int .i64 c.den]] w fun e w' => e = .returned (.tuple #[.int .i64 (permV c), .int .i64 0]) ∧ Below w.heap.size w w' := by
  obtain ⟨W, hW⟩ : ∃ W, W = w.alloc (.cells #[.int .i64 c.amb, .int .i64 c.most, .int .i64 c.gain, .int .i64 c.loss, .int .i64 c.den] 53) := ⟨_, rfl⟩
  have bw : Below w.heap.size w W := by rw [hW]; exact (Below.refl _ w).alloc (Nat.le_refl _) _
  have k0 : W.cell? ⟨w.heap.size, 0, none⟩ = some (.int .i64 c.amb) := by rw [hW]; go_simp
  have k1 : W.cell? ⟨w.heap.size, 1, none⟩ = some (.int .i64 c.most) := by rw [hW]; go_simp
  have k2 : W.cell? ⟨w.heap.size, 2, none⟩ = some (.int .i64 c.gain) := by rw [hW]; go_simp
  have k3 : W.cell? ⟨w.heap.size, 3, none⟩ = some (.int .i64 c.loss) := by rw [hW]; go_simp
  have k4 : W.cell? ⟨w.heap.size, 4, none⟩ = some (.int .i64 c.den) := by rw [hW]; go_simp
  have hs : w.heap.size < W.heap.size := by rw [hW]; simp
  have HWQ := Lib.hid hW.symm
  have HV := Lib.hid (cbValid_ok c hc W)
  have HB := Lib.hid bw
  clear hW bw
  go_enter Try.func80, Try.ntmps80
  go_wp2_with fail
  rw [HWQ.out]
  refine HV.out.mono ?_
  rintro e w1 ⟨rfl, hb⟩
  have q0 := (hb.cell (p := ⟨w.heap.size, 0, none⟩) hs).trans k0
  have q1 := (hb.cell (p := ⟨w.heap.size, 1, none⟩) hs).trans k1
  have q2 := (hb.cell (p := ⟨w.heap.size, 2, none⟩) hs).trans k2
  have q3 := (hb.cell (p := ⟨w.heap.size, 3, none⟩) hs).trans k3
  have q4 := (hb.cell (p := ⟨w.heap.size, 4, none⟩) hs).trans k4
  have HB1 := Lib.hid (below_then HB.out hb)
  clear hb k0 k1 k2 k3 k4 HV HB hs HWQ
  obtain ⟨W2, hW2⟩ : ∃ W2, W2 = (w1.alloc (.cells #[.int .i64 c.amb, .int .i64 c.most, .int .i64 c.gain, .int .i64 c.loss, .int .i64 c.den, .int .i64 0] 119)).alloc (.cells #[.pointer (some ⟨w1.heap.size, 0, none⟩)] 117) := ⟨_, rfl⟩
  have bw2 : Below w1.heap.size w1 W2 := by rw [hW2]; exact ((Below.refl _ w1).alloc (Nat.le_refl _) _).alloc (by simp) _
  have hwm : WarmM W2 w1.heap.size c := by rw [hW2]; exact ⟨by go_simp, by go_simp, by go_simp, by go_simp, by go_simp⟩
  have hp : W2.cell? ⟨w1.heap.size + 1, 0, none⟩ = some (.pointer (some ⟨w1.heap.size, 0, none⟩)) := by rw [hW2]; go_simp
  have HN := Lib.hid (cbNone_any w1.heap.size c W2 hwm)
  have HWM := Lib.hid hwm
  have HB2 := Lib.hid (below_then HB1.out bw2)
  have HQ := Lib.hid hW2.symm
  have hs2 : w1.heap.size + 1 < W2.heap.size := by rw [hW2]; simp
  clear hW2 bw2 hwm
  go_wp2_with fail
  rw [HQ.out]
  refine HN.out.mono ?_
  rintro e w3 ⟨rfl, hw⟩
  subst w3
  clear q0 q1 q2 q3 q4
  cases hzc : zC c
  case true =>
    have HE : Hid ((1000 : Int) = permV c) := Lib.hid (by unfold permV; rw [if_pos hzc])
    go_wp2_with fail
    refine bodyPost_ret (results_tmp2 rfl _ _ _) rfl ?_
    exact ⟨by rw [← HE.out]; rfl, HB2.out⟩
  case false =>
    obtain ⟨r1, r2, g1, g2⟩ := hc.room hzc
    have HE : Hid (((grN c.gain (roomC c) 1000 : Nat) : Int) = permV c) := Lib.hid (by unfold permV; rw [hzc]; rfl)
    rcases hc.cab with h | ⟨⟨a1, a2⟩, ⟨b1, b2⟩, _, ⟨l1, l2⟩, ⟨e1, e2⟩, f⟩
    · rw [hzc] at h; cases h
    have hrw : IntKind.i64.wrap (min c.loss c.den * (c.most - c.amb)) = roomC c := IntWalk.i64_in _ (by unfold roomC at r1 r2; omega)
    have hsm : IntKind.i64.wrap (c.most - c.amb) = c.most - c.amb := IntWalk.i64_in _ (by omega)
    clear hzc hc
    generalize w1.heap.size = b at *
    have HWMx := HWM
    go_wp2_with fail
    refine region_z (S := fun w' => Below W2.heap.size W2 w') [] (by kernel_rfl) (Below.refl _ _).drew (fun hHeld => ?_)
    refine wpAnyZ_take (i := 0) (v := (.pointer (some ⟨b, 0, none⟩))) [] rfl (by kernel_rfl) (by kernel_rfl) (by kernel_rfl) (by kernel_rfl) (fun _ _ _ h => h) (Or.inl ⟨by kernel_rfl, fun w' hSw => ?_⟩) hHeld ?_
    · obtain ⟨s0, s1, s2, s3, s4⟩ := HWM.out.keep hSw
      have sp := (hSw.cell (p := ⟨b + 1, 0, none⟩) hs2).trans hp
      clear hHeld hSw hp
      go_simp
    simp only [Act.put, List.getElem_toArray, List.getElem_cons_zero, List.getElem_cons_succ, List.setIfInBounds_toArray, List.set_cons_zero, List.set_cons_succ]
    refine wpAnyZ_take (i := 2) (v := (.pointer (some ⟨b, 0, none⟩))) [] rfl (by kernel_rfl) (by kernel_rfl) (by kernel_rfl) (by kernel_rfl) (fun _ _ _ h => h) (Or.inl ⟨by kernel_rfl, fun w' hSw => ?_⟩) hHeld ?_
    · obtain ⟨s0, s1, s2, s3, s4⟩ := HWM.out.keep hSw
      have sp := (hSw.cell (p := ⟨b + 1, 0, none⟩) hs2).trans hp
      clear hHeld hSw hp
      go_simp
    simp only [Act.put, List.getElem_toArray, List.getElem_cons_zero, List.getElem_cons_succ, List.setIfInBounds_toArray, List.set_cons_zero, List.set_cons_succ]
    refine wpAnyZ_take (i := 3) (v := (.pointer (some ⟨b, 0, none⟩))) [] rfl (by kernel_rfl) (by kernel_rfl) (by kernel_rfl) (by kernel_rfl) (fun _ _ _ h => h) (Or.inl ⟨by kernel_rfl, fun w' hSw => ?_⟩) hHeld ?_
    · obtain ⟨s0, s1, s2, s3, s4⟩ := HWM.out.keep hSw
      have sp := (hSw.cell (p := ⟨b + 1, 0, none⟩) hs2).trans hp
      clear hHeld hSw hp
      go_simp
    simp only [Act.put, List.getElem_toArray, List.getElem_cons_zero, List.getElem_cons_succ, List.setIfInBounds_toArray, List.set_cons_zero, List.set_cons_succ]
    refine wpAnyZ_take (i := 4) (v := (.pointer (some ⟨b, 0, none⟩))) [] rfl (by kernel_rfl) (by kernel_rfl) (by kernel_rfl) (by kernel_rfl) (fun _ _ _ h => h) (Or.inl ⟨by kernel_rfl, fun w' hSw => ?_⟩) hHeld ?_
    · obtain ⟨s0, s1, s2, s3, s4⟩ := HWM.out.keep hSw
      have sp := (hSw.cell (p := ⟨b + 1, 0, none⟩) hs2).trans hp
      clear hHeld hSw hp
      go_simp
    simp only [Act.put, List.getElem_toArray, List.getElem_cons_zero, List.getElem_cons_succ, List.setIfInBounds_toArray, List.set_cons_zero, List.set_cons_succ]
    refine wpAnyZ_take (i := 5) (v := (.pointer (some ⟨b, 1, none⟩))) [] rfl (by kernel_rfl) (by kernel_rfl) (by kernel_rfl) (by kernel_rfl) (fun _ _ _ h => h) (Or.inl ⟨by kernel_rfl, fun w' hSw => ?_⟩) hHeld ?_
    · obtain ⟨s0, s1, s2, s3, s4⟩ := HWM.out.keep hSw
      have sp := (hSw.cell (p := ⟨b + 1, 0, none⟩) hs2).trans hp
      clear hHeld hSw hp
      go_simp
    simp only [Act.put, List.getElem_toArray, List.getElem_cons_zero, List.getElem_cons_succ, List.setIfInBounds_toArray, List.set_cons_zero, List.set_cons_succ]
    refine wpAnyZ_take (i := 6) (v := (.int .i64 c.most)) [] rfl (by kernel_rfl) (by kernel_rfl) (by kernel_rfl) (by kernel_rfl) (fun _ _ _ h => h) (Or.inl ⟨by kernel_rfl, fun w' hSw => ?_⟩) hHeld ?_
    · obtain ⟨s0, s1, s2, s3, s4⟩ := HWM.out.keep hSw
      have sp := (hSw.cell (p := ⟨b + 1, 0, none⟩) hs2).trans hp
      clear hHeld hSw hp
      go_simp
    simp only [Act.put, List.getElem_toArray, List.getElem_cons_zero, List.getElem_cons_succ, List.setIfInBounds_toArray, List.set_cons_zero, List.set_cons_succ]
    refine wpAnyZ_take (i := 7) (v := (.pointer (some ⟨b, 0, none⟩))) [] rfl (by kernel_rfl) (by kernel_rfl) (by kernel_rfl) (by kernel_rfl) (fun _ _ _ h => h) (Or.inl ⟨by kernel_rfl, fun w' hSw => ?_⟩) hHeld ?_
    · obtain ⟨s0, s1, s2, s3, s4⟩ := HWM.out.keep hSw
      have sp := (hSw.cell (p := ⟨b + 1, 0, none⟩) hs2).trans hp
      clear hHeld hSw hp
      go_simp
    simp only [Act.put, List.getElem_toArray, List.getElem_cons_zero, List.getElem_cons_succ, List.setIfInBounds_toArray, List.set_cons_zero, List.set_cons_succ]
    refine wpAnyZ_take (i := 8) (v := (.pointer (some ⟨b, 0, none⟩))) [] rfl (by kernel_rfl) (by kernel_rfl) (by kernel_rfl) (by kernel_rfl) (fun _ _ _ h => h) (Or.inl ⟨by kernel_rfl, fun w' hSw => ?_⟩) hHeld ?_
    · obtain ⟨s0, s1, s2, s3, s4⟩ := HWM.out.keep hSw
      have sp := (hSw.cell (p := ⟨b + 1, 0, none⟩) hs2).trans hp
      clear hHeld hSw hp
      go_simp
    simp only [Act.put, List.getElem_toArray, List.getElem_cons_zero, List.getElem_cons_succ, List.setIfInBounds_toArray, List.set_cons_zero, List.set_cons_succ]
    refine wpAnyZ_take (i := 9) (v := (.pointer (some ⟨b, 0, none⟩))) [] rfl (by kernel_rfl) (by kernel_rfl) (by kernel_rfl) (by kernel_rfl) (fun _ _ _ h => h) (Or.inl ⟨by kernel_rfl, fun w' hSw => ?_⟩) hHeld ?_
    · obtain ⟨s0, s1, s2, s3, s4⟩ := HWM.out.keep hSw
      have sp := (hSw.cell (p := ⟨b + 1, 0, none⟩) hs2).trans hp
      clear hHeld hSw hp
      go_simp
    simp only [Act.put, List.getElem_toArray, List.getElem_cons_zero, List.getElem_cons_succ, List.setIfInBounds_toArray, List.set_cons_zero, List.set_cons_succ]
    refine wpAnyZ_take (i := 10) (v := (.pointer (some ⟨b, 0, none⟩))) [] rfl (by kernel_rfl) (by kernel_rfl) (by kernel_rfl) (by kernel_rfl) (fun _ _ _ h => h) (Or.inl ⟨by kernel_rfl, fun w' hSw => ?_⟩) hHeld ?_
    · obtain ⟨s0, s1, s2, s3, s4⟩ := HWM.out.keep hSw
      have sp := (hSw.cell (p := ⟨b + 1, 0, none⟩) hs2).trans hp
      clear hHeld hSw hp
      go_simp
    simp only [Act.put, List.getElem_toArray, List.getElem_cons_zero, List.getElem_cons_succ, List.setIfInBounds_toArray, List.set_cons_zero, List.set_cons_succ]
    refine wpAnyZ_take (i := 11) (v := (.int .i64 c.amb)) [] rfl (by kernel_rfl) (by kernel_rfl) (by kernel_rfl) (by kernel_rfl) (fun _ _ _ h => h) (Or.inl ⟨by kernel_rfl, fun w' hSw => ?_⟩) hHeld ?_
    · obtain ⟨s0, s1, s2, s3, s4⟩ := HWM.out.keep hSw
      have sp := (hSw.cell (p := ⟨b + 1, 0, none⟩) hs2).trans hp
      clear hHeld hSw hp
      go_simp
    simp only [Act.put, List.getElem_toArray, List.getElem_cons_zero, List.getElem_cons_succ, List.setIfInBounds_toArray, List.set_cons_zero, List.set_cons_succ]
    refine wpAnyZ_take (i := 12) (v := (.int .i64 (c.most - c.amb))) [] rfl (by kernel_rfl) (by kernel_rfl) (by kernel_rfl) (by kernel_rfl) (fun _ _ _ h => h) (Or.inl ⟨by kernel_rfl, fun w' hSw => ?_⟩) hHeld ?_
    · obtain ⟨s0, s1, s2, s3, s4⟩ := HWM.out.keep hSw
      have sp := (hSw.cell (p := ⟨b + 1, 0, none⟩) hs2).trans hp
      clear hHeld hSw hp
      go_simp
    simp only [Act.put, List.getElem_toArray, List.getElem_cons_zero, List.getElem_cons_succ, List.setIfInBounds_toArray, List.set_cons_zero, List.set_cons_succ]
    refine wpAnyZ_two (i := 1) (k := 14) (by kernel_rfl) rfl rfl (fun K' hK => ?_) (fun K' hK => ?_)
    · go_simp
      refine (cbLoss_any b c W2.drew (HWM.out.keep hHeld)).mono ?_
      rintro e w4 ⟨rfl, q4, hq4⟩
      subst w4
      refine hK.out _ _ ?_ (fun hHeld' => ?_)
      · exact below_drewG _ hHeld
      clear hK K' hHeld
      have hHeld := hHeld'
      clear hHeld'
      try simp only [Act.put, List.getElem_toArray, List.getElem_cons_zero, List.getElem_cons_succ, List.setIfInBounds_toArray, List.set_cons_zero, List.set_cons_succ]
      refine wpAnyZ_take (i := 13) (v := (.int .i64 (roomC c))) [] rfl (by kernel_rfl) (by kernel_rfl) (by kernel_rfl) (by kernel_rfl) (fun _ _ _ h => h) (Or.inl ⟨by kernel_rfl, fun w' hSw => ?_⟩) hHeld ?_
      · obtain ⟨s0, s1, s2, s3, s4⟩ := HWM.out.keep hSw
        have sp := (hSw.cell (p := ⟨b + 1, 0, none⟩) hs2).trans hp
        clear hHeld hSw hp
        go_simp
      simp only [Act.put, List.getElem_toArray, List.getElem_cons_zero, List.getElem_cons_succ, List.setIfInBounds_toArray, List.set_cons_zero, List.set_cons_succ]
      refine wpAnyZ_one (i := 14) (by kernel_rfl) rfl (fun K' hK => ?_)
      go_simp
      refine hK.out _ _ ?_ (fun hHeld' => ?_)
      · exact (below_drewG (1 + q4) (Below.refl _ W2)).alloc (Nat.le_refl _) _
      clear hK K' hHeld
      have hHeld := hHeld'
      clear hHeld'
      try simp only [Act.put, List.getElem_toArray, List.getElem_cons_zero, List.getElem_cons_succ, List.setIfInBounds_toArray, List.set_cons_zero, List.set_cons_succ]
      have ho := Own.one (W2.drewN (1 + q4)) 3 (.int .i64 0)
      have hn0 : ((W2.drewN (1 + q4)).alloc (.cells #[.int .i64 0] 3)).cell? ⟨W2.heap.size, 0, none⟩ = some (.int .i64 0) := ho.cell (i := 0) (by omega)
      have hf0 : ((W2.drewN (1 + q4)).alloc (.cells #[.int .i64 0] 3)).frozen? ⟨W2.heap.size, 0, none⟩ = false := ho.frozen 0
      have hs9 : Own (((W2.drewN (1 + q4)).alloc (.cells #[.int .i64 0] 3)).setCell ⟨W2.heap.size, 0, none⟩ (.int .i64 (roomC c))) W2.heap.size 3 1 (fun _ => .int .i64 (roomC c)) := Own.set1 ho _
      have HS9 := Lib.hid hs9
      clear ho hs9
      refine wpAnyZ_one (i := 15) (by kernel_rfl) rfl (fun K' hK => ?_)
      go_simp
      refine hK.out _ _ ?_ (fun hHeld' => ?_)
      · exact ((below_drewG (1 + q4) (Below.refl _ W2)).alloc (Nat.le_refl _) _).setCell (p := ⟨W2.heap.size, 0, none⟩) (Nat.le_refl _) _
      clear hK K' hHeld
      have hHeld := hHeld'
      clear hHeld'
      try simp only [Act.put, List.getElem_toArray, List.getElem_cons_zero, List.getElem_cons_succ, List.setIfInBounds_toArray, List.set_cons_zero, List.set_cons_succ]
      refine wpAnyZ_done (by kernel_rfl) ?_ _
      go_step
      go_step
      refine wp_world (fun W => Below W2.heap.size W2 W ∧ W.cell? ⟨W2.heap.size, 0, none⟩ = some (.int .i64 (roomC c))) ⟨hHeld, HS9.out.cell (i := 0) (by omega)⟩ (fun W9 hW9 => ?_)
      clear hHeld
      obtain ⟨hb9, hr9⟩ := hW9
      have hp9 := (hb9.cell (p := ⟨b + 1, 0, none⟩) hs2).trans hp
      have HG := Lib.hid (cbGreat_any (b + 1) b W2.heap.size c (roomC c) r1 ⟨g1, g2⟩ W9 hp9 (HWM.out.keep hb9) hr9)
      have HB9 := Lib.hid (below_then HB2.out hb9)
      clear hb9 hr9 hp9
      go_wp2_with fail
      refine HG.out.mono ?_
      rintro e w8 ⟨rfl, q8, hq8⟩
      subst w8
      go_wp2_with fail
      refine bodyPost_ret (results_tmp2 rfl _ _ _) rfl ?_
      exact ⟨by rw [← HE.out]; rfl, below_drewG _ HB9.out⟩
    · go_simp
      refine hK.out _ _ ?_ (fun hHeld' => ?_)
      · exact (((Below.refl W2.heap.size W2).alloc (Nat.le_refl _) _).drew)
      clear hK K' hHeld
      have hHeld := hHeld'
      clear hHeld'
      try simp only [Act.put, List.getElem_toArray, List.getElem_cons_zero, List.getElem_cons_succ, List.setIfInBounds_toArray, List.set_cons_zero, List.set_cons_succ]
      refine wpAnyZ_one (i := 1) (by kernel_rfl) rfl (fun K' hK => ?_)
      go_simp
      refine (cbLoss_any b c _ (HWM.out.keep hHeld)).mono ?_
      rintro e w4 ⟨rfl, q4, hq4⟩
      subst w4
      refine hK.out _ _ ?_ (fun hHeld' => ?_)
      · exact below_drewG _ hHeld
      clear hK K' hHeld
      have hHeld := hHeld'
      clear hHeld'
      try simp only [Act.put, List.getElem_toArray, List.getElem_cons_zero, List.getElem_cons_succ, List.setIfInBounds_toArray, List.set_cons_zero, List.set_cons_succ]
      refine wpAnyZ_take (i := 13) (v := (.int .i64 (roomC c))) [] rfl (by kernel_rfl) (by kernel_rfl) (by kernel_rfl) (by kernel_rfl) (fun _ _ _ h => h) (Or.inl ⟨by kernel_rfl, fun w' hSw => ?_⟩) hHeld ?_
      · obtain ⟨s0, s1, s2, s3, s4⟩ := HWM.out.keep hSw
        have sp := (hSw.cell (p := ⟨b + 1, 0, none⟩) hs2).trans hp
        clear hHeld hSw hp
        go_simp
      simp only [Act.put, List.getElem_toArray, List.getElem_cons_zero, List.getElem_cons_succ, List.setIfInBounds_toArray, List.set_cons_zero, List.set_cons_succ]
      have ho : Own ((W2.alloc (.cells #[.int .i64 0] 3)).drewN (1 + q4)) W2.heap.size 3 1 (fun _ => .int .i64 0) := (Own.one W2 3 (.int .i64 0)).drewN _
      have HS9 := Lib.hid (Own.set1 ho (.int .i64 (roomC c)))
      clear ho
      refine wpAnyZ_one (i := 15) (by kernel_rfl) rfl (fun K' hK => ?_)
      go_simp
      refine hK.out _ _ ?_ (fun hHeld' => ?_)
      · exact (below_drewG (1 + q4) ((Below.refl _ W2).alloc (Nat.le_refl _) _)).setCell (p := ⟨W2.heap.size, 0, none⟩) (Nat.le_refl _) _
      clear hK K' hHeld
      have hHeld := hHeld'
      clear hHeld'
      try simp only [Act.put, List.getElem_toArray, List.getElem_cons_zero, List.getElem_cons_succ, List.setIfInBounds_toArray, List.set_cons_zero, List.set_cons_succ]
      refine wpAnyZ_done (by kernel_rfl) ?_ _
      go_step
      go_step
      refine wp_world (fun W => Below W2.heap.size W2 W ∧ W.cell? ⟨W2.heap.size, 0, none⟩ = some (.int .i64 (roomC c))) ⟨hHeld, HS9.out.cell (i := 0) (by omega)⟩ (fun W9 hW9 => ?_)
      clear hHeld
      obtain ⟨hb9, hr9⟩ := hW9
      have hp9 := (hb9.cell (p := ⟨b + 1, 0, none⟩) hs2).trans hp
      have HG := Lib.hid (cbGreat_any (b + 1) b W2.heap.size c (roomC c) r1 ⟨g1, g2⟩ W9 hp9 (HWM.out.keep hb9) hr9)
      have HB9 := Lib.hid (below_then HB2.out hb9)
      clear hb9 hr9 hp9
      go_wp2_with fail
      refine HG.out.mono ?_
      rintro e w8 ⟨rfl, q8, hq8⟩
      subst w8
      go_wp2_with fail
      refine bodyPost_ret (results_tmp2 rfl _ _ _) rfl ?_
      exact ⟨by rw [← HE.out]; rfl, below_drewG _ HB9.out⟩
theorem rd_litI (W : World) (cs : Array Value) (xs : List Int) (h : cs.toList = xs.map (Value.int .i64)) : Rd 1 encI (W.alloc (.cells cs 3)) (some ⟨W.heap.size, 0, none⟩) xs := by
  have hcs : cs = (xs.map (Value.int .i64)).toArray := by rw [← h]
  refine (Own.new W 3 cs undef).rd (sz := 1) (by rw [hcs]; simp) (fun _ => rfl) (fun k x hx j v hv => ?_)
  have hj : j = 0 := by have := (List.getElem?_eq_some_iff.1 hv).1; simp [encI] at this; exact this
  subst hj
  simp [encI] at hv
  rw [hcs, Nat.mul_one, Nat.add_zero, List.getElem?_toArray, List.getElem?_map, hx, ← hv]
  rfl
end Go.Proofs.Ytbalhbpaholakaa
