/-
cable.Hot: a cable that does not get too warm.
-/
import Derived.Test.YtbalhbpaholakaaCHarmMath
import Derived.Test.YtbalhbpaholakaaCLimC
import Derived.Test.YtbalhbpaholakaaGBase
import Derived.Laws.EntriesVeiled
namespace Go.Proofs.Ytbalhbpaholakaa
open Go.RowKit
set_option linter.unusedVariables false
set_option linter.unusedSimpArgs false
set_option maxRecDepth 100000 in
set_option maxHeartbeats 4000000 in
theorem cbUp_ok (n d : Int) (hd : 1 ≤ d ∧ d ≤ 1000000) (hn : -1000000000000 ≤ n ∧ n ≤ 1000000000000) (hu : -1000000000000 ≤ upV n d ∧ upV n d ≤ 1000000000000) (w : World) : Calls Try.prog 93 #[.int .i64 n, .int .i64 d] w fun e w' => e = .returned (.int .i64 (upV n d)) ∧ w' = w := by
  have hu1 : upV n d = if 0 < n.tmod d then n.tdiv d + 1 else n.tdiv d := rfl
  have hdz : ¬ d = 0 := by omega
  have hd1 : ¬ d = -1 := by omega
  by_cases h : 0 < n.tmod d
  · have e : upV n d = n.tdiv d + 1 := by rw [hu1, if_pos h]
    have w1 : IntKind.i64.wrap (n.tdiv d) = n.tdiv d := IntWalk.i64_in _ (by omega)
    have w2 : IntKind.i64.wrap (n.tdiv d + 1) = n.tdiv d + 1 := IntWalk.i64_in _ (by omega)
    have HE := Lib.hid e
    clear hu hu1 e
    go_enter Try.func93, Try.ntmps93
    go_wp2_with fail
    go_ret
    exact ⟨ret_int HE.out.symm, rfl⟩
  · have e : upV n d = n.tdiv d := by rw [hu1, if_neg h]
    have w1 : IntKind.i64.wrap (n.tdiv d) = n.tdiv d := IntWalk.i64_in _ (by omega)
    have HE := Lib.hid e
    clear hu hu1 e
    go_enter Try.func93, Try.ntmps93
    go_wp2_with fail
    go_ret
    exact ⟨ret_int HE.out.symm, rfl⟩
def wcF (c : GCon) (now : Int) (i : Nat) : Value := if i = 0 then .int .i64 c.amb else if i = 1 then .int .i64 c.most else if i = 2 then .int .i64 c.gain else if i = 3 then .int .i64 c.loss else if i = 4 then .int .i64 c.den else .int .i64 now
theorem wcF_set (c : GCon) (now x : Int) : ∀ i, i < 6 → (if i = 5 then Value.int .i64 x else wcF c now i) = wcF c x i := by
  intro i hi
  match i, hi with
  | 0, _ => rfl
  | 1, _ => rfl
  | 2, _ => rfl
  | 3, _ => rfl
  | 4, _ => rfl
  | 5, _ => rfl
theorem warmM_of {W : World} {b : Nat} {c : GCon} {now : Int} (h : Own W b 119 6 (wcF c now)) : WarmM W b c :=
  ⟨h.cell (i := 0) (by omega), h.cell (i := 1) (by omega), h.cell (i := 2) (by omega), h.cell (i := 3) (by omega), h.cell (i := 4) (by omega)⟩
/-- What tick does. -/
def TiPost (w : World) (b : Nat) (c : GCon) (e : Ending) (w' : World) : Prop := e = .returned (.tuple #[]) ∧ (∃ now', (c.amb ≤ now' ∧ now' ≤ c.most) ∧ Own w' b 119 6 (wcF c now')) ∧ Mod (fun j => j = b) w w'
set_option maxRecDepth 100000 in
set_option maxHeartbeats 8000000 in
theorem cbTick_ok (b : Nat) (a now : Int) (c : GCon) (hc : OkC c) (ha : 0 ≤ a ∧ a ≤ 1000) (hok : zC c = true ∨ c.gain * a * a ≤ roomC c) (hnow : c.amb ≤ now ∧ now ≤ c.most) (w : World) (HO : Hid (Own w b 119 6 (wcF c now))) :
    Calls Try.prog 67 #[.pointer (some ⟨b, 0, none⟩), .int .i64 a] w fun e w' => TiPost w b c e w' := by
  go_enter Try.func67, Try.ntmps67
  go_wp2_with fail
  refine (cbNone_any b c w (warmM_of HO.out)).mono ?_
  rintro e w1 ⟨rfl, hw⟩
  subst w1
  cases hzc : zC c
  case true =>
    have HN := Lib.hid hnow
    clear hok hnow
    go_wp2_with fail
    go_end0
    exact ⟨rfl, ⟨now, HN.out, HO.out⟩, Mod.refl _ _⟩
  case false =>
    rcases hc.cab with h | ⟨⟨a1, a2⟩, ⟨b1, b2⟩, ⟨g1, g2⟩, ⟨l1, l2⟩, hden, hlt⟩
    · rw [hzc] at h; cases h
    have hok' : c.gain * a * a ≤ roomC c := by
      rcases hok with h | h
      · rw [hzc] at h; cases h
      · exact h
    have hst := warm_step l1 hden.1 g1 ha.1 hok' hnow.1 hnow.2
    have hr := hc.room hzc
    have m1 : 0 ≤ c.gain * a := Int.mul_nonneg g1 ha.1
    have m2 : c.gain * a ≤ 1000 * 1000 := Int.mul_le_mul g2 ha.2 ha.1 (by omega)
    have m3 : 0 ≤ c.gain * a * a := Int.mul_nonneg m1 ha.1
    have hl0 : 0 ≤ min c.loss c.den ∧ min c.loss c.den ≤ 1000 := by omega
    have m4 : 0 ≤ min c.loss c.den * (now - c.amb) := Int.mul_nonneg hl0.1 (by omega)
    have m5 : min c.loss c.den * (now - c.amb) ≤ 1000 * 200000 := Int.mul_le_mul hl0.2 (by omega) (by omega) (by omega)
    have w1 : IntKind.i64.wrap (c.gain * a) = c.gain * a := IntWalk.i64_in _ (by omega)
    have w2 : IntKind.i64.wrap (c.gain * a * a) = c.gain * a * a := IntWalk.i64_in _ (by omega)
    have w3 : IntKind.i64.wrap (now - c.amb) = now - c.amb := IntWalk.i64_in _ (by omega)
    have w4 : IntKind.i64.wrap (min c.loss c.den * (now - c.amb)) = min c.loss c.den * (now - c.amb) := IntWalk.i64_in _ (by omega)
    have w5 : IntKind.i64.wrap (c.gain * a * a - min c.loss c.den * (now - c.amb)) = c.gain * a * a - min c.loss c.den * (now - c.amb) := IntWalk.i64_in _ (by omega)
    have w6 : IntKind.i64.wrap (now + upV (c.gain * a * a - min c.loss c.den * (now - c.amb)) c.den) = now + upV (c.gain * a * a - min c.loss c.den * (now - c.amb)) c.den := IntWalk.i64_in _ (by omega)
    have hN0 : -1000000000000 ≤ c.gain * a * a - min c.loss c.den * (now - c.amb) ∧ c.gain * a * a - min c.loss c.den * (now - c.amb) ≤ 1000000000000 := by omega
    have hUB : -1000000000000 ≤ upV (c.gain * a * a - min c.loss c.den * (now - c.amb)) c.den ∧ upV (c.gain * a * a - min c.loss c.den * (now - c.amb)) c.den ≤ 1000000000000 := by omega
    have HST := Lib.hid hst
    have HMO : Hid (∀ q, (w.drewN q).cell? ⟨b, 1, none⟩ = some (.int .i64 c.most)) := Lib.hid (fun q => HO.out.cell (i := 1) (by omega))
    have HFZ0 : Hid (∀ q, (w.drewN q).frozen? ⟨b, 5, none⟩ = false) := Lib.hid (fun q => (HO.out.drewN q).frozen 5)
    have k0 : w.cell? ⟨b, 0, none⟩ = some (.int .i64 c.amb) := HO.out.cell (i := 0) (by omega)
    have k2 : w.cell? ⟨b, 2, none⟩ = some (.int .i64 c.gain) := HO.out.cell (i := 2) (by omega)
    have k3 : w.cell? ⟨b, 3, none⟩ = some (.int .i64 c.loss) := HO.out.cell (i := 3) (by omega)
    have k4 : w.cell? ⟨b, 4, none⟩ = some (.int .i64 c.den) := HO.out.cell (i := 4) (by omega)
    have k5 : w.cell? ⟨b, 5, none⟩ = some (.int .i64 now) := HO.out.cell (i := 5) (by omega)
    clear hst hok hok' hr m1 m2 m3 m4 m5 hl0 hc hnow ha g1 g2 l1 l2 a1 a2 b1 b2 hlt hzc
    go_wp2_with fail
    refine region_z (S := fun w' => w'.cell? ⟨b, 0, none⟩ = some (.int .i64 c.amb) ∧ w'.cell? ⟨b, 2, none⟩ = some (.int .i64 c.gain) ∧ w'.cell? ⟨b, 3, none⟩ = some (.int .i64 c.loss) ∧ w'.cell? ⟨b, 4, none⟩ = some (.int .i64 c.den) ∧ w'.cell? ⟨b, 5, none⟩ = some (.int .i64 now)) [36] (by kernel_rfl) ⟨k0, k2, k3, k4, k5⟩ (fun hHeld => ?_)
    clear k0 k2 k3 k4 k5
    refine wpAnyZ_take (i := 0) (v := .pointer (some ⟨b, 0, none⟩)) [1, 2, 3, 33, 34, 35, 36] rfl (by kernel_rfl) (by kernel_rfl) (by kernel_rfl) (by kernel_rfl) (fun _ _ _ h => h) (Or.inl ⟨by kernel_rfl, fun w' hSw => ?_⟩) hHeld ?_
    · have s0 := hSw.1
      have s2 := hSw.2.1
      have s3 := hSw.2.2.1
      have s4 := hSw.2.2.2.1
      have s5 := hSw.2.2.2.2
      clear hHeld hSw
      go_simp
    simp only [Act.put, List.getElem_toArray, List.getElem_cons_zero, List.getElem_cons_succ, List.setIfInBounds_toArray, List.set_cons_zero, List.set_cons_succ]
    refine wpAnyZ_take (i := 1) (v := .pointer (some ⟨b, 0, none⟩)) [2, 3, 33, 36] rfl (by kernel_rfl) (by kernel_rfl) (by kernel_rfl) (by kernel_rfl) (fun _ _ _ h => h) (Or.inl ⟨by kernel_rfl, fun w' hSw => ?_⟩) hHeld ?_
    · have s0 := hSw.1
      have s2 := hSw.2.1
      have s3 := hSw.2.2.1
      have s4 := hSw.2.2.2.1
      have s5 := hSw.2.2.2.2
      clear hHeld hSw
      go_simp
    simp only [Act.put, List.getElem_toArray, List.getElem_cons_zero, List.getElem_cons_succ, List.setIfInBounds_toArray, List.set_cons_zero, List.set_cons_succ]
    refine wpAnyZ_take (i := 2) (v := .pointer (some ⟨b, 5, none⟩)) [3, 33, 36] rfl (by kernel_rfl) (by kernel_rfl) (by kernel_rfl) (by kernel_rfl) (fun _ _ _ h => h) (Or.inl ⟨by kernel_rfl, fun w' hSw => ?_⟩) hHeld ?_
    · have s0 := hSw.1
      have s2 := hSw.2.1
      have s3 := hSw.2.2.1
      have s4 := hSw.2.2.2.1
      have s5 := hSw.2.2.2.2
      clear hHeld hSw
      go_simp
    simp only [Act.put, List.getElem_toArray, List.getElem_cons_zero, List.getElem_cons_succ, List.setIfInBounds_toArray, List.set_cons_zero, List.set_cons_succ]
    refine wpAnyZ_take (i := 3) (v := .int .i64 (now)) [33, 36] rfl (by kernel_rfl) (by kernel_rfl) (by kernel_rfl) (by kernel_rfl) (fun _ _ _ h => h) (Or.inl ⟨by kernel_rfl, fun w' hSw => ?_⟩) hHeld ?_
    · have s0 := hSw.1
      have s2 := hSw.2.1
      have s3 := hSw.2.2.1
      have s4 := hSw.2.2.2.1
      have s5 := hSw.2.2.2.2
      clear hHeld hSw
      go_simp
    simp only [Act.put, List.getElem_toArray, List.getElem_cons_zero, List.getElem_cons_succ, List.setIfInBounds_toArray, List.set_cons_zero, List.set_cons_succ]
    refine wpAnyZ_take (i := 4) (v := .pointer (some ⟨b, 0, none⟩)) [5, 6, 7, 8, 10, 12, 26, 32, 33, 36] rfl (by kernel_rfl) (by kernel_rfl) (by kernel_rfl) (by kernel_rfl) (fun _ _ _ h => h) (Or.inl ⟨by kernel_rfl, fun w' hSw => ?_⟩) hHeld ?_
    · have s0 := hSw.1
      have s2 := hSw.2.1
      have s3 := hSw.2.2.1
      have s4 := hSw.2.2.2.1
      have s5 := hSw.2.2.2.2
      clear hHeld hSw
      go_simp
    simp only [Act.put, List.getElem_toArray, List.getElem_cons_zero, List.getElem_cons_succ, List.setIfInBounds_toArray, List.set_cons_zero, List.set_cons_succ]
    refine wpAnyZ_take (i := 5) (v := .pointer (some ⟨b, 0, none⟩)) [6, 7, 8, 10, 12, 26, 32, 33, 36] rfl (by kernel_rfl) (by kernel_rfl) (by kernel_rfl) (by kernel_rfl) (fun _ _ _ h => h) (Or.inl ⟨by kernel_rfl, fun w' hSw => ?_⟩) hHeld ?_
    · have s0 := hSw.1
      have s2 := hSw.2.1
      have s3 := hSw.2.2.1
      have s4 := hSw.2.2.2.1
      have s5 := hSw.2.2.2.2
      clear hHeld hSw
      go_simp
    simp only [Act.put, List.getElem_toArray, List.getElem_cons_zero, List.getElem_cons_succ, List.setIfInBounds_toArray, List.set_cons_zero, List.set_cons_succ]
    refine wpAnyZ_take (i := 6) (v := .pointer (some ⟨b, 0, none⟩)) [7, 8, 10, 12, 26, 32, 33, 36] rfl (by kernel_rfl) (by kernel_rfl) (by kernel_rfl) (by kernel_rfl) (fun _ _ _ h => h) (Or.inl ⟨by kernel_rfl, fun w' hSw => ?_⟩) hHeld ?_
    · have s0 := hSw.1
      have s2 := hSw.2.1
      have s3 := hSw.2.2.1
      have s4 := hSw.2.2.2.1
      have s5 := hSw.2.2.2.2
      clear hHeld hSw
      go_simp
    simp only [Act.put, List.getElem_toArray, List.getElem_cons_zero, List.getElem_cons_succ, List.setIfInBounds_toArray, List.set_cons_zero, List.set_cons_succ]
    refine wpAnyZ_take (i := 7) (v := .pointer (some ⟨b, 2, none⟩)) [8, 10, 12, 26, 32, 33, 36] rfl (by kernel_rfl) (by kernel_rfl) (by kernel_rfl) (by kernel_rfl) (fun _ _ _ h => h) (Or.inl ⟨by kernel_rfl, fun w' hSw => ?_⟩) hHeld ?_
    · have s0 := hSw.1
      have s2 := hSw.2.1
      have s3 := hSw.2.2.1
      have s4 := hSw.2.2.2.1
      have s5 := hSw.2.2.2.2
      clear hHeld hSw
      go_simp
    simp only [Act.put, List.getElem_toArray, List.getElem_cons_zero, List.getElem_cons_succ, List.setIfInBounds_toArray, List.set_cons_zero, List.set_cons_succ]
    refine wpAnyZ_take (i := 8) (v := .int .i64 (c.gain)) [10, 12, 26, 32, 33, 36] rfl (by kernel_rfl) (by kernel_rfl) (by kernel_rfl) (by kernel_rfl) (fun _ _ _ h => h) (Or.inl ⟨by kernel_rfl, fun w' hSw => ?_⟩) hHeld ?_
    · have s0 := hSw.1
      have s2 := hSw.2.1
      have s3 := hSw.2.2.1
      have s4 := hSw.2.2.2.1
      have s5 := hSw.2.2.2.2
      clear hHeld hSw
      go_simp
    simp only [Act.put, List.getElem_toArray, List.getElem_cons_zero, List.getElem_cons_succ, List.setIfInBounds_toArray, List.set_cons_zero, List.set_cons_succ]
    refine wpAnyZ_take (i := 9) (v := .int .i64 (a)) [10, 12, 26, 32, 33, 36] rfl (by kernel_rfl) (by kernel_rfl) (by kernel_rfl) (by kernel_rfl) (fun _ _ _ h => h) (Or.inl ⟨by kernel_rfl, fun w' hSw => ?_⟩) hHeld ?_
    · have s0 := hSw.1
      have s2 := hSw.2.1
      have s3 := hSw.2.2.1
      have s4 := hSw.2.2.2.1
      have s5 := hSw.2.2.2.2
      clear hHeld hSw
      go_simp
    simp only [Act.put, List.getElem_toArray, List.getElem_cons_zero, List.getElem_cons_succ, List.setIfInBounds_toArray, List.set_cons_zero, List.set_cons_succ]
    refine wpAnyZ_take (i := 10) (v := .int .i64 (c.gain * a)) [12, 26, 32, 33, 36] rfl (by kernel_rfl) (by kernel_rfl) (by kernel_rfl) (by kernel_rfl) (fun _ _ _ h => h) (Or.inl ⟨by kernel_rfl, fun w' hSw => ?_⟩) hHeld ?_
    · have s0 := hSw.1
      have s2 := hSw.2.1
      have s3 := hSw.2.2.1
      have s4 := hSw.2.2.2.1
      have s5 := hSw.2.2.2.2
      clear hHeld hSw
      go_simp
    simp only [Act.put, List.getElem_toArray, List.getElem_cons_zero, List.getElem_cons_succ, List.setIfInBounds_toArray, List.set_cons_zero, List.set_cons_succ]
    refine wpAnyZ_take (i := 11) (v := .int .i64 (a)) [12, 26, 32, 33, 36] rfl (by kernel_rfl) (by kernel_rfl) (by kernel_rfl) (by kernel_rfl) (fun _ _ _ h => h) (Or.inl ⟨by kernel_rfl, fun w' hSw => ?_⟩) hHeld ?_
    · have s0 := hSw.1
      have s2 := hSw.2.1
      have s3 := hSw.2.2.1
      have s4 := hSw.2.2.2.1
      have s5 := hSw.2.2.2.2
      clear hHeld hSw
      go_simp
    simp only [Act.put, List.getElem_toArray, List.getElem_cons_zero, List.getElem_cons_succ, List.setIfInBounds_toArray, List.set_cons_zero, List.set_cons_succ]
    refine wpAnyZ_take (i := 12) (v := .int .i64 (c.gain * a * a)) [26, 32, 33, 36] rfl (by kernel_rfl) (by kernel_rfl) (by kernel_rfl) (by kernel_rfl) (fun _ _ _ h => h) (Or.inl ⟨by kernel_rfl, fun w' hSw => ?_⟩) hHeld ?_
    · have s0 := hSw.1
      have s2 := hSw.2.1
      have s3 := hSw.2.2.1
      have s4 := hSw.2.2.2.1
      have s5 := hSw.2.2.2.2
      clear hHeld hSw
      go_simp
    simp only [Act.put, List.getElem_toArray, List.getElem_cons_zero, List.getElem_cons_succ, List.setIfInBounds_toArray, List.set_cons_zero, List.set_cons_succ]
    refine wpAnyZ_take (i := 13) (v := .pointer (some ⟨b, 0, none⟩)) [14, 25, 26, 32, 33, 36] rfl (by kernel_rfl) (by kernel_rfl) (by kernel_rfl) (by kernel_rfl) (fun _ _ _ h => h) (Or.inl ⟨by kernel_rfl, fun w' hSw => ?_⟩) hHeld ?_
    · have s0 := hSw.1
      have s2 := hSw.2.1
      have s3 := hSw.2.2.1
      have s4 := hSw.2.2.2.1
      have s5 := hSw.2.2.2.2
      clear hHeld hSw
      go_simp
    simp only [Act.put, List.getElem_toArray, List.getElem_cons_zero, List.getElem_cons_succ, List.setIfInBounds_toArray, List.set_cons_zero, List.set_cons_succ]
    refine wpAnyZ_take (i := 15) (v := .pointer (some ⟨b, 0, none⟩)) [16, 17, 18, 24, 25, 26, 32, 33, 36] rfl (by kernel_rfl) (by kernel_rfl) (by kernel_rfl) (by kernel_rfl) (fun _ _ _ h => h) (Or.inl ⟨by kernel_rfl, fun w' hSw => ?_⟩) hHeld ?_
    · have s0 := hSw.1
      have s2 := hSw.2.1
      have s3 := hSw.2.2.1
      have s4 := hSw.2.2.2.1
      have s5 := hSw.2.2.2.2
      clear hHeld hSw
      go_simp
    simp only [Act.put, List.getElem_toArray, List.getElem_cons_zero, List.getElem_cons_succ, List.setIfInBounds_toArray, List.set_cons_zero, List.set_cons_succ]
    refine wpAnyZ_take (i := 16) (v := .pointer (some ⟨b, 0, none⟩)) [17, 18, 24, 25, 26, 32, 33, 36] rfl (by kernel_rfl) (by kernel_rfl) (by kernel_rfl) (by kernel_rfl) (fun _ _ _ h => h) (Or.inl ⟨by kernel_rfl, fun w' hSw => ?_⟩) hHeld ?_
    · have s0 := hSw.1
      have s2 := hSw.2.1
      have s3 := hSw.2.2.1
      have s4 := hSw.2.2.2.1
      have s5 := hSw.2.2.2.2
      clear hHeld hSw
      go_simp
    simp only [Act.put, List.getElem_toArray, List.getElem_cons_zero, List.getElem_cons_succ, List.setIfInBounds_toArray, List.set_cons_zero, List.set_cons_succ]
    refine wpAnyZ_take (i := 17) (v := .pointer (some ⟨b, 5, none⟩)) [18, 24, 25, 26, 32, 33, 36] rfl (by kernel_rfl) (by kernel_rfl) (by kernel_rfl) (by kernel_rfl) (fun _ _ _ h => h) (Or.inl ⟨by kernel_rfl, fun w' hSw => ?_⟩) hHeld ?_
    · have s0 := hSw.1
      have s2 := hSw.2.1
      have s3 := hSw.2.2.1
      have s4 := hSw.2.2.2.1
      have s5 := hSw.2.2.2.2
      clear hHeld hSw
      go_simp
    simp only [Act.put, List.getElem_toArray, List.getElem_cons_zero, List.getElem_cons_succ, List.setIfInBounds_toArray, List.set_cons_zero, List.set_cons_succ]
    refine wpAnyZ_take (i := 18) (v := .int .i64 (now)) [24, 25, 26, 32, 33, 36] rfl (by kernel_rfl) (by kernel_rfl) (by kernel_rfl) (by kernel_rfl) (fun _ _ _ h => h) (Or.inl ⟨by kernel_rfl, fun w' hSw => ?_⟩) hHeld ?_
    · have s0 := hSw.1
      have s2 := hSw.2.1
      have s3 := hSw.2.2.1
      have s4 := hSw.2.2.2.1
      have s5 := hSw.2.2.2.2
      clear hHeld hSw
      go_simp
    simp only [Act.put, List.getElem_toArray, List.getElem_cons_zero, List.getElem_cons_succ, List.setIfInBounds_toArray, List.set_cons_zero, List.set_cons_succ]
    refine wpAnyZ_take (i := 19) (v := .pointer (some ⟨b, 0, none⟩)) [20, 21, 22, 23, 24, 25, 26, 32, 33, 36] rfl (by kernel_rfl) (by kernel_rfl) (by kernel_rfl) (by kernel_rfl) (fun _ _ _ h => h) (Or.inl ⟨by kernel_rfl, fun w' hSw => ?_⟩) hHeld ?_
    · have s0 := hSw.1
      have s2 := hSw.2.1
      have s3 := hSw.2.2.1
      have s4 := hSw.2.2.2.1
      have s5 := hSw.2.2.2.2
      clear hHeld hSw
      go_simp
    simp only [Act.put, List.getElem_toArray, List.getElem_cons_zero, List.getElem_cons_succ, List.setIfInBounds_toArray, List.set_cons_zero, List.set_cons_succ]
    refine wpAnyZ_take (i := 20) (v := .pointer (some ⟨b, 0, none⟩)) [21, 22, 23, 24, 25, 26, 32, 33, 36] rfl (by kernel_rfl) (by kernel_rfl) (by kernel_rfl) (by kernel_rfl) (fun _ _ _ h => h) (Or.inl ⟨by kernel_rfl, fun w' hSw => ?_⟩) hHeld ?_
    · have s0 := hSw.1
      have s2 := hSw.2.1
      have s3 := hSw.2.2.1
      have s4 := hSw.2.2.2.1
      have s5 := hSw.2.2.2.2
      clear hHeld hSw
      go_simp
    simp only [Act.put, List.getElem_toArray, List.getElem_cons_zero, List.getElem_cons_succ, List.setIfInBounds_toArray, List.set_cons_zero, List.set_cons_succ]
    refine wpAnyZ_take (i := 21) (v := .pointer (some ⟨b, 0, none⟩)) [22, 23, 24, 25, 26, 32, 33, 36] rfl (by kernel_rfl) (by kernel_rfl) (by kernel_rfl) (by kernel_rfl) (fun _ _ _ h => h) (Or.inl ⟨by kernel_rfl, fun w' hSw => ?_⟩) hHeld ?_
    · have s0 := hSw.1
      have s2 := hSw.2.1
      have s3 := hSw.2.2.1
      have s4 := hSw.2.2.2.1
      have s5 := hSw.2.2.2.2
      clear hHeld hSw
      go_simp
    simp only [Act.put, List.getElem_toArray, List.getElem_cons_zero, List.getElem_cons_succ, List.setIfInBounds_toArray, List.set_cons_zero, List.set_cons_succ]
    refine wpAnyZ_take (i := 22) (v := .pointer (some ⟨b, 0, none⟩)) [23, 24, 25, 26, 32, 33, 36] rfl (by kernel_rfl) (by kernel_rfl) (by kernel_rfl) (by kernel_rfl) (fun _ _ _ h => h) (Or.inl ⟨by kernel_rfl, fun w' hSw => ?_⟩) hHeld ?_
    · have s0 := hSw.1
      have s2 := hSw.2.1
      have s3 := hSw.2.2.1
      have s4 := hSw.2.2.2.1
      have s5 := hSw.2.2.2.2
      clear hHeld hSw
      go_simp
    simp only [Act.put, List.getElem_toArray, List.getElem_cons_zero, List.getElem_cons_succ, List.setIfInBounds_toArray, List.set_cons_zero, List.set_cons_succ]
    refine wpAnyZ_take (i := 23) (v := .int .i64 (c.amb)) [24, 25, 26, 32, 33, 36] rfl (by kernel_rfl) (by kernel_rfl) (by kernel_rfl) (by kernel_rfl) (fun _ _ _ h => h) (Or.inl ⟨by kernel_rfl, fun w' hSw => ?_⟩) hHeld ?_
    · have s0 := hSw.1
      have s2 := hSw.2.1
      have s3 := hSw.2.2.1
      have s4 := hSw.2.2.2.1
      have s5 := hSw.2.2.2.2
      clear hHeld hSw
      go_simp
    simp only [Act.put, List.getElem_toArray, List.getElem_cons_zero, List.getElem_cons_succ, List.setIfInBounds_toArray, List.set_cons_zero, List.set_cons_succ]
    refine wpAnyZ_take (i := 24) (v := .int .i64 (now - c.amb)) [25, 26, 32, 33, 36] rfl (by kernel_rfl) (by kernel_rfl) (by kernel_rfl) (by kernel_rfl) (fun _ _ _ h => h) (Or.inl ⟨by kernel_rfl, fun w' hSw => ?_⟩) hHeld ?_
    · have s0 := hSw.1
      have s2 := hSw.2.1
      have s3 := hSw.2.2.1
      have s4 := hSw.2.2.2.1
      have s5 := hSw.2.2.2.2
      clear hHeld hSw
      go_simp
    simp only [Act.put, List.getElem_toArray, List.getElem_cons_zero, List.getElem_cons_succ, List.setIfInBounds_toArray, List.set_cons_zero, List.set_cons_succ]
    refine wpAnyZ_take (i := 27) (v := .pointer (some ⟨b, 0, none⟩)) [28, 29, 30, 31, 32, 33, 36] rfl (by kernel_rfl) (by kernel_rfl) (by kernel_rfl) (by kernel_rfl) (fun _ _ _ h => h) (Or.inl ⟨by kernel_rfl, fun w' hSw => ?_⟩) hHeld ?_
    · have s0 := hSw.1
      have s2 := hSw.2.1
      have s3 := hSw.2.2.1
      have s4 := hSw.2.2.2.1
      have s5 := hSw.2.2.2.2
      clear hHeld hSw
      go_simp
    simp only [Act.put, List.getElem_toArray, List.getElem_cons_zero, List.getElem_cons_succ, List.setIfInBounds_toArray, List.set_cons_zero, List.set_cons_succ]
    refine wpAnyZ_take (i := 28) (v := .pointer (some ⟨b, 0, none⟩)) [29, 30, 31, 32, 33, 36] rfl (by kernel_rfl) (by kernel_rfl) (by kernel_rfl) (by kernel_rfl) (fun _ _ _ h => h) (Or.inl ⟨by kernel_rfl, fun w' hSw => ?_⟩) hHeld ?_
    · have s0 := hSw.1
      have s2 := hSw.2.1
      have s3 := hSw.2.2.1
      have s4 := hSw.2.2.2.1
      have s5 := hSw.2.2.2.2
      clear hHeld hSw
      go_simp
    simp only [Act.put, List.getElem_toArray, List.getElem_cons_zero, List.getElem_cons_succ, List.setIfInBounds_toArray, List.set_cons_zero, List.set_cons_succ]
    refine wpAnyZ_take (i := 29) (v := .pointer (some ⟨b, 0, none⟩)) [30, 31, 32, 33, 36] rfl (by kernel_rfl) (by kernel_rfl) (by kernel_rfl) (by kernel_rfl) (fun _ _ _ h => h) (Or.inl ⟨by kernel_rfl, fun w' hSw => ?_⟩) hHeld ?_
    · have s0 := hSw.1
      have s2 := hSw.2.1
      have s3 := hSw.2.2.1
      have s4 := hSw.2.2.2.1
      have s5 := hSw.2.2.2.2
      clear hHeld hSw
      go_simp
    simp only [Act.put, List.getElem_toArray, List.getElem_cons_zero, List.getElem_cons_succ, List.setIfInBounds_toArray, List.set_cons_zero, List.set_cons_succ]
    refine wpAnyZ_take (i := 30) (v := .pointer (some ⟨b, 4, none⟩)) [31, 32, 33, 36] rfl (by kernel_rfl) (by kernel_rfl) (by kernel_rfl) (by kernel_rfl) (fun _ _ _ h => h) (Or.inl ⟨by kernel_rfl, fun w' hSw => ?_⟩) hHeld ?_
    · have s0 := hSw.1
      have s2 := hSw.2.1
      have s3 := hSw.2.2.1
      have s4 := hSw.2.2.2.1
      have s5 := hSw.2.2.2.2
      clear hHeld hSw
      go_simp
    simp only [Act.put, List.getElem_toArray, List.getElem_cons_zero, List.getElem_cons_succ, List.setIfInBounds_toArray, List.set_cons_zero, List.set_cons_succ]
    refine wpAnyZ_take (i := 31) (v := .int .i64 (c.den)) [32, 33, 36] rfl (by kernel_rfl) (by kernel_rfl) (by kernel_rfl) (by kernel_rfl) (fun _ _ _ h => h) (Or.inl ⟨by kernel_rfl, fun w' hSw => ?_⟩) hHeld ?_
    · have s0 := hSw.1
      have s2 := hSw.2.1
      have s3 := hSw.2.2.1
      have s4 := hSw.2.2.2.1
      have s5 := hSw.2.2.2.2
      clear hHeld hSw
      go_simp
    simp only [Act.put, List.getElem_toArray, List.getElem_cons_zero, List.getElem_cons_succ, List.setIfInBounds_toArray, List.set_cons_zero, List.set_cons_succ]
    refine wpAnyZ_one (i := 14) (by kernel_rfl) rfl (fun K' hK => ?_)
    go_simp
    refine (cbLoss_any b c _ ⟨hHeld.1, HMO.out _, hHeld.2.1, hHeld.2.2.1, hHeld.2.2.2.1⟩).mono ?_
    rintro e w4 ⟨rfl, q4, hq4⟩
    subst w4
    refine hK.out _ _ ?_ (fun hHeld' => ?_)
    · exact hHeld
    clear hK K' hHeld
    have hHeld := hHeld'
    clear hHeld'
    try simp only [Act.put, List.getElem_toArray, List.getElem_cons_zero, List.getElem_cons_succ, List.setIfInBounds_toArray, List.set_cons_zero, List.set_cons_succ]
    refine wpAnyZ_take (i := 25) (v := .int .i64 (min c.loss c.den * (now - c.amb))) [26, 32, 33, 36] rfl (by kernel_rfl) (by kernel_rfl) (by kernel_rfl) (by kernel_rfl) (fun _ _ _ h => h) (Or.inl ⟨by kernel_rfl, fun w' hSw => ?_⟩) hHeld ?_
    · clear hHeld hSw
      go_simp
    simp only [Act.put, List.getElem_toArray, List.getElem_cons_zero, List.getElem_cons_succ, List.setIfInBounds_toArray, List.set_cons_zero, List.set_cons_succ]
    refine wpAnyZ_take (i := 26) (v := .int .i64 (c.gain * a * a - min c.loss c.den * (now - c.amb))) [32, 33, 36] rfl (by kernel_rfl) (by kernel_rfl) (by kernel_rfl) (by kernel_rfl) (fun _ _ _ h => h) (Or.inl ⟨by kernel_rfl, fun w' hSw => ?_⟩) hHeld ?_
    · clear hHeld hSw
      go_simp
    simp only [Act.put, List.getElem_toArray, List.getElem_cons_zero, List.getElem_cons_succ, List.setIfInBounds_toArray, List.set_cons_zero, List.set_cons_succ]
    refine wpAnyZ_one (i := 32) (by kernel_rfl) rfl (fun K' hK => ?_)
    go_simp
    refine (cbUp_ok _ _ hden hN0 hUB _).mono ?_
    rintro e w5 ⟨rfl, hw5⟩
    subst w5
    refine hK.out _ _ ?_ (fun hHeld' => ?_)
    · exact hHeld
    clear hK K' hHeld
    have hHeld := hHeld'
    clear hHeld'
    try simp only [Act.put, List.getElem_toArray, List.getElem_cons_zero, List.getElem_cons_succ, List.setIfInBounds_toArray, List.set_cons_zero, List.set_cons_succ]
    refine wpAnyZ_take (i := 33) (v := .int .i64 (now + upV (c.gain * a * a - min c.loss c.den * (now - c.amb)) c.den)) [36] rfl (by kernel_rfl) (by kernel_rfl) (by kernel_rfl) (by kernel_rfl) (fun _ _ _ h => h) (Or.inl ⟨by kernel_rfl, fun w' hSw => ?_⟩) hHeld ?_
    · clear hHeld hSw
      go_simp
    simp only [Act.put, List.getElem_toArray, List.getElem_cons_zero, List.getElem_cons_succ, List.setIfInBounds_toArray, List.set_cons_zero, List.set_cons_succ]
    refine wpAnyZ_take (i := 34) (v := .pointer (some ⟨b, 0, none⟩)) [35, 36] rfl (by kernel_rfl) (by kernel_rfl) (by kernel_rfl) (by kernel_rfl) (fun _ _ _ h => h) (Or.inl ⟨by kernel_rfl, fun w' hSw => ?_⟩) hHeld ?_
    · clear hHeld hSw
      go_simp
    simp only [Act.put, List.getElem_toArray, List.getElem_cons_zero, List.getElem_cons_succ, List.setIfInBounds_toArray, List.set_cons_zero, List.set_cons_succ]
    refine wpAnyZ_take (i := 35) (v := .pointer (some ⟨b, 5, none⟩)) [36] rfl (by kernel_rfl) (by kernel_rfl) (by kernel_rfl) (by kernel_rfl) (fun _ _ _ h => h) (Or.inl ⟨by kernel_rfl, fun w' hSw => ?_⟩) hHeld ?_
    · clear hHeld hSw
      go_simp
    simp only [Act.put, List.getElem_toArray, List.getElem_cons_zero, List.getElem_cons_succ, List.setIfInBounds_toArray, List.set_cons_zero, List.set_cons_succ]
    refine wpAnyZ_last (i := 36) (by kernel_rfl) rfl (by kernel_rfl) (fun K' hK => ?_)
    clear hHeld
    have k5 : w.cell? ⟨b, 5, none⟩ = some (.int .i64 now) := HO.out.cell (i := 5) (by omega)
    have hf := HFZ0.out (1 + q4)
    go_simp
    refine hK.out _ _ ?_
    clear hK K' hf k5
    try simp only [Act.put, List.getElem_toArray, List.getElem_cons_zero, List.getElem_cons_succ, List.setIfInBounds_toArray, List.set_cons_zero, List.set_cons_succ]
    refine wpAnyZ_done (by kernel_rfl) ?_ _
    go_end0
    exact ⟨rfl, ⟨_, HST.out, ((HO.out.drewN (1 + q4)).set 5 _).congr (wcF_set c now _)⟩, ((show Mod (fun j => j = b) w w from Mod.refl _ w).drewN (1 + q4)).setCell (p := ⟨b, 5, none⟩) (.inl rfl) _⟩
set_option maxRecDepth 100000 in
set_option maxHeartbeats 4000000 in
theorem cbHotM_no (b : Nat) (now : Int) (c : GCon) (hnow : now ≤ c.most) (w : World) (HO : Hid (Own w b 119 6 (wcF c now))) : Calls Try.prog 68 #[.pointer (some ⟨b, 0, none⟩)] w fun e w' => e = .returned (.bool false) ∧ ∃ q, w' = w.drewN q := by
  have k1 : w.cell? ⟨b, 1, none⟩ = some (.int .i64 c.most) := HO.out.cell (i := 1) (by omega)
  have k5 : w.cell? ⟨b, 5, none⟩ = some (.int .i64 now) := HO.out.cell (i := 5) (by omega)
  have hd : decide (c.most < now) = false := decide_eq_false (by omega)
  have hd2 : ¬ c.most < now := by omega
  have HC : Hid (∀ n, Calls Try.prog 92 #[.pointer (some ⟨b, 0, none⟩)] (w.drewN n) fun e w' => e = .returned (.bool (zC c)) ∧ w' = w.drewN n) := Lib.hid (fun n => cbNone_any b c _ (warmM_of (HO.out.drewN n)))
  go_enter Try.func68, Try.ntmps68
  cases hz : zC c
  · rw [hz] at HC
    clear hz
    go_wp2_with fail
    go_quiet (first | (go_at_call 92; exact Calls.quiet_of_same (HC.out _)))
    go_wp2_with fail
    go_ret
    exact ⟨rfl, _, rfl⟩
  · rw [hz] at HC
    clear hz
    go_wp2_with fail
    go_quiet (first | (go_at_call 92; exact Calls.quiet_of_same (HC.out _)))
    go_wp2_with fail
    go_ret
    exact ⟨rfl, _, rfl⟩
/-- The memory of the closure of Hot. -/
structure HotM (W : World) (b : Nat) (c : GCon) (now : Int) (T X H : Nat) (A : Option Addr) (n cA : Nat) (xs : List Int) : Prop where
  ow : Own W b 119 6 (wcF c now)
  kt : W.cell? ⟨T, 0, none⟩ = some (.func (.func 67) #[.pointer (some ⟨b, 0, none⟩)] #[])
  kx : W.cell? ⟨X, 0, none⟩ = some (.slice A n cA)
  kh : W.cell? ⟨H, 0, none⟩ = some (.func (.func 68) #[.pointer (some ⟨b, 0, none⟩)] #[])
  rx : Rd 1 encI W A xs
  ne : T ≠ b ∧ X ≠ b ∧ H ≠ b ∧ ∀ a, A = some a → a.block ≠ b
theorem HotM.mod {W W' : World} {b : Nat} {c : GCon} {now now' : Int} {T X H : Nat} {A : Option Addr} {n cA : Nat} {xs : List Int} (h : HotM W b c now T X H A n cA xs) (hm : Mod (fun j => j = b) W W') (ho : Own W' b 119 6 (wcF c now')) : HotM W' b c now' T X H A n cA xs :=
  ⟨ho, (hm.cell (p := ⟨T, 0, none⟩) (World.block_lt_of_cell? _ _ h.kt) h.ne.1).trans h.kt, (hm.cell (p := ⟨X, 0, none⟩) (World.block_lt_of_cell? _ _ h.kx) h.ne.2.1).trans h.kx, (hm.cell (p := ⟨H, 0, none⟩) (World.block_lt_of_cell? _ _ h.kh) h.ne.2.2.1).trans h.kh, h.rx.mod hm (fun a ha _ => h.ne.2.2.2 a ha), h.ne⟩
theorem HotM.drewN {W : World} {b : Nat} {c : GCon} {now : Int} {T X H : Nat} {A : Option Addr} {n cA : Nat} {xs : List Int} (h : HotM W b c now T X H A n cA xs) (q : Nat) : HotM (W.drewN q) b c now T X H A n cA xs :=
  ⟨h.ow.drewN q, h.kt, h.kx, h.kh, h.rx.drewN q, h.ne⟩
def H1Post (w : World) (b : Nat) (c : GCon) (T X H : Nat) (A : Option Addr) (n cA : Nat) (xs : List Int) (e : Ending) (w' : World) : Prop := e = .returned (.bool false) ∧ (∃ now', (c.amb ≤ now' ∧ now' ≤ c.most) ∧ HotM w' b c now' T X H A n cA xs) ∧ Mod (fun j => j = b) w w'
set_option maxRecDepth 100000 in
set_option maxHeartbeats 8000000 in
theorem cbHot1_ok (b T X H : Nat) (c : GCon) (hc : OkC c) (now : Int) (hnow : c.amb ≤ now ∧ now ≤ c.most) (A : Option Addr) (n cA : Nat) (xs : List Int) (hn : xs.length = n) (k : Nat) (hk : k < n) (hin : (0 ≤ fI xs k ∧ fI xs k ≤ 1000) ∧ (zC c = true ∨ c.gain * fI xs k * fI xs k ≤ roomC c)) (w : World) (HM : Hid (HotM w b c now T X H A n cA xs)) :
    Calls Try.prog 70 #[.int .i64 (k : Nat), .pointer (some ⟨T, 0, none⟩), .pointer (some ⟨X, 0, none⟩), .pointer (some ⟨H, 0, none⟩)] w fun e w' => H1Post w b c T X H A n cA xs e w' := by
  have hkz : (k : Int) < (n : Int) := by omega
  obtain ⟨bA, off, hA, hb, hcx⟩ := HM.out.rx.int (k := k) (by rw [hn]; exact hk)
  have hc' : w.cell? ⟨bA, off + k, none⟩ = some (.int .i64 (fI xs k)) := hcx
  have HT : Hid (Calls Try.prog 67 #[.pointer (some ⟨b, 0, none⟩), .int .i64 (fI xs k)] w.drew fun e w' => TiPost w.drew b c e w') := Lib.hid (cbTick_ok b (fI xs k) now c hc hin.1 hin.2 hnow w.drew (Lib.hid (HM.out.ow.drewN 1)))
  have kt := HM.out.kt
  have kx := HM.out.kx
  subst hA
  clear hcx hb hc hin
  generalize fI xs k = y at *
  go_enter Try.func70, Try.ntmps70
  go_wp2_with fail
  go_still_tail 5, (by kernel_rfl)
  change wpList _ _ _ _ _ w.drew
  go_wp2_with fail
  refine HT.out.mono ?_
  rintro e w2 ⟨rfl, ⟨now2, hb2, ho2⟩, hm2⟩
  have hm : Mod (fun j => j = b) w w2 := ((show Mod (fun j => j = b) w w from Mod.refl _ w).drewN 1).trans hm2
  have HM2 := Lib.hid (HM.out.mod hm ho2)
  have HH := Lib.hid (cbHotM_no b now2 c hb2.2 w2 (Lib.hid ho2))
  have HMD := Lib.hid hm
  have HB2 := Lib.hid hb2
  have kh := HM2.out.kh
  clear hm2 hm ho2 hb2 kt kx hc' HT
  go_wp2_with fail
  refine HH.out.mono ?_
  rintro e w3 ⟨rfl, q3, hw3⟩
  subst w3
  go_wp2_with fail
  go_ret
  exact ⟨rfl, ⟨now2, HB2.out, HM2.out.drewN q3⟩, HMD.out.drewN q3⟩
set_option maxRecDepth 100000 in
set_option maxHeartbeats 8000000 in
theorem cbFirst_ok (b T X H : Nat) (c : GCon) (HC : Hid (OkC c)) (now : Int) (hnow : c.amb ≤ now ∧ now ≤ c.most) (A : Option Addr) (n cA : Nat) (xs : List Int) (HN : Hid (xs.length = n)) (hn6 : n ≤ 1000000) (HIN : Hid (∀ i, i < n → (0 ≤ fI xs i ∧ fI xs i ≤ 1000) ∧ (zC c = true ∨ c.gain * fI xs i * fI xs i ≤ roomC c))) (w : World) (HM0 : Hid (HotM w b c now T X H A n cA xs)) :
    Calls Try.prog 69 #[.int .i64 (n : Nat), .func (.func 70) #[] #[.pointer (some ⟨T, 0, none⟩), .pointer (some ⟨X, 0, none⟩), .pointer (some ⟨H, 0, none⟩)]] w fun e w' => e = .returned (.int .i64 (-1)) ∧ Mod (fun j => j = b) w w' := by
  have HNW := Lib.hid hnow
  clear hnow
  go_enter Try.func69, Try.ntmps69
  go_wp2_with fail
  go_loopg [7] n (fun g1 v7 wr => ∃ k : Nat, v7 = .int .i64 k ∧ k ≤ n ∧ n - k ≤ g1 ∧ Hid (∃ now', (c.amb ≤ now' ∧ now' ≤ c.most) ∧ HotM wr b c now' T X H A n cA xs) ∧ Hid (Mod (fun j => j = b) w wr))
  case atStart => exact ⟨0, by go_num, by omega, by omega, Lib.hid ⟨now, HNW.out, HM0.out⟩, Lib.hid (Mod.refl _ _)⟩
  case round =>
    obtain ⟨k, rfl, hk, hg1, HH, HMD⟩ := hrel
    by_cases hlt : k < n
    · have hltz : (k : Int) < (n : Int) := by omega
      obtain ⟨now2, hb2, hm2⟩ := HH.out
      have HH1 := Lib.hid (cbHot1_ok b T X H c HC.out now2 hb2 A n cA xs HN.out k hlt (HIN.out k hlt) wr (Lib.hid hm2))
      clear hb2 hm2
      go_wp2_with fail
      refine HH1.out.mono ?_
      rintro e w2 ⟨rfl, hx, hm⟩
      have HX := Lib.hid hx
      have HM2 := Lib.hid (HMD.out.trans hm)
      clear hx hm HH1
      go_wp2_with fail
      go_roundg (n - (k + 1))
      case measure => omega
      case rel => exact ⟨k + 1, by go_num, by omega, by omega, HX, HM2⟩
    · have hltz : ¬ (k : Int) < (n : Int) := by omega
      go_wp2_with fail
      go_ret
      exact ⟨rfl, HMD.out⟩
theorem cbIsTemp_yes (n : Int) (h1 : 0 ≤ n) (h2 : n ≤ 1000000000) (w : World) : Calls Try.prog 65 #[.int .i64 n] w fun e w' => e = .returned (.bool true) ∧ w' = w := by
  go_enter Try.func65, Try.ntmps65
  go_wp2_with fail
  refine (cbInside_yes n 0 1000000000 h1 h2 w).mono ?_
  rintro e w' ⟨rfl, hw⟩
  subst w'
  go_wp2_with fail
  go_ret
  exact ⟨rfl, rfl⟩
theorem cbIsCur_yes (n : Int) (h1 : 0 ≤ n) (h2 : n ≤ 1000) (w : World) : Calls Try.prog 66 #[.int .i64 n] w fun e w' => e = .returned (.bool true) ∧ w' = w := by
  go_enter Try.func66, Try.ntmps66
  go_wp2_with fail
  refine (cbInside_yes n 0 1000 h1 h2 w).mono ?_
  rintro e w' ⟨rfl, hw⟩
  subst w'
  go_wp2_with fail
  go_ret
  exact ⟨rfl, rfl⟩
set_option maxRecDepth 100000 in
set_option maxHeartbeats 8000000 in
theorem cbHot_ok (c : GCon) (hc : OkC c) (A : Option Addr) (n cA : Nat) (xs : List Int) (w : World) (HX : Hid (Rd 1 encI w A xs)) (HN : Hid (xs.length = n)) (hn : n ≤ 10000) (HIN : Hid (∀ i, i < n → (0 ≤ fI xs i ∧ fI xs i ≤ 1000) ∧ (zC c = true ∨ c.gain * fI xs i * fI xs i ≤ roomC c))) (HAB : Hid (∀ a, A = some a → a.block < w.heap.size)) :
    Calls Try.prog 28 #[.agg #[.int .i64 c.amb, .int .i64 c.most, .int .i64 c.gain, .int .i64 c.loss, .int .i64 c.den], .int .i64 c.amb, .slice A n cA] w fun e w' => e = .returned (.tuple #[.int .i64 (-1), .int .i64 0]) ∧ Below w.heap.size w w' := by
  have hab : (0 ≤ c.amb ∧ c.amb ≤ 1000000000) ∧ c.amb ≤ c.most := by
    rcases hc.cab with h | h
    · unfold zC at h
      simp only [decide_eq_true_eq] at h
      omega
    · omega
  have HAM := Lib.hid hab
  have HOC := Lib.hid hc
  obtain ⟨W0, hW0⟩ : ∃ W0, W0 = (w.alloc (.cells #[.int .i64 c.amb, .int .i64 c.most, .int .i64 c.gain, .int .i64 c.loss, .int .i64 c.den] 53)).alloc (.cells #[.slice A n cA] 29) := ⟨_, rfl⟩
  have b0 : Below w.heap.size w W0 := by rw [hW0]; exact ((Below.refl _ w).alloc (Nat.le_refl _) _).alloc (by simp) _
  have q0 : W0.cell? ⟨w.heap.size, 0, none⟩ = some (.int .i64 c.amb) := by rw [hW0]; go_simp
  have q1 : W0.cell? ⟨w.heap.size, 1, none⟩ = some (.int .i64 c.most) := by rw [hW0]; go_simp
  have q2 : W0.cell? ⟨w.heap.size, 2, none⟩ = some (.int .i64 c.gain) := by rw [hW0]; go_simp
  have q3 : W0.cell? ⟨w.heap.size, 3, none⟩ = some (.int .i64 c.loss) := by rw [hW0]; go_simp
  have q4 : W0.cell? ⟨w.heap.size, 4, none⟩ = some (.int .i64 c.den) := by rw [hW0]; go_simp
  have q5 : W0.cell? ⟨w.heap.size + 1, 0, none⟩ = some (.slice A n cA) := by rw [hW0]; go_simp
  have HV := Lib.hid (cbValid_ok c hc W0)
  have HW0 := Lib.hid hW0
  clear hW0 hc hab
  go_enter Try.func28, Try.ntmps28
  go_wp2_with fail
  rw [← HW0.out]
  refine HV.out.mono ?_
  rintro e w1 ⟨rfl, hb1⟩
  have HBB := Lib.hid (below_then b0 hb1)
  have p0 := (hb1.cell (p := ⟨w.heap.size, 0, none⟩) (World.block_lt_of_cell? _ _ q0)).trans q0
  have p1 := (hb1.cell (p := ⟨w.heap.size, 1, none⟩) (World.block_lt_of_cell? _ _ q1)).trans q1
  have p2 := (hb1.cell (p := ⟨w.heap.size, 2, none⟩) (World.block_lt_of_cell? _ _ q2)).trans q2
  have p3 := (hb1.cell (p := ⟨w.heap.size, 3, none⟩) (World.block_lt_of_cell? _ _ q3)).trans q3
  have p4 := (hb1.cell (p := ⟨w.heap.size, 4, none⟩) (World.block_lt_of_cell? _ _ q4)).trans q4
  have p5 := (hb1.cell (p := ⟨w.heap.size + 1, 0, none⟩) (World.block_lt_of_cell? _ _ q5)).trans q5
  clear HV b0 hb1 q0 q1 q2 q3 q4 q5 HW0
  go_wp2_with fail
  refine (cbIsTemp_yes c.amb HAM.out.1.1 HAM.out.1.2 w1).mono ?_
  rintro e w2 ⟨rfl, hw2⟩
  subst w2
  go_wp2_with fail
  go_loopg [23] n (fun g1 v23 wr => ∃ k : Nat, v23 = .int .i64 k ∧ k ≤ n ∧ n - k ≤ g1 ∧ w1 = wr)
  case atStart => exact ⟨0, by go_num, by omega, by omega, rfl⟩
  case round =>
    obtain ⟨k, rfl, hk, hg1, rfl⟩ := hrel
    by_cases hlt : k < n
    · have hltz : (k : Int) < (n : Int) := by omega
      obtain ⟨bA, off, hA, hb, hcx⟩ := HX.out.int (k := k) (by rw [HN.out]; exact hlt)
      have hc' : w1.cell? ⟨bA, off + k, none⟩ = some (.int .i64 (fI xs k)) := (HBB.out.cell (p := ⟨bA, off + k, none⟩) hb).trans hcx
      obtain ⟨⟨h1, h2⟩, _⟩ := HIN.out k hlt
      have HCU := Lib.hid (cbIsCur_yes (fI xs k) h1 h2 w1)
      subst hA
      clear hcx h1 h2 hb
      generalize fI xs k = y at *
      go_wp2_with fail
      refine HCU.out.mono ?_
      rintro e w2 ⟨rfl, hw⟩
      subst w2
      go_wp2_with fail
      go_roundg (n - (k + 1))
      case measure => omega
      case rel => exact ⟨k + 1, by go_num, by omega, by omega, rfl⟩
    · have hltz : ¬ (k : Int) < (n : Int) := by omega
      clear hg1
      obtain ⟨w2, hw2⟩ : ∃ w2, w2 = ((w1.alloc (.cells #[.int .i64 c.amb, .int .i64 c.most, .int .i64 c.gain, .int .i64 c.loss, .int .i64 c.den, .int .i64 c.amb] 119)).alloc (.cells #[.func (.func 67) #[.pointer (some ⟨w1.heap.size, 0, none⟩)] #[]] 120)).alloc (.cells #[.func (.func 68) #[.pointer (some ⟨w1.heap.size, 0, none⟩)] #[]] 30) := ⟨_, rfl⟩
      have b2 : Below w1.heap.size w1 w2 := by rw [hw2]; exact (((Below.refl _ w1).alloc (Nat.le_refl _) _).alloc (by simp) _).alloc (by simp; omega) _
      have HM2 : Hid (HotM w2 w1.heap.size c c.amb (w1.heap.size + 1) (w.heap.size + 1) (w1.heap.size + 1 + 1) A n cA xs) := Lib.hid (by
        have l5 := World.block_lt_of_cell? _ _ p5
        dsimp only at l5
        refine ⟨?_, by rw [hw2]; go_simp, (b2.cell (p := ⟨w.heap.size + 1, 0, none⟩) l5).trans p5, by rw [hw2]; go_simp, HX.out.keep (below_then HBB.out b2), by omega, by omega, by omega, fun a ha => ?_⟩
        · rw [hw2]
          exact ((Own.newAt w1 119 _ w1.heap.size rfl rfl (fun i hi => by match i, hi with | 0, _ => rfl | 1, _ => rfl | 2, _ => rfl | 3, _ => rfl | 4, _ => rfl | 5, _ => rfl)).alloc _).alloc _
        · have := HAB.out a ha
          have := HBB.out.size
          omega)
      have p5' := HM2.out.kx
      have HF := Lib.hid (cbFirst_ok w1.heap.size (w1.heap.size + 1) (w.heap.size + 1) (w1.heap.size + 1 + 1) c HOC c.amb ⟨Int.le_refl _, HAM.out.2⟩ A n cA xs HN (by omega) HIN w2 HM2)
      have HB2 := Lib.hid (below_then HBB.out b2)
      have HZ := Lib.hid HBB.out.size
      have HW2 := Lib.hid hw2
      have hl5 : w.heap.size + 1 < w1.heap.size := World.block_lt_of_cell? _ _ p5
      have hl0 : w.heap.size < w1.heap.size := by omega
      clear hw2 b2 HM2 p5'
      go_wp2_with fail
      rw [← HW2.out]
      refine HF.out.mono ?_
      rintro e w3 ⟨rfl, hm⟩
      have HBF : Hid (Below w.heap.size w w3) := Lib.hid (HB2.out.trans (hm.below HB2.out.size (fun j _ h => by have := HZ.out; omega)))
      clear hm HF
      go_wp2_with fail
      refine bodyPost_ret (results_tmp2 rfl _ _ _) rfl ?_
      exact ⟨rfl, HBF.out⟩
end Go.Proofs.Ytbalhbpaholakaa
