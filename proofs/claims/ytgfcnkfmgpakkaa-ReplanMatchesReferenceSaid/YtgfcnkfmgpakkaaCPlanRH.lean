/-
The reference's Energy and Graph of plan, walked.
-/
import Derived.Test.YtgfcnkfmgpakkaaGMath
import Derived.Test.YtgfcnkfmgpakkaaCPlanA
import Derived.Test.YtgfcnkfmgpakkaaGAppE
import Derived.Test.YtgfcnkfmgpakkaaGBase
import Derived.Test.YtgfcnkfmgpakkaaGPlanU
namespace Go.Proofs.Ytgfcnkfmgpakkaa
open Go.RowKit
set_option linter.unusedVariables false
set_option linter.unusedSimpArgs false
theorem wrap_fit {x : Int} (h0 : -9223372036854775808 ≤ x) (h1 : x ≤ 9223372036854775807) : IntKind.i64.wrap x = x := by
  unfold IntKind.wrap
  simp [IntKind.signed, IntKind.bits]
  omega
set_option maxRecDepth 100000 in
set_option maxHeartbeats 1600000 in
theorem rpEnergy_any (A : Option Addr) (c N : Nat) (js : List GJob) (w : World) (hR : Rd 5 encJ w A js) (HN : Hid (js.length = N)) (hN : N ≤ 12) (HE : Hid (∀ k, k < N → 0 ≤ (jAt js k).energy ∧ (jAt js k).energy ≤ 1000)) :
    Calls Try.prog 89 #[.slice A N c] w fun e w' => e = .returned (.int .i64 (allE js)) ∧ w' = w := by
  have HR := Lib.hid hR
  have HA : Hid (allE js = S N (fun i => (jAt js i).energy)) := Lib.hid (by unfold allE; rw [HN.out])
  clear hR
  go_enter Try.func89, Try.ntmps89
  go_wp2
  go_loopg [3, 4] N (fun g1 v3 v4 wr => ∃ k : Nat, v3 = .int .i64 (S k (fun i => (jAt js i).energy)) ∧ v4 = .int .i64 k ∧ k ≤ N ∧ N - k ≤ g1 ∧ w = wr)
  case atStart => exact ⟨0, by go_num, by go_num, by omega, by omega, rfl⟩
  case round =>
    obtain ⟨k, rfl, rfl, hk, hg1, rfl⟩ := hrel
    have bk : 0 ≤ S k (fun i => (jAt js i).energy) ∧ S k (fun i => (jAt js i).energy) ≤ 12000 := by
      have h1 := S_nonneg (n := k) (g := fun i => (jAt js i).energy) (fun i hi => (HE.out i (by omega)).1)
      have h2 := S_bound (n := k) (g := fun i => (jAt js i).energy) (c := 1000) (fun i hi => (HE.out i (by omega)).2)
      omega
    by_cases hlt : k < N
    · have hltz : (k : Int) < (N : Int) := by omega
      obtain ⟨b, off, j, hA, hbl, hj, g0, g1, g2, g3, g4⟩ := rdJ_at HR.out (k := k) (by rw [HN.out]; exact hlt)
      subst hA
      have ej : jAt js k = j := by unfold jAt; rw [hj]; rfl
      have hen := HE.out k hlt
      rw [ej] at hen
      have Hs : Hid (S (k + 1) (fun i => (jAt js i).energy) = S k (fun i => (jAt js i).energy) + j.energy) := Lib.hid (by rw [S_succ, ej])
      clear hj ej
      generalize S k (fun i => (jAt js i).energy) = need at *
      go_wp2
      go_roundg (N - (k + 1))
      case measure => omega
      case rel => exact ⟨k + 1, by rw [Hs.out], by go_num, by omega, by omega, rfl⟩
    · have hltz : ¬ (k : Int) < (N : Int) := by omega
      have hkN : N = k := by omega
      subst hkN
      go_wp2
      go_ret
      exact ⟨ret_int HA.out.symm, rfl⟩
theorem results_c {P : Program} {fn : Func} {a : Tmp} {ty : TypeId} {tmps : Array Value} {b : Nat} {u : Value} {w : World} (h : fn.results = #[.cell a ty]) (ha : tmps.getD a undef = .pointer (some ⟨b, 0, none⟩)) (hl : (loadVar ty ⟨b, 0, none⟩).run P w = .ok u w) :
    (results fn tmps).run P w = .ok u w := by
  have ha' : tmps[a]?.getD undef = .pointer (some ⟨b, 0, none⟩) := by simpa using ha
  simp [results, h, ha', hl, asAddr]
theorem load_gr {W : World} {b : Nat} {f : Nat → Value} (h : Own W b 68 2 f) : (loadVar 68 ⟨b, 0, none⟩).run Try.prog W = .ok (.agg #[f 0, f 1]) W := by
  have c0 := h.cell (i := 0) (by omega)
  have c1 := h.cell (i := 1) (by omega)
  go_simp
/-- The memory of the reference's Graph. -/
structure GQm (w W : World) (nn : Nat) (v : Value) (es : List GEdge) : Prop where
  o4 : Own W w.heap.size 68 2 (gcell 0 (.slice none 0 0))
  og : Own W (w.heap.size + 1) 68 2 (gcell nn v)
  oe : OwnE W (w.heap.size + 2) v es
  bel : Below w.heap.size w W
section
variable {w W : World} {nn : Nat} {v : Value} {es : List GEdge}
theorem GQm.push (h : GQm w W nn v es) (f t cp : Int) (hl : es.length ≤ 1000000) :
    Appends Try.prog (W.alloc (.cells #[.int .i64 f, .int .i64 t, .int .i64 cp] 70)).drew 66 66 v (.slice (some ⟨W.heap.size, 0, none⟩) 1 1) ∧
    ∃ a' l' c' w1, appV Try.prog (W.alloc (.cells #[.int .i64 f, .int .i64 t, .int .i64 cp] 70)).drew 66 66 v (.slice (some ⟨W.heap.size, 0, none⟩) 1 1) = .slice a' l' c' ∧
      appW Try.prog (W.alloc (.cells #[.int .i64 f, .int .i64 t, .int .i64 cp] 70)).drew 66 66 v (.slice (some ⟨W.heap.size, 0, none⟩) 1 1) = w1 ∧
      w1.cell? ⟨w.heap.size + 1, 1, none⟩ = some v ∧ w1.frozen? ⟨w.heap.size + 1, 1, none⟩ = false ∧
      Hid (∀ (p : Addr) (u : Value), W.cell? p = some u → p.block < w.heap.size → w1.cell? p = some u) ∧
      Hid (GQm w (w1.setCell ⟨w.heap.size + 1, 1, none⟩ (.slice a' l' c')) nn (.slice a' l' c') (es ++ [⟨f, t, cp⟩])) := by
  have hsz := h.og.lt
  have hoe : OwnE W.drew (w.heap.size + 2) v es := h.oe
  obtain ⟨ap, v', w1, av, aw, hown, hmod, hob⟩ := app_edge (w := W.drew) f t cp hoe (by show w.heap.size + 2 ≤ W.heap.size; omega) hl
  obtain ⟨a', c', e'⟩ := hown.shape
  generalize (es ++ [(⟨f, t, cp⟩ : GEdge)]).length = l' at e'
  subst e'
  have hmod' : Mod (fun q => v.ownBlock = some q) W w1 := ⟨hmod.os, hmod.tape, hmod.output, hmod.size, hmod.block⟩
  have hne : ∀ q, q < w.heap.size + 2 → ¬ v.ownBlock = some q := fun q hq e => by have := (World.ownsRow.lt h.oe q e).1; omega
  have og1 := h.og.mod hmod' (hne _ (by omega))
  have hM : Mod (fun q => v.ownBlock = some q ∨ q = w.heap.size + 1) W (w1.setCell ⟨w.heap.size + 1, 1, none⟩ (.slice a' l' c')) := (hmod'.mono (fun k _ hk => .inl hk)).setCell (p := ⟨w.heap.size + 1, 1, none⟩) (.inl (.inr rfl)) _
  refine ⟨ap, a', l', c', w1, av, aw, ?_, og1.frozen 1, Lib.hid (fun p u hp hn => (hmod'.cell (World.block_lt_of_cell? W p hp) (hne _ (by omega))).trans hp), Lib.hid ⟨?_, ?_, ?_, ?_⟩⟩
  · have := og1.cell (i := 1) (by omega)
    simpa [gcell] using this
  · exact h.o4.mod hM (fun e => by
      rcases e with e | e
      · exact hne _ (by omega) e
      · omega)
  · refine (og1.set 1 (.slice a' l' c')).congr (fun i hi => ?_)
    unfold gcell
    rcases i with _ | _ | i
    · simp
    · simp
    · omega
  · refine OwnR.mod hown ((Mod.refl (fun q => q = w.heap.size + 1) w1).setCell (p := ⟨w.heap.size + 1, 1, none⟩) (.inl rfl) _) (fun k hk e => ?_)
    have := (World.ownsRow.lt hown k hk).1
    omega
  · refine h.bel.trans (hM.below h.bel.size (fun k hk hq => ?_))
    rcases hq with hq | hq
    · have := (World.ownsRow.lt h.oe k hq).1; omega
    · omega
theorem GQm.push0 (h : GQm w W nn v es) (f t cp : Int) (hl : es.length ≤ 1000000) :
    Appends Try.prog (W.alloc (.cells #[.int .i64 f, .int .i64 t, .int .i64 cp] 70)) 66 66 v (.slice (some ⟨W.heap.size, 0, none⟩) 1 1) ∧
    ∃ a' l' c' w1, appV Try.prog (W.alloc (.cells #[.int .i64 f, .int .i64 t, .int .i64 cp] 70)) 66 66 v (.slice (some ⟨W.heap.size, 0, none⟩) 1 1) = .slice a' l' c' ∧
      appW Try.prog (W.alloc (.cells #[.int .i64 f, .int .i64 t, .int .i64 cp] 70)) 66 66 v (.slice (some ⟨W.heap.size, 0, none⟩) 1 1) = w1 ∧
      w1.cell? ⟨w.heap.size + 1, 1, none⟩ = some v ∧ w1.frozen? ⟨w.heap.size + 1, 1, none⟩ = false ∧
      Hid (∀ (p : Addr) (u : Value), W.cell? p = some u → p.block < w.heap.size → w1.cell? p = some u) ∧
      Hid (GQm w (w1.setCell ⟨w.heap.size + 1, 1, none⟩ (.slice a' l' c')) nn (.slice a' l' c') (es ++ [⟨f, t, cp⟩])) := by
  have hsz := h.og.lt
  have hoe : OwnE W (w.heap.size + 2) v es := h.oe
  obtain ⟨ap, v', w1, av, aw, hown, hmod, hob⟩ := app_edge (w := W) f t cp hoe (by show w.heap.size + 2 ≤ W.heap.size; omega) hl
  obtain ⟨a', c', e'⟩ := hown.shape
  generalize (es ++ [(⟨f, t, cp⟩ : GEdge)]).length = l' at e'
  subst e'
  have hmod' : Mod (fun q => v.ownBlock = some q) W w1 := ⟨hmod.os, hmod.tape, hmod.output, hmod.size, hmod.block⟩
  have hne : ∀ q, q < w.heap.size + 2 → ¬ v.ownBlock = some q := fun q hq e => by have := (World.ownsRow.lt h.oe q e).1; omega
  have og1 := h.og.mod hmod' (hne _ (by omega))
  have hM : Mod (fun q => v.ownBlock = some q ∨ q = w.heap.size + 1) W (w1.setCell ⟨w.heap.size + 1, 1, none⟩ (.slice a' l' c')) := (hmod'.mono (fun k _ hk => .inl hk)).setCell (p := ⟨w.heap.size + 1, 1, none⟩) (.inl (.inr rfl)) _
  refine ⟨ap, a', l', c', w1, av, aw, ?_, og1.frozen 1, Lib.hid (fun p u hp hn => (hmod'.cell (World.block_lt_of_cell? W p hp) (hne _ (by omega))).trans hp), Lib.hid ⟨?_, ?_, ?_, ?_⟩⟩
  · have := og1.cell (i := 1) (by omega)
    simpa [gcell] using this
  · exact h.o4.mod hM (fun e => by
      rcases e with e | e
      · exact hne _ (by omega) e
      · omega)
  · refine (og1.set 1 (.slice a' l' c')).congr (fun i hi => ?_)
    unfold gcell
    rcases i with _ | _ | i
    · simp
    · simp
    · omega
  · refine OwnR.mod hown ((Mod.refl (fun q => q = w.heap.size + 1) w1).setCell (p := ⟨w.heap.size + 1, 1, none⟩) (.inl rfl) _) (fun k hk e => ?_)
    have := (World.ownsRow.lt hown k hk).1
    omega
  · refine h.bel.trans (hM.below h.bel.size (fun k hk hq => ?_))
    rcases hq with hq | hq
    · have := (World.ownsRow.lt h.oe k hq).1; omega
    · omega
end
set_option maxRecDepth 100000 in
set_option maxHeartbeats 8000000 in
theorem rpGraph_any (A A2 : Option Addr) (c N c2 T : Nat) (js : List GJob) (sup : List Int) (w : World) (hR : Rd 5 encJ w A js) (HN : Hid (js.length = N)) (hR2 : Rd 1 encI w A2 sup) (HN2 : Hid (sup.length = T)) (HOK : Hid (okP js sup = true)) :
    Calls Try.prog 88 #[.slice A N c, .slice A2 T c2] w fun e w' => ∃ a d, e = .returned (.agg #[.int .i64 ((T + N + 2 : Nat) : Int), .slice a (graphQ js sup).length d]) ∧ Rd 3 encE w' a (graphQ js sup) ∧ Below w.heap.size w w' := by
  obtain ⟨⟨t1, t2⟩, _, _⟩ := okP_iff.1 HOK.out
  rw [HN.out] at t1
  rw [HN2.out] at t2
  have HRS := Lib.hid (And.intro hR hR2)
  have HJ := Lib.hid (fun (k : Nat) (hk : k < N) => okP_job HOK.out (i := k) (by rw [HN.out]; exact hk))
  have HSU := Lib.hid (fun (t : Nat) (ht : t < T) => okP_sup HOK.out (t := t) (by rw [HN2.out]; exact ht))
  clear hR hR2
  obtain ⟨nn, hnn⟩ : ∃ nn, nn = T + N + 2 := ⟨_, rfl⟩
  have hnz : (T : Int) + (N : Int) + 2 = (nn : Int) := by omega
  go_enter Try.func88, Try.ntmps88
  have bw : Below w.heap.size w ((w.alloc (.cells #[.int .i64 0, .slice none 0 0] 68)).alloc (.cells #[.int .i64 nn, .slice none 0 0] 68)) := ((Below.refl _ w).alloc (Nat.le_refl _) _).alloc (by simp) _
  have HM0 : Hid (GQm w ((w.alloc (.cells #[.int .i64 0, .slice none 0 0] 68)).alloc (.cells #[.int .i64 nn, .slice none 0 0] 68)) nn (.slice none 0 0) []) := by
    refine Lib.hid ⟨?_, ?_, OwnR.nil _ _, bw⟩
    · refine Own.alloc (Own.newAt _ _ _ _ rfl (n := 2) rfl (fun i hi => ?_)) _
      rcases i with _ | _ | i
      · rfl
      · rfl
      · omega
    · refine Own.newAt _ _ _ _ (by simp) (n := 2) rfl (fun i hi => ?_)
      rcases i with _ | _ | i
      · rfl
      · rfl
      · omega
  have Hnn := Lib.hid hnn
  clear bw hnn
  go_upto_region 3 with (fail)
  refine wp_world (fun W => GQm w W nn (.slice none 0 0) []) HM0.out ?_
  intro W0 M0
  clear HM0
  have HM0 := Lib.hid M0
  clear M0 hnz
  go_wp2
  go_loopg [7] N (fun g1 v7 wr => ∃ (k : Nat) (v : Value), v7 = .int .i64 k ∧ k ≤ N ∧ N - k ≤ g1 ∧ Hid (GQm w wr nn v (rowsB js T k)))
  case atStart => exact ⟨0, _, by go_num, by omega, by omega, HM0⟩
  case round =>
    clear HM0
    obtain ⟨k, v, rfl, hk, hg1, HM⟩ := hrel
    by_cases hlt : k < N
    · have hltz : (k : Int) < (N : Int) := by omega
      obtain ⟨b, off, j, hA, hbl0, hj, g0w, g1w, g2w, g3w, _⟩ := rdJ_at HRS.out.1 (k := k) (by rw [HN.out]; exact hlt)
      subst hA
      have ej : jAt js k = j := by unfold jAt; rw [hj]; rfl
      have g2 := (HM.out.bel.cell (p := ⟨b, off + k * 5 + 2, none⟩) hbl0).trans g2w
      have cg : wr.cell? ⟨w.heap.size + 1, 1, none⟩ = some v := by have := HM.out.og.cell (i := 1) (by omega); simpa [gcell] using this
      obtain ⟨n1, hn1⟩ : ∃ n1 : Int, n1 = 1 + (T : Int) + (k : Int) := ⟨_, rfl⟩
      have Hn1 := Lib.hid hn1
      obtain ⟨ap, a5, l5, c5, w1, av, aw, e1, e2, Hfar, HM5⟩ := HM.out.push 0 n1 j.energy (by rw [rowsB_len]; have : k * (T + 1) ≤ 12 * 25 := Nat.mul_le_mul (by omega) (by omega); omega)
      have hnb : (⟨b, off + k * 5 + 2, none⟩ : Addr).block < w.heap.size := hbl0
      have lg := World.block_lt_of_cell? wr _ cg
      have lb := World.block_lt_of_cell? wr _ g2
      dsimp only at lg lb hnb
      have Hk : Hid (rowsB js T k ++ [⟨0, n1, j.energy⟩] = rowsB js T k ++ rowB js T k 0) := Lib.hid (by unfold rowB; rw [hn1]; simp [mk, edA, ej])
      have Hjj := Lib.hid ej
      have Hg := Lib.hid (And.intro g0w (And.intro g1w g3w))
      clear HM hj ej hn1 g0w g1w g2w g3w
      go_upto_region 6 with (fail)
      refine wp_normal (fun K0 hK0 => ?_)
      refine region_z (S := fun w' => w'.cell? ⟨w.heap.size + 1, 1, none⟩ = some v ∧ w'.cell? ⟨b, off + k * 5 + 2, none⟩ = some (.int .i64 j.energy)) [15] (by kernel_rfl) ⟨cg, g2⟩ (fun hHeld => ?_)
      refine wpAnyZ_take (i := 0) (v := .pointer (some ⟨w.heap.size + 1, 1, none⟩)) [15] rfl (by kernel_rfl) (by kernel_rfl) (by kernel_rfl) (by kernel_rfl) (fun _ _ _ h => h) (Or.inl ⟨by rfl, fun w' hSw => ?_⟩) hHeld ?_
      · obtain ⟨s0, s1⟩ := hSw
        go_simp
      simp only [Act.put, List.setIfInBounds_toArray, List.set_cons_zero, List.set_cons_succ]
      refine wpAnyZ_take (i := 1) (v := v) [15] rfl (by kernel_rfl) (by kernel_rfl) (by kernel_rfl) (by kernel_rfl) (fun _ _ _ h => h) (Or.inl ⟨by rfl, fun w' hSw => ?_⟩) hHeld ?_
      · obtain ⟨s0, s1⟩ := hSw
        go_simp
      simp only [Act.put, List.setIfInBounds_toArray, List.set_cons_zero, List.set_cons_succ]
      refine wpAnyZ_take (i := 2) (v := .int .i64 T) [15] rfl (by kernel_rfl) (by kernel_rfl) (by kernel_rfl) (by kernel_rfl) (fun _ _ _ h => h) (Or.inl ⟨by rfl, fun w' hSw => ?_⟩) hHeld ?_
      · obtain ⟨s0, s1⟩ := hSw
        go_simp
      simp only [Act.put, List.setIfInBounds_toArray, List.set_cons_zero, List.set_cons_succ]
      refine wpAnyZ_take (i := 3) (v := .int .i64 (1 + (T : Int))) [15] rfl (by kernel_rfl) (by kernel_rfl) (by kernel_rfl) (by kernel_rfl) (fun _ _ _ h => h) (Or.inl ⟨by rfl, fun w' hSw => ?_⟩) hHeld ?_
      · obtain ⟨s0, s1⟩ := hSw
        go_simp
        exact wrap_fit (by omega) (by omega)
      simp only [Act.put, List.setIfInBounds_toArray, List.set_cons_zero, List.set_cons_succ]
      refine wpAnyZ_take (i := 4) (v := .int .i64 k) [15] rfl (by kernel_rfl) (by kernel_rfl) (by kernel_rfl) (by kernel_rfl) (fun _ _ _ h => h) (Or.inl ⟨by rfl, fun w' hSw => ?_⟩) hHeld ?_
      · obtain ⟨s0, s1⟩ := hSw
        go_simp
      simp only [Act.put, List.setIfInBounds_toArray, List.set_cons_zero, List.set_cons_succ]
      refine wpAnyZ_take (i := 5) (v := .int .i64 n1) [15] rfl (by kernel_rfl) (by kernel_rfl) (by kernel_rfl) (by kernel_rfl) (fun _ _ _ h => h) (Or.inl ⟨by rfl, fun w' hSw => ?_⟩) hHeld ?_
      · obtain ⟨s0, s1⟩ := hSw
        go_simp
        rw [Hn1.out]
        exact wrap_fit (by omega) (by omega)
      simp only [Act.put, List.setIfInBounds_toArray, List.set_cons_zero, List.set_cons_succ]
      refine wpAnyZ_take (i := 6) (v := .slice (some ⟨b, off, none⟩) N c) [15] rfl (by kernel_rfl) (by kernel_rfl) (by kernel_rfl) (by kernel_rfl) (fun _ _ _ h => h) (Or.inl ⟨by rfl, fun w' hSw => ?_⟩) hHeld ?_
      · obtain ⟨s0, s1⟩ := hSw
        go_simp
      simp only [Act.put, List.setIfInBounds_toArray, List.set_cons_zero, List.set_cons_succ]
      refine wpAnyZ_take (i := 7) (v := .int .i64 k) [15] rfl (by kernel_rfl) (by kernel_rfl) (by kernel_rfl) (by kernel_rfl) (fun _ _ _ h => h) (Or.inl ⟨by rfl, fun w' hSw => ?_⟩) hHeld ?_
      · obtain ⟨s0, s1⟩ := hSw
        go_simp
      simp only [Act.put, List.setIfInBounds_toArray, List.set_cons_zero, List.set_cons_succ]
      refine wpAnyZ_take (i := 8) (v := .pointer (some ⟨b, off + k * 5, none⟩)) [15] rfl (by kernel_rfl) (by kernel_rfl) (by kernel_rfl) (by kernel_rfl) (fun _ _ _ h => h) (Or.inl ⟨by rfl, fun w' hSw => ?_⟩) hHeld ?_
      · obtain ⟨s0, s1⟩ := hSw
        go_simp
      simp only [Act.put, List.setIfInBounds_toArray, List.set_cons_zero, List.set_cons_succ]
      refine wpAnyZ_take (i := 9) (v := .pointer (some ⟨b, off + k * 5 + 2, none⟩)) [15] rfl (by kernel_rfl) (by kernel_rfl) (by kernel_rfl) (by kernel_rfl) (fun _ _ _ h => h) (Or.inl ⟨by rfl, fun w' hSw => ?_⟩) hHeld ?_
      · obtain ⟨s0, s1⟩ := hSw
        go_simp
      simp only [Act.put, List.setIfInBounds_toArray, List.set_cons_zero, List.set_cons_succ]
      refine wpAnyZ_take (i := 10) (v := .int .i64 j.energy) [15] rfl (by kernel_rfl) (by kernel_rfl) (by kernel_rfl) (by kernel_rfl) (fun _ _ _ h => h) (Or.inl ⟨by rfl, fun w' hSw => ?_⟩) hHeld ?_
      · obtain ⟨s0, s1⟩ := hSw
        go_simp
      simp only [Act.put, List.setIfInBounds_toArray, List.set_cons_zero, List.set_cons_succ]
      refine wpAnyZ_one (i := 11) (by kernel_rfl) rfl (fun K hK => ?_)
      go_simp
      refine hK.out _ _ ?_ (fun hHeld => ?_)
      · exact hHeld
      clear hK K
      try simp only [Act.put, List.setIfInBounds_toArray, List.set_cons_zero, List.set_cons_succ]
      refine wpAnyZ_one (i := 12) (by kernel_rfl) rfl (fun K hK => ?_)
      go_simp
      refine hK.out _ _ ?_ (fun hHeld => ?_)
      · refine ⟨?_, ?_⟩ <;> go_simp
      clear hK K
      try simp only [Act.put, List.setIfInBounds_toArray, List.set_cons_zero, List.set_cons_succ]
      refine wpAnyZ_one (i := 13) (by kernel_rfl) rfl (fun K hK => ?_)
      rw [if_pos (by rfl)]
      refine append_go rfl rfl ap av aw ?_
      refine hK.out _ _ ?_ (fun hHeld => ?_)
      · exact ⟨e1, Hfar.out _ _ g2 hnb⟩
      clear hK K
      try simp only [Act.put, List.setIfInBounds_toArray, List.set_cons_zero, List.set_cons_succ]
      refine wpAnyZ_take (i := 14) (v := .pointer (some ⟨w.heap.size + 1, 1, none⟩)) [15] rfl (by kernel_rfl) (by kernel_rfl) (by kernel_rfl) (by kernel_rfl) (fun _ _ _ h => h) (Or.inl ⟨by rfl, fun w' hSw => ?_⟩) hHeld ?_
      · obtain ⟨s0, s1⟩ := hSw
        go_simp
      simp only [Act.put, List.setIfInBounds_toArray, List.set_cons_zero, List.set_cons_succ]
      refine wpAnyZ_last (i := 15) (by kernel_rfl) rfl (by kernel_rfl) (fun K hK => ?_)
      go_simp
      refine hK.out _ _ ?_
      clear hK K
      try simp only [Act.put, List.setIfInBounds_toArray, List.set_cons_zero, List.set_cons_succ]
      refine wpAnyZ_done (by kernel_rfl) ?_ _
      clear hHeld
      refine hK0 _ _ ?_
      clear hK0 K0 ap av aw e1 e2 Hfar cg g2
      have HM6 : Hid (GQm w (w1.setCell ⟨w.heap.size + 1, 1, none⟩ (.slice a5 l5 c5)) nn (.slice a5 l5 c5) (rowsB js T k ++ rowB js T k 0)) := Lib.hid (by rw [← Hk.out]; exact HM5.out)
      clear HM5
      generalize w1.setCell ⟨w.heap.size + 1, 1, none⟩ (.slice a5 l5 c5) = W6 at *
      go_step
      go_wp2
      go_loopg [8] T (fun g1 v8 wr => ∃ (s : Nat) (v : Value), v8 = .int .i64 s ∧ s ≤ T ∧ T - s ≤ g1 ∧ Hid (GQm w wr nn v (rowsB js T k ++ rowB js T k s)))
      case atStart => exact ⟨0, _, by go_num, by omega, by omega, HM6⟩
      case round =>
        clear HM6
        obtain ⟨s, v, rfl, hs, hg2, HM⟩ := hrel
        have hk12 : k * (T + 1) ≤ 12 * 25 := Nat.mul_le_mul (by omega) (by omega)
        by_cases hst : s < T
        · have hstz : (s : Int) < (T : Int) := by omega
          have g0 := (HM.out.bel.cell (p := ⟨b, off + k * 5, none⟩) hbl0).trans Hg.out.1
          have g1 := (HM.out.bel.cell (p := ⟨b, off + k * 5 + 1, none⟩) hbl0).trans Hg.out.2.1
          have g3 := (HM.out.bel.cell (p := ⟨b, off + k * 5 + 3, none⟩) hbl0).trans Hg.out.2.2
          have cg : wr.cell? ⟨w.heap.size + 1, 1, none⟩ = some v := by have := HM.out.og.cell (i := 1) (by omega); simpa [gcell] using this
          obtain ⟨ra, hra⟩ : ∃ ra, ra = rateAt j s := ⟨_, rfl⟩
          obtain ⟨ap, a5, l5, c5, w1, av, aw, e1, e2, Hfar, HM5⟩ := HM.out.push0 (1 + (T : Int) + (k : Int)) (1 + (s : Int)) ra (by rw [List.length_append, rowsB_len, rowB_len]; omega)
          have HM6 : Hid (GQm w (w1.setCell ⟨w.heap.size + 1, 1, none⟩ (.slice a5 l5 c5)) nn (.slice a5 l5 c5) (rowsB js T k ++ rowB js T k (s + 1))) := Lib.hid (by
            rw [rowB_succ, ← List.append_assoc]
            have : edB js T k s = ⟨1 + (T : Int) + (k : Int), 1 + (s : Int), ra⟩ := by unfold edB; rw [Hjj.out, hra]
            rw [this]
            exact HM5.out)
          clear HM HM5 Hfar
          by_cases hin : inJ j s
          · have hr : ra = j.rate := by rw [hra]; unfold rateAt; exact pick_pos hin _
            have h1 : j.frm ≤ (s : Int) := hin.1
            have h2 : (s : Int) < j.till := hin.2
            clear hin hra
            subst hr
            go_wp2
            go_roundg (T - (s + 1))
            case measure => omega
            case rel => exact ⟨s + 1, _, by go_num, by omega, by omega, HM6⟩
          · have hr : ra = 0 := by rw [hra]; unfold rateAt; exact pick_neg hin _
            clear hra
            subst hr
            by_cases h1 : j.frm ≤ (s : Int)
            · have h2 : ¬ (s : Int) < j.till := fun h => hin ⟨h1, h⟩
              clear hin
              go_wp2
              go_roundg (T - (s + 1))
              case measure => omega
              case rel => exact ⟨s + 1, _, by go_num, by omega, by omega, HM6⟩
            · clear hin
              go_wp2
              go_roundg (T - (s + 1))
              case measure => omega
              case rel => exact ⟨s + 1, _, by go_num, by omega, by omega, HM6⟩
        · have hstz : ¬ (s : Int) < (T : Int) := by omega
          have hsT : T = s := by omega
          have HM7 : Hid (GQm w wr nn v (rowsB js T (k + 1))) := Lib.hid (by rw [rowsB_succ]; have := HM.out; rwa [← hsT] at this)
          clear HM hsT
          go_wp2
          go_roundg (N - (k + 1))
          case measure => omega
          case rel => exact ⟨k + 1, v, by go_num, by omega, by omega, HM7⟩
    · have hltz : ¬ (k : Int) < (N : Int) := by omega
      have hkN : N = k := by omega
      subst hkN
      clear hlt hltz hk hg1 HJ
      go_wp2
      go_loopg [10] T (fun g1 v10 wr => ∃ (k : Nat) (v : Value), v10 = .int .i64 k ∧ k ≤ T ∧ T - k ≤ g1 ∧ Hid (GQm w wr nn v (rowsB js T N ++ mk k (edC N T sup))))
      case atStart => exact ⟨0, _, by go_num, by omega, by omega, Lib.hid (by have := HM.out; simpa [mk] using this)⟩
      case round =>
        clear HM
        obtain ⟨k, v, rfl, hk, hg1, HM⟩ := hrel
        by_cases hlt : k < T
        · have hltz : (k : Int) < (T : Int) := by omega
          obtain ⟨b, off, hA, hbl0, hc0⟩ := HRS.out.2.int (k := k) (by rw [HN2.out]; exact hlt)
          subst hA
          have hc1 : w.cell? ⟨b, off + k, none⟩ = some (.int .i64 (fAt sup k)) := hc0
          have hck := (HM.out.bel.cell (p := ⟨b, off + k, none⟩) hbl0).trans hc1
          have cg : wr.cell? ⟨w.heap.size + 1, 1, none⟩ = some v := by have := HM.out.og.cell (i := 1) (by omega); simpa [gcell] using this
          have hk12 : N * (T + 1) ≤ 12 * 25 := Nat.mul_le_mul (by omega) (by omega)
          obtain ⟨sk, hsk⟩ : ∃ sk, sk = fAt sup k := ⟨_, rfl⟩
          rw [← hsk] at hck
          obtain ⟨ap, a5, l5, c5, w1, av, aw, e1, e2, Hfar, HM5⟩ := HM.out.push (1 + (k : Int)) ((T : Int) + (N : Int) + 1) sk (by rw [List.length_append, rowsB_len, mk_len]; omega)
          have hnb : (⟨b, off + k, none⟩ : Addr).block < w.heap.size := hbl0
          have lg := World.block_lt_of_cell? wr _ cg
          have lb := World.block_lt_of_cell? wr _ hck
          dsimp only at lg lb hnb
          have HM6 : Hid (GQm w (w1.setCell ⟨w.heap.size + 1, 1, none⟩ (.slice a5 l5 c5)) nn (.slice a5 l5 c5) (rowsB js T N ++ mk (k + 1) (edC N T sup))) := Lib.hid (by
            rw [mk_succ, ← List.append_assoc]
            have : edC N T sup k = ⟨1 + (k : Int), (T : Int) + (N : Int) + 1, sk⟩ := by unfold edC; rw [hsk]
            rw [this]
            exact HM5.out)
          clear HM HM5 hsk hc0 hc1
          go_upto_region 17 with (fail)
          refine wp_normal (fun K0 hK0 => ?_)
          refine region_z (S := fun w' => w'.cell? ⟨w.heap.size + 1, 1, none⟩ = some v ∧ w'.cell? ⟨b, off + k, none⟩ = some (.int .i64 sk)) [17] (by kernel_rfl) ⟨cg, hck⟩ (fun hHeld => ?_)
          refine wpAnyZ_take (i := 0) (v := .pointer (some ⟨w.heap.size + 1, 1, none⟩)) [17] rfl (by kernel_rfl) (by kernel_rfl) (by kernel_rfl) (by kernel_rfl) (fun _ _ _ h => h) (Or.inl ⟨by rfl, fun w' hSw => ?_⟩) hHeld ?_
          · obtain ⟨s0, s1⟩ := hSw
            go_simp
          simp only [Act.put, List.setIfInBounds_toArray, List.set_cons_zero, List.set_cons_succ]
          refine wpAnyZ_take (i := 1) (v := v) [17] rfl (by kernel_rfl) (by kernel_rfl) (by kernel_rfl) (by kernel_rfl) (fun _ _ _ h => h) (Or.inl ⟨by rfl, fun w' hSw => ?_⟩) hHeld ?_
          · obtain ⟨s0, s1⟩ := hSw
            go_simp
          simp only [Act.put, List.setIfInBounds_toArray, List.set_cons_zero, List.set_cons_succ]
          refine wpAnyZ_take (i := 2) (v := .int .i64 k) [17] rfl (by kernel_rfl) (by kernel_rfl) (by kernel_rfl) (by kernel_rfl) (fun _ _ _ h => h) (Or.inl ⟨by rfl, fun w' hSw => ?_⟩) hHeld ?_
          · obtain ⟨s0, s1⟩ := hSw
            go_simp
          simp only [Act.put, List.setIfInBounds_toArray, List.set_cons_zero, List.set_cons_succ]
          refine wpAnyZ_take (i := 3) (v := .int .i64 (1 + (k : Int))) [17] rfl (by kernel_rfl) (by kernel_rfl) (by kernel_rfl) (by kernel_rfl) (fun _ _ _ h => h) (Or.inl ⟨by rfl, fun w' hSw => ?_⟩) hHeld ?_
          · obtain ⟨s0, s1⟩ := hSw
            go_simp
            exact wrap_fit (by omega) (by omega)
          simp only [Act.put, List.setIfInBounds_toArray, List.set_cons_zero, List.set_cons_succ]
          refine wpAnyZ_take (i := 4) (v := .int .i64 T) [17] rfl (by kernel_rfl) (by kernel_rfl) (by kernel_rfl) (by kernel_rfl) (fun _ _ _ h => h) (Or.inl ⟨by rfl, fun w' hSw => ?_⟩) hHeld ?_
          · obtain ⟨s0, s1⟩ := hSw
            go_simp
          simp only [Act.put, List.setIfInBounds_toArray, List.set_cons_zero, List.set_cons_succ]
          refine wpAnyZ_take (i := 5) (v := .slice A N c) [17] rfl (by kernel_rfl) (by kernel_rfl) (by kernel_rfl) (by kernel_rfl) (fun _ _ _ h => h) (Or.inl ⟨by rfl, fun w' hSw => ?_⟩) hHeld ?_
          · obtain ⟨s0, s1⟩ := hSw
            go_simp
          simp only [Act.put, List.setIfInBounds_toArray, List.set_cons_zero, List.set_cons_succ]
          refine wpAnyZ_take (i := 6) (v := .int .i64 N) [17] rfl (by kernel_rfl) (by kernel_rfl) (by kernel_rfl) (by kernel_rfl) (fun _ _ _ h => h) (Or.inl ⟨by rfl, fun w' hSw => ?_⟩) hHeld ?_
          · obtain ⟨s0, s1⟩ := hSw
            go_simp
          simp only [Act.put, List.setIfInBounds_toArray, List.set_cons_zero, List.set_cons_succ]
          refine wpAnyZ_take (i := 7) (v := .int .i64 ((T : Int) + (N : Int))) [17] rfl (by kernel_rfl) (by kernel_rfl) (by kernel_rfl) (by kernel_rfl) (fun _ _ _ h => h) (Or.inl ⟨by rfl, fun w' hSw => ?_⟩) hHeld ?_
          · obtain ⟨s0, s1⟩ := hSw
            go_simp
            exact wrap_fit (by omega) (by omega)
          simp only [Act.put, List.setIfInBounds_toArray, List.set_cons_zero, List.set_cons_succ]
          refine wpAnyZ_take (i := 8) (v := .int .i64 ((T : Int) + (N : Int) + 1)) [17] rfl (by kernel_rfl) (by kernel_rfl) (by kernel_rfl) (by kernel_rfl) (fun _ _ _ h => h) (Or.inl ⟨by rfl, fun w' hSw => ?_⟩) hHeld ?_
          · obtain ⟨s0, s1⟩ := hSw
            go_simp
            exact wrap_fit (by omega) (by omega)
          simp only [Act.put, List.setIfInBounds_toArray, List.set_cons_zero, List.set_cons_succ]
          refine wpAnyZ_take (i := 9) (v := .slice (some ⟨b, off, none⟩) T c2) [17] rfl (by kernel_rfl) (by kernel_rfl) (by kernel_rfl) (by kernel_rfl) (fun _ _ _ h => h) (Or.inl ⟨by rfl, fun w' hSw => ?_⟩) hHeld ?_
          · obtain ⟨s0, s1⟩ := hSw
            go_simp
          simp only [Act.put, List.setIfInBounds_toArray, List.set_cons_zero, List.set_cons_succ]
          refine wpAnyZ_take (i := 10) (v := .int .i64 k) [17] rfl (by kernel_rfl) (by kernel_rfl) (by kernel_rfl) (by kernel_rfl) (fun _ _ _ h => h) (Or.inl ⟨by rfl, fun w' hSw => ?_⟩) hHeld ?_
          · obtain ⟨s0, s1⟩ := hSw
            go_simp
          simp only [Act.put, List.setIfInBounds_toArray, List.set_cons_zero, List.set_cons_succ]
          refine wpAnyZ_take (i := 11) (v := .pointer (some ⟨b, off + k, none⟩)) [17] rfl (by kernel_rfl) (by kernel_rfl) (by kernel_rfl) (by kernel_rfl) (fun _ _ _ h => h) (Or.inl ⟨by rfl, fun w' hSw => ?_⟩) hHeld ?_
          · obtain ⟨s0, s1⟩ := hSw
            go_simp
          simp only [Act.put, List.setIfInBounds_toArray, List.set_cons_zero, List.set_cons_succ]
          refine wpAnyZ_take (i := 12) (v := .int .i64 sk) [17] rfl (by kernel_rfl) (by kernel_rfl) (by kernel_rfl) (by kernel_rfl) (fun _ _ _ h => h) (Or.inl ⟨by rfl, fun w' hSw => ?_⟩) hHeld ?_
          · obtain ⟨s0, s1⟩ := hSw
            go_simp
          simp only [Act.put, List.setIfInBounds_toArray, List.set_cons_zero, List.set_cons_succ]
          refine wpAnyZ_one (i := 13) (by kernel_rfl) rfl (fun K hK => ?_)
          go_simp
          refine hK.out _ _ ?_ (fun hHeld => ?_)
          · exact hHeld
          clear hK K
          try simp only [Act.put, List.setIfInBounds_toArray, List.set_cons_zero, List.set_cons_succ]
          refine wpAnyZ_one (i := 14) (by kernel_rfl) rfl (fun K hK => ?_)
          go_simp
          refine hK.out _ _ ?_ (fun hHeld => ?_)
          · refine ⟨?_, ?_⟩ <;> go_simp
          clear hK K
          try simp only [Act.put, List.setIfInBounds_toArray, List.set_cons_zero, List.set_cons_succ]
          refine wpAnyZ_one (i := 15) (by kernel_rfl) rfl (fun K hK => ?_)
          rw [if_pos (by rfl)]
          refine append_go rfl rfl ap av aw ?_
          refine hK.out _ _ ?_ (fun hHeld => ?_)
          · exact ⟨e1, Hfar.out _ _ hck hnb⟩
          clear hK K
          try simp only [Act.put, List.setIfInBounds_toArray, List.set_cons_zero, List.set_cons_succ]
          refine wpAnyZ_take (i := 16) (v := .pointer (some ⟨w.heap.size + 1, 1, none⟩)) [17] rfl (by kernel_rfl) (by kernel_rfl) (by kernel_rfl) (by kernel_rfl) (fun _ _ _ h => h) (Or.inl ⟨by rfl, fun w' hSw => ?_⟩) hHeld ?_
          · obtain ⟨s0, s1⟩ := hSw
            go_simp
          simp only [Act.put, List.setIfInBounds_toArray, List.set_cons_zero, List.set_cons_succ]
          refine wpAnyZ_last (i := 17) (by kernel_rfl) rfl (by kernel_rfl) (fun K hK => ?_)
          go_simp
          refine hK.out _ _ ?_
          clear hK K
          try simp only [Act.put, List.setIfInBounds_toArray, List.set_cons_zero, List.set_cons_succ]
          refine wpAnyZ_done (by kernel_rfl) ?_ _
          clear hHeld
          refine hK0 _ _ ?_
          clear hK0 K0 ap av aw e1 e2 Hfar cg hck
          generalize w1.setCell ⟨w.heap.size + 1, 1, none⟩ (.slice a5 l5 c5) = W6 at *
          go_step
          go_wp2
          go_roundg (T - (k + 1))
          case measure => omega
          case rel => exact ⟨k + 1, _, by go_num, by omega, by omega, HM6⟩
        · have hltz : ¬ (k : Int) < (T : Int) := by omega
          have hkT : T = k := by omega
          subst hkT
          have hgq : rowsB js T N ++ mk T (edC N T sup) = graphQ js sup := by unfold graphQ; rw [HN.out, HN2.out]
          rw [hgq] at HM
          obtain ⟨aE, cE, hvE, rdE⟩ := HM.out.oe.rd encE_len
          subst hvE
          have gc0 : wr.cell? ⟨w.heap.size + 1, 0, none⟩ = some (.int .i64 nn) := HM.out.og.cell (i := 0) (by omega)
          have gc1 : wr.cell? ⟨w.heap.size + 1, 1, none⟩ = some (.slice aE (graphQ js sup).length cE) := HM.out.og.cell (i := 1) (by omega)
          have rc0 := HM.out.o4.cell (i := 0) (by omega)
          have rc1 := HM.out.o4.cell (i := 1) (by omega)
          have rf0 := HM.out.o4.frozen 0
          have rf1 := HM.out.o4.frozen 1
          have hM : Mod (fun q => q = w.heap.size) wr ((wr.setCell ⟨w.heap.size, 0, none⟩ (.int .i64 nn)).setCell ⟨w.heap.size, 1, none⟩ (.slice aE (graphQ js sup).length cE)) :=
            ((Mod.refl (fun q => q = w.heap.size) wr).setCell (p := ⟨w.heap.size, 0, none⟩) (.inl rfl) _).setCell (p := ⟨w.heap.size, 1, none⟩) (.inl rfl) _
          have hown : ∀ q, (Value.slice aE (graphQ js sup).length cE).ownBlock = some q → ¬ q = w.heap.size := fun q hq e => by have := (World.ownsRow.lt HM.out.oe q hq).1; omega
          have HE := Lib.hid (HM.out.oe.mod hM hown)
          have HB := Lib.hid (HM.out.bel.trans (hM.below HM.out.bel.size (fun q _ hq => by omega)))
          have HO4 := Lib.hid ((HM.out.o4.set 0 (.int .i64 nn)).set 1 (.slice aE (graphQ js sup).length cE))
          clear hM hown HM rdE hgq
          go_wp2
          refine bodyPost_ret (results_c (by rfl) rfl (load_gr HO4.out)) rfl ?_
          obtain ⟨a, d, e, r⟩ := HE.out.rd encE_len
          injection e with x1 x2 x3
          subst x1
          refine ⟨aE, ⟨cE, ?_⟩, r, HB.out⟩
          have hz : (nn : Int) = (T : Int) + (N : Int) + 2 := by have := Hnn.out; omega
          rw [← hz]
          rfl
end Go.Proofs.Ytgfcnkfmgpakkaa
