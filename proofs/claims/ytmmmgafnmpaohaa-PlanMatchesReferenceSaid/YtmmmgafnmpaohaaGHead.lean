/-
Several texts in one: PlanZ, PlanHd, PlanZh.
-/
import Derived.Test.YtmmmgafnmpaohaaCPlanX
import Derived.Test.YtmmmgafnmpaohaaCPlanD
import Derived.Test.YtmmmgafnmpaohaaCPlanR
import Derived.Test.YtmmmgafnmpaohaaGMath
import Derived.Handy
import Derived.Test.YtmmmgafnmpaohaaCPlanY
/-
law27: job, met.
-/
namespace Go.Proofs.Ytmmmgafnmpaohaa
open Go.RowKit Go.Shelf
set_option linter.unusedVariables false
theorem lpJob_any (a b c d : Int) (w : World) : Calls Try.prog 35 #[.int .i64 a, .int .i64 b, .int .i64 c, .int .i64 d] w fun e w' => e = .returned (.agg #[.int .i64 a, .int .i64 b, .int .i64 c, .int .i64 d, .int .i64 1]) ∧ Below w.heap.size w w' := by
  go_enter Try.func35, Try.ntmps35
  go_wp2_with fail
  go_returns
  refine ⟨rfl, ?_⟩
  repeat (first | exact Below.refl _ _ | refine Below.alloc ?_ (by simp) _)
/-- What Schedule's answer says of jobs. -/
def MetPost (js : List GJob) (sup : List Int) (m : Bool) : Prop := (m = true ↔ Met js sup) ∧ (m = false → ∃ cj cs : Nat → Bool, roomC js sup cj cs < needC js cj)
theorem planB_met {js : List GJob} {sup : List Int} {ps : List (List Int)} (h : planB js sup ps = true) : Met js sup := ⟨_, (planB_iff.1 h).2.2.2⟩
theorem cutPB_cut {js : List GJob} {sup cj cs : List Int} (h : cutPB js sup cj cs = true) : okP js sup = true ∧ roomC js sup (inL cj) (inL cs) < needC js (inL cj) := by
  unfold cutPB at h
  simp only [Bool.and_eq_true, decide_eq_true_eq] at h
  exact ⟨h.1, h.2.2⟩
theorem cutPB_not {js : List GJob} {sup cj cs : List Int} (h : cutPB js sup cj cs = true) : ¬ Met js sup := fun ⟨P, hP⟩ => by
  obtain ⟨h1, h2⟩ := cutPB_cut h
  have := not_both h1 hP (inL cj) (inL cs)
  omega
theorem metPost_plan {js : List GJob} {sup : List Int} {ps : List (List Int)} (h : planB js sup ps = true) : MetPost js sup true := ⟨⟨fun _ => planB_met h, fun _ => rfl⟩, fun h => (by cases h)⟩
theorem metPost_cut {js : List GJob} {sup cj cs : List Int} (h : cutPB js sup cj cs = true) : MetPost js sup false := ⟨⟨fun h => (by cases h), fun m => absurd m (cutPB_not h)⟩, fun _ => ⟨_, _, (cutPB_cut h).2⟩⟩
set_option maxRecDepth 100000 in
set_option maxHeartbeats 2000000 in
theorem lpMet_any (A A2 : Option Addr) (c N c2 T : Nat) (js : List GJob) (sup : List Int) (w : World) (hR : Rd 5 encJ w A js) (HN : Hid (js.length = N)) (hl : N ≤ 9223372036854775807) (hR2 : Rd 1 encI w A2 sup) (HN2 : Hid (sup.length = T)) (hl2 : T ≤ 9223372036854775807) :
    Calls Try.prog 34 #[.slice A N c, .slice A2 T c2] w fun e w' => ∃ m, e = .returned (.tuple #[.bool m, .bool (okP js sup)]) ∧ (okP js sup = true → MetPost js sup m) ∧ (okP js sup = false → m = false) ∧ Below w.heap.size w w' := by
  go_enter Try.func34, Try.ntmps34
  go_wp2_with fail
  refine (plSchedule_any A A2 c N c2 T js sup w hR HN hl hR2 HN2 hl2).mono ?_
  rintro e w1 ⟨b1, ⟨hok, rfl⟩ | ⟨gt, rs, ps, rfl, rp, hlp, hpl⟩ | ⟨a3, c3, a4, c4, cj, cs, rfl, r3, r4, hc1, hc2, hcut⟩⟩
  · go_wp2_with fail
    go_ret2
    exact ⟨false, by rw [hok]; rfl, fun h => (by rw [hok] at h; cases h), fun _ => rfl, b1.alloc b1.size _⟩
  · have hok := (planB_iff.1 hpl).1
    have ba : Below w.heap.size w (w1.alloc (.cells #[.slice none 0 0, .slice none 0 0] 26)) := b1.alloc b1.size _
    have bb : Below w1.heap.size w1 (w1.alloc (.cells #[.slice none 0 0, .slice none 0 0] 26)) := (Below.refl _ _).alloc (Nat.le_refl _) _
    go_wp2_with fail
    refine (plCheckPlan_any A A2 (some ⟨gt, 0, none⟩) c N c2 T N N js sup rs ps _ (hR.keep ba) HN hl (hR2.keep ba) HN2 hl2 (rp.keep bb) (Lib.hid hlp) hl).mono ?_
    rintro e w2 ⟨rfl, b2⟩
    rw [hpl]
    go_wp2_with fail
    go_ret2
    exact ⟨true, by rw [hok]; rfl, fun _ => metPost_plan hpl, fun h => (by rw [hok] at h; cases h), below_then ba b2⟩
  · have hok := (cutPB_cut hcut).1
    have ba : Below w.heap.size w (w1.alloc (.cells #[.slice a3 cj.length c3, .slice a4 cs.length c4] 26)) := b1.alloc b1.size _
    have bb : Below w1.heap.size w1 (w1.alloc (.cells #[.slice a3 cj.length c3, .slice a4 cs.length c4] 26)) := (Below.refl _ _).alloc (Nat.le_refl _) _
    go_wp2_with fail
    refine (plCheckCut_any A A2 a3 a4 c N c2 T c3 cj.length c4 cs.length js sup cj cs _ (hR.keep ba) HN hl (hR2.keep ba) HN2 hl2 (r3.keep bb) (Lib.hid rfl) (by omega) (r4.keep bb) (Lib.hid rfl) (by omega)).mono ?_
    rintro e w2 ⟨rfl, b2⟩
    rw [hcut]
    go_wp2_with fail
    go_ret2
    exact ⟨false, by rw [hok]; rfl, fun _ => metPost_cut hcut, fun h => absurd (hok.symm.trans h) (by simp), below_then ba b2⟩
end Go.Proofs.Ytmmmgafnmpaohaa
/-
Plain facts for the first check of the laws of plan: its examples.
-/
namespace Go.Proofs.Ytmmmgafnmpaohaa
set_option linter.unusedVariables false
def jA : GJob := ⟨0, 2, 5, 3, 1⟩
def jB : GJob := ⟨0, 1, 2, 2, 1⟩
def jC : GJob := ⟨0, 2, 7, 3, 1⟩
def jD : GJob := ⟨0, 3, 1, 1, 1⟩
def jE : GJob := ⟨0, 2, 6, 3, 1⟩
theorem hd_okA : okP [jA] [3, 3] = true := by decide
theorem hd_okB : okP [jA, jB] [3, 3] = true := by decide
theorem hd_okC : okP [jC] [9, 9] = true := by decide
theorem hd_okD : okP [jD] [1, 1] = false := by decide
theorem hd_okE : okP [jE] [9, 9] = true := by decide
theorem hd_A : Met [jA] [3, 3] := (met_one hd_okA).2 (by decide)
theorem hd_C : ¬ Met [jC] [9, 9] := fun h => absurd ((met_one hd_okC).1 h) (by decide)
theorem hd_B : ¬ Met [jA, jB] [3, 3] := fun ⟨P, h⟩ => absurd (not_both hd_okB h (fun _ => true) (fun _ => true)) (by decide)
theorem hd_plan : planB [jA] [3, 3] [[2, 3]] = true := by
  refine planB_yes hd_okA rfl (fun i hi => ?_) (fun t ht => ?_)
  · have : i = 0 := by simpa using hi
    subst this
    refine ⟨rfl, fun t ht => ?_, by decide⟩
    have : t = 0 ∨ t = 1 := by have h : t < 2 := ht; omega
    rcases this with rfl | rfl <;> (refine ⟨by decide, by decide, fun _ => by decide⟩)
  · have : t = 0 ∨ t = 1 := by have h : t < 2 := ht; omega
    rcases this with rfl | rfl <;> decide
theorem hd_plan2 : planB [jA] [3, 3] [[1, 4]] = false :=
  planB_row (i := 0) (by decide) (fun h => by
    have := (h.2.1 1 (by decide)).2.1
    exact absurd this (by decide))
theorem hd_marks : goodTo [0] (([jC].length : Nat) : Int) ([0] : List Int).length := by
  intro i hi
  have : i = 0 := by have h : i < 1 := hi; omega
  subst this
  exact ⟨by decide, by decide⟩
theorem hd_cut : cutPB [jC] [9, 9] [0] [] = true := by
  unfold cutPB
  rw [hd_okC, marksB_iff.2 hd_marks, marksB_iff.2 (fun i hi => absurd hi (Nat.not_lt_zero _))]
  decide
theorem hd_cut2 : cutPB [jE] [9, 9] [0] [] = false := by
  unfold cutPB
  have : decide (roomC [jE] [9, 9] (inL [0]) (inL []) < needC [jE] (inL [0])) = false := by decide
  rw [this]
  simp
theorem hd_nil : okP [] [] = true := by decide
end Go.Proofs.Ytmmmgafnmpaohaa
/-
law27.head, walked.
-/
namespace Go.Proofs.Ytmmmgafnmpaohaa
open Go.RowKit Go.Shelf
set_option linter.unusedVariables false
theorem encJ_len (j : GJob) : (encJ j).length = 5 := rfl
theorem rd_litJ (w : World) (js : List GJob) : Rd 5 encJ (w.alloc (.cells (js.flatMap encJ).toArray 36)) (some ⟨w.heap.size, 0, none⟩) js :=
  (Own.new w 36 (js.flatMap encJ).toArray undef).rd (by rw [List.size_toArray, flatR_len encJ_len]; exact Nat.le_refl _) (fun _ => rfl) (fun k x hx j v hv => by
    show (js.flatMap encJ).toArray[k * 5 + j]?.getD undef = v
    rw [List.getElem?_toArray, flatR_at encJ_len js k j x v hx hv]; rfl)
theorem rd_litI (w : World) (xs : List Int) : Rd 1 encI (w.alloc (.cells (xs.map (Value.int .i64)).toArray 3)) (some ⟨w.heap.size, 0, none⟩) xs :=
  (Own.new w 3 (xs.map (Value.int .i64)).toArray undef).rd (by simp) (fun _ => rfl) (fun k x hx j v hv => by
    have hj : j = 0 := by have := (List.getElem?_eq_some_iff.1 hv).1; simp [encI] at this; exact this
    subst hj
    simp only [encI, List.getElem?_cons_zero, Option.some.injEq] at hv
    show (xs.map (Value.int .i64)).toArray[k * 1 + 0]?.getD undef = v
    rw [List.getElem?_toArray, Nat.mul_one, Nat.add_zero, List.getElem?_map, hx, ← hv]; rfl)
theorem rdP_lit (w : World) (xs : List Int) (n : Nat) (hn : xs.length = n) (hb : n ≤ 1000) : RdP ((w.alloc (.cells (xs.map (Value.int .i64)).toArray 3)).alloc (.cells #[.slice (some ⟨w.heap.size, 0, none⟩) n n] 23)) (some ⟨w.heap.size + 1, 0, none⟩) [⟨some ⟨w.heap.size, 0, none⟩, n, n⟩] [xs] := by
  have ba : Below (w.alloc (.cells (xs.map (Value.int .i64)).toArray 3)).heap.size (w.alloc (.cells (xs.map (Value.int .i64)).toArray 3)) ((w.alloc (.cells (xs.map (Value.int .i64)).toArray 3)).alloc (.cells #[.slice (some ⟨w.heap.size, 0, none⟩) n n] 23)) := (Below.refl _ _).alloc (Nat.le_refl _) _
  have o : Own ((w.alloc (.cells (xs.map (Value.int .i64)).toArray 3)).alloc (.cells #[.slice (some ⟨w.heap.size, 0, none⟩) n n] 23)) (w.heap.size + 1) 23 1 (fun _ => .slice (some ⟨w.heap.size, 0, none⟩) n n) := Own.newAt _ _ _ _ (by simp) (n := 1) rfl (one_cellI _)
  refine ⟨o.rd (Nat.le_refl _) (fun _ => rfl) (fun k x hx j v hv => ?_), rfl, fun k r p hr hp => ?_⟩
  · have hk : k = 0 := by have := (List.getElem?_eq_some_iff.1 hx).1; simp at this; exact this
    subst hk
    simp at hx
    subst hx
    have hj : j = 0 := by have := (List.getElem?_eq_some_iff.1 hv).1; simp [encRow] at this; exact this
    subst hj
    simp only [encRow, List.getElem?_cons_zero, Option.some.injEq] at hv
    exact hv
  · have hk : k = 0 := by have := (List.getElem?_eq_some_iff.1 hr).1; simp at this; exact this
    subst hk
    simp at hr hp
    subst hr hp
    exact ⟨hn, by dsimp only; omega, (rd_litI w xs).keep ba⟩
set_option maxRecDepth 100000 in
set_option maxHeartbeats 4000000 in
theorem lpHead_any (w : World) : Calls Try.prog 12 #[] w fun e w' => e = .returned (.bool true) ∧ Below w.heap.size w w' := by
  go_enter Try.func12, Try.ntmps12
  have h0 : Below w.heap.size w w := Below.refl _ _
  go_wp2_with fail
  refine (lpJob_any 0 2 5 3 _).mono ?_
  rintro e w1 ⟨rfl, b1⟩
  have h1 : Below w.heap.size w w1 := below_then h0 b1
  clear b1
  have a1 : Below w1.heap.size w1 (w1.alloc (.cells (([jA] : List GJob).flatMap encJ).toArray 36)) := (Below.refl _ _).alloc (Nat.le_refl _) _
  have a1' : Below w1.heap.size w1 ((w1.alloc (.cells (([jA] : List GJob).flatMap encJ).toArray 36)).alloc (.cells (([3, 3] : List Int).map (Value.int .i64)).toArray 3)) := a1.alloc (by simp) _
  have rj := (rd_litJ w1 [jA]).keep (w' := (w1.alloc (.cells (([jA] : List GJob).flatMap encJ).toArray 36)).alloc (.cells (([3, 3] : List Int).map (Value.int .i64)).toArray 3)) ((Below.refl _ _).alloc (Nat.le_refl _) _)
  have rs := rd_litI (w1.alloc (.cells (([jA] : List GJob).flatMap encJ).toArray 36)) [3, 3]
  rw [World.size_alloc] at rs
  go_wp2_with fail
  refine (lpMet_any _ _ 1 1 2 2 [jA] [3, 3] _ rj (Lib.hid rfl) (by omega) rs (Lib.hid rfl) (by omega)).mono ?_
  rintro e w2 ⟨m, rfl, hm, _, b2⟩
  have h2 : Below w.heap.size w w2 := below_then h1 (below_then a1' b2)
  have hmm : m = true := (hm hd_okA).1.2 hd_A
  subst hmm
  rw [hd_okA]
  clear hm
  clear b2 rj rs a1 a1'
  go_wp2_with fail
  refine (lpJob_any 0 2 5 3 _).mono ?_
  rintro e w3 ⟨rfl, b3⟩
  have h3 : Below w.heap.size w w3 := below_then h2 b3
  clear b3
  go_wp2_with fail
  refine (lpJob_any 0 1 2 2 _).mono ?_
  rintro e w4 ⟨rfl, b4⟩
  have h4 : Below w.heap.size w w4 := below_then h3 b4
  clear b4
  have a4 : Below w4.heap.size w4 (w4.alloc (.cells (([jA, jB] : List GJob).flatMap encJ).toArray 36)) := (Below.refl _ _).alloc (Nat.le_refl _) _
  have a4' : Below w4.heap.size w4 ((w4.alloc (.cells (([jA, jB] : List GJob).flatMap encJ).toArray 36)).alloc (.cells (([3, 3] : List Int).map (Value.int .i64)).toArray 3)) := a4.alloc (by simp) _
  have rj := (rd_litJ w4 [jA, jB]).keep (w' := (w4.alloc (.cells (([jA, jB] : List GJob).flatMap encJ).toArray 36)).alloc (.cells (([3, 3] : List Int).map (Value.int .i64)).toArray 3)) ((Below.refl _ _).alloc (Nat.le_refl _) _)
  have rs := rd_litI (w4.alloc (.cells (([jA, jB] : List GJob).flatMap encJ).toArray 36)) [3, 3]
  rw [World.size_alloc] at rs
  go_wp2_with fail
  refine (lpMet_any _ _ 2 2 2 2 [jA, jB] [3, 3] _ rj (Lib.hid rfl) (by omega) rs (Lib.hid rfl) (by omega)).mono ?_
  rintro e w5 ⟨m, rfl, hm, _, b5⟩
  have h5 : Below w.heap.size w w5 := below_then h4 (below_then a4' b5)
  have hmm : m = false := by
    cases hx : m
    · rfl
    · exact absurd ((hm hd_okB).1.1 hx) hd_B
  subst hmm
  rw [hd_okB]
  clear hm
  clear b5 rj rs a4 a4'
  go_wp2_with fail
  refine (lpJob_any 0 2 7 3 _).mono ?_
  rintro e w6 ⟨rfl, b6⟩
  have h6 : Below w.heap.size w w6 := below_then h5 b6
  clear b6
  have a6 : Below w6.heap.size w6 (w6.alloc (.cells (([jC] : List GJob).flatMap encJ).toArray 36)) := (Below.refl _ _).alloc (Nat.le_refl _) _
  have a6' : Below w6.heap.size w6 ((w6.alloc (.cells (([jC] : List GJob).flatMap encJ).toArray 36)).alloc (.cells (([9, 9] : List Int).map (Value.int .i64)).toArray 3)) := a6.alloc (by simp) _
  have rj := (rd_litJ w6 [jC]).keep (w' := (w6.alloc (.cells (([jC] : List GJob).flatMap encJ).toArray 36)).alloc (.cells (([9, 9] : List Int).map (Value.int .i64)).toArray 3)) ((Below.refl _ _).alloc (Nat.le_refl _) _)
  have rs := rd_litI (w6.alloc (.cells (([jC] : List GJob).flatMap encJ).toArray 36)) [9, 9]
  rw [World.size_alloc] at rs
  go_wp2_with fail
  refine (lpMet_any _ _ 1 1 2 2 [jC] [9, 9] _ rj (Lib.hid rfl) (by omega) rs (Lib.hid rfl) (by omega)).mono ?_
  rintro e w7 ⟨m, rfl, hm, _, b7⟩
  have h7 : Below w.heap.size w w7 := below_then h6 (below_then a6' b7)
  have hmm : m = false := by
    cases hx : m
    · rfl
    · exact absurd ((hm hd_okC).1.1 hx) hd_C
  subst hmm
  rw [hd_okC]
  clear hm
  clear b7 rj rs a6 a6'
  go_wp2_with fail
  refine (lpJob_any 0 3 1 1 _).mono ?_
  rintro e w8 ⟨rfl, b8⟩
  have h8 : Below w.heap.size w w8 := below_then h7 b8
  clear b8
  have a8 : Below w8.heap.size w8 (w8.alloc (.cells (([jD] : List GJob).flatMap encJ).toArray 36)) := (Below.refl _ _).alloc (Nat.le_refl _) _
  have a8' : Below w8.heap.size w8 ((w8.alloc (.cells (([jD] : List GJob).flatMap encJ).toArray 36)).alloc (.cells (([1, 1] : List Int).map (Value.int .i64)).toArray 3)) := a8.alloc (by simp) _
  have rj := (rd_litJ w8 [jD]).keep (w' := (w8.alloc (.cells (([jD] : List GJob).flatMap encJ).toArray 36)).alloc (.cells (([1, 1] : List Int).map (Value.int .i64)).toArray 3)) ((Below.refl _ _).alloc (Nat.le_refl _) _)
  have rs := rd_litI (w8.alloc (.cells (([jD] : List GJob).flatMap encJ).toArray 36)) [1, 1]
  rw [World.size_alloc] at rs
  go_wp2_with fail
  refine (plSchedule_any _ _ 1 1 2 2 [jD] [1, 1] _ rj (Lib.hid rfl) (by omega) rs (Lib.hid rfl) (by omega)).mono ?_
  rintro e w9 ⟨b9, hp⟩
  have h9 : Below w.heap.size w w9 := below_then h8 (below_then a8' b9)
  obtain rfl : e = .returned (.tuple #[.slice none 0 0, .agg #[.slice none 0 0, .slice none 0 0], .int .i64 1]) := by
    rcases hp with ⟨_, h⟩ | ⟨gt, rs, ps, _, _, _, h⟩ | ⟨a3, c3, a4, c4, cj, cs, _, _, _, _, _, h⟩
    · exact h
    · exact absurd ((planB_iff.1 h).1.symm.trans hd_okD) (by simp)
    · exact absurd ((cutPB_cut h).1.symm.trans hd_okD) (by simp)
  clear hp
  have hx9 : Below w9.heap.size w9 (w9.alloc (.cells #[.slice none 0 0, .slice none 0 0] 26)) := (Below.refl _ _).alloc (Nat.le_refl _) _
  clear b9 rj rs a8 a8'
  have h9x := below_then h9 hx9
  generalize hWW : w9.alloc (.cells #[.slice none 0 0, .slice none 0 0] 26) = wx at h9x
  have HWW := Lib.hid hWW
  clear hWW h9 hx9
  go_wp2_with fail
  rw [HWW.out]
  refine (lpJob_any 0 2 5 3 _).mono ?_
  rintro e w10 ⟨rfl, b10⟩
  have h10 : Below w.heap.size w w10 := below_then h9x b10
  clear b10
  have a10 : Below w10.heap.size w10 (w10.alloc (.cells (([jA] : List GJob).flatMap encJ).toArray 36)) := (Below.refl _ _).alloc (Nat.le_refl _) _
  have a10' : Below w10.heap.size w10 ((w10.alloc (.cells (([jA] : List GJob).flatMap encJ).toArray 36)).alloc (.cells (([3, 3] : List Int).map (Value.int .i64)).toArray 3)) := a10.alloc (by simp) _
  have rj := (rd_litJ w10 [jA]).keep (w' := (w10.alloc (.cells (([jA] : List GJob).flatMap encJ).toArray 36)).alloc (.cells (([3, 3] : List Int).map (Value.int .i64)).toArray 3)) ((Below.refl _ _).alloc (Nat.le_refl _) _)
  have rs := rd_litI (w10.alloc (.cells (([jA] : List GJob).flatMap encJ).toArray 36)) [3, 3]
  rw [World.size_alloc] at rs
  have rp := rdP_lit ((w10.alloc (.cells (([jA] : List GJob).flatMap encJ).toArray 36)).alloc (.cells (([3, 3] : List Int).map (Value.int .i64)).toArray 3)) [2, 3] 2 rfl (by omega)
  rw [World.size_alloc, World.size_alloc] at rp
  have c10 : Below ((w10.alloc (.cells (([jA] : List GJob).flatMap encJ).toArray 36)).alloc (.cells (([3, 3] : List Int).map (Value.int .i64)).toArray 3)).heap.size ((w10.alloc (.cells (([jA] : List GJob).flatMap encJ).toArray 36)).alloc (.cells (([3, 3] : List Int).map (Value.int .i64)).toArray 3)) ((((w10.alloc (.cells (([jA] : List GJob).flatMap encJ).toArray 36)).alloc (.cells (([3, 3] : List Int).map (Value.int .i64)).toArray 3)).alloc (.cells (([2, 3] : List Int).map (Value.int .i64)).toArray 3)).alloc (.cells #[.slice (some ⟨w10.heap.size + 1 + 1, 0, none⟩) 2 2] 23)) := ((Below.refl _ _).alloc (Nat.le_refl _) _).alloc (by simp) _
  go_wp2_with fail
  refine (plCheckPlan_any _ _ _ 1 1 2 2 1 1 [jA] [3, 3] _ [[2, 3]] _ (rj.keep c10) (Lib.hid rfl) (by omega) (rs.keep c10) (Lib.hid rfl) (by omega) rp (Lib.hid rfl) (by omega)).mono ?_
  rintro e w11 ⟨rfl, b11⟩
  have h11 : Below w.heap.size w w11 := below_then h10 (below_then (below_then a10' c10) b11)
  rw [hd_plan]
  clear b11 rj rs a10 a10' rp c10
  go_wp2_with fail
  refine (lpJob_any 0 2 5 3 _).mono ?_
  rintro e w12 ⟨rfl, b12⟩
  have h12 : Below w.heap.size w w12 := below_then h11 b12
  clear b12
  have a12 : Below w12.heap.size w12 (w12.alloc (.cells (([jA] : List GJob).flatMap encJ).toArray 36)) := (Below.refl _ _).alloc (Nat.le_refl _) _
  have a12' : Below w12.heap.size w12 ((w12.alloc (.cells (([jA] : List GJob).flatMap encJ).toArray 36)).alloc (.cells (([3, 3] : List Int).map (Value.int .i64)).toArray 3)) := a12.alloc (by simp) _
  have rj := (rd_litJ w12 [jA]).keep (w' := (w12.alloc (.cells (([jA] : List GJob).flatMap encJ).toArray 36)).alloc (.cells (([3, 3] : List Int).map (Value.int .i64)).toArray 3)) ((Below.refl _ _).alloc (Nat.le_refl _) _)
  have rs := rd_litI (w12.alloc (.cells (([jA] : List GJob).flatMap encJ).toArray 36)) [3, 3]
  rw [World.size_alloc] at rs
  have rp := rdP_lit ((w12.alloc (.cells (([jA] : List GJob).flatMap encJ).toArray 36)).alloc (.cells (([3, 3] : List Int).map (Value.int .i64)).toArray 3)) [1, 4] 2 rfl (by omega)
  rw [World.size_alloc, World.size_alloc] at rp
  have c12 : Below ((w12.alloc (.cells (([jA] : List GJob).flatMap encJ).toArray 36)).alloc (.cells (([3, 3] : List Int).map (Value.int .i64)).toArray 3)).heap.size ((w12.alloc (.cells (([jA] : List GJob).flatMap encJ).toArray 36)).alloc (.cells (([3, 3] : List Int).map (Value.int .i64)).toArray 3)) ((((w12.alloc (.cells (([jA] : List GJob).flatMap encJ).toArray 36)).alloc (.cells (([3, 3] : List Int).map (Value.int .i64)).toArray 3)).alloc (.cells (([1, 4] : List Int).map (Value.int .i64)).toArray 3)).alloc (.cells #[.slice (some ⟨w12.heap.size + 1 + 1, 0, none⟩) 2 2] 23)) := ((Below.refl _ _).alloc (Nat.le_refl _) _).alloc (by simp) _
  go_wp2_with fail
  refine (plCheckPlan_any _ _ _ 1 1 2 2 1 1 [jA] [3, 3] _ [[1, 4]] _ (rj.keep c12) (Lib.hid rfl) (by omega) (rs.keep c12) (Lib.hid rfl) (by omega) rp (Lib.hid rfl) (by omega)).mono ?_
  rintro e w13 ⟨rfl, b13⟩
  have h13 : Below w.heap.size w w13 := below_then h12 (below_then (below_then a12' c12) b13)
  rw [hd_plan2]
  clear b13 rj rs a12 a12' rp c12
  go_wp2_with fail
  refine (lpJob_any 0 2 7 3 _).mono ?_
  rintro e w14 ⟨rfl, b14⟩
  have h14 : Below w.heap.size w w14 := below_then h13 b14
  clear b14
  have a14 : Below w14.heap.size w14 (w14.alloc (.cells (([jC] : List GJob).flatMap encJ).toArray 36)) := (Below.refl _ _).alloc (Nat.le_refl _) _
  have a14' : Below w14.heap.size w14 ((w14.alloc (.cells (([jC] : List GJob).flatMap encJ).toArray 36)).alloc (.cells (([9, 9] : List Int).map (Value.int .i64)).toArray 3)) := a14.alloc (by simp) _
  have rj := (rd_litJ w14 [jC]).keep (w' := (w14.alloc (.cells (([jC] : List GJob).flatMap encJ).toArray 36)).alloc (.cells (([9, 9] : List Int).map (Value.int .i64)).toArray 3)) ((Below.refl _ _).alloc (Nat.le_refl _) _)
  have rs := rd_litI (w14.alloc (.cells (([jC] : List GJob).flatMap encJ).toArray 36)) [9, 9]
  rw [World.size_alloc] at rs
  have rp := rd_litI ((w14.alloc (.cells (([jC] : List GJob).flatMap encJ).toArray 36)).alloc (.cells (([9, 9] : List Int).map (Value.int .i64)).toArray 3)) [0]
  rw [World.size_alloc, World.size_alloc] at rp
  have c14 : Below ((w14.alloc (.cells (([jC] : List GJob).flatMap encJ).toArray 36)).alloc (.cells (([9, 9] : List Int).map (Value.int .i64)).toArray 3)).heap.size ((w14.alloc (.cells (([jC] : List GJob).flatMap encJ).toArray 36)).alloc (.cells (([9, 9] : List Int).map (Value.int .i64)).toArray 3)) (((w14.alloc (.cells (([jC] : List GJob).flatMap encJ).toArray 36)).alloc (.cells (([9, 9] : List Int).map (Value.int .i64)).toArray 3)).alloc (.cells (([0] : List Int).map (Value.int .i64)).toArray 3)) := (Below.refl _ _).alloc (Nat.le_refl _) _
  go_wp2_with fail
  refine (plCheckCut_any _ _ _ none 1 1 2 2 1 1 0 0 [jC] [9, 9] [0] [] _ (rj.keep c14) (Lib.hid rfl) (by omega) (rs.keep c14) (Lib.hid rfl) (by omega) rp (Lib.hid rfl) (by omega) Rd.nil (Lib.hid rfl) (by omega)).mono ?_
  rintro e w15 ⟨rfl, b15⟩
  have h15 : Below w.heap.size w w15 := below_then h14 (below_then (below_then a14' c14) b15)
  rw [hd_cut]
  clear b15 rj rs a14 a14' rp c14
  go_wp2_with fail
  refine (lpJob_any 0 2 6 3 _).mono ?_
  rintro e w16 ⟨rfl, b16⟩
  have h16 : Below w.heap.size w w16 := below_then h15 b16
  clear b16
  have a16 : Below w16.heap.size w16 (w16.alloc (.cells (([jE] : List GJob).flatMap encJ).toArray 36)) := (Below.refl _ _).alloc (Nat.le_refl _) _
  have a16' : Below w16.heap.size w16 ((w16.alloc (.cells (([jE] : List GJob).flatMap encJ).toArray 36)).alloc (.cells (([9, 9] : List Int).map (Value.int .i64)).toArray 3)) := a16.alloc (by simp) _
  have rj := (rd_litJ w16 [jE]).keep (w' := (w16.alloc (.cells (([jE] : List GJob).flatMap encJ).toArray 36)).alloc (.cells (([9, 9] : List Int).map (Value.int .i64)).toArray 3)) ((Below.refl _ _).alloc (Nat.le_refl _) _)
  have rs := rd_litI (w16.alloc (.cells (([jE] : List GJob).flatMap encJ).toArray 36)) [9, 9]
  rw [World.size_alloc] at rs
  have rp := rd_litI ((w16.alloc (.cells (([jE] : List GJob).flatMap encJ).toArray 36)).alloc (.cells (([9, 9] : List Int).map (Value.int .i64)).toArray 3)) [0]
  rw [World.size_alloc, World.size_alloc] at rp
  have c16 : Below ((w16.alloc (.cells (([jE] : List GJob).flatMap encJ).toArray 36)).alloc (.cells (([9, 9] : List Int).map (Value.int .i64)).toArray 3)).heap.size ((w16.alloc (.cells (([jE] : List GJob).flatMap encJ).toArray 36)).alloc (.cells (([9, 9] : List Int).map (Value.int .i64)).toArray 3)) (((w16.alloc (.cells (([jE] : List GJob).flatMap encJ).toArray 36)).alloc (.cells (([9, 9] : List Int).map (Value.int .i64)).toArray 3)).alloc (.cells (([0] : List Int).map (Value.int .i64)).toArray 3)) := (Below.refl _ _).alloc (Nat.le_refl _) _
  go_wp2_with fail
  refine (plCheckCut_any _ _ _ none 1 1 2 2 1 1 0 0 [jE] [9, 9] [0] [] _ (rj.keep c16) (Lib.hid rfl) (by omega) (rs.keep c16) (Lib.hid rfl) (by omega) rp (Lib.hid rfl) (by omega) Rd.nil (Lib.hid rfl) (by omega)).mono ?_
  rintro e w17 ⟨rfl, b17⟩
  have h17 : Below w.heap.size w w17 := below_then h16 (below_then (below_then a16' c16) b17)
  rw [hd_cut2]
  clear b17 rj rs a16 a16' rp c16
  go_wp2_with fail
  refine (plValid_any none none 0 0 0 0 [] [] w17 Rd.nil (Lib.hid rfl) (by omega) Rd.nil (Lib.hid rfl) (by omega)).mono ?_
  rintro e wz ⟨rfl, bz⟩
  rw [hd_nil]
  go_wp2_with fail
  go_ret
  exact ⟨rfl, below_then h17 bz⟩
end Go.Proofs.Ytmmmgafnmpaohaa
