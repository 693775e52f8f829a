/-
Several texts in one: AdmN0, AdmN.
-/
import Derived.Test.YtgfcnkfmgpakkaaGMath
import Derived.Test.YtgfcnkfmgpakkaaGPlanC
import Derived.Test.YtgfcnkfmgpakkaaCAdmM
import Derived.Test.YtgfcnkfmgpakkaaGAdmC
import Derived.Test.YtgfcnkfmgpakkaaGAdmE
/-
Plain facts for the first check of the laws of admit: its examples.
-/
namespace Go.Proofs.Ytgfcnkfmgpakkaa
set_option linter.unusedVariables false
set_option linter.unusedSimpArgs false
def hA0 : GJob := ⟨0, 2, 6, 4, 1⟩
def hA1 : GJob := ⟨0, 1, 3, 3, 1⟩
def hA2 : GJob := ⟨0, 1, 4, 4, 1⟩
def hAR : GJob := ⟨0, 1, 0, 4, 1⟩
def hAZ : GJob := ⟨0, 0, 0, 0, 1⟩
def hAN : GJob := ⟨0, 0, 0, 0, 0⟩
theorem two_of {l : List Int} (h : l.length = 2) : l = [fAt l 0, fAt l 1] := by
  match l, h with
  | [a, b], _ => rfl
theorem S2 (g : Nat → Int) : S 2 g = g 0 + g 1 := by simp [S]
theorem isPlan_22 {js : List GJob} {sup : List Int} {P : Nat → Nat → Int} (hj : js.length = 2) (hs : sup.length = 2)
    (h : ∀ i, i < 2 → (∀ t, t < 2 → 0 ≤ P i t ∧ P i t ≤ (jAt js i).rate ∧ (¬ inJ (jAt js i) t → P i t = 0)) ∧ P i 0 + P i 1 = (jAt js i).energy) (hf : ∀ t, t < 2 → P 0 t + P 1 t ≤ fAt sup t) : IsPlan js sup P :=
  ⟨fun i t hi ht => ((h i (by omega)).1 t (by omega)).1, fun i t hi ht => ((h i (by omega)).1 t (by omega)).2.1, fun i t hi ht hn => ((h i (by omega)).1 t (by omega)).2.2 hn,
    fun i hi => by rw [hs, S2]; exact (h i (by omega)).2, fun t ht => by rw [hj, S2]; exact hf t (by omega)⟩
theorem lt2 {i : Nat} (h : i < 2) : i = 0 ∨ i = 1 := by omega
def hdP (i t : Nat) : Int := if i = 0 then (if t = 0 then 2 else 4) else (if t = 0 then 3 else 0)
theorem hdA_met3 : Met [hA0, ⟨0, 1, 3, 3, 1⟩] [5, 5] := by
  refine ⟨hdP, isPlan_22 rfl rfl (fun i hi => ?_) (fun t ht => ?_)⟩
  · rcases lt2 hi with rfl | rfl
    · refine ⟨fun t ht => ?_, by decide⟩
      rcases lt2 ht with rfl | rfl
      · exact ⟨by decide, by decide, fun hn => absurd (by unfold inJ; decide) hn⟩
      · exact ⟨by decide, by decide, fun hn => absurd (by unfold inJ; decide) hn⟩
    · refine ⟨fun t ht => ?_, by decide⟩
      rcases lt2 ht with rfl | rfl
      · exact ⟨by decide, by decide, fun hn => absurd (by unfold inJ; decide) hn⟩
      · exact ⟨by decide, by decide, fun _ => rfl⟩
  · rcases lt2 ht with rfl | rfl <;> decide
theorem hdA_met4 : Met [hA0, ⟨0, 1, 3, 4, 1⟩] [5, 5] := by
  refine ⟨hdP, isPlan_22 rfl rfl (fun i hi => ?_) (fun t ht => ?_)⟩
  · rcases lt2 hi with rfl | rfl
    · refine ⟨fun t ht => ?_, by decide⟩
      rcases lt2 ht with rfl | rfl
      · exact ⟨by decide, by decide, fun hn => absurd (by unfold inJ; decide) hn⟩
      · exact ⟨by decide, by decide, fun hn => absurd (by unfold inJ; decide) hn⟩
    · refine ⟨fun t ht => ?_, by decide⟩
      rcases lt2 ht with rfl | rfl
      · exact ⟨by decide, by decide, fun hn => absurd (by unfold inJ; decide) hn⟩
      · exact ⟨by decide, by decide, fun _ => rfl⟩
  · rcases lt2 ht with rfl | rfl <;> decide
theorem hdA_okP : okP [hA0] [5, 5] = true := by decide
theorem hdA_met0 : Met [hA0] [5, 5] := by
  have h : Met ([hA0] ++ [⟨0, 1, 3, 3, 1⟩]) [5, 5] := hdA_met3
  exact h.butlast
theorem hdA_chk1 : chkE [hA0] [5, 5] hA1 = 0 := chkE_ok hdA_okP (by decide) (by decide) hdA_met0
theorem hdA_chk2 : chkE [hA0] [5, 5] hA2 = 0 := chkE_ok hdA_okP (by decide) (by decide) hdA_met0
theorem hdA_chkR : chkE [hA0] [5, 5] (withE hAR 0) = 0 := chkE_ok hdA_okP (by decide) (by decide) hdA_met0
theorem hdA_met1 : Met ([hA0] ++ [hA1]) [5, 5] := hdA_met3
theorem over_plan {e r : Int} {P : Nat → Nat → Int} (h : IsPlan [hA0, ⟨0, 1, e, r, 1⟩] [5, 5] P) : e ≤ 3 := by
  have g0 : S 2 (P 0) = 6 := h.got 0 (by simp)
  have g1 : S 2 (P 1) = e := h.got 1 (by simp)
  have o : P 1 1 = 0 := h.out 1 1 (by simp) (by simp) (fun hn => by
    have h2 : ((1 : Nat) : Int) < 1 := hn.2
    omega)
  have hi : P 0 1 ≤ 4 := h.hi 0 1 (by simp) (by simp)
  have f : S 2 (fun i => P i 0) ≤ 5 := h.fits 0 (by simp)
  rw [S2] at g0 g1 f
  omega
theorem hdA_not2 : ¬ Met ([hA0] ++ [hA2]) [5, 5] := fun ⟨P, h⟩ => by
  have := over_plan (e := 4) (r := 4) h
  omega
theorem hdA_room : IsRoom [hA0] [5, 5] hAR 3 :=
  ⟨by omega, by omega, hdA_met4, fun e h1 h2 ⟨P, h⟩ => by
    have := over_plan (e := e) (r := 4) h
    omega⟩
theorem hdA_plan {ps : List (List Int)} (h : planB ([hA0] ++ [hA1]) [5, 5] ps = true) : rowAt ps 0 = [2, 4] ∧ rowAt ps 1 = [3, 0] := by
  obtain ⟨_, h1, h2, h3⟩ := planB_iff.1 h
  have l0 : (rowAt ps 0).length = 2 := h2 0 (by decide)
  have l1 : (rowAt ps 1).length = 2 := h2 1 (by decide)
  have g0 : S 2 (pAt ps 0) = 6 := h3.got 0 (by decide)
  have g1 : S 2 (pAt ps 1) = 3 := h3.got 1 (by decide)
  have o : pAt ps 1 1 = 0 := h3.out 1 1 (by decide) (by decide) (fun hn => by
    have h2 : ((1 : Nat) : Int) < 1 := hn.2
    omega)
  have hi : pAt ps 0 1 ≤ 4 := h3.hi 0 1 (by decide) (by decide)
  have f : S 2 (fun i => pAt ps i 0) ≤ 5 := h3.fits 0 (by decide)
  rw [S2] at g0 g1 f
  have e00 : fAt (rowAt ps 0) 0 = 2 := by show pAt ps 0 0 = 2; omega
  have e01 : fAt (rowAt ps 0) 1 = 4 := by show pAt ps 0 1 = 4; omega
  have e10 : fAt (rowAt ps 1) 0 = 3 := by show pAt ps 1 0 = 3; omega
  have e11 : fAt (rowAt ps 1) 1 = 0 := o
  rw [two_of l0, two_of l1, e00, e01, e10, e11]
  exact ⟨rfl, rfl⟩
theorem hdA_cut {cj cs : List Int} (h : cutPB ([hA0] ++ [hA2]) [5, 5] cj cs = true) : cj.length = 2 := by
  unfold cutPB at h
  simp only [Bool.and_eq_true, decide_eq_true_eq] at h
  obtain ⟨_, ⟨h1, _⟩, h2⟩ := h
  have hm := marksB_iff.1 h1
  have c1 : inL cj 1 = true := by
    cases c : inL cj 1
    · have := cut_butlast (js := [hA0]) (x := hA2) c h2
      obtain ⟨P, hP⟩ := hdA_met0
      have := not_both hdA_okP hP (inL cj) (inL cs)
      omega
    · rfl
  have c0 : inL cj 0 = true := by
    cases c : inL cj 0
    · have hok : okP [⟨0, 2, 0, 4, 1⟩, hA2] [5, 5] = true := by decide
      have hP : IsPlan [⟨0, 2, 0, 4, 1⟩, hA2] [5, 5] (fun i t => if i = 1 ∧ t = 0 then 4 else 0) := isPlan_22 rfl rfl (fun i hi => by
        rcases lt2 hi with rfl | rfl
        · refine ⟨fun t ht => ?_, by decide⟩
          exact ⟨by simp, by simp [jAt], fun _ => by simp⟩
        · refine ⟨fun t ht => ?_, by decide⟩
          rcases lt2 ht with rfl | rfl
          · exact ⟨by decide, by decide, fun hn => absurd (by unfold inJ; decide) hn⟩
          · exact ⟨by decide, by decide, fun _ => by decide⟩) (fun t ht => by rcases lt2 ht with rfl | rfl <;> decide)
      have := not_both hok hP (inL cj) (inL cs)
      have e1 : needC [⟨0, 2, 0, 4, 1⟩, hA2] (inL cj) = needC ([hA0] ++ [hA2]) (inL cj) := by
        show S 2 _ = S 2 _
        rw [S2, S2, pick_neg (c := inL cj 0 = true) (by rw [c]; decide), pick_neg (c := inL cj 0 = true) (by rw [c]; decide)]
        rfl
      have e2 : roomC [⟨0, 2, 0, 4, 1⟩, hA2] [5, 5] (inL cj) (inL cs) = roomC ([hA0] ++ [hA2]) [5, 5] (inL cj) (inL cs) := by
        show S 2 _ + S 2 _ = S 2 _ + S 2 _
        rw [S2 (fun i => pick (inL cj i = true) _), S2 (fun i => pick (inL cj i = true) _), pick_neg (c := inL cj 0 = true) (by rw [c]; decide), pick_neg (c := inL cj 0 = true) (by rw [c]; decide)]
        rfl
      omega
    · rfl
  unfold inL at c0 c1
  simp only [decide_eq_true_eq] at c0 c1
  match cj, hm, c0, c1 with
  | [], _, c0, _ => simp at c0
  | [a], _, c0, c1 => simp at c0 c1; omega
  | [a, b], _, _, _ => rfl
  | a :: b :: c :: l, hm, _, _ =>
    have m0 := hm 0 (by simp)
    have m1 := hm 1 (by simp)
    have m2 := hm 2 (by simp)
    simp [befP, fAt] at m0 m1 m2
    omega
theorem hdA_notZ : ¬ Met [hA0] [1, 1] := fun ⟨P, h⟩ => by
  have g0 : S 2 (P 0) = 6 := h.got 0 (by decide)
  have f0 : S 1 (fun i => P i 0) ≤ 1 := h.fits 0 (by decide)
  have f1 : S 1 (fun i => P i 1) ≤ 1 := h.fits 1 (by decide)
  rw [S2] at g0
  simp only [S] at f0 f1
  omega
theorem hdA_chkZ : chkE [hA0] [1, 1] hAZ = 6 := chkE_state (by decide) (by decide) (by decide) hdA_notZ
theorem hdA_chkN : chkE [hA0] [5, 5] hAN = 1 := chkE_arg (fun h => absurd h.2 (by decide))
theorem hdA_D : okD [hA0] [5, 5] [2] = true := okD_iff.2 ⟨by decide, by decide, rfl, fun i hi => by
  have : i = 0 := by have h : i < 1 := hi; omega
  subst this
  exact ⟨by decide, by decide, by decide, fun _ => ⟨by decide, by decide⟩⟩, by decide⟩
theorem hdA_next : nextJs [hA0] [2] = [⟨0, 1, 4, 4, 1⟩] := rfl
theorem hdA_D5 : okD [hA0] [5, 5] [5] = false := okD_not (fun h => by
  have := (h.2.2.2.1 0 (by decide)).2.1
  exact absurd this (by decide))
end Go.Proofs.Ytgfcnkfmgpakkaa
/-
law28.head, walked.
-/
namespace Go.Proofs.Ytgfcnkfmgpakkaa
open Go.RowKit
set_option linter.unusedVariables false
set_option linter.unusedSimpArgs false
theorem rd_jobs (w : World) (js : List GJob) : Rd 5 encJ (w.alloc (.cells (js.flatMap encJ).toArray 25)) (some ⟨w.heap.size, 0, none⟩) js :=
  (Own.new w 25 (js.flatMap encJ).toArray undef).rd (by rw [List.size_toArray, flatR_len encJ_len5]; exact Nat.le_refl _) (fun _ => rfl) (fun k x hx j v hv => by
    show (js.flatMap encJ).toArray[k * 5 + j]?.getD undef = v
    rw [List.getElem?_toArray, flatR_at encJ_len5 js k j x v hx hv]; rfl)
theorem rd_nums (w : World) (xs : List Int) : Rd 1 encI (w.alloc (.cells (xs.map (Value.int .i64)).toArray 3)) (some ⟨w.heap.size, 0, none⟩) xs :=
  (Own.new w 3 (xs.map (Value.int .i64)).toArray undef).rd (by simp) (fun _ => rfl) (fun k x hx j v hv => by
    have hj : j = 0 := by have := (List.getElem?_eq_some_iff.1 hv).1; simp [encI] at this; exact this
    subst hj
    simp only [encI, List.getElem?_cons_zero, Option.some.injEq] at hv
    show (xs.map (Value.int .i64)).toArray[k * 1 + 0]?.getD undef = v
    rw [List.getElem?_toArray, Nat.mul_one, Nat.add_zero, List.getElem?_map, hx, ← hv]; rfl)
set_option maxRecDepth 100000 in
set_option maxHeartbeats 8000000 in
theorem laHead_any (w : World) : Calls Try.prog 18 #[] w fun e w' => e = .returned (.bool true) ∧ Below w.heap.size w w' := by
  have b0 : Below w.heap.size w ((w.alloc (.cells (([hA0] : List GJob).flatMap encJ).toArray 25)).alloc (.cells (([5, 5] : List Int).map (Value.int .i64)).toArray 3)) := ((Below.refl _ w).alloc (Nat.le_refl _) _).alloc (by simp) _
  have rj0 := (rd_jobs w [hA0]).keep (w' := (w.alloc (.cells (([hA0] : List GJob).flatMap encJ).toArray 25)).alloc (.cells (([5, 5] : List Int).map (Value.int .i64)).toArray 3)) ((Below.refl _ _).alloc (Nat.le_refl _) _)
  have rs0 := rd_nums (w.alloc (.cells (([hA0] : List GJob).flatMap encJ).toArray 25)) [5, 5]
  rw [World.size_alloc] at rs0
  go_enter Try.func18, Try.ntmps18
  go_wp2_with fail
  -- Admit: room
  refine (aAdmit_any _ _ 1 1 2 2 [hA0] [5, 5] hA1 _ rj0 (Lib.hid rfl) (by omega) rs0 (Lib.hid rfl) (by omega)).mono ?_
  rintro e w1 ⟨hb1, hp⟩
  obtain ⟨gt, rs, ps, rfl, rp, hlp, hpl⟩ : ∃ gt rs ps, e = .returned (.tuple #[.slice (some ⟨gt, 0, none⟩) 2 2, .agg #[.slice none 0 0, .slice none 0 0], .int .i64 0]) ∧ RdP w1 (some ⟨gt, 0, none⟩) rs ps ∧ ps.length = 2 ∧ planB ([hA0] ++ [hA1]) [5, 5] ps = true := by
    rcases hp with ⟨er, _, h1, h2⟩ | ⟨_, h⟩ | ⟨_, a3, c3, a4, c4, cj, cs, _, _, _, _, _, h⟩
    · exact absurd (h1.trans hdA_chk1) h2
    · exact h
    · exact absurd hdA_met1 (cutPB_notA h)
  clear hp
  have a1 : Below w1.heap.size w1 (w1.alloc (.cells #[.slice none 0 0, .slice none 0 0] 30)) := (Below.refl _ _).alloc (Nat.le_refl _) _
  have k1 := below_then hb1 a1
  have b1 := below_then b0 k1
  have rj1 := rj0.keep k1
  have rs1 := rs0.keep k1
  have rp1 := rp.keep a1
  obtain ⟨r0, r1⟩ := hdA_plan hpl
  clear hb1 a1 k1 b0 rj0 rs0 rp hpl
  go_wp2_with fail
  -- Admit: full
  refine (aAdmit_any _ _ 1 1 2 2 [hA0] [5, 5] hA2 _ rj1 (Lib.hid rfl) (by omega) rs1 (Lib.hid rfl) (by omega)).mono ?_
  rintro e w2 ⟨hb2, hp⟩
  obtain ⟨a3, c3, a4, c4, n4, rfl⟩ : ∃ a3 c3 a4 c4 n4, e = .returned (.tuple #[.slice none 0 0, .agg #[.slice a3 2 c3, .slice a4 n4 c4], .int .i64 10]) := by
    rcases hp with ⟨er, _, h1, h2⟩ | ⟨_, gt, rs, ps, _, _, _, h⟩ | ⟨_, a3, c3, a4, c4, cj, cs, he, _, _, _, _, h⟩
    · exact absurd (h1.trans hdA_chk2) h2
    · exact absurd (planB_metA h) hdA_not2
    · rw [hdA_cut h] at he
      exact ⟨_, _, _, _, _, he⟩
  clear hp
  have a2 : Below w2.heap.size w2 (w2.alloc (.cells #[.slice a3 2 c3, .slice a4 n4 c4] 30)) := (Below.refl _ _).alloc (Nat.le_refl _) _
  have k2 := below_then hb2 a2
  have b2 := below_then b1 k2
  have rj2 := rj1.keep k2
  have rs2 := rs1.keep k2
  have rp2 := rp1.keep k2
  have c7 : (w2.alloc (.cells #[.slice a3 2 c3, .slice a4 n4 c4] 30)).cell? ⟨w2.heap.size, 0, none⟩ = some (.slice a3 2 c3) := by go_simp
  have l7 : w2.heap.size < (w2.alloc (.cells #[.slice a3 2 c3, .slice a4 n4 c4] 30)).heap.size := by simp
  clear hb2 a2 k2 b1 rj1 rs1 rp1
  go_wp2_with fail
  -- Room
  refine (aRoom_any _ _ 1 1 2 2 [hA0] [5, 5] hAR _ rj2 (Lib.hid rfl) (by omega) rs2 (Lib.hid rfl) (by omega)).mono ?_
  rintro e w3 ⟨hb3, n, er, rfl, h1, _, h3⟩
  have her := h1.trans hdA_chkR
  subst her
  have hn := (h3 rfl).unique hdA_room
  subst hn
  have b3 := below_then b2 hb3
  have rj3 := rj2.keep hb3
  have rs3 := rs2.keep hb3
  have rp3 := rp2.keep hb3
  have c73 := (hb3.cell (p := ⟨w2.heap.size, 0, none⟩) l7).trans c7
  have l73 := Nat.lt_of_lt_of_le l7 hb3.size
  clear hb3 b2 rj2 rs2 rp2 c7 l7 h1 h3
  have a3' : Below w3.heap.size w3 (w3.alloc (.cells (([1, 1] : List Int).map (Value.int .i64)).toArray 3)) := (Below.refl _ _).alloc (Nat.le_refl _) _
  have rz := rd_nums w3 [1, 1]
  have rj3' := rj3.keep a3'
  go_wp2_with fail
  -- Admit: jobs that cannot be met
  refine (aAdmit_any _ _ 1 1 2 2 [hA0] [1, 1] hAZ _ rj3' (Lib.hid rfl) (by omega) rz (Lib.hid rfl) (by omega)).mono ?_
  rintro e w4 ⟨hb4, hp⟩
  obtain rfl : e = .returned (.tuple #[.slice none 0 0, .agg #[.slice none 0 0, .slice none 0 0], .int .i64 6]) := by
    rcases hp with ⟨er, he, h1, h2⟩ | ⟨h, _⟩ | ⟨h, _⟩
    · rw [he, h1, hdA_chkZ]
    · rw [hdA_chkZ] at h; omega
    · rw [hdA_chkZ] at h; omega
  clear hp
  have a4' : Below w4.heap.size w4 (w4.alloc (.cells #[.slice none 0 0, .slice none 0 0] 30)) := (Below.refl _ _).alloc (Nat.le_refl _) _
  have k4 := below_then (below_then a3' hb4) a4'
  have b4 := below_then b3 k4
  have rj4 := rj3.keep k4
  have rs4 := rs3.keep k4
  have rp4 := rp3.keep k4
  have c74 := (k4.cell (p := ⟨w2.heap.size, 0, none⟩) l73).trans c73
  have l74 := Nat.lt_of_lt_of_le l73 k4.size
  clear hb4 a4' k4 b3 rj3 rs3 rp3 c73 l73 a3' rz rj3'
  go_wp2_with fail
  -- Admit: a job that is not valid
  refine (aAdmit_any _ _ 1 1 2 2 [hA0] [5, 5] hAN _ rj4 (Lib.hid rfl) (by omega) rs4 (Lib.hid rfl) (by omega)).mono ?_
  rintro e w5 ⟨hb5, hp⟩
  obtain rfl : e = .returned (.tuple #[.slice none 0 0, .agg #[.slice none 0 0, .slice none 0 0], .int .i64 1]) := by
    rcases hp with ⟨er, he, h1, h2⟩ | ⟨h, _⟩ | ⟨h, _⟩
    · rw [he, h1, hdA_chkN]
    · rw [hdA_chkN] at h; omega
    · rw [hdA_chkN] at h; omega
  clear hp
  have a5 : Below w5.heap.size w5 ((w5.alloc (.cells #[.slice none 0 0, .slice none 0 0] 30)).alloc (.cells (([2] : List Int).map (Value.int .i64)).toArray 3)) := ((Below.refl _ _).alloc (Nat.le_refl _) _).alloc (by simp) _
  have k5 := below_then hb5 a5
  have b5 := below_then b4 k5
  have rj5 := rj4.keep k5
  have rs5 := rs4.keep k5
  have rp5 := rp4.keep k5
  have rd5 := rd_nums (w5.alloc (.cells #[.slice none 0 0, .slice none 0 0] 30)) [2]
  rw [World.size_alloc] at rd5
  have c75 := (k5.cell (p := ⟨w2.heap.size, 0, none⟩) l74).trans c74
  have l75 := Nat.lt_of_lt_of_le l74 k5.size
  clear hb5 a5 k5 b4 rj4 rs4 rp4 c74 l74
  go_wp2_with fail
  -- Advance
  refine (aAdvance_any _ _ _ 1 1 2 2 1 1 [hA0] [5, 5] [2] _ rj5 (Lib.hid rfl) (by omega) rs5 (Lib.hid rfl) (by omega) rd5 (Lib.hid rfl) (by omega) (by omega)).mono ?_
  rintro e w6 ⟨hb6, hp⟩
  obtain ⟨a, d, a2, d2, rfl, rn, rt⟩ : ∃ a d a2 d2, e = .returned (.tuple #[.slice a 1 d, .slice a2 1 d2, .int .i64 0]) ∧ Rd 5 encJ w6 a [⟨0, 1, 4, 4, 1⟩] ∧ Rd 1 encI w6 a2 [5] := by
    rcases hp with ⟨h, _⟩ | ⟨_, a, d, a2, d2, he, _, r1, r2⟩
    · rw [hdA_D] at h; cases h
    · rw [hdA_next] at r1
      exact ⟨a, d, a2, d2, he, r1, r2⟩
  clear hp
  have a6 : Below w6.heap.size w6 (w6.alloc (.cells (([5] : List Int).map (Value.int .i64)).toArray 3)) := (Below.refl _ _).alloc (Nat.le_refl _) _
  have k6 := below_then hb6 a6
  have b6 := below_then b5 k6
  have rj6 := rj5.keep k6
  have rs6 := rs5.keep k6
  have rp6 := rp5.keep k6
  have rd6 := rd_nums w6 [5]
  have rn6 := rn.keep a6
  have rt6 := rt.keep a6
  have c76 := (k6.cell (p := ⟨w2.heap.size, 0, none⟩) l75).trans c75
  have l76 := Nat.lt_of_lt_of_le l75 k6.size
  clear hb6 a6 k6 b5 rj5 rs5 rp5 c75 l75 rd5 rn rt
  go_wp2_with fail
  -- Advance: too much
  refine (aAdvance_any _ _ _ 1 1 2 2 1 1 [hA0] [5, 5] [5] _ rj6 (Lib.hid rfl) (by omega) rs6 (Lib.hid rfl) (by omega) rd6 (Lib.hid rfl) (by omega) (by omega)).mono ?_
  rintro e w7 ⟨hb7, hp⟩
  obtain rfl : e = .returned (.tuple #[.slice none 0 0, .slice none 0 0, .int .i64 1]) := by
    rcases hp with ⟨_, h⟩ | ⟨h, _⟩
    · exact h
    · rw [hdA_D5] at h; cases h
  clear hp
  have b7 := below_then b6 hb7
  have rp7 := rp6.keep hb7
  have rn7 := rn6.keep hb7
  have rt7 := rt6.keep hb7
  have c77 := (hb7.cell (p := ⟨w2.heap.size, 0, none⟩) l76).trans c76
  have l77 := Nat.lt_of_lt_of_le l76 hb7.size
  clear hb7 b6 rj6 rs6 rp6 c76 l76 rd6 rn6 rt6
  obtain ⟨bq, oq, q, hq, lq, hq0, hqn, hq63, rq⟩ := rp7.at_ (k := 0) (by omega)
  injection hq with hq
  injection hq with e1 e2
  subst e1 e2
  obtain ⟨bq, oq, q', hq', lq', hq1, hqn', hq63', rq'⟩ := rp7.at_ (k := 1) (by omega)
  injection hq' with hq'
  injection hq' with e1 e2
  subst e1 e2
  rw [r0] at rq hqn
  rw [r1] at rq' hqn'
  simp at hqn hqn' hq0 hq1
  rw [← hqn] at hq0
  rw [← hqn'] at hq1
  have HC : Hid (w7.cell? ⟨gt, 1, none⟩ = some (.slice q'.a 2 q'.c)) := Lib.hid hq1
  have a7 : Below w7.heap.size w7 (w7.alloc (.cells (([2, 4] : List Int).map (Value.int .i64)).toArray 3)) := (Below.refl _ _).alloc (Nat.le_refl _) _
  have rl7 := rd_nums w7 [2, 4]
  have rq7 := rq.keep a7
  have B7 := Lib.hid (below_then b7 a7)
  clear hq1 hqn hqn'
  go_wp2_with fail
  refine (raInts_any [2, 4] [2, 4] q.a _ _ _ 2 2 _ rq7 (Lib.hid rfl) (by omega) rl7 (Lib.hid rfl) (by omega)).mono ?_
  rintro e w8 ⟨rfl, hb8⟩
  rw [sameL_self]
  have k8 := below_then a7 hb8
  have b8 := below_then B7.out hb8
  have hq1 := (k8.cell (p := ⟨gt, 1, none⟩) lq').trans HC.out
  have a8 : Below w8.heap.size w8 (w8.alloc (.cells (([3, 0] : List Int).map (Value.int .i64)).toArray 3)) := (Below.refl _ _).alloc (Nat.le_refl _) _
  have rl8 := rd_nums w8 [3, 0]
  have rq8 := (rq'.keep k8).keep a8
  have c78 := (k8.cell (p := ⟨w2.heap.size, 0, none⟩) l77).trans c77
  have l78 := Nat.lt_of_lt_of_le l77 k8.size
  have rn8 := rn7.keep k8
  have rt8 := rt7.keep k8
  clear k8 hb8 a7 rl7 rq7 c77 l77 hq0 B7 rn7 rt7
  go_wp2_with fail
  refine (raInts_any [3, 0] [3, 0] q'.a _ _ _ 2 2 _ rq8 (Lib.hid rfl) (by omega) rl8 (Lib.hid rfl) (by omega)).mono ?_
  rintro e w9 ⟨rfl, hb9⟩
  rw [sameL_self]
  have k9 := below_then a8 hb9
  have b9 := below_then b8 k9
  have c79 := (k9.cell (p := ⟨w2.heap.size, 0, none⟩) l78).trans c78
  have rn9 := rn8.keep k9
  have rt9 := rt8.keep k9
  have a9 : Below w9.heap.size w9 (w9.alloc (.cells (([⟨0, 1, 4, 4, 1⟩] : List GJob).flatMap encJ).toArray 25)) := (Below.refl _ _).alloc (Nat.le_refl _) _
  have rl9 := rd_jobs w9 [⟨0, 1, 4, 4, 1⟩]
  have rn9' := rn9.keep a9
  have rt9' := rt9.keep a9
  clear k9 hb9 a8 rl8 rq8 c78 l78 b8 hq1 rn8 rt8
  go_wp2_with fail
  refine (raSame_any [⟨0, 1, 4, 4, 1⟩] [⟨0, 1, 4, 4, 1⟩] _ _ _ _ 1 1 _ rn9' (Lib.hid rfl) (by omega) rl9 (Lib.hid rfl) (by omega)).mono ?_
  rintro e w10 ⟨rfl, hb10⟩
  rw [sameL_self]
  have k10 := below_then a9 hb10
  have b10 := below_then b9 k10
  have a10 : Below w10.heap.size w10 (w10.alloc (.cells (([5] : List Int).map (Value.int .i64)).toArray 3)) := (Below.refl _ _).alloc (Nat.le_refl _) _
  have rl10 := rd_nums w10 [5]
  have rt10 := (rt9.keep k10).keep a10
  have B10 := Lib.hid (below_then b10 a10)
  clear k10 hb10 a9 rl9 c79 b9 rt9 rn9 rn9' rt9'
  go_wp2_with fail
  refine (raInts_any [5] [5] _ _ _ _ 1 1 _ rt10 (Lib.hid rfl) (by omega) rl10 (Lib.hid rfl) (by omega)).mono ?_
  rintro e w11 ⟨rfl, hb11⟩
  rw [sameL_self]
  have b11 := below_then B10.out hb11
  go_wp2_with fail
  go_ret
  exact ⟨rfl, b11⟩
end Go.Proofs.Ytgfcnkfmgpakkaa
