/-
Several texts in one: DyB, TfA, TfB.
-/
import Derived.Test.YtoekpdnpncgeeaaGreatGBil
import Derived.Test.YtoekpdnpncgeeaaGreatGLPar
/-
Package days: split, week, Valid, Local, Type.
-/
namespace Go.Proofs.YtoekpdnpncgeeaaGreat
open Go.RowKit
set_option linter.unusedVariables false
set_option linter.unusedSimpArgs false
theorem below_drewG' {B : Nat} {a w : World} (h : Below B a w) : Below B a w.drew := ⟨h.os, h.tape, h.output, h.size, h.block⟩
theorem lastF_bd (ks : List Int) (n : Int) : ∀ (f : Nat) (lo hi : Int), -1 ≤ lo → lo ≤ hi → lo ≤ lastF ks n f lo hi ∧ lastF ks n f lo hi ≤ hi
  | 0, lo, hi, h0, h => by unfold lastF; omega
  | f + 1, lo, hi, h0, h => by
    unfold lastF
    split
    · split
      · have := lastF_bd ks n f (lo + (hi - lo + 1) / 2) hi (by omega) (by omega)
        omega
      · have := lastF_bd ks n f lo (lo + (hi - lo + 1) / 2 - 1) (by omega) (by omega)
        omega
    · omega
theorem lastI_bd (ks : List Int) (n : Int) : -1 ≤ lastI ks n ∧ lastI ks n < ks.length := by
  have := lastF_bd ks n ks.length (-1) (ks.length - 1) (by omega) (by omega)
  unfold lastI
  omega
theorem calB_iff {c : Cal} : calB c = true ↔ c.chs.length ≤ 16 ∧ c.hol.length ≤ 32 ∧ amB c.off (-1440) 1440 = true ∧ (∀ x ∈ c.chs, amB x.off (-1440) 1440 = true) ∧ incB 52560000 (-1) (c.chs.map (·.pos)) = true ∧ incB 36500 (-1) c.hol = true := by
  unfold calB
  simp only [Bool.and_eq_true, decide_eq_true_eq, List.all_eq_true]
/-- A calendar's changes and holidays, read. -/
structure RdCal (w : World) (aC : Option Addr) (nC : Nat) (aH : Option Addr) (nH : Nat) (c : Cal) : Prop where
  r1 : Rd 2 encChng w aC c.chs
  r2 : Rd 1 encI w aH c.hol
  l1 : c.chs.length = nC
  l2 : c.hol.length = nH
  m1 : nC ≤ 9223372036854775807
  m2 : nH ≤ 9223372036854775807
theorem RdCal.keep {w w' : World} {aC aH : Option Addr} {nC nH : Nat} {c : Cal} (h : RdCal w aC nC aH nH c) (hb : Below w.heap.size w w') : RdCal w' aC nC aH nH c :=
  ⟨h.r1.keep hb, h.r2.keep hb, h.l1, h.l2, h.m1, h.m2⟩
structure CalM (w W : World) (X : Nat) (aC : Option Addr) (nC cC : Nat) (aH : Option Addr) (nH cH : Nat) (c : Cal) : Prop where
  bel : Below w.heap.size w W
  k0 : W.cell? ⟨X, 0, none⟩ = some (.int .i64 c.off)
  k1 : W.cell? ⟨X, 1, none⟩ = some (.slice aC nC cC)
  k2 : W.cell? ⟨X, 2, none⟩ = some (.slice aH nH cH)
  rd : RdCal W aC nC aH nH c
theorem CalM.keep {w W W' : World} {X : Nat} {aC aH : Option Addr} {nC cC nH cH : Nat} {c : Cal} (h : CalM w W X aC nC cC aH nH cH c) (hb : Below W.heap.size W W') : CalM w W' X aC nC cC aH nH cH c :=
  ⟨h.bel.trans (hb.mono h.bel.size), (hb.cell (p := ⟨X, 0, none⟩) (World.block_lt_of_cell? _ _ h.k0)).trans h.k0, (hb.cell (p := ⟨X, 1, none⟩) (World.block_lt_of_cell? _ _ h.k1)).trans h.k1, (hb.cell (p := ⟨X, 2, none⟩) (World.block_lt_of_cell? _ _ h.k2)).trans h.k2, h.rd.keep hb⟩
theorem CalM.box {w : World} {aC aH : Option Addr} {nC cC nH cH : Nat} {c : Cal} (h : RdCal w aC nC aH nH c) : CalM w (w.alloc (.cells #[.int .i64 c.off, .slice aC nC cC, .slice aH nH cH] 28)) w.heap.size aC nC cC aH nH cH c :=
  have hb : Below w.heap.size w (w.alloc (.cells #[.int .i64 c.off, .slice aC nC cC, .slice aH nH cH] 28)) := (Below.refl _ _).alloc (Nat.le_refl _) _
  ⟨hb, by go_simp, by go_simp, by go_simp, h.keep hb⟩
theorem results_c1D {P : Program} {fn : Func} {a : Tmp} {ty : TypeId} {tmps : Array Value} {b : Nat} {x : Value} {w : World} (h : fn.results = #[.cell a ty]) (ha : tmps.getD a undef = .pointer (some ⟨b, 0, none⟩)) (hl : (loadVar ty ⟨b, 0, none⟩).run P w = .ok x w) : (results fn tmps).run P w = .ok x w := by
  have ha' : tmps[a]?.getD undef = .pointer (some ⟨b, 0, none⟩) := by simpa using ha
  simp [results, h, ha', hl, asAddr]
set_option maxRecDepth 100000 in
set_option maxHeartbeats 4000000 in
theorem dSplit1440_any (n : Int) (w : World) (h1 : -1000000000 ≤ n) (h2 : n ≤ 1000000000) : Calls Tryz.prog 130 #[.int .i64 n, .int .i64 1440] w fun e w' => e = .returned (.tuple #[.int .i64 (n / 1440), .int .i64 (n % 1440)]) ∧ Below w.heap.size w w' := by
  have hs : 0 ≤ n ∨ n < 0 := by omega
  have H1 : Hid (n.tmod 1440 < 0 → n.tdiv 1440 - 1 = n / 1440 ∧ n.tmod 1440 + 1440 = n % 1440) := Lib.hid (by
    intro h
    rcases hs with hs | hs
    · rw [Int.tmod_eq_emod_of_nonneg hs] at h; omega
    · obtain ⟨m, rfl⟩ : ∃ m, n = -m := ⟨-n, by omega⟩
      rw [Int.neg_tmod, Int.tmod_eq_emod_of_nonneg (by omega)] at h ⊢
      rw [Int.neg_tdiv, Int.tdiv_eq_ediv_of_nonneg (by omega)]
      omega)
  have H2 : Hid (¬ n.tmod 1440 < 0 → n.tdiv 1440 = n / 1440 ∧ n.tmod 1440 = n % 1440) := Lib.hid (by
    intro h
    rcases hs with hs | hs
    · rw [Int.tmod_eq_emod_of_nonneg hs, Int.tdiv_eq_ediv_of_nonneg hs]; exact ⟨rfl, rfl⟩
    · obtain ⟨m, rfl⟩ : ∃ m, n = -m := ⟨-n, by omega⟩
      rw [Int.neg_tmod, Int.tmod_eq_emod_of_nonneg (by omega)] at h ⊢
      rw [Int.neg_tdiv, Int.tdiv_eq_ediv_of_nonneg (by omega)]
      omega)
  have hq : -1000000000 ≤ n.tdiv 1440 ∧ n.tdiv 1440 ≤ 1000000000 ∧ -1440 < n.tmod 1440 ∧ n.tmod 1440 < 1440 := by
    rcases hs with hs | hs
    · rw [Int.tmod_eq_emod_of_nonneg hs, Int.tdiv_eq_ediv_of_nonneg hs]; omega
    · obtain ⟨m, rfl⟩ : ∃ m, n = -m := ⟨-n, by omega⟩
      rw [Int.neg_tmod, Int.tmod_eq_emod_of_nonneg (by omega), Int.neg_tdiv, Int.tdiv_eq_ediv_of_nonneg (by omega)]
      omega
  clear hs
  obtain ⟨hq1, hq2, hr1, hr2⟩ := hq
  have hwq : IntKind.i64.wrap (n.tdiv 1440) = n.tdiv 1440 := IntWalk.i64_in _ (by omega)
  have hwr : IntKind.i64.wrap (n.tmod 1440) = n.tmod 1440 := IntWalk.i64_in _ (by omega)
  obtain ⟨B, hB⟩ : ∃ B, B = w.heap.size := ⟨_, rfl⟩
  have HB0 : Hid (Below B w w) := Lib.hid (by rw [hB]; exact Below.refl _ _)
  rw [← hB]
  clear hB
  go_enter Tryz.func130, Tryz.ntmps130
  go_wp2_with fail
  go_region
  by_cases hn : n.tmod 1440 < 0
  · have E := Lib.hid (H1.out hn)
    clear H1 H2
    generalize n.tdiv 1440 = q at *
    generalize n.tmod 1440 = r at *
    go_wp2_with fail
    go_ret2
    exact ⟨by rw [E.out.1, E.out.2]; rfl, by first | exact below_drewG' HB0.out | exact HB0.out.drew | exact below_drewG _ HB0.out | exact HB0.out⟩
  · have E := Lib.hid (H2.out (by omega))
    clear H1 H2
    generalize n.tdiv 1440 = q at *
    generalize n.tmod 1440 = r at *
    go_wp2_with fail
    go_ret2
    exact ⟨by rw [E.out.1, E.out.2]; rfl, by first | exact below_drewG' HB0.out | exact HB0.out.drew | exact below_drewG _ HB0.out | exact HB0.out⟩
set_option maxRecDepth 100000 in
set_option maxHeartbeats 4000000 in
theorem dSplit7_any (n : Int) (w : World) (h1 : -1000000000 ≤ n) (h2 : n ≤ 1000000000) : Calls Tryz.prog 130 #[.int .i64 n, .int .i64 7] w fun e w' => e = .returned (.tuple #[.int .i64 (n / 7), .int .i64 (n % 7)]) ∧ Below w.heap.size w w' := by
  have hs : 0 ≤ n ∨ n < 0 := by omega
  have H1 : Hid (n.tmod 7 < 0 → n.tdiv 7 - 1 = n / 7 ∧ n.tmod 7 + 7 = n % 7) := Lib.hid (by
    intro h
    rcases hs with hs | hs
    · rw [Int.tmod_eq_emod_of_nonneg hs] at h; omega
    · obtain ⟨m, rfl⟩ : ∃ m, n = -m := ⟨-n, by omega⟩
      rw [Int.neg_tmod, Int.tmod_eq_emod_of_nonneg (by omega)] at h ⊢
      rw [Int.neg_tdiv, Int.tdiv_eq_ediv_of_nonneg (by omega)]
      omega)
  have H2 : Hid (¬ n.tmod 7 < 0 → n.tdiv 7 = n / 7 ∧ n.tmod 7 = n % 7) := Lib.hid (by
    intro h
    rcases hs with hs | hs
    · rw [Int.tmod_eq_emod_of_nonneg hs, Int.tdiv_eq_ediv_of_nonneg hs]; exact ⟨rfl, rfl⟩
    · obtain ⟨m, rfl⟩ : ∃ m, n = -m := ⟨-n, by omega⟩
      rw [Int.neg_tmod, Int.tmod_eq_emod_of_nonneg (by omega)] at h ⊢
      rw [Int.neg_tdiv, Int.tdiv_eq_ediv_of_nonneg (by omega)]
      omega)
  have hq : -1000000000 ≤ n.tdiv 7 ∧ n.tdiv 7 ≤ 1000000000 ∧ -7 < n.tmod 7 ∧ n.tmod 7 < 7 := by
    rcases hs with hs | hs
    · rw [Int.tmod_eq_emod_of_nonneg hs, Int.tdiv_eq_ediv_of_nonneg hs]; omega
    · obtain ⟨m, rfl⟩ : ∃ m, n = -m := ⟨-n, by omega⟩
      rw [Int.neg_tmod, Int.tmod_eq_emod_of_nonneg (by omega), Int.neg_tdiv, Int.tdiv_eq_ediv_of_nonneg (by omega)]
      omega
  clear hs
  obtain ⟨hq1, hq2, hr1, hr2⟩ := hq
  have hwq : IntKind.i64.wrap (n.tdiv 7) = n.tdiv 7 := IntWalk.i64_in _ (by omega)
  have hwr : IntKind.i64.wrap (n.tmod 7) = n.tmod 7 := IntWalk.i64_in _ (by omega)
  obtain ⟨B, hB⟩ : ∃ B, B = w.heap.size := ⟨_, rfl⟩
  have HB0 : Hid (Below B w w) := Lib.hid (by rw [hB]; exact Below.refl _ _)
  rw [← hB]
  clear hB
  go_enter Tryz.func130, Tryz.ntmps130
  go_wp2_with fail
  go_region
  by_cases hn : n.tmod 7 < 0
  · have E := Lib.hid (H1.out hn)
    clear H1 H2
    generalize n.tdiv 7 = q at *
    generalize n.tmod 7 = r at *
    go_wp2_with fail
    go_ret2
    exact ⟨by rw [E.out.1, E.out.2]; rfl, by first | exact below_drewG' HB0.out | exact HB0.out.drew | exact below_drewG _ HB0.out | exact HB0.out⟩
  · have E := Lib.hid (H2.out (by omega))
    clear H1 H2
    generalize n.tdiv 7 = q at *
    generalize n.tmod 7 = r at *
    go_wp2_with fail
    go_ret2
    exact ⟨by rw [E.out.1, E.out.2]; rfl, by first | exact below_drewG' HB0.out | exact HB0.out.drew | exact below_drewG _ HB0.out | exact HB0.out⟩
set_option maxRecDepth 100000 in
theorem dWeek_any (w : World) : Calls Tryz.prog 132 #[] w fun e w' => e = .returned (.agg #[.int .i64 0, .int .i64 0, .int .i64 0, .int .i64 0, .int .i64 0, .int .i64 1, .int .i64 2]) ∧ Below w.heap.size w w' := by
  go_enter Tryz.func132, Tryz.ntmps132
  go_wp2_with fail
  refine bodyPost_ret (results_c1D (a := 0) (ty := 166) (b := w.heap.size) (by kernel_rfl) rfl (by go_simp; rfl)) rfl ?_
  refine ⟨rfl, ?_⟩
  repeat (first | exact Below.refl _ _ | refine Below.alloc ?_ (by simp) _ | refine Below.setCell ?_ (by simp) _)
set_option maxRecDepth 100000 in
set_option maxHeartbeats 8000000 in
theorem dValid_any (aC : Option Addr) (nC cC : Nat) (aH : Option Addr) (nH cH : Nat) (c : Cal) (w : World) (HC : Hid (RdCal w aC nC aH nH c)) : Calls Tryz.prog 22 #[.agg #[.int .i64 c.off, .slice aC nC cC, .slice aH nH cH]] w fun e w' => e = .returned (.bool (calB c)) ∧ Below w.heap.size w w' := by
  obtain ⟨R, hR⟩ : ∃ R, R = calB c := ⟨_, rfl⟩
  have HR : Hid (R = (decide (nC ≤ 16) && (decide (nH ≤ 32) && (amB c.off (-1440) 1440 && (c.chs.all (fun x => amB x.off (-1440) 1440) && (incB 52560000 (-1) (c.chs.map (·.pos)) && incB 36500 (-1) c.hol)))))) := Lib.hid (by rw [hR]; unfold calB; rw [HC.out.l1, HC.out.l2])
  rw [← hR]
  clear hR
  have HL : Hid (c.chs.length = nC ∧ c.hol.length = nH) := Lib.hid ⟨HC.out.l1, HC.out.l2⟩
  have hm1 : nC ≤ 9223372036854775807 := HC.out.m1
  have hm2 : nH ≤ 9223372036854775807 := HC.out.m2
  have hm0 := CalM.box (cC := cC) (cH := cH) HC.out
  obtain ⟨W0, hW0⟩ : ∃ W0, W0 = w.alloc (.cells #[.int .i64 c.off, .slice aC nC cC, .slice aH nH cH] 28) := ⟨_, rfl⟩
  rw [← hW0] at hm0
  obtain ⟨X, hX⟩ : ∃ X, X = w.heap.size := ⟨_, rfl⟩
  have HM : Hid (CalM w W0 X aC nC cC aH nH cH c) := Lib.hid (by rw [hX]; exact hm0)
  have HW0 := Lib.hid hW0
  have HX0 := Lib.hid hX
  clear hm0 hW0 hX
  go_enter Tryz.func22, Tryz.ntmps22
  go_upto_region 1 with (fail)
  rw [← HW0.out, ← HX0.out]
  clear HW0 HX0
  obtain ⟨k0, k1, k2⟩ : W0.cell? ⟨X, 0, none⟩ = some (.int .i64 c.off) ∧ W0.cell? ⟨X, 1, none⟩ = some (.slice aC nC cC) ∧ W0.cell? ⟨X, 2, none⟩ = some (.slice aH nH cH) := ⟨HM.out.k0, HM.out.k1, HM.out.k2⟩
  have hlX : X < W0.heap.size := World.block_lt_of_cell? W0 _ k0
  by_cases h1 : nC ≤ 16
  case neg =>
    have h1z : (16 : Int) < (nC : Int) := by omega
    have HF : Hid (R = false) := Lib.hid (by rw [HR.out, decide_eq_false h1]; rfl)
    go_wp2_with fail
    go_ret
    exact ⟨ret_bool HF.out.symm, HM.out.bel⟩
  by_cases h2 : nH ≤ 32
  case neg =>
    have h1z : ¬ (16 : Int) < (nC : Int) := by omega
    have h2z : (32 : Int) < (nH : Int) := by omega
    have HF : Hid (R = false) := Lib.hid (by rw [HR.out, decide_eq_true h1, decide_eq_false h2]; rfl)
    go_wp2_with fail
    go_ret
    exact ⟨ret_bool HF.out.symm, HM.out.bel⟩
  have HR2 : Hid (R = (amB c.off (-1440) 1440 && (c.chs.all (fun x => amB x.off (-1440) 1440) && (incB 52560000 (-1) (c.chs.map (·.pos)) && incB 36500 (-1) c.hol)))) := Lib.hid (by rw [HR.out, decide_eq_true h1, decide_eq_true h2]; rfl)
  clear HR
  have h1z : ¬ (16 : Int) < (nC : Int) := by omega
  have h2z : ¬ (32 : Int) < (nH : Int) := by omega
  go_wp2_with fail
  refine (dInside_any c.off (-1440) 1440 _).mono ?_
  rintro e w1 ⟨rfl, hw⟩
  subst hw
  obtain ⟨q, hq⟩ : ∃ q, q = amB c.off (-1440) 1440 := ⟨_, rfl⟩
  rw [← hq] at HR2 ⊢
  clear hq
  cases q
  · have HF : Hid (R = false) := Lib.hid (by rw [HR2.out]; rfl)
    go_wp2_with fail
    go_ret
    exact ⟨ret_bool HF.out.symm, HM.out.bel⟩
  have HR3 : Hid (R = (c.chs.all (fun x => amB x.off (-1440) 1440) && (incB 52560000 (-1) (c.chs.map (·.pos)) && incB 36500 (-1) c.hol))) := Lib.hid (by rw [HR2.out]; rfl)
  clear HR2
  go_wp2_with fail
  have HS0 : Hid (c.chs.all (fun x => amB x.off (-1440) 1440) = (c.chs.drop 0).all (fun x => amB x.off (-1440) 1440)) := Lib.hid rfl
  obtain ⟨S, hS⟩ : ∃ S, S = c.chs.all (fun x => amB x.off (-1440) 1440) := ⟨_, rfl⟩
  rw [← hS] at HS0 HR3
  clear hS k0 k1 k2 hlX
  go_loopg [26] nC (fun g1 v26 wr => ∃ i : Nat, v26 = .int .i64 i ∧ i ≤ nC ∧ nC - i ≤ g1 ∧ Hid (S = (c.chs.drop i).all (fun x => amB x.off (-1440) 1440)) ∧ Hid (CalM w wr X aC nC cC aH nH cH c))
  case atStart => exact ⟨0, by go_num, by omega, by omega, HS0, HM⟩
  case round =>
    clear HS0 HM
    obtain ⟨i, rfl, hi, hg1, HS, HM⟩ := hrel
    obtain ⟨k0, k1, k2⟩ : wr.cell? ⟨X, 0, none⟩ = some (.int .i64 c.off) ∧ wr.cell? ⟨X, 1, none⟩ = some (.slice aC nC cC) ∧ wr.cell? ⟨X, 2, none⟩ = some (.slice aH nH cH) := ⟨HM.out.k0, HM.out.k1, HM.out.k2⟩
    have hlX : X < wr.heap.size := World.block_lt_of_cell? wr _ k0
    by_cases hlt : i < nC
    · have hltz : (i : Int) < (nC : Int) := by omega
      obtain ⟨b, off, x, hA, hbl, hgx, hc0, hc1⟩ := rdChng_at HM.out.rd.r1 (show i < c.chs.length by rw [HL.out.1]; exact hlt)
      have HSS : Hid (S = (amB x.off (-1440) 1440 && (c.chs.drop (i + 1)).all (fun x => amB x.off (-1440) 1440))) := Lib.hid (by rw [HS.out, drop_at hgx, List.all_cons])
      clear HS hgx
      subst hA
      go_wp2_with fail
      refine (dInside_any x.off (-1440) 1440 _).mono ?_
      rintro e w1 ⟨rfl, hw⟩
      subst hw
      have HM1 := Lib.hid (HM.out.keep ((Below.refl _ wr).alloc (Nat.le_refl _) (.cells #[.int .i64 x.pos, .int .i64 x.off] 65)))
      clear HM
      obtain ⟨q, hq⟩ : ∃ q, q = amB x.off (-1440) 1440 := ⟨_, rfl⟩
      rw [← hq] at HSS ⊢
      clear hq hc0 hc1
      cases q
      · have HF : Hid (R = false) := Lib.hid (by rw [HR3.out, HSS.out]; rfl)
        go_wp2_with fail
        go_ret
        exact ⟨ret_bool HF.out.symm, HM1.out.bel⟩
      · have HS2 : Hid (S = (c.chs.drop (i + 1)).all (fun x => amB x.off (-1440) 1440)) := Lib.hid (by rw [HSS.out]; rfl)
        clear HSS
        go_wp2_with fail
        go_roundg (nC - (i + 1))
        case measure => omega
        case rel => exact ⟨i + 1, by go_num, by omega, by omega, HS2, HM1⟩
    · have hltz : ¬ (i : Int) < (nC : Int) := by omega
      have HR4 : Hid (R = (incB 52560000 (-1) (c.chs.map (·.pos)) && incB 36500 (-1) c.hol)) := Lib.hid (by rw [HR3.out, HS.out, List.drop_eq_nil_of_le (by have := HL.out; omega)]; rfl)
      clear HS HR3
      go_wp2_with fail
      refine (dKeys_any _).mono ?_
      rintro e w1 ⟨rfl, hw⟩
      subst hw
      go_wp2_with fail
      refine (dListC_any aC nC cC c.chs 52560000 _ HM.out.rd.r1 HL.out.1 hm1).mono ?_
      rintro e w1 ⟨rfl, hb1⟩
      have HM := Lib.hid (HM.out.keep (hb1))
      clear hb1 k0 k1 k2 hlX
      obtain ⟨k0, k1, k2⟩ : w1.cell? ⟨X, 0, none⟩ = some (.int .i64 c.off) ∧ w1.cell? ⟨X, 1, none⟩ = some (.slice aC nC cC) ∧ w1.cell? ⟨X, 2, none⟩ = some (.slice aH nH cH) := ⟨HM.out.k0, HM.out.k1, HM.out.k2⟩
      have hlX : X < w1.heap.size := World.block_lt_of_cell? w1 _ k0
      obtain ⟨q, hq⟩ : ∃ q, q = incB 52560000 (-1) (c.chs.map (·.pos)) := ⟨_, rfl⟩
      rw [← hq] at HR4 ⊢
      clear hq
      cases q
      · have HF : Hid (R = false) := Lib.hid (by rw [HR4.out]; rfl)
        go_wp2_with fail
        go_ret
        exact ⟨ret_bool HF.out.symm, HM.out.bel⟩
      have HR5 : Hid (R = incB 36500 (-1) c.hol) := Lib.hid (by rw [HR4.out]; rfl)
      clear HR4
      go_wp2_with fail
      refine (dListI_any aH nH cH c.hol 36500 _ HM.out.rd.r2 HL.out.2 hm2).mono ?_
      rintro e w2 ⟨rfl, hb1⟩
      have HM := Lib.hid (HM.out.keep (hb1))
      clear hb1 k0 k1 k2 hlX
      rw [← HR5.out]
      go_wp2_with fail
      go_ret
      exact ⟨rfl, HM.out.bel⟩
set_option maxRecDepth 100000 in
set_option maxHeartbeats 8000000 in
theorem dLocal_bad (aC : Option Addr) (nC cC : Nat) (aH : Option Addr) (nH cH : Nat) (c : Cal) (m : Int) (w : World) (HC : Hid (RdCal w aC nC aH nH c)) (hok : (calB c && amB m 0 52560000) = false) : Calls Tryz.prog 108 #[.agg #[.int .i64 c.off, .slice aC nC cC, .slice aH nH cH], .int .i64 m] w fun e w' => e = .returned (.tuple #[.int .i64 0, .int .i64 0, .int .i64 1]) ∧ Below w.heap.size w w' := by
  have hm0 := CalM.box (cC := cC) (cH := cH) HC.out
  obtain ⟨W0, hW0⟩ : ∃ W0, W0 = w.alloc (.cells #[.int .i64 c.off, .slice aC nC cC, .slice aH nH cH] 28) := ⟨_, rfl⟩
  rw [← hW0] at hm0
  obtain ⟨X, hX⟩ : ∃ X, X = w.heap.size := ⟨_, rfl⟩
  have HM : Hid (CalM w W0 X aC nC cC aH nH cH c) := Lib.hid (by rw [hX]; exact hm0)
  have HW0 := Lib.hid hW0
  have HX0 := Lib.hid hX
  clear hm0 hW0 hX
  go_enter Tryz.func108, Tryz.ntmps108
  go_upto_region 1 with (fail)
  rw [← HW0.out, ← HX0.out]
  clear HW0 HX0
  obtain ⟨k0, k1, k2⟩ : W0.cell? ⟨X, 0, none⟩ = some (.int .i64 c.off) ∧ W0.cell? ⟨X, 1, none⟩ = some (.slice aC nC cC) ∧ W0.cell? ⟨X, 2, none⟩ = some (.slice aH nH cH) := ⟨HM.out.k0, HM.out.k1, HM.out.k2⟩
  have hlX : X < W0.heap.size := World.block_lt_of_cell? W0 _ k0
  go_wp2_with fail
  refine (dValid_any aC nC cC aH nH cH c _ (Lib.hid HM.out.rd)).mono ?_
  rintro e w1 ⟨rfl, hb1⟩
  have HM := Lib.hid (HM.out.keep (hb1))
  clear hb1 k0 k1 k2 hlX
  cases hv : calB c
  · go_wp2_with fail
    go_ret3
    exact ⟨rfl, HM.out.bel⟩
  rw [hv] at hok
  have HOK : Hid (amB m 0 52560000 = false) := Lib.hid (by simpa using hok)
  clear hok hv
  obtain ⟨k0, k1, k2⟩ : w1.cell? ⟨X, 0, none⟩ = some (.int .i64 c.off) ∧ w1.cell? ⟨X, 1, none⟩ = some (.slice aC nC cC) ∧ w1.cell? ⟨X, 2, none⟩ = some (.slice aH nH cH) := ⟨HM.out.k0, HM.out.k1, HM.out.k2⟩
  have hlX : X < w1.heap.size := World.block_lt_of_cell? w1 _ k0
  go_wp2_with fail
  refine (dInside_any m 0 52560000 _).mono ?_
  rintro e w2 ⟨rfl, hw⟩
  subst hw
  rw [HOK.out]
  go_wp2_with fail
  go_ret3
  exact ⟨rfl, HM.out.bel⟩
set_option maxRecDepth 100000 in
set_option maxHeartbeats 8000000 in
theorem dLocal_ok (aC : Option Addr) (nC cC : Nat) (aH : Option Addr) (nH cH : Nat) (c : Cal) (m : Int) (w : World) (HC : Hid (RdCal w aC nC aH nH c)) (hv : calB c = true) (ho : amB m 0 52560000 = true) : Calls Tryz.prog 108 #[.agg #[.int .i64 c.off, .slice aC nC cC, .slice aH nH cH], .int .i64 m] w fun e w' => e = .returned (.tuple #[.int .i64 (locD c m), .int .i64 (locM c m), .int .i64 0]) ∧ Below w.heap.size w w' := by
  have HD : Hid (locD c m = (m + offAt c m) / 1440 ∧ locM c m = (m + offAt c m) % 1440) := Lib.hid ⟨rfl, rfl⟩
  obtain ⟨dd, hdd⟩ : ∃ d, d = locD c m := ⟨_, rfl⟩
  obtain ⟨mm, hmm⟩ : ∃ d, d = locM c m := ⟨_, rfl⟩
  rw [← hdd, ← hmm] at HD ⊢
  clear hdd hmm
  have HV := Lib.hid hv
  have HO := Lib.hid ho
  have HCB := Lib.hid (calB_iff.1 hv)
  clear hv ho
  have hm := amB_of HO.out
  obtain ⟨hm0, hm1⟩ := hm
  have HLN : Hid (nC ≤ 16 ∧ nH ≤ 32) := Lib.hid (by rw [← HC.out.l1, ← HC.out.l2]; exact ⟨HCB.out.1, HCB.out.2.1⟩)
  have hm0 := CalM.box (cC := cC) (cH := cH) HC.out
  obtain ⟨W0, hW0⟩ : ∃ W0, W0 = w.alloc (.cells #[.int .i64 c.off, .slice aC nC cC, .slice aH nH cH] 28) := ⟨_, rfl⟩
  rw [← hW0] at hm0
  obtain ⟨X, hX⟩ : ∃ X, X = w.heap.size := ⟨_, rfl⟩
  have HM : Hid (CalM w W0 X aC nC cC aH nH cH c) := Lib.hid (by rw [hX]; exact hm0)
  have HW0 := Lib.hid hW0
  have HX0 := Lib.hid hX
  clear hm0 hW0 hX
  go_enter Tryz.func108, Tryz.ntmps108
  go_upto_region 1 with (fail)
  rw [← HW0.out, ← HX0.out]
  clear HW0 HX0
  obtain ⟨k0, k1, k2⟩ : W0.cell? ⟨X, 0, none⟩ = some (.int .i64 c.off) ∧ W0.cell? ⟨X, 1, none⟩ = some (.slice aC nC cC) ∧ W0.cell? ⟨X, 2, none⟩ = some (.slice aH nH cH) := ⟨HM.out.k0, HM.out.k1, HM.out.k2⟩
  have hlX : X < W0.heap.size := World.block_lt_of_cell? W0 _ k0
  go_wp2_with fail
  refine (dValid_any aC nC cC aH nH cH c _ (Lib.hid HM.out.rd)).mono ?_
  rintro e w1 ⟨rfl, hb1⟩
  have HM := Lib.hid (HM.out.keep (hb1))
  clear hb1 k0 k1 k2 hlX
  rw [HV.out]
  obtain ⟨k0, k1, k2⟩ : w1.cell? ⟨X, 0, none⟩ = some (.int .i64 c.off) ∧ w1.cell? ⟨X, 1, none⟩ = some (.slice aC nC cC) ∧ w1.cell? ⟨X, 2, none⟩ = some (.slice aH nH cH) := ⟨HM.out.k0, HM.out.k1, HM.out.k2⟩
  have hlX : X < w1.heap.size := World.block_lt_of_cell? w1 _ k0
  go_wp2_with fail
  refine (dInside_any m 0 52560000 _).mono ?_
  rintro e w2 ⟨rfl, hw⟩
  subst hw
  rw [HO.out]
  go_wp2_with fail
  refine (dKeys_any _).mono ?_
  rintro e w3 ⟨rfl, hw⟩
  subst hw
  go_wp2_with fail
  refine (dLastC_any aC nC cC c.chs m _ HM.out.rd.r1 HM.out.rd.l1 (by have := HLN.out; omega)).mono ?_
  rintro e w4 ⟨rfl, hb1⟩
  have HM := Lib.hid (HM.out.keep (hb1))
  clear hb1 k0 k1 k2 hlX
  obtain ⟨k0, k1, k2⟩ : w4.cell? ⟨X, 0, none⟩ = some (.int .i64 c.off) ∧ w4.cell? ⟨X, 1, none⟩ = some (.slice aC nC cC) ∧ w4.cell? ⟨X, 2, none⟩ = some (.slice aH nH cH) := ⟨HM.out.k0, HM.out.k1, HM.out.k2⟩
  have hlX : X < w4.heap.size := World.block_lt_of_cell? w4 _ k0
  obtain ⟨i, hi⟩ : ∃ i, i = lastI (c.chs.map (·.pos)) m := ⟨_, rfl⟩
  have HOF : Hid (offAt c m = if 0 ≤ i then (c.chs[i.toNat]?.map (·.off)).getD 0 else c.off) := Lib.hid (by rw [hi]; rfl)
  have HIB : Hid (-1 ≤ i ∧ i < nC) := Lib.hid (by rw [hi]; have := lastI_bd (c.chs.map (·.pos)) m; rw [List.length_map, HM.out.rd.l1] at this; exact this)
  rw [← hi]
  clear hi
  obtain ⟨oo, hoo⟩ : ∃ o, o = offAt c m := ⟨_, rfl⟩
  rw [← hoo] at HD HOF
  clear hoo
  by_cases h0 : 0 ≤ i
  · obtain ⟨k, rfl⟩ := Int.eq_ofNat_of_zero_le h0
    have hkn : (k : Int) < (nC : Int) := HIB.out.2
    obtain ⟨b, off, x, hA, hbl, hgx, hc0, hc1⟩ := rdChng_at HM.out.rd.r1 (show k < c.chs.length by rw [HM.out.rd.l1]; omega)
    have HOO : Hid (oo = x.off) := Lib.hid (by rw [HOF.out, if_pos h0, Int.toNat_natCast, hgx]; rfl)
    have hxb : -1440 ≤ x.off ∧ x.off ≤ 1440 := amB_of (HCB.out.2.2.2.1 x (List.mem_of_getElem? hgx))
    obtain ⟨hx1, hx2⟩ := hxb
    clear hgx HOF
    subst hA
    go_wp2_with fail
    refine (dSplit1440_any (m + x.off) _ (by omega) (by omega)).mono ?_
    rintro e w5 ⟨rfl, hb1⟩
    have HB5 := Lib.hid (HM.out.bel.trans (hb1.mono HM.out.bel.size))
    clear hb1
    rw [← HOO.out, ← HD.out.1, ← HD.out.2]
    go_wp2_with fail
    go_ret3
    exact ⟨rfl, HB5.out⟩
  · have HOO : Hid (oo = c.off) := Lib.hid (by rw [HOF.out, if_neg h0])
    have hxb : -1440 ≤ c.off ∧ c.off ≤ 1440 := amB_of HCB.out.2.2.1
    obtain ⟨hx1, hx2⟩ := hxb
    clear HOF
    go_wp2_with fail
    refine (dSplit1440_any (m + c.off) _ (by omega) (by omega)).mono ?_
    rintro e w5 ⟨rfl, hb1⟩
    have HB5 := Lib.hid (HM.out.bel.trans (hb1.mono HM.out.bel.size))
    clear hb1
    rw [← HOO.out, ← HD.out.1, ← HD.out.2]
    go_wp2_with fail
    go_ret3
    exact ⟨rfl, HB5.out⟩
set_option maxRecDepth 100000 in
set_option maxHeartbeats 8000000 in
theorem dType_ok (aC : Option Addr) (nC cC : Nat) (aH : Option Addr) (nH cH : Nat) (c : Cal) (d : Int) (w : World) (HC : Hid (RdCal w aC nC aH nH c)) (hv : calB c = true) (ho : amB d (-1) 36501 = true) : Calls Tryz.prog 109 #[.agg #[.int .i64 c.off, .slice aC nC cC, .slice aH nH cH], .int .i64 d] w fun e w' => e = .returned (.tuple #[.int .i64 (typeV c d), .int .i64 0]) ∧ Below w.heap.size w w' := by
  have HT : Hid (typeV c d = if holB c d then 2 else weekV (d % 7)) := Lib.hid rfl
  obtain ⟨tt, htt⟩ : ∃ t, t = typeV c d := ⟨_, rfl⟩
  rw [← htt] at HT ⊢
  clear htt
  have HV := Lib.hid hv
  have HO := Lib.hid ho
  have HCB := Lib.hid (calB_iff.1 hv)
  have hd := amB_of ho
  obtain ⟨hd0, hd1⟩ := hd
  clear hv ho
  have HLN : Hid (nC ≤ 16 ∧ nH ≤ 32) := Lib.hid (by rw [← HC.out.l1, ← HC.out.l2]; exact ⟨HCB.out.1, HCB.out.2.1⟩)
  have hm0 := CalM.box (cC := cC) (cH := cH) HC.out
  obtain ⟨W0, hW0⟩ : ∃ W0, W0 = w.alloc (.cells #[.int .i64 c.off, .slice aC nC cC, .slice aH nH cH] 28) := ⟨_, rfl⟩
  rw [← hW0] at hm0
  obtain ⟨X, hX⟩ : ∃ X, X = w.heap.size := ⟨_, rfl⟩
  have HM : Hid (CalM w W0 X aC nC cC aH nH cH c) := Lib.hid (by rw [hX]; exact hm0)
  have HW0 := Lib.hid hW0
  have HX0 := Lib.hid hX
  clear hm0 hW0 hX
  go_enter Tryz.func109, Tryz.ntmps109
  go_upto_region 1 with (fail)
  rw [← HW0.out, ← HX0.out]
  clear HW0 HX0
  obtain ⟨k0, k1, k2⟩ : W0.cell? ⟨X, 0, none⟩ = some (.int .i64 c.off) ∧ W0.cell? ⟨X, 1, none⟩ = some (.slice aC nC cC) ∧ W0.cell? ⟨X, 2, none⟩ = some (.slice aH nH cH) := ⟨HM.out.k0, HM.out.k1, HM.out.k2⟩
  have hlX : X < W0.heap.size := World.block_lt_of_cell? W0 _ k0
  go_wp2_with fail
  refine (dValid_any aC nC cC aH nH cH c _ (Lib.hid HM.out.rd)).mono ?_
  rintro e w1 ⟨rfl, hb1⟩
  have HM := Lib.hid (HM.out.keep (hb1))
  clear hb1 k0 k1 k2 hlX
  rw [HV.out]
  obtain ⟨k0, k1, k2⟩ : w1.cell? ⟨X, 0, none⟩ = some (.int .i64 c.off) ∧ w1.cell? ⟨X, 1, none⟩ = some (.slice aC nC cC) ∧ w1.cell? ⟨X, 2, none⟩ = some (.slice aH nH cH) := ⟨HM.out.k0, HM.out.k1, HM.out.k2⟩
  have hlX : X < w1.heap.size := World.block_lt_of_cell? w1 _ k0
  go_wp2_with fail
  refine (dInside_any d (-1) 36501 _).mono ?_
  rintro e w2 ⟨rfl, hw⟩
  subst hw
  rw [HO.out]
  go_wp2_with fail
  refine (dKeys_any _).mono ?_
  rintro e w3 ⟨rfl, hw⟩
  subst hw
  go_wp2_with fail
  refine (dLastI_any aH nH cH c.hol d _ HM.out.rd.r2 HM.out.rd.l2 (by have := HLN.out; omega)).mono ?_
  rintro e w4 ⟨rfl, hb1⟩
  have HM := Lib.hid (HM.out.keep (hb1))
  clear hb1 k0 k1 k2 hlX
  obtain ⟨k0, k1, k2⟩ : w4.cell? ⟨X, 0, none⟩ = some (.int .i64 c.off) ∧ w4.cell? ⟨X, 1, none⟩ = some (.slice aC nC cC) ∧ w4.cell? ⟨X, 2, none⟩ = some (.slice aH nH cH) := ⟨HM.out.k0, HM.out.k1, HM.out.k2⟩
  have hlX : X < w4.heap.size := World.block_lt_of_cell? w4 _ k0
  obtain ⟨i, hi⟩ : ∃ i, i = lastI c.hol d := ⟨_, rfl⟩
  have HOF : Hid (holB c d = decide (0 ≤ i ∧ c.hol[i.toNat]?.getD 0 = d)) := Lib.hid (by rw [hi]; rfl)
  have HIB : Hid (-1 ≤ i ∧ i < nH) := Lib.hid (by rw [hi]; have := lastI_bd c.hol d; rw [HM.out.rd.l2] at this; exact this)
  rw [← hi]
  clear hi
  have HB4 := Lib.hid HM.out.bel
  have hrest : holB c d = false → ∀ K, (Hid (tt = weekV (d % 7)) → K) → K := fun h K k => k (Lib.hid (by rw [HT.out, h]; rfl))
  have HREST := Lib.hid hrest
  clear hrest
  by_cases h0 : 0 ≤ i
  · obtain ⟨k, rfl⟩ := Int.eq_ofNat_of_zero_le h0
    have hkn : (k : Int) < (nH : Int) := HIB.out.2
    obtain ⟨b, off, x, hA, hbl, hgx, hc0⟩ := rdI_at HM.out.rd.r2 (show k < c.hol.length by rw [HM.out.rd.l2]; omega)
    have HG : Hid (holB c d = decide (x = d)) := Lib.hid (by rw [HOF.out, Int.toNat_natCast, hgx]; simp [h0])
    clear hgx HOF
    subst hA
    by_cases hxd : x = d
    · have hxb : (x == d) = true := by rw [hxd]; simp
      have HTT : Hid (tt = 2) := Lib.hid (by rw [HT.out, HG.out, decide_eq_true hxd]; rfl)
      clear hxd HREST
      go_wp2_with fail
      go_ret2
      exact ⟨by rw [HTT.out]; rfl, HB4.out⟩
    · have hxb : (x == d) = false := by simpa using hxd
      have HTT : Hid (tt = weekV (d % 7)) := Lib.hid (by rw [HT.out, HG.out, decide_eq_false hxd]; rfl)
      clear hxd HREST
      go_wp2_with fail
      refine (dWeek_any _).mono ?_
      rintro e w5 ⟨rfl, hb1⟩
      have HM := Lib.hid (HM.out.keep (hb1))
      clear hb1 k0 k1 k2 hlX
      go_wp2_with fail
      refine (dSplit7_any d _ (by omega) (by omega)).mono ?_
      rintro e w6 ⟨rfl, hb1⟩
      have HMB := Lib.hid (HM.out.bel.trans (((Below.refl _ w5).alloc (Nat.le_refl _) (.cells #[.int .i64 0, .int .i64 0, .int .i64 0, .int .i64 0, .int .i64 0, .int .i64 1, .int .i64 2] 166)).mono HM.out.bel.size))
      have HB5 := Lib.hid (HMB.out.trans (hb1.mono HMB.out.size))
      have hl5 : w5.heap.size < w6.heap.size := Nat.lt_of_lt_of_le (by simp) hb1.size
      have hc5 : ∀ j : Nat, j < 7 → w6.cell? ⟨w5.heap.size, j, none⟩ = some (.int .i64 (weekV j)) := fun j hj => (hb1.cell (p := ⟨w5.heap.size, j, none⟩) (by simp)).trans (by
        match j, hj with
        | 0, _ => go_simp; rfl
        | 1, _ => go_simp; rfl
        | 2, _ => go_simp; rfl
        | 3, _ => go_simp; rfl
        | 4, _ => go_simp; rfl
        | 5, _ => go_simp; rfl
        | 6, _ => go_simp; rfl)
      clear hb1
      obtain ⟨r, hr⟩ : ∃ r : Nat, d % 7 = (r : Int) := ⟨(d % 7).toNat, by omega⟩
      rw [hr] at HTT ⊢
      have hr7 : (r : Int) < 7 := by omega
      have hcr := hc5 r (by omega)
      rw [← HTT.out] at hcr
      clear hc5 hr HMB
      go_wp2_with fail
      go_ret2
      exact ⟨rfl, HB5.out⟩
  · have HTT : Hid (tt = weekV (d % 7)) := HREST.out (by rw [HOF.out, decide_eq_false (fun h => h0 h.1)]) _ id
    clear HREST HOF
    go_wp2_with fail
    refine (dWeek_any _).mono ?_
    rintro e w5 ⟨rfl, hb1⟩
    have HM := Lib.hid (HM.out.keep (hb1))
    clear hb1 k0 k1 k2 hlX
    go_wp2_with fail
    refine (dSplit7_any d _ (by omega) (by omega)).mono ?_
    rintro e w6 ⟨rfl, hb1⟩
    have HMB := Lib.hid (HM.out.bel.trans (((Below.refl _ w5).alloc (Nat.le_refl _) (.cells #[.int .i64 0, .int .i64 0, .int .i64 0, .int .i64 0, .int .i64 0, .int .i64 1, .int .i64 2] 166)).mono HM.out.bel.size))
    have HB5 := Lib.hid (HMB.out.trans (hb1.mono HMB.out.size))
    have hl5 : w5.heap.size < w6.heap.size := Nat.lt_of_lt_of_le (by simp) hb1.size
    have hc5 : ∀ j : Nat, j < 7 → w6.cell? ⟨w5.heap.size, j, none⟩ = some (.int .i64 (weekV j)) := fun j hj => (hb1.cell (p := ⟨w5.heap.size, j, none⟩) (by simp)).trans (by
      match j, hj with
      | 0, _ => go_simp; rfl
      | 1, _ => go_simp; rfl
      | 2, _ => go_simp; rfl
      | 3, _ => go_simp; rfl
      | 4, _ => go_simp; rfl
      | 5, _ => go_simp; rfl
      | 6, _ => go_simp; rfl)
    clear hb1
    obtain ⟨r, hr⟩ : ∃ r : Nat, d % 7 = (r : Int) := ⟨(d % 7).toNat, by omega⟩
    rw [hr] at HTT ⊢
    have hr7 : (r : Int) < 7 := by omega
    have hcr := hc5 r (by omega)
    rw [← HTT.out] at hcr
    clear hc5 hr HMB
    go_wp2_with fail
    go_ret2
    exact ⟨rfl, HB5.out⟩
end Go.Proofs.YtoekpdnpncgeeaaGreat
/-
Package tariff: which articles are valid, and in which minutes they apply.
-/
namespace Go.Proofs.YtoekpdnpncgeeaaGreat
open Go.RowKit
set_option linter.unusedVariables false
set_option linter.unusedSimpArgs false
theorem CalM.box2 {w W : World} {aC aH : Option Addr} {nC cC nH cH : Nat} {c : Cal} (hb : Below w.heap.size w W) (h : RdCal W aC nC aH nH c) : CalM w (W.alloc (.cells #[.int .i64 c.off, .slice aC nC cC, .slice aH nH cH] 28)) W.heap.size aC nC cC aH nH cH c :=
  have hb1 : Below W.heap.size W (W.alloc (.cells #[.int .i64 c.off, .slice aC nC cC, .slice aH nH cH] 28)) := (Below.refl _ _).alloc (Nat.le_refl _) _
  ⟨hb.trans (hb1.mono hb.size), by go_simp, by go_simp, by go_simp, h.keep hb1⟩
structure ArtM (w W : World) (Y : Nat) (a : Art) : Prop where
  bel : Below w.heap.size w W
  k0 : W.cell? ⟨Y, 0, none⟩ = some (.int .i64 a.kind)
  k1 : W.cell? ⟨Y, 1, none⟩ = some (.int .i64 a.days)
  k2 : W.cell? ⟨Y, 2, none⟩ = some (.int .i64 a.frm)
  k3 : W.cell? ⟨Y, 3, none⟩ = some (.int .i64 a.till)
  k4 : W.cell? ⟨Y, 4, none⟩ = some (.int .i64 a.price)
  k5 : W.cell? ⟨Y, 5, none⟩ = some (.int .i64 a.unit)
  k6 : W.cell? ⟨Y, 6, none⟩ = some (.int .i64 a.free)
theorem ArtM.keep {w W W' : World} {Y : Nat} {a : Art} (h : ArtM w W Y a) (hb : Below W.heap.size W W') : ArtM w W' Y a :=
  ⟨h.bel.trans (hb.mono h.bel.size), (hb.cell (p := ⟨Y, 0, none⟩) (World.block_lt_of_cell? _ _ h.k0)).trans h.k0, (hb.cell (p := ⟨Y, 1, none⟩) (World.block_lt_of_cell? _ _ h.k1)).trans h.k1, (hb.cell (p := ⟨Y, 2, none⟩) (World.block_lt_of_cell? _ _ h.k2)).trans h.k2, (hb.cell (p := ⟨Y, 3, none⟩) (World.block_lt_of_cell? _ _ h.k3)).trans h.k3, (hb.cell (p := ⟨Y, 4, none⟩) (World.block_lt_of_cell? _ _ h.k4)).trans h.k4, (hb.cell (p := ⟨Y, 5, none⟩) (World.block_lt_of_cell? _ _ h.k5)).trans h.k5, (hb.cell (p := ⟨Y, 6, none⟩) (World.block_lt_of_cell? _ _ h.k6)).trans h.k6⟩
theorem ArtM.box {w W : World} {a : Art} (hb : Below w.heap.size w W) : ArtM w (W.alloc (.cells #[.int .i64 a.kind, .int .i64 a.days, .int .i64 a.frm, .int .i64 a.till, .int .i64 a.price, .int .i64 a.unit, .int .i64 a.free] 49)) W.heap.size a :=
  have hb1 : Below W.heap.size W (W.alloc (.cells #[.int .i64 a.kind, .int .i64 a.days, .int .i64 a.frm, .int .i64 a.till, .int .i64 a.price, .int .i64 a.unit, .int .i64 a.free] 49)) := (Below.refl _ _).alloc (Nat.le_refl _) _
  ⟨hb.trans (hb1.mono hb.size), by go_simp, by go_simp, by go_simp, by go_simp, by go_simp, by go_simp, by go_simp⟩
theorem offAt_bd {c : Cal} {m : Int} (h : calB c = true) : -1440 ≤ offAt c m ∧ offAt c m ≤ 1440 := by
  obtain ⟨h1, h2, h3, h4, h5, h6⟩ := calB_iff.1 h
  unfold offAt
  split
  · cases hx : c.chs[(lastI (c.chs.map (·.pos)) m).toNat]? with
    | none => simp
    | some x => exact amB_of (h4 x (List.mem_of_getElem? hx))
  · exact amB_of h3
theorem locD_bd {c : Cal} {m : Int} (h : calB c = true) (hm : amB m 0 52560000 = true) : amB (locD c m) (-1) 36501 = true := by
  have h1 := offAt_bd (m := m) h
  have h2 := amB_of hm
  unfold locD
  exact amB_true (by omega) (by omega)
theorem typeV_three (c : Cal) (d : Int) : typeV c d = 0 ∨ typeV c d = 1 ∨ typeV c d = 2 := by
  unfold typeV weekV
  split
  · exact .inr (.inr rfl)
  · split
    · exact .inr (.inr rfl)
    · split
      · exact .inr (.inl rfl)
      · exact .inl rfl
theorem art_days {a : Art} (h : artB a = true) : a.days = 1 ∨ a.days = 2 ∨ a.days = 3 ∨ a.days = 4 ∨ a.days = 5 ∨ a.days = 6 ∨ a.days = 7 := by
  unfold artB at h
  simp only [Bool.and_eq_true] at h
  have := amB_of h.2.2.2.1
  omega
theorem tfInside_any (n a b : Int) (w : World) : Calls Tryz.prog 67 #[.int .i64 n, .int .i64 a, .int .i64 b] w fun e w' => e = .returned (.bool (amB n a b)) ∧ w' = w := by
  by_cases h1 : a ≤ n
  · by_cases h2 : n ≤ b
    · rw [amB_true h1 h2]
      go_enter Tryz.func67, Tryz.ntmps67
      go_wp2
      go_ret
      exact ⟨rfl, rfl⟩
    · rw [amB_false (fun h => h2 h.2)]
      go_enter Tryz.func67, Tryz.ntmps67
      go_wp2
      go_ret
      exact ⟨rfl, rfl⟩
  · rw [amB_false (fun h => h1 h.1)]
    go_enter Tryz.func67, Tryz.ntmps67
    go_wp2
    go_ret
    exact ⟨rfl, rfl⟩
theorem tfWhole_any (k : Int) (w : World) : Calls Tryz.prog 68 #[.int .i64 k] w fun e w' => e = .returned (.bool (wholeB k)) ∧ w' = w := by
  have HF : Hid (wholeB k = ((k == 5) || (k == 6))) := Lib.hid rfl
  obtain ⟨z, hz⟩ : ∃ z, (k == 5) = z := ⟨_, rfl⟩
  obtain ⟨z2, hz2⟩ : ∃ z, (k == 6) = z := ⟨_, rfl⟩
  rw [hz, hz2] at HF
  rw [HF.out]
  clear HF
  go_enter Tryz.func68, Tryz.ntmps68
  cases z <;> cases z2
  all_goals
    go_wp2_with fail
    go_ret
    exact ⟨rfl, rfl⟩
theorem tfTime_any (k : Int) (w : World) : Calls Tryz.prog 69 #[.int .i64 k] w fun e w' => e = .returned (.bool (timeB k)) ∧ w' = w := by
  have HF : Hid (timeB k = ((k == 3) || (k == 4))) := Lib.hid rfl
  obtain ⟨z, hz⟩ : ∃ z, (k == 3) = z := ⟨_, rfl⟩
  obtain ⟨z2, hz2⟩ : ∃ z, (k == 4) = z := ⟨_, rfl⟩
  rw [hz, hz2] at HF
  rw [HF.out]
  clear HF
  go_enter Tryz.func69, Tryz.ntmps69
  cases z <;> cases z2
  all_goals
    go_wp2_with fail
    go_ret
    exact ⟨rfl, rfl⟩
set_option maxRecDepth 100000 in
set_option maxHeartbeats 8000000 in
theorem tfArt_any (a : Art) (w : World) : Calls Tryz.prog 36 #[.agg #[.int .i64 a.kind, .int .i64 a.days, .int .i64 a.frm, .int .i64 a.till, .int .i64 a.price, .int .i64 a.unit, .int .i64 a.free]] w fun e w' => e = .returned (.bool (artB a)) ∧ Below w.heap.size w w' := by
  obtain ⟨R, hR⟩ : ∃ R, R = artB a := ⟨_, rfl⟩
  have HR : Hid (R = (amB a.kind 1 6 && (amB a.frm 0 1439 && (amB a.till (a.frm + 1) 1440 && (amB a.days 1 7 && ((!wholeB a.kind || (a.frm == 0 && (a.till == 1440 && a.days == 7))) && (amB a.price 0 (mostV a.kind) && (if timeB a.kind then amB a.unit 1 1440 && amB a.free 0 1440 else a.unit == 0 && a.free == 0)))))))) := Lib.hid (by rw [hR]; rfl)
  rw [← hR]
  clear hR
  obtain ⟨W0, hW0⟩ : ∃ W0, W0 = w.alloc (.cells #[.int .i64 a.kind, .int .i64 a.days, .int .i64 a.frm, .int .i64 a.till, .int .i64 a.price, .int .i64 a.unit, .int .i64 a.free] 49) := ⟨_, rfl⟩
  obtain ⟨Y, hY⟩ : ∃ Y, Y = w.heap.size := ⟨_, rfl⟩
  have HA : Hid (ArtM w W0 Y a) := Lib.hid (by rw [hW0, hY]; exact ArtM.box (Below.refl _ _))
  have HW0 := Lib.hid hW0
  have HY0 := Lib.hid hY
  clear hW0 hY
  go_enter Tryz.func36, Tryz.ntmps36
  go_upto_region 1 with (fail)
  rw [← HW0.out, ← HY0.out]
  clear HW0 HY0
  have HB := Lib.hid HA.out.bel
  obtain ⟨y0, y1, y2, y3, y4, y5, y6⟩ : W0.cell? ⟨Y, 0, none⟩ = some (.int .i64 a.kind) ∧ W0.cell? ⟨Y, 1, none⟩ = some (.int .i64 a.days) ∧ W0.cell? ⟨Y, 2, none⟩ = some (.int .i64 a.frm) ∧ W0.cell? ⟨Y, 3, none⟩ = some (.int .i64 a.till) ∧ W0.cell? ⟨Y, 4, none⟩ = some (.int .i64 a.price) ∧ W0.cell? ⟨Y, 5, none⟩ = some (.int .i64 a.unit) ∧ W0.cell? ⟨Y, 6, none⟩ = some (.int .i64 a.free) := ⟨HA.out.k0, HA.out.k1, HA.out.k2, HA.out.k3, HA.out.k4, HA.out.k5, HA.out.k6⟩
  have hlY : Y < W0.heap.size := World.block_lt_of_cell? W0 _ y0
  go_wp2_with fail
  refine (tfInside_any a.kind 1 6 _).mono ?_
  rintro e w1 ⟨rfl, hw⟩
  subst hw
  obtain ⟨q, hq⟩ : ∃ q, q = amB a.kind 1 6 := ⟨_, rfl⟩
  rw [← hq] at HR ⊢
  clear hq
  cases q
  · have HF : Hid (R = false) := Lib.hid (by rw [HR.out]; rfl)
    go_wp2_with fail
    go_ret
    exact ⟨ret_bool HF.out.symm, HB.out⟩
  have HR : Hid (R = ((amB a.frm 0 1439 && (amB a.till (a.frm + 1) 1440 && (amB a.days 1 7 && ((!wholeB a.kind || (a.frm == 0 && (a.till == 1440 && a.days == 7))) && (amB a.price 0 (mostV a.kind) && (if timeB a.kind then amB a.unit 1 1440 && amB a.free 0 1440 else a.unit == 0 && a.free == 0)))))))) := Lib.hid (by rw [HR.out]; rfl)
  go_wp2_with fail
  refine (tfInside_any a.frm 0 1439 _).mono ?_
  rintro e w1 ⟨rfl, hw⟩
  subst hw
  obtain ⟨q, hq⟩ : ∃ q, q = amB a.frm 0 1439 := ⟨_, rfl⟩
  rw [← hq] at HR ⊢
  cases q
  · have HF : Hid (R = false) := Lib.hid (by rw [HR.out]; rfl)
    go_wp2_with fail
    go_ret
    exact ⟨ret_bool HF.out.symm, HB.out⟩
  have HR : Hid (R = ((amB a.till (a.frm + 1) 1440 && (amB a.days 1 7 && ((!wholeB a.kind || (a.frm == 0 && (a.till == 1440 && a.days == 7))) && (amB a.price 0 (mostV a.kind) && (if timeB a.kind then amB a.unit 1 1440 && amB a.free 0 1440 else a.unit == 0 && a.free == 0))))))) := Lib.hid (by rw [HR.out]; rfl)
  have hfr := amB_of hq.symm
  obtain ⟨hf0, hf1⟩ := hfr
  clear hq
  go_wp2_with fail
  refine (tfInside_any a.till (a.frm + 1) 1440 _).mono ?_
  rintro e w1 ⟨rfl, hw⟩
  subst hw
  obtain ⟨q, hq⟩ : ∃ q, q = amB a.till (a.frm + 1) 1440 := ⟨_, rfl⟩
  rw [← hq] at HR ⊢
  clear hq
  cases q
  · have HF : Hid (R = false) := Lib.hid (by rw [HR.out]; rfl)
    go_wp2_with fail
    go_ret
    exact ⟨ret_bool HF.out.symm, HB.out⟩
  have HR : Hid (R = ((amB a.days 1 7 && ((!wholeB a.kind || (a.frm == 0 && (a.till == 1440 && a.days == 7))) && (amB a.price 0 (mostV a.kind) && (if timeB a.kind then amB a.unit 1 1440 && amB a.free 0 1440 else a.unit == 0 && a.free == 0)))))) := Lib.hid (by rw [HR.out]; rfl)
  go_wp2_with fail
  refine (tfInside_any a.days 1 7 _).mono ?_
  rintro e w1 ⟨rfl, hw⟩
  subst hw
  obtain ⟨q, hq⟩ : ∃ q, q = amB a.days 1 7 := ⟨_, rfl⟩
  rw [← hq] at HR ⊢
  clear hq
  cases q
  · have HF : Hid (R = false) := Lib.hid (by rw [HR.out]; rfl)
    go_wp2_with fail
    go_ret
    exact ⟨ret_bool HF.out.symm, HB.out⟩
  have HR : Hid (R = (((!wholeB a.kind || (a.frm == 0 && (a.till == 1440 && a.days == 7))) && (amB a.price 0 (mostV a.kind) && (if timeB a.kind then amB a.unit 1 1440 && amB a.free 0 1440 else a.unit == 0 && a.free == 0))))) := Lib.hid (by rw [HR.out]; rfl)
  go_wp2_with fail
  refine (tfWhole_any a.kind _).mono ?_
  rintro e w1 ⟨rfl, hw⟩
  subst hw
  obtain ⟨q, hq⟩ : ∃ q, q = wholeB a.kind := ⟨_, rfl⟩
  rw [← hq] at HR ⊢
  clear hq
  have HFIN : ∀ z : Bool, z = true → Hid (R = (z && (amB a.price 0 (mostV a.kind) && (if timeB a.kind then amB a.unit 1 1440 && amB a.free 0 1440 else a.unit == 0 && a.free == 0)))) → Hid (R = (amB a.price 0 (mostV a.kind) && (if timeB a.kind then amB a.unit 1 1440 && amB a.free 0 1440 else a.unit == 0 && a.free == 0))) := fun z h k => Lib.hid (by rw [k.out, h]; rfl)
  cases q
  · have HR : Hid (R = (amB a.price 0 (mostV a.kind) && (if timeB a.kind then amB a.unit 1 1440 && amB a.free 0 1440 else a.unit == 0 && a.free == 0))) := Lib.hid (by rw [HR.out]; rfl)
    clear HFIN
    obtain ⟨s6, hs6⟩ : ∃ q, (a.kind == 6) = q := ⟨_, rfl⟩
    have HS6 := Lib.hid hs6
    cases s6
    · have HMV : Hid (mostV a.kind = 1000000) := Lib.hid (by unfold mostV; rw [if_neg (by simpa using HS6.out)])
      rw [HMV.out] at HR
      go_wp2_with fail
      refine (tfInside_any a.price 0 1000000 _).mono ?_
      rintro e w1 ⟨rfl, hw⟩
      subst hw
      obtain ⟨q, hq⟩ : ∃ q, q = amB a.price 0 1000000 := ⟨_, rfl⟩
      rw [← hq] at HR ⊢
      clear hq
      cases q
      · have HF : Hid (R = false) := Lib.hid (by rw [HR.out]; rfl)
        go_wp2_with fail
        go_ret
        exact ⟨ret_bool HF.out.symm, HB.out⟩
      have HR : Hid (R = ((if timeB a.kind then amB a.unit 1 1440 && amB a.free 0 1440 else a.unit == 0 && a.free == 0))) := Lib.hid (by rw [HR.out]; rfl)
      go_wp2_with fail
      refine (tfTime_any a.kind _).mono ?_
      rintro e w1 ⟨rfl, hw⟩
      subst hw
      obtain ⟨q, hq⟩ : ∃ q, q = timeB a.kind := ⟨_, rfl⟩
      rw [← hq] at HR ⊢
      clear hq
      cases q
      · have HR : Hid (R = (a.unit == 0 && a.free == 0)) := Lib.hid (by rw [HR.out]; rfl)
        obtain ⟨q, hq⟩ : ∃ q, (a.unit == 0) = q := ⟨_, rfl⟩
        rw [hq] at HR
        cases q
        · have HF : Hid (R = false) := Lib.hid (by rw [HR.out]; rfl)
          go_wp2_with fail
          go_ret
          exact ⟨ret_bool HF.out.symm, HB.out⟩
        · have HR : Hid (R = (a.free == 0)) := Lib.hid (by rw [HR.out]; rfl)
          obtain ⟨q, hq2⟩ : ∃ q, (a.free == 0) = q := ⟨_, rfl⟩
          rw [hq2] at HR
          cases q
          · go_wp2_with fail
            go_ret
            exact ⟨ret_bool HR.out.symm, HB.out⟩
          · go_wp2_with fail
            go_ret
            exact ⟨ret_bool HR.out.symm, HB.out⟩
      · have HR : Hid (R = (amB a.unit 1 1440 && amB a.free 0 1440)) := Lib.hid (by rw [HR.out]; rfl)
        go_wp2_with fail
        refine (tfInside_any a.unit 1 1440 _).mono ?_
        rintro e w1 ⟨rfl, hw⟩
        subst hw
        obtain ⟨q, hq⟩ : ∃ q, q = amB a.unit 1 1440 := ⟨_, rfl⟩
        rw [← hq] at HR ⊢
        clear hq
        cases q
        · have HF : Hid (R = false) := Lib.hid (by rw [HR.out]; rfl)
          go_wp2_with fail
          go_ret
          exact ⟨ret_bool HF.out.symm, HB.out⟩
        have HR : Hid (R = (amB a.free 0 1440)) := Lib.hid (by rw [HR.out]; rfl)
        go_wp2_with fail
        refine (tfInside_any a.free 0 1440 _).mono ?_
        rintro e w1 ⟨rfl, hw⟩
        subst hw
        rw [← HR.out]
        go_wp2_with fail
        go_ret
        exact ⟨rfl, HB.out⟩
    · have HMV : Hid (mostV a.kind = 10000) := Lib.hid (by unfold mostV; rw [if_pos (by simpa using HS6.out)])
      rw [HMV.out] at HR
      go_wp2_with fail
      refine (tfInside_any a.price 0 10000 _).mono ?_
      rintro e w1 ⟨rfl, hw⟩
      subst hw
      obtain ⟨q, hq⟩ : ∃ q, q = amB a.price 0 10000 := ⟨_, rfl⟩
      rw [← hq] at HR ⊢
      clear hq
      cases q
      · have HF : Hid (R = false) := Lib.hid (by rw [HR.out]; rfl)
        go_wp2_with fail
        go_ret
        exact ⟨ret_bool HF.out.symm, HB.out⟩
      have HR : Hid (R = ((if timeB a.kind then amB a.unit 1 1440 && amB a.free 0 1440 else a.unit == 0 && a.free == 0))) := Lib.hid (by rw [HR.out]; rfl)
      go_wp2_with fail
      refine (tfTime_any a.kind _).mono ?_
      rintro e w1 ⟨rfl, hw⟩
      subst hw
      obtain ⟨q, hq⟩ : ∃ q, q = timeB a.kind := ⟨_, rfl⟩
      rw [← hq] at HR ⊢
      clear hq
      cases q
      · have HR : Hid (R = (a.unit == 0 && a.free == 0)) := Lib.hid (by rw [HR.out]; rfl)
        obtain ⟨q, hq⟩ : ∃ q, (a.unit == 0) = q := ⟨_, rfl⟩
        rw [hq] at HR
        cases q
        · have HF : Hid (R = false) := Lib.hid (by rw [HR.out]; rfl)
          go_wp2_with fail
          go_ret
          exact ⟨ret_bool HF.out.symm, HB.out⟩
        · have HR : Hid (R = (a.free == 0)) := Lib.hid (by rw [HR.out]; rfl)
          obtain ⟨q, hq2⟩ : ∃ q, (a.free == 0) = q := ⟨_, rfl⟩
          rw [hq2] at HR
          cases q
          · go_wp2_with fail
            go_ret
            exact ⟨ret_bool HR.out.symm, HB.out⟩
          · go_wp2_with fail
            go_ret
            exact ⟨ret_bool HR.out.symm, HB.out⟩
      · have HR : Hid (R = (amB a.unit 1 1440 && amB a.free 0 1440)) := Lib.hid (by rw [HR.out]; rfl)
        go_wp2_with fail
        refine (tfInside_any a.unit 1 1440 _).mono ?_
        rintro e w1 ⟨rfl, hw⟩
        subst hw
        obtain ⟨q, hq⟩ : ∃ q, q = amB a.unit 1 1440 := ⟨_, rfl⟩
        rw [← hq] at HR ⊢
        clear hq
        cases q
        · have HF : Hid (R = false) := Lib.hid (by rw [HR.out]; rfl)
          go_wp2_with fail
          go_ret
          exact ⟨ret_bool HF.out.symm, HB.out⟩
        have HR : Hid (R = (amB a.free 0 1440)) := Lib.hid (by rw [HR.out]; rfl)
        go_wp2_with fail
        refine (tfInside_any a.free 0 1440 _).mono ?_
        rintro e w1 ⟨rfl, hw⟩
        subst hw
        rw [← HR.out]
        go_wp2_with fail
        go_ret
        exact ⟨rfl, HB.out⟩
  · have HR : Hid (R = ((a.frm == 0 && (a.till == 1440 && a.days == 7)) && (amB a.price 0 (mostV a.kind) && (if timeB a.kind then amB a.unit 1 1440 && amB a.free 0 1440 else a.unit == 0 && a.free == 0)))) := Lib.hid (by rw [HR.out]; rfl)
    clear HFIN
    obtain ⟨z0, hz0⟩ : ∃ q, (a.frm == 0) = q := ⟨_, rfl⟩
    rw [hz0] at HR
    cases z0
    · have HF : Hid (R = false) := Lib.hid (by rw [HR.out]; simp)
      have hn0 : (a.frm != 0) = true := by unfold bne; rw [hz0]; rfl
      go_wp2_with fail
      go_ret
      exact ⟨ret_bool HF.out.symm, HB.out⟩
    have hn0 : (a.frm != 0) = false := by unfold bne; rw [hz0]; rfl
    obtain ⟨z1, hz1⟩ : ∃ q, (a.till == 1440) = q := ⟨_, rfl⟩
    rw [hz1] at HR
    cases z1
    · have HF : Hid (R = false) := Lib.hid (by rw [HR.out]; simp)
      have hn1 : (a.till != 1440) = true := by unfold bne; rw [hz1]; rfl
      go_wp2_with fail
      go_ret
      exact ⟨ret_bool HF.out.symm, HB.out⟩
    have hn1 : (a.till != 1440) = false := by unfold bne; rw [hz1]; rfl
    obtain ⟨z2, hz2⟩ : ∃ q, (a.days == 7) = q := ⟨_, rfl⟩
    rw [hz2] at HR
    cases z2
    · have HF : Hid (R = false) := Lib.hid (by rw [HR.out]; simp)
      have hn2 : (a.days != 7) = true := by unfold bne; rw [hz2]; rfl
      go_wp2_with fail
      go_ret
      exact ⟨ret_bool HF.out.symm, HB.out⟩
    have hn2 : (a.days != 7) = false := by unfold bne; rw [hz2]; rfl
    have HR : Hid (R = (amB a.price 0 (mostV a.kind) && (if timeB a.kind then amB a.unit 1 1440 && amB a.free 0 1440 else a.unit == 0 && a.free == 0))) := Lib.hid (by rw [HR.out]; rfl)
    obtain ⟨s6, hs6⟩ : ∃ q, (a.kind == 6) = q := ⟨_, rfl⟩
    have HS6 := Lib.hid hs6
    cases s6
    · have HMV : Hid (mostV a.kind = 1000000) := Lib.hid (by unfold mostV; rw [if_neg (by simpa using HS6.out)])
      rw [HMV.out] at HR
      go_wp2_with fail
      refine (tfInside_any a.price 0 1000000 _).mono ?_
      rintro e w1 ⟨rfl, hw⟩
      subst hw
      obtain ⟨q, hq⟩ : ∃ q, q = amB a.price 0 1000000 := ⟨_, rfl⟩
      rw [← hq] at HR ⊢
      clear hq
      cases q
      · have HF : Hid (R = false) := Lib.hid (by rw [HR.out]; rfl)
        go_wp2_with fail
        go_ret
        exact ⟨ret_bool HF.out.symm, HB.out⟩
      have HR : Hid (R = ((if timeB a.kind then amB a.unit 1 1440 && amB a.free 0 1440 else a.unit == 0 && a.free == 0))) := Lib.hid (by rw [HR.out]; rfl)
      go_wp2_with fail
      refine (tfTime_any a.kind _).mono ?_
      rintro e w1 ⟨rfl, hw⟩
      subst hw
      obtain ⟨q, hq⟩ : ∃ q, q = timeB a.kind := ⟨_, rfl⟩
      rw [← hq] at HR ⊢
      clear hq
      cases q
      · have HR : Hid (R = (a.unit == 0 && a.free == 0)) := Lib.hid (by rw [HR.out]; rfl)
        obtain ⟨q, hq⟩ : ∃ q, (a.unit == 0) = q := ⟨_, rfl⟩
        rw [hq] at HR
        cases q
        · have HF : Hid (R = false) := Lib.hid (by rw [HR.out]; rfl)
          go_wp2_with fail
          go_ret
          exact ⟨ret_bool HF.out.symm, HB.out⟩
        · have HR : Hid (R = (a.free == 0)) := Lib.hid (by rw [HR.out]; rfl)
          obtain ⟨q, hq2⟩ : ∃ q, (a.free == 0) = q := ⟨_, rfl⟩
          rw [hq2] at HR
          cases q
          · go_wp2_with fail
            go_ret
            exact ⟨ret_bool HR.out.symm, HB.out⟩
          · go_wp2_with fail
            go_ret
            exact ⟨ret_bool HR.out.symm, HB.out⟩
      · have HR : Hid (R = (amB a.unit 1 1440 && amB a.free 0 1440)) := Lib.hid (by rw [HR.out]; rfl)
        go_wp2_with fail
        refine (tfInside_any a.unit 1 1440 _).mono ?_
        rintro e w1 ⟨rfl, hw⟩
        subst hw
        obtain ⟨q, hq⟩ : ∃ q, q = amB a.unit 1 1440 := ⟨_, rfl⟩
        rw [← hq] at HR ⊢
        clear hq
        cases q
        · have HF : Hid (R = false) := Lib.hid (by rw [HR.out]; rfl)
          go_wp2_with fail
          go_ret
          exact ⟨ret_bool HF.out.symm, HB.out⟩
        have HR : Hid (R = (amB a.free 0 1440)) := Lib.hid (by rw [HR.out]; rfl)
        go_wp2_with fail
        refine (tfInside_any a.free 0 1440 _).mono ?_
        rintro e w1 ⟨rfl, hw⟩
        subst hw
        rw [← HR.out]
        go_wp2_with fail
        go_ret
        exact ⟨rfl, HB.out⟩
    · have HMV : Hid (mostV a.kind = 10000) := Lib.hid (by unfold mostV; rw [if_pos (by simpa using HS6.out)])
      rw [HMV.out] at HR
      go_wp2_with fail
      refine (tfInside_any a.price 0 10000 _).mono ?_
      rintro e w1 ⟨rfl, hw⟩
      subst hw
      obtain ⟨q, hq⟩ : ∃ q, q = amB a.price 0 10000 := ⟨_, rfl⟩
      rw [← hq] at HR ⊢
      clear hq
      cases q
      · have HF : Hid (R = false) := Lib.hid (by rw [HR.out]; rfl)
        go_wp2_with fail
        go_ret
        exact ⟨ret_bool HF.out.symm, HB.out⟩
      have HR : Hid (R = ((if timeB a.kind then amB a.unit 1 1440 && amB a.free 0 1440 else a.unit == 0 && a.free == 0))) := Lib.hid (by rw [HR.out]; rfl)
      go_wp2_with fail
      refine (tfTime_any a.kind _).mono ?_
      rintro e w1 ⟨rfl, hw⟩
      subst hw
      obtain ⟨q, hq⟩ : ∃ q, q = timeB a.kind := ⟨_, rfl⟩
      rw [← hq] at HR ⊢
      clear hq
      cases q
      · have HR : Hid (R = (a.unit == 0 && a.free == 0)) := Lib.hid (by rw [HR.out]; rfl)
        obtain ⟨q, hq⟩ : ∃ q, (a.unit == 0) = q := ⟨_, rfl⟩
        rw [hq] at HR
        cases q
        · have HF : Hid (R = false) := Lib.hid (by rw [HR.out]; rfl)
          go_wp2_with fail
          go_ret
          exact ⟨ret_bool HF.out.symm, HB.out⟩
        · have HR : Hid (R = (a.free == 0)) := Lib.hid (by rw [HR.out]; rfl)
          obtain ⟨q, hq2⟩ : ∃ q, (a.free == 0) = q := ⟨_, rfl⟩
          rw [hq2] at HR
          cases q
          · go_wp2_with fail
            go_ret
            exact ⟨ret_bool HR.out.symm, HB.out⟩
          · go_wp2_with fail
            go_ret
            exact ⟨ret_bool HR.out.symm, HB.out⟩
      · have HR : Hid (R = (amB a.unit 1 1440 && amB a.free 0 1440)) := Lib.hid (by rw [HR.out]; rfl)
        go_wp2_with fail
        refine (tfInside_any a.unit 1 1440 _).mono ?_
        rintro e w1 ⟨rfl, hw⟩
        subst hw
        obtain ⟨q, hq⟩ : ∃ q, q = amB a.unit 1 1440 := ⟨_, rfl⟩
        rw [← hq] at HR ⊢
        clear hq
        cases q
        · have HF : Hid (R = false) := Lib.hid (by rw [HR.out]; rfl)
          go_wp2_with fail
          go_ret
          exact ⟨ret_bool HF.out.symm, HB.out⟩
        have HR : Hid (R = (amB a.free 0 1440)) := Lib.hid (by rw [HR.out]; rfl)
        go_wp2_with fail
        refine (tfInside_any a.free 0 1440 _).mono ?_
        rintro e w1 ⟨rfl, hw⟩
        subst hw
        rw [← HR.out]
        go_wp2_with fail
        go_ret
        exact ⟨rfl, HB.out⟩
set_option maxRecDepth 100000 in
set_option maxHeartbeats 16000000 in
theorem tfApplies_any (a : Art) (aC : Option Addr) (nC cC : Nat) (aH : Option Addr) (nH cH : Nat) (c : Cal) (m : Int) (w : World) (HC : Hid (RdCal w aC nC aH nH c)) : Calls Tryz.prog 80 #[.agg #[.int .i64 a.kind, .int .i64 a.days, .int .i64 a.frm, .int .i64 a.till, .int .i64 a.price, .int .i64 a.unit, .int .i64 a.free], .agg #[.int .i64 c.off, .slice aC nC cC, .slice aH nH cH], .int .i64 m] w fun e w' => e = .returned (.bool (appB a c m)) ∧ Below w.heap.size w w' := by
  obtain ⟨R, hR⟩ : ∃ R, R = appB a c m := ⟨_, rfl⟩
  have HR : Hid (R = (artB a && (calB c && (amB m 0 52560000 && (decide (a.frm ≤ locM c m) && (decide (locM c m < a.till) && dayB a.days (typeV c (locD c m)))))))) := Lib.hid (by rw [hR]; rfl)
  rw [← hR]
  clear hR
  have HDB : Hid (calB c = true → amB m 0 52560000 = true → amB (locD c m) (-1) 36501 = true) := Lib.hid locD_bd
  have HTY : Hid (typeV c (locD c m) = 0 ∨ typeV c (locD c m) = 1 ∨ typeV c (locD c m) = 2) := Lib.hid (typeV_three c _)
  obtain ⟨W1, hW1⟩ : ∃ W, W = w.alloc (.cells #[.int .i64 a.kind, .int .i64 a.days, .int .i64 a.frm, .int .i64 a.till, .int .i64 a.price, .int .i64 a.unit, .int .i64 a.free] 49) := ⟨_, rfl⟩
  obtain ⟨W0, hW0⟩ : ∃ W0, W0 = W1.alloc (.cells #[.int .i64 c.off, .slice aC nC cC, .slice aH nH cH] 28) := ⟨_, rfl⟩
  obtain ⟨Y, hY⟩ : ∃ Y, Y = w.heap.size := ⟨_, rfl⟩
  obtain ⟨X, hX⟩ : ∃ X, X = w.heap.size + 1 := ⟨_, rfl⟩
  have hb1 : Below w.heap.size w W1 := by rw [hW1]; exact (Below.refl _ _).alloc (Nat.le_refl _) _
  have hs1 : W1.heap.size = w.heap.size + 1 := by rw [hW1]; simp
  have hm0 := CalM.box2 (cC := cC) (cH := cH) hb1 (HC.out.keep hb1)
  rw [← hW0, hs1, ← hX] at hm0
  have HM := Lib.hid hm0
  have HA : Hid (ArtM w W0 Y a) := Lib.hid (by rw [hW0, hW1, hY]; exact (ArtM.box (Below.refl _ _)).keep ((Below.refl _ _).alloc (Nat.le_refl _) _))
  have HW0 : Hid ((w.alloc (.cells #[.int .i64 a.kind, .int .i64 a.days, .int .i64 a.frm, .int .i64 a.till, .int .i64 a.price, .int .i64 a.unit, .int .i64 a.free] 49)).alloc (.cells #[.int .i64 c.off, .slice aC nC cC, .slice aH nH cH] 28) = W0) := Lib.hid (by rw [hW0, hW1])
  have HY0 := Lib.hid hY
  have HX0 := Lib.hid hX
  clear hW0 hW1 hY hX hb1 hs1 hm0
  go_enter Tryz.func80, Tryz.ntmps80
  go_upto_region 1 with (fail)
  try simp only [World.size_alloc]
  rw [HW0.out, ← HX0.out, ← HY0.out]
  clear HW0 HY0 HX0
  obtain ⟨y0, y1, y2, y3, y4, y5, y6⟩ : W0.cell? ⟨Y, 0, none⟩ = some (.int .i64 a.kind) ∧ W0.cell? ⟨Y, 1, none⟩ = some (.int .i64 a.days) ∧ W0.cell? ⟨Y, 2, none⟩ = some (.int .i64 a.frm) ∧ W0.cell? ⟨Y, 3, none⟩ = some (.int .i64 a.till) ∧ W0.cell? ⟨Y, 4, none⟩ = some (.int .i64 a.price) ∧ W0.cell? ⟨Y, 5, none⟩ = some (.int .i64 a.unit) ∧ W0.cell? ⟨Y, 6, none⟩ = some (.int .i64 a.free) := ⟨HA.out.k0, HA.out.k1, HA.out.k2, HA.out.k3, HA.out.k4, HA.out.k5, HA.out.k6⟩
  have hlY : Y < W0.heap.size := World.block_lt_of_cell? W0 _ y0
  obtain ⟨k0, k1, k2⟩ : W0.cell? ⟨X, 0, none⟩ = some (.int .i64 c.off) ∧ W0.cell? ⟨X, 1, none⟩ = some (.slice aC nC cC) ∧ W0.cell? ⟨X, 2, none⟩ = some (.slice aH nH cH) := ⟨HM.out.k0, HM.out.k1, HM.out.k2⟩
  have hlX : X < W0.heap.size := World.block_lt_of_cell? W0 _ k0
  go_wp2_with fail
  refine (tfArt_any a _).mono ?_
  rintro e w1 ⟨rfl, hb1⟩
  have HA := Lib.hid (HA.out.keep (hb1))
  have HM := Lib.hid (HM.out.keep (hb1))
  clear hb1
  clear y0 y1 y2 y3 y4 y5 y6 hlY k0 k1 k2 hlX
  obtain ⟨y0, y1, y2, y3, y4, y5, y6⟩ : w1.cell? ⟨Y, 0, none⟩ = some (.int .i64 a.kind) ∧ w1.cell? ⟨Y, 1, none⟩ = some (.int .i64 a.days) ∧ w1.cell? ⟨Y, 2, none⟩ = some (.int .i64 a.frm) ∧ w1.cell? ⟨Y, 3, none⟩ = some (.int .i64 a.till) ∧ w1.cell? ⟨Y, 4, none⟩ = some (.int .i64 a.price) ∧ w1.cell? ⟨Y, 5, none⟩ = some (.int .i64 a.unit) ∧ w1.cell? ⟨Y, 6, none⟩ = some (.int .i64 a.free) := ⟨HA.out.k0, HA.out.k1, HA.out.k2, HA.out.k3, HA.out.k4, HA.out.k5, HA.out.k6⟩
  have hlY : Y < w1.heap.size := World.block_lt_of_cell? w1 _ y0
  obtain ⟨k0, k1, k2⟩ : w1.cell? ⟨X, 0, none⟩ = some (.int .i64 c.off) ∧ w1.cell? ⟨X, 1, none⟩ = some (.slice aC nC cC) ∧ w1.cell? ⟨X, 2, none⟩ = some (.slice aH nH cH) := ⟨HM.out.k0, HM.out.k1, HM.out.k2⟩
  have hlX : X < w1.heap.size := World.block_lt_of_cell? w1 _ k0
  obtain ⟨q, hq⟩ : ∃ q, q = artB a := ⟨_, rfl⟩
  rw [← hq] at HR ⊢
  have HAB := Lib.hid hq
  clear hq
  cases q
  · have HF : Hid (R = false) := Lib.hid (by rw [HR.out]; rfl)
    go_wp2_with fail
    go_ret
    exact ⟨ret_bool HF.out.symm, HM.out.bel⟩
  have HR : Hid (R = (calB c && (amB m 0 52560000 && (decide (a.frm ≤ locM c m) && (decide (locM c m < a.till) && dayB a.days (typeV c (locD c m))))))) := Lib.hid (by rw [HR.out]; rfl)
  go_wp2_with fail
  cases hok : (calB c && amB m 0 52560000)
  · have HF : Hid (R = false) := Lib.hid (by rw [HR.out, ← Bool.and_assoc, hok]; rfl)
    refine (dLocal_bad aC nC cC aH nH cH c m _ (Lib.hid HM.out.rd) hok).mono ?_
    rintro e w2 ⟨rfl, hb1⟩
    have HA := Lib.hid (HA.out.keep (hb1))
    have HM := Lib.hid (HM.out.keep (hb1))
    clear hb1 hok
    clear y0 y1 y2 y3 y4 y5 y6 hlY k0 k1 k2 hlX
    obtain ⟨y0, y1, y2, y3, y4, y5, y6⟩ : w2.cell? ⟨Y, 0, none⟩ = some (.int .i64 a.kind) ∧ w2.cell? ⟨Y, 1, none⟩ = some (.int .i64 a.days) ∧ w2.cell? ⟨Y, 2, none⟩ = some (.int .i64 a.frm) ∧ w2.cell? ⟨Y, 3, none⟩ = some (.int .i64 a.till) ∧ w2.cell? ⟨Y, 4, none⟩ = some (.int .i64 a.price) ∧ w2.cell? ⟨Y, 5, none⟩ = some (.int .i64 a.unit) ∧ w2.cell? ⟨Y, 6, none⟩ = some (.int .i64 a.free) := ⟨HA.out.k0, HA.out.k1, HA.out.k2, HA.out.k3, HA.out.k4, HA.out.k5, HA.out.k6⟩
    have hlY : Y < w2.heap.size := World.block_lt_of_cell? w2 _ y0
    obtain ⟨k0, k1, k2⟩ : w2.cell? ⟨X, 0, none⟩ = some (.int .i64 c.off) ∧ w2.cell? ⟨X, 1, none⟩ = some (.slice aC nC cC) ∧ w2.cell? ⟨X, 2, none⟩ = some (.slice aH nH cH) := ⟨HM.out.k0, HM.out.k1, HM.out.k2⟩
    have hlX : X < w2.heap.size := World.block_lt_of_cell? w2 _ k0
    go_wp2_with fail
    go_ret
    exact ⟨ret_bool HF.out.symm, HM.out.bel⟩
  obtain ⟨hcb, hmb⟩ := Bool.and_eq_true_iff.1 hok
  have HDB := Lib.hid (HDB.out hcb hmb)
  have HCB := Lib.hid hcb
  refine (dLocal_ok aC nC cC aH nH cH c m _ (Lib.hid HM.out.rd) hcb hmb).mono ?_
  rintro e w2 ⟨rfl, hb1⟩
  have HA := Lib.hid (HA.out.keep (hb1))
  have HM := Lib.hid (HM.out.keep (hb1))
  have HR : Hid (R = (decide (a.frm ≤ locM c m) && (decide (locM c m < a.till) && dayB a.days (typeV c (locD c m))))) := Lib.hid (by rw [HR.out, hcb, hmb]; rfl)
  clear hb1 hok hcb hmb
  clear y0 y1 y2 y3 y4 y5 y6 hlY k0 k1 k2 hlX
  obtain ⟨y0, y1, y2, y3, y4, y5, y6⟩ : w2.cell? ⟨Y, 0, none⟩ = some (.int .i64 a.kind) ∧ w2.cell? ⟨Y, 1, none⟩ = some (.int .i64 a.days) ∧ w2.cell? ⟨Y, 2, none⟩ = some (.int .i64 a.frm) ∧ w2.cell? ⟨Y, 3, none⟩ = some (.int .i64 a.till) ∧ w2.cell? ⟨Y, 4, none⟩ = some (.int .i64 a.price) ∧ w2.cell? ⟨Y, 5, none⟩ = some (.int .i64 a.unit) ∧ w2.cell? ⟨Y, 6, none⟩ = some (.int .i64 a.free) := ⟨HA.out.k0, HA.out.k1, HA.out.k2, HA.out.k3, HA.out.k4, HA.out.k5, HA.out.k6⟩
  have hlY : Y < w2.heap.size := World.block_lt_of_cell? w2 _ y0
  obtain ⟨k0, k1, k2⟩ : w2.cell? ⟨X, 0, none⟩ = some (.int .i64 c.off) ∧ w2.cell? ⟨X, 1, none⟩ = some (.slice aC nC cC) ∧ w2.cell? ⟨X, 2, none⟩ = some (.slice aH nH cH) := ⟨HM.out.k0, HM.out.k1, HM.out.k2⟩
  have hlX : X < w2.heap.size := World.block_lt_of_cell? w2 _ k0
  generalize locM c m = mm at *
  generalize locD c m = dd at *
  by_cases h1 : a.frm ≤ mm
  case neg =>
    have h1z : mm < a.frm := by omega
    have HF : Hid (R = false) := Lib.hid (by rw [HR.out, decide_eq_false h1]; rfl)
    go_wp2_with fail
    go_ret
    exact ⟨ret_bool HF.out.symm, HM.out.bel⟩
  by_cases h2 : mm < a.till
  case neg =>
    have h1z : ¬ mm < a.frm := by omega
    have h2z : a.till ≤ mm := by omega
    have HF : Hid (R = false) := Lib.hid (by rw [HR.out, decide_eq_false h2]; simp)
    go_wp2_with fail
    go_ret
    exact ⟨ret_bool HF.out.symm, HM.out.bel⟩
  have HR : Hid (R = dayB a.days (typeV c dd)) := Lib.hid (by rw [HR.out, decide_eq_true h1, decide_eq_true h2]; rfl)
  have h1z : ¬ mm < a.frm := by omega
  have h2z : ¬ a.till ≤ mm := by omega
  go_wp2_with fail
  refine (dType_ok aC nC cC aH nH cH c dd _ (Lib.hid HM.out.rd) HCB.out HDB.out).mono ?_
  rintro e w3 ⟨rfl, hb1⟩
  have HA := Lib.hid (HA.out.keep (hb1))
  have HM := Lib.hid (HM.out.keep (hb1))
  clear hb1
  clear y0 y1 y2 y3 y4 y5 y6 hlY k0 k1 k2 hlX
  obtain ⟨y0, y1, y2, y3, y4, y5, y6⟩ : w3.cell? ⟨Y, 0, none⟩ = some (.int .i64 a.kind) ∧ w3.cell? ⟨Y, 1, none⟩ = some (.int .i64 a.days) ∧ w3.cell? ⟨Y, 2, none⟩ = some (.int .i64 a.frm) ∧ w3.cell? ⟨Y, 3, none⟩ = some (.int .i64 a.till) ∧ w3.cell? ⟨Y, 4, none⟩ = some (.int .i64 a.price) ∧ w3.cell? ⟨Y, 5, none⟩ = some (.int .i64 a.unit) ∧ w3.cell? ⟨Y, 6, none⟩ = some (.int .i64 a.free) := ⟨HA.out.k0, HA.out.k1, HA.out.k2, HA.out.k3, HA.out.k4, HA.out.k5, HA.out.k6⟩
  have hlY : Y < w3.heap.size := World.block_lt_of_cell? w3 _ y0
  obtain ⟨k0, k1, k2⟩ : w3.cell? ⟨X, 0, none⟩ = some (.int .i64 c.off) ∧ w3.cell? ⟨X, 1, none⟩ = some (.slice aC nC cC) ∧ w3.cell? ⟨X, 2, none⟩ = some (.slice aH nH cH) := ⟨HM.out.k0, HM.out.k1, HM.out.k2⟩
  have hlX : X < w3.heap.size := World.block_lt_of_cell? w3 _ k0
  have HDY := Lib.hid (art_days HAB.out.symm)
  generalize typeV c dd = tt at *
  generalize a.days = ad at *
  have HB : Hid (Below w.heap.size w w3) := Lib.hid HM.out.bel
  clear HA HM HCB HDB HC HAB
  rcases HTY.out with rfl | rfl | rfl
  all_goals
    rcases HDY.out with rfl | rfl | rfl | rfl | rfl | rfl | rfl
    all_goals
      clear HTY HDY
      go_wp2_with fail
      go_region
      go_wp2_with fail
      go_ret
      exact ⟨ret_bool (by rw [HR.out]; rfl), below_drewG' HB.out⟩
end Go.Proofs.YtoekpdnpncgeeaaGreat
/-
tariff.Valid.
-/
namespace Go.Proofs.YtoekpdnpncgeeaaGreat
open Go.RowKit
set_option linter.unusedVariables false
set_option linter.unusedSimpArgs false
theorem rdArt_at {w : World} {A : Option Addr} {xs : List Art} (h : Rd 7 encArt w A xs) {k : Nat} (hk : k < xs.length) : ∃ b off a, A = some ⟨b, off, none⟩ ∧ b < w.heap.size ∧ xs[k]? = some a ∧ w.cell? ⟨b, off + k * 7, none⟩ = some (.int .i64 a.kind) ∧ w.cell? ⟨b, off + k * 7 + 1, none⟩ = some (.int .i64 a.days) ∧ w.cell? ⟨b, off + k * 7 + 2, none⟩ = some (.int .i64 a.frm) ∧ w.cell? ⟨b, off + k * 7 + 3, none⟩ = some (.int .i64 a.till) ∧ w.cell? ⟨b, off + k * 7 + 4, none⟩ = some (.int .i64 a.price) ∧ w.cell? ⟨b, off + k * 7 + 5, none⟩ = some (.int .i64 a.unit) ∧ w.cell? ⟨b, off + k * 7 + 6, none⟩ = some (.int .i64 a.free) := by
  obtain ⟨b, off, a, hA, hb, hx, hc⟩ := h.at_ hk
  exact ⟨b, off, a, hA, hb, hx, hc 0 _ rfl, hc 1 _ rfl, hc 2 _ rfl, hc 3 _ rfl, hc 4 _ rfl, hc 5 _ rfl, hc 6 _ rfl⟩
noncomputable def trfB (nm : ByteArray) (ar : List Art) : Bool := okNameB keyL nm && artsB ar
theorem taxN_cons (a : Art) (l : List Art) : taxN (a :: l) = taxN l + (if a.kind == 6 then 1 else 0) := by
  unfold taxN
  rw [List.filter_cons]
  split
  · rw [List.length_cons]
  · rfl
/-- A tariff's articles, read. -/
structure RdTrf (w : World) (nm : ByteArray) (aT : Option Addr) (nT : Nat) (ar : List Art) : Prop where
  ra : Rd 7 encArt w aT ar
  la : ar.length = nT
  lm : nT ≤ 9223372036854775807
  ls : nm.size ≤ 9223372036854775807
theorem RdTrf.keep {w w' : World} {nm : ByteArray} {aT : Option Addr} {nT : Nat} {ar : List Art} (h : RdTrf w nm aT nT ar) (hb : Below w.heap.size w w') : RdTrf w' nm aT nT ar :=
  ⟨h.ra.keep hb, h.la, h.lm, h.ls⟩
structure TrfM (w W : World) (T : Nat) (nm : ByteArray) (aT : Option Addr) (nT cT : Nat) (ar : List Art) : Prop where
  bel : Below w.heap.size w W
  k0 : W.cell? ⟨T, 0, none⟩ = some (.string nm)
  k1 : W.cell? ⟨T, 1, none⟩ = some (.slice aT nT cT)
  rd : RdTrf W nm aT nT ar
theorem TrfM.keep {w W W' : World} {T : Nat} {nm : ByteArray} {aT : Option Addr} {nT cT : Nat} {ar : List Art} (h : TrfM w W T nm aT nT cT ar) (hb : Below W.heap.size W W') : TrfM w W' T nm aT nT cT ar :=
  ⟨h.bel.trans (hb.mono h.bel.size), (hb.cell (p := ⟨T, 0, none⟩) (World.block_lt_of_cell? _ _ h.k0)).trans h.k0, (hb.cell (p := ⟨T, 1, none⟩) (World.block_lt_of_cell? _ _ h.k1)).trans h.k1, h.rd.keep hb⟩
theorem TrfM.box {w W : World} {nm : ByteArray} {aT : Option Addr} {nT cT : Nat} {ar : List Art} (hb : Below w.heap.size w W) (h : RdTrf W nm aT nT ar) : TrfM w (W.alloc (.cells #[.string nm, .slice aT nT cT] 24)) W.heap.size nm aT nT cT ar :=
  have hb1 : Below W.heap.size W (W.alloc (.cells #[.string nm, .slice aT nT cT] 24)) := (Below.refl _ _).alloc (Nat.le_refl _) _
  ⟨hb.trans (hb1.mono hb.size), by go_simp, by go_simp, h.keep hb1⟩
set_option maxRecDepth 100000 in
set_option maxHeartbeats 8000000 in
theorem tfValid_any (nm : ByteArray) (aT : Option Addr) (nT cT : Nat) (ar : List Art) (w : World) (HQ : Hid (RdTrf w nm aT nT ar)) : Calls Tryz.prog 21 #[.agg #[.string nm, .slice aT nT cT]] w fun e w' => e = .returned (.bool (trfB nm ar)) ∧ Below w.heap.size w w' := by
  obtain ⟨R, hR⟩ : ∃ R, R = trfB nm ar := ⟨_, rfl⟩
  have HR : Hid (R = (okNameB keyL nm && (decide (nT ≤ 12) && (ar.all artB && decide (taxN ar ≤ 1))))) := Lib.hid (by rw [hR]; unfold trfB artsB; rw [HQ.out.la])
  rw [← hR]
  clear hR
  have HLN : Hid (ar.length = nT) := Lib.hid HQ.out.la
  have hm1 : nT ≤ 9223372036854775807 := HQ.out.lm
  obtain ⟨W0, hW0⟩ : ∃ W0, W0 = w.alloc (.cells #[.string nm, .slice aT nT cT] 24) := ⟨_, rfl⟩
  obtain ⟨T, hT⟩ : ∃ T, T = w.heap.size := ⟨_, rfl⟩
  have HT : Hid (TrfM w W0 T nm aT nT cT ar) := Lib.hid (by rw [hW0, hT]; exact TrfM.box (Below.refl _ _) HQ.out)
  have HW0 := Lib.hid hW0
  have HT0 := Lib.hid hT
  clear hW0 hT
  go_enter Tryz.func21, Tryz.ntmps21
  go_upto_region 1 with (fail)
  rw [← HW0.out, ← HT0.out]
  clear HW0 HT0
  obtain ⟨t0, t1⟩ : W0.cell? ⟨T, 0, none⟩ = some (.string nm) ∧ W0.cell? ⟨T, 1, none⟩ = some (.slice aT nT cT) := ⟨HT.out.k0, HT.out.k1⟩
  have hlT : T < W0.heap.size := World.block_lt_of_cell? W0 _ t0
  obtain ⟨W2, hW2⟩ : ∃ W, W = (W0.alloc (.cells #[.int .i64 2, .string nm, .int .i64 3, .int .i64 0, .slice none 0 0] 56)).alloc (.cells #[.int .i64 2, .string nm, .int .i64 3, .int .i64 0, .slice none 0 0] 56) := ⟨_, rfl⟩
  have hb : Below W0.heap.size W0 W2 := by rw [hW2]; exact ((Below.refl _ W0).alloc (Nat.le_refl _) _).alloc (by simp) _
  have hc := Lib.hid (paValid_one nm (W0.heap.size + 1) W2 HQ.out.ls (by rw [hW2]; go_simp) (by rw [hW2]; go_simp) (by rw [hW2]; go_simp) (by rw [hW2]; go_simp) (by rw [hW2]; go_simp))
  have HT := Lib.hid (HT.out.keep hb)
  have HW := Lib.hid hW2.symm
  clear hW2 hb
  go_wp2_with fail
  rw [HW.out]
  refine hc.out.mono ?_
  rintro e w1 ⟨rfl, hb1⟩
  have HT := Lib.hid (HT.out.keep hb1)
  clear hb1 hc HW
  clear t0 t1 hlT
  obtain ⟨t0, t1⟩ : w1.cell? ⟨T, 0, none⟩ = some (.string nm) ∧ w1.cell? ⟨T, 1, none⟩ = some (.slice aT nT cT) := ⟨HT.out.k0, HT.out.k1⟩
  have hlT : T < w1.heap.size := World.block_lt_of_cell? w1 _ t0
  obtain ⟨q, hq⟩ : ∃ q, q = okNameB keyL nm := ⟨_, rfl⟩
  rw [← hq] at HR ⊢
  clear hq
  cases q
  · have HF : Hid (R = false) := Lib.hid (by rw [HR.out]; rfl)
    go_wp2_with fail
    go_ret
    exact ⟨ret_bool HF.out.symm, HT.out.bel⟩
  by_cases h1 : nT ≤ 12
  case neg =>
    have h1z : (12 : Int) < (nT : Int) := by omega
    have HF : Hid (R = false) := Lib.hid (by rw [HR.out, decide_eq_false h1]; rfl)
    go_wp2_with fail
    go_ret
    exact ⟨ret_bool HF.out.symm, HT.out.bel⟩
  have HR : Hid (R = (ar.all artB && decide (taxN ar ≤ 1))) := Lib.hid (by rw [HR.out, decide_eq_true h1]; rfl)
  have h1z : ¬ (12 : Int) < (nT : Int) := by omega
  go_wp2_with fail
  have HS0 : Hid (R = ((ar.drop 0).all artB && decide (0 + taxN (ar.drop 0) ≤ 1))) := Lib.hid (by rw [HR.out]; simp)
  clear HR t0 t1 hlT
  go_loopg [4, 24] nT (fun g1 v4 v24 wr => ∃ i k : Nat, v4 = .int .i64 k ∧ v24 = .int .i64 i ∧ i ≤ nT ∧ k ≤ i ∧ nT - i ≤ g1 ∧ Hid (R = ((ar.drop i).all artB && decide (k + taxN (ar.drop i) ≤ 1))) ∧ Hid (TrfM w wr T nm aT nT cT ar))
  case atStart => exact ⟨0, 0, by go_num, by go_num, by omega, by omega, by omega, HS0, HT⟩
  case round =>
    clear HS0 HT
    obtain ⟨i, k, rfl, rfl, hi, hk, hg1, HS, HT⟩ := hrel
    obtain ⟨t0, t1⟩ : wr.cell? ⟨T, 0, none⟩ = some (.string nm) ∧ wr.cell? ⟨T, 1, none⟩ = some (.slice aT nT cT) := ⟨HT.out.k0, HT.out.k1⟩
    have hlT : T < wr.heap.size := World.block_lt_of_cell? wr _ t0
    by_cases hlt : i < nT
    · have hltz : (i : Int) < (nT : Int) := by omega
      obtain ⟨b, off, a, hA, hbl, hgx, c0, c1, c2, c3, c4, c5, c6⟩ := rdArt_at HT.out.rd.ra (show i < ar.length by rw [HT.out.rd.la]; exact hlt)
      have HSS : Hid (R = ((artB a && (ar.drop (i + 1)).all artB) && decide (k + (taxN (ar.drop (i + 1)) + (if a.kind == 6 then 1 else 0)) ≤ 1))) := Lib.hid (by rw [HS.out, drop_at hgx, List.all_cons, taxN_cons])
      clear HS hgx
      subst hA
      obtain ⟨W1, hW1⟩ : ∃ W, W = wr.alloc (.cells #[.int .i64 a.kind, .int .i64 a.days, .int .i64 a.frm, .int .i64 a.till, .int .i64 a.price, .int .i64 a.unit, .int .i64 a.free] 49) := ⟨_, rfl⟩
      obtain ⟨Y, hY⟩ : ∃ Y, Y = wr.heap.size := ⟨_, rfl⟩
      have HA : Hid (ArtM wr W1 Y a) := Lib.hid (by rw [hW1, hY]; exact ArtM.box (Below.refl _ _))
      have HT := Lib.hid (HT.out.keep HA.out.bel)
      have HWY := Lib.hid (And.intro hW1.symm hY.symm)
      clear hW1 hY
      go_upto_region 8 with (fail)
      rw [HWY.out.1, HWY.out.2]
      clear c0 c1 c2 c3 c4 c5 c6 HWY t0 t1 hlT
      obtain ⟨y0, y1, y2, y3, y4, y5, y6⟩ : W1.cell? ⟨Y, 0, none⟩ = some (.int .i64 a.kind) ∧ W1.cell? ⟨Y, 1, none⟩ = some (.int .i64 a.days) ∧ W1.cell? ⟨Y, 2, none⟩ = some (.int .i64 a.frm) ∧ W1.cell? ⟨Y, 3, none⟩ = some (.int .i64 a.till) ∧ W1.cell? ⟨Y, 4, none⟩ = some (.int .i64 a.price) ∧ W1.cell? ⟨Y, 5, none⟩ = some (.int .i64 a.unit) ∧ W1.cell? ⟨Y, 6, none⟩ = some (.int .i64 a.free) := ⟨HA.out.k0, HA.out.k1, HA.out.k2, HA.out.k3, HA.out.k4, HA.out.k5, HA.out.k6⟩
      have hlY : Y < W1.heap.size := World.block_lt_of_cell? W1 _ y0
      go_wp2_with fail
      refine (tfArt_any a _).mono ?_
      rintro e w1 ⟨rfl, hb1⟩
      have HT := Lib.hid (HT.out.keep hb1)
      have HA := Lib.hid (HA.out.keep hb1)
      clear hb1
      clear y0 y1 y2 y3 y4 y5 y6 hlY
      obtain ⟨y0, y1, y2, y3, y4, y5, y6⟩ : w1.cell? ⟨Y, 0, none⟩ = some (.int .i64 a.kind) ∧ w1.cell? ⟨Y, 1, none⟩ = some (.int .i64 a.days) ∧ w1.cell? ⟨Y, 2, none⟩ = some (.int .i64 a.frm) ∧ w1.cell? ⟨Y, 3, none⟩ = some (.int .i64 a.till) ∧ w1.cell? ⟨Y, 4, none⟩ = some (.int .i64 a.price) ∧ w1.cell? ⟨Y, 5, none⟩ = some (.int .i64 a.unit) ∧ w1.cell? ⟨Y, 6, none⟩ = some (.int .i64 a.free) := ⟨HA.out.k0, HA.out.k1, HA.out.k2, HA.out.k3, HA.out.k4, HA.out.k5, HA.out.k6⟩
      have hlY : Y < w1.heap.size := World.block_lt_of_cell? w1 _ y0
      obtain ⟨q, hq⟩ : ∃ q, q = artB a := ⟨_, rfl⟩
      rw [← hq] at HSS ⊢
      clear hq
      cases q
      · have HF : Hid (R = false) := Lib.hid (by rw [HSS.out]; rfl)
        go_wp2_with fail
        go_ret
        exact ⟨ret_bool HF.out.symm, HT.out.bel⟩
      have HSS : Hid (R = ((ar.drop (i + 1)).all artB && decide (k + (taxN (ar.drop (i + 1)) + (if a.kind == 6 then 1 else 0)) ≤ 1))) := Lib.hid (by rw [HSS.out]; rfl)
      obtain ⟨q, hq⟩ : ∃ q, (a.kind == 6) = q := ⟨_, rfl⟩
      rw [hq] at HSS
      cases q
      · have HS2 : Hid (R = ((ar.drop (i + 1)).all artB && decide (k + taxN (ar.drop (i + 1)) ≤ 1))) := Lib.hid (by rw [HSS.out]; rfl)
        clear HSS
        go_wp2_with fail
        go_roundg (nT - (i + 1))
        case measure => omega
        case rel => exact ⟨i + 1, k, by go_num, by go_num, by omega, by omega, by omega, HS2, HT⟩
      · have HS2 : Hid (R = ((ar.drop (i + 1)).all artB && decide ((k + 1) + taxN (ar.drop (i + 1)) ≤ 1))) := Lib.hid (by rw [HSS.out, if_pos rfl]; congr 3; omega)
        clear HSS
        go_wp2_with fail
        go_roundg (nT - (i + 1))
        case measure => omega
        case rel => exact ⟨i + 1, k + 1, by go_num, by go_num, by omega, by omega, by omega, HS2, HT⟩
    · have hltz : ¬ (i : Int) < (nT : Int) := by omega
      have HF : Hid (R = decide (k ≤ 1)) := Lib.hid (by rw [HS.out, List.drop_eq_nil_of_le (by have := HLN.out; omega)]; rfl)
      clear HS
      by_cases hk1 : k ≤ 1
      · have hk1z : (k : Int) ≤ 1 := by omega
        have HF2 : Hid (R = true) := Lib.hid (by rw [HF.out, decide_eq_true hk1])
        go_wp2_with fail
        go_ret
        exact ⟨ret_bool HF2.out.symm, HT.out.bel⟩
      · have hk1z : ¬ (k : Int) ≤ 1 := by omega
        have HF2 : Hid (R = false) := Lib.hid (by rw [HF.out, decide_eq_false hk1])
        go_wp2_with fail
        go_ret
        exact ⟨ret_bool HF2.out.symm, HT.out.bel⟩
end Go.Proofs.YtoekpdnpncgeeaaGreat
