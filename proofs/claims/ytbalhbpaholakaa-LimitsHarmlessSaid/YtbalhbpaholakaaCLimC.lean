/-
limits.least, limits.limit, the reference's Of.
-/
import Derived.Test.YtbalhbpaholakaaCLimB
namespace Go.Proofs.Ytbalhbpaholakaa
open Go.RowKit
set_option linter.unusedVariables false
set_option linter.unusedSimpArgs false
def minL (x : Int) (xs : List Int) : Int := xs.foldl min x
theorem minL_take {x : Int} {xs : List Int} {k : Nat} (hk : k < xs.length) : minL x (xs.take (k + 1)) = min (minL x (xs.take k)) (fI xs k) := by
  unfold minL fI
  rw [take_snoc (List.getElem?_eq_getElem hk), List.foldl_append, List.getElem?_eq_getElem hk]
  rfl
set_option maxRecDepth 100000 in
set_option maxHeartbeats 4000000 in
theorem limLeast_any (x : Int) (A : Option Addr) (n c : Nat) (xs : List Int) (w : World) (HX : Hid (Rd 1 encI w A xs)) (HN : Hid (xs.length = n)) (hn : n ≤ 1000000) :
    Calls Try.prog 81 #[.int .i64 x, .slice A n c] w fun e w' => e = .returned (.int .i64 (minL x xs)) ∧ w' = w := by
  go_enter Try.func81, Try.ntmps81
  go_wp2_with fail
  go_loopg [0, 6, 9] n (fun g1 v0 v6 v9 wr => ∃ k : Nat, v9 = .int .i64 k ∧ k ≤ n ∧ n - k ≤ g1 ∧ v0 = .int .i64 (minL x (xs.take k)) ∧ w = wr)
  case atStart => exact ⟨0, by go_num, by omega, by omega, by simp [minL], rfl⟩
  case round =>
    obtain ⟨k, rfl, hk, hg1, rfl, rfl⟩ := hrel
    by_cases hlt : k < n
    · have hltz : (k : Int) < (n : Int) := by omega
      obtain ⟨b, off, hA, hb, hc⟩ := HX.out.int (k := k) (by rw [HN.out]; exact hlt)
      have hc' : w.cell? ⟨b, off + k, none⟩ = some (.int .i64 (fI xs k)) := hc
      have HM := Lib.hid (minL_take (x := x) (xs := xs) (k := k) (by rw [HN.out]; exact hlt))
      subst hA
      clear hc
      generalize minL x (xs.take k) = m at *
      generalize fI xs k = y at *
      rcases Int.lt_or_le y m with h | h
      · have HM2 : Hid (minL x (xs.take (k + 1)) = y) := Lib.hid (by rw [HM.out]; omega)
        go_wp2_with fail
        go_roundg (n - (k + 1))
        case measure => omega
        case rel => exact ⟨k + 1, by go_num, by omega, by omega, by rw [HM2.out], rfl⟩
      · have HM2 : Hid (minL x (xs.take (k + 1)) = m) := Lib.hid (by rw [HM.out]; omega)
        go_wp2_with fail
        go_roundg (n - (k + 1))
        case measure => omega
        case rel => exact ⟨k + 1, by go_num, by omega, by omega, by rw [HM2.out], rfl⟩
    · have hltz : ¬ (k : Int) < (n : Int) := by omega
      have HE : Hid (minL x (xs.take k) = minL x xs) := Lib.hid (by rw [List.take_of_length_le (by rw [HN.out]; omega)])
      go_wp2_with fail
      go_ret
      exact ⟨ret_int HE.out, rfl⟩
set_option maxRecDepth 100000 in
set_option maxHeartbeats 4000000 in
theorem limOf_ok (c : GCon) (hc : OkC c) (w : World) : Calls Try.prog 43 #[.agg #[.string c.name, .int .i64 c.up, .int .i64 c.limit, .int .i64 c.neutral, .int .i64 c.rated, .int .i64 c.heat, .int .i64 c.amb, .int .i64 c.most, .int .i64 c.gain, .int .i64 c.loss, .int .i64 c.den]] w fun e w' => e = .returned (.int .i64 (limV c)) ∧ Below w.heap.size w w' := by
  obtain ⟨W, hW⟩ : ∃ W, W = w.alloc (.cells #[.string c.name, .int .i64 c.up, .int .i64 c.limit, .int .i64 c.neutral, .int .i64 c.rated, .int .i64 c.heat, .int .i64 c.amb, .int .i64 c.most, .int .i64 c.gain, .int .i64 c.loss, .int .i64 c.den] 55) := ⟨_, rfl⟩
  have bw : Below w.heap.size w W := by rw [hW]; exact (Below.refl _ w).alloc (Nat.le_refl _) _
  have k2 : W.cell? ⟨w.heap.size, 2, none⟩ = some (.int .i64 c.limit) := by rw [hW]; go_simp
  have k3 : W.cell? ⟨w.heap.size, 3, none⟩ = some (.int .i64 c.neutral) := by rw [hW]; go_simp
  have k4 : W.cell? ⟨w.heap.size, 4, none⟩ = some (.int .i64 c.rated) := by rw [hW]; go_simp
  have hs : w.heap.size < W.heap.size := by rw [hW]; simp
  have HP := Lib.hid (cbPerm_ok c hc W)
  have HWQ := Lib.hid hW.symm
  have HB := Lib.hid bw
  rw [hW] at HP
  clear bw
  go_enter Try.func43, Try.ntmps43
  go_wp2_with fail
  refine HP.out.mono ?_
  rintro e w1 ⟨rfl, hb⟩
  rw [← hW] at hb
  have q2 := (hb.cell (p := ⟨w.heap.size, 2, none⟩) hs).trans k2
  have q3 := (hb.cell (p := ⟨w.heap.size, 3, none⟩) hs).trans k3
  have q4 := (hb.cell (p := ⟨w.heap.size, 4, none⟩) hs).trans k4
  have HB1 := Lib.hid (below_then HB.out hb)
  clear hb k2 k3 k4 hW HP HB hs HWQ
  by_cases hr : c.rated = 0
  · have HE : Hid (minL c.limit [c.neutral, permV c] = limV c) := Lib.hid (by unfold limV minL; rw [if_pos hr]; rfl)
    have hre : (c.rated == 0) = true := by rw [beq_iff_eq]; exact hr
    have al : Below w1.heap.size w1 (w1.alloc (.cells #[.int .i64 c.neutral, .int .i64 (permV c)] 3)) := (Below.refl _ w1).alloc (Nat.le_refl _) _
    have HL := Lib.hid (limLeast_any c.limit (some ⟨w1.heap.size, 0, none⟩) 2 2 [c.neutral, permV c] (w1.alloc (.cells #[.int .i64 c.neutral, .int .i64 (permV c)] 3)) (Lib.hid (rd_litI w1 #[.int .i64 c.neutral, .int .i64 (permV c)] [c.neutral, permV c] rfl)) (Lib.hid rfl) (by omega))
    have HB2 := Lib.hid (below_then HB1.out al)
    clear hr al
    go_wp2_with fail
    refine HL.out.mono ?_
    rintro e w2 ⟨rfl, hw⟩
    subst w2
    go_wp2_with fail
    go_ret
    exact ⟨ret_int HE.out, HB2.out⟩
  · have HE : Hid (minL c.limit [c.neutral, permV c, c.rated] = limV c) := Lib.hid (by unfold limV minL; rw [if_neg hr]; rfl)
    have hre : (c.rated == 0) = false := by rw [beq_eq_false_iff_ne]; exact hr
    have al : Below w1.heap.size w1 (w1.alloc (.cells #[.int .i64 c.neutral, .int .i64 (permV c), .int .i64 c.rated] 3)) := (Below.refl _ w1).alloc (Nat.le_refl _) _
    have HL := Lib.hid (limLeast_any c.limit (some ⟨w1.heap.size, 0, none⟩) 3 3 [c.neutral, permV c, c.rated] (w1.alloc (.cells #[.int .i64 c.neutral, .int .i64 (permV c), .int .i64 c.rated] 3)) (Lib.hid (rd_litI w1 #[.int .i64 c.neutral, .int .i64 (permV c), .int .i64 c.rated] [c.neutral, permV c, c.rated] rfl)) (Lib.hid rfl) (by omega))
    have HB2 := Lib.hid (below_then HB1.out al)
    clear hr al
    go_wp2_with fail
    refine HL.out.mono ?_
    rintro e w2 ⟨rfl, hw⟩
    subst w2
    go_wp2_with fail
    go_ret
    exact ⟨ret_int HE.out, HB2.out⟩
set_option maxRecDepth 100000 in
set_option maxHeartbeats 4000000 in
theorem r9Of_ok (c : GCon) (hc : OkC c) (w : World) : Calls Try.prog 44 #[.agg #[.string c.name, .int .i64 c.up, .int .i64 c.limit, .int .i64 c.neutral, .int .i64 c.rated, .int .i64 c.heat, .int .i64 c.amb, .int .i64 c.most, .int .i64 c.gain, .int .i64 c.loss, .int .i64 c.den]] w fun e w' => e = .returned (.int .i64 (limV c)) ∧ Below w.heap.size w w' := by
  obtain ⟨W, hW⟩ : ∃ W, W = w.alloc (.cells #[.string c.name, .int .i64 c.up, .int .i64 c.limit, .int .i64 c.neutral, .int .i64 c.rated, .int .i64 c.heat, .int .i64 c.amb, .int .i64 c.most, .int .i64 c.gain, .int .i64 c.loss, .int .i64 c.den] 55) := ⟨_, rfl⟩
  have bw : Below w.heap.size w W := by rw [hW]; exact (Below.refl _ w).alloc (Nat.le_refl _) _
  have k2 : W.cell? ⟨w.heap.size, 2, none⟩ = some (.int .i64 c.limit) := by rw [hW]; go_simp
  have k3 : W.cell? ⟨w.heap.size, 3, none⟩ = some (.int .i64 c.neutral) := by rw [hW]; go_simp
  have k4 : W.cell? ⟨w.heap.size, 4, none⟩ = some (.int .i64 c.rated) := by rw [hW]; go_simp
  have hs : w.heap.size < W.heap.size := by rw [hW]; simp
  have HP := Lib.hid (r7Perm_ok c hc W)
  have HB := Lib.hid bw
  rw [hW] at HP
  clear bw
  go_enter Try.func44, Try.ntmps44
  go_wp2_with fail
  refine HP.out.mono ?_
  rintro e w1 ⟨rfl, hb⟩
  rw [← hW] at hb
  have q2 := (hb.cell (p := ⟨w.heap.size, 2, none⟩) hs).trans k2
  have q3 := (hb.cell (p := ⟨w.heap.size, 3, none⟩) hs).trans k3
  have q4 := (hb.cell (p := ⟨w.heap.size, 4, none⟩) hs).trans k4
  have HB1 := Lib.hid (below_then HB.out hb)
  have HE := Lib.hid (limV_ref c)
  clear hb k2 k3 k4 hW HP HB hs
  generalize permV c = pv at *
  generalize c.limit = li at *
  generalize c.neutral = ne at *
  rcases Int.lt_or_le li pv with h1 | h1
  · rcases Int.lt_or_le ne li with h2 | h2
    · by_cases hr : c.rated = 0
      · have hre : (c.rated == 0) = true := by rw [beq_iff_eq]; exact hr
        have HF : Hid (ne = limV c) := Lib.hid (by rw [HE.out]; first | (rw [if_pos hr]; omega) | (rw [if_neg hr]; omega))
        clear hr HE
        go_wp2_with fail
        go_ret
        exact ⟨ret_int HF.out, HB1.out⟩
      · have hre : (c.rated == 0) = false := by rw [beq_eq_false_iff_ne]; exact hr
        rcases Int.lt_or_le c.rated ne with h3 | h3
        · have HF : Hid (c.rated = limV c) := Lib.hid (by rw [HE.out]; first | (rw [if_pos hr]; omega) | (rw [if_neg hr]; omega))
          clear hr HE
          go_wp2_with fail
          go_ret
          exact ⟨ret_int HF.out, HB1.out⟩
        · have HF : Hid (ne = limV c) := Lib.hid (by rw [HE.out]; first | (rw [if_pos hr]; omega) | (rw [if_neg hr]; omega))
          clear hr HE
          go_wp2_with fail
          go_ret
          exact ⟨ret_int HF.out, HB1.out⟩
    · by_cases hr : c.rated = 0
      · have hre : (c.rated == 0) = true := by rw [beq_iff_eq]; exact hr
        have HF : Hid (li = limV c) := Lib.hid (by rw [HE.out]; first | (rw [if_pos hr]; omega) | (rw [if_neg hr]; omega))
        clear hr HE
        go_wp2_with fail
        go_ret
        exact ⟨ret_int HF.out, HB1.out⟩
      · have hre : (c.rated == 0) = false := by rw [beq_eq_false_iff_ne]; exact hr
        rcases Int.lt_or_le c.rated li with h3 | h3
        · have HF : Hid (c.rated = limV c) := Lib.hid (by rw [HE.out]; first | (rw [if_pos hr]; omega) | (rw [if_neg hr]; omega))
          clear hr HE
          go_wp2_with fail
          go_ret
          exact ⟨ret_int HF.out, HB1.out⟩
        · have HF : Hid (li = limV c) := Lib.hid (by rw [HE.out]; first | (rw [if_pos hr]; omega) | (rw [if_neg hr]; omega))
          clear hr HE
          go_wp2_with fail
          go_ret
          exact ⟨ret_int HF.out, HB1.out⟩
  · rcases Int.lt_or_le ne pv with h2 | h2
    · by_cases hr : c.rated = 0
      · have hre : (c.rated == 0) = true := by rw [beq_iff_eq]; exact hr
        have HF : Hid (ne = limV c) := Lib.hid (by rw [HE.out]; first | (rw [if_pos hr]; omega) | (rw [if_neg hr]; omega))
        clear hr HE
        go_wp2_with fail
        go_ret
        exact ⟨ret_int HF.out, HB1.out⟩
      · have hre : (c.rated == 0) = false := by rw [beq_eq_false_iff_ne]; exact hr
        rcases Int.lt_or_le c.rated ne with h3 | h3
        · have HF : Hid (c.rated = limV c) := Lib.hid (by rw [HE.out]; first | (rw [if_pos hr]; omega) | (rw [if_neg hr]; omega))
          clear hr HE
          go_wp2_with fail
          go_ret
          exact ⟨ret_int HF.out, HB1.out⟩
        · have HF : Hid (ne = limV c) := Lib.hid (by rw [HE.out]; first | (rw [if_pos hr]; omega) | (rw [if_neg hr]; omega))
          clear hr HE
          go_wp2_with fail
          go_ret
          exact ⟨ret_int HF.out, HB1.out⟩
    · by_cases hr : c.rated = 0
      · have hre : (c.rated == 0) = true := by rw [beq_iff_eq]; exact hr
        have HF : Hid (pv = limV c) := Lib.hid (by rw [HE.out]; first | (rw [if_pos hr]; omega) | (rw [if_neg hr]; omega))
        clear hr HE
        go_wp2_with fail
        go_ret
        exact ⟨ret_int HF.out, HB1.out⟩
      · have hre : (c.rated == 0) = false := by rw [beq_eq_false_iff_ne]; exact hr
        rcases Int.lt_or_le c.rated pv with h3 | h3
        · have HF : Hid (c.rated = limV c) := Lib.hid (by rw [HE.out]; first | (rw [if_pos hr]; omega) | (rw [if_neg hr]; omega))
          clear hr HE
          go_wp2_with fail
          go_ret
          exact ⟨ret_int HF.out, HB1.out⟩
        · have HF : Hid (pv = limV c) := Lib.hid (by rw [HE.out]; first | (rw [if_pos hr]; omega) | (rw [if_neg hr]; omega))
          clear hr HE
          go_wp2_with fail
          go_ret
          exact ⟨ret_int HF.out, HB1.out⟩
end Go.Proofs.Ytbalhbpaholakaa
