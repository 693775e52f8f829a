/-
Several texts in one: AdmE, AdmF.
-/
import Derived.Test.YtgfcnkfmgpakkaaGAdm0
import Derived.Test.YtgfcnkfmgpakkaaGPlanC
/-
The reference's comparisons (Ints, SameJobs) and law28's few, walked.
-/
namespace Go.Proofs.Ytgfcnkfmgpakkaa
open Go.RowKit
set_option linter.unusedVariables false
set_option linter.unusedSimpArgs false
noncomputable def sameL {α : Type} (xs ys : List α) : Bool := @decide (xs = ys) (Classical.propDecidable _)
theorem sameL_iff {α : Type} {xs ys : List α} : sameL xs ys = true ↔ xs = ys := by
  unfold sameL
  exact @decide_eq_true_iff _ (Classical.propDecidable _)
theorem sameL_not {α : Type} {xs ys : List α} (h : ¬ xs = ys) : sameL xs ys = false := by
  cases e : sameL xs ys
  · rfl
  · exact absurd (sameL_iff.1 e) h
theorem sameL_self {α : Type} (xs : List α) : sameL xs xs = true := sameL_iff.2 rfl
set_option maxRecDepth 100000 in
set_option maxHeartbeats 2000000 in
theorem raInts_any (xs ys : List Int) (a b : Option Addr) (c d n m : Nat) (w : World) (hx : Rd 1 encI w a xs) (HN : Hid (xs.length = n)) (hn : n ≤ 1000000000) (hy : Rd 1 encI w b ys) (HM : Hid (ys.length = m)) (hm : m ≤ 1000000000) :
    Calls Try.prog 32 #[.slice a n c, .slice b m d] w fun e w' => e = .returned (.bool (sameL xs ys)) ∧ Below w.heap.size w w' := by
  have HX := Lib.hid hx
  have HY := Lib.hid hy
  clear hx hy
  by_cases hne : n = m
  · have hd : ((n : Int) != (m : Int)) = false := by subst hne; simp
    have HE := Lib.hid hne
    clear hne
    go_enter Try.func32, Try.ntmps32
    go_wp2
    go_loopg [5] n (fun g1 vi wr => ∃ i q : Nat, vi = .int .i64 i ∧ i ≤ n ∧ n - i ≤ g1 ∧ Hid (xs.take i = ys.take i) ∧ Hid (wr = w.drewN q))
    case atStart => exact ⟨0, 0, by go_num, by omega, by omega, Lib.hid rfl, Lib.hid rfl⟩
    case round =>
      obtain ⟨i, q, rfl, hi, hg1, HT, HW⟩ := hrel
      obtain rfl := HW.out
      clear HW
      by_cases hlt : i < n
      · have hltz : (i : Int) < (n : Int) := by omega
        have hltm : (i : Int) < (m : Int) := by have := HE.out; omega
        obtain ⟨bx, ox, x, rfl, lx, hxi, cx0⟩ := HX.out.at_ (k := i) (by rw [HN.out]; exact hlt)
        obtain ⟨by', oy, y, rfl, ly, hyi, cy0⟩ := HY.out.at_ (k := i) (by rw [HM.out]; have := HE.out; omega)
        have cx : w.cell? ⟨bx, ox + i, none⟩ = some (.int .i64 x) := by have := cx0 0 _ rfl; simpa using this
        have cy : w.cell? ⟨by', oy + i, none⟩ = some (.int .i64 y) := by have := cy0 0 _ rfl; simpa using this
        clear cx0 cy0
        have HXI := Lib.hid hxi
        have HYI := Lib.hid hyi
        clear hxi hyi lx ly
        by_cases he : x = y
        · have HEQ : Hid (xs.take (i + 1) = ys.take (i + 1)) := Lib.hid (by rw [take_snoc HXI.out, take_snoc HYI.out, HT.out, he])
          subst he
          have hb := (show (x != x) = false by simp)
          clear HT HXI HYI
          go_wp2_with fail
          go_quiet (fail)
          go_wp2
          go_roundg (n - (i + 1))
          case measure => omega
          case rel => exact ⟨i + 1, _, by go_num, by omega, by omega, HEQ, Lib.hid rfl⟩
        · have HEQ : Hid (sameL xs ys = false) := Lib.hid (sameL_not (by intro e; subst e; have := HXI.out.symm.trans HYI.out; injection this with h; exact he h))
          have hb := (show (x != y) = true by rw [bne_iff_ne]; exact he)
          clear HT HXI HYI he
          go_wp2_with fail
          go_quiet (fail)
          go_wp2
          go_ret
          exact ⟨ret_bool HEQ.out.symm, below_drewN (below_drewN (Below.refl _ _) _) _⟩
      · have hltz : ¬ (i : Int) < (n : Int) := by omega
        have HEQ : Hid (sameL xs ys = true) := Lib.hid (sameL_iff.2 (by
          have := HT.out
          rwa [List.take_of_length_le (by rw [HN.out]; omega), List.take_of_length_le (by rw [HM.out]; have := HE.out; omega)] at this))
        go_wp2
        go_ret
        exact ⟨ret_bool HEQ.out.symm, below_drewN (Below.refl _ _) _⟩
  · have hd : ((n : Int) != (m : Int)) = true := by rw [bne_iff_ne]; omega
    have HEQ : Hid (sameL xs ys = false) := Lib.hid (sameL_not (by intro e; exact hne (by rw [← HN.out, ← HM.out, e])))
    clear hne
    go_enter Try.func32, Try.ntmps32
    go_wp2
    go_ret
    exact ⟨ret_bool HEQ.out.symm, Below.refl _ _⟩

theorem jobs_ne {x y : GJob} (h : ¬ x = y) : (x.frm == y.frm) = false ∨ ((x.frm == y.frm) = true ∧ ((x.till == y.till) = false ∨ ((x.till == y.till) = true ∧ ((x.energy == y.energy) = false ∨ ((x.energy == y.energy) = true ∧ ((x.rate == y.rate) = false ∨ ((x.rate == y.rate) = true ∧ (x.rank == y.rank) = false))))))) := by
  by_cases c0 : x.frm = y.frm
  · by_cases c1 : x.till = y.till
    · by_cases c2 : x.energy = y.energy
      · by_cases c3 : x.rate = y.rate
        · by_cases c4 : x.rank = y.rank
          · exact absurd (by cases x; cases y; simp_all) h
          · simp [c0, c1, c2, c3, c4]
        · simp [c0, c1, c2, c3]
      · simp [c0, c1, c2]
    · simp [c0, c1]
  · simp [c0]
set_option maxRecDepth 100000 in
set_option maxHeartbeats 2000000 in
theorem raSame_any (xs ys : List GJob) (a b : Option Addr) (c d n m : Nat) (w : World) (hx : Rd 5 encJ w a xs) (HN : Hid (xs.length = n)) (hn : n ≤ 1000000000) (hy : Rd 5 encJ w b ys) (HM : Hid (ys.length = m)) (hm : m ≤ 1000000000) :
    Calls Try.prog 31 #[.slice a n c, .slice b m d] w fun e w' => e = .returned (.bool (sameL xs ys)) ∧ Below w.heap.size w w' := by
  have HX := Lib.hid hx
  have HY := Lib.hid hy
  clear hx hy
  by_cases hne : n = m
  · have hd : ((n : Int) != (m : Int)) = false := by subst hne; simp
    have HE := Lib.hid hne
    clear hne
    go_enter Try.func31, Try.ntmps31
    go_wp2
    go_loopg [5] n (fun g1 vi wr => ∃ i q : Nat, vi = .int .i64 i ∧ i ≤ n ∧ n - i ≤ g1 ∧ Hid (xs.take i = ys.take i) ∧ Hid (wr = w.drewN q))
    case atStart => exact ⟨0, 0, by go_num, by omega, by omega, Lib.hid rfl, Lib.hid rfl⟩
    case round =>
      obtain ⟨i, q, rfl, hi, hg1, HT, HW⟩ := hrel
      obtain rfl := HW.out
      clear HW
      by_cases hlt : i < n
      · have hltz : (i : Int) < (n : Int) := by omega
        have hltm : (i : Int) < (m : Int) := by have := HE.out; omega
        obtain ⟨bx, ox, x, rfl, lx, hxi, cx0, cx1, cx2, cx3, cx4⟩ := rdJ_at HX.out (k := i) (by rw [HN.out]; exact hlt)
        obtain ⟨by', oy, y, rfl, ly, hyi, cy0, cy1, cy2, cy3, cy4⟩ := rdJ_at HY.out (k := i) (by rw [HM.out]; have := HE.out; omega)
        have HXI := Lib.hid hxi
        have HYI := Lib.hid hyi
        clear hxi hyi lx ly
        by_cases he : x = y
        · have HEQ : Hid (xs.take (i + 1) = ys.take (i + 1)) := Lib.hid (by rw [take_snoc HXI.out, take_snoc HYI.out, HT.out, he])
          subst he
          have hb := (0 : Nat)
          clear HT HXI HYI
          go_wp2_with fail
          go_quiet (fail)
          go_wp2
          go_roundg (n - (i + 1))
          case measure => omega
          case rel => exact ⟨i + 1, _, by go_num, by omega, by omega, HEQ, Lib.hid rfl⟩
        · have HEQ : Hid (sameL xs ys = false) := Lib.hid (sameL_not (by intro e; subst e; have := HXI.out.symm.trans HYI.out; injection this with h; exact he h))
          have hb := jobs_ne he
          clear HT HXI HYI he
          rcases hb with hb | ⟨hb, hb1 | ⟨hb1, hb2 | ⟨hb2, hb3 | ⟨hb3, hb4⟩⟩⟩⟩
          all_goals
            go_wp2_with fail
            go_quiet (fail)
            go_wp2
            go_ret
            exact ⟨ret_bool HEQ.out.symm, below_drewN (below_drewN (Below.refl _ _) _) _⟩
      · have hltz : ¬ (i : Int) < (n : Int) := by omega
        have HEQ : Hid (sameL xs ys = true) := Lib.hid (sameL_iff.2 (by
          have := HT.out
          rwa [List.take_of_length_le (by rw [HN.out]; omega), List.take_of_length_le (by rw [HM.out]; have := HE.out; omega)] at this))
        go_wp2
        go_ret
        exact ⟨ret_bool HEQ.out.symm, below_drewN (Below.refl _ _) _⟩
  · have hd : ((n : Int) != (m : Int)) = true := by rw [bne_iff_ne]; omega
    have HEQ : Hid (sameL xs ys = false) := Lib.hid (sameL_not (by intro e; exact hne (by rw [← HN.out, ← HM.out, e])))
    clear hne
    go_enter Try.func31, Try.ntmps31
    go_wp2
    go_ret
    exact ⟨ret_bool HEQ.out.symm, Below.refl _ _⟩
end Go.Proofs.Ytgfcnkfmgpakkaa
/-
law28.few and admit.validDone, walked.
-/
namespace Go.Proofs.Ytgfcnkfmgpakkaa
open Go.RowKit
set_option linter.unusedVariables false
set_option linter.unusedSimpArgs false
def fewL (rs : List RowV) (N : Nat) : Bool := rs.all (fun r => decide (r.n ≤ 40)) && decide (N ≤ 20)
set_option maxRecDepth 100000 in
set_option maxHeartbeats 1600000 in
theorem laFew_any (A A5 : Option Addr) (c N c5 M : Nat) (rs : List RowV) (w : World) (hR : Rd 1 encRow w A5 rs) (HM : Hid (rs.length = M)) (hM : M ≤ 1000) (hN : N ≤ 9223372036854775807) (h63 : ∀ r, r ∈ rs → r.n ≤ 9223372036854775807) :
    Calls Try.prog 19 #[.slice A N c, .slice A5 M c5] w fun e w' => e = .returned (.bool (fewL rs N)) ∧ w' = w := by
  have HR := Lib.hid hR
  have H63 := Lib.hid h63
  clear hR h63
  go_enter Try.func19, Try.ntmps19
  go_wp2
  go_loopg [9] M (fun g1 v9 wr => ∃ k : Nat, v9 = .int .i64 k ∧ k ≤ M ∧ M - k ≤ g1 ∧ Hid ((rs.take k).all (fun r => decide (r.n ≤ 40)) = true) ∧ w = wr)
  case atStart => exact ⟨0, by go_num, by omega, by omega, Lib.hid rfl, rfl⟩
  case round =>
    obtain ⟨k, rfl, hk, hg1, HA, rfl⟩ := hrel
    by_cases hlt : k < M
    · have hltz : (k : Int) < (M : Int) := by omega
      obtain ⟨b, off, r, rfl, hbl, hr, hc⟩ := HR.out.at_ (k := k) (by rw [HM.out]; exact hlt)
      have hc0 : w.cell? ⟨b, off + k, none⟩ = some (.slice r.a r.n r.c) := by have := hc 0 _ rfl; simpa using this
      have h63r := H63.out r (List.mem_of_getElem? hr)
      have HRk := Lib.hid hr
      clear hc hr
      by_cases h40 : r.n ≤ 40
      · have HA2 : Hid ((rs.take (k + 1)).all (fun r => decide (r.n ≤ 40)) = true) := Lib.hid (all_snoc HRk.out HA.out (by simpa using h40))
        have h40z : ¬ (40 : Int) < (r.n : Int) := by omega
        go_wp2
        go_roundg (M - (k + 1))
        case measure => omega
        case rel => exact ⟨k + 1, by go_num, by omega, by omega, HA2, rfl⟩
      · have HF : Hid (fewL rs N = false) := Lib.hid (by
          unfold fewL
          rw [all_not HRk.out (by simpa using h40)]
          rfl)
        have h40z : (40 : Int) < (r.n : Int) := by omega
        go_wp2
        go_ret
        exact ⟨ret_bool HF.out.symm, rfl⟩
    · have hltz : ¬ (k : Int) < (M : Int) := by omega
      have HS : Hid (rs.all (fun r => decide (r.n ≤ 40)) = true) := Lib.hid (by have := HA.out; rwa [List.take_of_length_le (by rw [HM.out]; omega)] at this)
      have HF : Hid (fewL rs N = decide (N ≤ 20)) := Lib.hid (by unfold fewL; rw [HS.out, Bool.true_and])
      go_wp2
      go_ret
      exact ⟨ret_bool (by rw [HF.out]; simp; omega), rfl⟩
theorem okD1_bool (j : GJob) (d : Int) : okD1 j d ↔ ¬ (d < 0 ∨ j.rate < d ∨ j.energy < d ∨ (0 < d ∧ (j.frm ≠ 0 ∨ j.till = 0))) := by
  unfold okD1
  omega
set_option maxRecDepth 100000 in
set_option maxHeartbeats 4000000 in
theorem aDone_any (A A2 A3 : Option Addr) (c N c2 T c3 M : Nat) (js : List GJob) (sup done : List Int) (w : World) (hR : Rd 5 encJ w A js) (HN : Hid (js.length = N)) (hl : N ≤ 9223372036854775807) (hR2 : Rd 1 encI w A2 sup) (HN2 : Hid (sup.length = T)) (hl2 : T ≤ 9223372036854775807)
    (hR3 : Rd 1 encI w A3 done) (HN3 : Hid (done.length = M)) (hl3 : M ≤ 9223372036854775807) :
    Calls Try.prog 62 #[.slice A N c, .slice A2 T c2, .slice A3 M c3] w fun e w' => e = .returned (.bool (okD js sup done)) ∧ Below w.heap.size w w' := by
  go_enter Try.func62, Try.ntmps62
  go_wp2_with fail
  refine (plValid_any A A2 c N c2 T js sup w hR HN hl hR2 HN2 hl2).mono ?_
  rintro e w1 ⟨rfl, b1⟩
  cases hok : okP js sup
  · have HF : Hid (okD js sup done = false) := Lib.hid (okD_not (fun h => by rw [hok] at h; cases h.1))
    go_wp2_with fail
    go_ret
    exact ⟨ret_bool HF.out.symm, b1⟩
  obtain ⟨⟨t1, t2⟩, _, _⟩ := okP_iff.1 hok
  rw [HN.out] at t1
  rw [HN2.out] at t2
  have HOK := Lib.hid hok
  clear hok
  by_cases hT : T = 0
  · have HF : Hid (okD js sup done = false) := Lib.hid (okD_not (fun h => by have := h.2.1; rw [HN2.out] at this; omega))
    subst hT
    go_wp2_with fail
    go_ret
    exact ⟨ret_bool HF.out.symm, b1⟩
  have hTz : ((T : Int) == 0) = false := by simp; omega
  have hT0 : (0 : Int) < (T : Int) := by omega
  by_cases hM : M = N
  case neg =>
    have HF : Hid (okD js sup done = false) := Lib.hid (okD_not (fun h => by have := h.2.2.1; rw [HN.out, HN3.out] at this; exact hM this))
    have hMz : ((M : Int) != (N : Int)) = true := by rw [bne_iff_ne]; omega
    clear hM
    go_wp2_with fail
    go_ret
    exact ⟨ret_bool HF.out.symm, b1⟩
  subst hM
  have HR := Lib.hid (hR.keep b1)
  have HR3 := Lib.hid (hR3.keep b1)
  obtain ⟨bs, os, hA2, hbs, hcs⟩ := (hR2.keep b1).int (k := 0) (by rw [HN2.out]; omega)
  subst hA2
  have hcs0 : w1.cell? ⟨bs, os, none⟩ = some (.int .i64 (fAt sup 0)) := hcs
  have hs0 := okP_sup HOK.out (t := 0) (by rw [HN2.out]; omega)
  obtain ⟨s0, hs0e⟩ : ∃ s0, s0 = fAt sup 0 := ⟨_, rfl⟩
  rw [← hs0e] at hcs0 hs0
  have HS0 := Lib.hid hs0e
  have B1 := Lib.hid b1
  clear hcs hs0e hR hR2 hR3 b1 hT
  go_wp2
  go_loopg [7, 8, 9, 10, 32] M (fun g1 v7 v8 v9 v10 v32 wr => ∃ k : Nat, v32 = .int .i64 k ∧ v7 = .int .i64 (s0 - S k (fAt done)) ∧ k ≤ M ∧ M - k ≤ g1 ∧ Hid (okDTo js done k) ∧ Hid (Below w1.heap.size w1 wr))
  case atStart => exact ⟨0, by go_num, by simp [S], by omega, by omega, Lib.hid (fun i hi => by omega), Lib.hid (Below.refl _ _)⟩
  case round =>
    obtain ⟨k, rfl, rfl, hk, hg1, HA, HB⟩ := hrel
    obtain ⟨sb1, sb2⟩ := done_bound HOK.out (by rw [HN.out]; exact hk) HA.out
    obtain ⟨sk, hsk⟩ : ∃ sk, sk = S k (fAt done) := ⟨_, rfl⟩
    rw [← hsk] at sb1 sb2 ⊢
    by_cases hlt : k < M
    · have hltz : (k : Int) < (M : Int) := by omega
      obtain ⟨bj, oj, j, rfl, hbj, hj, c0, c1, c2', c3', c4⟩ := rdJ_at (HR.out.keep HB.out) (k := k) (by rw [HN.out]; exact hlt)
      obtain ⟨bd, od, rfl, hbd, hcd⟩ := (HR3.out.keep HB.out).int (k := k) (by rw [HN3.out]; exact hlt)
      have hcd0 : wr.cell? ⟨bd, od + k, none⟩ = some (.int .i64 (fAt done k)) := hcd
      have hjk : jAt js k = j := by simp [jAt, hj]
      have hjb := okP_job HOK.out (i := k) (by rw [HN.out]; exact hlt)
      rw [hjk] at hjb
      obtain ⟨d, hd⟩ : ∃ d, d = fAt done k := ⟨_, rfl⟩
      rw [← hd] at hcd0
      have HD := Lib.hid hd
      have HJ := Lib.hid hjk
      have HSK := Lib.hid hsk
      clear hcd hj hjk hd hsk
      have HB2 : Hid (Below w1.heap.size w1 (wr.alloc (.cells #[.int .i64 j.frm, .int .i64 j.till, .int .i64 j.energy, .int .i64 j.rate, .int .i64 j.rank] 25))) := Lib.hid (HB.out.alloc HB.out.size _)
      have HBw : Hid (Below w.heap.size w (wr.alloc (.cells #[.int .i64 j.frm, .int .i64 j.till, .int .i64 j.energy, .int .i64 j.rate, .int .i64 j.rank] 25))) := Lib.hid (below_then B1.out HB2.out)
      have HJA := Lib.hid (JobAt.new wr j)
      by_cases hgood : okD1 j d
      · have HA2 : Hid (okDTo js done (k + 1)) := Lib.hid (okDTo_succ.2 ⟨HA.out, by rw [HJ.out, ← HD.out]; exact hgood⟩)
        have g := hgood
        unfold okD1 at g
        obtain ⟨g1', g2, g3, g4⟩ := g
        have HS2 : Hid (S (k + 1) (fAt done) = sk + d) := Lib.hid (by rw [S_succ, ← HSK.out, ← HD.out])
        have n0 : ¬ d < 0 := by omega
        have n1 : ¬ j.rate < d := by omega
        have n2 : ¬ j.energy < d := by omega
        clear hgood
        by_cases hp : 0 < d
        · obtain ⟨p1, p2⟩ := g4 hp
          have q1 : (j.frm != 0) = false := by simp [p1]
          have q2 : (j.till == 0) = false := by simp [p2]
          clear g4 p1 p2
          go_wp2
          go_roundg (M - (k + 1))
          case measure => omega
          case rel => exact ⟨k + 1, by go_num, by rw [HS2.out]; exact val_int (by omega), by omega, by omega, HA2, HB2⟩
        · clear g4
          go_wp2
          go_roundg (M - (k + 1))
          case measure => omega
          case rel => exact ⟨k + 1, by go_num, by rw [HS2.out]; exact val_int (by omega), by omega, by omega, HA2, HB2⟩
      · have HF : Hid (okD js sup done = false) := Lib.hid (okD_not (fun h => hgood (by have := h.2.2.2.1 k (by rw [HN.out]; exact hlt); rwa [HJ.out, ← HD.out] at this)))
        rw [okD1_bool, Classical.not_not] at hgood
        by_cases n0 : d < 0
        · clear hgood
          go_wp2
          go_ret
          exact ⟨ret_bool HF.out.symm, HBw.out⟩
        by_cases n1 : j.rate < d
        · clear hgood
          go_wp2
          go_ret
          exact ⟨ret_bool HF.out.symm, HBw.out⟩
        by_cases n2 : j.energy < d
        · clear hgood
          go_wp2
          go_ret
          exact ⟨ret_bool HF.out.symm, HBw.out⟩
        have n3 : 0 < d := by omega
        by_cases n4 : j.frm = 0
        · have n5 : j.till = 0 := by omega
          have q1 : (j.frm != 0) = false := by simp [n4]
          have q2 : (j.till == 0) = true := by simp [n5]
          clear hgood n4 n5
          go_wp2
          go_ret
          exact ⟨ret_bool HF.out.symm, HBw.out⟩
        · have q1 : (j.frm != 0) = true := by simp [n4]
          clear hgood n4
          go_wp2
          go_ret
          exact ⟨ret_bool HF.out.symm, HBw.out⟩
    · have hltz : ¬ (k : Int) < (M : Int) := by omega
      have hkM : k = M := by omega
      subst hkM
      have HF : Hid (okD js sup done = decide (sk ≤ s0)) := Lib.hid (by
        by_cases hs : sk ≤ s0
        · rw [decide_eq_true hs]
          exact okD_iff.2 ⟨HOK.out, by rw [HN2.out]; omega, by rw [HN3.out, HN.out], by rw [HN.out]; exact HA.out, by rw [HN.out, ← hsk, ← HS0.out]; omega⟩
        · rw [decide_eq_false hs]
          exact okD_not (fun h => hs (by have := h.2.2.2.2; rw [HN.out, ← hsk, ← HS0.out] at this; omega)))
      have HBw : Hid (Below w.heap.size w wr) := Lib.hid (below_then B1.out HB.out)
      clear hsk
      go_wp2
      go_ret
      exact ⟨ret_bool HF.out.symm, HBw.out⟩
end Go.Proofs.Ytgfcnkfmgpakkaa
