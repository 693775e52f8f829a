/-
limits.Limit and the reference's.
-/
import Derived.Test.YtbalhbpaholakaaCLimD
import Derived.Test.YtbalhbpaholakaaGLTreeH
import Derived.Test.YtbalhbpaholakaaGLSiteH
namespace Go.Proofs.Ytbalhbpaholakaa
open Go.RowKit
set_option linter.unusedVariables false
set_option linter.unusedSimpArgs false
def limAt (s : GSite) (k : Nat) : Int := ((s.cons[k]?).map limV).getD 0
noncomputable def limO (s : GSite) (co : Int) : Int := if okCo s co = true then limAt s co.toNat else 0
/-- What Limit does. -/
def LiPost (w : World) (s : GSite) (co : Int) (e : Ending) (w' : World) : Prop := e = .returned (.tuple #[.int .i64 (limO s co), .int .i64 (errO (okCo s co))]) ∧ Below w.heap.size w w'
theorem limO_no {s : GSite} {co : Int} (h : okCo s co = false) : limO s co = 0 := by unfold limO; rw [h]; rfl
theorem limO_yes {s : GSite} {co : Int} (h : okCo s co = true) : limO s co = limAt s co.toNat := by unfold limO; rw [if_pos h]
set_option maxRecDepth 100000 in
set_option maxHeartbeats 4000000 in
theorem limLimit_any (a1 a2 a3 a4 a5 : Option Addr) (n1 c1 n2 c2 n3 c3 n4 c4 n5 c5 : Nat) (s : GSite) (co : Int) (w : World) (HS : Hid (RdSite w a1 a2 a3 a4 a5 n1 n2 n3 n4 n5 s)) :
    Calls Try.prog 15 #[.agg #[.slice a1 n1 c1, .slice a2 n2 c2, .slice a3 n3 c3, .slice a4 n4 c4, .slice a5 n5 c5], .int .i64 co] w fun e w' => LiPost w s co e w' := by
  obtain ⟨m1, m2, m3, m4, m5⟩ : n1 ≤ 9223372036854775807 ∧ n2 ≤ 9223372036854775807 ∧ n3 ≤ 9223372036854775807 ∧ n4 ≤ 9223372036854775807 ∧ n5 ≤ 9223372036854775807 := ⟨HS.out.m1, HS.out.m2, HS.out.m3, HS.out.m4, HS.out.m5⟩
  have hW0 : Below w.heap.size w (w.alloc (.cells #[.slice a1 n1 c1, .slice a2 n2 c2, .slice a3 n3 c3, .slice a4 n4 c4, .slice a5 n5 c5] 28)) := (Below.refl _ w).alloc (Nat.le_refl _) _
  have HV := Lib.hid (stValid_any a1 a2 a3 a4 a5 n1 c1 n2 c2 n3 c3 n4 c4 n5 c5 s (w.alloc (.cells #[.slice a1 n1 c1, .slice a2 n2 c2, .slice a3 n3 c3, .slice a4 n4 c4, .slice a5 n5 c5] 28)) (Lib.hid (HS.out.keep hW0)))
  go_enter Try.func15, Try.ntmps15
  go_wp2_with fail
  refine HV.out.mono ?_
  rintro e w1 ⟨rfl, hb1⟩
  have hb : Below w.heap.size w w1 := below_then hW0 hb1
  have hs1 : w.heap.size + 1 ≤ w1.heap.size := by have := hb1.size; rw [World.size_alloc] at this; exact this
  have q0 : w1.cell? ⟨w.heap.size, 0, none⟩ = some (.slice a1 n1 c1) := (hb1.cell (p := ⟨w.heap.size, 0, none⟩) (by simp)).trans (by go_simp)
  have q1 : w1.cell? ⟨w.heap.size, 1, none⟩ = some (.slice a2 n2 c2) := (hb1.cell (p := ⟨w.heap.size, 1, none⟩) (by simp)).trans (by go_simp)
  have q2 : w1.cell? ⟨w.heap.size, 2, none⟩ = some (.slice a3 n3 c3) := (hb1.cell (p := ⟨w.heap.size, 2, none⟩) (by simp)).trans (by go_simp)
  have q3 : w1.cell? ⟨w.heap.size, 3, none⟩ = some (.slice a4 n4 c4) := (hb1.cell (p := ⟨w.heap.size, 3, none⟩) (by simp)).trans (by go_simp)
  have q4 : w1.cell? ⟨w.heap.size, 4, none⟩ = some (.slice a5 n5 c5) := (hb1.cell (p := ⟨w.heap.size, 4, none⟩) (by simp)).trans (by go_simp)
  have HB := Lib.hid hb
  have HS1 := Lib.hid (HS.out.keep hb)
  have HR1 := Lib.hid HS.out.r1
  clear hb hb1 HV hW0 HS
  have hs1b : w.heap.size < w1.heap.size := by omega
  cases hok : okSB keyL s
  · have HN : Hid (okCo s co = false) := Lib.hid (okCo_no1 hok)
    go_wp2_with fail
    refine bodyPost_ret (results_tmp2 rfl _ _ _) rfl ?_
    exact ⟨by rw [HN.out, limO_no HN.out]; rfl, HB.out⟩
  by_cases hlo : 0 ≤ co
  case neg =>
    have HN : Hid (okCo s co = false) := Lib.hid (okCo_no2 (fun h => hlo h.1))
    have hlt : co < 0 := by omega
    clear hok hlo
    go_wp2_with fail
    refine bodyPost_ret (results_tmp2 rfl _ _ _) rfl ?_
    exact ⟨by rw [HN.out, limO_no HN.out]; rfl, HB.out⟩
  have hlt : ¬ co < 0 := by omega
  by_cases hhi : co < (n1 : Int)
  case neg =>
    have HN : Hid (okCo s co = false) := Lib.hid (okCo_no2 (fun h => hhi (by rw [← HS1.out.l1]; exact h.2)))
    clear hok hlo
    go_wp2_with fail
    refine bodyPost_ret (results_tmp2 rfl _ _ _) rfl ?_
    exact ⟨by rw [HN.out, limO_no HN.out]; rfl, HB.out⟩
  have HY : Hid (okCo s co = true) := Lib.hid (okCo_yes hok ⟨hlo, by rw [HS1.out.l1]; exact hhi⟩)
  have HOK := Lib.hid (okSB_iff.1 hok)
  obtain ⟨k, rfl⟩ := Int.eq_ofNat_of_zero_le hlo
  have hk : k < s.cons.length := by rw [HS1.out.l1]; omega
  obtain ⟨b, off, g, hA, hbl, hgx, x0, x1, x2, x3, x4, x5, x6, x7, x8, x9, x10⟩ := rdCon_at HS1.out.r1 hk
  have HG : Hid (limV g = limO s (k : Int)) := Lib.hid (by rw [limO_yes HY.out, Int.toNat_natCast]; unfold limAt; rw [hgx]; rfl)
  have HC := Lib.hid (limOf_ok g (HOK.out.okC hgx) w1)
  subst hA
  clear hok hlo hgx
  go_wp2_with fail
  refine HC.out.mono ?_
  rintro e w2 ⟨rfl, hb2⟩
  have HB2 := Lib.hid (below_then HB.out hb2)
  clear hb2
  go_wp2_with fail
  refine bodyPost_ret (results_tmp2 rfl _ _ _) rfl ?_
  exact ⟨by rw [HY.out, ← HG.out]; rfl, HB2.out⟩
set_option maxRecDepth 100000 in
set_option maxHeartbeats 4000000 in
theorem r9Limit_any (a1 a2 a3 a4 a5 : Option Addr) (n1 c1 n2 c2 n3 c3 n4 c4 n5 c5 : Nat) (s : GSite) (co : Int) (w : World) (HS : Hid (RdSite w a1 a2 a3 a4 a5 n1 n2 n3 n4 n5 s)) :
    Calls Try.prog 16 #[.agg #[.slice a1 n1 c1, .slice a2 n2 c2, .slice a3 n3 c3, .slice a4 n4 c4, .slice a5 n5 c5], .int .i64 co] w fun e w' => LiPost w s co e w' := by
  obtain ⟨m1, m2, m3, m4, m5⟩ : n1 ≤ 9223372036854775807 ∧ n2 ≤ 9223372036854775807 ∧ n3 ≤ 9223372036854775807 ∧ n4 ≤ 9223372036854775807 ∧ n5 ≤ 9223372036854775807 := ⟨HS.out.m1, HS.out.m2, HS.out.m3, HS.out.m4, HS.out.m5⟩
  have hW0 : Below w.heap.size w (w.alloc (.cells #[.slice a1 n1 c1, .slice a2 n2 c2, .slice a3 n3 c3, .slice a4 n4 c4, .slice a5 n5 c5] 28)) := (Below.refl _ w).alloc (Nat.le_refl _) _
  have HV := Lib.hid (r4Valid_any a1 a2 a3 a4 a5 n1 c1 n2 c2 n3 c3 n4 c4 n5 c5 s (w.alloc (.cells #[.slice a1 n1 c1, .slice a2 n2 c2, .slice a3 n3 c3, .slice a4 n4 c4, .slice a5 n5 c5] 28)) (Lib.hid (HS.out.keep hW0)))
  go_enter Try.func16, Try.ntmps16
  go_wp2_with fail
  refine HV.out.mono ?_
  rintro e w1 ⟨rfl, hb1⟩
  have hb : Below w.heap.size w w1 := below_then hW0 hb1
  have hs1 : w.heap.size + 1 ≤ w1.heap.size := by have := hb1.size; rw [World.size_alloc] at this; exact this
  have q0 : w1.cell? ⟨w.heap.size, 0, none⟩ = some (.slice a1 n1 c1) := (hb1.cell (p := ⟨w.heap.size, 0, none⟩) (by simp)).trans (by go_simp)
  have q1 : w1.cell? ⟨w.heap.size, 1, none⟩ = some (.slice a2 n2 c2) := (hb1.cell (p := ⟨w.heap.size, 1, none⟩) (by simp)).trans (by go_simp)
  have q2 : w1.cell? ⟨w.heap.size, 2, none⟩ = some (.slice a3 n3 c3) := (hb1.cell (p := ⟨w.heap.size, 2, none⟩) (by simp)).trans (by go_simp)
  have q3 : w1.cell? ⟨w.heap.size, 3, none⟩ = some (.slice a4 n4 c4) := (hb1.cell (p := ⟨w.heap.size, 3, none⟩) (by simp)).trans (by go_simp)
  have q4 : w1.cell? ⟨w.heap.size, 4, none⟩ = some (.slice a5 n5 c5) := (hb1.cell (p := ⟨w.heap.size, 4, none⟩) (by simp)).trans (by go_simp)
  have HB := Lib.hid hb
  have HS1 := Lib.hid (HS.out.keep hb)
  have HR1 := Lib.hid HS.out.r1
  clear hb hb1 HV hW0 HS
  have hs1b : w.heap.size < w1.heap.size := by omega
  cases hok : okSB keyL s
  · have HN : Hid (okCo s co = false) := Lib.hid (okCo_no1 hok)
    go_wp2_with fail
    refine bodyPost_ret (results_tmp2 rfl _ _ _) rfl ?_
    exact ⟨by rw [HN.out, limO_no HN.out]; rfl, HB.out⟩
  by_cases hlo : 0 ≤ co
  case neg =>
    have HN : Hid (okCo s co = false) := Lib.hid (okCo_no2 (fun h => hlo h.1))
    have hlt : co < 0 := by omega
    clear hok hlo
    go_wp2_with fail
    refine bodyPost_ret (results_tmp2 rfl _ _ _) rfl ?_
    exact ⟨by rw [HN.out, limO_no HN.out]; rfl, HB.out⟩
  have hlt : ¬ co < 0 := by omega
  by_cases hhi : co < (n1 : Int)
  case neg =>
    have HN : Hid (okCo s co = false) := Lib.hid (okCo_no2 (fun h => hhi (by rw [← HS1.out.l1]; exact h.2)))
    clear hok hlo
    go_wp2_with fail
    refine bodyPost_ret (results_tmp2 rfl _ _ _) rfl ?_
    exact ⟨by rw [HN.out, limO_no HN.out]; rfl, HB.out⟩
  have HY : Hid (okCo s co = true) := Lib.hid (okCo_yes hok ⟨hlo, by rw [HS1.out.l1]; exact hhi⟩)
  have HOK := Lib.hid (okSB_iff.1 hok)
  obtain ⟨k, rfl⟩ := Int.eq_ofNat_of_zero_le hlo
  have hk : k < s.cons.length := by rw [HS1.out.l1]; omega
  obtain ⟨b, off, g, hA, hbl, hgx, x0, x1, x2, x3, x4, x5, x6, x7, x8, x9, x10⟩ := rdCon_at HS1.out.r1 hk
  have HG : Hid (limV g = limO s (k : Int)) := Lib.hid (by rw [limO_yes HY.out, Int.toNat_natCast]; unfold limAt; rw [hgx]; rfl)
  have HC := Lib.hid (r9Of_ok g (HOK.out.okC hgx) w1)
  subst hA
  clear hok hlo hgx
  go_wp2_with fail
  refine HC.out.mono ?_
  rintro e w2 ⟨rfl, hb2⟩
  have HB2 := Lib.hid (below_then HB.out hb2)
  clear hb2
  go_wp2_with fail
  refine bodyPost_ret (results_tmp2 rfl _ _ _) rfl ?_
  exact ⟨by rw [HY.out, ← HG.out]; rfl, HB2.out⟩
end Go.Proofs.Ytbalhbpaholakaa
