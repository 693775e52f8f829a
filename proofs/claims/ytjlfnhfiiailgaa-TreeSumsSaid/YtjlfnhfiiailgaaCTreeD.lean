/-
tree.Path.
-/
import Derived.Test.YtjlfnhfiiailgaaCTreeC
import Derived.Test.YtjlfnhfiiailgaaCSiteE
import Derived.StillTailTactics
namespace Go.Proofs.Ytjlfnhfiiailgaa
open Go.RowKit
set_option linter.unusedVariables false
set_option linter.unusedSimpArgs false
def placeOf (s : GSite) (i : Nat) : Nat := ((s.chgs[i]?.map GChg.place).getD 0).toNat
noncomputable def okCh (s : GSite) (ch : Int) : Bool := okSB keyL s && decide (0 ≤ ch ∧ ch < s.chgs.length)
noncomputable def pathO (s : GSite) (ch : Int) : List Int := if okCh s ch = true then pthI s.cons (placeOf s ch.toNat) else []
def errO (b : Bool) : Int := if b then 0 else 1
theorem okCh_no1 {s : GSite} {ch : Int} (h : okSB keyL s = false) : okCh s ch = false := by unfold okCh; rw [h]; rfl
theorem okCh_no2 {s : GSite} {ch : Int} (h : ¬ (0 ≤ ch ∧ ch < s.chgs.length)) : okCh s ch = false := by unfold okCh; rw [decide_eq_false h, Bool.and_false]
theorem okCh_yes {s : GSite} {ch : Int} (h : okSB keyL s = true) (h2 : 0 ≤ ch ∧ ch < s.chgs.length) : okCh s ch = true := by unfold okCh; rw [h, decide_eq_true h2]; rfl
theorem pathO_no {s : GSite} {ch : Int} (h : okCh s ch = false) : pathO s ch = [] := by unfold pathO; rw [h]; rfl
theorem pathO_yes {s : GSite} {ch : Int} (h : okCh s ch = true) : pathO s ch = pthI s.cons (placeOf s ch.toNat) := by unfold pathO; rw [if_pos h]
theorem OkSite.place {s : GSite} (h : OkSite keyL s) {i : Nat} {c : GChg} (hc : s.chgs[i]? = some c) : 0 ≤ c.place ∧ c.place < s.cons.length ∧ ((placeOf s i : Nat) : Int) = c.place := by
  have h1 := h.chg c (List.mem_of_getElem? hc)
  unfold okChg at h1
  simp only [decide_eq_true_eq] at h1
  refine ⟨h1.1.1, h1.1.2, ?_⟩
  unfold placeOf
  rw [hc]
  show ((c.place.toNat : Nat) : Int) = c.place
  omega
/-- What Path does. -/
def PaPost (w : World) (s : GSite) (ch : Int) (e : Ending) (w' : World) : Prop := ∃ a c, e = .returned (.tuple #[.slice a (pathO s ch).length c, .int .i64 (errO (okCh s ch))]) ∧ Rd 1 encI w' a (pathO s ch) ∧ Below w.heap.size w w'
set_option maxRecDepth 100000 in
set_option maxHeartbeats 4000000 in
theorem trPath_any (a1 a2 a3 a4 a5 : Option Addr) (n1 c1 n2 c2 n3 c3 n4 c4 n5 c5 : Nat) (s : GSite) (ch : Int) (w : World) (HS : Hid (RdSite w a1 a2 a3 a4 a5 n1 n2 n3 n4 n5 s)) :
    Calls Try.prog 12 #[.agg #[.slice a1 n1 c1, .slice a2 n2 c2, .slice a3 n3 c3, .slice a4 n4 c4, .slice a5 n5 c5], .int .i64 ch] w fun e w' => PaPost w s ch e w' := by
  obtain ⟨m1, m2, m3, m4, m5⟩ : n1 ≤ 9223372036854775807 ∧ n2 ≤ 9223372036854775807 ∧ n3 ≤ 9223372036854775807 ∧ n4 ≤ 9223372036854775807 ∧ n5 ≤ 9223372036854775807 := ⟨HS.out.m1, HS.out.m2, HS.out.m3, HS.out.m4, HS.out.m5⟩
  have hW0 : Below w.heap.size w (w.alloc (.cells #[.slice a1 n1 c1, .slice a2 n2 c2, .slice a3 n3 c3, .slice a4 n4 c4, .slice a5 n5 c5] 28)) := (Below.refl _ w).alloc (Nat.le_refl _) _
  have HV := Lib.hid (stValid_any a1 a2 a3 a4 a5 n1 c1 n2 c2 n3 c3 n4 c4 n5 c5 s (w.alloc (.cells #[.slice a1 n1 c1, .slice a2 n2 c2, .slice a3 n3 c3, .slice a4 n4 c4, .slice a5 n5 c5] 28)) (Lib.hid (HS.out.keep hW0)))
  go_enter Try.func12, Try.ntmps12
  go_wp2_with fail
  refine HV.out.mono ?_
  rintro e w1 ⟨rfl, hb1⟩
  have hb : Below w.heap.size w w1 := below_then hW0 hb1
  have hs1 : w.heap.size + 1 ≤ w1.heap.size := by have := hb1.size; rw [World.size_alloc] at this; exact this
  have q0 : w1.cell? ⟨w.heap.size, 0, none⟩ = some (.slice a1 n1 c1) := (hb1.cell (p := ⟨w.heap.size, 0, none⟩) (by simp)).trans (by go_simp)
  have q1 : w1.cell? ⟨w.heap.size, 1, none⟩ = some (.slice a2 n2 c2) := (hb1.cell (p := ⟨w.heap.size, 1, none⟩) (by simp)).trans (by go_simp)
  have q2 : w1.cell? ⟨w.heap.size, 2, none⟩ = some (.slice a3 n3 c3) := (hb1.cell (p := ⟨w.heap.size, 2, none⟩) (by simp)).trans (by go_simp)
  have q3 : w1.cell? ⟨w.heap.size, 3, none⟩ = some (.slice a4 n4 c4) := (hb1.cell (p := ⟨w.heap.size, 3, none⟩) (by simp)).trans (by go_simp)
  have q4 : w1.cell? ⟨w.heap.size, 4, none⟩ = some (.slice a5 n5 c5) := (hb1.cell (p := ⟨w.heap.size, 4, none⟩) (by simp)).trans (by go_simp)
  have HB := Lib.hid hb
  have HS1 := Lib.hid (HS.out.keep hb)
  have HR1 := Lib.hid HS.out.r1
  clear hb hb1 HV hW0 HS
  cases hok : okSB keyL s
  · have HN : Hid (okCh s ch = false) := Lib.hid (okCh_no1 hok)
    go_wp2_with fail
    refine bodyPost_ret (results_tmp2 rfl _ _ _) rfl ?_
    exact ⟨none, 0, by rw [HN.out, pathO_no HN.out]; rfl, by rw [pathO_no HN.out]; exact Rd.nil, HB.out⟩
  by_cases hlo : 0 ≤ ch
  case neg =>
    have HN : Hid (okCh s ch = false) := Lib.hid (okCh_no2 (fun h => hlo h.1))
    have hlt : ch < 0 := by omega
    clear hok hlo
    go_wp2_with fail
    refine bodyPost_ret (results_tmp2 rfl _ _ _) rfl ?_
    exact ⟨none, 0, by rw [HN.out, pathO_no HN.out]; rfl, by rw [pathO_no HN.out]; exact Rd.nil, HB.out⟩
  have hlt : ¬ ch < 0 := by omega
  by_cases hhi : ch < (n4 : Int)
  case neg =>
    have HN : Hid (okCh s ch = false) := Lib.hid (okCh_no2 (fun h => hhi (by rw [← HS1.out.l4]; exact h.2)))
    clear hok hlo
    go_wp2_with fail
    refine bodyPost_ret (results_tmp2 rfl _ _ _) rfl ?_
    exact ⟨none, 0, by rw [HN.out, pathO_no HN.out]; rfl, by rw [pathO_no HN.out]; exact Rd.nil, HB.out⟩
  have HY : Hid (okCh s ch = true) := Lib.hid (okCh_yes hok ⟨hlo, by rw [HS1.out.l4]; exact hhi⟩)
  have HOK := Lib.hid (okSB_iff.1 hok)
  obtain ⟨i, rfl⟩ := Int.eq_ofNat_of_zero_le hlo
  have hi : i < s.chgs.length := by rw [HS1.out.l4]; omega
  obtain ⟨b, off, g, hA, hbl, hgx, -, hpl, -⟩ := rdChg_at HS1.out.r4 hi
  obtain ⟨p1, p2, p3⟩ := HOK.out.place hgx
  have HP3 := Lib.hid p3
  have hpn : placeOf s i < s.cons.length := by omega
  have HA1 : Hid (∀ a, a1 = some a → a.block < w.heap.size) := Lib.hid (fun a ha => by
    obtain ⟨b', off', hA', hb', _⟩ := HR1.out (by have := HOK.out.n1; omega)
    rw [hA'] at ha
    cases ha
    exact hb')
  subst hA
  clear hok hlo hgx p1 p2 p3
  go_wp2_with fail
  go_still_tail 7, (by kernel_rfl)
  change wpList _ _ _ _ _ w1.drew
  go_wp2_with fail
  refine (trWay_any a1 a2 a3 (some ⟨b, off, none⟩) a5 n1 c1 n2 c2 n3 c3 n4 c4 n5 c5 g.place w1.drew).mono ?_
  rintro e w2 ⟨rfl, hw2⟩
  have hw2' : w2 = (w1.alloc (.cells #[.slice a1 n1 c1, .slice a2 n2 c2, .slice a3 n3 c3, .slice (some ⟨b, off, none⟩) n4 c4, .slice a5 n5 c5] 28)).drew.alloc (.cells #[.int .i64 g.place] 3) := hw2
  have hb2 : Below w1.heap.size w1 w2 := by rw [hw2']; exact (((Below.refl _ w1).alloc (Nat.le_refl _) _).drew).alloc (by simp) _
  have z0 : w2.cell? ⟨w1.heap.size + 1, 0, none⟩ = some (.int .i64 ((placeOf s i : Nat) : Int)) := by rw [hw2', HP3.out]; go_simp
  have z1 : w2.cell? ⟨w1.heap.size, 0, none⟩ = some (.slice a1 n1 c1) := by rw [hw2']; go_simp
  have HCo := Lib.hid (trCollect_any (w1.heap.size + 1) w1.heap.size s.cons HOK.out.ups (placeOf s i) hpn a1 n1 c1 HS1.out.l1 (by have := HOK.out.n2; have := HS1.out.l1; omega) w2 z0 z1 (HS1.out.r1.keep hb2) (fun a ha => by have := HA1.out a ha; have := hb2.size; omega))
  have HB2 := Lib.hid (below_then HB.out hb2)
  clear hw2 hw2' z0 z1 hb2
  have hsz : w1.drew.heap.size = w1.heap.size := rfl
  go_wp2_with fail
  refine HCo.out.mono ?_
  rintro e w3 ⟨a, c, rfl, hr, hb3⟩
  have HR := Lib.hid hr
  have HB3 := Lib.hid (below_then HB2.out hb3)
  clear hr hb3 HCo
  go_wp2_with fail
  refine bodyPost_ret (results_tmp2 rfl _ _ _) rfl ?_
  exact ⟨a, c, by rw [HY.out, pathO_yes HY.out, Int.toNat_natCast]; rfl, by rw [pathO_yes HY.out, Int.toNat_natCast]; exact HR.out, HB3.out⟩
end Go.Proofs.Ytjlfnhfiiailgaa
