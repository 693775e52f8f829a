/-
Plans as slices of slices: reading, what both CheckPlan decide; the reference's Few.
-/
import Derived.Test.YtmmmgafnmpaohaaCPlanC
namespace Go.Proofs.Ytmmmgafnmpaohaa
open Go.RowKit
set_option linter.unusedVariables false
/-- A slice's header. -/
structure RowV where
  a : Option Addr
  n : Nat
  c : Nat
def encRow (r : RowV) : List Value := [.slice r.a r.n r.c]
/-- The slice of slices that begins at A reads as ps; rs are its rows' headers. -/
structure RdP (w : World) (A : Option Addr) (rs : List RowV) (ps : List (List Int)) : Prop where
  top : Rd 1 encRow w A rs
  len : rs.length = ps.length
  row : ∀ (k : Nat) (r : RowV) (p : List Int), rs[k]? = some r → ps[k]? = some p → p.length = r.n ∧ r.n ≤ 9223372036854775807 ∧ Rd 1 encI w r.a p
theorem RdP.keep {w w' : World} {A : Option Addr} {rs : List RowV} {ps : List (List Int)} (h : RdP w A rs ps) (hb : Below w.heap.size w w') : RdP w' A rs ps :=
  ⟨h.top.keep hb, h.len, fun k r p hr hp => ⟨(h.row k r p hr hp).1, (h.row k r p hr hp).2.1, (h.row k r p hr hp).2.2.keep hb⟩⟩
abbrev rowAt (ps : List (List Int)) (i : Nat) : List Int := ps[i]?.getD []
abbrev pAt (ps : List (List Int)) (i t : Nat) : Int := fAt (rowAt ps i) t
theorem RdP.at_ {w : World} {A : Option Addr} {rs : List RowV} {ps : List (List Int)} (h : RdP w A rs ps) {k : Nat} (hk : k < ps.length) :
    ∃ (b off : Nat) (r : RowV), A = some ⟨b, off, none⟩ ∧ b < w.heap.size ∧ w.cell? ⟨b, off + k, none⟩ = some (.slice r.a r.n r.c) ∧ (rowAt ps k).length = r.n ∧ r.n ≤ 9223372036854775807 ∧ Rd 1 encI w r.a (rowAt ps k) := by
  obtain ⟨b, off, r, hA, hlt, hr, hc⟩ := h.top.at_ (k := k) (by rw [h.len]; exact hk)
  have hp : ps[k]? = some (rowAt ps k) := by simp [rowAt, List.getElem?_eq_getElem hk]
  obtain ⟨q1, q2, q3⟩ := h.row k r _ hr hp
  refine ⟨b, off, r, hA, hlt, ?_, q1, q2, q3⟩
  have := hc 0 _ rfl
  simpa using this
noncomputable def planB (js : List GJob) (sup : List Int) (ps : List (List Int)) : Bool :=
  @decide (okP js sup = true ∧ ps.length = js.length ∧ (∀ i, i < js.length → (rowAt ps i).length = sup.length) ∧ IsPlan js sup (pAt ps)) (Classical.propDecidable _)
theorem planB_iff {js : List GJob} {sup : List Int} {ps : List (List Int)} : planB js sup ps = true ↔ (okP js sup = true ∧ ps.length = js.length ∧ (∀ i, i < js.length → (rowAt ps i).length = sup.length) ∧ IsPlan js sup (pAt ps)) := by
  unfold planB
  exact @decide_eq_true_iff _ (Classical.propDecidable _)
theorem planB_not {js : List GJob} {sup : List Int} {ps : List (List Int)} (h : ¬ (okP js sup = true ∧ ps.length = js.length ∧ (∀ i, i < js.length → (rowAt ps i).length = sup.length) ∧ IsPlan js sup (pAt ps))) : planB js sup ps = false := by
  cases e : planB js sup ps
  · rfl
  · exact absurd (planB_iff.1 e) h
/-- What one place of a plan must be. -/
def okAt (j : GJob) (t : Nat) (x : Int) : Prop := 0 ≤ x ∧ x ≤ j.rate ∧ (x ≠ 0 → inJ j t)
def rowOk (js : List GJob) (ps : List (List Int)) (T i : Nat) : Prop := (rowAt ps i).length = T ∧ (∀ t, t < T → okAt (jAt js i) t (pAt ps i t)) ∧ S T (pAt ps i) = (jAt js i).energy
theorem planB_yes {js : List GJob} {sup : List Int} {ps : List (List Int)} (h1 : okP js sup = true) (h2 : ps.length = js.length) (h3 : ∀ i, i < js.length → rowOk js ps sup.length i) (h4 : ∀ t, t < sup.length → S js.length (fun i => pAt ps i t) ≤ fAt sup t) : planB js sup ps = true :=
  planB_iff.2 ⟨h1, h2, fun i hi => (h3 i hi).1, ⟨fun i t hi ht => ((h3 i hi).2.1 t ht).1, fun i t hi ht => ((h3 i hi).2.1 t ht).2.1, fun i t hi ht hn => by
    have := ((h3 i hi).2.1 t ht).2.2
    by_cases e : pAt ps i t = 0
    · exact e
    · exact absurd (this e) hn, fun i hi => (h3 i hi).2.2, h4⟩⟩
theorem planB_row {js : List GJob} {sup : List Int} {ps : List (List Int)} {i : Nat} (hi : i < js.length) (h : ¬ rowOk js ps sup.length i) : planB js sup ps = false :=
  planB_not (fun ⟨_, _, h3, h4⟩ => h ⟨h3 i hi, fun t ht => ⟨h4.lo i t hi ht, h4.hi i t hi ht, fun hx => Classical.byContradiction fun hn => hx (h4.out i t hi ht hn)⟩, h4.got i hi⟩)
theorem planB_fits {js : List GJob} {sup : List Int} {ps : List (List Int)} {t : Nat} (ht : t < sup.length) (h : ¬ S js.length (fun i => pAt ps i t) ≤ fAt sup t) : planB js sup ps = false :=
  planB_not (fun ⟨_, _, _, h4⟩ => h (h4.fits t ht))
theorem rows_bound {js : List GJob} {sup : List Int} {ps : List (List Int)} (hok : okP js sup = true) {k : Nat} (hk : k ≤ js.length) (h : ∀ i, i < k → rowOk js ps sup.length i) {t : Nat} (ht : t < sup.length) : 0 ≤ S k (fun i => pAt ps i t) ∧ S k (fun i => pAt ps i t) ≤ 12000 := by
  have h1 := S_nonneg (n := k) (g := fun i => pAt ps i t) (fun i hi => ((h i hi).2.1 t ht).1)
  have h2 := S_bound (n := k) (g := fun i => pAt ps i t) (c := 1000) (fun i hi => by
    have a := ((h i hi).2.1 t ht).2.1
    have b := (okP_job hok (i := i) (by omega)).2.2.2.2.2.2.1
    show pAt ps i t ≤ 1000
    omega)
  have := (okP_iff.1 hok).1.1
  omega
def fewB (js : List GJob) (sup : List Int) (ps : List (List Int)) (cj cs : List Int) : Bool := ps.all (fun p => decide (p.length ≤ 50)) && decide (js.length ≤ 30 ∧ sup.length ≤ 50 ∧ ps.length ≤ 30 ∧ cj.length ≤ 50 ∧ cs.length ≤ 50)
set_option maxRecDepth 100000 in
set_option maxHeartbeats 1600000 in
theorem rpFew_any (A A2 A5 A3 A4 : Option Addr) (c N c2 T c5 N5 c3 N3 c4 N4 : Nat) (js : List GJob) (sup cj cs : List Int) (rs : List RowV) (ps : List (List Int)) (w : World) (HN : Hid (js.length = N)) (HN2 : Hid (sup.length = T))
    (hR5 : RdP w A5 rs ps) (HN5 : Hid (ps.length = N5)) (hl5 : N5 ≤ 9223372036854775807) (HN3 : Hid (cj.length = N3)) (HN4 : Hid (cs.length = N4)) :
    Calls Try.prog 13 #[.slice A N c, .slice A2 T c2, .slice A5 N5 c5, .agg #[.slice A3 N3 c3, .slice A4 N4 c4]] w fun e w' => e = .returned (.bool (fewB js sup ps cj cs)) ∧ Below w.heap.size w w' := by
  have hb : Below w.heap.size w (w.alloc (.cells #[.slice A3 N3 c3, .slice A4 N4 c4] 26)) := (Below.refl _ w).alloc (Nat.le_refl _) _
  have HR := Lib.hid (hR5.keep hb)
  have HB := Lib.hid hb
  have Hf : Hid (fewB js sup ps cj cs = (ps.all (fun p => decide (p.length ≤ 50)) && decide (N ≤ 30 ∧ T ≤ 50 ∧ N5 ≤ 30 ∧ N3 ≤ 50 ∧ N4 ≤ 50))) := Lib.hid (by unfold fewB; rw [HN.out, HN2.out, HN5.out, HN3.out, HN4.out])
  have k1 : (w.alloc (.cells #[.slice A3 N3 c3, .slice A4 N4 c4] 26)).cell? ⟨w.heap.size, 0, none⟩ = some (.slice A3 N3 c3) := by go_simp
  have k2 : (w.alloc (.cells #[.slice A3 N3 c3, .slice A4 N4 c4] 26)).cell? ⟨w.heap.size, 1, none⟩ = some (.slice A4 N4 c4) := by go_simp
  clear hR5 hb
  go_enter Try.func13, Try.ntmps13
  go_wp2
  generalize hW : w.alloc (.cells #[.slice A3 N3 c3, .slice A4 N4 c4] 26) = W at *
  have HW := Lib.hid hW
  clear hW
  go_loopg [9] N5 (fun g1 v9 wr => ∃ k : Nat, v9 = .int .i64 k ∧ k ≤ N5 ∧ N5 - k ≤ g1 ∧ Hid ((ps.take k).all (fun p => decide (p.length ≤ 50)) = true) ∧ W = wr)
  case atStart => exact ⟨0, by go_num, by omega, by omega, Lib.hid rfl, rfl⟩
  case round =>
    obtain ⟨k, rfl, hk, hg1, HA, rfl⟩ := hrel
    by_cases hlt : k < N5
    · have hltz : (k : Int) < (N5 : Int) := by omega
      obtain ⟨b, off, r, hA, hbl, hc0, hrn, hr63, _⟩ := HR.out.at_ (k := k) (by rw [HN5.out]; exact hlt)
      have hpk : ps[k]? = some (rowAt ps k) := by simp [rowAt, List.getElem?_eq_getElem (show k < ps.length by rw [HN5.out]; exact hlt)]
      subst hA
      by_cases h50 : r.n ≤ 50
      · have HA2 : Hid ((ps.take (k + 1)).all (fun p => decide (p.length ≤ 50)) = true) := Lib.hid (all_snoc hpk HA.out (by rw [hrn]; simpa using h50))
        have h50z : ¬ (50 : Int) < (r.n : Int) := by omega
        clear hpk hrn
        go_wp2
        go_roundg (N5 - (k + 1))
        case measure => omega
        case rel => exact ⟨k + 1, by go_num, by omega, by omega, HA2, rfl⟩
      · have HF : Hid (fewB js sup ps cj cs = false) := Lib.hid (by
          rw [Hf.out, all_not hpk (by rw [hrn]; simpa using h50)]
          rfl)
        have h50z : (50 : Int) < (r.n : Int) := by omega
        clear hpk hrn
        go_wp2
        go_ret
        exact ⟨ret_bool HF.out.symm, HB.out⟩
    · have hltz : ¬ (k : Int) < (N5 : Int) := by omega
      have HS : Hid (ps.all (fun p => decide (p.length ≤ 50)) = true) := Lib.hid (by have := HA.out; rwa [List.take_of_length_le (by rw [HN5.out]; omega)] at this)
      have Hf2 : Hid (fewB js sup ps cj cs = decide (N ≤ 30 ∧ T ≤ 50 ∧ N5 ≤ 30 ∧ N3 ≤ 50 ∧ N4 ≤ 50)) := Lib.hid (by rw [Hf.out, HS.out, Bool.true_and])
      clear Hf HS HA HR hlt hk hg1
      by_cases q1 : N ≤ 30
      case neg => (have HF : Hid (fewB js sup ps cj cs = false) := Lib.hid (by rw [Hf2.out, decide_eq_false_iff_not]; omega); clear Hf2; go_wp2; go_ret; exact ⟨ret_bool HF.out.symm, HB.out⟩)
      by_cases q2 : T ≤ 50
      case neg => (have HF : Hid (fewB js sup ps cj cs = false) := Lib.hid (by rw [Hf2.out, decide_eq_false_iff_not]; omega); clear Hf2; go_wp2; go_ret; exact ⟨ret_bool HF.out.symm, HB.out⟩)
      by_cases q3 : N5 ≤ 30
      case neg => (have HF : Hid (fewB js sup ps cj cs = false) := Lib.hid (by rw [Hf2.out, decide_eq_false_iff_not]; omega); clear Hf2; go_wp2; go_ret; exact ⟨ret_bool HF.out.symm, HB.out⟩)
      by_cases q4 : N3 ≤ 50
      case neg => (have HF : Hid (fewB js sup ps cj cs = false) := Lib.hid (by rw [Hf2.out, decide_eq_false_iff_not]; omega); clear Hf2; go_wp2; go_ret; exact ⟨ret_bool HF.out.symm, HB.out⟩)
      have HF : Hid (fewB js sup ps cj cs = decide (N4 ≤ 50)) := Lib.hid (by rw [Hf2.out]; simp [q1, q2, q3, q4])
      clear Hf2
      go_wp2
      go_ret
      exact ⟨ret_bool (by rw [HF.out]; simp; omega), HB.out⟩
end Go.Proofs.Ytmmmgafnmpaohaa
