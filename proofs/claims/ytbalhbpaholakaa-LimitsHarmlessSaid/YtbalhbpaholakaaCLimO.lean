/-
Law 09: loads.
-/
import Derived.Test.YtbalhbpaholakaaCLimM
namespace Go.Proofs.Ytbalhbpaholakaa
open Go.RowKit
set_option linter.unusedVariables false
set_option linter.unusedSimpArgs false
/-- One load; 0 where there is none. -/
noncomputable def lodF (s : GSite) (xs : List Int) (co : Int) (p : Nat) : Int := if loadB s xs = true ∧ 0 ≤ co ∧ co < (s.cons.length : Nat) then loadS s (fI xs) s.chgs.length (co.toNat * 3 + p) else 0
def LlPost (w : World) (s : GSite) (xs : List Int) (co : Int) (e : Ending) (w' : World) : Prop := e = .returned (.agg #[.int .i64 (lodF s xs co 0), .int .i64 (lodF s xs co 1), .int .i64 (lodF s xs co 2)]) ∧ Below w.heap.size w w'
theorem load_row3 {W : World} {b : Nat} {x y z : Int} (h : Own W b 60 3 (v3F x y z)) : (loadVar 60 ⟨b, 0, none⟩).run Try.prog W = .ok (.agg #[.int .i64 x, .int .i64 y, .int .i64 z]) W := by
  have c0 : W.cell? ⟨b, 0, none⟩ = some (.int .i64 x) := h.cell (i := 0) (by omega)
  have c1 : W.cell? ⟨b, 1, none⟩ = some (.int .i64 y) := h.cell (i := 1) (by omega)
  have c2 : W.cell? ⟨b, 2, none⟩ = some (.int .i64 z) := h.cell (i := 2) (by omega)
  go_simp
set_option maxRecDepth 100000 in
set_option maxHeartbeats 4000000 in
theorem lhLoads_any (a1 a2 a3 a4 a5 : Option Addr) (n1 c1 n2 c2 n3 c3 n4 c4 n5 c5 : Nat) (aA : Option Addr) (nA cA : Nat) (s : GSite) (xs : List Int) (co : Int) (w : World) (HS : Hid (RdSite w a1 a2 a3 a4 a5 n1 n2 n3 n4 n5 s)) (HX : Hid (Rd 1 encI w aA xs)) (HNA : Hid (xs.length = nA)) (hnA : nA ≤ 9223372036854775807) :
    Calls Try.prog 25 #[.agg #[.slice a1 n1 c1, .slice a2 n2 c2, .slice a3 n3 c3, .slice a4 n4 c4, .slice a5 n5 c5], .slice aA nA cA, .int .i64 co] w fun e w' => LlPost w s xs co e w' := by
  obtain ⟨m1, m2, m3, m4, m5⟩ : n1 ≤ 9223372036854775807 ∧ n2 ≤ 9223372036854775807 ∧ n3 ≤ 9223372036854775807 ∧ n4 ≤ 9223372036854775807 ∧ n5 ≤ 9223372036854775807 := ⟨HS.out.m1, HS.out.m2, HS.out.m3, HS.out.m4, HS.out.m5⟩
  have b0 : Below w.heap.size w ((w.alloc (.cells #[.slice a1 n1 c1, .slice a2 n2 c2, .slice a3 n3 c3, .slice a4 n4 c4, .slice a5 n5 c5] 28)).alloc (.cells #[.int .i64 0, .int .i64 0, .int .i64 0] 60)) := ((Below.refl _ w).alloc (Nat.le_refl _) _).alloc (by simp) _
  have o1 : Own ((w.alloc (.cells #[.slice a1 n1 c1, .slice a2 n2 c2, .slice a3 n3 c3, .slice a4 n4 c4, .slice a5 n5 c5] 28)).alloc (.cells #[.int .i64 0, .int .i64 0, .int .i64 0] 60)) (w.heap.size + 1) 60 3 (v3F 0 0 0) := by
    have h := Own.three (w.alloc (.cells #[.slice a1 n1 c1, .slice a2 n2 c2, .slice a3 n3 c3, .slice a4 n4 c4, .slice a5 n5 c5] 28)) 60 0 0 0
    rw [World.size_alloc] at h
    exact h
  have HV := Lib.hid (trLoads_any a1 n1 c1 a2 n2 c2 a3 n3 c3 a4 n4 c4 a5 n5 c5 aA nA cA s xs _ (Lib.hid (HS.out.keep b0)) (Lib.hid (HX.out.keep b0)) HNA (by omega))
  have HO := Lib.hid o1
  have HB0 := Lib.hid b0
  clear o1 b0
  go_enter Try.func25, Try.ntmps25
  go_wp2_with fail
  refine HV.out.mono ?_
  rintro e w1 ⟨aL, cL, rfl, hrl, hb1⟩
  have HBB := Lib.hid (below_then HB0.out hb1)
  have HO1 := Lib.hid (HO.out.keep hb1 HO.out.lt)
  have HRL := Lib.hid hrl
  have c10 : w1.cell? ⟨w.heap.size + 1, 0, none⟩ = some (.int .i64 0) := HO1.out.cell (i := 0) (by omega)
  have c11 : w1.cell? ⟨w.heap.size + 1, 1, none⟩ = some (.int .i64 0) := HO1.out.cell (i := 1) (by omega)
  have c12 : w1.cell? ⟨w.heap.size + 1, 2, none⟩ = some (.int .i64 0) := HO1.out.cell (i := 2) (by omega)
  have f10 := HO1.out.frozen 0
  have f11 := HO1.out.frozen 1
  have f12 := HO1.out.frozen 2
  have HW := Lib.hid (fun (x y z : Int) => HO1.out.set3 x y z)
  have HWB := Lib.hid (fun (x y z : Int) => (((HBB.out.setCell (p := ⟨w.heap.size + 1, 0, none⟩) (by show w.heap.size ≤ w.heap.size + 1; omega) (.int .i64 x)).setCell (p := ⟨w.heap.size + 1, 1, none⟩) (by show w.heap.size ≤ w.heap.size + 1; omega) (.int .i64 y)).setCell (p := ⟨w.heap.size + 1, 2, none⟩) (by show w.heap.size ≤ w.heap.size + 1; omega) (.int .i64 z)))
  clear hrl hb1 HV
  cases hlb : loadB s xs
  · have HE : Hid (∀ p, lodF s xs co p = 0) := Lib.hid (fun p => by unfold lodF; rw [if_neg (by rw [hlb]; simp)])
    have HLN : Hid ((loadsO s xs).length = 0) := Lib.hid (by rw [loadsO_no hlb]; rfl)
    generalize (loadsO s xs).length = L
    have he : errO false = 1 := rfl
    clear hlb
    go_wp2_with fail
    refine bodyPost_ret (results_c1 (a := 6) (ty := 60) (b := w.heap.size + 1) (by kernel_rfl) rfl (load_row3 (HW.out 0 0 0))) rfl ?_
    exact ⟨by rw [HE.out, HE.out, HE.out], HWB.out 0 0 0⟩
  have hok : okSB keyL s = true := by
    cases h : okSB keyL s
    · rw [loadB_no1 h] at hlb; cases hlb
    · rfl
  have hcl : s.cons.length = n1 := HS.out.l1
  have hn16 : n1 ≤ 16 := by have := (okSB_iff.1 hok).n2; omega
  have hL : (loadsO s xs).length = n1 := by rw [loadsO_yes hlb, loadsOf_len, hcl]
  have HRL2 : Hid (Rd 3 enc3 w1 aL ((List.range n1).map (row3 (loadS s (fI xs) s.chgs.length)))) := Lib.hid (by
    have h := HRL.out
    rw [loadsO_yes hlb] at h
    unfold loadsOf at h
    rw [hcl] at h
    exact h)
  have HCL := Lib.hid hcl
  have HLB := Lib.hid hlb
  rw [hL]
  have he : errO true = 0 := rfl
  clear HRL hok hcl hL hlb
  by_cases hlo : co < 0
  · have HE : Hid (∀ p, lodF s xs co p = 0) := Lib.hid (fun p => by unfold lodF; rw [if_neg (by omega)])
    go_wp2_with fail
    refine bodyPost_ret (results_c1 (a := 6) (ty := 60) (b := w.heap.size + 1) (by kernel_rfl) rfl (load_row3 (HW.out 0 0 0))) rfl ?_
    exact ⟨by rw [HE.out, HE.out, HE.out], HWB.out 0 0 0⟩
  by_cases hhi : (n1 : Int) ≤ co
  · have HE : Hid (∀ p, lodF s xs co p = 0) := Lib.hid (fun p => by unfold lodF; rw [if_neg (by rw [HCL.out]; omega)])
    go_wp2_with fail
    refine bodyPost_ret (results_c1 (a := 6) (ty := 60) (b := w.heap.size + 1) (by kernel_rfl) rfl (load_row3 (HW.out 0 0 0))) rfl ?_
    exact ⟨by rw [HE.out, HE.out, HE.out], HWB.out 0 0 0⟩
  obtain ⟨k, rfl⟩ := Int.eq_ofNat_of_zero_le (show 0 ≤ co by omega)
  have hk : k < n1 := by omega
  have hkz : (k : Int) < (n1 : Int) := by omega
  obtain ⟨b, off, hA, hbl, g0⟩ := load_at HRL2.out hk (p := 0) (by omega)
  obtain ⟨b', off', hA', _, g1⟩ := load_at HRL2.out hk (p := 1) (by omega)
  obtain ⟨b'', off'', hA'', _, g2⟩ := load_at HRL2.out hk (p := 2) (by omega)
  rw [hA] at hA' hA''
  cases hA'
  cases hA''
  subst hA
  have HE : Hid (∀ p, lodF s xs (k : Int) p = loadS s (fI xs) s.chgs.length (k * 3 + p)) := Lib.hid (fun p => by unfold lodF; rw [if_pos ⟨HLB.out, by omega, by rw [HCL.out]; omega⟩, Int.toNat_natCast])
  have g0' : w1.cell? ⟨b, off + k * 3, none⟩ = some (.int .i64 (loadS s (fI xs) s.chgs.length (k * 3 + 0))) := g0
  clear g0
  rw [← HE.out] at g0' g1 g2
  go_wp2_with fail
  refine bodyPost_ret (results_c1 (a := 6) (ty := 60) (b := w.heap.size + 1) (by kernel_rfl) rfl (load_row3 (HW.out _ _ _))) rfl ?_
  exact ⟨rfl, HWB.out _ _ _⟩
end Go.Proofs.Ytbalhbpaholakaa
