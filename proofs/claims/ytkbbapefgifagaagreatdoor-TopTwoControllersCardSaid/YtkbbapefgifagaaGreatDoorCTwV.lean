/-
Two controllers: ramp.Next.
-/
import Derived.Test.YtkbbapefgifagaaGreatDoorGTwT
namespace Go.Proofs.YtkbbapefgifagaaGreatDoor
open Go.RowKit
set_option linter.unusedVariables false
set_option linter.unusedSimpArgs false
def rmF (a b : Int) : Nat → Value := fun i => if i = 0 then .int .i64 a else .int .i64 b
theorem load_rm {w : World} {b : Nat} {h n : Int} (ho : Own w b 76 2 (rmF h n)) : (loadVar 76 ⟨b, 0, none⟩).run Tryz.prog w = .ok (.agg #[.int .i64 h, .int .i64 n]) w := by
  have h0 : w.cell? ⟨b, 0, none⟩ = some (.int .i64 h) := ho.cell (i := 0) (by omega)
  have h1 : w.cell? ⟨b, 1, none⟩ = some (.int .i64 n) := ho.cell (i := 1) (by omega)
  go_simp
/-- The table of ramps, as the program lays it. -/
def hapV (i : Nat) : Int := ([1, 1, 1, 0, 2, 2, 3, 3] : List Int)[i]?.getD 0
def hapT (w : World) : Prop := ∀ i, i < 8 → w.cell? ⟨1, i, none⟩ = some (.int .i64 (hapV i))
theorem rmIndex_t (w : World) : Calls Tryz.prog 73 #[.bool true] w fun e w' => e = .returned (.int .i64 1) ∧ w' = w := rmIndex_any true w
theorem rmIndex_f (w : World) : Calls Tryz.prog 73 #[.bool false] w fun e w' => e = .returned (.int .i64 0) ∧ w' = w := rmIndex_any false w
/-- What Next does. -/
def NxPost (r : Rmp) (want : Int) (w : World) (e : Ending) (w' : World) : Prop :=
  ∃ r' : Rmp, e = .returned (.tuple #[.agg #[.int .i64 r'.amp, .int .i64 r'.snc], .int .i64 0]) ∧ (RmOk r' ∧ r'.snc ≤ r.snc + 1 ∧ 0 ≤ r'.amp ∧ r'.amp ≤ want) ∧ Below w.heap.size w w'
theorem rmNext1_any (S : Nat) (w : World) (k : w.cell? ⟨S, 3, none⟩ = some (.int .i64 6)) : Calls Tryz.prog 69 #[.pointer (some ⟨S, 0, none⟩)] w fun e w' => e = .returned (.agg #[.int .i64 6, .int .i64 0]) ∧ Below w.heap.size w w' := by
  have lS : S < w.heap.size := zb k
  go_enter Tryz.func69, Tryz.ntmps69
  go_wp2_with fail
  refine bodyPost_ret (results_c1S (a := 1) (ty := 76) (b := w.heap.size) (x := .agg #[.int .i64 6, .int .i64 0]) (by kernel_rfl) rfl (by go_simp)) rfl ?_
  exact ⟨rfl, (Below.refl _ _).alloc (Nat.le_refl _) _⟩
theorem rmNext2_any (G : Nat) (g : Int) (w : World) (k : w.cell? ⟨G, 0, none⟩ = some (.int .i64 g)) : Calls Tryz.prog 70 #[.pointer (some ⟨G, 0, none⟩)] w fun e w' => e = .returned (.agg #[.int .i64 0, .int .i64 g]) ∧ Below w.heap.size w w' := by
  have lS : G < w.heap.size := zb k
  go_enter Tryz.func70, Tryz.ntmps70
  go_wp2_with fail
  refine bodyPost_ret (results_c1S (a := 1) (ty := 76) (b := w.heap.size) (x := .agg #[.int .i64 0, .int .i64 g]) (by kernel_rfl) rfl (by go_simp)) rfl ?_
  exact ⟨rfl, (Below.refl _ _).alloc (Nat.le_refl _) _⟩
theorem rmNext3_any (w : World) : Calls Tryz.prog 71 #[] w fun e w' => e = .returned (.agg #[.int .i64 0, .int .i64 0]) ∧ Below w.heap.size w w' := by
  go_enter Tryz.func71, Tryz.ntmps71
  go_wp2_with fail
  refine bodyPost_ret (results_c1S (a := 0) (ty := 76) (b := w.heap.size) (x := .agg #[.int .i64 0, .int .i64 0]) (by kernel_rfl) rfl (by go_simp)) rfl ?_
  exact ⟨rfl, (Below.refl _ _).alloc (Nat.le_refl _) _⟩
theorem rmNext4_any (L A S G : Nat) (lvl am g m : Int) (w : World) (kL : w.cell? ⟨L, 0, none⟩ = some (.int .i64 lvl)) (kA : w.cell? ⟨A, 0, none⟩ = some (.int .i64 am)) (kS : w.cell? ⟨S, 5, none⟩ = some (.int .i64 2)) (kG : w.cell? ⟨G, 0, none⟩ = some (.int .i64 g)) (ha : 0 ≤ am) (ha2 : am ≤ 80) (hm : m = min lvl (am + 2)) : Calls Tryz.prog 72 #[.pointer (some ⟨L, 0, none⟩), .pointer (some ⟨A, 0, none⟩), .pointer (some ⟨S, 0, none⟩), .pointer (some ⟨G, 0, none⟩)] w fun e w' => e = .returned (.agg #[.int .i64 m, .int .i64 g]) ∧ Below w.heap.size w w' := by
  have lL : L < w.heap.size := zb kL
  have lA : A < w.heap.size := zb kA
  have lS : S < w.heap.size := zb kS
  have lG : G < w.heap.size := zb kG
  have wa : IntKind.i64.wrap (am + 2) = am + 2 := IntWalk.i64_in _ (by omega)
  have HMM := Lib.hid hm
  clear hm
  by_cases h : lvl < am + 2
  · have e : m = lvl := by have := HMM.out; omega
    subst e
    go_enter Tryz.func72, Tryz.ntmps72
    go_wp2_with fail
    refine bodyPost_ret (results_c1S (a := 4) (ty := 76) (b := w.heap.size) (x := .agg #[.int .i64 m, .int .i64 g]) (by kernel_rfl) rfl (by go_simp)) rfl ?_
    exact ⟨rfl, (Below.refl _ _).alloc (Nat.le_refl _) _⟩
  · have e : m = am + 2 := by have := HMM.out; omega
    subst e
    rcases Int.lt_or_eq_of_le (show am + 2 ≤ lvl by omega) with h2 | h2
    · go_enter Tryz.func72, Tryz.ntmps72
      go_wp2_with fail
      refine bodyPost_ret (results_c1S (a := 4) (ty := 76) (b := w.heap.size) (x := .agg #[.int .i64 (am + 2), .int .i64 g]) (by kernel_rfl) rfl (by go_simp)) rfl ?_
      exact ⟨rfl, (Below.refl _ _).alloc (Nat.le_refl _) _⟩
    · subst h2
      go_enter Tryz.func72, Tryz.ntmps72
      go_wp2_with fail
      all_goals refine bodyPost_ret (results_c1S (a := 4) (ty := 76) (b := w.heap.size) (x := .agg #[.int .i64 (am + 2), .int .i64 g]) (by kernel_rfl) rfl (by go_simp)) rfl ?_
      all_goals exact ⟨rfl, (Below.refl _ _).alloc (Nat.le_refl _) _⟩
set_option maxRecDepth 100000 in
set_option maxHeartbeats 16000000 in
theorem rmNext_ok (nm : ByteArray) (r : Rmp) (want : Int) (w : World) (h : RmOk r) (hs : r.snc ≤ 1000) (hw0 : 0 ≤ want) (hw1 : want ≤ 80) (HT : Hid (hapT w)) : Calls Tryz.prog 44 #[.agg #[.string nm, .int .i64 0, .int .i64 1, .int .i64 6, .int .i64 32, .int .i64 2, .int .i64 0, .int .i64 0], .agg #[.int .i64 r.amp, .int .i64 r.snc], .int .i64 want] w (NxPost r want w) := by
  have HRO : Hid (0 ≤ r.amp ∧ r.amp ≤ 80) := Lib.hid ⟨by rcases h.a with h | h <;> omega, by rcases h.a with h | h <;> omega⟩
  have HRM := Lib.hid h
  have hs0 : 0 ≤ r.snc := h.s1
  clear h
  obtain ⟨W0, hW0⟩ : ∃ W, W = ((w.alloc (.cells #[.string nm, .int .i64 0, .int .i64 1, .int .i64 6, .int .i64 32, .int .i64 2, .int .i64 0, .int .i64 0] 59)).alloc (.cells #[.int .i64 r.amp, .int .i64 r.snc] 76)).alloc (.cells #[.int .i64 0, .int .i64 0] 76) := ⟨_, rfl⟩
  obtain ⟨C, hC⟩ : ∃ S, S = w.heap.size := ⟨_, rfl⟩
  obtain ⟨A, hA⟩ : ∃ S, S = w.heap.size + 1 := ⟨_, rfl⟩
  obtain ⟨R, hR⟩ : ∃ S, S = w.heap.size + 1 + 1 := ⟨_, rfl⟩
  have hb0 : Below w.heap.size w W0 := by rw [hW0]; exact (((Below.refl _ _).alloc (Nat.le_refl _) _).alloc (by simp) _).alloc (by simp; omega) _
  obtain ⟨c0, c1, c2, c3, c4, c5, c6, c7⟩ : W0.cell? ⟨C, 0, none⟩ = some (.string nm) ∧ W0.cell? ⟨C, 1, none⟩ = some (.int .i64 0) ∧ W0.cell? ⟨C, 2, none⟩ = some (.int .i64 1) ∧ W0.cell? ⟨C, 3, none⟩ = some (.int .i64 6) ∧ W0.cell? ⟨C, 4, none⟩ = some (.int .i64 32) ∧ W0.cell? ⟨C, 5, none⟩ = some (.int .i64 2) ∧ W0.cell? ⟨C, 6, none⟩ = some (.int .i64 0) ∧ W0.cell? ⟨C, 7, none⟩ = some (.int .i64 0) := by rw [hW0, hC]; exact ⟨by go_simp, by go_simp, by go_simp, by go_simp, by go_simp, by go_simp, by go_simp, by go_simp⟩
  obtain ⟨a0, a1⟩ : W0.cell? ⟨A, 0, none⟩ = some (.int .i64 r.amp) ∧ W0.cell? ⟨A, 1, none⟩ = some (.int .i64 r.snc) := by rw [hW0, hA]; exact ⟨by go_simp, by go_simp⟩
  have HR : Hid (Own W0 R 76 2 (rmF 0 0)) := Lib.hid (by rw [hW0, hR]; exact Own.newAt _ 76 _ _ (by simp) (n := 2) rfl (fun i hi => by match i, hi with | 0, _ => rfl | 1, _ => rfl))
  have HLT : Hid (w.heap.size ≤ C ∧ C < R ∧ A < R ∧ R < W0.heap.size ∧ w.heap.size ≤ A ∧ 1 < w.heap.size) := Lib.hid (by
    have h1 := zb (HT.out 0 (by omega))
    have h2 : W0.heap.size = w.heap.size + 3 := by rw [hW0]; simp
    dsimp only at h1
    omega)
  have lC : C < W0.heap.size := zb c0
  have lA : A < W0.heap.size := zb a0
  have HB := Lib.hid hb0
  have HW0 := Lib.hid (And.intro hW0.symm (And.intro hC.symm (And.intro hA.symm hR.symm)))
  clear hW0 hb0 hC hA hR
  go_enter Tryz.func44, Tryz.ntmps44
  go_upto_region 1 with (fail)
  try simp only [World.size_alloc]
  rw [HW0.out.1, HW0.out.2.2.2, HW0.out.2.2.1, HW0.out.2.1]
  clear HW0
  go_wp2_with fail
  refine (rmValid_ok nm r W0 HRM.out).mono ?_
  rintro e W1 ⟨rfl, hb1⟩
  obtain ⟨d0, d1, d2, d3, d4, d5, d6, d7⟩ : W1.cell? ⟨C, 0, none⟩ = some (.string nm) ∧ W1.cell? ⟨C, 1, none⟩ = some (.int .i64 0) ∧ W1.cell? ⟨C, 2, none⟩ = some (.int .i64 1) ∧ W1.cell? ⟨C, 3, none⟩ = some (.int .i64 6) ∧ W1.cell? ⟨C, 4, none⟩ = some (.int .i64 32) ∧ W1.cell? ⟨C, 5, none⟩ = some (.int .i64 2) ∧ W1.cell? ⟨C, 6, none⟩ = some (.int .i64 0) ∧ W1.cell? ⟨C, 7, none⟩ = some (.int .i64 0) := ⟨(hb1.cell (zb c0)).trans c0, (hb1.cell (zb c1)).trans c1, (hb1.cell (zb c2)).trans c2, (hb1.cell (zb c3)).trans c3, (hb1.cell (zb c4)).trans c4, (hb1.cell (zb c5)).trans c5, (hb1.cell (zb c6)).trans c6, (hb1.cell (zb c7)).trans c7⟩
  have b0 := (hb1.cell (zb a0)).trans a0
  have b1 := (hb1.cell (zb a1)).trans a1
  have HR := Lib.hid (HR.out.keep hb1 HR.out.lt)
  have HB := Lib.hid (below_then HB.out hb1)
  clear hb1 c0 c1 c2 c3 c4 c5 c6 c7 a0 a1 lC lA
  have lC : C < W1.heap.size := zb d0
  obtain ⟨W2, hW2⟩ : ∃ W, W = W1.alloc (.cells #[.string nm, .int .i64 0, .int .i64 1, .int .i64 6, .int .i64 32, .int .i64 2, .int .i64 0, .int .i64 0] 141) := ⟨_, rfl⟩
  obtain ⟨S, hS⟩ : ∃ S, S = W1.heap.size := ⟨_, rfl⟩
  have hb2 : Below W1.heap.size W1 W2 := by rw [hW2]; exact (Below.refl _ _).alloc (Nat.le_refl _) _
  obtain ⟨s0, s1, s2, s3, s4, s5, s6, s7⟩ : W2.cell? ⟨S, 0, none⟩ = some (.string nm) ∧ W2.cell? ⟨S, 1, none⟩ = some (.int .i64 0) ∧ W2.cell? ⟨S, 2, none⟩ = some (.int .i64 1) ∧ W2.cell? ⟨S, 3, none⟩ = some (.int .i64 6) ∧ W2.cell? ⟨S, 4, none⟩ = some (.int .i64 32) ∧ W2.cell? ⟨S, 5, none⟩ = some (.int .i64 2) ∧ W2.cell? ⟨S, 6, none⟩ = some (.int .i64 0) ∧ W2.cell? ⟨S, 7, none⟩ = some (.int .i64 0) := by rw [hW2, hS]; exact ⟨by go_simp, by go_simp, by go_simp, by go_simp, by go_simp, by go_simp, by go_simp, by go_simp⟩
  have HRS : Hid (R < S) := Lib.hid (by rw [hS]; exact HR.out.lt)
  have HR := Lib.hid (HR.out.keep hb2 HR.out.lt)
  have HAC := Lib.hid (And.intro ((hb2.cell (zb b0)).trans b0) ((hb2.cell (zb b1)).trans b1))
  have HB := Lib.hid (below_then HB.out hb2)
  have lS : S < W2.heap.size := zb s0
  have HW2 := Lib.hid (And.intro hW2.symm hS.symm)
  clear hW2 hS hb2 b0 b1
  go_upto_region 4 with (fail)
  rw [HW2.out.1, HW2.out.2]
  clear HW2 d0 d1 d2 d3 d4 d5 d6 d7 lC
  go_wp2_with fail
  refine (rmBelow_any nm want W2 hw0 hw1).mono ?_
  rintro e W3 ⟨rfl, hb3⟩
  obtain ⟨lv, hlv⟩ : ∃ l, l = belV want := ⟨_, rfl⟩
  rw [← hlv]
  have HLV := Lib.hid hlv
  have HLB : Hid (0 ≤ lv ∧ lv ≤ want ∧ (lv = 0 ∨ 6 ≤ lv ∧ lv ≤ 32 ∧ lv % 2 = 0)) := Lib.hid (by rw [hlv]; exact belV_le hw0)
  clear hlv
  have HAC := Lib.hid (And.intro ((hb3.cell (zb HAC.out.1)).trans HAC.out.1) ((hb3.cell (zb HAC.out.2)).trans HAC.out.2))
  have HSC := Lib.hid (And.intro ((hb3.cell (zb s3)).trans s3) ((hb3.cell (zb s5)).trans s5))
  have HR := Lib.hid (HR.out.keep hb3 HR.out.lt)
  have HB := Lib.hid (below_then HB.out hb3)
  have HSS : Hid (S < W3.heap.size) := Lib.hid (Nat.lt_of_lt_of_le lS hb3.size)
  clear hb3 s0 s1 s2 s3 s4 s5 s6 s7 lS
  have wsn : IntKind.i64.wrap (r.snc + 1) = r.snc + 1 := IntWalk.i64_in _ (by omega)
  have hsn : r.snc + 1 < 1000000 := by omega
  obtain ⟨W6, hW6⟩ : ∃ W, W = ((W3.alloc (.cells #[.int .i64 lv] 3)).alloc (.cells #[.int .i64 (r.snc + 1)] 3)).alloc (.cells #[.func (.func 69) #[] #[.pointer (some ⟨S, 0, none⟩)], .func (.func 70) #[] #[.pointer (some ⟨(W3.heap.size + 1), 0, none⟩)], .func (.func 71) #[] #[], .func (.func 72) #[] #[.pointer (some ⟨W3.heap.size, 0, none⟩), .pointer (some ⟨A, 0, none⟩), .pointer (some ⟨S, 0, none⟩), .pointer (some ⟨(W3.heap.size + 1), 0, none⟩)]] 143) := ⟨_, rfl⟩
  obtain ⟨L, hL⟩ : ∃ L, L = W3.heap.size := ⟨_, rfl⟩
  obtain ⟨G, hG⟩ : ∃ L, L = W3.heap.size + 1 := ⟨_, rfl⟩
  obtain ⟨N, hN⟩ : ∃ L, L = W3.heap.size + 1 + 1 := ⟨_, rfl⟩
  have hb6 : Below W3.heap.size W3 W6 := by rw [hW6]; exact (((Below.refl _ _).alloc (Nat.le_refl _) _).alloc (by simp) _).alloc (by simp; omega) _
  have HLG : Hid (W6.cell? ⟨L, 0, none⟩ = some (.int .i64 lv) ∧ W6.cell? ⟨G, 0, none⟩ = some (.int .i64 (r.snc + 1))) := Lib.hid (by rw [hW6, hL, hG]; exact ⟨by go_simp, by go_simp⟩)
  have HNF : Hid (W6.cell? ⟨N, 0, none⟩ = some (.func (.func 69) #[] #[.pointer (some ⟨S, 0, none⟩)]) ∧ W6.cell? ⟨N, 1, none⟩ = some (.func (.func 70) #[] #[.pointer (some ⟨G, 0, none⟩)]) ∧ W6.cell? ⟨N, 2, none⟩ = some (.func (.func 71) #[] #[]) ∧ W6.cell? ⟨N, 3, none⟩ = some (.func (.func 72) #[] #[.pointer (some ⟨L, 0, none⟩), .pointer (some ⟨A, 0, none⟩), .pointer (some ⟨S, 0, none⟩), .pointer (some ⟨G, 0, none⟩)])) := Lib.hid (by rw [hW6, hN, hG, hL]; exact ⟨by go_simp, by go_simp, by go_simp, by go_simp⟩)
  have HAC0 := HAC
  have HAC := Lib.hid (And.intro ((hb6.cell (zb HAC.out.1)).trans HAC.out.1) ((hb6.cell (zb HAC.out.2)).trans HAC.out.2))
  have HSC := Lib.hid (And.intro ((hb6.cell (zb HSC.out.1)).trans HSC.out.1) ((hb6.cell (zb HSC.out.2)).trans HSC.out.2))
  have HNE : Hid (A ≠ R ∧ S ≠ R ∧ L ≠ R ∧ G ≠ R ∧ N ≠ R ∧ 1 ≠ R ∧ w.heap.size ≤ R) := Lib.hid (by have h1 := HR.out.lt; have h2 := HLT.out; have h3 := HRS.out; omega)
  have HR := Lib.hid (HR.out.keep hb6 HR.out.lt)
  have HB := Lib.hid (below_then HB.out hb6)
  have HTB : Hid (hapT W6) := Lib.hid (fun i hi => (HB.out.cell (zb (HT.out i hi))).trans (HT.out i hi))
  have HW6 := Lib.hid (And.intro hW6.symm (And.intro hL.symm (And.intro hG.symm hN.symm)))
  clear hW6 hL hG hN hb6
  have a0 := HAC0.out.2
  have lA : A < W3.heap.size := zb a0
  go_upto_region 7 with (fail)
  try simp only [World.size_alloc]
  rw [HW6.out.1, HW6.out.2.2.2, HW6.out.2.2.1, HW6.out.2.1]
  clear HW6 a0 lA HAC0 wsn hsn
  obtain ⟨a0, a1⟩ : W6.cell? ⟨A, 0, none⟩ = some (.int .i64 r.amp) ∧ W6.cell? ⟨A, 1, none⟩ = some (.int .i64 r.snc) := HAC.out
  have l0 : W6.cell? ⟨L, 0, none⟩ = some (.int .i64 lv) := HLG.out.1
  have g0 : W6.cell? ⟨G, 0, none⟩ = some (.int .i64 (r.snc + 1)) := HLG.out.2
  obtain ⟨n0, n1, n2, n3⟩ := HNF.out
  have s3 : W6.cell? ⟨S, 3, none⟩ = some (.int .i64 6) := HSC.out.1
  have s5 : W6.cell? ⟨S, 5, none⟩ = some (.int .i64 2) := HSC.out.2
  have lA : A < W6.heap.size := zb a0
  have lL : L < W6.heap.size := zb l0
  have lN : N < W6.heap.size := zb n0
  obtain ⟨hap0, hap1⟩ := HRO.out
  by_cases ha : r.amp = 0
  · have hqa : (r.amp != 0) = false := by rw [ha]; rfl
    have HA0 := Lib.hid ha
    clear ha
    by_cases hl : lv = 0
    · have hqb : (lv != 0) = false := by rw [hl]; rfl
      have HPO : Hid (RmOk ⟨0, r.snc + 1⟩ ∧ (⟨0, r.snc + 1⟩ : Rmp).snc ≤ r.snc + 1 ∧ 0 ≤ (⟨0, r.snc + 1⟩ : Rmp).amp ∧ (⟨0, r.snc + 1⟩ : Rmp).amp ≤ want) := Lib.hid ⟨⟨.inl rfl, by show 0 ≤ r.snc + 1; omega, by show r.snc + 1 ≤ 1000000; omega⟩, Int.le_refl _, Int.le_refl _, hw0⟩
      clear hl
      obtain ⟨qc, hqc⟩ : ∃ q, decide (5 ≤ r.snc) = q := ⟨_, rfl⟩
      obtain ⟨ic, hic⟩ : ∃ i : Nat, i = if qc then 1 else 0 := ⟨_, rfl⟩
      have HIC := Lib.hid hic
      have hic1 : ic ≤ 1 := by rw [hic]; split <;> omega
      clear hic
      have hg : W6.cell? ⟨1, ic, none⟩ = some (.int .i64 1) := by
        have h := HTB.out (ic) (by omega)
        rw [h]
        have : ic = 0 ∨ ic = 1 := by omega
        rcases this with e | e <;> subst e <;> rfl
      have lO : 1 < W6.heap.size := zb hg
      refine region_z (S := fun w' => Mod (fun j => j = R) W6 w') [] (by kernel_rfl) ((Mod.refl _ _).drew) (fun hHeld => ?_)
      refine zt (i := 0) (v := .pointer (some ⟨A, 0, none⟩)) [] (fun w' hSw => ?_) hHeld ?_
      · clear hHeld hSw
        go_simp
      simp only [Act.put, zl0, zl1, zl2, zl3, zl4, zl5]
      refine zt (i := 1) (v := .int .i64 r.amp) [] (fun w' hSw => ?_) hHeld ?_
      · have e1 := (hSw.cell (zb a0) (by have := HNE.out; dsimp only; omega)).trans a0
        have lA' : A < w'.heap.size := Nat.lt_of_lt_of_le lA hSw.size
        clear hHeld hSw
        go_simp
      simp only [Act.put, zl0, zl1, zl2, zl3, zl4, zl5]
      refine zt (i := 2) (v := .bool false) [] (fun w' hSw => ?_) hHeld ?_
      · clear hHeld hSw
        go_simp
        first | done | exact hqa | simpa using hqa
      simp only [Act.put, zl0, zl1, zl2, zl3, zl4, zl5]
      refine zt (i := 4) (v := .int .i64 lv) [] (fun w' hSw => ?_) hHeld ?_
      · have e1 := (hSw.cell (zb l0) (by have := HNE.out; dsimp only; omega)).trans l0
        have lL' : L < w'.heap.size := Nat.lt_of_lt_of_le lL hSw.size
        clear hHeld hSw
        go_simp
      simp only [Act.put, zl0, zl1, zl2, zl3, zl4, zl5]
      refine zt (i := 5) (v := .bool false) [] (fun w' hSw => ?_) hHeld ?_
      · clear hHeld hSw
        go_simp
        first | done | exact hqb | simpa using hqb
      simp only [Act.put, zl0, zl1, zl2, zl3, zl4, zl5]
      refine zt (i := 7) (v := .pointer (some ⟨A, 1, none⟩)) [] (fun w' hSw => ?_) hHeld ?_
      · clear hHeld hSw
        go_simp
      simp only [Act.put, zl0, zl1, zl2, zl3, zl4, zl5]
      refine zt (i := 8) (v := .int .i64 r.snc) [] (fun w' hSw => ?_) hHeld ?_
      · have e1 := (hSw.cell (zb a1) (by have := HNE.out; dsimp only; omega)).trans a1
        have lA' : A < w'.heap.size := Nat.lt_of_lt_of_le lA hSw.size
        clear hHeld hSw
        go_simp
      simp only [Act.put, zl0, zl1, zl2, zl3, zl4, zl5]
      refine zt (i := 9) (v := .bool qc) [] (fun w' hSw => ?_) hHeld ?_
      · clear hHeld hSw
        go_simp
        first | done | exact hqc | simpa using hqc | omega
      simp only [Act.put, zl0, zl1, zl2, zl3, zl4, zl5]
      refine zo 3 (fun K' hK => ?_)
      go_simp
      refine (rmIndex_f _).mono ?_
      rintro e wk ⟨rfl, hw⟩
      subst hw
      refine hK.out _ _ ?_ (fun hHeld' => ?_)
      · exact hHeld
      clear hK K' hHeld
      have hHeld := hHeld'
      clear hHeld'
      try simp only [Act.put, zl0, zl1, zl2, zl3, zl4, zl5]
      refine zt (i := 11) (v := .pointer (some ⟨1, 0, none⟩)) [] (fun w' hSw => ?_) hHeld ?_
      · clear hHeld hSw
        go_simp
        first | done | omega
      simp only [Act.put, zl0, zl1, zl2, zl3, zl4, zl5]
      refine zo 6 (fun K' hK => ?_)
      go_simp
      refine (rmIndex_f _).mono ?_
      rintro e wk ⟨rfl, hw⟩
      subst hw
      refine hK.out _ _ ?_ (fun hHeld' => ?_)
      · exact hHeld
      clear hK K' hHeld
      have hHeld := hHeld'
      clear hHeld'
      try simp only [Act.put, zl0, zl1, zl2, zl3, zl4, zl5]
      refine zt (i := 12) (v := .pointer (some ⟨1, 0, none⟩)) [] (fun w' hSw => ?_) hHeld ?_
      · clear hHeld hSw
        go_simp
        first | done | omega
      simp only [Act.put, zl0, zl1, zl2, zl3, zl4, zl5]
      refine zo 10 (fun K' hK => ?_)
      go_simp
      refine (rmIndex_any qc _).mono ?_
      rintro e wk ⟨rfl, hw⟩
      rw [← HIC.out]
      subst hw
      refine hK.out _ _ ?_ (fun hHeld' => ?_)
      · exact hHeld
      clear hK K' hHeld
      have hHeld := hHeld'
      clear hHeld'
      try simp only [Act.put, zl0, zl1, zl2, zl3, zl4, zl5]
      refine zt (i := 13) (v := .pointer (some ⟨1, ic, none⟩)) [] (fun w' hSw => ?_) hHeld ?_
      · clear hHeld hSw
        go_simp
        first | done | omega
      simp only [Act.put, zl0, zl1, zl2, zl3, zl4, zl5]
      refine zt (i := 14) (v := .int .i64 1) [] (fun w' hSw => ?_) hHeld ?_
      · have e1 := (hSw.cell (zb hg) (by have := HNE.out; dsimp only; omega)).trans hg
        have lO' : 1 < w'.heap.size := Nat.lt_of_lt_of_le lO hSw.size
        clear hHeld hSw
        go_simp
      simp only [Act.put, zl0, zl1, zl2, zl3, zl4, zl5]
      refine zt (i := 15) (v := .pointer (some ⟨N, 1, none⟩)) [] (fun w' hSw => ?_) hHeld ?_
      · clear hHeld hSw
        go_simp
      simp only [Act.put, zl0, zl1, zl2, zl3, zl4, zl5]
      refine zt (i := 16) (v := .func (.func 70) #[] #[.pointer (some ⟨G, 0, none⟩)]) [] (fun w' hSw => ?_) hHeld ?_
      · have e1 := (hSw.cell (zb n1) (by have := HNE.out; dsimp only; omega)).trans n1
        have lN' : N < w'.heap.size := Nat.lt_of_lt_of_le lN hSw.size
        clear hHeld hSw
        go_simp
      simp only [Act.put, zl0, zl1, zl2, zl3, zl4, zl5]
      refine zo 17 (fun K' hK => ?_)
      rw [if_pos (by rfl)]
      go_simp
      refine (rmNext2_any G (r.snc + 1) _ ((hHeld.cell (zb g0) (by have := HNE.out; dsimp only; omega)).trans g0)).mono ?_
      rintro e W8 ⟨rfl, hb8⟩
      have hmw := mod_then hHeld hb8
      have HR8 := Lib.hid (HR.out.drew.keep hb8 HR.out.drew.lt)
      refine hK.out _ _ ?_ (fun hHeld' => ?_)
      · exact hmw
      clear hK K' hHeld hb8 hmw
      have hHeld := hHeld'
      clear hHeld'
      try simp only [Act.put, zl0, zl1, zl2, zl3, zl4, zl5]
      obtain ⟨r0, r1⟩ : W8.cell? ⟨R, 0, none⟩ = some (.int .i64 0) ∧ W8.cell? ⟨R, 1, none⟩ = some (.int .i64 0) := ⟨HR8.out.cell (i := 0) (by omega), HR8.out.cell (i := 1) (by omega)⟩
      have f0 := HR8.out.frozen 0
      have f1 := HR8.out.frozen 1
      have lR : R < W8.heap.size := HR8.out.lt
      refine zo 18 (fun K' hK => ?_)
      go_simp
      obtain ⟨W9, hw⟩ : ∃ W, W = (W8.setCell ⟨R, 0, none⟩ (.int .i64 0)).setCell ⟨R, 1, none⟩ (.int .i64 (r.snc + 1)) := ⟨_, rfl⟩
      rw [← hw]
      have hm9 : Mod (fun j => j = R) W8 W9 := by rw [hw]; exact ((Mod.refl (fun j => j = R) W8).setCell (p := ⟨R, 0, none⟩) (.inl rfl) _).setCell (p := ⟨R, 1, none⟩) (.inl rfl) _
      have HR9 : Hid (Own W9 R 76 2 (rmF (0) ((r.snc + 1)))) := Lib.hid (by rw [hw]; exact ((HR8.out.set 0 _).set 1 _).congr (fun i hi => by match i, hi with | 0, _ => rfl | 1, _ => rfl))
      clear hw r0 r1 f0 f1 lR
      refine hK.out _ _ ?_ (fun hHeld' => ?_)
      · exact hHeld.trans hm9
      clear hK K' hHeld hm9
      have hHeld := hHeld'
      clear hHeld'
      try simp only [Act.put, zl0, zl1, zl2, zl3, zl4, zl5]
      refine zt (i := 19) (v := .int .i64 0) [] (fun w' hSw => ?_) hHeld ?_
      · clear hHeld hSw
        go_simp
      simp only [Act.put, zl0, zl1, zl2, zl3, zl4, zl5]
      refine wpAnyZ_done (by kernel_rfl) ?_ _
      go_wp2_with fail
      refine bodyPost_ret (results_ctT (a := 6) (t := 7) (ty := 76) (x := R) (by kernel_rfl) rfl (load_rm HR9.out)) rfl ?_
      exact ⟨⟨0, (r.snc + 1)⟩, rfl, HPO.out, HB.out.trans (hHeld.below HB.out.size (fun j _ e => by have := HNE.out; omega))⟩
    · have hqb : (lv != 0) = true := by simpa using hl
      by_cases hc : 5 ≤ r.snc
      · have hqc : decide (5 ≤ r.snc) = true := decide_eq_true hc
        have HPO : Hid (RmOk ⟨6, 0⟩ ∧ (⟨6, 0⟩ : Rmp).snc ≤ r.snc + 1 ∧ 0 ≤ (⟨6, 0⟩ : Rmp).amp ∧ (⟨6, 0⟩ : Rmp).amp ≤ want) := Lib.hid ⟨⟨.inr ⟨by show (6 : Int) ≤ 6; omega, by show (6 : Int) ≤ 32; omega, rfl⟩, Int.le_refl _, by show (0 : Int) ≤ 1000000; omega⟩, by show 0 ≤ r.snc + 1; omega, by show (0 : Int) ≤ 6; omega, by have := HLB.out; show 6 ≤ want; omega⟩
        have hg : W6.cell? ⟨1, 3, none⟩ = some (.int .i64 0) := HTB.out 3 (by omega)
        have lO : 1 < W6.heap.size := zb hg
        refine region_z (S := fun w' => Mod (fun j => j = R) W6 w') [] (by kernel_rfl) ((Mod.refl _ _).drew) (fun hHeld => ?_)
        refine zt (i := 0) (v := .pointer (some ⟨A, 0, none⟩)) [] (fun w' hSw => ?_) hHeld ?_
        · clear hHeld hSw
          go_simp
        simp only [Act.put, zl0, zl1, zl2, zl3, zl4, zl5]
        refine zt (i := 1) (v := .int .i64 r.amp) [] (fun w' hSw => ?_) hHeld ?_
        · have e1 := (hSw.cell (zb a0) (by have := HNE.out; dsimp only; omega)).trans a0
          have lA' : A < w'.heap.size := Nat.lt_of_lt_of_le lA hSw.size
          clear hHeld hSw
          go_simp
        simp only [Act.put, zl0, zl1, zl2, zl3, zl4, zl5]
        refine zt (i := 2) (v := .bool false) [] (fun w' hSw => ?_) hHeld ?_
        · clear hHeld hSw
          go_simp
          first | done | exact hqa | simpa using hqa
        simp only [Act.put, zl0, zl1, zl2, zl3, zl4, zl5]
        refine zt (i := 4) (v := .int .i64 lv) [] (fun w' hSw => ?_) hHeld ?_
        · have e1 := (hSw.cell (zb l0) (by have := HNE.out; dsimp only; omega)).trans l0
          have lL' : L < w'.heap.size := Nat.lt_of_lt_of_le lL hSw.size
          clear hHeld hSw
          go_simp
        simp only [Act.put, zl0, zl1, zl2, zl3, zl4, zl5]
        refine zt (i := 5) (v := .bool true) [] (fun w' hSw => ?_) hHeld ?_
        · clear hHeld hSw
          go_simp
          first | done | exact hqb | simpa using hqb
        simp only [Act.put, zl0, zl1, zl2, zl3, zl4, zl5]
        refine zt (i := 7) (v := .pointer (some ⟨A, 1, none⟩)) [] (fun w' hSw => ?_) hHeld ?_
        · clear hHeld hSw
          go_simp
        simp only [Act.put, zl0, zl1, zl2, zl3, zl4, zl5]
        refine zt (i := 8) (v := .int .i64 r.snc) [] (fun w' hSw => ?_) hHeld ?_
        · have e1 := (hSw.cell (zb a1) (by have := HNE.out; dsimp only; omega)).trans a1
          have lA' : A < w'.heap.size := Nat.lt_of_lt_of_le lA hSw.size
          clear hHeld hSw
          go_simp
        simp only [Act.put, zl0, zl1, zl2, zl3, zl4, zl5]
        refine zt (i := 9) (v := .bool true) [] (fun w' hSw => ?_) hHeld ?_
        · clear hHeld hSw
          go_simp
          first | done | exact hqc | simpa using hqc | omega
        simp only [Act.put, zl0, zl1, zl2, zl3, zl4, zl5]
        refine zo 3 (fun K' hK => ?_)
        go_simp
        refine (rmIndex_f _).mono ?_
        rintro e wk ⟨rfl, hw⟩
        subst hw
        refine hK.out _ _ ?_ (fun hHeld' => ?_)
        · exact hHeld
        clear hK K' hHeld
        have hHeld := hHeld'
        clear hHeld'
        try simp only [Act.put, zl0, zl1, zl2, zl3, zl4, zl5]
        refine zt (i := 11) (v := .pointer (some ⟨1, 0, none⟩)) [] (fun w' hSw => ?_) hHeld ?_
        · clear hHeld hSw
          go_simp
          first | done | omega
        simp only [Act.put, zl0, zl1, zl2, zl3, zl4, zl5]
        refine zo 6 (fun K' hK => ?_)
        go_simp
        refine (rmIndex_t _).mono ?_
        rintro e wk ⟨rfl, hw⟩
        subst hw
        refine hK.out _ _ ?_ (fun hHeld' => ?_)
        · exact hHeld
        clear hK K' hHeld
        have hHeld := hHeld'
        clear hHeld'
        try simp only [Act.put, zl0, zl1, zl2, zl3, zl4, zl5]
        refine zt (i := 12) (v := .pointer (some ⟨1, 2, none⟩)) [] (fun w' hSw => ?_) hHeld ?_
        · clear hHeld hSw
          go_simp
          first | done | omega
        simp only [Act.put, zl0, zl1, zl2, zl3, zl4, zl5]
        refine zo 10 (fun K' hK => ?_)
        go_simp
        refine (rmIndex_t _).mono ?_
        rintro e wk ⟨rfl, hw⟩
        subst hw
        refine hK.out _ _ ?_ (fun hHeld' => ?_)
        · exact hHeld
        clear hK K' hHeld
        have hHeld := hHeld'
        clear hHeld'
        try simp only [Act.put, zl0, zl1, zl2, zl3, zl4, zl5]
        refine zt (i := 13) (v := .pointer (some ⟨1, 3, none⟩)) [] (fun w' hSw => ?_) hHeld ?_
        · clear hHeld hSw
          go_simp
          first | done | omega
        simp only [Act.put, zl0, zl1, zl2, zl3, zl4, zl5]
        refine zt (i := 14) (v := .int .i64 0) [] (fun w' hSw => ?_) hHeld ?_
        · have e1 := (hSw.cell (zb hg) (by have := HNE.out; dsimp only; omega)).trans hg
          have lO' : 1 < w'.heap.size := Nat.lt_of_lt_of_le lO hSw.size
          clear hHeld hSw
          go_simp
        simp only [Act.put, zl0, zl1, zl2, zl3, zl4, zl5]
        refine zt (i := 15) (v := .pointer (some ⟨N, 0, none⟩)) [] (fun w' hSw => ?_) hHeld ?_
        · clear hHeld hSw
          go_simp
        simp only [Act.put, zl0, zl1, zl2, zl3, zl4, zl5]
        refine zt (i := 16) (v := .func (.func 69) #[] #[.pointer (some ⟨S, 0, none⟩)]) [] (fun w' hSw => ?_) hHeld ?_
        · have e1 := (hSw.cell (zb n0) (by have := HNE.out; dsimp only; omega)).trans n0
          have lN' : N < w'.heap.size := Nat.lt_of_lt_of_le lN hSw.size
          clear hHeld hSw
          go_simp
        simp only [Act.put, zl0, zl1, zl2, zl3, zl4, zl5]
        refine zo 17 (fun K' hK => ?_)
        rw [if_pos (by rfl)]
        go_simp
        refine (rmNext1_any S _ ((hHeld.cell (zb s3) (by have := HNE.out; dsimp only; omega)).trans s3)).mono ?_
        rintro e W8 ⟨rfl, hb8⟩
        have hmw := mod_then hHeld hb8
        have HR8 := Lib.hid (HR.out.drew.keep hb8 HR.out.drew.lt)
        refine hK.out _ _ ?_ (fun hHeld' => ?_)
        · exact hmw
        clear hK K' hHeld hb8 hmw
        have hHeld := hHeld'
        clear hHeld'
        try simp only [Act.put, zl0, zl1, zl2, zl3, zl4, zl5]
        obtain ⟨r0, r1⟩ : W8.cell? ⟨R, 0, none⟩ = some (.int .i64 0) ∧ W8.cell? ⟨R, 1, none⟩ = some (.int .i64 0) := ⟨HR8.out.cell (i := 0) (by omega), HR8.out.cell (i := 1) (by omega)⟩
        have f0 := HR8.out.frozen 0
        have f1 := HR8.out.frozen 1
        have lR : R < W8.heap.size := HR8.out.lt
        refine zo 18 (fun K' hK => ?_)
        go_simp
        obtain ⟨W9, hw⟩ : ∃ W, W = (W8.setCell ⟨R, 0, none⟩ (.int .i64 6)).setCell ⟨R, 1, none⟩ (.int .i64 0) := ⟨_, rfl⟩
        rw [← hw]
        have hm9 : Mod (fun j => j = R) W8 W9 := by rw [hw]; exact ((Mod.refl (fun j => j = R) W8).setCell (p := ⟨R, 0, none⟩) (.inl rfl) _).setCell (p := ⟨R, 1, none⟩) (.inl rfl) _
        have HR9 : Hid (Own W9 R 76 2 (rmF (6) (0))) := Lib.hid (by rw [hw]; exact ((HR8.out.set 0 _).set 1 _).congr (fun i hi => by match i, hi with | 0, _ => rfl | 1, _ => rfl))
        clear hw r0 r1 f0 f1 lR
        refine hK.out _ _ ?_ (fun hHeld' => ?_)
        · exact hHeld.trans hm9
        clear hK K' hHeld hm9
        have hHeld := hHeld'
        clear hHeld'
        try simp only [Act.put, zl0, zl1, zl2, zl3, zl4, zl5]
        refine zt (i := 19) (v := .int .i64 0) [] (fun w' hSw => ?_) hHeld ?_
        · clear hHeld hSw
          go_simp
        simp only [Act.put, zl0, zl1, zl2, zl3, zl4, zl5]
        refine wpAnyZ_done (by kernel_rfl) ?_ _
        go_wp2_with fail
        refine bodyPost_ret (results_ctT (a := 6) (t := 7) (ty := 76) (x := R) (by kernel_rfl) rfl (load_rm HR9.out)) rfl ?_
        exact ⟨⟨6, 0⟩, rfl, HPO.out, HB.out.trans (hHeld.below HB.out.size (fun j _ e => by have := HNE.out; omega))⟩
      · have hqc : decide (5 ≤ r.snc) = false := decide_eq_false hc
        have HPO : Hid (RmOk ⟨0, r.snc + 1⟩ ∧ (⟨0, r.snc + 1⟩ : Rmp).snc ≤ r.snc + 1 ∧ 0 ≤ (⟨0, r.snc + 1⟩ : Rmp).amp ∧ (⟨0, r.snc + 1⟩ : Rmp).amp ≤ want) := Lib.hid ⟨⟨.inl rfl, by show 0 ≤ r.snc + 1; omega, by show r.snc + 1 ≤ 1000000; omega⟩, Int.le_refl _, Int.le_refl _, hw0⟩
        have hg : W6.cell? ⟨1, 2, none⟩ = some (.int .i64 1) := HTB.out 2 (by omega)
        have lO : 1 < W6.heap.size := zb hg
        refine region_z (S := fun w' => Mod (fun j => j = R) W6 w') [] (by kernel_rfl) ((Mod.refl _ _).drew) (fun hHeld => ?_)
        refine zt (i := 0) (v := .pointer (some ⟨A, 0, none⟩)) [] (fun w' hSw => ?_) hHeld ?_
        · clear hHeld hSw
          go_simp
        simp only [Act.put, zl0, zl1, zl2, zl3, zl4, zl5]
        refine zt (i := 1) (v := .int .i64 r.amp) [] (fun w' hSw => ?_) hHeld ?_
        · have e1 := (hSw.cell (zb a0) (by have := HNE.out; dsimp only; omega)).trans a0
          have lA' : A < w'.heap.size := Nat.lt_of_lt_of_le lA hSw.size
          clear hHeld hSw
          go_simp
        simp only [Act.put, zl0, zl1, zl2, zl3, zl4, zl5]
        refine zt (i := 2) (v := .bool false) [] (fun w' hSw => ?_) hHeld ?_
        · clear hHeld hSw
          go_simp
          first | done | exact hqa | simpa using hqa
        simp only [Act.put, zl0, zl1, zl2, zl3, zl4, zl5]
        refine zt (i := 4) (v := .int .i64 lv) [] (fun w' hSw => ?_) hHeld ?_
        · have e1 := (hSw.cell (zb l0) (by have := HNE.out; dsimp only; omega)).trans l0
          have lL' : L < w'.heap.size := Nat.lt_of_lt_of_le lL hSw.size
          clear hHeld hSw
          go_simp
        simp only [Act.put, zl0, zl1, zl2, zl3, zl4, zl5]
        refine zt (i := 5) (v := .bool true) [] (fun w' hSw => ?_) hHeld ?_
        · clear hHeld hSw
          go_simp
          first | done | exact hqb | simpa using hqb
        simp only [Act.put, zl0, zl1, zl2, zl3, zl4, zl5]
        refine zt (i := 7) (v := .pointer (some ⟨A, 1, none⟩)) [] (fun w' hSw => ?_) hHeld ?_
        · clear hHeld hSw
          go_simp
        simp only [Act.put, zl0, zl1, zl2, zl3, zl4, zl5]
        refine zt (i := 8) (v := .int .i64 r.snc) [] (fun w' hSw => ?_) hHeld ?_
        · have e1 := (hSw.cell (zb a1) (by have := HNE.out; dsimp only; omega)).trans a1
          have lA' : A < w'.heap.size := Nat.lt_of_lt_of_le lA hSw.size
          clear hHeld hSw
          go_simp
        simp only [Act.put, zl0, zl1, zl2, zl3, zl4, zl5]
        refine zt (i := 9) (v := .bool false) [] (fun w' hSw => ?_) hHeld ?_
        · clear hHeld hSw
          go_simp
          first | done | exact hqc | simpa using hqc | omega
        simp only [Act.put, zl0, zl1, zl2, zl3, zl4, zl5]
        refine zo 3 (fun K' hK => ?_)
        go_simp
        refine (rmIndex_f _).mono ?_
        rintro e wk ⟨rfl, hw⟩
        subst hw
        refine hK.out _ _ ?_ (fun hHeld' => ?_)
        · exact hHeld
        clear hK K' hHeld
        have hHeld := hHeld'
        clear hHeld'
        try simp only [Act.put, zl0, zl1, zl2, zl3, zl4, zl5]
        refine zt (i := 11) (v := .pointer (some ⟨1, 0, none⟩)) [] (fun w' hSw => ?_) hHeld ?_
        · clear hHeld hSw
          go_simp
          first | done | omega
        simp only [Act.put, zl0, zl1, zl2, zl3, zl4, zl5]
        refine zo 6 (fun K' hK => ?_)
        go_simp
        refine (rmIndex_t _).mono ?_
        rintro e wk ⟨rfl, hw⟩
        subst hw
        refine hK.out _ _ ?_ (fun hHeld' => ?_)
        · exact hHeld
        clear hK K' hHeld
        have hHeld := hHeld'
        clear hHeld'
        try simp only [Act.put, zl0, zl1, zl2, zl3, zl4, zl5]
        refine zt (i := 12) (v := .pointer (some ⟨1, 2, none⟩)) [] (fun w' hSw => ?_) hHeld ?_
        · clear hHeld hSw
          go_simp
          first | done | omega
        simp only [Act.put, zl0, zl1, zl2, zl3, zl4, zl5]
        refine zo 10 (fun K' hK => ?_)
        go_simp
        refine (rmIndex_f _).mono ?_
        rintro e wk ⟨rfl, hw⟩
        subst hw
        refine hK.out _ _ ?_ (fun hHeld' => ?_)
        · exact hHeld
        clear hK K' hHeld
        have hHeld := hHeld'
        clear hHeld'
        try simp only [Act.put, zl0, zl1, zl2, zl3, zl4, zl5]
        refine zt (i := 13) (v := .pointer (some ⟨1, 2, none⟩)) [] (fun w' hSw => ?_) hHeld ?_
        · clear hHeld hSw
          go_simp
          first | done | omega
        simp only [Act.put, zl0, zl1, zl2, zl3, zl4, zl5]
        refine zt (i := 14) (v := .int .i64 1) [] (fun w' hSw => ?_) hHeld ?_
        · have e1 := (hSw.cell (zb hg) (by have := HNE.out; dsimp only; omega)).trans hg
          have lO' : 1 < w'.heap.size := Nat.lt_of_lt_of_le lO hSw.size
          clear hHeld hSw
          go_simp
        simp only [Act.put, zl0, zl1, zl2, zl3, zl4, zl5]
        refine zt (i := 15) (v := .pointer (some ⟨N, 1, none⟩)) [] (fun w' hSw => ?_) hHeld ?_
        · clear hHeld hSw
          go_simp
        simp only [Act.put, zl0, zl1, zl2, zl3, zl4, zl5]
        refine zt (i := 16) (v := .func (.func 70) #[] #[.pointer (some ⟨G, 0, none⟩)]) [] (fun w' hSw => ?_) hHeld ?_
        · have e1 := (hSw.cell (zb n1) (by have := HNE.out; dsimp only; omega)).trans n1
          have lN' : N < w'.heap.size := Nat.lt_of_lt_of_le lN hSw.size
          clear hHeld hSw
          go_simp
        simp only [Act.put, zl0, zl1, zl2, zl3, zl4, zl5]
        refine zo 17 (fun K' hK => ?_)
        rw [if_pos (by rfl)]
        go_simp
        refine (rmNext2_any G (r.snc + 1) _ ((hHeld.cell (zb g0) (by have := HNE.out; dsimp only; omega)).trans g0)).mono ?_
        rintro e W8 ⟨rfl, hb8⟩
        have hmw := mod_then hHeld hb8
        have HR8 := Lib.hid (HR.out.drew.keep hb8 HR.out.drew.lt)
        refine hK.out _ _ ?_ (fun hHeld' => ?_)
        · exact hmw
        clear hK K' hHeld hb8 hmw
        have hHeld := hHeld'
        clear hHeld'
        try simp only [Act.put, zl0, zl1, zl2, zl3, zl4, zl5]
        obtain ⟨r0, r1⟩ : W8.cell? ⟨R, 0, none⟩ = some (.int .i64 0) ∧ W8.cell? ⟨R, 1, none⟩ = some (.int .i64 0) := ⟨HR8.out.cell (i := 0) (by omega), HR8.out.cell (i := 1) (by omega)⟩
        have f0 := HR8.out.frozen 0
        have f1 := HR8.out.frozen 1
        have lR : R < W8.heap.size := HR8.out.lt
        refine zo 18 (fun K' hK => ?_)
        go_simp
        obtain ⟨W9, hw⟩ : ∃ W, W = (W8.setCell ⟨R, 0, none⟩ (.int .i64 0)).setCell ⟨R, 1, none⟩ (.int .i64 (r.snc + 1)) := ⟨_, rfl⟩
        rw [← hw]
        have hm9 : Mod (fun j => j = R) W8 W9 := by rw [hw]; exact ((Mod.refl (fun j => j = R) W8).setCell (p := ⟨R, 0, none⟩) (.inl rfl) _).setCell (p := ⟨R, 1, none⟩) (.inl rfl) _
        have HR9 : Hid (Own W9 R 76 2 (rmF (0) ((r.snc + 1)))) := Lib.hid (by rw [hw]; exact ((HR8.out.set 0 _).set 1 _).congr (fun i hi => by match i, hi with | 0, _ => rfl | 1, _ => rfl))
        clear hw r0 r1 f0 f1 lR
        refine hK.out _ _ ?_ (fun hHeld' => ?_)
        · exact hHeld.trans hm9
        clear hK K' hHeld hm9
        have hHeld := hHeld'
        clear hHeld'
        try simp only [Act.put, zl0, zl1, zl2, zl3, zl4, zl5]
        refine zt (i := 19) (v := .int .i64 0) [] (fun w' hSw => ?_) hHeld ?_
        · clear hHeld hSw
          go_simp
        simp only [Act.put, zl0, zl1, zl2, zl3, zl4, zl5]
        refine wpAnyZ_done (by kernel_rfl) ?_ _
        go_wp2_with fail
        refine bodyPost_ret (results_ctT (a := 6) (t := 7) (ty := 76) (x := R) (by kernel_rfl) rfl (load_rm HR9.out)) rfl ?_
        exact ⟨⟨0, (r.snc + 1)⟩, rfl, HPO.out, HB.out.trans (hHeld.below HB.out.size (fun j _ e => by have := HNE.out; omega))⟩
  · have hqa : (r.amp != 0) = true := by simpa using ha
    by_cases hl : lv = 0
    · have hqb : (lv != 0) = false := by rw [hl]; rfl
      have HPO : Hid (RmOk ⟨0, 0⟩ ∧ (⟨0, 0⟩ : Rmp).snc ≤ r.snc + 1 ∧ 0 ≤ (⟨0, 0⟩ : Rmp).amp ∧ (⟨0, 0⟩ : Rmp).amp ≤ want) := Lib.hid ⟨⟨.inl rfl, Int.le_refl _, by show (0 : Int) ≤ 1000000; omega⟩, by show 0 ≤ r.snc + 1; omega, Int.le_refl _, hw0⟩
      clear hl
      obtain ⟨qc, hqc⟩ : ∃ q, decide (5 ≤ r.snc) = q := ⟨_, rfl⟩
      obtain ⟨ic, hic⟩ : ∃ i : Nat, i = if qc then 1 else 0 := ⟨_, rfl⟩
      have HIC := Lib.hid hic
      have hic1 : ic ≤ 1 := by rw [hic]; split <;> omega
      clear hic
      have hg : W6.cell? ⟨1, 4 + ic, none⟩ = some (.int .i64 2) := by
        have h := HTB.out (4 + ic) (by omega)
        rw [h]
        have : ic = 0 ∨ ic = 1 := by omega
        rcases this with e | e <;> subst e <;> rfl
      have lO : 1 < W6.heap.size := zb hg
      refine region_z (S := fun w' => Mod (fun j => j = R) W6 w') [] (by kernel_rfl) ((Mod.refl _ _).drew) (fun hHeld => ?_)
      refine zt (i := 0) (v := .pointer (some ⟨A, 0, none⟩)) [] (fun w' hSw => ?_) hHeld ?_
      · clear hHeld hSw
        go_simp
      simp only [Act.put, zl0, zl1, zl2, zl3, zl4, zl5]
      refine zt (i := 1) (v := .int .i64 r.amp) [] (fun w' hSw => ?_) hHeld ?_
      · have e1 := (hSw.cell (zb a0) (by have := HNE.out; dsimp only; omega)).trans a0
        have lA' : A < w'.heap.size := Nat.lt_of_lt_of_le lA hSw.size
        clear hHeld hSw
        go_simp
      simp only [Act.put, zl0, zl1, zl2, zl3, zl4, zl5]
      refine zt (i := 2) (v := .bool true) [] (fun w' hSw => ?_) hHeld ?_
      · clear hHeld hSw
        go_simp
        first | done | exact hqa | simpa using hqa
      simp only [Act.put, zl0, zl1, zl2, zl3, zl4, zl5]
      refine zt (i := 4) (v := .int .i64 lv) [] (fun w' hSw => ?_) hHeld ?_
      · have e1 := (hSw.cell (zb l0) (by have := HNE.out; dsimp only; omega)).trans l0
        have lL' : L < w'.heap.size := Nat.lt_of_lt_of_le lL hSw.size
        clear hHeld hSw
        go_simp
      simp only [Act.put, zl0, zl1, zl2, zl3, zl4, zl5]
      refine zt (i := 5) (v := .bool false) [] (fun w' hSw => ?_) hHeld ?_
      · clear hHeld hSw
        go_simp
        first | done | exact hqb | simpa using hqb
      simp only [Act.put, zl0, zl1, zl2, zl3, zl4, zl5]
      refine zt (i := 7) (v := .pointer (some ⟨A, 1, none⟩)) [] (fun w' hSw => ?_) hHeld ?_
      · clear hHeld hSw
        go_simp
      simp only [Act.put, zl0, zl1, zl2, zl3, zl4, zl5]
      refine zt (i := 8) (v := .int .i64 r.snc) [] (fun w' hSw => ?_) hHeld ?_
      · have e1 := (hSw.cell (zb a1) (by have := HNE.out; dsimp only; omega)).trans a1
        have lA' : A < w'.heap.size := Nat.lt_of_lt_of_le lA hSw.size
        clear hHeld hSw
        go_simp
      simp only [Act.put, zl0, zl1, zl2, zl3, zl4, zl5]
      refine zt (i := 9) (v := .bool qc) [] (fun w' hSw => ?_) hHeld ?_
      · clear hHeld hSw
        go_simp
        first | done | exact hqc | simpa using hqc | omega
      simp only [Act.put, zl0, zl1, zl2, zl3, zl4, zl5]
      refine zo 3 (fun K' hK => ?_)
      go_simp
      refine (rmIndex_t _).mono ?_
      rintro e wk ⟨rfl, hw⟩
      subst hw
      refine hK.out _ _ ?_ (fun hHeld' => ?_)
      · exact hHeld
      clear hK K' hHeld
      have hHeld := hHeld'
      clear hHeld'
      try simp only [Act.put, zl0, zl1, zl2, zl3, zl4, zl5]
      refine zt (i := 11) (v := .pointer (some ⟨1, 4, none⟩)) [] (fun w' hSw => ?_) hHeld ?_
      · clear hHeld hSw
        go_simp
        first | done | omega
      simp only [Act.put, zl0, zl1, zl2, zl3, zl4, zl5]
      refine zo 6 (fun K' hK => ?_)
      go_simp
      refine (rmIndex_f _).mono ?_
      rintro e wk ⟨rfl, hw⟩
      subst hw
      refine hK.out _ _ ?_ (fun hHeld' => ?_)
      · exact hHeld
      clear hK K' hHeld
      have hHeld := hHeld'
      clear hHeld'
      try simp only [Act.put, zl0, zl1, zl2, zl3, zl4, zl5]
      refine zt (i := 12) (v := .pointer (some ⟨1, 4, none⟩)) [] (fun w' hSw => ?_) hHeld ?_
      · clear hHeld hSw
        go_simp
        first | done | omega
      simp only [Act.put, zl0, zl1, zl2, zl3, zl4, zl5]
      refine zo 10 (fun K' hK => ?_)
      go_simp
      refine (rmIndex_any qc _).mono ?_
      rintro e wk ⟨rfl, hw⟩
      rw [← HIC.out]
      subst hw
      refine hK.out _ _ ?_ (fun hHeld' => ?_)
      · exact hHeld
      clear hK K' hHeld
      have hHeld := hHeld'
      clear hHeld'
      try simp only [Act.put, zl0, zl1, zl2, zl3, zl4, zl5]
      refine zt (i := 13) (v := .pointer (some ⟨1, 4 + ic, none⟩)) [] (fun w' hSw => ?_) hHeld ?_
      · clear hHeld hSw
        go_simp
        first | done | omega
      simp only [Act.put, zl0, zl1, zl2, zl3, zl4, zl5]
      refine zt (i := 14) (v := .int .i64 2) [] (fun w' hSw => ?_) hHeld ?_
      · have e1 := (hSw.cell (zb hg) (by have := HNE.out; dsimp only; omega)).trans hg
        have lO' : 1 < w'.heap.size := Nat.lt_of_lt_of_le lO hSw.size
        clear hHeld hSw
        go_simp
      simp only [Act.put, zl0, zl1, zl2, zl3, zl4, zl5]
      refine zt (i := 15) (v := .pointer (some ⟨N, 2, none⟩)) [] (fun w' hSw => ?_) hHeld ?_
      · clear hHeld hSw
        go_simp
      simp only [Act.put, zl0, zl1, zl2, zl3, zl4, zl5]
      refine zt (i := 16) (v := .func (.func 71) #[] #[]) [] (fun w' hSw => ?_) hHeld ?_
      · have e1 := (hSw.cell (zb n2) (by have := HNE.out; dsimp only; omega)).trans n2
        have lN' : N < w'.heap.size := Nat.lt_of_lt_of_le lN hSw.size
        clear hHeld hSw
        go_simp
      simp only [Act.put, zl0, zl1, zl2, zl3, zl4, zl5]
      refine zo 17 (fun K' hK => ?_)
      rw [if_pos (by rfl)]
      go_simp
      refine (rmNext3_any _).mono ?_
      rintro e W8 ⟨rfl, hb8⟩
      have hmw := mod_then hHeld hb8
      have HR8 := Lib.hid (HR.out.drew.keep hb8 HR.out.drew.lt)
      refine hK.out _ _ ?_ (fun hHeld' => ?_)
      · exact hmw
      clear hK K' hHeld hb8 hmw
      have hHeld := hHeld'
      clear hHeld'
      try simp only [Act.put, zl0, zl1, zl2, zl3, zl4, zl5]
      obtain ⟨r0, r1⟩ : W8.cell? ⟨R, 0, none⟩ = some (.int .i64 0) ∧ W8.cell? ⟨R, 1, none⟩ = some (.int .i64 0) := ⟨HR8.out.cell (i := 0) (by omega), HR8.out.cell (i := 1) (by omega)⟩
      have f0 := HR8.out.frozen 0
      have f1 := HR8.out.frozen 1
      have lR : R < W8.heap.size := HR8.out.lt
      refine zo 18 (fun K' hK => ?_)
      go_simp
      obtain ⟨W9, hw⟩ : ∃ W, W = (W8.setCell ⟨R, 0, none⟩ (.int .i64 0)).setCell ⟨R, 1, none⟩ (.int .i64 0) := ⟨_, rfl⟩
      rw [← hw]
      have hm9 : Mod (fun j => j = R) W8 W9 := by rw [hw]; exact ((Mod.refl (fun j => j = R) W8).setCell (p := ⟨R, 0, none⟩) (.inl rfl) _).setCell (p := ⟨R, 1, none⟩) (.inl rfl) _
      have HR9 : Hid (Own W9 R 76 2 (rmF (0) (0))) := Lib.hid (by rw [hw]; exact ((HR8.out.set 0 _).set 1 _).congr (fun i hi => by match i, hi with | 0, _ => rfl | 1, _ => rfl))
      clear hw r0 r1 f0 f1 lR
      refine hK.out _ _ ?_ (fun hHeld' => ?_)
      · exact hHeld.trans hm9
      clear hK K' hHeld hm9
      have hHeld := hHeld'
      clear hHeld'
      try simp only [Act.put, zl0, zl1, zl2, zl3, zl4, zl5]
      refine zt (i := 19) (v := .int .i64 0) [] (fun w' hSw => ?_) hHeld ?_
      · clear hHeld hSw
        go_simp
      simp only [Act.put, zl0, zl1, zl2, zl3, zl4, zl5]
      refine wpAnyZ_done (by kernel_rfl) ?_ _
      go_wp2_with fail
      refine bodyPost_ret (results_ctT (a := 6) (t := 7) (ty := 76) (x := R) (by kernel_rfl) rfl (load_rm HR9.out)) rfl ?_
      exact ⟨⟨0, 0⟩, rfl, HPO.out, HB.out.trans (hHeld.below HB.out.size (fun j _ e => by have := HNE.out; omega))⟩
    · have hqb : (lv != 0) = true := by simpa using hl
      obtain ⟨m, hm⟩ : ∃ m, m = min lv (r.amp + 2) := ⟨_, rfl⟩
      have HMI := Lib.hid hm
      have HPO : Hid (RmOk ⟨m, r.snc + 1⟩ ∧ (⟨m, r.snc + 1⟩ : Rmp).snc ≤ r.snc + 1 ∧ 0 ≤ (⟨m, r.snc + 1⟩ : Rmp).amp ∧ (⟨m, r.snc + 1⟩ : Rmp).amp ≤ want) := Lib.hid (by
        have h1 := HLB.out
        have h2 := HRM.out.a
        refine ⟨⟨.inr ?_, by show 0 ≤ r.snc + 1; omega, by show r.snc + 1 ≤ 1000000; omega⟩, Int.le_refl _, by show 0 ≤ m; omega, by show m ≤ want; omega⟩
        show 6 ≤ m ∧ m ≤ 32 ∧ m % 2 = 0
        have h3 : 6 ≤ lv ∧ lv ≤ 32 ∧ lv % 2 = 0 := h1.2.2.resolve_left hl
        have h4 : 6 ≤ r.amp ∧ r.amp ≤ 32 ∧ r.amp % 2 = 0 := h2.resolve_left ha
        rcases Int.le_total lv (r.amp + 2) with h | h
        · rw [Int.min_eq_left h] at hm; omega
        · rw [Int.min_eq_right h] at hm; omega)
      clear hm hl ha
      obtain ⟨qc, hqc⟩ : ∃ q, decide (5 ≤ r.snc) = q := ⟨_, rfl⟩
      obtain ⟨ic, hic⟩ : ∃ i : Nat, i = if qc then 1 else 0 := ⟨_, rfl⟩
      have HIC := Lib.hid hic
      have hic1 : ic ≤ 1 := by rw [hic]; split <;> omega
      clear hic
      have hg : W6.cell? ⟨1, 6 + ic, none⟩ = some (.int .i64 3) := by
        have h := HTB.out (6 + ic) (by omega)
        rw [h]
        have : ic = 0 ∨ ic = 1 := by omega
        rcases this with e | e <;> subst e <;> rfl
      have lO : 1 < W6.heap.size := zb hg
      refine region_z (S := fun w' => Mod (fun j => j = R) W6 w') [] (by kernel_rfl) ((Mod.refl _ _).drew) (fun hHeld => ?_)
      refine zt (i := 0) (v := .pointer (some ⟨A, 0, none⟩)) [] (fun w' hSw => ?_) hHeld ?_
      · clear hHeld hSw
        go_simp
      simp only [Act.put, zl0, zl1, zl2, zl3, zl4, zl5]
      refine zt (i := 1) (v := .int .i64 r.amp) [] (fun w' hSw => ?_) hHeld ?_
      · have e1 := (hSw.cell (zb a0) (by have := HNE.out; dsimp only; omega)).trans a0
        have lA' : A < w'.heap.size := Nat.lt_of_lt_of_le lA hSw.size
        clear hHeld hSw
        go_simp
      simp only [Act.put, zl0, zl1, zl2, zl3, zl4, zl5]
      refine zt (i := 2) (v := .bool true) [] (fun w' hSw => ?_) hHeld ?_
      · clear hHeld hSw
        go_simp
        first | done | exact hqa | simpa using hqa
      simp only [Act.put, zl0, zl1, zl2, zl3, zl4, zl5]
      refine zt (i := 4) (v := .int .i64 lv) [] (fun w' hSw => ?_) hHeld ?_
      · have e1 := (hSw.cell (zb l0) (by have := HNE.out; dsimp only; omega)).trans l0
        have lL' : L < w'.heap.size := Nat.lt_of_lt_of_le lL hSw.size
        clear hHeld hSw
        go_simp
      simp only [Act.put, zl0, zl1, zl2, zl3, zl4, zl5]
      refine zt (i := 5) (v := .bool true) [] (fun w' hSw => ?_) hHeld ?_
      · clear hHeld hSw
        go_simp
        first | done | exact hqb | simpa using hqb
      simp only [Act.put, zl0, zl1, zl2, zl3, zl4, zl5]
      refine zt (i := 7) (v := .pointer (some ⟨A, 1, none⟩)) [] (fun w' hSw => ?_) hHeld ?_
      · clear hHeld hSw
        go_simp
      simp only [Act.put, zl0, zl1, zl2, zl3, zl4, zl5]
      refine zt (i := 8) (v := .int .i64 r.snc) [] (fun w' hSw => ?_) hHeld ?_
      · have e1 := (hSw.cell (zb a1) (by have := HNE.out; dsimp only; omega)).trans a1
        have lA' : A < w'.heap.size := Nat.lt_of_lt_of_le lA hSw.size
        clear hHeld hSw
        go_simp
      simp only [Act.put, zl0, zl1, zl2, zl3, zl4, zl5]
      refine zt (i := 9) (v := .bool qc) [] (fun w' hSw => ?_) hHeld ?_
      · clear hHeld hSw
        go_simp
        first | done | exact hqc | simpa using hqc | omega
      simp only [Act.put, zl0, zl1, zl2, zl3, zl4, zl5]
      refine zo 3 (fun K' hK => ?_)
      go_simp
      refine (rmIndex_t _).mono ?_
      rintro e wk ⟨rfl, hw⟩
      subst hw
      refine hK.out _ _ ?_ (fun hHeld' => ?_)
      · exact hHeld
      clear hK K' hHeld
      have hHeld := hHeld'
      clear hHeld'
      try simp only [Act.put, zl0, zl1, zl2, zl3, zl4, zl5]
      refine zt (i := 11) (v := .pointer (some ⟨1, 4, none⟩)) [] (fun w' hSw => ?_) hHeld ?_
      · clear hHeld hSw
        go_simp
        first | done | omega
      simp only [Act.put, zl0, zl1, zl2, zl3, zl4, zl5]
      refine zo 6 (fun K' hK => ?_)
      go_simp
      refine (rmIndex_t _).mono ?_
      rintro e wk ⟨rfl, hw⟩
      subst hw
      refine hK.out _ _ ?_ (fun hHeld' => ?_)
      · exact hHeld
      clear hK K' hHeld
      have hHeld := hHeld'
      clear hHeld'
      try simp only [Act.put, zl0, zl1, zl2, zl3, zl4, zl5]
      refine zt (i := 12) (v := .pointer (some ⟨1, 6, none⟩)) [] (fun w' hSw => ?_) hHeld ?_
      · clear hHeld hSw
        go_simp
        first | done | omega
      simp only [Act.put, zl0, zl1, zl2, zl3, zl4, zl5]
      refine zo 10 (fun K' hK => ?_)
      go_simp
      refine (rmIndex_any qc _).mono ?_
      rintro e wk ⟨rfl, hw⟩
      rw [← HIC.out]
      subst hw
      refine hK.out _ _ ?_ (fun hHeld' => ?_)
      · exact hHeld
      clear hK K' hHeld
      have hHeld := hHeld'
      clear hHeld'
      try simp only [Act.put, zl0, zl1, zl2, zl3, zl4, zl5]
      refine zt (i := 13) (v := .pointer (some ⟨1, 6 + ic, none⟩)) [] (fun w' hSw => ?_) hHeld ?_
      · clear hHeld hSw
        go_simp
        first | done | omega
      simp only [Act.put, zl0, zl1, zl2, zl3, zl4, zl5]
      refine zt (i := 14) (v := .int .i64 3) [] (fun w' hSw => ?_) hHeld ?_
      · have e1 := (hSw.cell (zb hg) (by have := HNE.out; dsimp only; omega)).trans hg
        have lO' : 1 < w'.heap.size := Nat.lt_of_lt_of_le lO hSw.size
        clear hHeld hSw
        go_simp
      simp only [Act.put, zl0, zl1, zl2, zl3, zl4, zl5]
      refine zt (i := 15) (v := .pointer (some ⟨N, 3, none⟩)) [] (fun w' hSw => ?_) hHeld ?_
      · clear hHeld hSw
        go_simp
      simp only [Act.put, zl0, zl1, zl2, zl3, zl4, zl5]
      refine zt (i := 16) (v := .func (.func 72) #[] #[.pointer (some ⟨L, 0, none⟩), .pointer (some ⟨A, 0, none⟩), .pointer (some ⟨S, 0, none⟩), .pointer (some ⟨G, 0, none⟩)]) [] (fun w' hSw => ?_) hHeld ?_
      · have e1 := (hSw.cell (zb n3) (by have := HNE.out; dsimp only; omega)).trans n3
        have lN' : N < w'.heap.size := Nat.lt_of_lt_of_le lN hSw.size
        clear hHeld hSw
        go_simp
      simp only [Act.put, zl0, zl1, zl2, zl3, zl4, zl5]
      refine zo 17 (fun K' hK => ?_)
      rw [if_pos (by rfl)]
      go_simp
      refine (rmNext4_any L A S G lv r.amp (r.snc + 1) m _ ((hHeld.cell (zb l0) (by have := HNE.out; dsimp only; omega)).trans l0) ((hHeld.cell (zb a0) (by have := HNE.out; dsimp only; omega)).trans a0) ((hHeld.cell (zb s5) (by have := HNE.out; dsimp only; omega)).trans s5) ((hHeld.cell (zb g0) (by have := HNE.out; dsimp only; omega)).trans g0) HRO.out.1 HRO.out.2 HMI.out).mono ?_
      rintro e W8 ⟨rfl, hb8⟩
      have hmw := mod_then hHeld hb8
      have HR8 := Lib.hid (HR.out.drew.keep hb8 HR.out.drew.lt)
      refine hK.out _ _ ?_ (fun hHeld' => ?_)
      · exact hmw
      clear hK K' hHeld hb8 hmw
      have hHeld := hHeld'
      clear hHeld'
      try simp only [Act.put, zl0, zl1, zl2, zl3, zl4, zl5]
      obtain ⟨r0, r1⟩ : W8.cell? ⟨R, 0, none⟩ = some (.int .i64 0) ∧ W8.cell? ⟨R, 1, none⟩ = some (.int .i64 0) := ⟨HR8.out.cell (i := 0) (by omega), HR8.out.cell (i := 1) (by omega)⟩
      have f0 := HR8.out.frozen 0
      have f1 := HR8.out.frozen 1
      have lR : R < W8.heap.size := HR8.out.lt
      refine zo 18 (fun K' hK => ?_)
      go_simp
      obtain ⟨W9, hw⟩ : ∃ W, W = (W8.setCell ⟨R, 0, none⟩ (.int .i64 m)).setCell ⟨R, 1, none⟩ (.int .i64 (r.snc + 1)) := ⟨_, rfl⟩
      rw [← hw]
      have hm9 : Mod (fun j => j = R) W8 W9 := by rw [hw]; exact ((Mod.refl (fun j => j = R) W8).setCell (p := ⟨R, 0, none⟩) (.inl rfl) _).setCell (p := ⟨R, 1, none⟩) (.inl rfl) _
      have HR9 : Hid (Own W9 R 76 2 (rmF (m) ((r.snc + 1)))) := Lib.hid (by rw [hw]; exact ((HR8.out.set 0 _).set 1 _).congr (fun i hi => by match i, hi with | 0, _ => rfl | 1, _ => rfl))
      clear hw r0 r1 f0 f1 lR
      refine hK.out _ _ ?_ (fun hHeld' => ?_)
      · exact hHeld.trans hm9
      clear hK K' hHeld hm9
      have hHeld := hHeld'
      clear hHeld'
      try simp only [Act.put, zl0, zl1, zl2, zl3, zl4, zl5]
      refine zt (i := 19) (v := .int .i64 0) [] (fun w' hSw => ?_) hHeld ?_
      · clear hHeld hSw
        go_simp
      simp only [Act.put, zl0, zl1, zl2, zl3, zl4, zl5]
      refine wpAnyZ_done (by kernel_rfl) ?_ _
      go_wp2_with fail
      refine bodyPost_ret (results_ctT (a := 6) (t := 7) (ty := 76) (x := R) (by kernel_rfl) rfl (load_rm HR9.out)) rfl ?_
      exact ⟨⟨m, (r.snc + 1)⟩, rfl, HPO.out, HB.out.trans (hHeld.below HB.out.size (fun j _ e => by have := HNE.out; omega))⟩
end Go.Proofs.YtkbbapefgifagaaGreatDoor
