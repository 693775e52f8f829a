/-
TreeMatchesReference, walked.
-/
import Derived.Test.YtjlfnhfiiailgaaCLawW0
namespace Go.Proofs.Ytjlfnhfiiailgaa
open Go.RowKit
set_option linter.unusedVariables false
set_option linter.unusedSimpArgs false
set_option maxRecDepth 100000 in
set_option maxHeartbeats 8000000 in
theorem walk_TreeMatchesReference (a1 : Option Addr) (n1 c1 : Nat) (a2 : Option Addr) (n2 c2 : Nat) (a3 : Option Addr) (n3 c3 : Nat) (a4 : Option Addr) (n4 c4 : Nat) (a5 : Option Addr) (n5 c5 : Nat) (s : GSite) {w : World} (HS : Hid (RdSite w a1 a2 a3 a4 a5 n1 n2 n3 n4 n5 s)) (_ : WfSite s) (aA : Option Addr) (cA nA : Nat) (xs : List Int) (hX : Rd 1 encI w aA xs) (HNA : Hid (xs.length = nA)) (hnA : nA ≤ 9223372036854775807) (_ : ∀ x, x ∈ xs → wfI64 x)
    (ch : Int) (_ : (Lit.int .i64 ch).wf = true) (co : Int) (_ : (Lit.int .i64 co).wf = true) :
    Calls Try.prog 3 #[.agg #[.slice a1 n1 c1, .slice a2 n2 c2, .slice a3 n3 c3, .slice a4 n4 c4, .slice a5 n5 c5], .slice aA nA cA, .int .i64 ch, .int .i64 co] w fun e w' => e = .returned (.bool true) ∧ Below w.heap.size w w' := by
  have HX := Lib.hid hX
  clear hX
  have HM0 := Lib.hid (LwM.box (c1 := c1) (c2 := c2) (c3 := c3) (c4 := c4) (c5 := c5) HS.out)
  go_enter Try.func3, Try.ntmps3
  go_wp2_with fail
  refine (ltHead_any _).mono ?_
  rintro e w1 ⟨rfl, hb⟩
  have HM := Lib.hid (HM0.out.keep hb)
  generalize hXX : w.heap.size = X at HM ⊢
  have hlX : X < w1.heap.size := World.block_lt_of_cell? w1 _ HM.out.k0
  have HXX := Lib.hid hXX
  clear hb HM0 hXX
  obtain ⟨k0, k1, k2, k3, k4⟩ : w1.cell? ⟨X, 0, none⟩ = some (.slice a1 n1 c1) ∧ w1.cell? ⟨X, 1, none⟩ = some (.slice a2 n2 c2) ∧ w1.cell? ⟨X, 2, none⟩ = some (.slice a3 n3 c3) ∧ w1.cell? ⟨X, 3, none⟩ = some (.slice a4 n4 c4) ∧ w1.cell? ⟨X, 4, none⟩ = some (.slice a5 n5 c5) := ⟨HM.out.k0, HM.out.k1, HM.out.k2, HM.out.k3, HM.out.k4⟩
  go_wp2_with fail
  refine (r4Few_any a1 a2 a3 a4 a5 n1 c1 n2 c2 n3 c3 n4 c4 n5 c5 s w1 (Lib.hid HM.out.rs)).mono ?_
  rintro e w2 ⟨rfl, hb⟩
  have HM2 := Lib.hid (HM.out.keep hb)
  have HB2 := Lib.hid HM2.out.bel
  clear hb HM k0 k1 k2 k3 k4 hlX
  cases hf : fewS s
  · go_wp2_with fail
    go_ret
    exact ⟨rfl, HB2.out⟩
  by_cases h40 : 40 < nA
  · have h40z : (40 : Int) < (nA : Int) := by omega
    go_wp2_with fail
    go_ret
    exact ⟨rfl, HB2.out⟩
  have h40z : ¬ (40 : Int) < (nA : Int) := by omega
  clear hf HB2
  obtain ⟨k0, k1, k2, k3, k4⟩ : w2.cell? ⟨X, 0, none⟩ = some (.slice a1 n1 c1) ∧ w2.cell? ⟨X, 1, none⟩ = some (.slice a2 n2 c2) ∧ w2.cell? ⟨X, 2, none⟩ = some (.slice a3 n3 c3) ∧ w2.cell? ⟨X, 3, none⟩ = some (.slice a4 n4 c4) ∧ w2.cell? ⟨X, 4, none⟩ = some (.slice a5 n5 c5) := ⟨HM2.out.k0, HM2.out.k1, HM2.out.k2, HM2.out.k3, HM2.out.k4⟩
  have hlX : X < w2.heap.size := World.block_lt_of_cell? w2 _ k0
  go_wp2_with fail
  refine (trPath_any a1 a2 a3 a4 a5 n1 c1 n2 c2 n3 c3 n4 c4 n5 c5 s ch w2 (Lib.hid HM2.out.rs)).mono ?_
  rintro e w3 ⟨pa, ca, rfl, hr, hb⟩
  have HM3 := Lib.hid (HM2.out.keep hb)
  clear HM2 k0 k1 k2 k3 k4 hlX
  have HM2 := HM3
  clear HM3
  have HRa := Lib.hid hr
  have hla : (pathO s ch).length ≤ 16 := pathO_len s ch
  generalize hLa : (pathO s ch).length = la at *
  have HLa := Lib.hid hLa
  generalize hEa : errO (okCh s ch) = ea at *
  have HEa := Lib.hid hEa
  clear hLa hEa hr hb
  obtain ⟨k0, k1, k2, k3, k4⟩ : w3.cell? ⟨X, 0, none⟩ = some (.slice a1 n1 c1) ∧ w3.cell? ⟨X, 1, none⟩ = some (.slice a2 n2 c2) ∧ w3.cell? ⟨X, 2, none⟩ = some (.slice a3 n3 c3) ∧ w3.cell? ⟨X, 3, none⟩ = some (.slice a4 n4 c4) ∧ w3.cell? ⟨X, 4, none⟩ = some (.slice a5 n5 c5) := ⟨HM2.out.k0, HM2.out.k1, HM2.out.k2, HM2.out.k3, HM2.out.k4⟩
  have hlX : X < w3.heap.size := World.block_lt_of_cell? w3 _ k0
  go_wp2_with fail
  refine (r8Path_any a1 a2 a3 a4 a5 n1 c1 n2 c2 n3 c3 n4 c4 n5 c5 s ch w3 (Lib.hid HM2.out.rs)).mono ?_
  rintro e w4 ⟨pb, cb, rfl, hr, hb⟩
  have HM3 := Lib.hid (HM2.out.keep hb)
  clear HM2 k0 k1 k2 k3 k4 hlX
  have HM2 := HM3
  clear HM3
  have HRt := Lib.hid (HRa.out.keep hb)
  clear HRa
  have HRa := HRt
  clear HRt
  have HRb := Lib.hid hr
  rw [HLa.out, HEa.out]
  clear hr hb
  obtain ⟨k0, k1, k2, k3, k4⟩ : w4.cell? ⟨X, 0, none⟩ = some (.slice a1 n1 c1) ∧ w4.cell? ⟨X, 1, none⟩ = some (.slice a2 n2 c2) ∧ w4.cell? ⟨X, 2, none⟩ = some (.slice a3 n3 c3) ∧ w4.cell? ⟨X, 3, none⟩ = some (.slice a4 n4 c4) ∧ w4.cell? ⟨X, 4, none⟩ = some (.slice a5 n5 c5) := ⟨HM2.out.k0, HM2.out.k1, HM2.out.k2, HM2.out.k3, HM2.out.k4⟩
  have hlX : X < w4.heap.size := World.block_lt_of_cell? w4 _ k0
  go_wp2_with fail
  refine (trLoads_any a1 n1 c1 a2 n2 c2 a3 n3 c3 a4 n4 c4 a5 n5 c5 aA nA cA s xs w4 (Lib.hid HM2.out.rs) (Lib.hid (HX.out.keep HM2.out.bel)) HNA (by omega)).mono ?_
  rintro e w5 ⟨pc, cc, rfl, hr, hb⟩
  have HM3 := Lib.hid (HM2.out.keep hb)
  clear HM2 k0 k1 k2 k3 k4 hlX
  have HM2 := HM3
  clear HM3
  have HRt := Lib.hid (HRa.out.keep hb)
  clear HRa
  have HRa := HRt
  clear HRt
  have HRt := Lib.hid (HRb.out.keep hb)
  clear HRb
  have HRb := HRt
  clear HRt
  have HRc := Lib.hid hr
  have hlc : (loadsO s xs).length ≤ 16 := loadsO_len s xs
  generalize hLc : (loadsO s xs).length = lc at *
  have HLc := Lib.hid hLc
  generalize hEc : errO (loadB s xs) = ec at *
  have HEc := Lib.hid hEc
  clear hLc hEc hr hb
  obtain ⟨k0, k1, k2, k3, k4⟩ : w5.cell? ⟨X, 0, none⟩ = some (.slice a1 n1 c1) ∧ w5.cell? ⟨X, 1, none⟩ = some (.slice a2 n2 c2) ∧ w5.cell? ⟨X, 2, none⟩ = some (.slice a3 n3 c3) ∧ w5.cell? ⟨X, 3, none⟩ = some (.slice a4 n4 c4) ∧ w5.cell? ⟨X, 4, none⟩ = some (.slice a5 n5 c5) := ⟨HM2.out.k0, HM2.out.k1, HM2.out.k2, HM2.out.k3, HM2.out.k4⟩
  have hlX : X < w5.heap.size := World.block_lt_of_cell? w5 _ k0
  go_wp2_with fail
  refine (r8Loads_any a1 a2 a3 a4 a5 n1 c1 n2 c2 n3 c3 n4 c4 n5 c5 aA nA cA s xs w5 (Lib.hid HM2.out.rs) (Lib.hid (HX.out.keep HM2.out.bel)) HNA (by omega)).mono ?_
  rintro e w6 ⟨pd, cd, rfl, hr, hb⟩
  have HM3 := Lib.hid (HM2.out.keep hb)
  clear HM2 k0 k1 k2 k3 k4 hlX
  have HM2 := HM3
  clear HM3
  have HRt := Lib.hid (HRa.out.keep hb)
  clear HRa
  have HRa := HRt
  clear HRt
  have HRt := Lib.hid (HRb.out.keep hb)
  clear HRb
  have HRb := HRt
  clear HRt
  have HRt := Lib.hid (HRc.out.keep hb)
  clear HRc
  have HRc := HRt
  clear HRt
  have HRd := Lib.hid hr
  rw [HLc.out, HEc.out]
  clear hr hb
  obtain ⟨k0, k1, k2, k3, k4⟩ : w6.cell? ⟨X, 0, none⟩ = some (.slice a1 n1 c1) ∧ w6.cell? ⟨X, 1, none⟩ = some (.slice a2 n2 c2) ∧ w6.cell? ⟨X, 2, none⟩ = some (.slice a3 n3 c3) ∧ w6.cell? ⟨X, 3, none⟩ = some (.slice a4 n4 c4) ∧ w6.cell? ⟨X, 4, none⟩ = some (.slice a5 n5 c5) := ⟨HM2.out.k0, HM2.out.k1, HM2.out.k2, HM2.out.k3, HM2.out.k4⟩
  have hlX : X < w6.heap.size := World.block_lt_of_cell? w6 _ k0
  go_wp2_with fail
  refine (trBelow_any a1 a2 a3 a4 a5 n1 c1 n2 c2 n3 c3 n4 c4 n5 c5 s co w6 (Lib.hid HM2.out.rs)).mono ?_
  rintro e w7 ⟨pf, cf, rfl, hr, hb⟩
  have HM3 := Lib.hid (HM2.out.keep hb)
  clear HM2 k0 k1 k2 k3 k4 hlX
  have HM2 := HM3
  clear HM3
  have HRt := Lib.hid (HRa.out.keep hb)
  clear HRa
  have HRa := HRt
  clear HRt
  have HRt := Lib.hid (HRb.out.keep hb)
  clear HRb
  have HRb := HRt
  clear HRt
  have HRt := Lib.hid (HRc.out.keep hb)
  clear HRc
  have HRc := HRt
  clear HRt
  have HRt := Lib.hid (HRd.out.keep hb)
  clear HRd
  have HRd := HRt
  clear HRt
  have HRf := Lib.hid hr
  have hlf : (belowO s co).length ≤ 16 := belowO_len s co
  generalize hLf : (belowO s co).length = lf at *
  have HLf := Lib.hid hLf
  generalize hEf : errO (okCo s co) = ef at *
  have HEf := Lib.hid hEf
  clear hLf hEf hr hb
  obtain ⟨k0, k1, k2, k3, k4⟩ : w7.cell? ⟨X, 0, none⟩ = some (.slice a1 n1 c1) ∧ w7.cell? ⟨X, 1, none⟩ = some (.slice a2 n2 c2) ∧ w7.cell? ⟨X, 2, none⟩ = some (.slice a3 n3 c3) ∧ w7.cell? ⟨X, 3, none⟩ = some (.slice a4 n4 c4) ∧ w7.cell? ⟨X, 4, none⟩ = some (.slice a5 n5 c5) := ⟨HM2.out.k0, HM2.out.k1, HM2.out.k2, HM2.out.k3, HM2.out.k4⟩
  have hlX : X < w7.heap.size := World.block_lt_of_cell? w7 _ k0
  go_wp2_with fail
  refine (r8Below_any a1 a2 a3 a4 a5 n1 c1 n2 c2 n3 c3 n4 c4 n5 c5 s co w7 (Lib.hid HM2.out.rs)).mono ?_
  rintro e w8 ⟨pg, cg, rfl, hr, hb⟩
  have HM3 := Lib.hid (HM2.out.keep hb)
  clear HM2 k0 k1 k2 k3 k4 hlX
  have HM2 := HM3
  clear HM3
  have HRt := Lib.hid (HRa.out.keep hb)
  clear HRa
  have HRa := HRt
  clear HRt
  have HRt := Lib.hid (HRb.out.keep hb)
  clear HRb
  have HRb := HRt
  clear HRt
  have HRt := Lib.hid (HRc.out.keep hb)
  clear HRc
  have HRc := HRt
  clear HRt
  have HRt := Lib.hid (HRd.out.keep hb)
  clear HRd
  have HRd := HRt
  clear HRt
  have HRt := Lib.hid (HRf.out.keep hb)
  clear HRf
  have HRf := HRt
  clear HRt
  have HRg := Lib.hid hr
  rw [HLf.out, HEf.out]
  clear hr hb
  go_wp2_with fail
  refine (r4Ints_any pa pb la ca la cb (pathO s ch) (pathO s ch) w8 HRa HRb HLa HLa (by omega)).mono ?_
  rintro e w9 ⟨rfl, hb⟩
  rw [decide_eq_true (rfl : pathO s ch = pathO s ch)]
  have HM3 := Lib.hid (HM2.out.keep hb)
  clear HM2
  have HM2 := HM3
  clear HM3
  have HRt := Lib.hid (HRa.out.keep hb)
  clear HRa
  have HRa := HRt
  clear HRt
  have HRt := Lib.hid (HRb.out.keep hb)
  clear HRb
  have HRb := HRt
  clear HRt
  have HRt := Lib.hid (HRc.out.keep hb)
  clear HRc
  have HRc := HRt
  clear HRt
  have HRt := Lib.hid (HRd.out.keep hb)
  clear HRd
  have HRd := HRt
  clear HRt
  have HRt := Lib.hid (HRf.out.keep hb)
  clear HRf
  have HRf := HRt
  clear HRt
  have HRt := Lib.hid (HRg.out.keep hb)
  clear HRg
  have HRg := HRt
  clear HRt
  clear hb
  go_wp2_with fail
  refine (r8Same_any pc pd lc cc lc cd (loadsO s xs) (loadsO s xs) w9 HRc HRd HLc HLc (by omega)).mono ?_
  rintro e w10 ⟨rfl, hb⟩
  rw [decide_eq_true (rfl : loadsO s xs = loadsO s xs)]
  have HM3 := Lib.hid (HM2.out.keep hb)
  clear HM2
  have HM2 := HM3
  clear HM3
  have HRt := Lib.hid (HRa.out.keep hb)
  clear HRa
  have HRa := HRt
  clear HRt
  have HRt := Lib.hid (HRb.out.keep hb)
  clear HRb
  have HRb := HRt
  clear HRt
  have HRt := Lib.hid (HRc.out.keep hb)
  clear HRc
  have HRc := HRt
  clear HRt
  have HRt := Lib.hid (HRd.out.keep hb)
  clear HRd
  have HRd := HRt
  clear HRt
  have HRt := Lib.hid (HRf.out.keep hb)
  clear HRf
  have HRf := HRt
  clear HRt
  have HRt := Lib.hid (HRg.out.keep hb)
  clear HRg
  have HRg := HRt
  clear HRt
  clear hb
  go_wp2_with fail
  refine (r4Ints_any pf pg lf cf lf cg (belowO s co) (belowO s co) w10 HRf HRg HLf HLf (by omega)).mono ?_
  rintro e w11 ⟨rfl, hb⟩
  rw [decide_eq_true (rfl : belowO s co = belowO s co)]
  have HM3 := Lib.hid (HM2.out.keep hb)
  clear HM2
  have HM2 := HM3
  clear HM3
  have HRt := Lib.hid (HRa.out.keep hb)
  clear HRa
  have HRa := HRt
  clear HRt
  have HRt := Lib.hid (HRb.out.keep hb)
  clear HRb
  have HRb := HRt
  clear HRt
  have HRt := Lib.hid (HRc.out.keep hb)
  clear HRc
  have HRc := HRt
  clear HRt
  have HRt := Lib.hid (HRd.out.keep hb)
  clear HRd
  have HRd := HRt
  clear HRt
  have HRt := Lib.hid (HRf.out.keep hb)
  clear HRf
  have HRf := HRt
  clear HRt
  have HRt := Lib.hid (HRg.out.keep hb)
  clear HRg
  have HRg := HRt
  clear HRt
  clear hb
  go_wp2_with fail
  go_ret
  exact ⟨rfl, HM2.out.bel⟩
end Go.Proofs.Ytjlfnhfiiailgaa
