/-
The reference's Prove.
-/
import Derived.Test.YtbjmpfchapggfaaCPrRd
import Derived.Test.YtbjmpfchapggfaaCLimU
namespace Go.Proofs.Ytbjmpfchapggfaa
open Go.RowKit
set_option linter.unusedVariables false
set_option linter.unusedSimpArgs false
set_option maxRecDepth 100000 in
set_option maxHeartbeats 16000000 in
theorem r10Prove_any (a1 a2 a3 a4 a5 : Option Addr) (n1 c1 n2 c2 n3 c3 n4 c4 n5 c5 : Nat) (aA : Option Addr) (nA cA : Nat) (s : GSite) (xs : List Int) (w : World) (HS : Hid (RdSite w a1 a2 a3 a4 a5 n1 n2 n3 n4 n5 s)) (HX : Hid (Rd 1 encI w aA xs)) (HNA : Hid (xs.length = nA)) (hnA : nA ≤ 9223372036854775807) (HEX : Hid (∀ t, loadB s xs = true → vioO s xs = some t → ∃ v, Sorts (keyW xs) 0 (lenW s t) (fI (memL s t)) v)) :
    Calls Try.prog 12 #[.agg #[.slice a1 n1 c1, .slice a2 n2 c2, .slice a3 n3 c3, .slice a4 n4 c4, .slice a5 n5 c5], .slice aA nA cA] w (PvPost w s xs) := by
  obtain ⟨W0, hW0⟩ : ∃ W0, W0 = (w.alloc (.cells #[.slice a1 n1 c1, .slice a2 n2 c2, .slice a3 n3 c3, .slice a4 n4 c4, .slice a5 n5 c5] 28)).alloc (.cells #[.slice none 0 0] 32) := ⟨_, rfl⟩
  have hm0 : LwM w W0 w.heap.size a1 n1 c1 a2 n2 c2 a3 n3 c3 a4 n4 c4 a5 n5 c5 s := by
    rw [hW0]
    exact (LwM.box (c1 := c1) (c2 := c2) (c3 := c3) (c4 := c4) (c5 := c5) HS.out).keep ((Below.refl _ _).alloc (Nat.le_refl _) _)
  have hor : Own W0 (w.heap.size + 1) 32 1 (fun _ => .slice none 0 0) := by
    have h := Own.one (w.alloc (.cells #[.slice a1 n1 c1, .slice a2 n2 c2, .slice a3 n3 c3, .slice a4 n4 c4, .slice a5 n5 c5] 28)) 32 (.slice none 0 0)
    rw [World.size_alloc] at h
    rw [hW0]; exact h
  have HW0 := Lib.hid hW0
  have HM := Lib.hid hm0
  have HOR := Lib.hid hor
  clear hW0 hm0 hor
  obtain ⟨k0, k1, k2, k3, k4⟩ : W0.cell? ⟨w.heap.size, 0, none⟩ = some (.slice a1 n1 c1) ∧ W0.cell? ⟨w.heap.size, 1, none⟩ = some (.slice a2 n2 c2) ∧ W0.cell? ⟨w.heap.size, 2, none⟩ = some (.slice a3 n3 c3) ∧ W0.cell? ⟨w.heap.size, 3, none⟩ = some (.slice a4 n4 c4) ∧ W0.cell? ⟨w.heap.size, 4, none⟩ = some (.slice a5 n5 c5) := ⟨HM.out.k0, HM.out.k1, HM.out.k2, HM.out.k3, HM.out.k4⟩
  go_enter Try.func12, Try.ntmps12
  go_wp2_with fail
  rw [← HW0.out]
  clear HW0
  obtain ⟨X, hX⟩ : ∃ X, X = w.heap.size := ⟨_, rfl⟩
  rw [← hX] at HM HOR k0 k1 k2 k3 k4 ⊢
  have HSZ : Hid (w.heap.size = X) := Lib.hid hX.symm
  clear hX
  have HEND : Hid (∀ W v, Own W (X + 1) 32 1 (fun _ => .slice none 0 0) → Below w.heap.size w W → Own (W.setCell ⟨X + 1, 0, none⟩ v) (X + 1) 32 1 (fun _ => v) ∧ Below w.heap.size w (W.setCell ⟨X + 1, 0, none⟩ v)) := Lib.hid (fun W v h1 h2 => ⟨h1.set1 _, h2.setCell (p := ⟨X + 1, 0, none⟩) (by show w.heap.size ≤ X + 1; have := HSZ.out; omega) _⟩)
  go_wp2_with fail
  refine (r4Valid_any a1 a2 a3 a4 a5 n1 c1 n2 c2 n3 c3 n4 c4 n5 c5 s W0 (Lib.hid HM.out.rs)).mono ?_
  rintro e w1 ⟨rfl, hb⟩
  have HM := Lib.hid (HM.out.keep hb)
  have HOR := Lib.hid (HOR.out.keep hb HOR.out.lt)
  clear k0 k1 k2 k3 k4
  obtain ⟨k0, k1, k2, k3, k4⟩ : w1.cell? ⟨X, 0, none⟩ = some (.slice a1 n1 c1) ∧ w1.cell? ⟨X, 1, none⟩ = some (.slice a2 n2 c2) ∧ w1.cell? ⟨X, 2, none⟩ = some (.slice a3 n3 c3) ∧ w1.cell? ⟨X, 3, none⟩ = some (.slice a4 n4 c4) ∧ w1.cell? ⟨X, 4, none⟩ = some (.slice a5 n5 c5) := ⟨HM.out.k0, HM.out.k1, HM.out.k2, HM.out.k3, HM.out.k4⟩
  clear hb
  cases hok : okSB keyL s
  · have HN : Hid (loadB s xs = false) := Lib.hid (loadB_no1 hok)
    clear hok
    have c0 := HOR.out.cell (i := 0) (by omega)
    have f0 := HOR.out.frozen 0
    have HE := Lib.hid (HEND.out w1 (.slice none 0 0) HOR.out HM.out.bel)
    go_wp2_with fail
    refine bodyPost_ret (results_ctt (a := 4) (t := 5) (u := 6) (ty := 32) (b := X + 1) (by kernel_rfl) rfl (load_prf (HE.out.1.cell (i := 0) (by omega)))) rfl ?_
    exact ⟨none, 0, 0, none, 0, 0, [], [], 1, rfl, Rd.nil, rfl, Rd.nil, rfl, Lib.hid (.inl ⟨HN.out, rfl, rfl, rfl⟩), HE.out.2⟩
  have HOKB := Lib.hid hok
  have HOK := Lib.hid (okSB_iff.1 hok)
  clear hok
  go_wp2_with fail
  refine (r8Currents_any a1 a2 a3 a4 a5 n1 c1 n2 c2 n3 c3 n4 c4 n5 c5 aA nA cA s xs w1 (Lib.hid HM.out.rs) (Lib.hid (HX.out.keep HM.out.bel)) HNA (by omega)).mono ?_
  rintro e w2 ⟨rfl, hb⟩
  have HM := Lib.hid (HM.out.keep hb)
  have HOR := Lib.hid (HOR.out.keep hb HOR.out.lt)
  clear k0 k1 k2 k3 k4
  obtain ⟨k0, k1, k2, k3, k4⟩ : w2.cell? ⟨X, 0, none⟩ = some (.slice a1 n1 c1) ∧ w2.cell? ⟨X, 1, none⟩ = some (.slice a2 n2 c2) ∧ w2.cell? ⟨X, 2, none⟩ = some (.slice a3 n3 c3) ∧ w2.cell? ⟨X, 3, none⟩ = some (.slice a4 n4 c4) ∧ w2.cell? ⟨X, 4, none⟩ = some (.slice a5 n5 c5) := ⟨HM.out.k0, HM.out.k1, HM.out.k2, HM.out.k3, HM.out.k4⟩
  clear hb
  cases hcu : curB s xs
  · have HN : Hid (loadB s xs = false) := Lib.hid (loadB_no2 hcu)
    clear hcu
    have c0 := HOR.out.cell (i := 0) (by omega)
    have f0 := HOR.out.frozen 0
    have HE := Lib.hid (HEND.out w2 (.slice none 0 0) HOR.out HM.out.bel)
    go_wp2_with fail
    refine bodyPost_ret (results_ctt (a := 4) (t := 5) (u := 6) (ty := 32) (b := X + 1) (by kernel_rfl) rfl (load_prf (HE.out.1.cell (i := 0) (by omega)))) rfl ?_
    exact ⟨none, 0, 0, none, 0, 0, [], [], 1, rfl, Rd.nil, rfl, Rd.nil, rfl, Lib.hid (.inl ⟨HN.out, rfl, rfl, rfl⟩), HE.out.2⟩
  have HLB : Hid (loadB s xs = true) := Lib.hid (loadB_yes HOKB.out hcu)
  clear hcu
  go_wp2_with fail
  refine (r9Check_any a1 a2 a3 a4 a5 n1 c1 n2 c2 n3 c3 n4 c4 n5 c5 aA nA cA s xs w2 (Lib.hid HM.out.rs) (Lib.hid (HX.out.keep HM.out.bel)) HNA (by omega)).mono ?_
  rintro e w3 ⟨rfl, hb⟩
  have HM := Lib.hid (HM.out.keep hb)
  have HOR := Lib.hid (HOR.out.keep hb HOR.out.lt)
  clear k0 k1 k2 k3 k4
  obtain ⟨k0, k1, k2, k3, k4⟩ : w3.cell? ⟨X, 0, none⟩ = some (.slice a1 n1 c1) ∧ w3.cell? ⟨X, 1, none⟩ = some (.slice a2 n2 c2) ∧ w3.cell? ⟨X, 2, none⟩ = some (.slice a3 n3 c3) ∧ w3.cell? ⟨X, 3, none⟩ = some (.slice a4 n4 c4) ∧ w3.cell? ⟨X, 4, none⟩ = some (.slice a5 n5 c5) := ⟨HM.out.k0, HM.out.k1, HM.out.k2, HM.out.k3, HM.out.k4⟩
  clear hb
  generalize errO (loadB s xs) = er
  cases hvo : vioO s xs with
  | some t =>
    have HVO := Lib.hid hvo
    have hvs := vio_some HLB.out hvo
    have hlo : limAt s (t / 3) < loadS s (fI xs) s.chgs.length t := by
      have h := hvs.2
      unfold chkL at h
      exact of_decide_eq_true h
    have HOV := Lib.hid hlo
    have HT : Hid (t / 3 < s.cons.length) := Lib.hid (by have := hvs.1; omega)
    obtain ⟨v, hv⟩ := HEX.out t HLB.out hvo
    have HV := Lib.hid hv
    rw [show vioV s xs (some t) = .agg #[.int .i64 ((t / 3 : Nat) : Int), .int .i64 ((t % 3 : Nat) : Int), .int .i64 (loadS s (fI xs) s.chgs.length t)] from rfl]
    obtain ⟨lo, hlo2⟩ : ∃ lo, lo = loadS s (fI xs) s.chgs.length t := ⟨_, rfl⟩
    rw [← hlo2]
    clear hlo hvs hvo hv hlo2
    obtain ⟨w4, hw4⟩ : ∃ w4, w4 = w3.alloc (.cells #[.int .i64 ((t / 3 : Nat) : Int), .int .i64 ((t % 3 : Nat) : Int), .int .i64 lo] 45) := ⟨_, rfl⟩
    have hb4 : Below w3.heap.size w3 w4 := by rw [hw4]; exact (Below.refl _ w3).alloc (Nat.le_refl _) _
    have HM := Lib.hid (HM.out.keep hb4)
    have HOR := Lib.hid (HOR.out.keep hb4 HOR.out.lt)
    clear k0 k1 k2 k3 k4
    obtain ⟨k0, k1, k2, k3, k4⟩ : w4.cell? ⟨X, 0, none⟩ = some (.slice a1 n1 c1) ∧ w4.cell? ⟨X, 1, none⟩ = some (.slice a2 n2 c2) ∧ w4.cell? ⟨X, 2, none⟩ = some (.slice a3 n3 c3) ∧ w4.cell? ⟨X, 3, none⟩ = some (.slice a4 n4 c4) ∧ w4.cell? ⟨X, 4, none⟩ = some (.slice a5 n5 c5) := ⟨HM.out.k0, HM.out.k1, HM.out.k2, HM.out.k3, HM.out.k4⟩
    have HSM := Lib.hid (r10Small_any a1 a2 a3 a4 a5 n1 c1 n2 c2 n3 c3 n4 c4 n5 c5 aA nA cA s xs t v w4 (Lib.hid HM.out.rs) (Lib.hid (HX.out.keep HM.out.bel)) HNA HLB HT HV HOV)
    obtain ⟨cc, hcc⟩ : ∃ cc, cc = t / 3 := ⟨_, rfl⟩
    obtain ⟨pp, hpp⟩ : ∃ pp, pp = t % 3 := ⟨_, rfl⟩
    rw [← hcc, ← hpp] at HSM hw4
    rw [← hcc, ← hpp]
    rw [hw4] at k0 k1 k2 k3 k4 HSM
    clear hcc hpp
    go_wp2_with fail
    refine HSM.out.mono ?_
    rintro e w5 ⟨g, rfl, how, hg, hb5⟩
    rw [← hw4] at hb5 hg
    have HGX : Hid (X + 1 < g) := Lib.hid (by have := HOR.out.lt; omega)
    have HO5 := Lib.hid how
    have HM5 := Lib.hid (HM.out.keep hb5)
    have HOR5 := Lib.hid (HOR.out.keep hb5 HOR.out.lt)
    clear how hg hb5 hw4 hb4 HSM k0 k1 k2 k3 k4 HM HOR
    have c0 := HOR5.out.cell (i := 0) (by omega)
    have f0 := HOR5.out.frozen 0
    have HE := Lib.hid (HEND.out w5 (.slice none 0 0) HOR5.out HM5.out.bel)
    have HO6 : Hid (Own (w5.setCell ⟨X + 1, 0, none⟩ (.slice none 0 0)) g 3 nA (fun i => .int .i64 (outW (fI xs) v (limAt s (t / 3) + 1) (lenW s t) i))) := Lib.hid (HO5.out.other (p := ⟨X + 1, 0, none⟩) (by have := HGX.out; show g ≠ X + 1; omega) _)
    have HSO : Hid (IsWit s xs t (rowN (outW (fI xs) v (limAt s (t / 3) + 1) (lenW s t)) nA)) := Lib.hid ⟨v, HV.out, by rw [HNA.out]⟩
    go_wp2_with fail
    refine bodyPost_ret (results_ctt (a := 4) (t := 5) (u := 6) (ty := 32) (b := X + 1) (by kernel_rfl) rfl (load_prf (HE.out.1.cell (i := 0) (by omega)))) rfl ?_
    exact ⟨none, 0, 0, some ⟨g, 0, none⟩, nA, nA, [], _, 13, rfl, Rd.nil, rfl, ownW_rd HO6.out, rowN_len _ _, Lib.hid (.inr (.inl ⟨HLB.out, t, HVO.out, rfl, rfl, HSO.out⟩)), HE.out.2⟩
  | none =>
    have HVO := Lib.hid hvo
    rw [show vioV s xs none = .agg #[.int .i64 0, .int .i64 0, .int .i64 0] from rfl]
    clear hvo
    obtain ⟨w4, hw4⟩ : ∃ w4, w4 = w3.alloc (.cells #[.int .i64 0, .int .i64 0, .int .i64 0] 45) := ⟨_, rfl⟩
    have hb4 : Below w3.heap.size w3 w4 := by rw [hw4]; exact (Below.refl _ w3).alloc (Nat.le_refl _) _
    have HM := Lib.hid (HM.out.keep hb4)
    have HOR := Lib.hid (HOR.out.keep hb4 HOR.out.lt)
    clear k0 k1 k2 k3 k4
    obtain ⟨k0, k1, k2, k3, k4⟩ : w4.cell? ⟨X, 0, none⟩ = some (.slice a1 n1 c1) ∧ w4.cell? ⟨X, 1, none⟩ = some (.slice a2 n2 c2) ∧ w4.cell? ⟨X, 2, none⟩ = some (.slice a3 n3 c3) ∧ w4.cell? ⟨X, 3, none⟩ = some (.slice a4 n4 c4) ∧ w4.cell? ⟨X, 4, none⟩ = some (.slice a5 n5 c5) := ⟨HM.out.k0, HM.out.k1, HM.out.k2, HM.out.k3, HM.out.k4⟩
    have HLD := Lib.hid (r8Loads_any a1 a2 a3 a4 a5 n1 c1 n2 c2 n3 c3 n4 c4 n5 c5 aA nA cA s xs w4 (Lib.hid HM.out.rs) (Lib.hid (HX.out.keep HM.out.bel)) HNA hnA)
    rw [hw4] at k0 k1 k2 k3 k4 HLD
    go_wp2_with fail
    refine HLD.out.mono ?_
    rintro e w5 ⟨aL, cL, rfl, hrl, hb5⟩
    rw [← hw4] at hb5
    rw [HLB.out]
    have HRL : Hid (Rd 3 enc3 w5 aL (loadsOf s xs)) := Lib.hid (by rw [← loadsO_yes HLB.out]; exact hrl)
    have hll : (loadsO s xs).length = s.cons.length := by rw [loadsO_yes HLB.out, loadsOf_len]
    rw [hll]
    have HLL : Hid ((loadsOf s xs).length = s.cons.length) := Lib.hid (loadsOf_len _ _)
    obtain ⟨nl, hnl⟩ : ∃ nl, nl = s.cons.length := ⟨_, rfl⟩
    rw [← hnl] at HLL ⊢
    have HM5 := Lib.hid (HM.out.keep hb5)
    have HOR5 := Lib.hid (HOR.out.keep hb5 HOR.out.lt)
    clear hrl hb5 hw4 hb4 HLD k0 k1 k2 k3 k4 hll hnl HM HOR
    have c0 := HOR5.out.cell (i := 0) (by omega)
    have f0 := HOR5.out.frozen 0
    have HE := Lib.hid (HEND.out w5 (.slice aL nl cL) HOR5.out HM5.out.bel)
    have HR4 : Hid (Rd 3 enc3 (w5.setCell ⟨X + 1, 0, none⟩ (.slice aL nl cL)) aL (loadsOf s xs)) := Lib.hid (HRL.out.mod ((show Mod (fun j => j = X + 1) w5 w5 from Mod.refl _ w5).setCell (p := ⟨X + 1, 0, none⟩) (.inl rfl) _) (rd3_ne HOR5.out (fun x h => by cases h) HRL.out))
    go_wp2_with fail
    refine bodyPost_ret (results_ctt (a := 4) (t := 5) (u := 6) (ty := 32) (b := X + 1) (by kernel_rfl) rfl (load_prf (HE.out.1.cell (i := 0) (by omega)))) rfl ?_
    exact ⟨aL, nl, cL, none, 0, 0, loadsOf s xs, [], 0, rfl, HR4.out, HLL.out, Rd.nil, rfl, Lib.hid (.inr (.inr ⟨HLB.out, HVO.out, rfl, rfl, rfl⟩)), HE.out.2⟩
end Go.Proofs.Ytbjmpfchapggfaa
