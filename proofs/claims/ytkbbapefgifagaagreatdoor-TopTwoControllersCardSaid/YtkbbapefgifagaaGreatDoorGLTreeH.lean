/-
Several texts in one: TreeH, TreeI.
-/
import Derived.Test.YtkbbapefgifagaaGreatDoorGLTreeE
import Derived.Test.YtkbbapefgifagaaGreatDoorGBase
import Derived.Laws.EntriesVeiled
/-
tree.Below.
-/
namespace Go.Proofs.YtkbbapefgifagaaGreatDoor
open Go.RowKit
set_option linter.unusedVariables false
set_option linter.unusedSimpArgs false
noncomputable def okCo (s : GSite) (co : Int) : Bool := okSB keyL s && decide (0 ≤ co ∧ co < s.cons.length)
def isBel (s : GSite) (co : Int) (i : Nat) : Bool := decide (co ∈ pthI s.cons (placeOf s i))
def belowL (s : GSite) (co : Int) (m : Nat) : List Int := ((List.range m).filter (isBel s co)).map (fun (i : Nat) => (i : Int))
noncomputable def belowO (s : GSite) (co : Int) : List Int := if okCo s co = true then belowL s co s.chgs.length else []
theorem okCo_no1 {s : GSite} {ch : Int} (h : okSB keyL s = false) : okCo s ch = false := by unfold okCo; rw [h]; rfl
theorem okCo_no2 {s : GSite} {ch : Int} (h : ¬ (0 ≤ ch ∧ ch < s.cons.length)) : okCo s ch = false := by unfold okCo; rw [decide_eq_false h, Bool.and_false]
theorem okCo_yes {s : GSite} {ch : Int} (h : okSB keyL s = true) (h2 : 0 ≤ ch ∧ ch < s.cons.length) : okCo s ch = true := by unfold okCo; rw [h, decide_eq_true h2]; rfl
theorem belowO_no {s : GSite} {ch : Int} (h : okCo s ch = false) : belowO s ch = [] := by unfold belowO; rw [h]; rfl
theorem belowO_yes {s : GSite} {ch : Int} (h : okCo s ch = true) : belowO s ch = belowL s ch s.chgs.length := by unfold belowO; rw [if_pos h]
theorem belowL_no {s : GSite} {co : Int} {m : Nat} (h : isBel s co m = false) : belowL s co (m + 1) = belowL s co m := by
  unfold belowL
  rw [List.range_succ, List.filter_append, List.map_append, List.filter_cons_of_neg (by rw [h]; simp)]
  simp
theorem belowL_yes {s : GSite} {co : Int} {m : Nat} (h : isBel s co m = true) : belowL s co (m + 1) = belowL s co m ++ [(m : Int)] := by
  unfold belowL
  rw [List.range_succ, List.filter_append, List.map_append, List.filter_cons_of_pos h]
  simp
theorem belowL_len (s : GSite) (co : Int) (m : Nat) : (belowL s co m).length ≤ m := by
  unfold belowL
  rw [List.length_map]
  exact Nat.le_trans (List.length_filter_le _ _) (by simp)
set_option maxRecDepth 100000 in
set_option maxHeartbeats 4000000 in
theorem trBelow1_any (bs bc : Nat) (a1 a2 a3 a4 a5 : Option Addr) (n1 c1 n2 c2 n3 c3 n4 c4 n5 c5 : Nat) (cs : List GCon) (hu : OkUps cs) (c0 : Nat) (hc : c0 < cs.length) (hn1 : cs.length = n1) (hm1 : n1 ≤ 16) (nm : ByteArray) (ph mn mx st fb ow co : Int) (w : World)
    (k0 : w.cell? ⟨bs, 0, none⟩ = some (.slice a1 n1 c1)) (k1 : w.cell? ⟨bs, 1, none⟩ = some (.slice a2 n2 c2)) (k2 : w.cell? ⟨bs, 2, none⟩ = some (.slice a3 n3 c3)) (k3 : w.cell? ⟨bs, 3, none⟩ = some (.slice a4 n4 c4)) (k4 : w.cell? ⟨bs, 4, none⟩ = some (.slice a5 n5 c5))
    (kc : w.cell? ⟨bc, 0, none⟩ = some (.int .i64 co)) (hR : Rd 11 encCon w a1 cs) (hA : ∀ a, a1 = some a → a.block < w.heap.size) :
    Calls Tryz.prog 102 #[.agg #[.string nm, .int .i64 (c0 : Nat), .int .i64 ph, .int .i64 mn, .int .i64 mx, .int .i64 st, .int .i64 fb, .int .i64 ow], .pointer (some ⟨bs, 0, none⟩), .pointer (some ⟨bc, 0, none⟩)] w fun e w' => e = .returned (.bool (decide (co ∈ pthI cs c0))) ∧ Below w.heap.size w w' := by
  have ls := World.block_lt_of_cell? w _ k0
  have lc := World.block_lt_of_cell? w _ kc
  dsimp only at ls lc
  go_enter Tryz.func102, Tryz.ntmps102
  go_wp2_with fail
  obtain ⟨W, hW⟩ : ∃ W, W = w.alloc (.cells #[.string nm, .int .i64 (c0 : Nat), .int .i64 ph, .int .i64 mn, .int .i64 mx, .int .i64 st, .int .i64 fb, .int .i64 ow] 59) := ⟨_, rfl⟩
  have bw : Below w.heap.size w W := by rw [hW]; exact (Below.refl _ w).alloc (Nat.le_refl _) _
  have x1 : W.cell? ⟨w.heap.size, 1, none⟩ = some (.int .i64 (c0 : Nat)) := by rw [hW]; go_simp
  have lx : w.heap.size < W.heap.size := by rw [hW]; simp
  rw [← hW]
  clear hW
  have q0 := (bw.cell (p := ⟨bs, 0, none⟩) ls).trans k0
  have q1 := (bw.cell (p := ⟨bs, 1, none⟩) ls).trans k1
  have q2 := (bw.cell (p := ⟨bs, 2, none⟩) ls).trans k2
  have q3 := (bw.cell (p := ⟨bs, 3, none⟩) ls).trans k3
  have q4 := (bw.cell (p := ⟨bs, 4, none⟩) ls).trans k4
  have qc := (bw.cell (p := ⟨bc, 0, none⟩) lc).trans kc
  have HR := Lib.hid (hR.keep bw)
  have HB := Lib.hid bw
  have lsW : bs < W.heap.size := by omega
  have lcW : bc < W.heap.size := by omega
  clear k0 k1 k2 k3 k4 kc hR bw
  refine region_z (S := fun w' => Below W.heap.size W w') [] (by kernel_rfl) (Below.refl _ _).drew (fun hHeld => ?_)
  refine zt (i := 0) (v := .agg #[.slice a1 n1 c1, .slice a2 n2 c2, .slice a3 n3 c3, .slice a4 n4 c4, .slice a5 n5 c5]) [] (fun w' hSw => ?_) hHeld ?_
  · have s0 := (hSw.cell (p := ⟨bs, 0, none⟩) lsW).trans q0
    have s1 := (hSw.cell (p := ⟨bs, 1, none⟩) lsW).trans q1
    have s2 := (hSw.cell (p := ⟨bs, 2, none⟩) lsW).trans q2
    have s3 := (hSw.cell (p := ⟨bs, 3, none⟩) lsW).trans q3
    have s4 := (hSw.cell (p := ⟨bs, 4, none⟩) lsW).trans q4
    clear hHeld hSw q0 q1 q2 q3 q4
    go_simp
  simp only [Act.put, zl0, zl1, zl2, zl3, zl4, zl5]
  refine zt (i := 1) (v := .pointer (some ⟨w.heap.size, 1, none⟩)) [] (fun w' hSw => ?_) hHeld ?_
  · clear hHeld hSw
    go_simp
  simp only [Act.put, zl0, zl1, zl2, zl3, zl4, zl5]
  refine zt (i := 2) (v := .int .i64 (c0 : Nat)) [] (fun w' hSw => ?_) hHeld ?_
  · have s0 := (hSw.cell (p := ⟨w.heap.size, 1, none⟩) lx).trans x1
    clear hHeld hSw
    go_simp
  simp only [Act.put, zl0, zl1, zl2, zl3, zl4, zl5]
  refine zt (i := 4) (v := .int .i64 co) [] (fun w' hSw => ?_) hHeld ?_
  · have s0 := (hSw.cell (p := ⟨bc, 0, none⟩) lcW).trans qc
    clear hHeld hSw
    go_simp
  simp only [Act.put, zl0, zl1, zl2, zl3, zl4, zl5]
  clear q0 q1 q2 q3 q4 qc
  refine zo 3 (fun K' hK => ?_)
  go_simp
  refine (trWay_any a1 a2 a3 a4 a5 n1 c1 n2 c2 n3 c3 n4 c4 n5 c5 ((c0 : Nat) : Int) W.drew).mono ?_
  rintro e w2 ⟨rfl, hw2⟩
  have hb2 : Below W.heap.size W w2 := by rw [hw2]; exact (((Below.refl _ W).drew).alloc (by simp) _).alloc (by simp) _
  have z0 : w2.cell? ⟨W.heap.size + 1, 0, none⟩ = some (.int .i64 (c0 : Nat)) := by rw [hw2]; go_simp
  have z1 : w2.cell? ⟨W.heap.size, 0, none⟩ = some (.slice a1 n1 c1) := by rw [hw2]; go_simp
  have HH := Lib.hid (trHas_any (W.heap.size + 1) W.heap.size cs hu c0 hc a1 n1 c1 hn1 hm1 co w2 z0 z1 (HR.out.keep hb2) (fun a ha => by have := hA a ha; have := hb2.size; omega))
  have HB2 := Lib.hid hb2
  clear hw2 z0 z1 hb2
  refine hK.out _ _ ?_ (fun hHeld' => ?_)
  · exact HB2.out
  clear hK K' hHeld
  refine zo 5 (fun K' hK => ?_)
  go_simp
  refine HH.out.mono ?_
  rintro e w3 ⟨rfl, hb3⟩
  have hb4 := below_then hHeld' hb3
  refine hK.out _ _ ?_ (fun hHeld => ?_)
  · exact hb4
  clear hK K' hHeld' hb3 hb4
  refine zt (i := 6) (v := .bool (decide (co ∈ pthI cs c0))) [] (fun w' hSw => ?_) hHeld ?_
  · clear hHeld hSw
    go_simp
  simp only [Act.put, zl0, zl1, zl2, zl3, zl4, zl5]
  refine wpAnyZ_done (by kernel_rfl) ?_ _
  have HB4 := Lib.hid (below_then HB.out hHeld)
  go_wp2_with fail
  go_ret
  exact ⟨rfl, HB4.out⟩
end Go.Proofs.YtkbbapefgifagaaGreatDoor
/-
tree.Below, the whole.
-/
namespace Go.Proofs.YtkbbapefgifagaaGreatDoor
open Go.RowKit
set_option linter.unusedVariables false
set_option linter.unusedSimpArgs false
/-- The same, and the list is the call's own. -/
def BePostF (w : World) (s : GSite) (co : Int) (e : Ending) (w' : World) : Prop := ∃ a c, e = .returned (.tuple #[.slice a (belowO s co).length c, .int .i64 (errO (okCo s co))]) ∧ Rd 1 encI w' a (belowO s co) ∧ Below w.heap.size w w' ∧ ∀ x, a = some x → w.heap.size ≤ x.block
structure SBox (w W : World) (a1 : Option Addr) (n1 c1 : Nat) (a2 : Option Addr) (n2 c2 : Nat) (a3 : Option Addr) (n3 c3 : Nat) (a4 : Option Addr) (n4 c4 : Nat) (a5 : Option Addr) (n5 c5 : Nat) (co : Int) : Prop where
  k0 : W.cell? ⟨w.heap.size, 0, none⟩ = some (.slice a1 n1 c1)
  k1 : W.cell? ⟨w.heap.size, 1, none⟩ = some (.slice a2 n2 c2)
  k2 : W.cell? ⟨w.heap.size, 2, none⟩ = some (.slice a3 n3 c3)
  k3 : W.cell? ⟨w.heap.size, 3, none⟩ = some (.slice a4 n4 c4)
  k4 : W.cell? ⟨w.heap.size, 4, none⟩ = some (.slice a5 n5 c5)
  kc : W.cell? ⟨w.heap.size + 1, 0, none⟩ = some (.int .i64 co)
theorem SBox.mod {w W W' : World} {a1 : Option Addr} {n1 c1 : Nat} {a2 : Option Addr} {n2 c2 : Nat} {a3 : Option Addr} {n3 c3 : Nat} {a4 : Option Addr} {n4 c4 : Nat} {a5 : Option Addr} {n5 c5 : Nat} {co : Int} (h : SBox w W a1 n1 c1 a2 n2 c2 a3 n3 c3 a4 n4 c4 a5 n5 c5 co) {M : Nat → Prop} (hm : Mod M W W') (h0 : ¬ M w.heap.size) (h1 : ¬ M (w.heap.size + 1)) : SBox w W' a1 n1 c1 a2 n2 c2 a3 n3 c3 a4 n4 c4 a5 n5 c5 co := by
  have l0 := World.block_lt_of_cell? W _ h.k0
  have la := World.block_lt_of_cell? W _ h.kc
  dsimp only at l0 la
  exact ⟨(hm.cell (p := ⟨w.heap.size, 0, none⟩) l0 h0).trans h.k0, (hm.cell (p := ⟨w.heap.size, 1, none⟩) l0 h0).trans h.k1, (hm.cell (p := ⟨w.heap.size, 2, none⟩) l0 h0).trans h.k2, (hm.cell (p := ⟨w.heap.size, 3, none⟩) l0 h0).trans h.k3, (hm.cell (p := ⟨w.heap.size, 4, none⟩) l0 h0).trans h.k4, (hm.cell (p := ⟨w.heap.size + 1, 0, none⟩) la h1).trans h.kc⟩
theorem SBox.keep {w W W' : World} {a1 : Option Addr} {n1 c1 : Nat} {a2 : Option Addr} {n2 c2 : Nat} {a3 : Option Addr} {n3 c3 : Nat} {a4 : Option Addr} {n4 c4 : Nat} {a5 : Option Addr} {n5 c5 : Nat} {co : Int} (h : SBox w W a1 n1 c1 a2 n2 c2 a3 n3 c3 a4 n4 c4 a5 n5 c5 co) (hb : Below W.heap.size W W') : SBox w W' a1 n1 c1 a2 n2 c2 a3 n3 c3 a4 n4 c4 a5 n5 c5 co := by
  have l0 := World.block_lt_of_cell? W _ h.k0
  have la := World.block_lt_of_cell? W _ h.kc
  dsimp only at l0 la
  exact h.mod (Mod.of_below hb) (by omega) (by omega)
set_option maxRecDepth 100000 in
set_option maxHeartbeats 8000000 in
theorem trBelow_fresh (a1 a2 a3 a4 a5 : Option Addr) (n1 c1 n2 c2 n3 c3 n4 c4 n5 c5 : Nat) (s : GSite) (co : Int) (w : World) (HS : Hid (RdSite w a1 a2 a3 a4 a5 n1 n2 n3 n4 n5 s)) :
    Calls Tryz.prog 82 #[.agg #[.slice a1 n1 c1, .slice a2 n2 c2, .slice a3 n3 c3, .slice a4 n4 c4, .slice a5 n5 c5], .int .i64 co] w fun e w' => BePostF w s co e w' := by
  obtain ⟨m1, m2, m3, m4, m5⟩ : n1 ≤ 9223372036854775807 ∧ n2 ≤ 9223372036854775807 ∧ n3 ≤ 9223372036854775807 ∧ n4 ≤ 9223372036854775807 ∧ n5 ≤ 9223372036854775807 := ⟨HS.out.m1, HS.out.m2, HS.out.m3, HS.out.m4, HS.out.m5⟩
  have hW0 : Below w.heap.size w ((w.alloc (.cells #[.slice a1 n1 c1, .slice a2 n2 c2, .slice a3 n3 c3, .slice a4 n4 c4, .slice a5 n5 c5] 39)).alloc (.cells #[.int .i64 co] 3)) := ((Below.refl _ w).alloc (Nat.le_refl _) _).alloc (by simp) _
  have HV := Lib.hid (stValid_any a1 a2 a3 a4 a5 n1 c1 n2 c2 n3 c3 n4 c4 n5 c5 s ((w.alloc (.cells #[.slice a1 n1 c1, .slice a2 n2 c2, .slice a3 n3 c3, .slice a4 n4 c4, .slice a5 n5 c5] 39)).alloc (.cells #[.int .i64 co] 3)) (Lib.hid (HS.out.keep hW0)))
  go_enter Tryz.func82, Tryz.ntmps82
  go_wp2_with fail
  refine HV.out.mono ?_
  rintro e w1 ⟨rfl, hb1⟩
  have hb : Below w.heap.size w w1 := below_then hW0 hb1
  have hs1 : w.heap.size + 2 ≤ w1.heap.size := by have := hb1.size; rw [World.size_alloc, World.size_alloc] at this; exact this
  have hsb : SBox w w1 a1 n1 c1 a2 n2 c2 a3 n3 c3 a4 n4 c4 a5 n5 c5 co := ⟨(hb1.cell (p := ⟨w.heap.size, 0, none⟩) (by simp; omega)).trans (by go_simp), (hb1.cell (p := ⟨w.heap.size, 1, none⟩) (by simp; omega)).trans (by go_simp), (hb1.cell (p := ⟨w.heap.size, 2, none⟩) (by simp; omega)).trans (by go_simp), (hb1.cell (p := ⟨w.heap.size, 3, none⟩) (by simp; omega)).trans (by go_simp), (hb1.cell (p := ⟨w.heap.size, 4, none⟩) (by simp; omega)).trans (by go_simp), (hb1.cell (p := ⟨w.heap.size + 1, 0, none⟩) (by simp)).trans (by go_simp)⟩
  have HSB := Lib.hid hsb
  obtain ⟨q0, q1, q2, q3, q4, qc⟩ := hsb
  have HB := Lib.hid hb
  clear hb hb1 HV hW0
  cases hok : okSB keyL s
  · have HN : Hid (okCo s co = false) := Lib.hid (okCo_no1 hok)
    go_wp2_with fail
    refine bodyPost_ret (results_tmp2 rfl _ _ _) rfl ?_
    exact ⟨none, 0, by rw [HN.out, belowO_no HN.out]; rfl, by rw [belowO_no HN.out]; exact Rd.nil, HB.out, fun x h => by cases h⟩
  by_cases hlo : 0 ≤ co
  case neg =>
    have HN : Hid (okCo s co = false) := Lib.hid (okCo_no2 (fun h => hlo h.1))
    have hlt : co < 0 := by omega
    clear hok hlo
    go_wp2_with fail
    refine bodyPost_ret (results_tmp2 rfl _ _ _) rfl ?_
    exact ⟨none, 0, by rw [HN.out, belowO_no HN.out]; rfl, by rw [belowO_no HN.out]; exact Rd.nil, HB.out, fun x h => by cases h⟩
  have hlt : ¬ co < 0 := by omega
  by_cases hhi : co < (n1 : Int)
  case neg =>
    have HN : Hid (okCo s co = false) := Lib.hid (okCo_no2 (fun h => hhi (by rw [← HS.out.l1]; exact h.2)))
    clear hok hlo
    go_wp2_with fail
    refine bodyPost_ret (results_tmp2 rfl _ _ _) rfl ?_
    exact ⟨none, 0, by rw [HN.out, belowO_no HN.out]; rfl, by rw [belowO_no HN.out]; exact Rd.nil, HB.out, fun x h => by cases h⟩
  have HY : Hid (okCo s co = true) := Lib.hid (okCo_yes hok ⟨hlo, by rw [HS.out.l1]; exact hhi⟩)
  have HOK := Lib.hid (okSB_iff.1 hok)
  have hn16 : n1 ≤ 16 := by have := HOK.out.n2; have := HS.out.l1; omega
  have hn416 : n4 ≤ 16 := by have := HOK.out.n5; have := HS.out.l4; omega
  have HA1 : Hid (∀ a, a1 = some a → a.block < w.heap.size) := Lib.hid (fun a ha => by
    obtain ⟨b', off', hA', hb', _⟩ := HS.out.r1 (by have := HOK.out.n1; omega)
    rw [hA'] at ha
    cases ha
    exact hb')
  clear hok
  go_wp2_with fail
  clear q0 q1 q2 q3 q4 qc
  go_loopg [7, 28] n4 (fun g1 v7 v28 wr => ∃ k : Nat, v28 = .int .i64 k ∧ k ≤ n4 ∧ n4 - k ≤ g1 ∧ Hid (OwnL wr w1.heap.size v7 (belowL s co k)) ∧ Hid (SBox w wr a1 n1 c1 a2 n2 c2 a3 n3 c3 a4 n4 c4 a5 n5 c5 co) ∧ Hid (Below w1.heap.size w1 wr))
  case atStart => exact ⟨0, by go_num, by omega, by omega, Lib.hid (World.ownsRow_nil _ _ _ _), HSB, Lib.hid (Below.refl _ _)⟩
  case round =>
    obtain ⟨k, rfl, hk, hg1, HL, HX, HW⟩ := hrel
    clear HSB
    have hwr := HW.out.size
    by_cases hlt2 : k < n4
    · have hltz : (k : Int) < (n4 : Int) := by omega
      have hk4 : k < s.chgs.length := by rw [HS.out.l4]; exact hlt2
      obtain ⟨b, off, g, hA4, hbl, hgx, d0, d1, d2, d3, d4, d5, d6, d7⟩ := rdChg_at HS.out.r4 hk4
      obtain ⟨p1, p2, p3⟩ := HOK.out.place hgx
      have HP3 := Lib.hid p3
      have hpn : placeOf s k < s.cons.length := by omega
      have hBw := below_then HB.out HW.out
      subst hA4
      have e0 := (hBw.cell (p := ⟨b, off + k * 8, none⟩) hbl).trans d0
      have e1 := (hBw.cell (p := ⟨b, off + k * 8 + 1, none⟩) hbl).trans d1
      have e2 := (hBw.cell (p := ⟨b, off + k * 8 + 2, none⟩) hbl).trans d2
      have e3 := (hBw.cell (p := ⟨b, off + k * 8 + 3, none⟩) hbl).trans d3
      have e4 := (hBw.cell (p := ⟨b, off + k * 8 + 4, none⟩) hbl).trans d4
      have e5 := (hBw.cell (p := ⟨b, off + k * 8 + 5, none⟩) hbl).trans d5
      have e6 := (hBw.cell (p := ⟨b, off + k * 8 + 6, none⟩) hbl).trans d6
      have e7 := (hBw.cell (p := ⟨b, off + k * 8 + 7, none⟩) hbl).trans d7
      have hbW : b < wr.heap.size := by have := hBw.size; omega
      obtain ⟨Wc, hWc⟩ : ∃ Wc, Wc = wr.alloc (.cells #[.string g.name, .int .i64 g.place, .int .i64 g.ph, .int .i64 g.mn, .int .i64 g.mx, .int .i64 g.step, .int .i64 g.fb, .int .i64 g.own] 59) := ⟨_, rfl⟩
      have bc1 : Below wr.heap.size wr Wc := by rw [hWc]; exact (Below.refl _ wr).alloc (Nat.le_refl _) _
      have HXc := HX.out.keep bc1
      have hcl := Lib.hid (trBelow1_any w.heap.size (w.heap.size + 1) a1 a2 a3 (some ⟨b, off, none⟩) a5 n1 c1 n2 c2 n3 c3 n4 c4 n5 c5 s.cons HOK.out.ups (placeOf s k) hpn HS.out.l1 hn16 g.name g.ph g.mn g.mx g.step g.fb g.own co Wc HXc.k0 HXc.k1 HXc.k2 HXc.k3 HXc.k4 HXc.kc (HS.out.r1.keep (below_then hBw bc1)) (fun a ha => by have := HA1.out a ha; have := (below_then hBw bc1).size; omega))
      have HC1 := Lib.hid bc1
      have HWC := Lib.hid hWc
      rw [HP3.out] at hcl
      clear d0 d1 d2 d3 d4 d5 d6 d7 hgx p1 p2 p3 hBw bc1 HXc
      go_wp2_with fail
      rw [← HWC.out]
      refine hcl.out.mono ?_
      rintro e w3 ⟨rfl, hb3⟩
      have hb4 : Below wr.heap.size wr w3 := below_then HC1.out hb3
      have HL3 := Lib.hid (HL.out.keep hb4)
      have HX3 := Lib.hid (HX.out.keep hb4)
      have HW3 := Lib.hid (below_then HW.out hb4)
      have hsz3 : w1.heap.size ≤ w3.heap.size := HW3.out.size
      have hll : (belowL s co k).length ≤ 1000000 := by have := belowL_len s co k; omega
      clear hcl hb3 hb4 HL HX HW HC1 HWC e0 e1 e2 e3 e4 e5 e6 e7
      cases hbk : isBel s co k
      · have hdec : decide (co ∈ pthI s.cons (placeOf s k)) = false := hbk
        have HLK : Hid (OwnL w3 w1.heap.size u7 (belowL s co (k + 1))) := Lib.hid (by rw [belowL_no hbk]; exact HL3.out)
        clear hbk HL3
        go_wp2_with fail
        go_roundg (n4 - (k + 1))
        case measure => omega
        case rel => exact ⟨k + 1, by go_num, by omega, by omega, HLK, HX3, HW3⟩
      · have hdec : decide (co ∈ pthI s.cons (placeOf s k)) = true := hbk
        obtain ⟨ap, v', w4, ap1, ap2, ap3, ap4, ap5⟩ := app_int ((k : Nat) : Int) HL3.out hsz3 hll
        have hbl : Below w1.heap.size w3 w4 := OwnL.below HL3.out ap4 hsz3
        have HLK : Hid (OwnL w4 w1.heap.size v' (belowL s co (k + 1))) := Lib.hid (by rw [belowL_yes hbk]; exact ap3)
        have HX4 := Lib.hid (HX3.out.mod ap4 (fun h => by have := (World.ownsRow.lt HL3.out _ h).1; omega) (fun h => by have := (World.ownsRow.lt HL3.out _ h).1; omega))
        have HW4 := Lib.hid (HW3.out.trans hbl)
        obtain ⟨a', c', hv'⟩ := ap3.shape
        rw [show (belowL s co k ++ [((k : Nat) : Int)]).length = (belowL s co k).length + 1 by simp] at hv'
        clear hbk HL3 ap3 ap4 ap5 hbl HX3 HW3
        subst hv'
        go_wp2_with fail
        go_roundg (n4 - (k + 1))
        case measure => omega
        case rel => exact ⟨k + 1, by go_num, by omega, by omega, HLK, HX4, HW4⟩
    · have hltz : ¬ (k : Int) < (n4 : Int) := by omega
      have hkn : k = n4 := by omega
      subst hkn
      have HLR := Lib.hid HL.out.rd
      have HLF : Hid (∀ a c, u7 = .slice a (belowL s co k).length c → ∀ x, a = some x → w.heap.size ≤ x.block) := Lib.hid (fun a c hv x hx => by
        have h1 := HL.out.2
        have hz := HB.out.size
        rcases h1 with h | ⟨g, cap, cur, h, hb, _⟩
        · rw [hv, hx] at h
          cases h.1
        · rw [hv, hx] at h
          injection h with h
          injection h with h
          rw [h]
          exact Nat.le_trans hz hb)
      go_wp2_with fail
      refine bodyPost_ret (results_tmp2 rfl _ _ _) rfl ?_
      obtain ⟨a, c, hv, hr⟩ := HLR.out
      have hcl : s.chgs.length = k := HS.out.l4
      refine ⟨a, c, ?_, ?_, below_then HB.out HW.out, HLF.out a c hv⟩
      · rw [HY.out, belowO_yes HY.out, hcl, ← hv]
        rfl
      · rw [belowO_yes HY.out, hcl]
        exact hr
end Go.Proofs.YtkbbapefgifagaaGreatDoor
