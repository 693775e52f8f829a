/-
plan.CheckCut, walked.
-/
import Derived.Test.YtgfcnkfmgpakkaaCPlanD0
import Derived.Test.YtgfcnkfmgpakkaaCPlanF
import Derived.Test.YtgfcnkfmgpakkaaCPlanI
import Derived.Test.YtgfcnkfmgpakkaaCFlowL
namespace Go.Proofs.Ytgfcnkfmgpakkaa
open Go.RowKit Go.Shelf
set_option linter.unusedVariables false
set_option maxRecDepth 100000 in
set_option maxHeartbeats 8000000 in
theorem plCheckCut_any (A A2 A3 A4 : Option Addr) (c N c2 T c3 N3 c4 N4 : Nat) (js : List GJob) (sup cj cs : List Int) (w : World) (hR : Rd 5 encJ w A js) (HN : Hid (js.length = N)) (hl : N ≤ 9223372036854775807) (hR2 : Rd 1 encI w A2 sup) (HN2 : Hid (sup.length = T)) (hl2 : T ≤ 9223372036854775807)
    (hR3 : Rd 1 encI w A3 cj) (HN3 : Hid (cj.length = N3)) (hl3 : N3 ≤ 9223372036854775807) (hR4 : Rd 1 encI w A4 cs) (HN4 : Hid (cs.length = N4)) (hl4 : N4 ≤ 9223372036854775807) :
    Calls Try.prog 34 #[.slice A N c, .slice A2 T c2, .agg #[.slice A3 N3 c3, .slice A4 N4 c4]] w fun e w' => e = .returned (.bool (cutPB js sup cj cs)) ∧ Below w.heap.size w w' := by
  refine (callsIn_wide (n := 5)).1 ?_
  refine callsIn_of_wp_marks Try.func34 rfl trivial ?_ rfl
  refine wpIn_wide.2 ?_
  simp only [Try.ntmps34, List.size_toArray, List.length_cons, List.length_nil, Nat.reduceAdd, Nat.reduceSub, Array.replicate_succ, Array.replicate_zero, List.push_toArray, List.append_toArray, List.nil_append, List.cons_append]
  have a1 : Below w.heap.size w ((w.alloc (.cells #[.slice A N c] 22)).alloc (.cells #[.slice A3 N3 c3, .slice A4 N4 c4] 30)) := ((Below.refl _ w).alloc (Nat.le_refl _) _).alloc (by simp) _
  go_wp2_with fail
  refine (plValid_any A A2 c N c2 T js sup _ (hR.keep a1) HN hl (hR2.keep a1) HN2 hl2).mono ?_
  rintro e w1 ⟨rfl, hb1⟩
  have k0 : w1.cell? ⟨w.heap.size, 0, none⟩ = some (.slice A N c) := (hb1.cell (p := ⟨w.heap.size, 0, none⟩) (by simp; omega)).trans (by go_simp)
  have k1 : w1.cell? ⟨w.heap.size + 1, 0, none⟩ = some (.slice A3 N3 c3) := (hb1.cell (p := ⟨w.heap.size + 1, 0, none⟩) (by simp)).trans (by go_simp)
  have k2 : w1.cell? ⟨w.heap.size + 1, 1, none⟩ = some (.slice A4 N4 c4) := (hb1.cell (p := ⟨w.heap.size + 1, 1, none⟩) (by simp)).trans (by go_simp)
  have b1 : Below w.heap.size w w1 := below_then a1 hb1
  clear hb1 a1
  cases hok : okP js sup
  · have HC : Hid (cutPB js sup cj cs = false) := Lib.hid (by unfold cutPB; rw [hok]; rfl)
    go_wp2_with fail
    refine leaves_marks (B := w.heap.size) [] _ (Marks.nil _ _) (fun W3 hT => ⟨.bool false, results_tmp (t := 6) (by kernel_rfl) _ _ _, ?_, ?_⟩)
    · rw [HC.out]
    · exact b1.trans (taken_below hT (Nat.le_refl _))
  · obtain ⟨⟨t1, t2⟩, _, _⟩ := okP_iff.1 hok
    rw [HN.out] at t1
    rw [HN2.out] at t2
    have HOK := Lib.hid hok
    have l1 := World.block_lt_of_cell? w1 _ k1
    dsimp only at l1
    go_wp2_with fail
    refine (plMarks_one A3 c3 N3 N cj w1 (hR3.keep b1) HN3 hl3 (by omega)).mono ?_
    rintro e w2 ⟨vm, rfl, hb2, ⟨a7, l7, c7, rfl⟩, hm⟩
    have k02 := (hb2.cell (p := ⟨w.heap.size, 0, none⟩) (by dsimp only; omega)).trans k0
    have k12 := (hb2.cell (p := ⟨w.heap.size + 1, 0, none⟩) l1).trans k1
    have k22 := (hb2.cell (p := ⟨w.heap.size + 1, 1, none⟩) l1).trans k2
    have b2 : Below w.heap.size w w2 := below_then b1 hb2
    have l2 : w.heap.size + 1 < w2.heap.size := World.block_lt_of_cell? w2 _ k12
    clear k0 k1 k2 hb2 b1 l1 hm
    go_wp2_with fail
    refine (plMarks_one A4 c4 N4 T cs w2 (hR4.keep b2) HN4 hl4 (by omega)).mono ?_
    rintro e w3 ⟨vm2, rfl, hb3, hsh, hm2⟩
    have k03 := (hb3.cell (p := ⟨w.heap.size, 0, none⟩) (by dsimp only; omega)).trans k02
    have k13 := (hb3.cell (p := ⟨w.heap.size + 1, 0, none⟩) l2).trans k12
    have k23 := (hb3.cell (p := ⟨w.heap.size + 1, 1, none⟩) l2).trans k22
    have b3 : Below w.heap.size w w3 := below_then b2 hb3
    have l3 : w.heap.size + 1 < w3.heap.size := World.block_lt_of_cell? w3 _ k13
    have hgs : w2.heap.size ≤ w3.heap.size := hb3.size
    have Hm2 := Lib.hid hm2
    clear k02 k12 k22 hb3 hm2
    have hcut : marksB cj N = true ∧ marksB cs T = true ∨ (marksB cj N = false ∨ marksB cj N = true ∧ marksB cs T = false) := by
      cases marksB cj N <;> cases marksB cs T <;> simp
    rcases hcut with ⟨g1, g2⟩ | hbad
    · obtain ⟨gi, rfl, own9, hg9⟩ := Hm2.out g2
      clear hsh Hm2
      rw [g1, g2]
      have HG1 : Hid (goodTo cj N cj.length) := Lib.hid (marksB_iff.1 g1)
      have HG2 : Hid (goodTo cs T cs.length) := Lib.hid (marksB_iff.1 g2)
      have HC : Hid (cutPB js sup cj cs = decide (roomC js sup (inL cj) (inL cs) < needC js (inL cj))) := Lib.hid (by unfold cutPB; rw [HOK.out, HN.out, HN2.out, g1, g2]; simp)
      have CM0 : Hid (CCm w ((w3.alloc (.cells #[.slice (some ⟨gi, 0, none⟩) T T] 75)).alloc (.cells #[.int .i64 0] 3)) A A3 A4 c N c3 N3 c4 N4 T w3.heap.size (w3.heap.size + 1) gi cs 0) := by
        refine Lib.hid ⟨?_, ?_, ?_, ?_, ?_, ?_, ?_, ?_, ?_⟩
        · exact (((Below.refl _ w3).alloc (Nat.le_refl _) _).alloc (by simp) _).cell (p := ⟨w.heap.size, 0, none⟩) (by dsimp only; omega) |>.trans k03
        · exact (((Below.refl _ w3).alloc (Nat.le_refl _) _).alloc (by simp) _).cell (p := ⟨w.heap.size + 1, 0, none⟩) l3 |>.trans k13
        · exact (((Below.refl _ w3).alloc (Nat.le_refl _) _).alloc (by simp) _).cell (p := ⟨w.heap.size + 1, 1, none⟩) l3 |>.trans k23
        · go_simp
        · exact Own.newAt _ _ _ _ (by simp) rfl (one_cellI _)
        · exact (own9.alloc _).alloc _
        · exact (b3.alloc b3.size _).alloc (Nat.le_trans b3.size (by simp)) _
        · have := own9.lt; omega
        · omega
      clear g1 g2 own9 k03 k13 k23 b3 hgs l3 hg9
      go_upto_region 8 with (fail)
      obtain ⟨bi, hbi⟩ : ∃ bi, bi = w3.heap.size := ⟨_, rfl⟩
      rw [← hbi] at CM0 ⊢
      clear hbi
      refine wp_world (fun W => CCm w W A A3 A4 c N c3 N3 c4 N4 T bi (bi + 1) gi cs 0) CM0.out ?_
      intro W0 M0
      clear CM0
      have q2 := M0.k2
      have HM0 := Lib.hid M0
      clear M0
      go_wp2
      have HRS := Lib.hid (And.intro hR (And.intro hR2 (And.intro hR3 hR4)))
      clear hR hR2 hR3 hR4 l2 b2
      have hsup := fun (t : Nat) (h : t < T) => okP_sup HOK.out (t := t) (by rw [HN2.out]; exact h)
      have HSUP := Lib.hid hsup
      clear hsup
      go_loopg [47] N4 (fun g1 v47 wr => ∃ k : Nat, v47 = .int .i64 k ∧ k ≤ N4 ∧ N4 - k ≤ g1 ∧ Hid (CCm w wr A A3 A4 c N c3 N3 c4 N4 T bi (bi + 1) gi cs (S k (fun i => fAt sup (fAt cs i).toNat))))
      case atStart => exact ⟨0, by go_num, by omega, by omega, HM0⟩
      case round =>
        clear HM0 q2
        obtain ⟨k, rfl, hk, hg1, HM⟩ := hrel
        have hk4 : k ≤ cs.length := by rw [HN4.out]; exact hk
        have hn4 : cs.length ≤ 24 := by
          have := good_len HG2.out
          omega
        have bk : 0 ≤ S k (fun i => fAt sup (fAt cs i).toNat) ∧ S k (fun i => fAt sup (fAt cs i).toNat) ≤ 24000 := by
          have h1 := S_nonneg (n := k) (g := fun i => fAt sup (fAt cs i).toNat) (fun i hi => by
            have := good_ge HG2.out (i := i) (by omega)
            exact (HSUP.out _ (by omega)).1)
          have h2 := S_bound (n := k) (g := fun i => fAt sup (fAt cs i).toNat) (c := 1000) (fun i hi => by
            have := good_ge HG2.out (i := i) (by omega)
            exact (HSUP.out _ (by omega)).2)
          omega
        by_cases hlt : k < N4
        · have hltz : (k : Int) < (N4 : Int) := by omega
          obtain ⟨b4, o4, hA4, hbl4, hc4⟩ := (HRS.out.2.2.2.keep HM.out.bel).int (k := k) (by rw [HN4.out]; exact hlt)
          have hgd := good_ge HG2.out (i := k) (by rw [HN4.out]; exact hlt)
          obtain ⟨d, hd⟩ : ∃ d : Nat, fAt cs k = d := ⟨(fAt cs k).toNat, by omega⟩
          have hdT : d < T := by omega
          have hdz : (d : Int) < (T : Int) := by omega
          have hc4' : wr.cell? ⟨b4, o4 + k, none⟩ = some (.int .i64 d) := by rw [hc4]; exact congrArg (fun x => some (Value.int .i64 x)) hd
          obtain ⟨b2, o2, hA2, hbl2, hc2⟩ := (HRS.out.2.1.keep HM.out.bel).int (k := d) (by rw [HN2.out]; exact hdT)
          have hc2' : wr.cell? ⟨b2, o2 + d, none⟩ = some (.int .i64 (fAt sup d)) := hc2
          have hsd := HSUP.out d hdT
          have Hs : Hid (S (k + 1) (fun i => fAt sup (fAt cs i).toNat) = S k (fun i => fAt sup (fAt cs i).toNat) + fAt sup d) := Lib.hid (by rw [S_succ, hd]; rfl)
          have rc := HM.out.ro.cell (i := 0) (by omega)
          have rf := HM.out.ro.frozen 0
          have rl := HM.out.ro.lt
          have HM2 := Lib.hid (fun o => HM.out.set (S k (fun i => fAt sup (fAt cs i).toNat) + fAt sup d) o)
          subst hA4 hA2
          clear hc4 hc2 hgd hd HM
          generalize S k (fun i => fAt sup (fAt cs i).toNat) = room at *
          generalize fAt sup d = sd at *
          go_upto_region 11 with (fail)
          refine wp_normal (fun K hK => ?_)
          refine cc11 wr (bi + 1) b2 o2 d T c2 room sd K hdz (by omega) (by omega) rl hbl2 rc rf hc2' _ _ _ _ _ _ _ _ _ _ _ _ _ _ _ _ _ _ _ _ _ _ _ _ _ _ _ _ _ _ _ _ _ _ _ _ _ _ _ _ _ _ _ _ _ _ _ _ _ _ _ _ _ _ _ _ _ _ _ _ _ _ _ _ _ _ _ _ _ _ _ _ _ _ _ _ _ _ _ _ _ _ _ _ _ _ _ _ _ _ _ _ _ _ ?_
          refine Lib.hid ?_
          intro v51 v52 v53 v54 v55 v56 v57
          refine hK _ _ ?_
          clear hK K
          have HM3 := Lib.hid (HM2.out (.cells #[.int .i64 room, .int .i64 sd] 3))
          clear HM2
          go_step
          go_wp2
          go_roundg (N4 - (k + 1))
          case measure => omega
          case rel => exact ⟨k + 1, by go_num, by omega, by omega, by rw [Hs.out]; exact HM3⟩
        · have hltz : ¬ (k : Int) < (N4 : Int) := by omega
          have hkN : k = cs.length := by rw [HN4.out]; omega
          subst hkN
          obtain ⟨R1, hR1⟩ : ∃ R1, R1 = S cs.length (fun i => fAt sup (fAt cs i).toNat) := ⟨_, rfl⟩
          rw [← hR1] at HM bk
          have HR1 := Lib.hid hR1
          have q1 := HM.out.k1
          clear hR1 hk hg1 hk4
          go_wp2
          have hws : w.heap.size ≤ wr.heap.size := HM.out.bel.size
          refine wp_loop (CInv w A A2 A3 A4 c N c2 T c3 N3 c4 N4 bi gi wr.heap.size js cj cs R1) (CMu N3) ?_ ?_
          · exact ⟨0, 0, [], _, _, _, _, _, _, _, _, _, _, _, _, _, _, _, _, _, _, _, _, _, _, _, _, _, _, _, _, _, _, _, _, _, _, _, _, _, _, _, _, _, _, _, _, _, _, _, _, _, _, _, _, _, _, _, _, _, _, _, _, _, _, _, _, _, _, _, _, _, _, _, _, _, _, _, _, _, _, _, _, _, _, _, _, _, _, _, by omega, rfl, by simpa [S] using HM.out, Marks.nil _ _, Nat.le_refl _, rfl⟩
          · rintro a W ⟨k, need, ds, u2, u4, u6, u7, u8, u10, u13, u14, u15, u16, u17, u18, u19, u20, u21, u22, u23, u24, u25, u26, u27, u28, u29, u30, u31, u32, u33, u34, u35, u36, u37, u38, u39, u40, u41, u42, u43, u44, u45, u46, u47, u48, u49, u50, u51, u52, u53, u54, u55, u56, u57, u58, u59, u63, u64, u65, u66, u67, u68, u69, u70, u71, u72, u73, u74, u75, u76, u77, u78, u79, u80, u81, u82, u83, u84, u85, u86, u87, u88, u89, u90, u91, u92, u93, u94, u95, u96, hk, hneed, m, hmk, hBW, rfl⟩
            by_cases hlt : k < N3
            · exact cc_some w W A A2 A3 A4 c N c2 T c3 N3 c4 N4 bi gi wr.heap.size k js sup cj cs need R1 ds _ (Lib.hid HRS.out.1) HN HOK HN2 (Lib.hid HRS.out.2.2.1) HN3 HG1 (by omega) hlt hneed m hmk hws hBW _ _ _ _ _ _ _ _ _ _ _ _ _ _ _ _ _ _ _ _ _ _ _ _ _ _ _ _ _ _ _ _ _ _ _ _ _ _ _ _ _ _ _ _ _ _ _ _ _ _ _ _ _ _ _ _ _ _ _ _ _ _ _ _ _ _ _ _ _ _ _ _ _ _ _ _ _ _ _ _ _ _ _ _ _ _ _
            · have hltz : ¬ (k : Int) < (N3 : Int) := by omega
              have hkN : k = cj.length := by rw [HN3.out]; omega
              have rc := m.ro.cell (i := 0) (by omega)
              have hG1' : goodTo cj js.length cj.length := by rw [HN.out]; exact HG1.out
              have hG2' : goodTo cs sup.length cs.length := by rw [HN2.out]; exact HG2.out
              have e1 := cut_need hG1'
              have e2 := cut_room hG1' hG2'
              rw [← hkN, ← hneed] at e1
              rw [← HR1.out, ← hkN, HN2.out] at e2
              have Hb := Lib.hid m.bel
              have HV : Hid (cutPB js sup cj cs = decide (R1 + S k (fun i => freeJ js T (inL cs) (fAt cj i).toNat) < need)) := Lib.hid (by rw [HC.out, e2, e1])
              clear m e1 e2 hG1' hG2' hneed hkN hlt
              generalize R1 + S k (fun i => freeJ js T (inL cs) (fAt cj i).toNat) = rm at *
              go_wp2_with fail
              refine leaves_marks (B := wr.heap.size) ds _ hmk (fun W3 hT => ⟨.bool (decide (rm < need)), results_tmp (t := 6) (by kernel_rfl) _ _ _, ?_, ?_⟩)
              · rw [HV.out]
              · exact Hb.out.trans (taken_below hT hws)
    · obtain ⟨a9, l9, c9, rfl⟩ := hsh
      have HC : Hid (cutPB js sup cj cs = false) := Lib.hid (by
        unfold cutPB
        rw [HN.out, HN2.out]
        rcases hbad with h | ⟨_, h⟩ <;> rw [h] <;> simp)
      rcases hbad with h | ⟨h, h'⟩
      · rw [h]
        go_wp2_with fail
        refine leaves_marks (B := w.heap.size) [] _ (Marks.nil _ _) (fun W3 hT => ⟨.bool false, results_tmp (t := 6) (by kernel_rfl) _ _ _, ?_, ?_⟩)
        · rw [HC.out]
        · exact (b3.alloc b3.size _).trans (taken_below hT (Nat.le_refl _))
      · rw [h, h']
        go_wp2_with fail
        refine leaves_marks (B := w.heap.size) [] _ (Marks.nil _ _) (fun W3 hT => ⟨.bool false, results_tmp (t := 6) (by kernel_rfl) _ _ _, ?_, ?_⟩)
        · rw [HC.out]
        · exact (b3.alloc b3.size _).trans (taken_below hT (Nat.le_refl _))
end Go.Proofs.Ytgfcnkfmgpakkaa
