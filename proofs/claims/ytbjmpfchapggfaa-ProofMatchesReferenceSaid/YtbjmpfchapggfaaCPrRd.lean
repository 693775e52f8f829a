/-
The reference's Smallest.
-/
import Derived.Test.YtbjmpfchapggfaaCPrRd0
namespace Go.Proofs.Ytbjmpfchapggfaa
open Go.RowKit
set_option linter.unusedVariables false
set_option linter.unusedSimpArgs false
theorem sm_sum {f : Nat → Int} (v : Nat → Int) {L : Int} {k vk : Nat} (h : v k = (vk : Int)) {z : Int} (hk : preS f v k < L) (hz : z = min (f vk) (L - preS f v k)) : preS f v k + z = min (preS f v (k + 1)) L := by
  rw [preS_succ, h, Int.toNat_natCast, hz]
  omega
theorem bestF_q {s : GSite} {t c p i : Nat} {f o : Nat → Int} (hc : c = t / 3) (hp : p = t % 3) {q : Bool} (hq : q = (decide (o i = 0) && (decide (0 < f i) && (onB s i c p && (decide (bestF (candF s t f o) f i < 0) || decide (f (bestF (candF s t f o) f i).toNat < f i)))))) : bestF (candF s t f o) f (i + 1) = if q = true then (i : Int) else bestF (candF s t f o) f i := by
  subst hc hp
  have e0 : bestF (candF s t f o) f (i + 1) = if candF s t f o i = true ∧ (bestF (candF s t f o) f i < 0 ∨ f (bestF (candF s t f o) f i).toNat < f i) then (i : Int) else bestF (candF s t f o) f i := rfl
  rw [e0]
  generalize bestF (candF s t f o) f i = b at *
  have e : (candF s t f o i = true ∧ (b < 0 ∨ f b.toNat < f i)) ↔ q = true := by
    rw [hq]
    unfold candF
    simp only [Bool.and_eq_true, Bool.or_eq_true, decide_eq_true_eq, and_assoc]
  by_cases h : q = true
  · rw [if_pos h, if_pos (e.2 h)]
  · rw [if_neg h, if_neg (fun x => h (e.1 x))]
/-- What Smallest returns. -/
def SmPost (w : World) (s : GSite) (xs : List Int) (t nA : Nat) (v : Nat → Int) (e : Ending) (w' : World) : Prop := ∃ g, e = .returned (.slice (some ⟨g, 0, none⟩) nA nA) ∧ Own w' g 3 nA (fun i => .int .i64 (outW (fI xs) v (limAt s (t / 3) + 1) (lenW s t) i)) ∧ w.heap.size ≤ g ∧ Below w.heap.size w w'
set_option maxRecDepth 100000 in
set_option maxHeartbeats 16000000 in
theorem r10Small_any (a1 a2 a3 a4 a5 : Option Addr) (n1 c1 n2 c2 n3 c3 n4 c4 n5 c5 : Nat) (aA : Option Addr) (nA cA : Nat) (s : GSite) (xs : List Int) (t : Nat) (v : Nat → Int) (w : World) (HS : Hid (RdSite w a1 a2 a3 a4 a5 n1 n2 n3 n4 n5 s)) (HX : Hid (Rd 1 encI w aA xs)) (HNA : Hid (xs.length = nA)) (HLB : Hid (loadB s xs = true)) (HT : Hid (t / 3 < s.cons.length)) (HSO : Hid (Sorts (keyW xs) 0 (lenW s t) (fI (memL s t)) v)) (HOV : Hid (limAt s (t / 3) < loadS s (fI xs) s.chgs.length t)) :
    Calls Try.prog 28 #[.agg #[.slice a1 n1 c1, .slice a2 n2 c2, .slice a3 n3 c3, .slice a4 n4 c4, .slice a5 n5 c5], .slice aA nA cA, .int .i64 ((t / 3 : Nat) : Int), .int .i64 ((t % 3 : Nat) : Int)] w (SmPost w s xs t nA v) := by
  obtain ⟨W0, hW0⟩ : ∃ W0, W0 = w.alloc (.cells #[.slice a1 n1 c1, .slice a2 n2 c2, .slice a3 n3 c3, .slice a4 n4 c4, .slice a5 n5 c5] 28) := ⟨_, rfl⟩
  have hm0 : LwM w W0 w.heap.size a1 n1 c1 a2 n2 c2 a3 n3 c3 a4 n4 c4 a5 n5 c5 s := by
    rw [hW0]
    exact LwM.box (c1 := c1) (c2 := c2) (c3 := c3) (c4 := c4) (c5 := c5) HS.out
  have HW0 := Lib.hid hW0
  have HM := Lib.hid hm0
  have HOKB : Hid (okSB keyL s = true) := Lib.hid (by
    have h := HLB.out
    unfold loadB at h
    rw [Bool.and_eq_true] at h
    exact h.1)
  have HOK := Lib.hid (okSB_iff.1 HOKB.out)
  have HCU := Lib.hid (cur_bd HLB.out)
  have HF : Hid (∀ c, 0 ≤ fI xs c ∧ fI xs c ≤ 80) := Lib.hid (fun c => fI_all (curB_iff.1 (by have h := HLB.out; unfold loadB at h; rw [Bool.and_eq_true] at h; exact h.2)).2 c)
  have hcl : s.cons.length = n1 := HS.out.l1
  have hn16 : n1 ≤ 16 := by have := HOK.out.n2; omega
  have hn416 : n4 ≤ 16 := by have h1 := HOK.out.n5; have h2 := HS.out.l4; omega
  have hnA4 : n4 = nA := by have h1 := HCU.out.1; have h2 := HNA.out; have h3 := HS.out.l4; omega
  have HCL := Lib.hid hcl
  have HL4 : Hid (s.chgs.length = n4) := Lib.hid HS.out.l4
  have HLIM := Lib.hid (limAt_bd HOK.out (t / 3))
  have HP3 : Hid (t % 3 < 3) := Lib.hid (by omega)
  subst hnA4
  clear hW0 hm0 hcl
  obtain ⟨c, hc⟩ : ∃ c, c = t / 3 := ⟨_, rfl⟩
  obtain ⟨p, hp⟩ : ∃ p, p = t % 3 := ⟨_, rfl⟩
  rw [← hc, ← hp]
  have HC := Lib.hid hc
  have HP := Lib.hid hp
  have hlp : p < 3 := by omega
  clear hc hp
  obtain ⟨W1, hmk, ho1, b1, hz1⟩ := mk_intsW n4 (by omega) W0
  obtain ⟨k0, k1, k2, k3, k4⟩ : W0.cell? ⟨w.heap.size, 0, none⟩ = some (.slice a1 n1 c1) ∧ W0.cell? ⟨w.heap.size, 1, none⟩ = some (.slice a2 n2 c2) ∧ W0.cell? ⟨w.heap.size, 2, none⟩ = some (.slice a3 n3 c3) ∧ W0.cell? ⟨w.heap.size, 3, none⟩ = some (.slice a4 n4 c4) ∧ W0.cell? ⟨w.heap.size, 4, none⟩ = some (.slice a5 n5 c5) := ⟨HM.out.k0, HM.out.k1, HM.out.k2, HM.out.k3, HM.out.k4⟩
  rw [HW0.out] at hmk
  have HB1 := Lib.hid b1
  have HO1 := Lib.hid ho1
  have HZ1 := Lib.hid hz1
  clear b1 ho1 hz1
  go_enter Try.func28, Try.ntmps28
  go_upto_region 2 with (fail)
  clear k0 k1 k2 k3 k4 hmk
  have HM := Lib.hid (HM.out.keep HB1.out)
  have HGZ : Hid (W0.heap.size = w.heap.size + 1) := Lib.hid (by rw [HW0.out]; simp)
  obtain ⟨X, hX⟩ : ∃ X, X = w.heap.size := ⟨_, rfl⟩
  rw [HGZ.out] at HO1
  obtain ⟨go, hgo⟩ : ∃ go, go = w.heap.size + 1 := ⟨_, rfl⟩
  rw [← hgo] at HO1 ⊢
  rw [← hX] at HM hgo ⊢
  have HGZ := Lib.hid hgo
  have HSZ : Hid (w.heap.size = X) := Lib.hid hX.symm
  have HO : Hid (Own W1 go 3 n4 (fun i => .int .i64 (outW (fI xs) v (limAt s (t / 3) + 1) 0 i))) := Lib.hid (HO1.out.congr (fun i _ => rfl))
  clear hX hgo HB1 HO1 HZ1 HW0
  obtain ⟨k0, k1, k2, k3, k4⟩ : W1.cell? ⟨X, 0, none⟩ = some (.slice a1 n1 c1) ∧ W1.cell? ⟨X, 1, none⟩ = some (.slice a2 n2 c2) ∧ W1.cell? ⟨X, 2, none⟩ = some (.slice a3 n3 c3) ∧ W1.cell? ⟨X, 3, none⟩ = some (.slice a4 n4 c4) ∧ W1.cell? ⟨X, 4, none⟩ = some (.slice a5 n5 c5) := ⟨HM.out.k0, HM.out.k1, HM.out.k2, HM.out.k3, HM.out.k4⟩
  go_wp2_with fail
  refine (r9Limit_any a1 a2 a3 a4 a5 n1 c1 n2 c2 n3 c3 n4 c4 n5 c5 s (c : Int) W1 (Lib.hid HM.out.rs)).mono ?_
  rintro e w3 ⟨rfl, hb⟩
  rw [okCo_c HOKB.out (by rw [HC.out]; exact HT.out)]
  generalize errO (okCo s (c : Int)) = ev
  have HM := Lib.hid (HM.out.keep hb)
  have HO := Lib.hid (HO.out.keep hb HO.out.lt)
  clear hb k0 k1 k2 k3 k4
  obtain ⟨lim, hlim⟩ : ∃ lim, lim = limAt s c := ⟨_, rfl⟩
  rw [← hlim]
  rw [← HC.out] at HO HLIM HOV HT
  rw [← hlim] at HO HLIM HOV
  have HLQ := Lib.hid hlim
  clear hlim
  go_wp2_with fail
  go_loopg [12] n4 (fun g1 v12 wr => ∃ k : Nat, v12 = .int .i64 (min (preS (fI xs) v k) (lim + 1)) ∧ k ≤ lenW s t ∧ lenW s t - k ≤ g1 ∧ Hid (LwM w wr X a1 n1 c1 a2 n2 c2 a3 n3 c3 a4 n4 c4 a5 n5 c5 s) ∧ Hid (Own wr go 3 n4 (fun i => .int .i64 (outW (fI xs) v (lim + 1) k i))))
  case atStart =>
    refine ⟨0, ?_, by omega, ?_, HM, HO⟩
    · have h := HLIM.out
      show (Value.int .i64 0) = .int .i64 (min 0 (lim + 1))
      congr 1
      omega
    · have h := memL_len s t
      have h2 := HL4.out
      unfold lenW
      omega
  case round =>
    clear HM HO
    obtain ⟨k, rfl, hk, hg1, HM, HO⟩ := hrel
    by_cases hlt : preS (fI xs) v k < lim + 1
    · obtain ⟨hkl, hpos, hbest⟩ := best_next HSO.out (fun i => (HF.out i).1) hlt (by have := HOV.out; omega) hk
      have HVB := Lib.hid ((sorts_diff HSO.out).bd k hkl)
      obtain ⟨vk, hvk⟩ : ∃ vk : Nat, v k = (vk : Int) := ⟨(v k).toNat, by have := HVB.out.1; omega⟩
      have HVK := Lib.hid hvk
      rw [hvk] at hbest
      rw [hvk, Int.toNat_natCast] at hpos
      have hvk4 : vk < n4 := by have h1 := HVB.out.2; have h2 := HL4.out; omega
      have HBEST := Lib.hid hbest
      have hon := out_next HSO.out (fun i => (HF.out i).1) hlt hkl
      rw [hvk, Int.toNat_natCast] at hon
      have HON := Lib.hid hon
      have HPN := Lib.hid (preS_nonneg (f := fI xs) (fun i => (HF.out i).1) v k)
      have hmin : min (preS (fI xs) v k) (lim + 1) = preS (fI xs) v k := by omega
      rw [hmin]
      have HLT := Lib.hid hlt
      have HSUM := Lib.hid (fun z hz => sm_sum (f := fI xs) v (L := lim + 1) (k := k) HVK.out (z := z) HLT.out hz)
      obtain ⟨s0, hs0⟩ : ∃ s0, s0 = preS (fI xs) v k := ⟨_, rfl⟩
      rw [← hs0] at HPN HON HSUM hlt ⊢
      have hls : s0 ≤ lim := by omega
      clear hbest hvk hmin hs0 hon
      go_wp2_with fail
      go_loopg [13, 14] n4 (fun g2 v13 v14 wr => ∃ i : Nat, v14 = .int .i64 i ∧ i ≤ n4 ∧ n4 - i ≤ g2 ∧ v13 = .int .i64 (bestF (candF s t (fI xs) (outW (fI xs) v (lim + 1) k)) (fI xs) i) ∧ Hid (LwM w wr X a1 n1 c1 a2 n2 c2 a3 n3 c3 a4 n4 c4 a5 n5 c5 s) ∧ Hid (Own wr go 3 n4 (fun i => .int .i64 (outW (fI xs) v (lim + 1) k i))))
      case atStart => exact ⟨0, by go_num, by omega, by omega, rfl, HM, HO⟩
      case round =>
        clear HM HO
        obtain ⟨i, rfl, hi, hg2, rfl, HM, HO⟩ := hrel
        by_cases hli : i < n4
        · have hliz : (i : Int) < (n4 : Int) := by omega
          obtain ⟨b, off, g, hA4, hbl, hgx, d0, d1, d2, d3, d4, d5, d6, d7⟩ := rdChg_at HM.out.rs.r4 (k := i) (by rw [HL4.out]; exact hli)
          obtain ⟨p1, p2, p3⟩ := HOK.out.place hgx
          have hch := HOK.out.chg g (List.mem_of_getElem? hgx)
          have HPH : Hid (phOf s i = g.ph ∧ 1 ≤ g.ph ∧ g.ph ≤ 7) := Lib.hid (by
            unfold okChg at hch
            simp only [decide_eq_true_eq] at hch
            exact ⟨by unfold phOf; rw [hgx]; rfl, hch.2.2.1⟩)
          have HPL : Hid (placeOf s i < s.cons.length ∧ ((placeOf s i : Nat) : Int) = g.place) := Lib.hid ⟨by omega, p3⟩
          obtain ⟨k0, k1, k2, k3, k4⟩ : wr.cell? ⟨X, 0, none⟩ = some (.slice a1 n1 c1) ∧ wr.cell? ⟨X, 1, none⟩ = some (.slice a2 n2 c2) ∧ wr.cell? ⟨X, 2, none⟩ = some (.slice a3 n3 c3) ∧ wr.cell? ⟨X, 3, none⟩ = some (.slice a4 n4 c4) ∧ wr.cell? ⟨X, 4, none⟩ = some (.slice a5 n5 c5) := ⟨HM.out.k0, HM.out.k1, HM.out.k2, HM.out.k3, HM.out.k4⟩
          subst hA4
          clear p1 p2 p3 hch hgx
          go_wp2_with fail
          obtain ⟨w4, hw4⟩ : ∃ w4, w4 = wr.alloc (.cells #[.string g.name, .int .i64 g.place, .int .i64 g.ph, .int .i64 g.mn, .int .i64 g.mx, .int .i64 g.step, .int .i64 g.fb, .int .i64 g.own] 72) := ⟨_, rfl⟩
          have hb4 : Below wr.heap.size wr w4 := by rw [hw4]; exact (Below.refl _ _).alloc (Nat.le_refl _) _
          have e0 : w4.cell? ⟨wr.heap.size, 0, none⟩ = some (.string g.name) := by rw [hw4]; go_simp
          have e1 : w4.cell? ⟨wr.heap.size, 1, none⟩ = some (.int .i64 g.place) := by rw [hw4]; go_simp
          have e2 : w4.cell? ⟨wr.heap.size, 2, none⟩ = some (.int .i64 g.ph) := by rw [hw4]; go_simp
          have e3 : w4.cell? ⟨wr.heap.size, 3, none⟩ = some (.int .i64 g.mn) := by rw [hw4]; go_simp
          have e4 : w4.cell? ⟨wr.heap.size, 4, none⟩ = some (.int .i64 g.mx) := by rw [hw4]; go_simp
          have e5 : w4.cell? ⟨wr.heap.size, 5, none⟩ = some (.int .i64 g.step) := by rw [hw4]; go_simp
          have e6 : w4.cell? ⟨wr.heap.size, 6, none⟩ = some (.int .i64 g.fb) := by rw [hw4]; go_simp
          have e7 : w4.cell? ⟨wr.heap.size, 7, none⟩ = some (.int .i64 g.own) := by rw [hw4]; go_simp
          rw [← hw4]
          clear hw4 k0 k1 k2 k3 k4 d0 d1 d2 d3 d4 d5 d6 d7
          have HM := Lib.hid (HM.out.keep hb4)
          have HO := Lib.hid (HO.out.keep hb4 HO.out.lt)
          clear hb4
          obtain ⟨B, hB⟩ : ∃ B, B = wr.heap.size := ⟨_, rfl⟩
          rw [← hB] at e0 e1 e2 e3 e4 e5 e6 e7 ⊢
          clear hB
          obtain ⟨k0, k1, k2, k3, k4⟩ : w4.cell? ⟨X, 0, none⟩ = some (.slice a1 n1 c1) ∧ w4.cell? ⟨X, 1, none⟩ = some (.slice a2 n2 c2) ∧ w4.cell? ⟨X, 2, none⟩ = some (.slice a3 n3 c3) ∧ w4.cell? ⟨X, 3, none⟩ = some (.slice (some ⟨b, off, none⟩) n4 c4) ∧ w4.cell? ⟨X, 4, none⟩ = some (.slice a5 n5 c5) := ⟨HM.out.k0, HM.out.k1, HM.out.k2, HM.out.k3, HM.out.k4⟩
          have lX := World.block_lt_of_cell? w4 _ k0
          have lB := World.block_lt_of_cell? w4 _ e0
          have lgo := HO.out.lt
          have ho := HO.out.cell (i := i) hli
          obtain ⟨ba, oa, hAA, lba, hax0⟩ := (HX.out.keep HM.out.bel).int (k := i) (by rw [HNA.out]; exact hli)
          have hax : w4.cell? ⟨ba, oa + i, none⟩ = some (.int .i64 (fI xs i)) := hax0
          have HBE : Hid (∀ m : Nat, bestF (candF s t (fI xs) (outW (fI xs) v (lim + 1) k)) (fI xs) i = (m : Int) → m < n4 ∧ w4.cell? ⟨ba, oa + m, none⟩ = some (.int .i64 (fI xs m))) := Lib.hid (fun m hm => by
            have h1 := (bestF_bd (candF s t (fI xs) (outW (fI xs) v (lim + 1) k)) (fI xs) i).2
            have h2 : m < n4 := by omega
            obtain ⟨ba2, oa2, hAA2, lba2, hax2⟩ := (HX.out.keep HM.out.bel).int (k := m) (by rw [HNA.out]; exact h2)
            rw [hAA] at hAA2
            injection hAA2 with hAA2
            injection hAA2 with f1 f2
            subst f1 f2
            exact ⟨h2, hax2⟩)
          have HRR : Hid (Rd 11 encCon w4 a1 s.cons) := Lib.hid HM.out.rs.r1
          have HUU := Lib.hid HOK.out.ups
          have HNN : Hid (s.cons.length = n1 ∧ n1 ≤ 16) := Lib.hid ⟨HCL.out, hn16⟩
          obtain ⟨q, hq⟩ : ∃ q, q = (decide (outW (fI xs) v (lim + 1) k i = 0) && (decide (0 < fI xs i) && (onB s i c p && (decide (bestF (candF s t (fI xs) (outW (fI xs) v (lim + 1) k)) (fI xs) i < 0) || decide (fI xs (bestF (candF s t (fI xs) (outW (fI xs) v (lim + 1) k)) (fI xs) i).toNat < fI xs i))))) := ⟨_, rfl⟩
          have HBQ := Lib.hid (bestF_q HC.out HP.out hq)
          have HQ := Lib.hid hq
          subst hAA
          clear hax0 hq
          refine wp_normal (fun K hK => ?_)
          refine smReg_ok w4 X B go ba oa a1 a2 a3 (some ⟨b, off, none⟩) a5 n1 c1 n2 c2 n3 c3 n4 c4 n5 c5 cA c p i _ _ (fI xs i) (fI xs) g s q K lX lB lgo lba k0 k1 k2 k3 k4 e0 e1 e2 e3 e4 e5 e6 e7 ho hax HBE HRR HUU HPL HPH HNN hlp hli hliz hn416 HQ _ _ _ _ _ _ _ _ _ _ _ _ _ _ _ _ _ _ _ _ _ _ _ _ _ _ _ _ _ _ _ _ _ _ _ _ _ _ _ _ _ _ _ _ _ _ _ _ _ _ _ _ _ _ _ _ _ _ _ _ _ _ _ _ _ _ _ _ _ _ _ _ _ _ _ _ _ _ _ _ _ _ _ _ _ _ _ _ _ _ _ _ _ ?_
          refine Lib.hid ?_
          intro w5 v39 v40 v41 v42 v43 v44 v45 v46 v47 v48 v49 v50 v51 v52 v53 v54 v55 v56 v57 v58 v59 v60 v61 v62 v63 v64 v65 v66 v67 v68 v69 v70 v71 v72 v73 v74 v75 v76 hb5
          refine hK _ _ ?_
          have HM := Lib.hid (HM.out.keep hb5)
          have HO := Lib.hid (HO.out.keep hb5 HO.out.lt)
          clear hK K hb5 HBE HRR HUU HPL HPH HNN HQ lX lB lgo lba k0 k1 k2 k3 k4 e0 e1 e2 e3 e4 e5 e6 e7 ho hax
          cases q
          · rw [if_neg (by decide)] at HBQ
            have HB2 := Lib.hid HBQ.out.symm
            clear HBQ
            go_step
            go_wp2_with fail
            go_roundg (n4 - (i + 1))
            case measure => omega
            case rel => exact ⟨i + 1, by go_num, by omega, by omega, by rw [HB2.out], HM, HO⟩
          · rw [if_pos rfl] at HBQ
            have HB2 := Lib.hid HBQ.out.symm
            clear HBQ
            go_step
            go_wp2_with fail
            go_roundg (n4 - (i + 1))
            case measure => omega
            case rel => exact ⟨i + 1, by go_num, by omega, by omega, by rw [HB2.out], HM, HO⟩
        · have hliz : ¬ (i : Int) < (n4 : Int) := by omega
          have hin : i = n4 := by omega
          have hbe : bestF (candF s t (fI xs) (outW (fI xs) v (lim + 1) k)) (fI xs) i = (vk : Int) := by rw [hin, ← HL4.out]; exact HBEST.out
          rw [hbe]
          clear hbe hin
          have hvz : (vk : Int) < (n4 : Int) := by omega
          have hvn : ¬ (vk : Int) < 0 := by omega
          obtain ⟨ba, oa, hAA, hba, hax0⟩ := (HX.out.keep HM.out.bel).int (k := vk) (by rw [HNA.out]; exact hvk4)
          have hax : wr.cell? ⟨ba, oa + vk, none⟩ = some (.int .i64 (fI xs vk)) := hax0
          have o0 := HO.out.cell (i := vk) hvk4
          have of := HO.out.frozen vk
          have HSet := Lib.hid (fun u => HO.out.set vk u)
          have HMS := Lib.hid (fun u => (Mod.refl (fun j => j = go) wr).setCell (p := ⟨go, vk, none⟩) (.inl rfl) u)
          have hol := HO.out.lt
          have hfy := HF.out vk
          have hlm := HLIM.out
          have hpn := HPN.out
          obtain ⟨y, hy⟩ : ∃ y, y = fI xs vk := ⟨_, rfl⟩
          rw [← hy] at hax hfy HSUM HON hpos
          have w1' : IntKind.i64.wrap (lim + 1) = lim + 1 := IntWalk.i64_in _ (by omega)
          have w2' : IntKind.i64.wrap (lim + 1 - s0) = lim + 1 - s0 := IntWalk.i64_in _ (by omega)
          have w3' : IntKind.i64.wrap (s0 + y) = s0 + y := IntWalk.i64_in _ (by omega)
          have w4' : IntKind.i64.wrap (s0 + (lim + 1 - s0)) = s0 + (lim + 1 - s0) := IntWalk.i64_in _ (by omega)
          subst hAA
          clear hax0 hy
          generalize outW (fI xs) v (lim + 1) k vk = ov at o0
          go_wp2_with fail
          all_goals
            go_roundg (lenW s t - (k + 1))
            case measure => omega
            case rel =>
              refine ⟨k + 1, ?_, by omega, by omega, Lib.hid ?_, Lib.hid ?_⟩
              · refine congrArg (Value.int .i64) (HSUM.out _ ?_)
                omega
              · exact HM.out.mod HS.out (HMS.out _) (by have h1 := HGZ.out; omega) (fun j hj => by have h1 := HGZ.out; have h2 := HSZ.out; omega)
              · refine (HSet.out (.int .i64 _)).congr (fun j hj => ?_)
                rw [HON.out j]
                by_cases e : j = vk
                · rw [if_pos e, if_pos e]
                  first
                    | rfl
                    | (refine congrArg (Value.int .i64) ?_; omega)
                · rw [if_neg e, if_neg e]
    · have hms : min (preS (fI xs) v k) (lim + 1) = lim + 1 := by omega
      rw [hms]
      have hlz : ¬ lim + 1 ≤ lim := by omega
      have HD := Lib.hid (fun i => outW_done (f := fI xs) (fun i => (HF.out i).1) (v := v) (L := lim + 1) (k := k) (by omega) i (lenW s t) hk)
      go_wp2_with fail
      go_ret
      refine ⟨go, rfl, ?_, by have h1 := HGZ.out; have h2 := HSZ.out; omega, HM.out.bel⟩
      refine HO.out.congr (fun i hi => ?_)
      rw [← HC.out, ← HLQ.out, HD.out i]
end Go.Proofs.Ytbjmpfchapggfaa
