/-
Two controllers: steps.Share.
-/
import Derived.Test.YtkbbapefgifagaaGreatDoorCTwX4
namespace Go.Proofs.YtkbbapefgifagaaGreatDoor
open Go.RowKit
set_option linter.unusedVariables false
set_option linter.unusedSimpArgs false
theorem sumN_congr {f g : Nat → Int} : ∀ {n : Nat}, (∀ i, i < n → f i = g i) → sumN f n = sumN g n
  | 0, _ => rfl
  | n + 1, h => by unfold sumN; rw [sumN_congr (fun i hi => h i (by omega)), h n (by omega)]
theorem sumN_one {f g : Nat → Int} {k : Nat} (h : ∀ i, i ≠ k → g i = f i) : ∀ {n : Nat}, k < n → sumN g n = sumN f n + (g k - f k)
  | 0, hk => by omega
  | n + 1, hk => by
    unfold sumN
    by_cases e : k = n
    · subst e
      rw [sumN_congr (f := g) (g := f) (fun i hi => h i (by omega))]
      omega
    · rw [sumN_one h (by omega), h n (by omega)]
      omega
theorem sumN_le {f g : Nat → Int} : ∀ {n : Nat}, (∀ i, i < n → f i ≤ g i) → sumN f n ≤ sumN g n
  | 0, _ => by simp [sumN]
  | n + 1, h => by
    have h1 := sumN_le (f := f) (g := g) (n := n) (fun i hi => h i (by omega))
    have h2 := h n (by omega)
    unfold sumN
    omega
/-- What holds between two risings. -/
structure ShI (al mo : Nat → Int) (n : Nat) (cap lvl s : Int) (lv : Nat → Int) : Prop where
  lo : ∀ i, i < n → 0 ≤ lv i
  le : ∀ i, i < n → lv i ≤ lvl
  mo : ∀ i, i < n → lv i ≤ levV (mo i)
  sum : s = sumN (fun i => max (al i) (ampV (lv i))) n
  cap : s ≤ max cap (sumN al n)
theorem ShI.start {al mo : Nat → Int} {n : Nat} {cap : Int} (ha : ∀ i, i < n → 0 ≤ al i ∧ al i ≤ 80) (hm : ∀ i, i < n → 0 ≤ mo i ∧ mo i ≤ 80) : ShI al mo n cap 0 (sumN al n) (fun _ => 0) :=
  ⟨fun _ _ => by omega, fun _ _ => by omega, fun i hi => (levV_le (hm i hi).1).1, sumN_congr (fun i hi => by have := ha i hi; simp [ampV]; omega), by omega⟩
theorem ShI.mono {al mo : Nat → Int} {n : Nat} {cap lvl lvl' s : Int} {lv : Nat → Int} (h : ShI al mo n cap lvl s lv) (hl : lvl ≤ lvl') : ShI al mo n cap lvl' s lv :=
  ⟨h.lo, fun i hi => Int.le_trans (h.le i hi) hl, h.mo, h.sum, h.cap⟩
theorem ShI.rise {al mo : Nat → Int} {n : Nat} {cap lvl s : Int} {lv : Nat → Int} (h : ShI al mo n cap lvl s lv) {k : Nat} (hk : k < n) (hl : lv k + 1 ≤ lvl) (hm : lv k + 1 ≤ levV (mo k)) (hc : s + (max (al k) (ampV (lv k + 1)) - max (al k) (ampV (lv k))) ≤ cap) :
    ShI al mo n cap lvl (s + (max (al k) (ampV (lv k + 1)) - max (al k) (ampV (lv k)))) (setF lv k (lv k + 1)) := by
  refine ⟨fun i hi => ?_, fun i hi => ?_, fun i hi => ?_, ?_, by omega⟩
  · unfold setF; split
    · have := h.lo k hk; omega
    · exact h.lo i hi
  · unfold setF; split
    · omega
    · exact h.le i hi
  · unfold setF; split
    · rename_i e; rw [e]; exact hm
    · exact h.mo i hi
  · rw [sumN_one (f := fun i => max (al i) (ampV (lv i))) (k := k) (fun i hi => by simp only [setF, if_neg hi]) hk, ← h.sum]
    simp only [setF, if_pos]
theorem ShI.bd {al mo : Nat → Int} {n : Nat} {cap lvl s : Int} {lv : Nat → Int} (h : ShI al mo n cap lvl s lv) (hn : n ≤ 4) (ha : ∀ i, i < n → 0 ≤ al i ∧ al i ≤ 80) (hm : ∀ i, i < n → 0 ≤ mo i ∧ mo i ≤ 80) : 0 ≤ s ∧ s ≤ 1000 := by
  have h1 := sumN_bd (f := fun i => max (al i) (ampV (lv i))) (n := n) (fun i hi => by
    have h1 := ha i hi
    have h2 := ampV_le (h.lo i hi) (h.mo i hi) (hm i hi).1
    constructor <;> omega) n (Nat.le_refl _)
  rw [← h.sum] at h1
  omega
/-- A site of a controller: all chargers in one row. -/
structure ParkS (s : GSite) (n : Nat) (cap : Int) : Prop where
  ok : okSB keyL s = true
  rows : rowsO s = [⟨cap, (List.range n).map (fun (i : Nat) => (i : Int))⟩]
  chg : ∀ x ∈ s.chgs, x.place = 0 ∧ x.ph = 1 ∧ x.mn = 6 ∧ x.mx = 32 ∧ x.step = 2 ∧ x.fb = 0 ∧ x.own = 0
  n0 : 0 < n
  n4 : n ≤ 4
def nmF (s : GSite) (i : Nat) : ByteArray := ((s.chgs[i]?).map (·.name)).getD ByteArray.empty
theorem rd_cells {w : World} {b o n : Nat} {f : Nat → Int} (h : ∀ i, i < n → w.cell? ⟨b, o + i, none⟩ = some (.int .i64 (f i))) : Rd 1 encI w (some ⟨b, o, none⟩) ((List.range n).map f) := by
  intro h0
  have hn : 0 < n := by simpa using h0
  refine ⟨b, o, rfl, zb (h 0 hn), fun k x hx j v hv => ?_⟩
  have hk : k < n := by have := (List.getElem?_eq_some_iff.1 hx).1; simpa using this
  have hx' : f k = x := by simpa [hk] using hx
  have hj : j = 0 := by have := (List.getElem?_eq_some_iff.1 hv).1; simp [encI] at this; exact this
  subst hj
  simp only [encI, List.getElem?_cons_zero, Option.some.injEq] at hv
  subst hv hx'
  simpa using h k hk
theorem range_in {n : Nat} {f : Nat → Int} {P : Int → Prop} (h : ∀ i, i < n → P (f i)) : ∀ x ∈ (List.range n).map f, P x := by
  intro x hx
  obtain ⟨i, hi, rfl⟩ := List.mem_map.1 hx
  exact h i (List.mem_range.1 hi)
theorem range_nodup {n : Nat} {f : Nat → Int} (h : ∀ i j, i < j → j < n → f i ≠ f j) : ((List.range n).map f).Nodup := by
  unfold List.Nodup
  rw [List.pairwise_iff_getElem]
  intro i j hi hj hij
  simp only [List.getElem_map, List.getElem_range]
  exact h i j hij (by simpa using hj)
theorem park_cells {w : World} {bC oC n : Nat} {s : GSite} {cap : Int} (hr : Rd 8 encChg w (some ⟨bC, oC, none⟩) s.chgs) (hl : s.chgs.length = n) (hp : ParkS s n cap) {i : Nat} (hi : i < n) :
    w.cell? ⟨bC, oC + i * 8, none⟩ = some (.string (nmF s i)) ∧ w.cell? ⟨bC, oC + i * 8 + 1, none⟩ = some (.int .i64 0) ∧ w.cell? ⟨bC, oC + i * 8 + 2, none⟩ = some (.int .i64 1) ∧ w.cell? ⟨bC, oC + i * 8 + 3, none⟩ = some (.int .i64 6) ∧ w.cell? ⟨bC, oC + i * 8 + 4, none⟩ = some (.int .i64 32) ∧ w.cell? ⟨bC, oC + i * 8 + 5, none⟩ = some (.int .i64 2) ∧ w.cell? ⟨bC, oC + i * 8 + 6, none⟩ = some (.int .i64 0) ∧ w.cell? ⟨bC, oC + i * 8 + 7, none⟩ = some (.int .i64 0) := by
  obtain ⟨b, off, c, hA, hlt, hx, q0, q1, q2, q3, q4, q5, q6, q7⟩ := rdChg_at hr (k := i) (by omega)
  injection hA with hA
  injection hA with h1 h2
  subst h1 h2
  obtain ⟨p1, p2, p3, p4, p5, p6, p7⟩ := hp.chg c (List.mem_of_getElem? hx)
  rw [p1] at q1
  rw [p2] at q2
  rw [p3] at q3
  rw [p4] at q4
  rw [p5] at q5
  rw [p6] at q6
  rw [p7] at q7
  refine ⟨?_, q1, q2, q3, q4, q5, q6, q7⟩
  unfold nmF
  rw [hx]
  exact q0
theorem trlF_at {a1 : Option Addr} {n1 c1 : Nat} {a2 : Option Addr} {n2 c2 : Nat} {a3 : Option Addr} {n3 c3 : Nat} {a4 : Option Addr} {n4 c4 : Nat} {a5 : Option Addr} {n5 c5 : Nat} {rw al : Value} {S L n u k : Nat} {O cO : Nat → Nat} (i : Nat) (h : i < 16 ∧ i < k) : trlF a1 n1 c1 a2 n2 c2 a3 n3 c3 a4 n4 c4 a5 n5 c5 rw al S L n u k O cO (6 + i) = .slice (some ⟨O i, 0, none⟩) 1 (cO i) := by
  unfold trlF
  rw [if_neg (by omega), if_neg (by omega), if_neg (by omega), if_neg (by omega), if_neg (by omega), if_neg (by omega), if_pos (by omega), if_pos (by omega)]
  rw [show 6 + i - 6 = i by omega]
theorem rows_one {W : World} {a : Option Addr} {hs : List RowH} {cap : Int} {n : Nat} (h : RdRows W a hs [⟨cap, (List.range n).map (fun (i : Nat) => (i : Int))⟩]) (hn : 0 < n) :
    ∃ bR oR bM oM cM, a = some ⟨bR, oR, none⟩ ∧ W.cell? ⟨bR, oR, none⟩ = some (.int .i64 cap) ∧ W.cell? ⟨bR, oR + 1, none⟩ = some (.slice (some ⟨bM, oM, none⟩) n cM) ∧ Hid (∀ i, i < n → W.cell? ⟨bM, oM + i, none⟩ = some (.int .i64 (i : Nat))) := by
  obtain ⟨h1, h2, h3⟩ := h
  obtain ⟨b, off, x, hA, hlt, hx, hc⟩ := h1.at_ (k := 0) (by rw [h2]; simp)
  obtain ⟨m1, m2, m3⟩ := h3 0 x _ hx rfl
  have c0 := hc 0 _ rfl
  have c1 := hc 1 _ rfl
  obtain ⟨bM, oM, y, hA2, hlt2, hx2, hc2⟩ := m3.at_ (k := 0) (by simpa using hn)
  refine ⟨b, off, bM, oM, x.2.2.2, hA, ?_, ?_, Lib.hid (fun i hi => ?_)⟩
  · have m1' : x.1 = cap := m1
    rw [← m1']; simpa using c0
  · rw [← hA2]
    have : x.2.2.1 = n := by simpa using m2
    rw [← this]; simpa using c1
  · obtain ⟨bM', oM', z, hA3, hlt3, hx3, hc3⟩ := m3.at_ (k := i) (by simpa using hi)
    rw [hA2] at hA3
    injection hA3 with hA3
    injection hA3 with e1 e2
    subst e1 e2
    have hz : z = (i : Int) := by simpa [hi] using hx3.symm
    have := hc3 0 _ rfl
    rw [hz] at this
    simpa using this
/-- What Share does. -/
def SrPost (n : Nat) (al mo : Nat → Int) (cap : Int) (w : World) (e : Ending) (w' : World) : Prop :=
  ∃ (G : Nat) (v : Nat → Int), e = .returned (.tuple #[.slice (some ⟨G, 0, none⟩) n n, .int .i64 0]) ∧ w.heap.size ≤ G ∧ Own w' G 3 n (fun i => .int .i64 (v i)) ∧ (∀ i, i < n → 0 ≤ v i ∧ v i ≤ mo i ∧ v i ≤ 32) ∧ sumN (fun i => max (al i) (v i)) n ≤ max cap (sumN al n) ∧ Below w.heap.size w w'
set_option maxRecDepth 100000 in
set_option maxHeartbeats 16000000 in
theorem spShare_ok (a1 a2 a3 a5 : Option Addr) (n1 c1 n2 c2 n3 c3 c4 n5 c5 bC oC bA oA cA bQ oQ cQ bD oD cD n : Nat) (s : GSite) (cap : Int) (al mo od : Nat → Int) (w : World) (HS : Hid (RdSite w a1 a2 a3 (some ⟨bC, oC, none⟩) a5 n1 n2 n3 n n5 s)) (HP : Hid (ParkS s n cap))
    (HA : Hid (∀ i, i < n → w.cell? ⟨bA, oA + i, none⟩ = some (.int .i64 (al i)))) (HQ : Hid (∀ i, i < n → w.cell? ⟨bQ, oQ + i, none⟩ = some (.int .i64 (mo i)))) (HD : Hid (∀ i, i < n → w.cell? ⟨bD, oD + i, none⟩ = some (.int .i64 (od i))))
    (HAB : Hid (∀ i, i < n → 0 ≤ al i ∧ al i ≤ 80)) (HQB : Hid (∀ i, i < n → 0 ≤ mo i ∧ mo i ≤ 80)) (HDB : Hid (∀ i, i < n → 0 ≤ od i ∧ od i < (n : Nat))) (HDI : Hid (∀ i j, i < j → j < n → od i ≠ od j)) :
    Calls Tryz.prog 67 #[.agg #[.slice a1 n1 c1, .slice a2 n2 c2, .slice a3 n3 c3, .slice (some ⟨bC, oC, none⟩) n c4, .slice a5 n5 c5], .slice (some ⟨bA, oA, none⟩) n cA, .slice (some ⟨bQ, oQ, none⟩) n cQ, .slice (some ⟨bD, oD, none⟩) n cD] w (SrPost n al mo cap w) := by
  have hn0 : 0 < n := HP.out.n0
  have hn4 : n ≤ 4 := HP.out.n4
  obtain ⟨W0, hW0⟩ : ∃ W, W = w.alloc (.cells #[.slice a1 n1 c1, .slice a2 n2 c2, .slice a3 n3 c3, .slice (some ⟨bC, oC, none⟩) n c4, .slice a5 n5 c5] 39) := ⟨_, rfl⟩
  obtain ⟨B, hB⟩ : ∃ B, B = w.heap.size := ⟨_, rfl⟩
  have hb0 : Below w.heap.size w W0 := by rw [hW0]; exact (Below.refl _ _).alloc (Nat.le_refl _) _
  obtain ⟨k0, k1, k2, k3, k4⟩ : W0.cell? ⟨B, 0, none⟩ = some (.slice a1 n1 c1) ∧ W0.cell? ⟨B, 1, none⟩ = some (.slice a2 n2 c2) ∧ W0.cell? ⟨B, 2, none⟩ = some (.slice a3 n3 c3) ∧ W0.cell? ⟨B, 3, none⟩ = some (.slice (some ⟨bC, oC, none⟩) n c4) ∧ W0.cell? ⟨B, 4, none⟩ = some (.slice a5 n5 c5) := by rw [hW0, hB]; exact ⟨by go_simp, by go_simp, by go_simp, by go_simp, by go_simp⟩
  have HR := Lib.hid (limRows_any a1 a2 a3 (some ⟨bC, oC, none⟩) a5 n1 c1 n2 c2 n3 c3 n c4 n5 c5 s W0 (Lib.hid (HS.out.keep hb0)))
  have hlB0 : B < W0.heap.size := World.block_lt_of_cell? W0 _ k0
  have HB := Lib.hid hb0
  have HW0 := Lib.hid (And.intro hW0.symm hB.symm)
  clear hb0 hW0 hB
  go_enter Tryz.func67, Tryz.ntmps67
  go_wp2
  go_step3
  go_upto_region 1 with (fail)
  try simp only [World.size_alloc]
  rw [HW0.out.1, HW0.out.2]
  go_wp2_with fail
  refine HR.out.mono ?_
  rintro e W1 ⟨aR, cR, hs, rfl, hrr, hb1⟩
  have hk3 : W1.cell? ⟨B, 3, none⟩ = some (.slice (some ⟨bC, oC, none⟩) n c4) := (hb1.cell hlB0).trans k3
  obtain ⟨q0, q1, q2, q4⟩ : W1.cell? ⟨B, 0, none⟩ = some (.slice a1 n1 c1) ∧ W1.cell? ⟨B, 1, none⟩ = some (.slice a2 n2 c2) ∧ W1.cell? ⟨B, 2, none⟩ = some (.slice a3 n3 c3) ∧ W1.cell? ⟨B, 4, none⟩ = some (.slice a5 n5 c5) := ⟨(hb1.cell hlB0).trans k0, (hb1.cell hlB0).trans k1, (hb1.cell hlB0).trans k2, (hb1.cell hlB0).trans k4⟩
  have HW1 := Lib.hid (below_then HB.out hb1)
  have hlB1 : B < W1.heap.size := World.block_lt_of_cell? W1 _ hk3
  clear k0 k1 k2 k3 k4 hlB0 HR HB hb1
  rw [HP.out.rows] at hrr
  have hok : (rowsO s).length = 1 := by rw [HP.out.rows]; rfl
  have her : errO (okSB keyL s) = 0 := by rw [HP.out.ok]; rfl
  rw [hok, her]
  have HRR := Lib.hid hrr
  clear hok her hrr
  obtain ⟨bR, oR, bM, oM, cM, hA, r0, r1, HMM⟩ := rows_one HRR.out hn0
  subst hA
  have HR01 := Lib.hid (And.intro r0 r1)
  clear r0 r1 HRR
  go_wp2_with fail
  refine (spEvery_in _ n _ ((List.range n).map al) _ (Lib.hid (rd_cells (fun i hi => ((HW1.out).cell (zb (HA.out i hi))).trans (HA.out i hi)))) (Lib.hid (by simp)) (by omega) (Lib.hid (range_in HAB.out))).mono ?_
  rintro e W2 ⟨rfl, hb2⟩
  have HW2 := Lib.hid (below_then HW1.out hb2)
  have HBX := Lib.hid hb2
  clear hb2
  go_wp2_with fail
  refine (spEvery_in _ n _ ((List.range n).map mo) _ (Lib.hid (rd_cells (fun i hi => ((HW2.out).cell (zb (HQ.out i hi))).trans (HQ.out i hi)))) (Lib.hid (by simp)) (by omega) (Lib.hid (range_in HQB.out))).mono ?_
  rintro e W3 ⟨rfl, hb2⟩
  have HW3 := Lib.hid (below_then HW2.out hb2)
  have HBX := Lib.hid (below_then HBX.out hb2)
  clear hb2
  go_wp2_with fail
  refine (spIsOrder_ok _ n _ ((List.range n).map od) _ (Lib.hid (rd_cells (fun i hi => ((HW3.out).cell (zb (HD.out i hi))).trans (HD.out i hi)))) (Lib.hid (by simp)) (by omega) (Lib.hid (range_in HDB.out)) (Lib.hid (range_nodup HDI.out))).mono ?_
  rintro e W4 ⟨rfl, hb2⟩
  have HW4 := Lib.hid (below_then HW3.out hb2)
  have HBX := Lib.hid (below_then HBX.out hb2)
  have p0 := (HBX.out.cell (p := ⟨B, 0, none⟩) hlB1).trans q0
  have p1 := (HBX.out.cell (p := ⟨B, 1, none⟩) hlB1).trans q1
  have p2 := (HBX.out.cell (p := ⟨B, 2, none⟩) hlB1).trans q2
  have p3 := (HBX.out.cell (p := ⟨B, 3, none⟩) hlB1).trans hk3
  have p4 := (HBX.out.cell (p := ⟨B, 4, none⟩) hlB1).trans q4
  have hlB4 : B < W4.heap.size := zb p0
  have HR4 := Lib.hid (And.intro ((HBX.out.cell (zb HR01.out.1)).trans HR01.out.1) ((HBX.out.cell (zb HR01.out.2)).trans HR01.out.2))
  have HM4 := Lib.hid (fun i (hi : i < n) => (HBX.out.cell (zb (HMM.out i hi))).trans (HMM.out i hi))
  clear hb2 q0 q1 q2 hk3 q4 hlB1 HW1 HW2 HW3 HBX HR01 HMM
  go_wp2_with fail
  refine (spNew_ok a1 n1 c1 a2 n2 c2 a3 n3 c3 (some ⟨bC, oC, none⟩) n c4 a5 n5 c5 bR oR cR bA oA cA bM oM cM n 1 cap al W4 (Lib.hid rfl) (Lib.hid HR4.out.1) (Lib.hid HR4.out.2) (Lib.hid HM4.out) (Lib.hid (fun i hi => ((HW4.out).cell (zb (HA.out i hi))).trans (HA.out i hi))) HAB hn0 (by omega)).mono ?_
  rintro e W5 ⟨T, S, L, O, cO, rfl, hT, hS, hL, hO, hne, hb5⟩
  have HRC : Hid (∀ i, i < n → RiC T S L (O i) i n bC oC c4 bR oR cR (cO i) bA oA cA (nmF s i) (al i) cap W5) := Lib.hid (fun i hi => by
    have hrd := (HS.out.r4.keep HW4.out).keep hb5
    obtain ⟨g0, g1, g2, g3, g4, g5, g6, g7⟩ := park_cells hrd HS.out.l4 HP.out hi
    exact ⟨hT.cell (i := 3) (by omega), hT.cell (i := 5) (by omega), (hT.cell (i := 6 + i) (by omega)).trans (congrArg some (trlF_at i (by omega))), hT.cell (i := 22) (by omega), hT.cell (i := 23) (by omega), hT.cell (i := 24) (by omega), g0, g1, g2, g3, g4, g5, g6, g7, (hb5.cell (zb HR4.out.1)).trans HR4.out.1, (hO i hi).1, ((below_then HW4.out hb5).cell (zb (HA.out i hi))).trans (HA.out i hi)⟩)
  have HNE : Hid (∀ i, i < n → ((T ≠ S ∧ T ≠ L) ∧ (bC ≠ S ∧ bC ≠ L) ∧ (bR ≠ S ∧ bR ≠ L) ∧ (O i ≠ S ∧ O i ≠ L) ∧ (bA ≠ S ∧ bA ≠ L) ∧ S ≠ L)) := Lib.hid (fun i hi => by
    have h1 := hO i hi
    have h2 := zb HR4.out.1
    have h3 := zb (HA.out i hi)
    have h4 := zb (park_cells HS.out.r4 HS.out.l4 HP.out hi).1
    have h5 := HW4.out.size
    dsimp only at h2 h3 h4
    refine ⟨⟨hne.2.2.2.1, hne.2.2.2.2.1⟩, ⟨?_, ?_⟩, ⟨?_, ?_⟩, ⟨h1.2.2.1, h1.2.2.2.1⟩, ⟨?_, ?_⟩, hne.2.2.2.2.2⟩ <;> omega)
  have HSL := Lib.hid (And.intro hne.2.1 (And.intro hne.2.2.1 hne.2.2.2.2.2))
  have HSL4 : Hid (w.heap.size ≤ S ∧ w.heap.size ≤ L) := Lib.hid ⟨Nat.le_trans HW4.out.size hne.2.1, Nat.le_trans HW4.out.size hne.2.2.1⟩
  have hB5 : W5.cell? ⟨B, 3, none⟩ = some (.slice (some ⟨bC, oC, none⟩) n c4) := (hb5.cell hlB4).trans p3
  have HB5 := Lib.hid (And.intro hB5 (show B ≠ S ∧ B ≠ L from ⟨by omega, by omega⟩))
  have HW5 := Lib.hid (below_then HW4.out hb5)
  have HST := Lib.hid hS
  have HLT : Hid (Own W5 L 3 n (lvF (fun _ => 0))) := Lib.hid hL
  have HST5 := Lib.hid hL.lt
  clear hT hS hL hO hne hb5 hlB4 p0 p1 p2 p3 p4 HR4 HM4 HW4 hB5
  go_wp2
  go_step3
  go_wp2_with fail
  go_loopg [15] 20 (fun g1 v15 wr => ∃ (lvl : Nat) (ss : Int) (lv : Nat → Int), v15 = .int .i64 lvl ∧ 1 ≤ lvl ∧ lvl ≤ 15 ∧ 16 - lvl ≤ g1 ∧ Hid (ShI al mo n cap ((lvl : Int) - 1) ss lv) ∧ Hid (Own wr S 3 1 (fun _ => .int .i64 ss)) ∧ Hid (Own wr L 3 n (lvF lv)) ∧ Hid (Mod (fun j => j = S ∨ j = L) W5 wr))
  case atStart => exact ⟨1, sumN al n, fun _ => 0, by go_num, by omega, by omega, by omega, Lib.hid (ShI.start HAB.out HQB.out), HST, HLT, Lib.hid (Mod.refl _ _)⟩
  case round =>
    obtain ⟨lvl, ss0, lv0, rfl, hlv1, hlv2, hg1, HI0, HSr0, HLr0, HMr0⟩ := hrel
    have HI1 : Hid (ShI al mo n cap (lvl : Int) ss0 lv0) := Lib.hid (HI0.out.mono (by omega))
    obtain ⟨lm, hlm⟩ : ∃ lm, lm = (lvl : Int) - 1 := ⟨_, rfl⟩
    have wlm : IntKind.i64.wrap ((lvl : Int) - 1) = lm := by rw [IntWalk.i64_in _ (by omega)]; exact hlm.symm
    have HLM := Lib.hid hlm
    clear hlm
    go_wp2_with fail
    go_loopg [68, 16] (n + 1) (fun g2 v68 v16 wr => ∃ (k : Nat) (b : Bool) (ss : Int) (lv : Nat → Int), v68 = .int .i64 k ∧ v16 = .bool b ∧ k ≤ n ∧ n - k ≤ g2 ∧ Hid (b = true → lvl ≤ 14) ∧ Hid (ShI al mo n cap (lvl : Int) ss lv) ∧ Hid (Own wr S 3 1 (fun _ => .int .i64 ss)) ∧ Hid (Own wr L 3 n (lvF lv)) ∧ Hid (Mod (fun j => j = S ∨ j = L) W5 wr))
    case atStart => exact ⟨0, false, ss0, lv0, by go_num, rfl, by omega, by omega, Lib.hid (fun h => by cases h), HI1, HSr0, HLr0, HMr0⟩
    case round =>
      clear HI0 HI1 HSr0 HLr0 HMr0
      obtain ⟨k, b, ss, lv, rfl, rfl, hk, hg2, HBT, HI, HSr, HLr, HMr⟩ := hrel
      by_cases hkn : k < n
      · have hkz : (k : Int) < (n : Int) := by omega
        have HBr := Lib.hid (HW5.out.trans (HMr.out.below (B := w.heap.size) HW5.out.size (fun j hj hm => by have := HSL4.out; rcases hm with rfl | rfl <;> omega)))
        obtain ⟨hod0, hod1⟩ := HDB.out k hkn
        have d0 := (HBr.out.cell (zb (HD.out k hkn))).trans (HD.out k hkn)
        obtain ⟨i, hi⟩ : ∃ i : Nat, od k = (i : Int) := ⟨(od k).toNat, by omega⟩
        rw [hi] at d0 hod1
        have hin : i < n := by omega
        clear hod0 hi
        have lD : bD < wr.heap.size := zb d0
        go_upto_region 15 with (fail)
        clear d0 lD
        have NE := HNE.out i hin
        have hRC : RiC T S L (O i) i n bC oC c4 bR oR cR (cO i) bA oA cA (nmF s i) (al i) cap wr := (HRC.out i hin).mod HMr.out (fun h => h.elim NE.1.1 NE.1.2) (fun h => h.elim NE.2.1.1 NE.2.1.2) (fun h => h.elim NE.2.2.1.1 NE.2.2.1.2) (fun h => h.elim NE.2.2.2.1.1 NE.2.2.2.1.2) (fun h => h.elim NE.2.2.2.2.1.1 NE.2.2.2.2.1.2)
        have HRCr := Lib.hid hRC
        clear NE hRC
        have t24 := HRCr.out.t24
        have b3 := (HMr.out.cell (zb HB5.out.1) (fun h => h.elim HB5.out.2.1 HB5.out.2.2)).trans HB5.out.1
        obtain ⟨l, hl⟩ : ∃ l, l = lv i := ⟨_, rfl⟩
        have l0 : wr.cell? ⟨L, i, none⟩ = some (.int .i64 l) := by rw [HLr.out.cell hin, hl]; rfl
        have HL0 := Lib.hid hl
        clear hl
        have m0 := (HBr.out.cell (zb (HQ.out i hin))).trans (HQ.out i hin)
        have g0 := HRCr.out.c0
        have g1 := HRCr.out.c1
        have g2' := HRCr.out.c2
        have g3 := HRCr.out.c3
        have g4 := HRCr.out.c4
        have g5 := HRCr.out.c5
        have g6 := HRCr.out.c6
        have g7 := HRCr.out.c7
        by_cases hlq : l = lm
        · have hbq : (l != lm) = false := by simp [hlq]
          obtain ⟨dl, hdl⟩ : ∃ d, d = decide (levV (mo i) < (lvl : Int)) := ⟨_, rfl⟩
          have HDL := Lib.hid hdl.symm
          have HLQ := Lib.hid hlq
          clear hdl hlq
          refine region_z (S := fun w' => Below wr.heap.size wr w') [] (by kernel_rfl) ((Below.refl _ _).drew) (fun hHeld => ?_)
          refine zt (i := 0) (v := .pointer (some ⟨T, 0, none⟩)) [] (fun w' hSw => ?_) hHeld ?_
          · clear hHeld hSw
            go_simp
          simp only [Act.put, zl0, zl1, zl2, zl3, zl4, zl5]
          refine zt (i := 1) (v := .pointer (some ⟨T, 0, none⟩)) [] (fun w' hSw => ?_) hHeld ?_
          · clear hHeld hSw
            go_simp
          simp only [Act.put, zl0, zl1, zl2, zl3, zl4, zl5]
          refine zt (i := 2) (v := .pointer (some ⟨T, 24, none⟩)) [] (fun w' hSw => ?_) hHeld ?_
          · clear hHeld hSw
            go_simp
          simp only [Act.put, zl0, zl1, zl2, zl3, zl4, zl5]
          refine zt (i := 3) (v := .slice (some ⟨L, 0, none⟩) n n) [] (fun w' hSw => ?_) hHeld ?_
          · have t24' := (hSw.cell (zb t24)).trans t24
            have lt24 := zb t24'
            dsimp only at lt24
            clear hHeld hSw
            go_simp
          simp only [Act.put, zl0, zl1, zl2, zl3, zl4, zl5]
          refine zt (i := 4) (v := .int .i64 (i : Nat)) [] (fun w' hSw => ?_) hHeld ?_
          · clear hHeld hSw
            go_simp
          simp only [Act.put, zl0, zl1, zl2, zl3, zl4, zl5]
          refine zt (i := 5) (v := .pointer (some ⟨L, i, none⟩)) [] (fun w' hSw => ?_) hHeld ?_
          · clear hHeld hSw
            go_simp
          simp only [Act.put, zl0, zl1, zl2, zl3, zl4, zl5]
          refine zt (i := 6) (v := .int .i64 l) [] (fun w' hSw => ?_) hHeld ?_
          · have l0' := (hSw.cell (zb l0)).trans l0
            have ll0 := zb l0'
            dsimp only at ll0
            clear hHeld hSw
            go_simp
          simp only [Act.put, zl0, zl1, zl2, zl3, zl4, zl5]
          refine zt (i := 7) (v := .int .i64 (lvl : Nat)) [] (fun w' hSw => ?_) hHeld ?_
          · clear hHeld hSw
            go_simp
          simp only [Act.put, zl0, zl1, zl2, zl3, zl4, zl5]
          refine zt (i := 8) (v := .int .i64 lm) [] (fun w' hSw => ?_) hHeld ?_
          · clear hHeld hSw
            go_simp
            first | done | exact wlm | (simp [wlm])
          simp only [Act.put, zl0, zl1, zl2, zl3, zl4, zl5]
          refine zt (i := 9) (v := .bool false) [] (fun w' hSw => ?_) hHeld ?_
          · clear hHeld hSw
            go_simp
            first | done | exact hbq | (simp [hbq])
          simp only [Act.put, zl0, zl1, zl2, zl3, zl4, zl5]
          refine zt (i := 10) (v := .bool false) [] (fun w' hSw => ?_) hHeld ?_
          · clear hHeld hSw
            go_simp
          simp only [Act.put, zl0, zl1, zl2, zl3, zl4, zl5]
          refine zt (i := 11) (v := .pointer (some ⟨B, 3, none⟩)) [] (fun w' hSw => ?_) hHeld ?_
          · clear hHeld hSw
            go_simp
          simp only [Act.put, zl0, zl1, zl2, zl3, zl4, zl5]
          refine zt (i := 12) (v := .slice (some ⟨bC, oC, none⟩) n c4) [] (fun w' hSw => ?_) hHeld ?_
          · have b3' := (hSw.cell (zb b3)).trans b3
            have lb3 := zb b3'
            dsimp only at lb3
            clear hHeld hSw
            go_simp
          simp only [Act.put, zl0, zl1, zl2, zl3, zl4, zl5]
          refine zt (i := 13) (v := .int .i64 (i : Nat)) [] (fun w' hSw => ?_) hHeld ?_
          · clear hHeld hSw
            go_simp
          simp only [Act.put, zl0, zl1, zl2, zl3, zl4, zl5]
          refine zt (i := 14) (v := .pointer (some ⟨bC, oC + i * 8, none⟩)) [] (fun w' hSw => ?_) hHeld ?_
          · clear hHeld hSw
            go_simp
          simp only [Act.put, zl0, zl1, zl2, zl3, zl4, zl5]
          refine zt (i := 15) (v := .agg #[.string (nmF s i), .int .i64 0, .int .i64 1, .int .i64 6, .int .i64 32, .int .i64 2, .int .i64 0, .int .i64 0]) [] (fun w' hSw => ?_) hHeld ?_
          · have g0' := (hSw.cell (zb g0)).trans g0
            have lg0 := zb g0'
            dsimp only at lg0
            have g1' := (hSw.cell (zb g1)).trans g1
            have lg1 := zb g1'
            dsimp only at lg1
            have g2'' := (hSw.cell (zb g2')).trans g2'
            have lg2' := zb g2''
            dsimp only at lg2'
            have g3' := (hSw.cell (zb g3)).trans g3
            have lg3 := zb g3'
            dsimp only at lg3
            have g4' := (hSw.cell (zb g4)).trans g4
            have lg4 := zb g4'
            dsimp only at lg4
            have g5' := (hSw.cell (zb g5)).trans g5
            have lg5 := zb g5'
            dsimp only at lg5
            have g6' := (hSw.cell (zb g6)).trans g6
            have lg6 := zb g6'
            dsimp only at lg6
            have g7' := (hSw.cell (zb g7)).trans g7
            have lg7 := zb g7'
            dsimp only at lg7
            clear hHeld hSw
            go_simp
          simp only [Act.put, zl0, zl1, zl2, zl3, zl4, zl5]
          refine zt (i := 16) (v := .slice (some ⟨bQ, oQ, none⟩) n cQ) [] (fun w' hSw => ?_) hHeld ?_
          · clear hHeld hSw
            go_simp
          simp only [Act.put, zl0, zl1, zl2, zl3, zl4, zl5]
          refine zt (i := 17) (v := .int .i64 (i : Nat)) [] (fun w' hSw => ?_) hHeld ?_
          · clear hHeld hSw
            go_simp
          simp only [Act.put, zl0, zl1, zl2, zl3, zl4, zl5]
          refine zt (i := 18) (v := .pointer (some ⟨bQ, oQ + i, none⟩)) [] (fun w' hSw => ?_) hHeld ?_
          · clear hHeld hSw
            go_simp
          simp only [Act.put, zl0, zl1, zl2, zl3, zl4, zl5]
          refine zt (i := 19) (v := .int .i64 (mo i)) [] (fun w' hSw => ?_) hHeld ?_
          · have m0' := (hSw.cell (zb m0)).trans m0
            have lm0 := zb m0'
            dsimp only at lm0
            clear hHeld hSw
            go_simp
          simp only [Act.put, zl0, zl1, zl2, zl3, zl4, zl5]
          refine zt (i := 21) (v := .int .i64 (lvl : Nat)) [] (fun w' hSw => ?_) hHeld ?_
          · clear hHeld hSw
            go_simp
          simp only [Act.put, zl0, zl1, zl2, zl3, zl4, zl5]
          refine zo 20 (fun K' hK => ?_)
          go_simp
          refine (spLevel_any (nmF s i) (mo i) _ (HQB.out i hin).1 (HQB.out i hin).2).mono ?_
          rintro e wk ⟨rfl, hbk⟩
          refine hK.out _ _ ?_ (fun hHeld' => ?_)
          · exact below_then hHeld hbk
          clear hK K' hHeld hbk
          have hHeld := hHeld'
          clear hHeld'
          try simp only [Act.put, zl0, zl1, zl2, zl3, zl4, zl5]
          refine zt (i := 22) (v := .bool dl) [] (fun w' hSw => ?_) hHeld ?_
          · clear hHeld hSw
            go_simp
            first | done | exact HDL.out | (simp [HDL.out])
          simp only [Act.put, zl0, zl1, zl2, zl3, zl4, zl5]
          refine zt (i := 23) (v := .bool dl) [] (fun w' hSw => ?_) hHeld ?_
          · clear hHeld hSw
            go_simp
          simp only [Act.put, zl0, zl1, zl2, zl3, zl4, zl5]
          refine wpAnyZ_done (by kernel_rfl) ?_ _
          have HSn := Lib.hid (HSr.out.keep hHeld HSr.out.lt)
          have HLn := Lib.hid (HLr.out.keep hHeld HLr.out.lt)
          have HMn := Lib.hid (mod_then HMr.out hHeld)
          have HRCn := Lib.hid (HRCr.out.keep hHeld)
          clear hHeld
          clear t24 b3 l0 m0 g0 g1 g2' g3 g4 g5 g6 g7 hbq
          cases dl
          · have HLV : Hid ((lvl : Int) ≤ levV (mo i)) := Lib.hid (by have := HDL.out; simp at this; omega)
            have HLI : Hid (lv i = (lvl : Int) - 1) := Lib.hid (by rw [← HL0.out, HLQ.out, HLM.out])
            have HBD := Lib.hid (HI.out.bd hn4 HAB.out HQB.out)
            have hl14 : lvl ≤ 14 := by have := HLV.out; have := (levV_le (HQB.out i hin).1).2; omega
            go_wp2_with fail
            refine (spRise_ok T S L (O i) i n bC oC c4 bR oR cR (cO i) bA oA cA (nmF s i) (al i) cap ss lv _ HRCn HSn HLn hin (by omega) (Lib.hid (HNE.out i hin)) (by have := HBD.out; omega) (HAB.out i hin) (by rw [HLI.out]; omega)).mono ?_
            rintro e w7 ⟨b', ss', lv', rfl, hS', hL', hM', hor⟩
            have HS7 := Lib.hid hS'
            have HL7 := Lib.hid hL'
            have HM7 := Lib.hid (HMn.out.trans hM')
            clear hS' hL' hM'
            rcases hor with ⟨rfl, hc, rfl, rfl⟩ | ⟨rfl, rfl, rfl⟩
            · have HI7 := Lib.hid (HI.out.rise (k := i) hin (by rw [HLI.out]; omega) (by rw [HLI.out]; have := HLV.out; omega) hc)
              clear hc
              go_wp2_with fail
              go_roundg (n - (k + 1))
              case measure => omega
              case rel => exact ⟨k + 1, true, _, _, by go_num, rfl, by omega, by omega, Lib.hid (fun _ => hl14), HI7, HS7, HL7, HM7⟩
            · go_wp2_with fail
              go_roundg (n - (k + 1))
              case measure => omega
              case rel => exact ⟨k + 1, b, _, _, by go_num, rfl, by omega, by omega, HBT, HI, HS7, HL7, HM7⟩
          · clear HRCn
            go_wp2_with fail
            go_roundg (n - (k + 1))
            case measure => omega
            case rel => exact ⟨k + 1, b, ss, lv, by go_num, rfl, by omega, by omega, HBT, HI, HSn, HLn, HMn⟩
        · have hbq : (l != lm) = true := by simpa using hlq
          clear hlq
          refine region_z (S := fun w' => Below wr.heap.size wr w') [] (by kernel_rfl) ((Below.refl _ _).drew) (fun hHeld => ?_)
          refine zt (i := 0) (v := .pointer (some ⟨T, 0, none⟩)) [] (fun w' hSw => ?_) hHeld ?_
          · clear hHeld hSw
            go_simp
          simp only [Act.put, zl0, zl1, zl2, zl3, zl4, zl5]
          refine zt (i := 1) (v := .pointer (some ⟨T, 0, none⟩)) [] (fun w' hSw => ?_) hHeld ?_
          · clear hHeld hSw
            go_simp
          simp only [Act.put, zl0, zl1, zl2, zl3, zl4, zl5]
          refine zt (i := 2) (v := .pointer (some ⟨T, 24, none⟩)) [] (fun w' hSw => ?_) hHeld ?_
          · clear hHeld hSw
            go_simp
          simp only [Act.put, zl0, zl1, zl2, zl3, zl4, zl5]
          refine zt (i := 3) (v := .slice (some ⟨L, 0, none⟩) n n) [] (fun w' hSw => ?_) hHeld ?_
          · have t24' := (hSw.cell (zb t24)).trans t24
            have lt24 := zb t24'
            dsimp only at lt24
            clear hHeld hSw
            go_simp
          simp only [Act.put, zl0, zl1, zl2, zl3, zl4, zl5]
          refine zt (i := 4) (v := .int .i64 (i : Nat)) [] (fun w' hSw => ?_) hHeld ?_
          · clear hHeld hSw
            go_simp
          simp only [Act.put, zl0, zl1, zl2, zl3, zl4, zl5]
          refine zt (i := 5) (v := .pointer (some ⟨L, i, none⟩)) [] (fun w' hSw => ?_) hHeld ?_
          · clear hHeld hSw
            go_simp
          simp only [Act.put, zl0, zl1, zl2, zl3, zl4, zl5]
          refine zt (i := 6) (v := .int .i64 l) [] (fun w' hSw => ?_) hHeld ?_
          · have l0' := (hSw.cell (zb l0)).trans l0
            have ll0 := zb l0'
            dsimp only at ll0
            clear hHeld hSw
            go_simp
          simp only [Act.put, zl0, zl1, zl2, zl3, zl4, zl5]
          refine zt (i := 7) (v := .int .i64 (lvl : Nat)) [] (fun w' hSw => ?_) hHeld ?_
          · clear hHeld hSw
            go_simp
          simp only [Act.put, zl0, zl1, zl2, zl3, zl4, zl5]
          refine zt (i := 8) (v := .int .i64 lm) [] (fun w' hSw => ?_) hHeld ?_
          · clear hHeld hSw
            go_simp
            first | done | exact wlm | (simp [wlm])
          simp only [Act.put, zl0, zl1, zl2, zl3, zl4, zl5]
          refine zt (i := 9) (v := .bool true) [] (fun w' hSw => ?_) hHeld ?_
          · clear hHeld hSw
            go_simp
            first | done | exact hbq | (simp [hbq])
          simp only [Act.put, zl0, zl1, zl2, zl3, zl4, zl5]
          refine zt (i := 10) (v := .bool true) [] (fun w' hSw => ?_) hHeld ?_
          · clear hHeld hSw
            go_simp
          simp only [Act.put, zl0, zl1, zl2, zl3, zl4, zl5]
          refine wpAnyZ_take (i := 11) (v := undef) [] rfl (by kernel_rfl) (by kernel_rfl) (by kernel_rfl) (by kernel_rfl) (fun _ _ _ h => h) (Or.inr ⟨by kernel_rfl, rfl⟩) hHeld ?_
          simp only [Act.put, zl0, zl1, zl2, zl3, zl4, zl5]
          refine wpAnyZ_take (i := 12) (v := undef) [] rfl (by kernel_rfl) (by kernel_rfl) (by kernel_rfl) (by kernel_rfl) (fun _ _ _ h => h) (Or.inr ⟨by kernel_rfl, rfl⟩) hHeld ?_
          simp only [Act.put, zl0, zl1, zl2, zl3, zl4, zl5]
          refine wpAnyZ_take (i := 13) (v := undef) [] rfl (by kernel_rfl) (by kernel_rfl) (by kernel_rfl) (by kernel_rfl) (fun _ _ _ h => h) (Or.inr ⟨by kernel_rfl, rfl⟩) hHeld ?_
          simp only [Act.put, zl0, zl1, zl2, zl3, zl4, zl5]
          refine wpAnyZ_take (i := 14) (v := undef) [] rfl (by kernel_rfl) (by kernel_rfl) (by kernel_rfl) (by kernel_rfl) (fun _ _ _ h => h) (Or.inr ⟨by kernel_rfl, rfl⟩) hHeld ?_
          simp only [Act.put, zl0, zl1, zl2, zl3, zl4, zl5]
          refine wpAnyZ_take (i := 15) (v := undef) [] rfl (by kernel_rfl) (by kernel_rfl) (by kernel_rfl) (by kernel_rfl) (fun _ _ _ h => h) (Or.inr ⟨by kernel_rfl, rfl⟩) hHeld ?_
          simp only [Act.put, zl0, zl1, zl2, zl3, zl4, zl5]
          refine wpAnyZ_take (i := 16) (v := undef) [] rfl (by kernel_rfl) (by kernel_rfl) (by kernel_rfl) (by kernel_rfl) (fun _ _ _ h => h) (Or.inr ⟨by kernel_rfl, rfl⟩) hHeld ?_
          simp only [Act.put, zl0, zl1, zl2, zl3, zl4, zl5]
          refine wpAnyZ_take (i := 17) (v := undef) [] rfl (by kernel_rfl) (by kernel_rfl) (by kernel_rfl) (by kernel_rfl) (fun _ _ _ h => h) (Or.inr ⟨by kernel_rfl, rfl⟩) hHeld ?_
          simp only [Act.put, zl0, zl1, zl2, zl3, zl4, zl5]
          refine wpAnyZ_take (i := 18) (v := undef) [] rfl (by kernel_rfl) (by kernel_rfl) (by kernel_rfl) (by kernel_rfl) (fun _ _ _ h => h) (Or.inr ⟨by kernel_rfl, rfl⟩) hHeld ?_
          simp only [Act.put, zl0, zl1, zl2, zl3, zl4, zl5]
          refine wpAnyZ_take (i := 19) (v := undef) [] rfl (by kernel_rfl) (by kernel_rfl) (by kernel_rfl) (by kernel_rfl) (fun _ _ _ h => h) (Or.inr ⟨by kernel_rfl, rfl⟩) hHeld ?_
          simp only [Act.put, zl0, zl1, zl2, zl3, zl4, zl5]
          refine wpAnyZ_take (i := 20) (v := undef) [] rfl (by kernel_rfl) (by kernel_rfl) (by kernel_rfl) (by kernel_rfl) (fun _ _ _ h => h) (Or.inr ⟨by kernel_rfl, rfl⟩) hHeld ?_
          simp only [Act.put, zl0, zl1, zl2, zl3, zl4, zl5]
          refine wpAnyZ_take (i := 21) (v := undef) [] rfl (by kernel_rfl) (by kernel_rfl) (by kernel_rfl) (by kernel_rfl) (fun _ _ _ h => h) (Or.inr ⟨by kernel_rfl, rfl⟩) hHeld ?_
          simp only [Act.put, zl0, zl1, zl2, zl3, zl4, zl5]
          refine wpAnyZ_take (i := 22) (v := undef) [] rfl (by kernel_rfl) (by kernel_rfl) (by kernel_rfl) (by kernel_rfl) (fun _ _ _ h => h) (Or.inr ⟨by kernel_rfl, rfl⟩) hHeld ?_
          simp only [Act.put, zl0, zl1, zl2, zl3, zl4, zl5]
          refine zt (i := 23) (v := .bool true) [] (fun w' hSw => ?_) hHeld ?_
          · clear hHeld hSw
            go_simp
          simp only [Act.put, zl0, zl1, zl2, zl3, zl4, zl5]
          refine wpAnyZ_done (by kernel_rfl) ?_ _
          have HSn := Lib.hid (HSr.out.keep hHeld HSr.out.lt)
          have HLn := Lib.hid (HLr.out.keep hHeld HLr.out.lt)
          have HMn := Lib.hid (mod_then HMr.out hHeld)
          have HRCn := Lib.hid (HRCr.out.keep hHeld)
          clear hHeld
          clear t24 b3 l0 m0 g0 g1 g2' g3 g4 g5 g6 g7 hbq HRCr HRCn HBr
          go_wp2_with fail
          go_roundg (n - (k + 1))
          case measure => omega
          case rel => exact ⟨k + 1, b, ss, lv, by go_num, rfl, by omega, by omega, HBT, HI, HSn, HLn, HMn⟩
      · have hkz : ¬ (k : Int) < (n : Int) := by omega
        cases b
        · clear HBT
          obtain ⟨W8, hmk, hown, hb8, hsz⟩ := mk_ints n (by omega) wr
          have HOW := Lib.hid hown
          have HB8 := Lib.hid hb8
          clear hown hb8 hsz
          obtain ⟨G, hG⟩ : ∃ G, G = wr.heap.size := ⟨_, rfl⟩
          rw [← hG] at hmk HOW
          have HGW : Hid (G = wr.heap.size) := Lib.hid hG
          have b3 := (HB8.out.cell (zb ((HMr.out.cell (zb HB5.out.1) (fun h => h.elim HB5.out.2.1 HB5.out.2.2)).trans HB5.out.1))).trans ((HMr.out.cell (zb HB5.out.1) (fun h => h.elim HB5.out.2.1 HB5.out.2.2)).trans HB5.out.1)
          have lB3 : B < W8.heap.size := zb b3
          clear hG
          go_wp2_with fail
          have HG5 : Hid (W5.heap.size ≤ G) := Lib.hid (by rw [HGW.out]; exact HMr.out.size)
          have HML := Lib.hid (mod_then HMr.out HB8.out)
          have HLL := Lib.hid (HLr.out.keep HB8.out HLr.out.lt)
          clear HB8 HGW HSr HMr HLr b3 lB3 hmk
          go_loopg [110] (n + 1) (fun g3 v110 wr => ∃ k : Nat, v110 = .int .i64 k ∧ k ≤ n ∧ n - k ≤ g3 ∧ Hid (Own wr G 3 n (fun i => if i < k then .int .i64 (ampV (lv i)) else .int .i64 0)) ∧ Hid (Own wr L 3 n (lvF lv)) ∧ Hid (Mod (fun j => j = S ∨ j = L) W5 wr))
          case atStart => exact ⟨0, by go_num, by omega, by omega, Lib.hid (HOW.out.congr (fun i hi => by rw [if_neg (by omega)])), HLL, HML⟩
          case round =>
            clear HML HLL HOW
            obtain ⟨k, rfl, hk3, hg3, HGr, HLr, HMr⟩ := hrel
            by_cases hkn : k < n
            · have hkz : (k : Int) < (n : Int) := by omega
              have NE := HNE.out k hkn
              have hRC : RiC T S L (O k) k n bC oC c4 bR oR cR (cO k) bA oA cA (nmF s k) (al k) cap wr := (HRC.out k hkn).mod HMr.out (fun h => h.elim NE.1.1 NE.1.2) (fun h => h.elim NE.2.1.1 NE.2.1.2) (fun h => h.elim NE.2.2.1.1 NE.2.2.1.2) (fun h => h.elim NE.2.2.2.1.1 NE.2.2.2.1.2) (fun h => h.elim NE.2.2.2.2.1.1 NE.2.2.2.2.1.2)
              have HRCr := Lib.hid hRC
              clear NE hRC
              have g0 := HRCr.out.c0
              have g1 := HRCr.out.c1
              have g2' := HRCr.out.c2
              have g3 := HRCr.out.c3
              have g4 := HRCr.out.c4
              have g5 := HRCr.out.c5
              have g6 := HRCr.out.c6
              have g7 := HRCr.out.c7
              have lC : bC < wr.heap.size := zb g0
              have HLK : Hid (0 ≤ lv k ∧ lv k ≤ 20) := Lib.hid ⟨HI.out.lo k hkn, by have h1 := HI.out.mo k hkn; have h2 := (levV_le (HQB.out k hkn).1).2; omega⟩
              obtain ⟨WA, hWA⟩ : ∃ W, W = wr.alloc (.cells #[.string (nmF s k), .int .i64 0, .int .i64 1, .int .i64 6, .int .i64 32, .int .i64 2, .int .i64 0, .int .i64 0] 59) := ⟨_, rfl⟩
              obtain ⟨A, hA⟩ : ∃ A, A = wr.heap.size := ⟨_, rfl⟩
              have hbA : Below wr.heap.size wr WA := by rw [hWA]; exact (Below.refl _ _).alloc (Nat.le_refl _) _
              have z0 : WA.cell? ⟨A, 0, none⟩ = some (.string (nmF s k)) := by rw [hWA, hA]; go_simp
              have z1 : WA.cell? ⟨A, 1, none⟩ = some (.int .i64 0) := by rw [hWA, hA]; go_simp
              have z2 : WA.cell? ⟨A, 2, none⟩ = some (.int .i64 1) := by rw [hWA, hA]; go_simp
              have z3 : WA.cell? ⟨A, 3, none⟩ = some (.int .i64 6) := by rw [hWA, hA]; go_simp
              have z4 : WA.cell? ⟨A, 4, none⟩ = some (.int .i64 32) := by rw [hWA, hA]; go_simp
              have z5 : WA.cell? ⟨A, 5, none⟩ = some (.int .i64 2) := by rw [hWA, hA]; go_simp
              have z6 : WA.cell? ⟨A, 6, none⟩ = some (.int .i64 0) := by rw [hWA, hA]; go_simp
              have z7 : WA.cell? ⟨A, 7, none⟩ = some (.int .i64 0) := by rw [hWA, hA]; go_simp
              have t24 := (hbA.cell (zb HRCr.out.t24)).trans HRCr.out.t24
              have l0 : WA.cell? ⟨L, k, none⟩ = some (.int .i64 (lv k)) := (HLr.out.keep hbA HLr.out.lt).cell hkn
              have OGA := Lib.hid (HGr.out.keep hbA HGr.out.lt)
              have OLA := Lib.hid (HLr.out.keep hbA HLr.out.lt)
              have HBA := Lib.hid hbA
              have HWA := Lib.hid (And.intro hWA.symm hA.symm)
              clear hbA hWA hA
              go_upto_region 23 with (fail)
              try simp only [World.size_alloc]
              rw [HWA.out.1, HWA.out.2]
              clear HWA g0 g1 g2' g3 g4 g5 g6 g7 lC HRCr
              refine region_z (S := fun w' => Below WA.heap.size WA w') [12] (by kernel_rfl) (Below.refl _ _).drew (fun hHeld => ?_)
              refine zt (i := 0) (v := .slice (some ⟨G, 0, none⟩) n n) [12] (fun w' hSw => ?_) hHeld ?_
              · clear hHeld hSw
                go_simp
              simp only [Act.put, zl0, zl1, zl2, zl3, zl4, zl5]
              refine zt (i := 1) (v := .int .i64 (k : Nat)) [12] (fun w' hSw => ?_) hHeld ?_
              · clear hHeld hSw
                go_simp
              simp only [Act.put, zl0, zl1, zl2, zl3, zl4, zl5]
              refine zt (i := 2) (v := .agg #[.string (nmF s k), .int .i64 0, .int .i64 1, .int .i64 6, .int .i64 32, .int .i64 2, .int .i64 0, .int .i64 0]) [12] (fun w' hSw => ?_) hHeld ?_
              · have z0' := (hSw.cell (zb z0)).trans z0
                have lz0 := zb z0'
                dsimp only at lz0
                have z1' := (hSw.cell (zb z1)).trans z1
                have lz1 := zb z1'
                dsimp only at lz1
                have z2' := (hSw.cell (zb z2)).trans z2
                have lz2 := zb z2'
                dsimp only at lz2
                have z3' := (hSw.cell (zb z3)).trans z3
                have lz3 := zb z3'
                dsimp only at lz3
                have z4' := (hSw.cell (zb z4)).trans z4
                have lz4 := zb z4'
                dsimp only at lz4
                have z5' := (hSw.cell (zb z5)).trans z5
                have lz5 := zb z5'
                dsimp only at lz5
                have z6' := (hSw.cell (zb z6)).trans z6
                have lz6 := zb z6'
                dsimp only at lz6
                have z7' := (hSw.cell (zb z7)).trans z7
                have lz7 := zb z7'
                dsimp only at lz7
                clear hHeld hSw
                go_simp
              simp only [Act.put, zl0, zl1, zl2, zl3, zl4, zl5]
              refine zt (i := 3) (v := .pointer (some ⟨T, 0, none⟩)) [12] (fun w' hSw => ?_) hHeld ?_
              · clear hHeld hSw
                go_simp
              simp only [Act.put, zl0, zl1, zl2, zl3, zl4, zl5]
              refine zt (i := 4) (v := .pointer (some ⟨T, 0, none⟩)) [12] (fun w' hSw => ?_) hHeld ?_
              · clear hHeld hSw
                go_simp
              simp only [Act.put, zl0, zl1, zl2, zl3, zl4, zl5]
              refine zt (i := 5) (v := .pointer (some ⟨T, 24, none⟩)) [12] (fun w' hSw => ?_) hHeld ?_
              · clear hHeld hSw
                go_simp
              simp only [Act.put, zl0, zl1, zl2, zl3, zl4, zl5]
              refine zt (i := 6) (v := .slice (some ⟨L, 0, none⟩) n n) [12] (fun w' hSw => ?_) hHeld ?_
              · have t24' := (hSw.cell (zb t24)).trans t24
                have lt24 := zb t24'
                dsimp only at lt24
                clear hHeld hSw
                go_simp
              simp only [Act.put, zl0, zl1, zl2, zl3, zl4, zl5]
              refine zt (i := 7) (v := .int .i64 (k : Nat)) [12] (fun w' hSw => ?_) hHeld ?_
              · clear hHeld hSw
                go_simp
              simp only [Act.put, zl0, zl1, zl2, zl3, zl4, zl5]
              refine zt (i := 8) (v := .pointer (some ⟨L, k, none⟩)) [12] (fun w' hSw => ?_) hHeld ?_
              · clear hHeld hSw
                go_simp
              simp only [Act.put, zl0, zl1, zl2, zl3, zl4, zl5]
              refine zt (i := 9) (v := .int .i64 (lv k)) [12] (fun w' hSw => ?_) hHeld ?_
              · have l0' := (hSw.cell (zb l0)).trans l0
                have ll0 := zb l0'
                dsimp only at ll0
                clear hHeld hSw
                go_simp
              simp only [Act.put, zl0, zl1, zl2, zl3, zl4, zl5]
              refine zo 10 (fun K' hK => ?_)
              go_simp
              refine (spAmps_any (nmF s k) (lv k) _ HLK.out.1 HLK.out.2).mono ?_
              rintro e wk ⟨rfl, hbk⟩
              refine hK.out _ _ ?_ (fun hHeld' => ?_)
              · exact below_then hHeld hbk
              clear hK K' hHeld hbk
              have hHeld := hHeld'
              clear hHeld'
              try simp only [Act.put, zl0, zl1, zl2, zl3, zl4, zl5]
              refine zt (i := 11) (v := .pointer (some ⟨G, k, none⟩)) [12] (fun w' hSw => ?_) hHeld ?_
              · clear hHeld hSw
                go_simp
              simp only [Act.put, zl0, zl1, zl2, zl3, zl4, zl5]
              have OGk := Lib.hid (OGA.out.keep hHeld OGA.out.lt)
              have cg := OGk.out.cell hkn
              have fg := OGk.out.frozen k
              have lG := OGk.out.lt
              have HBk := Lib.hid (HBA.out.trans (hHeld.mono HBA.out.size))
              clear hHeld
              refine wpAnyZ_last (i := 12) (by kernel_rfl) rfl (by kernel_rfl) (fun K' hK => ?_)
              go_simp
              refine hK.out _ _ ?_
              clear hK K' cg fg lG
              try simp only [Act.put, zl0, zl1, zl2, zl3, zl4, zl5]
              refine wpAnyZ_done (by kernel_rfl) ?_ _
              have HGn := Lib.hid ((OGk.out.set k (.int .i64 (ampV (lv k)))).congr (f' := fun i => if i < k + 1 then .int .i64 (ampV (lv i)) else .int .i64 0) (fun j hj => by
                by_cases e : j = k
                · rw [if_pos e, if_pos (by omega), e]
                · rw [if_neg e]
                  by_cases e2 : j < k
                  · rw [if_pos e2, if_pos (by omega)]
                  · rw [if_neg e2, if_neg (by omega)]))
              have hLk := (HLr.out.keep HBk.out HLr.out.lt)
              have HLn := Lib.hid (hLk.mod ((Mod.refl (fun j => j = G) wk).setCell (p := ⟨G, k, none⟩) (.inl rfl) (.int .i64 (ampV (lv k)))) (fun e => by have := HST5.out; have := HG5.out; omega))
              have HMn := Lib.hid ((mod_then HMr.out HBk.out).setCell (p := ⟨G, k, none⟩) (.inr HG5.out) (.int .i64 (ampV (lv k))))
              clear hLk OGk OGA OLA HBA HBk HGr HLr HMr t24 l0 z0 z1 z2 z3 z4 z5 z6 z7
              go_wp2_with fail
              go_roundg (n - (k + 1))
              case measure => omega
              case rel => exact ⟨k + 1, by go_num, by omega, by omega, HGn, HLn, HMn⟩
            · have hkz : ¬ (k : Int) < (n : Int) := by omega
              have hkn' : k = n := by omega
              have HBf := Lib.hid (HW5.out.trans (HMr.out.below (B := w.heap.size) HW5.out.size (fun j hj hm => by have := HSL4.out; rcases hm with rfl | rfl <;> omega)))
              go_wp2_with fail
              try rw [Exit.noGoto_ret]
              refine bodyPost_ret (results_tmp2 (t := 8) (u := 9) (by kernel_rfl) _ _ _) rfl ?_
              refine ⟨G, fun i => ampV (lv i), rfl, Nat.le_trans HW5.out.size HG5.out, HGr.out.congr (fun i hi => by rw [if_pos (by omega)]), fun i hi => ?_, ?_, HBf.out⟩
              · exact ampV_le (HI.out.lo i hi) (HI.out.mo i hi) (HQB.out i hi).1
              · have := HI.out.cap
                rw [HI.out.sum] at this
                exact this
        · have hl14 : lvl ≤ 14 := HBT.out rfl
          have HI2 : Hid (ShI al mo n cap (((lvl + 1 : Nat) : Int) - 1) ss lv) := Lib.hid (HI.out.mono (by omega))
          clear HBT
          go_wp2_with fail
          go_roundg (16 - (lvl + 1))
          case measure => omega
          case rel => exact ⟨lvl + 1, ss, lv, by go_num, by omega, by omega, by omega, HI2, HSr, HLr, HMr⟩
end Go.Proofs.YtkbbapefgifagaaGreatDoor
