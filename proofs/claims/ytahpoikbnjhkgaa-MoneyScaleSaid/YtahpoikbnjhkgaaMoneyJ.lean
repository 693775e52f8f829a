/-
The walk of the law MoneyScale.
-/
import Derived.Test.YtahpoikbnjhkgaaMoneyI
import Derived.Test.YtahpoikbnjhkgaaAppI
namespace Go.Proofs.Ytahpoikbnjhkgaa
open Go.RowKit
set_option linter.unusedVariables false

theorem half_scale {n r c : Int} (hc : 0 < c) : halfV (n * c) (r * c) = halfV n r := by
  unfold halfV
  have e1 : 2 * (n * c) + r * c = (2 * n + r) * c := by rw [Int.add_mul, Int.mul_assoc]
  have e2 : 2 * (r * c) = (2 * r) * c := by rw [Int.mul_assoc]
  rw [e1, e2]
  exact Int.mul_ediv_mul_of_pos_left _ _ hc
theorem times_scale {p q r c : Int} (hc : 0 < c) (h1 : timesE p q r = 0) (h2 : timesE p (q * c) (r * c) = 0) : timesV p q r = timesV p (q * c) (r * c) := by
  rcases times_cases p q r with ⟨x, _⟩ | ⟨_, t1, v1, _, _⟩
  · exact absurd h1 x
  rcases times_cases p (q * c) (r * c) with ⟨x, _⟩ | ⟨_, t2, v2, _, _⟩
  · exact absurd h2 x
  rw [v1, v2, ← Int.mul_assoc, half_scale hc]
def goodL (c : Int) (ws : List Int) : Prop := ∀ x ∈ ws, 0 ≤ x ∧ x ≤ 1000000 / c
theorem sumL_scale (c : Int) (ws : List Int) : sumL (ws.map (· * c)) = sumL ws * c := by
  have gen : ∀ (l : List Int) (a : Int), (l.map (· * c)).foldl (· + ·) (a * c) = (l.foldl (· + ·) a) * c := by
    intro l
    induction l with
    | nil => intro a; rfl
    | cons x l ih =>
      intro a
      simp only [List.map_cons, List.foldl_cons]
      rw [← Int.add_mul, ih]
  have := gen ws 0
  rw [Int.zero_mul] at this
  exact this
theorem split_scale {A c : Int} {ws : List Int} (hc : 0 < c) (hw : goodL c ws) : splitL A (ws.map (· * c)) = splitL A ws ∧ splitE A (ws.map (· * c)) = splitE A ws := by
  have hdiv : 1000000 / c * c ≤ 1000000 := Int.ediv_mul_le _ (by omega)
  have w1 : wOk ws = true := by
    unfold wOk
    rw [List.all_eq_true]
    intro x hx
    have := hw x hx
    have h2 : 1000000 / c ≤ 1000000 := Int.ediv_le_self _ (by omega)
    exact inB_true this.1 (by omega)
  have w2 : wOk (ws.map (· * c)) = true := by
    unfold wOk
    rw [List.all_eq_true]
    intro y hy
    obtain ⟨x, hx, rfl⟩ := List.mem_map.1 hy
    have := hw x hx
    have h2 : x * c ≤ 1000000 / c * c := Int.mul_le_mul_of_nonneg_right this.2 (by omega)
    exact inB_true (Int.mul_nonneg this.1 (by omega)) (by omega)
  have hs := sumL_scale c ws
  have hok : splitOk A (ws.map (· * c)) = splitOk A ws := by
    unfold splitOk
    rw [w1, w2, hs, List.length_map]
    congr 1
    have : 0 < sumL ws * c ↔ 0 < sumL ws := by
      constructor
      · intro h
        rcases Int.lt_or_le 0 (sumL ws) with x | x
        · exact x
        · have := Int.mul_le_mul_of_nonneg_right x (by omega : 0 ≤ c)
          omega
      · intro h; exact Int.mul_pos h hc
    simp only [this]
  unfold splitL splitE
  rw [hok, List.length_map]
  refine ⟨?_, rfl⟩
  cases splitOk A ws with
  | false => rfl
  | true =>
    simp only [if_true]
    apply List.map_congr_left
    intro i _
    show pV A (sumL (ws.map (· * c))) (ws.map (· * c)) (ws.map (· * c)).length i = pV A (sumL ws) ws ws.length i
    rw [hs, List.length_map]
    apply pV_scale hc
    intro j
    unfold wt
    rw [List.getElem?_map]
    cases ws[j]? with
    | none => simp
    | some y => rfl
theorem goodL_snoc {c : Int} {ws : List Int} {k : Nat} {x : Int} (h : goodL c (ws.take k)) (hx : ws[k]? = some x) (h0 : 0 ≤ x) (h1 : x ≤ 1000000 / c) : goodL c (ws.take (k + 1)) := by
  intro y hy
  rw [take_snoc hx, List.mem_append] at hy
  rcases hy with hy | hy
  · exact h y hy
  · rw [List.mem_singleton] at hy; subst hy; exact ⟨h0, h1⟩

set_option maxRecDepth 100000 in
set_option maxHeartbeats 8000000 in
theorem walk_MoneyScale (p : Int) (hp : (Lit.int .i64 p).wf = true) (q : Int) (hq : (Lit.int .i64 q).wf = true) (r : Int) (hr0 : (Lit.int .i64 r).wf = true) (c : Int) (hc : (Lit.int .i64 c).wf = true) (A : Int) (hA : (Lit.int .i64 A).wf = true)
    (a0 : Option Addr) (cap : Nat) (ws : List Int) (w : World) (hr : Rd 1 encI w a0 ws) (hwz : ∀ x ∈ ws, (Lit.int .i64 x).wf = true) :
    Calls Try.prog 9 #[.int .i64 p, .int .i64 q, .int .i64 r, .int .i64 c, .int .i64 A, .slice a0 ws.length cap] w (TruePost w) := by
  have HR := Lib.hid hr
  have HWZ := Lib.hid hwz
  clear hr hwz hp hq hr0 hc hA
  obtain ⟨n, hn⟩ : ∃ n, n = ws.length := ⟨_, rfl⟩
  rw [← hn]
  have HN := Lib.hid hn
  clear hn
  by_cases c0 : c < 1
  · as_aux_lemma =>
    go_enter Try.func9, Try.ntmps9
    go_wp2_with fail
    refine (lmHead_any _).mono ?_
    rintro e w1 ⟨rfl, hb⟩
    have B1 := Lib.hid hb
    clear hb
    go_wp2
    go_ret
    exact ⟨rfl, B1.out⟩
  by_cases c1 : 1000 < c
  · as_aux_lemma =>
    go_enter Try.func9, Try.ntmps9
    go_wp2_with fail
    refine (lmHead_any _).mono ?_
    rintro e w1 ⟨rfl, hb⟩
    have B1 := Lib.hid hb
    clear hb
    go_wp2
    go_ret
    exact ⟨rfl, B1.out⟩
  by_cases c2 : 100 < n
  · as_aux_lemma =>
    go_enter Try.func9, Try.ntmps9
    go_wp2_with fail
    refine (lmHead_any _).mono ?_
    rintro e w1 ⟨rfl, hb⟩
    have B1 := Lib.hid hb
    clear hb
    go_wp2
    go_ret
    exact ⟨rfl, B1.out⟩
  by_cases c3 : q < 0
  · as_aux_lemma =>
    go_enter Try.func9, Try.ntmps9
    go_wp2_with fail
    refine (lmHead_any _).mono ?_
    rintro e w1 ⟨rfl, hb⟩
    have B1 := Lib.hid hb
    clear hb
    go_wp2
    go_ret
    exact ⟨rfl, B1.out⟩
  by_cases c4 : 1000000000 < q
  · as_aux_lemma =>
    go_enter Try.func9, Try.ntmps9
    go_wp2_with fail
    refine (lmHead_any _).mono ?_
    rintro e w1 ⟨rfl, hb⟩
    have B1 := Lib.hid hb
    clear hb
    go_wp2
    go_ret
    exact ⟨rfl, B1.out⟩
  by_cases c5 : r < 1
  · as_aux_lemma =>
    go_enter Try.func9, Try.ntmps9
    go_wp2_with fail
    refine (lmHead_any _).mono ?_
    rintro e w1 ⟨rfl, hb⟩
    have B1 := Lib.hid hb
    clear hb
    go_wp2
    go_ret
    exact ⟨rfl, B1.out⟩
  by_cases c6 : 1000000000 < r
  · as_aux_lemma =>
    go_enter Try.func9, Try.ntmps9
    go_wp2_with fail
    refine (lmHead_any _).mono ?_
    rintro e w1 ⟨rfl, hb⟩
    have B1 := Lib.hid hb
    clear hb
    go_wp2
    go_ret
    exact ⟨rfl, B1.out⟩
  have qc0 : 0 ≤ q * c := Int.mul_nonneg (by omega) (by omega)
  have qc1 : q * c ≤ 1000000000 * 1000 := Int.mul_le_mul (by omega) (by omega) (by omega) (by omega)
  have rc0 : 0 ≤ r * c := Int.mul_nonneg (by omega) (by omega)
  have rc1 : r * c ≤ 1000000000 * 1000 := Int.mul_le_mul (by omega) (by omega) (by omega) (by omega)
  have dc0 : 0 ≤ 1000000 / c := Int.ediv_nonneg (by omega) (by omega)
  have dc1 : 1000000 / c ≤ 1000000 := Int.ediv_le_self _ (by omega)
  have HD : Hid (1000000 / c * c ≤ 1000000) := Lib.hid (Int.ediv_mul_le _ (by omega))
  go_enter Try.func9, Try.ntmps9
  go_wp2_with fail
  refine (lmHead_any _).mono ?_
  rintro e w1 ⟨rfl, hb⟩
  have B1 := Lib.hid (hb)
  have R1 := Lib.hid (HR.out.keep hb)
  clear hb
  go_wp2_with fail
  refine (mTimes_any _ _ _ _).mono ?_
  rintro e w2 ⟨rfl, hb⟩
  have B2 := Lib.hid (below_then B1.out hb)
  have R2 := Lib.hid (R1.out.keep hb)
  clear hb B1 R1
  go_wp2_with fail
  refine (mTimes_any _ _ _ _).mono ?_
  rintro e w3 ⟨rfl, hb⟩
  have B3 := Lib.hid (below_then B2.out hb)
  have R3 := Lib.hid (R2.out.keep hb)
  clear hb B2 R2
  have N1 : Hid (timesE p q r = 0 → timesE p (q * c) (r * c) = 0 → timesV p q r = timesV p (q * c) (r * c)) := Lib.hid (fun a b => times_scale (by omega) a b)
  generalize timesV p q r = x1 at N1 ⊢
  generalize timesE p q r = y1 at N1 ⊢
  generalize timesV p (q * c) (r * c) = x2 at N1 ⊢
  generalize timesE p (q * c) (r * c) = y2 at N1 ⊢
  go_upto_region 6 with (fail)
  go_cut [82] (fun v wx => v = .bool false ∧ Hid (w3 = wx))
  case first => as_aux_lemma =>
    clear R3 B3
    by_cases z1 : y1 = 0
    · have z1b : (y1 == 0) = true := by rw [z1]; rfl
      by_cases z2 : y2 = 0
      · have z2b : (y2 == 0) = true := by rw [z2]; rfl
        obtain rfl := N1.out z1 z2
        have l2 : (x1 != x1) = false := by simp
        clear z1 z2
        go_wp2
        go_meet
        exact ⟨rfl, Lib.hid rfl⟩
      · have z2b : (y2 == 0) = false := by rw [beq_eq_false_iff_ne]; exact z2
        clear z1 z2
        go_wp2
        go_meet
        exact ⟨rfl, Lib.hid rfl⟩
    · have z1b : (y1 == 0) = false := by rw [beq_eq_false_iff_ne]; exact z1
      clear z1
      go_wp2
      go_meet
      exact ⟨rfl, Lib.hid rfl⟩
  obtain ⟨rfl, HW⟩ := hcut
  obtain rfl := HW.out
  clear HW N1
  go_wp2
  go_loopg [18, 20, 85] n (fun g1 v18 v20 v85 wr => ∃ k : Nat, v85 = .int .i64 k ∧ k ≤ n ∧ n - k ≤ g1 ∧ Hid (goodL c (ws.take k)) ∧ Hid (OwnL wr w3.heap.size v18 ((ws.take k).map (· * c))) ∧ Hid (Below w3.heap.size w3 wr))
  case atStart => exact ⟨0, by go_num, by omega, by omega, Lib.hid (fun x hx => by simp at hx), Lib.hid (by simpa using OwnL.nil _ _), Lib.hid (Below.refl _ _)⟩
  case round =>
    obtain ⟨k, rfl, hk, hg1, HG, HO, HB⟩ := hrel
    by_cases hlt : k < n
    · have hltz : (k : Int) < (n : Int) := by omega
      obtain ⟨b, off, x, hA0, hbl, hx, hcc⟩ := (R3.out.keep HB.out).at_ (k := k) (by rw [← HN.out]; exact hlt)
      have hc0 := hcc 0 _ rfl
      rw [Nat.mul_one, Nat.add_zero] at hc0
      subst hA0
      have hxb := wf_bd (HWZ.out x (List.mem_of_getElem? hx))
      obtain ⟨xl, xh⟩ := hxb
      have HX := Lib.hid hx
      clear hx hcc hbl
      by_cases hx0 : x < 0
      · as_aux_lemma =>
        go_wp2
        go_ret
        exact ⟨rfl, below_then B3.out HB.out⟩
      by_cases hx1 : 1000000 / c < x
      · as_aux_lemma =>
        go_wp2
        go_ret
        exact ⟨rfl, below_then B3.out HB.out⟩
      have xc0 : 0 ≤ x * c := Int.mul_nonneg (by omega) (by omega)
      have xc1 : x * c ≤ 1000000 := Int.le_trans (Int.mul_le_mul_of_nonneg_right (by omega : x ≤ 1000000 / c) (by omega)) HD.out
      obtain ⟨ap, v', w4, av, aw, hown', hmod, _⟩ := app_int (x * c) HO.out HB.out.size (by rw [List.length_map, List.length_take]; omega)
      have HG2 := Lib.hid (goodL_snoc HG.out HX.out (by omega) (by omega))
      have HO2 : Hid (OwnL w4 w3.heap.size v' ((ws.take (k + 1)).map (· * c))) := Lib.hid (by rw [take_snoc HX.out, List.map_append]; exact hown')
      have HB2 : Hid (Below w3.heap.size w3 w4) := Lib.hid (HB.out.trans (HO.out.below hmod HB.out.size))
      clear hown' hmod HO HB HG
      go_wp2
      go_roundg (n - (k + 1))
      case measure => omega
      case rel => exact ⟨k + 1, by go_num, by omega, by omega, HG2, HO2, HB2⟩
    · have hltz : ¬ (k : Int) < (n : Int) := by omega
      have htk : ws.take k = ws := List.take_of_length_le (by rw [← HN.out]; omega)
      rw [htk] at HO HG
      obtain ⟨us, hus⟩ : ∃ us, us = ws.map (· * c) := ⟨_, rfl⟩
      rw [← hus] at HO
      obtain ⟨ua, uc, rfl, hru⟩ := HO.out.rd
      have RU := Lib.hid hru
      obtain ⟨s1, s2⟩ := split_scale (A := A) (c := c) (by omega) HG.out
      have R4 := Lib.hid (R3.out.keep HB.out)
      have B4 := Lib.hid (below_then B3.out HB.out)
      have S1 := Lib.hid s1
      have S2 := Lib.hid s2
      rw [← hus] at S1 S2
      have hul : us.length ≤ 100 := by rw [hus, List.length_map, ← HN.out]; omega
      clear hru s1 s2 R3 B3 HB HO HG htk hus
      go_wp2_with fail
      rw [HN.out]
      refine (mSplit_any A ws _ _ _ R4.out).mono ?_
      rintro e w5 ⟨la, lc, rfl, hr, hb⟩
      have B5 := Lib.hid (below_then B4.out hb)
      have RU5 := Lib.hid (RU.out.keep hb)
      have L5 := Lib.hid hr
      clear hb hr B4 R4 RU
      rw [← HN.out]
      go_wp2_with fail
      refine (mSplit_any A us _ _ _ RU5.out).mono ?_
      rintro e w6 ⟨ma, mc, rfl, hr, hb⟩
      have B6 := Lib.hid (below_then B5.out hb)
      have L6 := Lib.hid (L5.out.keep hb)
      rw [S1.out] at hr ⊢
      rw [S2.out]
      have M6 := Lib.hid hr
      have hll : (splitL A ws).length ≤ 1000000000 := by rw [splitL_length, ← HN.out]; split <;> omega
      clear hb hr B5 L5 RU5 S1 S2
      generalize splitL A ws = sl at *
      generalize splitE A ws = se at *
      have he : (se == se) = true := by simp
      go_wp2_with fail
      refine (rmInts_any sl sl la ma lc mc _ L6.out M6.out hll hll).mono ?_
      rintro e w7 ⟨rfl, k1, rfl⟩
      rw [show eqB sl sl = true from by unfold eqB; simp]
      go_wp2
      go_ret
      exact ⟨rfl, below_drewN B6.out k1⟩
end Go.Proofs.Ytahpoikbnjhkgaa
