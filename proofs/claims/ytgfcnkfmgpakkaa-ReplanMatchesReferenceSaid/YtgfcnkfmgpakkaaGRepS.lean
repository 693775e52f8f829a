/-
Several texts in one: RepS, RepB2, AppN3, RepK2.
-/
import Derived.Test.YtgfcnkfmgpakkaaCRepW0
import Derived.Test.YtgfcnkfmgpakkaaCRepW6
import Derived.Test.YtgfcnkfmgpakkaaGRepM
import Derived.Test.YtgfcnkfmgpakkaaGAppJ
import Derived.Test.YtgfcnkfmgpakkaaGBase
/-
The reference's Schedule once more: with the cut that it returns.
-/
namespace Go.Proofs.Ytgfcnkfmgpakkaa
open Go.RowKit
set_option linter.unusedVariables false
set_option linter.unusedSimpArgs false
theorem cut_of_sideQ {js : List GJob} {sup : List Int} {side : List Bool} {fl : List Int} {N T : Nat} (hN : js.length = N) (hT : sup.length = T) (hok : okP js sup = true) (hf : IsFlow ((T + N + 2 : Nat) : Int) (graphQ js sup) 0 ((T + N + 1 : Nat) : Int) fl) (hc : IsCut ((T + N + 2 : Nat) : Int) 0 ((T + N + 1 : Nat) : Int) side)
    (hcap : capac (graphQ js sup) side = net (graphQ js sup) fl 0) (hne : net (graphQ js sup) fl 0 ≠ allE js) : cutPB js sup (chosenTo side (1 + T) N) (chosenTo side 1 T) = true := by
  subst hN hT
  have hf' : IsFlow (sup.length + js.length + 2) (graphQ js sup) 0 (sup.length + js.length + 1) fl := by simpa using hf
  have hc' : IsCut (sup.length + js.length + 2) 0 (sup.length + js.length + 1) side := by simpa using hc
  have hle := netQ_all hf'
  have h := cutQ_plan (js := js) (sup := sup) hc' (by omega)
  unfold cutPB
  rw [hok, marksB_iff.2 (chosen_good side (1 + sup.length) js.length), marksB_iff.2 (chosen_good side 1 sup.length)]
  simp only [Bool.true_and, decide_eq_true_eq]
  have e1 : ∀ i, i < js.length → inL (chosenTo side (1 + sup.length) js.length) i = sAt side (1 + sup.length + i : Int) := fun i hi => by
    rw [chosen_in _ _ _ _ hi]
    unfold bAt sAt
    congr 2
  have e2 : ∀ t, t < sup.length → inL (chosenTo side 1 sup.length) t = sAt side (1 + t : Int) := fun t ht => by
    rw [chosen_in _ _ _ _ ht]
    unfold bAt sAt
    congr 2
  rw [needC_congr e1, roomC_congr e1 e2]
  exact h
theorem OwnR.rdA {w : World} {base n c : Nat} {a : Option Addr} {xs : List Int} (h : OwnN w base (.slice a n c) xs) : Rd 1 encI w a xs := by
  obtain ⟨a1, c1, e, r⟩ := h.rd encI_len1
  injection e with e1
  rw [e1]; exact r
/-- The cut of the reference's Schedule. -/
def RSCut (w : World) (js : List GJob) (sup : List Int) (a3 : Option Addr) (n3 : Nat) (a4 : Option Addr) (n4 c4 : Nat) (w' : World) : Prop :=
  ∃ cj cs : List Int, cj.length = n3 ∧ cs.length = n4 ∧ Rd 1 encI w' a3 cj ∧ Rd 1 encI w' a4 cs ∧ cj.length ≤ 12 ∧ cs.length ≤ 24 ∧ cutPB js sup cj cs = true ∧ FreshV w (.slice a4 n4 c4)
def RSPostC (w : World) (js : List GJob) (sup : List Int) (e : Ending) (w' : World) : Prop :=
  ∃ a l c a3 n3 c3 a4 n4 c4 er, e = .returned (.tuple #[.slice a l c, .agg #[.slice a3 n3 c3, .slice a4 n4 c4], .int .i64 er]) ∧ Below w.heap.size w w' ∧
    ((okP js sup = false ∧ er = 1) ∨ (okP js sup = true ∧ Met js sup ∧ er = 0) ∨ (okP js sup = true ∧ ¬ Met js sup ∧ er = 10 ∧ RSCut w js sup a3 n3 a4 n4 c4 w'))
set_option maxRecDepth 100000 in
set_option maxHeartbeats 8000000 in
theorem rpSchedule_cut (A A2 : Option Addr) (c N c2 T : Nat) (js : List GJob) (sup : List Int) (w : World) (hR : Rd 5 encJ w A js) (HN : Hid (js.length = N)) (hl : N ≤ 9223372036854775807) (hR2 : Rd 1 encI w A2 sup) (HN2 : Hid (sup.length = T)) (hl2 : T ≤ 9223372036854775807) :
    Calls Try.prog 68 #[.slice A N c, .slice A2 T c2] w (RSPostC w js sup) := by
  have a0 : Below w.heap.size w (w.alloc (.cells #[.slice none 0 0, .slice none 0 0] 30)) := (Below.refl _ w).alloc (Nat.le_refl _) _
  go_enter Try.func68, Try.ntmps68
  go_wp2_with fail
  refine (rpValid_any A A2 c N c2 T js sup _ (hR.keep a0) HN hl (hR2.keep a0) HN2 hl2).mono ?_
  rintro e w1 ⟨rfl, hb1⟩
  have o5 : Own w1 w.heap.size 30 2 (fun _ => .slice none 0 0) := (new_cut w).keep hb1 (by simp)
  have b1 := below_then a0 hb1
  clear hb1 a0
  cases hok : okP js sup
  · have c50 := o5.cell (i := 0) (by omega)
    have c51 := o5.cell (i := 1) (by omega)
    have f50 := o5.frozen 0
    have f51 := o5.frozen 1
    have HO := Lib.hid ((o5.set 0 (.slice none 0 0)).set 1 (.slice none 0 0))
    have HB := Lib.hid ((b1.setCell (p := ⟨w.heap.size, 0, none⟩) (by dsimp only; omega) (.slice none 0 0)).setCell (p := ⟨w.heap.size, 1, none⟩) (by dsimp only; omega) (.slice none 0 0))
    clear o5
    go_wp2
    refine bodyPost_ret (results_tct (t := 4) (a := 5) (x := 6) (by rfl) rfl (load_cut HO.out)) rfl ?_
    exact ⟨_, _, _, _, _, _, _, _, _, _, rfl, HB.out, .inl ⟨hok, rfl⟩⟩
  · have HOK := Lib.hid hok
    obtain ⟨⟨t1, t2⟩, _, _⟩ := okP_iff.1 hok
    rw [HN.out] at t1
    rw [HN2.out] at t2
    clear hok
    go_wp2_with fail
    refine (rpGraph_any A A2 c N c2 T js sup w1 (hR.keep b1) HN (hR2.keep b1) HN2 HOK).mono ?_
    rintro e w2 ⟨aG, dG, rfl, rG, hb2⟩
    have b2 := below_then b1 hb2
    have o52 := o5.keep hb2 o5.lt
    obtain ⟨L, hL⟩ : ∃ L, (graphQ js sup).length = L := ⟨_, rfl⟩
    rw [hL]
    have HL := Lib.hid hL
    have hLe : L = N * (T + 1) + T := by rw [← hL, graphQ_len, HN.out, HN2.out]
    have HLe := Lib.hid hLe
    have HEn : Hid (okEnds ((T + N + 2 : Nat) : Int) (graphQ js sup) ((0 : Nat) : Int) ((T + N + 1 : Nat) : Int) = true) := Lib.hid (by
      have := graphQ_ok HOK.out
      rw [HN.out, HN2.out] at this
      simpa using this)
    clear hL hLe o5 hb2 b1
    have hmo := rfMost_ok (T + N + 2) dG L 0 (T + N + 1) aG (graphQ js sup) w2 rG HL HEn
    have HMO := Lib.hid hmo
    clear hmo
    go_wp2_with fail
    refine HMO.out.mono ?_
    rintro e w3 ⟨gF, gs, fl, side, rfl, oF, oS, hf, hc, hcap, hb3, hgF, hgs⟩
    have b3 := below_then b2 hb3
    have o53 := o52.keep hb3 o52.lt
    have lo5 : w.heap.size < w2.heap.size := o52.lt
    obtain ⟨am, ham⟩ : ∃ am, am = net (graphQ js sup) fl ((0 : Nat) : Int) := ⟨_, rfl⟩
    have hbd := net_le_bound (okEnds_iff.1 HEn.out).1 hf ((0 : Nat) : Int)
    rw [← ham] at hbd ⊢
    have HMet : Hid (am = allE js ↔ Met js sup) := Lib.hid (mostQ_plan HOK.out ⟨fl, side, by
      have h := hf
      rw [HN.out, HN2.out]
      simpa using h, by
      have h := hc
      rw [HN.out, HN2.out]
      simpa using h, by rw [ham]; rfl, by rw [hcap, ham]⟩)
    have hsl : Hid (side.length = T + N + 2) := Lib.hid (by have := hc.len; omega)
    have HCUT : Hid (am ≠ allE js → cutPB js sup (chosenTo side (1 + T) N) (chosenTo side 1 T) = true) := Lib.hid (fun hne => cut_of_sideQ HN.out HN2.out HOK.out (by
      have h := hf
      simpa using h) (by
      have h := hc
      simpa using h) (by rw [hcap]; rfl) (by intro h; apply hne; rw [ham]; exact h))
    have HF := Lib.hid oF
    have HS := Lib.hid oS
    have HO5 := Lib.hid o53
    have HE := Lib.hid (fun (k : Nat) (hk : k < N) => (And.intro (okP_job HOK.out (i := k) (by rw [HN.out]; exact hk)).2.2.2.1 (okP_job HOK.out (i := k) (by rw [HN.out]; exact hk)).2.2.2.2.1))
    have hR3 := hR.keep b3
    clear hf hc hcap oF oS o52 o53 HMO ham rG HEn hb3 b2 hR hR2
    go_wp2_with fail
    refine (rpEnergy_any A c N js w3 hR3 HN t1 HE).mono ?_
    rintro e w' ⟨rfl, hw⟩
    have hw2 := hw.symm
    clear hw
    subst hw2
    generalize allE js = al at *
    have HB3 := Lib.hid b3
    clear b3 hR3
    by_cases heq : am = al
    · subst heq
      have HY : Hid (Met js sup) := Lib.hid (HMet.out.1 rfl)
      clear HCUT
      clear HMet
      go_wp2
      go_loopg [13, 14] N (fun g1 v13 v14 wr => ∃ (k : Nat) (rs : List RowV), v14 = .int .i64 k ∧ k ≤ N ∧ N - k ≤ g1 ∧ rs.length = k ∧ Hid (OwnS wr w3.heap.size v13 rs) ∧ Hid (Below w3.heap.size w3 wr))
      case atStart => exact ⟨0, [], by go_num, by omega, by omega, rfl, Lib.hid (OwnR.nil _ _), Lib.hid (Below.refl _ _)⟩
      case round =>
        obtain ⟨k, rs, rfl, hk, hg1, hrs, HO, HB⟩ := hrel
        by_cases hlt : k < N
        · have hltz : (k : Int) < (N : Int) := by omega
          have HO' := HO
          have HB' := HB
          clear HO HB
          generalize hwr : wr = w4 at *
          clear hwr
          go_wp2
          go_loopg [15, 16] T (fun g1 v15 v16 wr => ∃ (s : Nat) (xs : List Int), v16 = .int .i64 s ∧ s ≤ T ∧ T - s ≤ g1 ∧ xs.length = s ∧ Hid (OwnN wr w4.heap.size v15 xs) ∧ Hid (Below w4.heap.size w4 wr))
          case atStart => exact ⟨0, [], by go_num, by omega, by omega, rfl, Lib.hid (OwnR.nil _ _), Lib.hid (Below.refl _ _)⟩
          case round =>
            obtain ⟨s, xs, rfl, hs, hg2, hxs, HX, HBX⟩ := hrel
            by_cases hst : s < T
            · have hstz : (s : Int) < (T : Int) := by omega
              obtain ⟨ix, hix⟩ : ∃ ix, ix = k * (T + 1) + 1 + s := ⟨_, rfl⟩
              have hkm : k * (T + 1) + (T + 1) ≤ N * (T + 1) := by rw [← Nat.succ_mul]; exact Nat.mul_le_mul_right _ hlt
              have hk25 : k * (T + 1) ≤ 300 := Nat.le_trans (Nat.mul_le_mul (show k ≤ 12 by omega) (show T + 1 ≤ 25 by omega)) (by omega)
              have hixL : ix < L := by have := HLe.out; omega
              have hixz : (ix : Int) < (L : Int) := by omega
              have hmz : (k : Int) * ((T : Int) + 1) = ((k * (T + 1) : Nat) : Int) := by simp
              have hmb : 0 ≤ (k : Int) * ((T : Int) + 1) ∧ (k : Int) * ((T : Int) + 1) ≤ 300 := by rw [hmz]; omega
              have hadd : (k : Int) * ((T : Int) + 1) + 1 + (s : Int) = (ix : Int) := by rw [hmz]; omega
              have hcF := (((HF.out.keep HB'.out HF.out.lt).keep HBX.out (Nat.lt_of_lt_of_le HF.out.lt HB'.out.size))).cell hixL
              obtain ⟨ap1, v1', W2, av1, aw1, HO1, HA1⟩ := app_num (fAt fl ix) HX.out HBX.out.size (by omega)
              have HBX2 : Hid (Below w4.heap.size w4 W2) := Lib.hid (HBX.out.trans HA1.out.bel)
              clear HX HBX HA1 hmz hix hkm
              generalize fAt fl ix = fx at *
              go_wp2
              go_roundg (T - (s + 1))
              case measure => omega
              case rel => exact ⟨s + 1, _, by go_num, by omega, by omega, by rw [List.length_append, hxs]; rfl, HO1, HBX2⟩
            · have hstz : ¬ (s : Int) < (T : Int) := by omega
              obtain ⟨a1, d1, e1⟩ := HX.out.shape
              subst e1
              have hb5 := HBX.out
              have HO2 := HO'.out.keepB HBX.out
              have hsz := Nat.le_trans HB'.out.size HBX.out.size
              obtain ⟨ap1, v1', W2, av1, aw1, HO1, HA1⟩ := app_row a1 xs.length d1 HO2 hsz (by omega)
              have HB6 : Hid (Below w3.heap.size w3 W2) := Lib.hid ((HB'.out.trans (HBX.out.mono HB'.out.size)).trans HA1.out.bel)
              clear HX HBX HA1 hb5 HO2 hxs
              go_wp2
              go_roundg (N - (k + 1))
              case measure => omega
              case rel => exact ⟨k + 1, _, by go_num, by omega, by omega, by rw [List.length_append, hrs]; rfl, HO1, HB6⟩
        · have hltz : ¬ (k : Int) < (N : Int) := by omega
          have o6 := HO5.out.keep HB.out (Nat.lt_of_lt_of_le HO5.out.lt (Nat.le_refl _))
          have c50 := o6.cell (i := 0) (by omega)
          have c51 := o6.cell (i := 1) (by omega)
          have f50 := o6.frozen 0
          have f51 := o6.frozen 1
          have HO6 := Lib.hid ((o6.set 0 (.slice none 0 0)).set 1 (.slice none 0 0))
          have b6 := below_then HB3.out HB.out
          have HB6 := Lib.hid ((b6.setCell (p := ⟨w.heap.size, 0, none⟩) (by dsimp only; omega) (.slice none 0 0)).setCell (p := ⟨w.heap.size, 1, none⟩) (by dsimp only; omega) (.slice none 0 0))
          obtain ⟨a1, d1, e1⟩ := HO.out.shape
          subst e1
          clear o6 b6 HO HB
          go_wp2
          refine bodyPost_ret (results_tct (t := 4) (a := 5) (x := 6) (by rfl) rfl (load_cut HO6.out)) rfl ?_
          exact ⟨_, _, _, _, _, _, _, _, _, _, rfl, HB6.out, .inr (.inl ⟨HOK.out, HY.out, rfl⟩)⟩
    · have HY : Hid (¬ Met js sup) := Lib.hid (fun h => heq (HMet.out.2 h))
      have HCB := Lib.hid (HCUT.out heq)
      clear HCUT
      clear HMet
      have HC0 : Hid (CQm w3 (w3.alloc (.cells #[.slice none 0 0, .slice none 0 0] 30)) (.slice none 0 0) (.slice none 0 0) [] []) := Lib.hid ⟨(new_cut w3).congr (fun i hi => by split <;> rfl), OwnR.nil _ _, OwnR.nil _ _, ApartV.nil _, (Below.refl _ _).alloc (Nat.le_refl _) _⟩
      go_upto_region 19 with (fail)
      refine wp_world (fun W => CQm w3 W (.slice none 0 0) (.slice none 0 0) [] []) HC0.out ?_
      intro W0 M0
      have HM0 := Lib.hid M0
      clear M0 HC0
      go_wp2
      go_loopg [18] N (fun g1 v18 wr => ∃ (k : Nat) (v1 : Value) (xs : List Int), v18 = .int .i64 k ∧ k ≤ N ∧ N - k ≤ g1 ∧ xs.length ≤ k ∧ Hid (xs = chosenTo side (1 + T) k) ∧ Hid (CQm w3 wr v1 (.slice none 0 0) xs []))
      case atStart => exact ⟨0, _, [], by go_num, by omega, by omega, by simp, Lib.hid (by simp [chosenTo]), HM0⟩
      case round =>
        clear HM0
        obtain ⟨k, v1, xs, rfl, hk, hg1, hxs, HXS, HM⟩ := hrel
        by_cases hlt : k < N
        · have hltz : (k : Int) < (N : Int) := by omega
          have hcS := (HS.out.keep HM.out.bel HS.out.lt).cell (i := 1 + T + k) (by omega)
          have hixz : ((1 + T + k : Nat) : Int) < ((T + N + 2 : Nat) : Int) := by omega
          have cc : wr.cell? ⟨w3.heap.size, 0, none⟩ = some v1 := by have := HM.out.o.cell (i := 0) (by omega); simpa using this
          obtain ⟨ap, a5, l5, c5, w5, av, aw, e1, e2, HM5⟩ := HM.out.push1 (k : Int) (by omega)
          obtain ⟨ix, hix⟩ : ∃ ix, ix = 1 + T + k := ⟨_, rfl⟩
          have hadd : (1 : Int) + (T : Int) + (k : Int) = (ix : Int) := by omega
          rw [← hix] at hcS hixz
          have HIXE := Lib.hid hix
          clear hix
          have HIX : Hid (side[ix]?.getD false = bAt side (1 + T + k)) := Lib.hid (by rw [HIXE.out])
          cases hb : side[ix]?.getD false
          · have HXS2 : Hid (xs = chosenTo side (1 + T) (k + 1)) := Lib.hid (by rw [HXS.out, chosen_no (by rw [← HIX.out, hb])])
            rw [hb] at hcS
            clear HIX HXS
            clear ap av aw e1 e2 HM5
            go_wp2
            go_roundg (N - (k + 1))
            case measure => omega
            case rel => exact ⟨k + 1, v1, xs, by go_num, by omega, by omega, by omega, HXS2, HM⟩
          · have HXS2 : Hid (xs ++ [(k : Int)] = chosenTo side (1 + T) (k + 1)) := Lib.hid (by rw [HXS.out, chosen_yes (by rw [← HIX.out, hb])])
            rw [hb] at hcS
            clear HM HIX HXS
            go_wp2
            go_roundg (N - (k + 1))
            case measure => omega
            case rel => exact ⟨k + 1, _, _, by go_num, by omega, by omega, by simp; omega, HXS2, HM5⟩
        · have hltz : ¬ (k : Int) < (N : Int) := by omega
          have HXN : Hid (xs = chosenTo side (1 + T) N) := Lib.hid (by rw [HXS.out, show k = N by omega])
          have hx12 : xs.length ≤ 12 := by omega
          clear hlt hk hg1 HXS
          go_wp2
          go_loopg [19] T (fun g1 v19 wr => ∃ (k : Nat) (v2 : Value) (ys : List Int), v19 = .int .i64 k ∧ k ≤ T ∧ T - k ≤ g1 ∧ ys.length ≤ k ∧ Hid (ys = chosenTo side 1 k) ∧ Hid (CQm w3 wr v1 v2 xs ys))
          case atStart => exact ⟨0, _, [], by go_num, by omega, by omega, by simp, Lib.hid (by simp [chosenTo]), HM⟩
          case round =>
            clear HM
            obtain ⟨s, v2, ys, rfl, hs, hg2, hys, HYS, HM⟩ := hrel
            by_cases hst : s < T
            · have hstz : (s : Int) < (T : Int) := by omega
              have hcS := (HS.out.keep HM.out.bel HS.out.lt).cell (i := 1 + s) (by omega)
              have hixz : ((1 + s : Nat) : Int) < ((T + N + 2 : Nat) : Int) := by omega
              have cc : wr.cell? ⟨w3.heap.size, 1, none⟩ = some v2 := by have := HM.out.o.cell (i := 1) (by omega); simpa using this
              obtain ⟨ap, a5, l5, c5, w5, av, aw, e1, e2, HM5⟩ := HM.out.push2 (s : Int) (by omega)
              obtain ⟨ix, hix⟩ : ∃ ix, ix = 1 + s := ⟨_, rfl⟩
              have hadd : (1 : Int) + (s : Int) = (ix : Int) := by omega
              rw [← hix] at hcS hixz
              have HIXE := Lib.hid hix
              clear hix
              have HIX : Hid (side[ix]?.getD false = bAt side (1 + s)) := Lib.hid (by rw [HIXE.out])
              cases hb : side[ix]?.getD false
              · have HYS2 : Hid (ys = chosenTo side 1 (s + 1)) := Lib.hid (by rw [HYS.out, chosen_no (by rw [← HIX.out, hb])])
                rw [hb] at hcS
                clear HIX HYS
                clear ap av aw e1 e2 HM5
                go_wp2
                go_roundg (T - (s + 1))
                case measure => omega
                case rel => exact ⟨s + 1, v2, ys, by go_num, by omega, by omega, by omega, HYS2, HM⟩
              · have HYS2 : Hid (ys ++ [(s : Int)] = chosenTo side 1 (s + 1)) := Lib.hid (by rw [HYS.out, chosen_yes (by rw [← HIX.out, hb])])
                rw [hb] at hcS
                clear HM HIX HYS
                go_wp2
                go_roundg (T - (s + 1))
                case measure => omega
                case rel => exact ⟨s + 1, _, _, by go_num, by omega, by omega, by simp; omega, HYS2, HM5⟩
            · have hstz : ¬ (s : Int) < (T : Int) := by omega
              obtain ⟨a1, d1, e1⟩ := HM.out.o1.shape
              obtain ⟨a2, d2, e2⟩ := HM.out.o2.shape
              subst e1 e2
              have cc0 : wr.cell? ⟨w3.heap.size, 0, none⟩ = some (.slice a1 xs.length d1) := by have := HM.out.o.cell (i := 0) (by omega); simpa using this
              have cc1 : wr.cell? ⟨w3.heap.size, 1, none⟩ = some (.slice a2 ys.length d2) := by have := HM.out.o.cell (i := 1) (by omega); simpa using this
              have o6 := HO5.out.keep HM.out.bel HO5.out.lt
              have c50 := o6.cell (i := 0) (by omega)
              have c51 := o6.cell (i := 1) (by omega)
              have f50 := o6.frozen 0
              have f51 := o6.frozen 1
              have HO6 := Lib.hid (((o6.set 0 (.slice a1 xs.length d1)).set 1 (.slice a2 ys.length d2)).drew)
              have b6 := below_then HB3.out HM.out.bel
              have HB6 := Lib.hid (((b6.setCell (p := ⟨w.heap.size, 0, none⟩) (by dsimp only; omega) (.slice a1 xs.length d1)).setCell (p := ⟨w.heap.size, 1, none⟩) (by dsimp only; omega) (.slice a2 ys.length d2)).drew)
              have hl5' := HO5.out.lt
              have HC3 : Hid (RSCut w js sup a1 xs.length a2 ys.length d2 (((wr.setCell ⟨w.heap.size, 0, none⟩ (.slice a1 xs.length d1)).setCell ⟨w.heap.size, 1, none⟩ (.slice a2 ys.length d2)).drew)) := Lib.hid (by
                have hys : ys = chosenTo side 1 T := by rw [HYS.out, show s = T by omega]
                have hM : Mod (fun q => q = w.heap.size) wr (((wr.setCell ⟨w.heap.size, 0, none⟩ (.slice a1 xs.length d1)).setCell ⟨w.heap.size, 1, none⟩ (.slice a2 ys.length d2)).drew) := (((Mod.refl (fun q => q = w.heap.size) wr).setCell (p := ⟨w.heap.size, 0, none⟩) (.inl rfl) _).setCell (p := ⟨w.heap.size, 1, none⟩) (.inl rfl) _).drew
                have n1 : ∀ q, (Value.slice a1 xs.length d1).ownBlock = some q → ¬ q = w.heap.size := fun q hq e => by have := (World.ownsRow.lt HM.out.o1 q hq).1; omega
                have n2 : ∀ q, (Value.slice a2 ys.length d2).ownBlock = some q → ¬ q = w.heap.size := fun q hq e => by have := (World.ownsRow.lt HM.out.o2 q hq).1; omega
                refine ⟨xs, ys, rfl, rfl, (HM.out.o1.mod hM n1).rdA, (HM.out.o2.mod hM n2).rdA, hx12, by omega, by rw [HXN.out, hys]; exact HCB.out, fun q hq => by have := (World.ownsRow.lt HM.out.o2 q hq).1; omega⟩)
              have hne : w3.heap.size ≠ w.heap.size := by omega
              clear o6 b6 HM
              go_wp2
              go_region
              go_step
              go_wp2
              refine bodyPost_ret (results_tct (t := 4) (a := 5) (x := 6) (by rfl) rfl (load_cut HO6.out)) rfl ?_
              exact ⟨_, _, _, _, _, _, _, _, _, _, rfl, HB6.out, .inr (.inr ⟨HOK.out, HY.out, rfl, HC3.out⟩)⟩
end Go.Proofs.Ytgfcnkfmgpakkaa
/-
The reference's back: a cut of some jobs as one of all jobs.
-/
namespace Go.Proofs.Ytgfcnkfmgpakkaa
open Go.RowKit
set_option linter.unusedVariables false
set_option linter.unusedSimpArgs false
/-- The memory while the reference turns a cut back. -/
structure BKm (w W : World) (v1 v2 vin : Value) (xs1 ins : List Int) : Prop where
  o : Own W w.heap.size 30 2 (fun i => if i = 0 then v1 else v2)
  o1 : OwnN W (w.heap.size + 1) v1 xs1
  o2 : OwnN W (w.heap.size + 1) vin ins
  ap : ApartV v1 vin
  bel : Below w.heap.size w W
theorem BKm.push {w W : World} {v1 v2 vin : Value} {xs1 ins : List Int} (h : BKm w W v1 v2 vin xs1 ins) (k : Int) (hl : xs1.length ≤ 100000) :
    Appends Try.prog (W.alloc (.cells #[.int .i64 k] 3)) 23 23 v1 (.slice (some ⟨W.heap.size, 0, none⟩) 1 1) ∧
    ∃ a' l' c' w1, appV Try.prog (W.alloc (.cells #[.int .i64 k] 3)) 23 23 v1 (.slice (some ⟨W.heap.size, 0, none⟩) 1 1) = .slice a' l' c' ∧ appW Try.prog (W.alloc (.cells #[.int .i64 k] 3)) 23 23 v1 (.slice (some ⟨W.heap.size, 0, none⟩) 1 1) = w1 ∧
      w1.cell? ⟨w.heap.size, 0, none⟩ = some v1 ∧ w1.frozen? ⟨w.heap.size, 0, none⟩ = false ∧ Hid (BKm w (w1.setCell ⟨w.heap.size, 0, none⟩ (.slice a' l' c')) (.slice a' l' c') v2 vin (xs1 ++ [k]) ins) := by
  have hsz := h.o.lt
  obtain ⟨ap, v', w1, av, aw, ho, ha⟩ := app_num k h.o1 (by omega) hl
  obtain ⟨a', c', e'⟩ := ho.out.shape
  generalize (xs1 ++ [k]).length = l' at e'
  subst e'
  have o' : Own w1 w.heap.size 30 2 (fun i => if i = 0 then v1 else v2) := h.o.keep ha.out.bel (by omega)
  obtain ⟨oo, aa⟩ := ha.out.row h.o2 h.ap
  have hM : Mod (fun q => q = w.heap.size) w1 (w1.setCell ⟨w.heap.size, 0, none⟩ (.slice a' l' c')) := (Mod.refl (fun q => q = w.heap.size) w1).setCell (p := ⟨w.heap.size, 0, none⟩) (.inl rfl) _
  refine ⟨ap, a', l', c', w1, av, aw, ?_, o'.frozen 0, Lib.hid ⟨(o'.set 0 _).congr (fun i hi => ?_), ho.out.mod hM (fun q hq e => ?_), oo.mod hM (fun q hq e => ?_), aa, ?_⟩⟩
  · have := o'.cell (i := 0) (by omega)
    simpa using this
  · rcases i with _ | _ | i
    · simp
    · simp
    · omega
  · have := (World.ownsRow.lt ho.out q hq).1; omega
  · have := (World.ownsRow.lt oo q hq).1; omega
  · exact (h.bel.trans (ha.out.bel.mono (by omega))).trans (hM.below (Nat.le_trans h.bel.size ha.out.bel.size) (fun q _ hq => by omega))
def BackPost (w : World) (cj l : List Int) (N : Nat) (a4 : Option Addr) (n4 c4 : Nat) (e : Ending) (w' : World) : Prop :=
  ∃ a5 n5 c5, e = .returned (.agg #[.slice a5 n5 c5, .slice a4 n4 c4]) ∧ (upTo (nameL l cj) N).length = n5 ∧ Rd 1 encI w' a5 (upTo (nameL l cj) N) ∧ FreshV w (.slice a5 n5 c5) ∧ Below w.heap.size w w'
set_option maxRecDepth 100000 in
set_option maxHeartbeats 8000000 in
theorem rrBack_any (A3 A4 A2 : Option Addr) (c3 n3 c4 n4 c2 M N : Nat) (cj l : List Int) (w : World) (hR3 : Rd 1 encI w A3 cj) (HN3 : Hid (cj.length = n3)) (hl3 : n3 ≤ 12) (hR2 : Rd 1 encI w A2 l) (HM : Hid (l.length = M)) (hM : M ≤ 12) (hN : N ≤ 12) (HV : Hid (ValidL M cj)) :
    Calls Try.prog 78 #[.agg #[.slice A3 n3 c3, .slice A4 n4 c4], .slice A2 M c2, .int .i64 N] w (BackPost w cj l N A4 n4 c4) := by
  obtain ⟨W0, hW0⟩ : ∃ W0, W0 = (w.alloc (.cells #[.slice A3 n3 c3, .slice A4 n4 c4] 30)).alloc (.cells #[.slice none 0 0, .slice none 0 0] 30) := ⟨_, rfl⟩
  have hs0 : W0.heap.size = w.heap.size + 1 + 1 := by rw [hW0]; simp
  have b0 : Below w.heap.size w W0 := by rw [hW0]; exact ((Below.refl _ w).alloc (Nat.le_refl _) _).alloc (by simp) _
  have k0 : W0.cell? ⟨w.heap.size, 0, none⟩ = some (.slice A3 n3 c3) := by rw [hW0]; go_simp
  have hres : Own W0 (w.heap.size + 1) 30 2 (fun _ => .slice none 0 0) := by
    have := new_cut (w.alloc (.cells #[.slice A3 n3 c3, .slice A4 n4 c4] 30))
    rw [World.size_alloc] at this
    rw [hW0]; exact this
  have h7 : Own (W0.alloc (.cells #[.slice none 0 0, .slice A4 n4 c4] 30)) W0.heap.size 30 2 (fun i => if i = 0 then .slice none 0 0 else .slice A4 n4 c4) := Own.newAt _ _ _ _ rfl (n := 2) rfl (fun i hi => by
    rcases i with _ | _ | i
    · rfl
    · rfl
    · omega)
  have HW0 := Lib.hid hW0
  have HS0 := Lib.hid hs0
  have HB0 := Lib.hid b0
  have HK0 := Lib.hid k0
  have HRES := Lib.hid hres
  have HR3 := Lib.hid (hR3.keep b0)
  have HR2 := Lib.hid (hR2.keep b0)
  have H7 := Lib.hid h7
  clear hR3 hR2 hW0 hs0 b0 k0 hres h7
  go_enter Try.func78, Try.ntmps78
  go_upto_region 2 with (fail)
  rw [← HW0.out, ← HS0.out]
  refine wp_world (fun X => Own X W0.heap.size 30 2 (fun i => if i = 0 then .slice none 0 0 else .slice A4 n4 c4) ∧ Below W0.heap.size W0 X ∧ W0.heap.size + 1 ≤ X.heap.size) ⟨H7.out, (Below.refl _ _).alloc (Nat.le_refl _) _, by simp⟩ ?_
  clear H7
  rintro X ⟨h7, hbx, hsx⟩
  have H7 := Lib.hid h7
  have HBX := Lib.hid hbx
  have hw0 : w.heap.size < W0.heap.size := by have := HS0.out; omega
  clear h7 hbx
  go_wp2_with fail
  go_loopg [8, 9] n3 (fun g1 v8 v9 wr => ∃ k : Nat, v9 = .int .i64 k ∧ k ≤ n3 ∧ n3 - k ≤ g1 ∧ W0.heap.size + 1 ≤ wr.heap.size ∧ Hid (OwnN wr (W0.heap.size + 1) v8 (nameL l (cj.take k))) ∧ Hid (Own wr W0.heap.size 30 2 (fun i => if i = 0 then .slice none 0 0 else .slice A4 n4 c4)) ∧ Hid (Below W0.heap.size W0 wr))
  case atStart => exact ⟨0, by go_num, by omega, by omega, hsx, Lib.hid (OwnR.nil _ _), H7, HBX⟩
  case round =>
    clear H7 HBX hsx
    obtain ⟨k, rfl, hk, hg1, hsr, HX, H7, HB⟩ := hrel
    have kb : wr.cell? ⟨w.heap.size, 0, none⟩ = some (.slice A3 n3 c3) := (HB.out.cell (p := ⟨w.heap.size, 0, none⟩) hw0).trans HK0.out
    by_cases hlt : k < n3
    · have hltz : (k : Int) < (n3 : Int) := by omega
      obtain ⟨b3, o3, x, hA3, hb3, hx, hxo⟩ := (HR3.out.keep HB.out).at_ (k := k) (by rw [HN3.out]; exact hlt)
      have hxo0 : wr.cell? ⟨b3, o3 + k, none⟩ = some (.int .i64 x) := by have := hxo 0 _ rfl; simpa using this
      have hvx := HV.out x (List.mem_of_getElem? hx)
      obtain ⟨xn, hxn⟩ : ∃ xn : Nat, x = xn := ⟨x.toNat, by omega⟩
      subst hxn
      have hxnz : (xn : Int) < (M : Int) := hvx.2
      obtain ⟨b2, o2, hA2, hb2, hyo⟩ := (HR2.out.keep HB.out).int (k := xn) (by rw [HM.out]; omega)
      have hsn := nameL_snoc (l := l) hx
      obtain ⟨y, hy⟩ : ∃ y, l[xn]?.getD 0 = y := ⟨_, rfl⟩
      rw [hy] at hyo
      have hfy : fAt l (Int.toNat (xn : Int)) = y := by rw [Int.toNat_natCast]; exact hy
      rw [hfy] at hsn
      obtain ⟨ap, v', w5, av, aw, HO1, HA1⟩ := app_num y HX.out hsr (by rw [nameL_len, List.length_take]; omega)
      have HX2 : Hid (OwnN w5 (W0.heap.size + 1) v' (nameL l (cj.take (k + 1)))) := Lib.hid (by rw [hsn]; exact HO1.out)
      have H72 := Lib.hid (H7.out.keep HA1.out.bel (by omega))
      have HB2 : Hid (Below W0.heap.size W0 w5) := Lib.hid (HB.out.trans (HA1.out.bel.mono (by omega)))
      have hs5 : W0.heap.size + 1 ≤ w5.heap.size := Nat.le_trans hsr HA1.out.bel.size
      subst hA3 hA2
      clear hx hxo hsn hy hfy HX H7 HB HO1 HA1
      go_wp2_with fail
      go_roundg (n3 - (k + 1))
      case measure => omega
      case rel => exact ⟨k + 1, by go_num, by omega, by omega, hs5, HX2, H72, HB2⟩
    · have hltz : ¬ (k : Int) < (n3 : Int) := by omega
      have hx := HX.out
      rw [List.take_of_length_le (by rw [HN3.out]; omega)] at hx
      obtain ⟨a8, d8, e8⟩ := hx.shape
      rw [nameL_len, HN3.out] at e8
      subst e8
      obtain ⟨ins, hins⟩ : ∃ ins, ins = nameL l cj := ⟨_, rfl⟩
      have HLI : Hid (ins.length = n3) := Lib.hid (by rw [hins, nameL_len, HN3.out])
      have HM0 : Hid (BKm W0 wr (.slice none 0 0) (.slice A4 n4 c4) (.slice a8 n3 d8) (upTo ins 0) ins) := Lib.hid ⟨H7.out, OwnR.nil _ _, by rw [hins]; exact hx, ApartV.nil _, HB.out⟩
      have HINS := Lib.hid hins
      clear hx HX H7 HB hins
      go_wp2_with fail
      clear kb
      go_loopg [10] N (fun g2 v10 wr => ∃ (q : Nat) (v1 : Value), v10 = .int .i64 q ∧ q ≤ N ∧ N - q ≤ g2 ∧ Hid (BKm W0 wr v1 (.slice A4 n4 c4) (.slice a8 n3 d8) (upTo ins q) ins))
      case atStart => exact ⟨0, _, by go_num, by omega, by omega, HM0⟩
      case round =>
        clear HM0
        obtain ⟨q, v1, rfl, hq, hg2, HMq⟩ := hrel
        by_cases hqN : q < N
        · have hqz : (q : Int) < (N : Int) := by omega
          have h1 := Lib.hid (rrHas_any a8 d8 n3 ins (q : Int) wr HMq.out.o2.rdA HLI (by omega))
          have hul := upTo_len ins q
          cases hh : hasB ins (q : Int)
          · rw [hh] at h1
            have HM2 : Hid (BKm W0 wr v1 (.slice A4 n4 c4) (.slice a8 n3 d8) (upTo ins (q + 1)) ins) := Lib.hid (by
              have e : upTo ins (q + 1) = upTo ins q := by
                show upTo ins q ++ _ = _
                rw [if_neg (fun h => by have := hasB_iff.2 (show (q : Int) ∈ ins by unfold inL at h; simpa using h); rw [hh] at this; cases this), List.append_nil]
              rw [e]; exact HMq.out)
            clear hh HMq
            go_wp2_with fail
            refine h1.out.mono ?_
            rintro e w9 ⟨rfl, rfl⟩
            go_wp2_with fail
            go_roundg (N - (q + 1))
            case measure => omega
            case rel => exact ⟨q + 1, v1, by go_num, by omega, by omega, HM2⟩
          · rw [hh] at h1
            have cc : wr.cell? ⟨W0.heap.size, 0, none⟩ = some v1 := by have := HMq.out.o.cell (i := 0) (by omega); simpa using this
            obtain ⟨ap, a5, l5, c5, w5, av, aw, e1, e2, HM5⟩ := HMq.out.push (q : Int) (by omega)
            have HM2 : Hid (BKm W0 (w5.setCell ⟨W0.heap.size, 0, none⟩ (.slice a5 l5 c5)) (.slice a5 l5 c5) (.slice A4 n4 c4) (.slice a8 n3 d8) (upTo ins (q + 1)) ins) := Lib.hid (by
              have e : upTo ins (q + 1) = upTo ins q ++ [(q : Int)] := by
                show upTo ins q ++ _ = _
                rw [if_pos (by unfold inL; simpa using hasB_iff.1 hh)]
              rw [e]; exact HM5.out)
            clear hh HMq HM5
            go_wp2_with fail
            refine h1.out.mono ?_
            rintro e w9 ⟨rfl, rfl⟩
            go_wp2_with fail
            go_roundg (N - (q + 1))
            case measure => omega
            case rel => exact ⟨q + 1, _, by go_num, by omega, by omega, HM2⟩
        · have hqz : ¬ (q : Int) < (N : Int) := by omega
          obtain ⟨a1, d1, e1⟩ := HMq.out.o1.shape
          obtain ⟨n1, hn1⟩ : ∃ n1, (upTo ins q).length = n1 := ⟨_, rfl⟩
          rw [hn1] at e1
          subst e1
          have cc0 : wr.cell? ⟨W0.heap.size, 0, none⟩ = some (.slice a1 n1 d1) := by have := HMq.out.o.cell (i := 0) (by omega); simpa using this
          have cc1 : wr.cell? ⟨W0.heap.size, 1, none⟩ = some (.slice A4 n4 c4) := by have := HMq.out.o.cell (i := 1) (by omega); simpa using this
          have hw1 : w.heap.size + 1 < W0.heap.size := by have := HS0.out; omega
          have o6 := HRES.out.keep HMq.out.bel hw1
          have c50 := o6.cell (i := 0) (by omega)
          have c51 := o6.cell (i := 1) (by omega)
          have f50 := o6.frozen 0
          have f51 := o6.frozen 1
          have HO6 := Lib.hid ((o6.set 0 (.slice a1 n1 d1)).set 1 (.slice A4 n4 c4))
          have hM : Mod (fun q => q = w.heap.size + 1) wr ((wr.setCell ⟨w.heap.size + 1, 0, none⟩ (.slice a1 n1 d1)).setCell ⟨w.heap.size + 1, 1, none⟩ (.slice A4 n4 c4)) := ((Mod.refl (fun q => q = w.heap.size + 1) wr).setCell (p := ⟨w.heap.size + 1, 0, none⟩) (.inl rfl) _).setCell (p := ⟨w.heap.size + 1, 1, none⟩) (.inl rfl) _
          have bw := below_then HB0.out HMq.out.bel
          have HFIN : Hid (BackPost w cj l N A4 n4 c4 (.returned (.agg #[.slice a1 n1 d1, .slice A4 n4 c4])) ((wr.setCell ⟨w.heap.size + 1, 0, none⟩ (.slice a1 n1 d1)).setCell ⟨w.heap.size + 1, 1, none⟩ (.slice A4 n4 c4))) := Lib.hid (by
            have hqe : q = N := by omega
            have hlt1 : ∀ p, (Value.slice a1 n1 d1).ownBlock = some p → W0.heap.size + 1 ≤ p := fun p hp => (World.ownsRow.lt HMq.out.o1 p hp).1
            have r1 := (HMq.out.o1.mod hM (fun p hp e => by have := hlt1 p hp; omega)).rdA
            rw [hqe] at r1 hn1
            rw [HINS.out] at r1 hn1
            refine ⟨a1, n1, d1, rfl, hn1, r1, fun p hp => by have := hlt1 p hp; omega, ?_⟩
            exact bw.trans (hM.below bw.size (fun p _ hp => by omega)))
          have hne : W0.heap.size ≠ w.heap.size + 1 := by omega
          clear o6 bw HMq hM hn1
          go_wp2_with fail
          refine bodyPost_ret (results_cA (a := 6) (by rfl) rfl (load_cut HO6.out)) rfl ?_
          exact HFIN.out
end Go.Proofs.Ytgfcnkfmgpakkaa
/-
'append(append([]int{}, list...), numbers...)' in each order that a draw allows.
-/
namespace Go.Proofs.Ytgfcnkfmgpakkaa
open Go.RowKit
set_option linter.unusedVariables false
theorem app_argN {w : World} {base : Nat} {v : Value} {xs ys : List Int} {A : Option Addr} {m c : Nat} (h : OwnN w base v xs) (hy : Rd 1 encI w A ys) (hym : ys.length = m) (hb : base ≤ w.heap.size) (hl : (xs.length + m) * 8 ≤ 140737488355328) :
    Appends Try.prog w 23 23 v (.slice A m c) ∧ ∃ v' w1, appV Try.prog w 23 23 v (.slice A m c) = v' ∧ appW Try.prog w 23 23 v (.slice A m c) = w1 ∧ Hid (OwnN w1 base v' (xs ++ ys)) ∧ Hid (Aside base v v' w w1) :=
  app_argR appInfoNum Try.underlying23 rfl (by omega) encI_len1 encI_one h hy hym hb (by unfold maxLen; omega) hl
theorem own_none0 (W : World) (base : Nat) (h : base ≤ W.heap.size) : OwnN (W.alloc (.cells #[] 3)) base (.slice (some ⟨W.heap.size, 0, none⟩) 0 0) [] := OwnR.made W #[] 0 (by unfold maxLen; omega) rfl h
section
variable {W : World} {A : Option Addr} {js ys : List Int} {N c m n : Nat} {mc lit : Array Value}
theorem nrd_litA (hlit : lit = (ys.flatMap encI).toArray) (W : World) : Rd 1 encI (W.alloc (.cells lit 3)) (some ⟨W.heap.size, 0, none⟩) ys := by
  rw [hlit]
  exact (Own.new W 3 (ys.flatMap encI).toArray undef).rd (by rw [List.size_toArray, flatR_len encI_len1]; exact Nat.le_refl _) encI_len1 (fun k x hx j v hv => by
    show (ys.flatMap encI).toArray[k * 1 + j]?.getD undef = v
    rw [List.getElem?_toArray, flatR_at encI_len1 ys k j x v hx hv]; rfl)
theorem ntwo_apps {W0 : World} {base L : Nat} {v0 : Value} (own : OwnN W0 base v0 []) (hb : base ≤ W0.heap.size) (rd : Rd 1 encI W0 A js) (hN : js.length = N) (rdl : Rd 1 encI W0 (some ⟨L, 0, none⟩) ys) (hL : v0.ownBlock ≠ some L) (hm : ys.length = m) (hs : (N + m) * 8 ≤ 140737488355328) :
    Appends Try.prog W0 23 23 v0 (.slice A N c) ∧ ∃ v1 W1, appV Try.prog W0 23 23 v0 (.slice A N c) = v1 ∧ appW Try.prog W0 23 23 v0 (.slice A N c) = W1 ∧
      Appends Try.prog W1 23 23 v1 (.slice (some ⟨L, 0, none⟩) m m) ∧ ∃ v2 W2, appV Try.prog W1 23 23 v1 (.slice (some ⟨L, 0, none⟩) m m) = v2 ∧ appW Try.prog W1 23 23 v1 (.slice (some ⟨L, 0, none⟩) m m) = W2 ∧
        OwnN W2 base v2 (js ++ ys) ∧ Below base W0 W1 ∧ Below base W0 W2 := by
  obtain ⟨p1, v1, W1, av1, aw1, o1, s1⟩ := app_argN (c := c) own rd hN hb (by simp; omega)
  have rdl1 : Rd 1 encI W1 (some ⟨L, 0, none⟩) ys := by
    intro h0
    obtain ⟨b, off, e, hlt, hc⟩ := rdl h0
    injection e with e
    injection e with e1 e2
    subst e1 e2
    exact ⟨_, _, rfl, Nat.lt_of_lt_of_le hlt s1.out.bel.size, fun k x hx j v hv => s1.out.cell (hc k x hx j v hv) hL⟩
  obtain ⟨p2, v2, W2, av2, aw2, o2, s2⟩ := app_argN (c := m) o1.out rdl1 hm (Nat.le_trans hb s1.out.bel.size) (by rw [List.nil_append, hN]; exact hs)
  exact ⟨p1, v1, W1, av1, aw1, p2, v2, W2, av2, aw2, o2.out, s1.out.bel, s1.out.bel.trans s2.out.bel⟩
/-- The literal first. -/
theorem nmade_A (hown : ∀ (W : World) (base : Nat), base ≤ W.heap.size → OwnN (W.alloc (.cells mc 3)) base (.slice (some ⟨W.heap.size, 0, none⟩) 0 n) []) (rd : Rd 1 encI W A js) (hN : js.length = N) (hlit : lit = (ys.flatMap encI).toArray) (hm : ys.length = m) (hs : (N + m) * 8 ≤ 140737488355328) :
    Appends Try.prog ((W.alloc (.cells lit 3)).alloc (.cells mc 3)).drew 23 23 (.slice (some ⟨W.heap.size + 1, 0, none⟩) 0 n) (.slice A N c) ∧ ∃ v1 W1, appV Try.prog ((W.alloc (.cells lit 3)).alloc (.cells mc 3)).drew 23 23 (.slice (some ⟨W.heap.size + 1, 0, none⟩) 0 n) (.slice A N c) = v1 ∧ appW Try.prog ((W.alloc (.cells lit 3)).alloc (.cells mc 3)).drew 23 23 (.slice (some ⟨W.heap.size + 1, 0, none⟩) 0 n) (.slice A N c) = W1 ∧
      Appends Try.prog W1 23 23 v1 (.slice (some ⟨W.heap.size, 0, none⟩) m m) ∧ ∃ v2 W2, appV Try.prog W1 23 23 v1 (.slice (some ⟨W.heap.size, 0, none⟩) m m) = v2 ∧ appW Try.prog W1 23 23 v1 (.slice (some ⟨W.heap.size, 0, none⟩) m m) = W2 ∧
        Hid (OwnN W2 W.heap.size v2 (js ++ ys)) ∧ Hid (Below W.heap.size W W1) ∧ Hid (Below W.heap.size W W2) := by
  have ba : Below W.heap.size W (W.alloc (.cells lit 3)) := (Below.refl _ _).alloc (Nat.le_refl _) _
  have bb : Below W.heap.size W ((W.alloc (.cells lit 3)).alloc (.cells mc 3)).drew := (ba.alloc (by simp) _).drew
  have o := hown (W.alloc (.cells lit 3)) W.heap.size (by simp)
  rw [World.size_alloc] at o
  have rl : Rd 1 encI ((W.alloc (.cells lit 3)).alloc (.cells mc 3)).drew (some ⟨W.heap.size, 0, none⟩) ys := (nrd_litA hlit W).keep (((Below.refl _ _).alloc (Nat.le_refl _) _).drew)
  obtain ⟨p1, v1, W1, av1, aw1, p2, v2, W2, av2, aw2, o2, x1, x2⟩ := ntwo_apps (W0 := ((W.alloc (.cells lit 3)).alloc (.cells mc 3)).drew) (c := c) o bb.size (rd.keep bb) hN rl (by simp [Value.ownBlock]) hm hs
  exact ⟨p1, v1, W1, av1, aw1, p2, v2, W2, av2, aw2, Lib.hid o2, Lib.hid (bb.trans x1), Lib.hid (bb.trans x2)⟩
/-- The literal between. -/
theorem nmade_B (hown : ∀ (W : World) (base : Nat), base ≤ W.heap.size → OwnN (W.alloc (.cells mc 3)) base (.slice (some ⟨W.heap.size, 0, none⟩) 0 n) []) (rd : Rd 1 encI W A js) (hN : js.length = N) (hlit : lit = (ys.flatMap encI).toArray) (hm : ys.length = m) (hs : (N + m) * 8 ≤ 140737488355328) :
    Appends Try.prog ((W.alloc (.cells mc 3)).alloc (.cells lit 3)).drew 23 23 (.slice (some ⟨W.heap.size, 0, none⟩) 0 n) (.slice A N c) ∧ ∃ v1 W1, appV Try.prog ((W.alloc (.cells mc 3)).alloc (.cells lit 3)).drew 23 23 (.slice (some ⟨W.heap.size, 0, none⟩) 0 n) (.slice A N c) = v1 ∧ appW Try.prog ((W.alloc (.cells mc 3)).alloc (.cells lit 3)).drew 23 23 (.slice (some ⟨W.heap.size, 0, none⟩) 0 n) (.slice A N c) = W1 ∧
      Appends Try.prog W1 23 23 v1 (.slice (some ⟨W.heap.size + 1, 0, none⟩) m m) ∧ ∃ v2 W2, appV Try.prog W1 23 23 v1 (.slice (some ⟨W.heap.size + 1, 0, none⟩) m m) = v2 ∧ appW Try.prog W1 23 23 v1 (.slice (some ⟨W.heap.size + 1, 0, none⟩) m m) = W2 ∧
        Hid (OwnN W2 W.heap.size v2 (js ++ ys)) ∧ Hid (Below W.heap.size W W1) ∧ Hid (Below W.heap.size W W2) := by
  have ba : Below W.heap.size W (W.alloc (.cells mc 3)) := (Below.refl _ _).alloc (Nat.le_refl _) _
  have bb : Below W.heap.size W ((W.alloc (.cells mc 3)).alloc (.cells lit 3)).drew := (ba.alloc (by simp) _).drew
  have o : OwnN ((W.alloc (.cells mc 3)).alloc (.cells lit 3)).drew W.heap.size (.slice (some ⟨W.heap.size, 0, none⟩) 0 n) [] := (hown W W.heap.size (Nat.le_refl _)).alloc _
  have rl : Rd 1 encI ((W.alloc (.cells mc 3)).alloc (.cells lit 3)).drew (some ⟨W.heap.size + 1, 0, none⟩) ys := by
    have h := nrd_litA hlit (W.alloc (.cells mc 3))
    rw [World.size_alloc] at h
    exact h
  obtain ⟨p1, v1, W1, av1, aw1, p2, v2, W2, av2, aw2, o2, x1, x2⟩ := ntwo_apps (W0 := ((W.alloc (.cells mc 3)).alloc (.cells lit 3)).drew) (c := c) o bb.size (rd.keep bb) hN rl (by simp [Value.ownBlock]) hm hs
  exact ⟨p1, v1, W1, av1, aw1, p2, v2, W2, av2, aw2, Lib.hid o2, Lib.hid (bb.trans x1), Lib.hid (bb.trans x2)⟩
/-- The literal last. -/
theorem nmade_C (hown : ∀ (W : World) (base : Nat), base ≤ W.heap.size → OwnN (W.alloc (.cells mc 3)) base (.slice (some ⟨W.heap.size, 0, none⟩) 0 n) []) (rd : Rd 1 encI W A js) (hN : js.length = N) (hlit : lit = (ys.flatMap encI).toArray) (hm : ys.length = m) (hs : (N + m) * 8 ≤ 140737488355328) :
    Appends Try.prog (W.alloc (.cells mc 3)).drew 23 23 (.slice (some ⟨W.heap.size, 0, none⟩) 0 n) (.slice A N c) ∧ ∃ v1 W1, appV Try.prog (W.alloc (.cells mc 3)).drew 23 23 (.slice (some ⟨W.heap.size, 0, none⟩) 0 n) (.slice A N c) = v1 ∧ appW Try.prog (W.alloc (.cells mc 3)).drew 23 23 (.slice (some ⟨W.heap.size, 0, none⟩) 0 n) (.slice A N c) = W1 ∧
      Appends Try.prog (W1.alloc (.cells lit 3)) 23 23 v1 (.slice (some ⟨W1.heap.size, 0, none⟩) m m) ∧ ∃ v2 W2, appV Try.prog (W1.alloc (.cells lit 3)) 23 23 v1 (.slice (some ⟨W1.heap.size, 0, none⟩) m m) = v2 ∧ appW Try.prog (W1.alloc (.cells lit 3)) 23 23 v1 (.slice (some ⟨W1.heap.size, 0, none⟩) m m) = W2 ∧
        Hid (OwnN W2 W.heap.size v2 (js ++ ys)) ∧ Hid (Below W.heap.size W W1) ∧ Hid (Below W.heap.size W W2) := by
  have bb : Below W.heap.size W (W.alloc (.cells mc 3)).drew := ((Below.refl _ _).alloc (Nat.le_refl _) _).drew
  have o : OwnN (W.alloc (.cells mc 3)).drew W.heap.size (.slice (some ⟨W.heap.size, 0, none⟩) 0 n) [] := hown W W.heap.size (Nat.le_refl _)
  obtain ⟨p1, v1, W1, av1, aw1, o1, s1⟩ := app_argN (w := (W.alloc (.cells mc 3)).drew) (c := c) o (rd.keep bb) hN bb.size (by simp; omega)
  have hb1 := Nat.le_trans bb.size s1.out.bel.size
  have bc : Below W1.heap.size W1 (W1.alloc (.cells lit 3)) := (Below.refl _ _).alloc (Nat.le_refl _) _
  obtain ⟨p2, v2, W2, av2, aw2, o2, s2⟩ := app_argN (w := W1.alloc (.cells lit 3)) (c := m) (o1.out.alloc _) (nrd_litA hlit W1) hm (Nat.le_trans hb1 bc.size) (by rw [List.nil_append, hN]; exact hs)
  refine ⟨p1, v1, W1, av1, aw1, p2, v2, W2, av2, aw2, Lib.hid o2.out, Lib.hid (bb.trans s1.out.bel), Lib.hid ?_⟩
  exact ((bb.trans s1.out.bel).trans (bc.mono hb1)).trans s2.out.bel
end
end Go.Proofs.Ytgfcnkfmgpakkaa
/-
The reference's Keep of replan, walked.
-/
namespace Go.Proofs.Ytgfcnkfmgpakkaa
open Go.RowKit
set_option linter.unusedVariables false
set_option linter.unusedSimpArgs false
theorem goodTo_lt {xs : List Int} {N : Int} (h : xs.Pairwise (· < ·)) (hv : ∀ x, x ∈ xs → 0 ≤ x ∧ x < N) : goodTo xs N xs.length := by
  intro i hi
  have h1 := hv _ (fAt_mem hi)
  refine ⟨?_, h1.2⟩
  cases i with
  | zero => show (-1 : Int) < _; omega
  | succ i => exact lt_fAt h (by omega) hi
/-- The cut turned back explains why the job is broken. -/
theorem expl_back {js : List GJob} {sup kept cj cs : List Int} {i : Int} (hok : okP js sup = true) (hn : (kept ++ [i]).Nodup) (hv : ValidL js.length (kept ++ [i])) (hmet : Met (someJ js kept) sup) (hl : kept.length < 12) (hc : cutPB (someJ js (kept ++ [i])) sup cj cs = true) :
    expl js sup (upTo (nameL (kept ++ [i]) cj) js.length, cs) i kept := by
  refine expl_named hok hn hv hmet hl hc (goodTo_lt (upTo_lt _ _) (fun x hx => by have := mem_upTo.1 hx; omega)) (fun x => ?_)
  have hg := good_valid (cutPB_iff.1 hc).2.1
  rw [someJ_len] at hg
  rw [mem_upTo]
  unfold nameL
  rw [List.mem_map]
  constructor
  · rintro ⟨_, _, k, hk, e⟩
    exact ⟨k, hk, e.symm⟩
  · rintro ⟨k, hk, e⟩
    have h1 := hg k hk
    have h2 := hv _ (fAt_mem (l := kept ++ [i]) (k := k.toNat) (by omega))
    rw [← e] at h2
    exact ⟨h2.1, h2.2, k, hk, e.symm⟩
set_option maxRecDepth 100000 in
set_option maxHeartbeats 8000000 in
theorem rrKeep_any (A A2 : Option Addr) (c N c2 T : Nat) (js : List GJob) (sup : List Int) (w : World) (hR : Rd 5 encJ w A js) (HN : Hid (js.length = N)) (hl : N ≤ 9223372036854775807) (hR2 : Rd 1 encI w A2 sup) (HN2 : Hid (sup.length = T)) (hl2 : T ≤ 9223372036854775807) :
    Calls Try.prog 38 #[.slice A N c, .slice A2 T c2] w (KeepEnd w js sup) := by
  have HR := Lib.hid hR
  have HR2 := Lib.hid hR2
  clear hR hR2
  go_enter Try.func38, Try.ntmps38
  go_wp2_with fail
  refine (rpValid_any A A2 c N c2 T js sup w HR.out HN hl HR2.out HN2 hl2).mono ?_
  rintro e w1 ⟨rfl, hb1⟩
  have B1 := Lib.hid hb1
  clear hb1
  cases hok : okP js sup
  · have HF := Lib.hid hok
    clear hok
    go_wp2_with fail
    go_ret3
    exact ⟨B1.out, .inl ⟨HF.out, rfl⟩⟩
  have HOK := Lib.hid hok
  clear hok
  have hN12 : N ≤ 12 := by have := (okP_iff.1 HOK.out).1.1; rw [HN.out] at this; exact this
  go_wp2_with fail
  refine (rrOrder_any A c N js sup w1 (HR.out.keep B1.out) HN HOK.out).mono ?_
  rintro e w2 ⟨a8, d8, ord, rfl, r8, ho, hb2⟩
  have B2 := Lib.hid (below_then B1.out hb2)
  have HR8 := Lib.hid r8
  have HO := Lib.hid ho
  have HLO : Hid (ord.length = N) := Lib.hid (by rw [ho.len, HN.out])
  have HKA := Lib.hid (fun (k : Nat) (hk : k ≤ N) => kept_all HOK.out ho.nodup ho.valid k (by rw [HLO.out]; exact hk))
  clear r8 hb2 ho B1
  go_wp2_with fail
  go_loopg [7, 8, 10, 11, 12, 13, 14] N (fun g1 v7 v8 v10 v11 v12 v13 v14 wr => ∃ (k n7 c7 : Nat) (a7 : Option Addr) (C : List (List Int × List Int)), v7 = .slice a7 n7 c7 ∧ v10 = .int .i64 k ∧ k ≤ N ∧ N - k ≤ g1 ∧ n7 ≤ c7 ∧ c7 ≤ 9223372036854775807 ∧ n7 ≤ k ∧ Hid ((keptTo js sup ord k).length = n7) ∧ Hid (Rd 1 encI wr a7 (keptTo js sup ord k)) ∧ Hid (OwnC wr w2.heap.size (fun _ => False) v8 C) ∧ Hid (CutsTo js sup ord k C) ∧ Hid (∀ q, v8.ownBlock = some q → OffB a7 n7 q) ∧ Hid (Below w2.heap.size w2 wr))
  case atStart => exact ⟨0, 0, 0, none, [], by go_num, by go_num, by omega, by omega, by omega, by omega, by omega, Lib.hid rfl, Lib.hid Rd.nil, Lib.hid (OwnC.nil _ _ _), Lib.hid (CutsTo.zero _ _ _), Lib.hid (fun q hq => by cases hq), Lib.hid (Below.refl _ _)⟩
  case round =>
    obtain ⟨k, n7, c7, a7, C, rfl, rfl, hk, hg1, hn7, hc7, hnk, HKL, HKR, HC, HCT, HAP, HB⟩ := hrel
    by_cases hlt : k < N
    · have hltz : (k : Int) < (N : Int) := by omega
      obtain ⟨bo, oo, i, hao, hbo0, hi, hio⟩ := (HR8.out.keep HB.out).at_ (k := k) (by rw [HLO.out]; exact hlt)
      subst hao
      have hbo : bo < wr.heap.size := hbo0
      have hio0 : wr.cell? ⟨bo, oo + k, none⟩ = some (.int .i64 i) := by have := hio 0 _ rfl; simpa using this
      have HI := Lib.hid hi
      have hvi := HO.out.valid i (List.mem_of_getElem? hi)
      rw [HN.out] at hvi
      obtain ⟨iN, hiN⟩ : ∃ iN : Nat, i = iN := ⟨i.toNat, by omega⟩
      subst hiN
      clear hio hi hbo0
      have HVS : Hid (ValidL N (keptTo js sup ord k ++ [(iN : Int)])) := Lib.hid (by
        have := (kept_valid HOK.out HO.out.nodup HO.out.valid (k := k) (by rw [HLO.out]; omega)).snoc (i := (iN : Int)) hvi.1 (by rw [HN.out]; exact hvi.2)
        rwa [HN.out] at this)
      have HNS : Hid ((keptTo js sup ord k ++ [(iN : Int)]).Nodup) := Lib.hid (nodup_snoc (HKA.out k hk).nodup (fun h => not_take HO.out.nodup HI.out ((HKA.out k hk).sub _ h)))
      have HLS : Hid ((keptTo js sup ord k ++ [(iN : Int)]).length = n7 + 1) := Lib.hid (by rw [List.length_append, HKL.out]; rfl)
      go_upto_region 9 with (fail)
      go_cut [11, 27, 28, 29, 30, 31, 32, 33, 34, 35] (fun v11 v27 v28 v29 v30 v31 v32 v33 v34 v35 wx => ∃ (za : Option Addr) (zc : Nat), v11 = .slice za (n7 + 1) zc ∧ Hid (OwnN wx wr.heap.size v11 (keptTo js sup ord k ++ [(iN : Int)])) ∧ Hid (Below wr.heap.size wr wx))
      case first =>
        obtain ⟨pA1, vA1, WA1, pA2, pA3, pA4, vA2, WA2, pA5, pA6, oA, bA1, bA2⟩ := nmade_A (W := wr) (c := c7) (mc := #[]) (n := 0) (lit := #[.int .i64 iN]) (ys := [(iN : Int)]) (m := 1) own_none0 HKR.out HKL.out rfl rfl (by omega)
        obtain ⟨pB1, vB1, WB1, pB2, pB3, pB4, vB2, WB2, pB5, pB6, oB, bB1, bB2⟩ := nmade_B (W := wr) (c := c7) (mc := #[]) (n := 0) (lit := #[.int .i64 iN]) (ys := [(iN : Int)]) (m := 1) own_none0 HKR.out HKL.out rfl rfl (by omega)
        obtain ⟨pC1, vC1, WC1, pC2, pC3, pC4, vC2, WC2, pC5, pC6, oC, bC1, bC2⟩ := nmade_C (W := wr) (c := c7) (mc := #[]) (n := 0) (lit := #[.int .i64 iN]) (ys := [(iN : Int)]) (m := 1) own_none0 HKR.out HKL.out rfl rfl (by omega)
        refine region_z (S := fun w' => Below wr.heap.size wr w') [9] (by kernel_rfl) (Below.refl _ _).drew (fun hHeld => ?_)
        refine wpAnyZ_take (i := 1) (v := .slice a7 n7 c7) [9] rfl (by kernel_rfl) (by kernel_rfl) (by kernel_rfl) (by kernel_rfl) (fun _ _ _ h => h) (Or.inl ⟨by rfl, fun w' hSw => ?_⟩) hHeld ?_
        · clear hHeld
          go_simp
        simp only [Act.put, List.setIfInBounds_toArray, List.set_cons_zero, List.set_cons_succ]
        refine wpAnyZ_take (i := 3) (v := .slice (some ⟨bo, oo, none⟩) N d8) [9] rfl (by kernel_rfl) (by kernel_rfl) (by kernel_rfl) (by kernel_rfl) (fun _ _ _ h => h) (Or.inl ⟨by rfl, fun w' hSw => ?_⟩) hHeld ?_
        · clear hHeld
          go_simp
        simp only [Act.put, List.setIfInBounds_toArray, List.set_cons_zero, List.set_cons_succ]
        refine wpAnyZ_take (i := 4) (v := .int .i64 k) [9] rfl (by kernel_rfl) (by kernel_rfl) (by kernel_rfl) (by kernel_rfl) (fun _ _ _ h => h) (Or.inl ⟨by rfl, fun w' hSw => ?_⟩) hHeld ?_
        · clear hHeld
          go_simp
        simp only [Act.put, List.setIfInBounds_toArray, List.set_cons_zero, List.set_cons_succ]
        refine wpAnyZ_take (i := 5) (v := .pointer (some ⟨bo, oo + k, none⟩)) [9] rfl (by kernel_rfl) (by kernel_rfl) (by kernel_rfl) (by kernel_rfl) (fun _ _ _ h => h) (Or.inl ⟨by rfl, fun w' hSw => ?_⟩) hHeld ?_
        · clear hHeld
          go_simp
        simp only [Act.put, List.setIfInBounds_toArray, List.set_cons_zero, List.set_cons_succ]
        refine wpAnyZ_take (i := 6) (v := .int .i64 iN) [9] rfl (by kernel_rfl) (by kernel_rfl) (by kernel_rfl) (by kernel_rfl) (fun _ _ _ h => h) (Or.inl ⟨by rfl, fun w' hSw => ?_⟩) hHeld ?_
        · clear hHeld
          have s0 := (hSw.cell (p := ⟨bo, oo + k, none⟩) hbo).trans hio0
          go_simp
        simp only [Act.put, List.setIfInBounds_toArray, List.set_cons_zero, List.set_cons_succ]
        refine wpAnyZ_two (i := 0) (k := 7) (by kernel_rfl) rfl rfl (fun K' hK => ?_) (fun K' hK => ?_)
        · go_simp
          refine hK.out _ _ ?_ (fun hHeld => ?_)
          · exact hHeld.alloc hHeld.size _
          clear hK K'
          try simp only [Act.put, List.setIfInBounds_toArray, List.set_cons_zero, List.set_cons_succ]
          refine wpAnyZ_two (i := 2) (k := 7) (by kernel_rfl) rfl rfl (fun K' hK => ?_) (fun K' hK => ?_)
          · rw [if_pos (by rfl)]
            refine append_go rfl rfl pC1 pC2 pC3 ?_
            refine hK.out _ _ ?_ (fun hHeld => ?_)
            · exact bC1.out
            clear hK K'
            try simp only [Act.put, List.setIfInBounds_toArray, List.set_cons_zero, List.set_cons_succ]
            refine wpAnyZ_one (i := 7) (by kernel_rfl) rfl (fun K' hK => ?_)
            go_simp
            refine hK.out _ _ ?_ (fun hHeld => ?_)
            · exact hHeld.alloc hHeld.size _
            clear hK K'
            try simp only [Act.put, List.setIfInBounds_toArray, List.set_cons_zero, List.set_cons_succ]
            refine wpAnyZ_one (i := 8) (by kernel_rfl) rfl (fun K' hK => ?_)
            rw [if_pos (by rfl)]
            refine append_go rfl rfl pC4 pC5 pC6 ?_
            refine hK.out _ _ ?_ (fun hHeld => ?_)
            · exact bC2.out
            clear hK K'
            try simp only [Act.put, List.setIfInBounds_toArray, List.set_cons_zero, List.set_cons_succ]
            refine wpAnyZ_last (i := 9) (by kernel_rfl) rfl (by kernel_rfl) (fun K' hK => ?_)
            go_simp
            refine hK.out _ _ ?_
            clear hK K'
            try simp only [Act.put, List.setIfInBounds_toArray, List.set_cons_zero, List.set_cons_succ]
            refine wpAnyZ_done (by kernel_rfl) ?_ _
            clear hHeld
            obtain ⟨za, zc, ze⟩ := oC.out.shape
            rw [List.length_append, HKL.out] at ze
            have HZE := Lib.hid ze
            clear ze
            go_step
            go_step
            go_meet
            exact ⟨za, zc, HZE.out, oC, bC2⟩
          · go_simp
            refine hK.out _ _ ?_ (fun hHeld => ?_)
            · exact hHeld.alloc hHeld.size _
            clear hK K'
            try simp only [Act.put, List.setIfInBounds_toArray, List.set_cons_zero, List.set_cons_succ]
            refine wpAnyZ_one (i := 2) (by kernel_rfl) rfl (fun K' hK => ?_)
            rw [if_pos (by rfl)]
            refine append_go rfl rfl pB1 pB2 pB3 ?_
            refine hK.out _ _ ?_ (fun hHeld => ?_)
            · exact bB1.out
            clear hK K'
            try simp only [Act.put, List.setIfInBounds_toArray, List.set_cons_zero, List.set_cons_succ]
            refine wpAnyZ_one (i := 8) (by kernel_rfl) rfl (fun K' hK => ?_)
            rw [if_pos (by rfl)]
            refine append_go rfl rfl pB4 pB5 pB6 ?_
            refine hK.out _ _ ?_ (fun hHeld => ?_)
            · exact bB2.out
            clear hK K'
            try simp only [Act.put, List.setIfInBounds_toArray, List.set_cons_zero, List.set_cons_succ]
            refine wpAnyZ_last (i := 9) (by kernel_rfl) rfl (by kernel_rfl) (fun K' hK => ?_)
            go_simp
            refine hK.out _ _ ?_
            clear hK K'
            try simp only [Act.put, List.setIfInBounds_toArray, List.set_cons_zero, List.set_cons_succ]
            refine wpAnyZ_done (by kernel_rfl) ?_ _
            clear hHeld
            obtain ⟨za, zc, ze⟩ := oB.out.shape
            rw [List.length_append, HKL.out] at ze
            have HZE := Lib.hid ze
            clear ze
            go_step
            go_step
            go_meet
            exact ⟨za, zc, HZE.out, oB, bB2⟩
        · go_simp
          refine hK.out _ _ ?_ (fun hHeld => ?_)
          · exact hHeld.alloc hHeld.size _
          clear hK K'
          try simp only [Act.put, List.setIfInBounds_toArray, List.set_cons_zero, List.set_cons_succ]
          refine wpAnyZ_one (i := 0) (by kernel_rfl) rfl (fun K' hK => ?_)
          go_simp
          refine hK.out _ _ ?_ (fun hHeld => ?_)
          · exact hHeld.alloc hHeld.size _
          clear hK K'
          try simp only [Act.put, List.setIfInBounds_toArray, List.set_cons_zero, List.set_cons_succ]
          refine wpAnyZ_one (i := 2) (by kernel_rfl) rfl (fun K' hK => ?_)
          rw [if_pos (by rfl)]
          refine append_go rfl rfl pA1 pA2 pA3 ?_
          refine hK.out _ _ ?_ (fun hHeld => ?_)
          · exact bA1.out
          clear hK K'
          try simp only [Act.put, List.setIfInBounds_toArray, List.set_cons_zero, List.set_cons_succ]
          refine wpAnyZ_one (i := 8) (by kernel_rfl) rfl (fun K' hK => ?_)
          rw [if_pos (by rfl)]
          refine append_go rfl rfl pA4 pA5 pA6 ?_
          refine hK.out _ _ ?_ (fun hHeld => ?_)
          · exact bA2.out
          clear hK K'
          try simp only [Act.put, List.setIfInBounds_toArray, List.set_cons_zero, List.set_cons_succ]
          refine wpAnyZ_last (i := 9) (by kernel_rfl) rfl (by kernel_rfl) (fun K' hK => ?_)
          go_simp
          refine hK.out _ _ ?_
          clear hK K'
          try simp only [Act.put, List.setIfInBounds_toArray, List.set_cons_zero, List.set_cons_succ]
          refine wpAnyZ_done (by kernel_rfl) ?_ _
          clear hHeld
          obtain ⟨za, zc, ze⟩ := oA.out.shape
          rw [List.length_append, HKL.out] at ze
          have HZE := Lib.hid ze
          clear ze
          go_step
          go_step
          go_meet
          exact ⟨za, zc, HZE.out, oA, bA2⟩
      case rest =>
        obtain ⟨za, zc, rfl, HOX, HBX⟩ := hcut
        have HRX := Lib.hid HOX.out.rdA
        have HAP2 : Hid (∀ q, u8.ownBlock = some q → OffB za (n7 + 1) q) := Lib.hid (fun q hq b hb h0 e => by
          obtain ⟨vs, hv1, hv2, _⟩ := HC.out.out
          have h1 := (World.ownsRow.lt hv1 q hq).2
          have h2 := (World.ownsRow.lt HOX.out b.block (by rw [hb]; rfl)).1
          omega)
        have hz1 := HOX.out.len_le' HLS.out
        have hz2 := HOX.out.cap_le
        have HBw := Lib.hid (HB.out.trans (HBX.out.mono HB.out.size))
        have HB2w := Lib.hid (below_then B2.out HBw.out)
        clear HOX
        go_wp2_with fail
        refine (rrSome_any A za c N zc (n7 + 1) js _ wc (HR.out.keep HB2w.out) HN hl HRX.out HLS (by omega) (Lib.hid (by rw [HN.out]; exact HVS.out))).mono ?_
        rintro e w5 ⟨a5, d5, rfl, r5, hb5⟩
        have HLJ : Hid ((someJ js (keptTo js sup ord k ++ [(iN : Int)])).length = n7 + 1) := Lib.hid (by rw [someJ_len]; exact HLS.out)
        have HOKJ : Hid (okP (someJ js (keptTo js sup ord k ++ [(iN : Int)])) sup = true) := Lib.hid (okP_some HOK.out (by rw [HN.out]; exact HVS.out) (by rw [HLS.out]; omega))
        have HB5 := Lib.hid (below_then HB2w.out hb5)
        have HBw5 := Lib.hid (below_then HBw.out hb5)
        have HBX5 := Lib.hid (below_then HBX.out hb5)
        have HRX5 := Lib.hid (HRX.out.keep hb5)
        have HR5 := Lib.hid r5
        clear r5 hb5 HRX HB2w HBw HBX
        go_wp2_with fail
        refine (rpSchedule_cut a5 A2 d5 (n7 + 1) c2 T _ sup w5 HR5.out HLJ (by omega) (HR2.out.keep HB5.out) HN2 hl2).mono ?_
        rintro e w6 ⟨a, l, cx, a3, n3, c3, a4, n4, c4, er, rfl, hb6, hp⟩
        have ba : Below w6.heap.size w6 (w6.alloc (.cells #[.slice a3 n3 c3, .slice a4 n4 c4] 30)) := (Below.refl _ _).alloc (Nat.le_refl _) _
        have k3 := below_then hb6 ba
        rcases hp with ⟨h, _⟩ | ⟨_, hm, rfl⟩ | ⟨_, hm, rfl, hcut⟩
        · rw [HOKJ.out] at h
          cases h
        · have e1 := (keptTo_succ (js := js) (sup := sup) HI.out).trans (stepK_yes hm)
          have HKL2 : Hid ((keptTo js sup ord (k + 1)).length = n7 + 1) := Lib.hid (by rw [e1]; exact HLS.out)
          have HKR2 : Hid (Rd 1 encI (w6.alloc (.cells #[.slice a3 n3 c3, .slice a4 n4 c4] 30)) za (keptTo js sup ord (k + 1))) := Lib.hid (by rw [e1]; exact HRX5.out.keep k3)
          have HC2 := Lib.hid (HC.out.keep (below_then HBX5.out k3))
          have HCT2 := Lib.hid (HCT.out.kept HI.out hm)
          have HBF := Lib.hid (below_then HBw5.out k3)
          clear e1 hm hb6 ba k3 HC HKR HKL HRX5 HR5
          go_wp2_with fail
          go_roundg (N - (k + 1))
          case measure => omega
          case rel => exact ⟨k + 1, n7 + 1, zc, za, C, by first | rfl | go_num, by go_num, by omega, by omega, hz1, hz2, by omega, HKL2, HKR2, HC2, HCT2, HAP2, HBF⟩
        · obtain ⟨cj, cs, e3, e4, r3, r4, hcj, hcs, hcp, hfr⟩ := hcut
          have e1 := (keptTo_succ (js := js) (sup := sup) HI.out).trans (stepK_no hm)
          have HE1 := Lib.hid e1
          have HKL2 : Hid ((keptTo js sup ord (k + 1)).length = n7) := Lib.hid (by rw [e1]; exact HKL.out)
          have HEX : Hid (expl js sup (upTo (nameL (keptTo js sup ord k ++ [(iN : Int)]) cj) N, cs) (iN : Int) (keptTo js sup ord k)) := Lib.hid (by
            have h := expl_back HOK.out HNS.out (by rw [HN.out]; exact HVS.out) (HKA.out k hk).met (by rw [HKL.out]; omega) hcp
            rwa [HN.out] at h)
          have HVC : Hid (ValidL (n7 + 1) cj) := Lib.hid (by
            have := good_valid (cutPB_iff.1 hcp).2.1
            rwa [HLJ.out] at this)
          have HCT2 := Lib.hid (HCT.out.broken HI.out hm HEX.out)
          obtain ⟨named, hnamed⟩ : ∃ named, upTo (nameL (keptTo js sup ord k ++ [(iN : Int)]) cj) N = named := ⟨_, rfl⟩
          rw [hnamed] at HCT2
          have HNMD := Lib.hid hnamed
          have HE3 := Lib.hid e3
          have HE4 := Lib.hid e4
          have HFR := Lib.hid hfr
          have kb : (w6.alloc (.cells #[.slice a3 n3 c3, .slice a4 n4 c4] 30)).cell? ⟨w6.heap.size, 0, none⟩ = some (.slice a3 n3 c3) := by go_simp
          have HR3 := Lib.hid (r3.keep ba)
          have HR4 := Lib.hid (r4.keep ba)
          have HRX6 := Lib.hid (HRX5.out.keep k3)
          have HBw6 := Lib.hid (below_then HBw5.out k3)
          have HBX6 := Lib.hid (below_then HBX5.out k3)
          have hn3 : n3 ≤ 12 := by omega
          have hn4 : n4 ≤ 24 := by omega
          have hsz5 := HBX5.out.size
          have HCL := HCT.out.len
          have hcl : C.length ≤ 12 := by omega
          have HCallB := Lib.hid (rrBack_any a3 a4 za c3 n3 c4 n4 zc (n7 + 1) N cj _ (w6.alloc (.cells #[.slice a3 n3 c3, .slice a4 n4 c4] 30)) HR3.out HE3 hn3 HRX6.out HLS (by omega) hN12 HVC)
          clear e1 hm hb6 ba k3 hnamed e3 e4 hfr r3 r4 HRX5 HR5 hcp hcj hcs kb HCL HCT
          go_wp2_with fail
          refine HCallB.out.mono ?_
          rintro e w7 ⟨a9, n9, c9, rfl, hln, r9, hf9, hb7⟩
          rw [HNMD.out] at hln r9
          have HC7 := Lib.hid (HC.out.keep (below_then HBX6.out hb7))
          have HRF : Hid (RowF w7 (fun q => False ∨ u8.ownBlock = some q) ⟨a9, n9, c9, a4, n4, c4⟩ (named, cs)) := Lib.hid (by
            obtain ⟨vs, hv1, hv2, _⟩ := HC.out.out
            have hnl : named.length ≤ 12 := by rw [← HNMD.out]; exact Nat.le_trans (upTo_len _ _) hN12
            refine ⟨⟨hln, by show n9 ≤ _; omega, r9, HE4.out, by show n4 ≤ _; omega, HR4.out.keep hb7⟩, fun q hq b hb h0 e => ?_, fun q hq b hb h0 e => ?_⟩
            · rcases hq with hq | hq
              · exact hq
              · have h1 := (World.ownsRow.lt hv1 q hq).2
                have h2 := hf9 b.block (by rw [show a9 = some b from hb]; rfl)
                have h3 := HBX6.out.size
                omega
            · rcases hq with hq | hq
              · exact hq
              · have h1 := (World.ownsRow.lt hv1 q hq).2
                have h2 := HFR.out b.block (by rw [show a4 = some b from hb]; rfl)
                omega)
          have HBw7 := Lib.hid (below_then HBw6.out hb7)
          have HKR7 := Lib.hid (HKR.out.keep (below_then HBX6.out hb7))
          have hs7 := HBw7.out.size
          obtain ⟨p1, v9, W9, p2, p3, HC9, HM9, HN9⟩ := app_cut (u := ⟨a9, n9, c9, a4, n4, c4⟩) (c := (named, cs)) HC7.out hs7 (by omega) (fun q hq => hq.elim) HRF.out
          have HB9 : Hid (Below w2.heap.size w2 W9) := Lib.hid (HBw7.out.trans (HM9.out.below hs7 (fun q hq hM => by
            obtain ⟨vs, hv1, hv2, _⟩ := HC7.out.out
            exact (World.ownsRow.lt hv1 q hM).1)))
          have HKR9 : Hid (Rd 1 encI W9 a7 (keptTo js sup ord (k + 1))) := Lib.hid (by
            rw [HE1.out]
            exact HKR7.out.mod HM9.out (fun b hb h0 hq => HAP.out b.block hq b hb (by rw [HKL.out] at h0; exact h0) rfl))
          have HAP9 : Hid (∀ q, v9.ownBlock = some q → OffB a7 n7 q) := Lib.hid (fun q hq b hb h0 e => by
            rcases HN9.out with y | ⟨q', y1, y2⟩
            · exact HAP.out q (by rw [← y]; exact hq) b hb h0 e
            · rw [y1] at hq
              injection hq with hq
              have := rd_lt HKR7.out (by rw [HKL.out]; exact h0) b hb
              omega)
          clear hln r9 hf9 hb7 HC HC7 HRF HM9 HN9 HKR HKL HKR7 HAP HE1
          go_wp2_with fail
          go_roundg (N - (k + 1))
          case measure => omega
          case rel => exact ⟨k + 1, n7, c7, a7, _, by first | rfl | go_num, by go_num, by omega, by omega, hn7, hc7, by omega, HKL2, HKR9, HC9, HCT2, HAP9, HB9⟩
    · have hltz : ¬ (k : Int) < (N : Int) := by omega
      have hkN : k = ord.length := by rw [HLO.out]; omega
      obtain ⟨ac, cc, vs, e8, hcc, rc⟩ := HC.out.rd
      have hcc2 : cc ≤ 9223372036854775807 := by
        have h := HC.out
        rw [e8] at h
        exact h.cap_le
      have HFIN : Hid (KeepEnd w js sup (.returned (.tuple #[.slice a7 n7 c7, .slice ac C.length cc, .int .i64 0])) wr) := Lib.hid (by
        refine ⟨below_then B2.out HB.out, .inr ⟨HOK.out, ord, a7, c7, ac, cc, vs, C, HO.out, ?_, ?_, ?_, rc, ?_, hcc, hc7, hcc2⟩⟩
        · rw [← hkN, HKL.out]
        · rw [← hkN]; exact HCT.out
        · rw [← hkN]; exact HKR.out
        · rw [← hkN, HKL.out]; exact hn7)
      subst e8
      clear HC HKR HKL HCT HB
      go_wp2_with fail
      go_ret3
      exact HFIN.out
end Go.Proofs.Ytgfcnkfmgpakkaa
