/-
The reference's Schedule of plan, walked: its error.
-/
import Derived.Test.YtgfcnkfmgpakkaaCPlanRH
import Derived.Test.YtgfcnkfmgpakkaaGRefA
import Derived.Test.YtgfcnkfmgpakkaaCPlanX
import Derived.Test.YtgfcnkfmgpakkaaGFlowT
import Derived.Test.YtgfcnkfmgpakkaaGAppJ
namespace Go.Proofs.Ytgfcnkfmgpakkaa
open Go.RowKit
set_option linter.unusedVariables false
theorem appInfoRow : (Try.prog.info? 23).map (fun i => (i.zero, i.size, i.bytes)) = some (some (.slice none 0 0), 1, 24) := by kernel_rfl
theorem encRow_len (r : RowV) : (encRow r).length = 1 := rfl
theorem encRow_one (r : RowV) (u : Value) (h : u ∈ encRow r) : u.oneCell' = true := by
  simp [encRow] at h
  rw [h]
  rfl
abbrev OwnS (w : World) (base : Nat) (v : Value) (xs : List RowV) : Prop := OwnR 23 1 encRow w base v xs
theorem app_row {w : World} {base : Nat} {v : Value} {xs : List RowV} (a : Option Addr) (n c : Nat) (h : OwnS w base v xs) (hb : base ≤ w.heap.size) (hl : xs.length ≤ 100000) :
    Appends Try.prog (w.alloc (.cells #[.slice a n c] 23)) 28 28 v (.slice (some ⟨w.heap.size, 0, none⟩) 1 1) ∧
    ∃ v' w1, appV Try.prog (w.alloc (.cells #[.slice a n c] 23)) 28 28 v (.slice (some ⟨w.heap.size, 0, none⟩) 1 1) = v' ∧
      appW Try.prog (w.alloc (.cells #[.slice a n c] 23)) 28 28 v (.slice (some ⟨w.heap.size, 0, none⟩) 1 1) = w1 ∧ Hid (OwnS w1 base v' (xs ++ [⟨a, n, c⟩])) ∧ Hid (Aside base v v' w w1) :=
  app_lit appInfoRow Try.underlying28 rfl (by omega) encRow_len encRow_one h hb rfl rfl (by omega) (by omega)
/-- The memory while the reference lays its cut. -/
structure CQm (w W : World) (v1 v2 : Value) (xs1 xs2 : List Int) : Prop where
  o : Own W w.heap.size 30 2 (fun i => if i = 0 then v1 else v2)
  o1 : OwnN W (w.heap.size + 1) v1 xs1
  o2 : OwnN W (w.heap.size + 1) v2 xs2
  ap : ApartV v1 v2
  bel : Below w.heap.size w W
theorem CQm.push1 {w W : World} {v1 v2 : Value} {xs1 xs2 : List Int} (h : CQm w W v1 v2 xs1 xs2) (k : Int) (hl : xs1.length ≤ 100000) :
    Appends Try.prog (W.alloc (.cells #[.int .i64 k] 3)) 23 23 v1 (.slice (some ⟨W.heap.size, 0, none⟩) 1 1) ∧
    ∃ a' l' c' w1, appV Try.prog (W.alloc (.cells #[.int .i64 k] 3)) 23 23 v1 (.slice (some ⟨W.heap.size, 0, none⟩) 1 1) = .slice a' l' c' ∧ appW Try.prog (W.alloc (.cells #[.int .i64 k] 3)) 23 23 v1 (.slice (some ⟨W.heap.size, 0, none⟩) 1 1) = w1 ∧
      w1.cell? ⟨w.heap.size, 0, none⟩ = some v1 ∧ w1.frozen? ⟨w.heap.size, 0, none⟩ = false ∧ Hid (CQm w (w1.setCell ⟨w.heap.size, 0, none⟩ (.slice a' l' c')) (.slice a' l' c') v2 (xs1 ++ [k]) xs2) := by
  have hsz := h.o.lt
  obtain ⟨ap, v', w1, av, aw, ho, ha⟩ := app_num k h.o1 (by omega) hl
  obtain ⟨a', c', e'⟩ := ho.out.shape
  generalize (xs1 ++ [k]).length = l' at e'
  subst e'
  have hown : ∀ q, v1.ownBlock = some q → w.heap.size + 1 ≤ q := fun q hq => (World.ownsRow.lt h.o1 q hq).1
  have hne : v1.ownBlock ≠ some w.heap.size := fun e => by have := hown _ e; omega
  have o' : Own w1 w.heap.size 30 2 (fun i => if i = 0 then v1 else v2) := h.o.keep ha.out.bel (by omega)
  obtain ⟨oo, aa⟩ := ha.out.row h.o2 h.ap
  have hM : Mod (fun q => q = w.heap.size) w1 (w1.setCell ⟨w.heap.size, 0, none⟩ (.slice a' l' c')) := (Mod.refl (fun q => q = w.heap.size) w1).setCell (p := ⟨w.heap.size, 0, none⟩) (.inl rfl) _
  refine ⟨ap, a', l', c', w1, av, aw, ?_, o'.frozen 0, Lib.hid ⟨(o'.set 0 _).congr (fun i hi => ?_), ho.out.mod hM (fun q hq e => ?_), oo.mod hM (fun q hq e => ?_), aa, ?_⟩⟩
  · have := o'.cell (i := 0) (by omega)
    simpa using this
  · rcases i with _ | _ | i
    · simp
    · simp
    · omega
  · have := (World.ownsRow.lt ho.out q hq).1; omega
  · have := (World.ownsRow.lt oo q hq).1; omega
  · exact (h.bel.trans (ha.out.bel.mono (by omega))).trans (hM.below (Nat.le_trans h.bel.size ha.out.bel.size) (fun q _ hq => by omega))
theorem CQm.push2 {w W : World} {v1 v2 : Value} {xs1 xs2 : List Int} (h : CQm w W v1 v2 xs1 xs2) (k : Int) (hl : xs2.length ≤ 100000) :
    Appends Try.prog (W.alloc (.cells #[.int .i64 k] 3)) 23 23 v2 (.slice (some ⟨W.heap.size, 0, none⟩) 1 1) ∧
    ∃ a' l' c' w1, appV Try.prog (W.alloc (.cells #[.int .i64 k] 3)) 23 23 v2 (.slice (some ⟨W.heap.size, 0, none⟩) 1 1) = .slice a' l' c' ∧ appW Try.prog (W.alloc (.cells #[.int .i64 k] 3)) 23 23 v2 (.slice (some ⟨W.heap.size, 0, none⟩) 1 1) = w1 ∧
      w1.cell? ⟨w.heap.size, 1, none⟩ = some v2 ∧ w1.frozen? ⟨w.heap.size, 1, none⟩ = false ∧ Hid (CQm w (w1.setCell ⟨w.heap.size, 1, none⟩ (.slice a' l' c')) v1 (.slice a' l' c') xs1 (xs2 ++ [k])) := by
  have hsz := h.o.lt
  obtain ⟨ap, v', w1, av, aw, ho, ha⟩ := app_num k h.o2 (by omega) hl
  obtain ⟨a', c', e'⟩ := ho.out.shape
  generalize (xs2 ++ [k]).length = l' at e'
  subst e'
  have hown : ∀ q, v2.ownBlock = some q → w.heap.size + 1 ≤ q := fun q hq => (World.ownsRow.lt h.o2 q hq).1
  have hne : v2.ownBlock ≠ some w.heap.size := fun e => by have := hown _ e; omega
  have o' : Own w1 w.heap.size 30 2 (fun i => if i = 0 then v1 else v2) := h.o.keep ha.out.bel (by omega)
  obtain ⟨oo, aa⟩ := ha.out.row h.o1 h.ap.symm
  have hM : Mod (fun q => q = w.heap.size) w1 (w1.setCell ⟨w.heap.size, 1, none⟩ (.slice a' l' c')) := (Mod.refl (fun q => q = w.heap.size) w1).setCell (p := ⟨w.heap.size, 1, none⟩) (.inl rfl) _
  refine ⟨ap, a', l', c', w1, av, aw, ?_, o'.frozen 1, Lib.hid ⟨(o'.set 1 _).congr (fun i hi => ?_), oo.mod hM (fun q hq e => ?_), ho.out.mod hM (fun q hq e => ?_), aa.symm, ?_⟩⟩
  · have := o'.cell (i := 1) (by omega)
    simpa using this
  · rcases i with _ | _ | i
    · simp
    · simp
    · omega
  · have := (World.ownsRow.lt oo q hq).1; omega
  · have := (World.ownsRow.lt ho.out q hq).1; omega
  · exact (h.bel.trans (ha.out.bel.mono (by omega))).trans (hM.below (Nat.le_trans h.bel.size ha.out.bel.size) (fun q _ hq => by omega))
/-- What the reference's Schedule says. -/
def RSPost (w : World) (js : List GJob) (sup : List Int) (e : Ending) (w' : World) : Prop :=
  ∃ a l c a3 n3 c3 a4 n4 c4 er, e = .returned (.tuple #[.slice a l c, .agg #[.slice a3 n3 c3, .slice a4 n4 c4], .int .i64 er]) ∧ Below w.heap.size w w' ∧
    ((okP js sup = false ∧ er = 1) ∨ (okP js sup = true ∧ Met js sup ∧ er = 0) ∨ (okP js sup = true ∧ ¬ Met js sup ∧ er = 10))
set_option maxRecDepth 100000 in
set_option maxHeartbeats 8000000 in
theorem rpSchedule_any (A A2 : Option Addr) (c N c2 T : Nat) (js : List GJob) (sup : List Int) (w : World) (hR : Rd 5 encJ w A js) (HN : Hid (js.length = N)) (hl : N ≤ 9223372036854775807) (hR2 : Rd 1 encI w A2 sup) (HN2 : Hid (sup.length = T)) (hl2 : T ≤ 9223372036854775807) :
    Calls Try.prog 68 #[.slice A N c, .slice A2 T c2] w (RSPost w js sup) := by
  have a0 : Below w.heap.size w (w.alloc (.cells #[.slice none 0 0, .slice none 0 0] 30)) := (Below.refl _ w).alloc (Nat.le_refl _) _
  go_enter Try.func68, Try.ntmps68
  go_wp2_with fail
  refine (rpValid_any A A2 c N c2 T js sup _ (hR.keep a0) HN hl (hR2.keep a0) HN2 hl2).mono ?_
  rintro e w1 ⟨rfl, hb1⟩
  have o5 : Own w1 w.heap.size 30 2 (fun _ => .slice none 0 0) := (new_cut w).keep hb1 (by simp)
  have b1 := below_then a0 hb1
  clear hb1 a0
  cases hok : okP js sup
  · have c50 := o5.cell (i := 0) (by omega)
    have c51 := o5.cell (i := 1) (by omega)
    have f50 := o5.frozen 0
    have f51 := o5.frozen 1
    have HO := Lib.hid ((o5.set 0 (.slice none 0 0)).set 1 (.slice none 0 0))
    have HB := Lib.hid ((b1.setCell (p := ⟨w.heap.size, 0, none⟩) (by dsimp only; omega) (.slice none 0 0)).setCell (p := ⟨w.heap.size, 1, none⟩) (by dsimp only; omega) (.slice none 0 0))
    clear o5
    go_wp2
    refine bodyPost_ret (results_tct (t := 4) (a := 5) (x := 6) (by rfl) rfl (load_cut HO.out)) rfl ?_
    exact ⟨_, _, _, _, _, _, _, _, _, _, rfl, HB.out, .inl ⟨hok, rfl⟩⟩
  · have HOK := Lib.hid hok
    obtain ⟨⟨t1, t2⟩, _, _⟩ := okP_iff.1 hok
    rw [HN.out] at t1
    rw [HN2.out] at t2
    clear hok
    go_wp2_with fail
    refine (rpGraph_any A A2 c N c2 T js sup w1 (hR.keep b1) HN (hR2.keep b1) HN2 HOK).mono ?_
    rintro e w2 ⟨aG, dG, rfl, rG, hb2⟩
    have b2 := below_then b1 hb2
    have o52 := o5.keep hb2 o5.lt
    obtain ⟨L, hL⟩ : ∃ L, (graphQ js sup).length = L := ⟨_, rfl⟩
    rw [hL]
    have HL := Lib.hid hL
    have hLe : L = N * (T + 1) + T := by rw [← hL, graphQ_len, HN.out, HN2.out]
    have HLe := Lib.hid hLe
    have HEn : Hid (okEnds ((T + N + 2 : Nat) : Int) (graphQ js sup) ((0 : Nat) : Int) ((T + N + 1 : Nat) : Int) = true) := Lib.hid (by
      have := graphQ_ok HOK.out
      rw [HN.out, HN2.out] at this
      simpa using this)
    clear hL hLe o5 hb2 b1
    have hmo := rfMost_ok (T + N + 2) dG L 0 (T + N + 1) aG (graphQ js sup) w2 rG HL HEn
    have HMO := Lib.hid hmo
    clear hmo
    go_wp2_with fail
    refine HMO.out.mono ?_
    rintro e w3 ⟨gF, gs, fl, side, rfl, oF, oS, hf, hc, hcap, hb3, hgF, hgs⟩
    have b3 := below_then b2 hb3
    have o53 := o52.keep hb3 o52.lt
    have lo5 : w.heap.size < w2.heap.size := o52.lt
    obtain ⟨am, ham⟩ : ∃ am, am = net (graphQ js sup) fl ((0 : Nat) : Int) := ⟨_, rfl⟩
    have hbd := net_le_bound (okEnds_iff.1 HEn.out).1 hf ((0 : Nat) : Int)
    rw [← ham] at hbd ⊢
    have HMet : Hid (am = allE js ↔ Met js sup) := Lib.hid (mostQ_plan HOK.out ⟨fl, side, by
      have h := hf
      rw [HN.out, HN2.out]
      simpa using h, by
      have h := hc
      rw [HN.out, HN2.out]
      simpa using h, by rw [ham]; rfl, by rw [hcap, ham]⟩)
    have hsl : Hid (side.length = T + N + 2) := Lib.hid (by have := hc.len; omega)
    have HF := Lib.hid oF
    have HS := Lib.hid oS
    have HO5 := Lib.hid o53
    have HE := Lib.hid (fun (k : Nat) (hk : k < N) => (And.intro (okP_job HOK.out (i := k) (by rw [HN.out]; exact hk)).2.2.2.1 (okP_job HOK.out (i := k) (by rw [HN.out]; exact hk)).2.2.2.2.1))
    have hR3 := hR.keep b3
    clear hf hc hcap oF oS o52 o53 HMO ham rG HEn hb3 b2 hR hR2
    go_wp2_with fail
    refine (rpEnergy_any A c N js w3 hR3 HN t1 HE).mono ?_
    rintro e w' ⟨rfl, hw⟩
    have hw2 := hw.symm
    clear hw
    subst hw2
    generalize allE js = al at *
    have HB3 := Lib.hid b3
    clear b3 hR3
    by_cases heq : am = al
    · subst heq
      have HY : Hid (Met js sup) := Lib.hid (HMet.out.1 rfl)
      clear HMet
      go_wp2
      go_loopg [13, 14] N (fun g1 v13 v14 wr => ∃ (k : Nat) (rs : List RowV), v14 = .int .i64 k ∧ k ≤ N ∧ N - k ≤ g1 ∧ rs.length = k ∧ Hid (OwnS wr w3.heap.size v13 rs) ∧ Hid (Below w3.heap.size w3 wr))
      case atStart => exact ⟨0, [], by go_num, by omega, by omega, rfl, Lib.hid (OwnR.nil _ _), Lib.hid (Below.refl _ _)⟩
      case round =>
        obtain ⟨k, rs, rfl, hk, hg1, hrs, HO, HB⟩ := hrel
        by_cases hlt : k < N
        · have hltz : (k : Int) < (N : Int) := by omega
          have HO' := HO
          have HB' := HB
          clear HO HB
          generalize hwr : wr = w4 at *
          clear hwr
          go_wp2
          go_loopg [15, 16] T (fun g1 v15 v16 wr => ∃ (s : Nat) (xs : List Int), v16 = .int .i64 s ∧ s ≤ T ∧ T - s ≤ g1 ∧ xs.length = s ∧ Hid (OwnN wr w4.heap.size v15 xs) ∧ Hid (Below w4.heap.size w4 wr))
          case atStart => exact ⟨0, [], by go_num, by omega, by omega, rfl, Lib.hid (OwnR.nil _ _), Lib.hid (Below.refl _ _)⟩
          case round =>
            obtain ⟨s, xs, rfl, hs, hg2, hxs, HX, HBX⟩ := hrel
            by_cases hst : s < T
            · have hstz : (s : Int) < (T : Int) := by omega
              obtain ⟨ix, hix⟩ : ∃ ix, ix = k * (T + 1) + 1 + s := ⟨_, rfl⟩
              have hkm : k * (T + 1) + (T + 1) ≤ N * (T + 1) := by rw [← Nat.succ_mul]; exact Nat.mul_le_mul_right _ hlt
              have hk25 : k * (T + 1) ≤ 300 := Nat.le_trans (Nat.mul_le_mul (show k ≤ 12 by omega) (show T + 1 ≤ 25 by omega)) (by omega)
              have hixL : ix < L := by have := HLe.out; omega
              have hixz : (ix : Int) < (L : Int) := by omega
              have hmz : (k : Int) * ((T : Int) + 1) = ((k * (T + 1) : Nat) : Int) := by simp
              have hmb : 0 ≤ (k : Int) * ((T : Int) + 1) ∧ (k : Int) * ((T : Int) + 1) ≤ 300 := by rw [hmz]; omega
              have hadd : (k : Int) * ((T : Int) + 1) + 1 + (s : Int) = (ix : Int) := by rw [hmz]; omega
              have hcF := (((HF.out.keep HB'.out HF.out.lt).keep HBX.out (Nat.lt_of_lt_of_le HF.out.lt HB'.out.size))).cell hixL
              obtain ⟨ap1, v1', W2, av1, aw1, HO1, HA1⟩ := app_num (fAt fl ix) HX.out HBX.out.size (by omega)
              have HBX2 : Hid (Below w4.heap.size w4 W2) := Lib.hid (HBX.out.trans HA1.out.bel)
              clear HX HBX HA1 hmz hix hkm
              generalize fAt fl ix = fx at *
              go_wp2
              go_roundg (T - (s + 1))
              case measure => omega
              case rel => exact ⟨s + 1, _, by go_num, by omega, by omega, by rw [List.length_append, hxs]; rfl, HO1, HBX2⟩
            · have hstz : ¬ (s : Int) < (T : Int) := by omega
              obtain ⟨a1, d1, e1⟩ := HX.out.shape
              subst e1
              have hb5 := HBX.out
              have HO2 := HO'.out.keepB HBX.out
              have hsz := Nat.le_trans HB'.out.size HBX.out.size
              obtain ⟨ap1, v1', W2, av1, aw1, HO1, HA1⟩ := app_row a1 xs.length d1 HO2 hsz (by omega)
              have HB6 : Hid (Below w3.heap.size w3 W2) := Lib.hid ((HB'.out.trans (HBX.out.mono HB'.out.size)).trans HA1.out.bel)
              clear HX HBX HA1 hb5 HO2 hxs
              go_wp2
              go_roundg (N - (k + 1))
              case measure => omega
              case rel => exact ⟨k + 1, _, by go_num, by omega, by omega, by rw [List.length_append, hrs]; rfl, HO1, HB6⟩
        · have hltz : ¬ (k : Int) < (N : Int) := by omega
          have o6 := HO5.out.keep HB.out (Nat.lt_of_lt_of_le HO5.out.lt (Nat.le_refl _))
          have c50 := o6.cell (i := 0) (by omega)
          have c51 := o6.cell (i := 1) (by omega)
          have f50 := o6.frozen 0
          have f51 := o6.frozen 1
          have HO6 := Lib.hid ((o6.set 0 (.slice none 0 0)).set 1 (.slice none 0 0))
          have b6 := below_then HB3.out HB.out
          have HB6 := Lib.hid ((b6.setCell (p := ⟨w.heap.size, 0, none⟩) (by dsimp only; omega) (.slice none 0 0)).setCell (p := ⟨w.heap.size, 1, none⟩) (by dsimp only; omega) (.slice none 0 0))
          obtain ⟨a1, d1, e1⟩ := HO.out.shape
          subst e1
          clear o6 b6 HO HB
          go_wp2
          refine bodyPost_ret (results_tct (t := 4) (a := 5) (x := 6) (by rfl) rfl (load_cut HO6.out)) rfl ?_
          exact ⟨_, _, _, _, _, _, _, _, _, _, rfl, HB6.out, .inr (.inl ⟨HOK.out, HY.out, rfl⟩)⟩
    · have HY : Hid (¬ Met js sup) := Lib.hid (fun h => heq (HMet.out.2 h))
      clear HMet
      have HC0 : Hid (CQm w3 (w3.alloc (.cells #[.slice none 0 0, .slice none 0 0] 30)) (.slice none 0 0) (.slice none 0 0) [] []) := Lib.hid ⟨(new_cut w3).congr (fun i hi => by split <;> rfl), OwnR.nil _ _, OwnR.nil _ _, ApartV.nil _, (Below.refl _ _).alloc (Nat.le_refl _) _⟩
      go_upto_region 19 with (fail)
      refine wp_world (fun W => CQm w3 W (.slice none 0 0) (.slice none 0 0) [] []) HC0.out ?_
      intro W0 M0
      have HM0 := Lib.hid M0
      clear M0 HC0
      go_wp2
      go_loopg [18] N (fun g1 v18 wr => ∃ (k : Nat) (v1 : Value) (xs : List Int), v18 = .int .i64 k ∧ k ≤ N ∧ N - k ≤ g1 ∧ xs.length ≤ k ∧ Hid (CQm w3 wr v1 (.slice none 0 0) xs []))
      case atStart => exact ⟨0, _, [], by go_num, by omega, by omega, by simp, HM0⟩
      case round =>
        clear HM0
        obtain ⟨k, v1, xs, rfl, hk, hg1, hxs, HM⟩ := hrel
        by_cases hlt : k < N
        · have hltz : (k : Int) < (N : Int) := by omega
          have hcS := (HS.out.keep HM.out.bel HS.out.lt).cell (i := 1 + T + k) (by omega)
          have hixz : ((1 + T + k : Nat) : Int) < ((T + N + 2 : Nat) : Int) := by omega
          have cc : wr.cell? ⟨w3.heap.size, 0, none⟩ = some v1 := by have := HM.out.o.cell (i := 0) (by omega); simpa using this
          obtain ⟨ap, a5, l5, c5, w5, av, aw, e1, e2, HM5⟩ := HM.out.push1 (k : Int) (by omega)
          obtain ⟨ix, hix⟩ : ∃ ix, ix = 1 + T + k := ⟨_, rfl⟩
          have hadd : (1 : Int) + (T : Int) + (k : Int) = (ix : Int) := by omega
          rw [← hix] at hcS hixz
          clear hix
          cases hb : side[ix]?.getD false
          · rw [hb] at hcS
            clear ap av aw e1 e2 HM5
            go_wp2
            go_roundg (N - (k + 1))
            case measure => omega
            case rel => exact ⟨k + 1, v1, xs, by go_num, by omega, by omega, by omega, HM⟩
          · rw [hb] at hcS
            clear HM
            go_wp2
            go_roundg (N - (k + 1))
            case measure => omega
            case rel => exact ⟨k + 1, _, _, by go_num, by omega, by omega, by simp; omega, HM5⟩
        · have hltz : ¬ (k : Int) < (N : Int) := by omega
          clear hlt hk hg1
          go_wp2
          go_loopg [19] T (fun g1 v19 wr => ∃ (k : Nat) (v2 : Value) (ys : List Int), v19 = .int .i64 k ∧ k ≤ T ∧ T - k ≤ g1 ∧ ys.length ≤ k ∧ Hid (CQm w3 wr v1 v2 xs ys))
          case atStart => exact ⟨0, _, [], by go_num, by omega, by omega, by simp, HM⟩
          case round =>
            clear HM
            obtain ⟨s, v2, ys, rfl, hs, hg2, hys, HM⟩ := hrel
            by_cases hst : s < T
            · have hstz : (s : Int) < (T : Int) := by omega
              have hcS := (HS.out.keep HM.out.bel HS.out.lt).cell (i := 1 + s) (by omega)
              have hixz : ((1 + s : Nat) : Int) < ((T + N + 2 : Nat) : Int) := by omega
              have cc : wr.cell? ⟨w3.heap.size, 1, none⟩ = some v2 := by have := HM.out.o.cell (i := 1) (by omega); simpa using this
              obtain ⟨ap, a5, l5, c5, w5, av, aw, e1, e2, HM5⟩ := HM.out.push2 (s : Int) (by omega)
              obtain ⟨ix, hix⟩ : ∃ ix, ix = 1 + s := ⟨_, rfl⟩
              have hadd : (1 : Int) + (s : Int) = (ix : Int) := by omega
              rw [← hix] at hcS hixz
              clear hix
              cases hb : side[ix]?.getD false
              · rw [hb] at hcS
                clear ap av aw e1 e2 HM5
                go_wp2
                go_roundg (T - (s + 1))
                case measure => omega
                case rel => exact ⟨s + 1, v2, ys, by go_num, by omega, by omega, by omega, HM⟩
              · rw [hb] at hcS
                clear HM
                go_wp2
                go_roundg (T - (s + 1))
                case measure => omega
                case rel => exact ⟨s + 1, _, _, by go_num, by omega, by omega, by simp; omega, HM5⟩
            · have hstz : ¬ (s : Int) < (T : Int) := by omega
              obtain ⟨a1, d1, e1⟩ := HM.out.o1.shape
              obtain ⟨a2, d2, e2⟩ := HM.out.o2.shape
              subst e1 e2
              have cc0 : wr.cell? ⟨w3.heap.size, 0, none⟩ = some (.slice a1 xs.length d1) := by have := HM.out.o.cell (i := 0) (by omega); simpa using this
              have cc1 : wr.cell? ⟨w3.heap.size, 1, none⟩ = some (.slice a2 ys.length d2) := by have := HM.out.o.cell (i := 1) (by omega); simpa using this
              have o6 := HO5.out.keep HM.out.bel HO5.out.lt
              have c50 := o6.cell (i := 0) (by omega)
              have c51 := o6.cell (i := 1) (by omega)
              have f50 := o6.frozen 0
              have f51 := o6.frozen 1
              have HO6 := Lib.hid (((o6.set 0 (.slice a1 xs.length d1)).set 1 (.slice a2 ys.length d2)).drew)
              have b6 := below_then HB3.out HM.out.bel
              have HB6 := Lib.hid (((b6.setCell (p := ⟨w.heap.size, 0, none⟩) (by dsimp only; omega) (.slice a1 xs.length d1)).setCell (p := ⟨w.heap.size, 1, none⟩) (by dsimp only; omega) (.slice a2 ys.length d2)).drew)
              have hl5' := HO5.out.lt
              have hne : w3.heap.size ≠ w.heap.size := by omega
              clear o6 b6 HM
              go_wp2
              go_region
              go_step
              go_wp2
              refine bodyPost_ret (results_tct (t := 4) (a := 5) (x := 6) (by rfl) rfl (load_cut HO6.out)) rfl ?_
              exact ⟨_, _, _, _, _, _, _, _, _, _, rfl, HB6.out, .inr (.inr ⟨HOK.out, HY.out, rfl⟩)⟩
end Go.Proofs.Ytgfcnkfmgpakkaa
