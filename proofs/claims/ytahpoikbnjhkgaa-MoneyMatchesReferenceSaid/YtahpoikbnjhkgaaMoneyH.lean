/-
The walk of the law MoneySplits.
-/
import Derived.Test.YtahpoikbnjhkgaaMoneyG
import Derived.Test.YtahpoikbnjhkgaaMoneyMath2
namespace Go.Proofs.Ytahpoikbnjhkgaa
open Go.RowKit
set_option linter.unusedVariables false

/-- What the parts are, where there are any. -/
structure PartsOk (A : Int) (ws : List Int) (S : Int) (n : Nat) (P : Nat → Int) : Prop where
  A0 : 0 ≤ A
  A1 : A ≤ 1000000000
  n0 : 1 ≤ n
  n1 : n ≤ 32
  hn : n = ws.length
  hS : 0 < S
  hs : sumF (wt ws) n = S
  hw : ∀ i, 0 ≤ wt ws i ∧ wt ws i ≤ 1000000
  len : (splitL A ws).length = n
  P_eq : P = pV A S ws n
  nth : ∀ i, i < n → (splitL A ws)[i]? = some (P i)
theorem split_ok {A : Int} {ws : List Int} (h : splitOk A ws = true) : ∃ P, PartsOk A ws (sumL ws) ws.length P := by
  have hl := splitL_length A ws
  rw [h] at hl
  have h0 := h
  unfold splitOk at h
  rw [Bool.and_eq_true_iff, Bool.and_eq_true_iff, Bool.and_eq_true_iff] at h
  obtain ⟨⟨⟨h1, h2⟩, h3⟩, h4⟩ := h
  have a := inB_of h1
  have b := inB_of h2
  refine ⟨pV A (sumL ws) ws ws.length, a.1, a.2, by omega, by omega, rfl, of_decide_eq_true h4, by rw [← sumL_take ws ws.length (Nat.le_refl _), List.take_length], wOk_wt h3, hl, rfl, ?_⟩
  intro i hi
  unfold splitL
  rw [h0, if_pos rfl, List.getElem?_map, List.getElem?_range hi]
  rfl
theorem part_bd {A S : Int} {ws : List Int} {n : Nat} {P : Nat → Int} (h : PartsOk A ws S n P) (i : Nat) : 0 ≤ P i ∧ P i ≤ 1000000000000001 := by
  rw [h.P_eq]
  unfold pV
  have q0 := q_nonneg (ws := ws) (i := i) h.A0 h.hS (h.hw i).1
  have q1 := q_le (S := S) (ws := ws) (i := i) h.A0 h.A1 (h.hw i).1 (h.hw i).2
  split <;> omega
theorem sumF_bd {f : Nat → Int} {c : Int} (hc : ∀ i, 0 ≤ f i ∧ f i ≤ c) (k : Nat) : 0 ≤ sumF f k ∧ sumF f k ≤ k * c := by
  have h1 := sumF_le (f := fun _ => 0) (g := f) (n := k) (fun i _ => (hc i).1)
  have h2 := sumF_le (f := f) (g := fun _ => c) (n := k) (fun i _ => (hc i).2)
  rw [sumF_const] at h1 h2
  constructor
  · omega
  · exact h2
theorem encI_row {w : World} {x : Addr} {zs : List Int} {len : Nat} (hcell : ∀ i, i < zs.length → w.cell? (x.add i) = some (.int .i64 (zs.getD i 0))) (hl : len ≤ zs.length) : Rd 1 encI w (some x) (zs.take len) := by
  intro h0
  rw [List.length_take] at h0
  obtain ⟨b, off, spot⟩ := x
  have hc := hcell 0 (by omega)
  have hspot : spot = none := by simpa [Addr.add] using World.cell?_spot hc
  subst hspot
  refine ⟨b, off, rfl, ?_, ?_⟩
  · have hc' : w.cell? ⟨b, off, none⟩ = some (.int .i64 (zs.getD 0 0)) := by simpa [Addr.add] using hc
    exact lt_of_cell hc'
  · intro k v hv j u hu
    have hj : j = 0 := by have := (List.getElem?_eq_some_iff.1 hu).1; simp [encI] at this; exact this
    subst hj
    simp only [encI, List.getElem?_cons_zero, Option.some.injEq] at hu
    subst hu
    have hk : k < (zs.take len).length := (List.getElem?_eq_some_iff.1 hv).1
    rw [List.length_take] at hk
    rw [List.getElem?_take, if_pos (by omega)] at hv
    have := hcell k (by omega)
    rw [List.getD_eq_getElem?_getD, hv] at this
    by_cases h0 : k = 0
    · subst h0; simpa [Addr.add] using this
    · simpa [Addr.add, h0] using this

set_option maxRecDepth 100000 in
set_option maxHeartbeats 4000000 in
theorem walk_MoneySplits (A : Int) (hA : (Lit.int .i64 A).wf = true) (a0 : Option Addr) (cap : Nat) (ws : List Int) (w : World) (hr : Rd 1 encI w a0 ws) (hwz : ∀ x ∈ ws, (Lit.int .i64 x).wf = true) :
    Calls Try.prog 7 #[.int .i64 A, .slice a0 ws.length cap] w (TruePost w) := by
  have HR := Lib.hid hr
  clear hr hwz
  obtain ⟨n, hn⟩ : ∃ n, n = ws.length := ⟨_, rfl⟩
  by_cases hbig : 100 < n
  · rw [← hn]
    clear hn
    go_enter Try.func7, Try.ntmps7
    go_wp2_with fail
    refine (lmHead_any _).mono ?_
    rintro e w1 ⟨rfl, hb⟩
    have B1 := Lib.hid hb
    clear hb
    go_wp2
    go_ret
    exact ⟨rfl, B1.out⟩
  cases hok : splitOk A ws with
  | false =>
    have HL : Hid (splitL A ws = []) := Lib.hid (by unfold splitL; rw [hok]; rfl)
    have HE : Hid (splitE A ws = 1) := Lib.hid (by unfold splitE; rw [hok]; rfl)
    clear hok
    rw [← hn]
    have HN := Lib.hid hn
    clear hn
    go_enter Try.func7, Try.ntmps7
    go_wp2_with fail
    refine (lmHead_any _).mono ?_
    rintro e w1 ⟨rfl, hb⟩
    have B1 := Lib.hid hb
    have R1 := Lib.hid (HR.out.keep hb)
    clear hb
    go_wp2_with fail
    rw [HN.out]
    refine (mSplit_any A ws _ _ _ R1.out).mono ?_
    rintro e w2 ⟨la, lc, rfl, hr, hb⟩
    have B2 := Lib.hid (below_then B1.out hb)
    clear hb hr B1
    rw [HL.out, HE.out]
    go_wp2
    go_ret
    exact ⟨rfl, B2.out⟩
  | true =>
    have HE : Hid (splitE A ws = 0) := Lib.hid (by unfold splitE; rw [hok]; rfl)
    obtain ⟨P, hp⟩ := split_ok hok
    clear hok
    rw [← hn] at hp ⊢
    have n0 := hp.n0
    have n1 := hp.n1
    have A0 := hp.A0
    have A1 := hp.A1
    generalize sumL ws = S at hp
    have HP := Lib.hid hp
    clear hp hn
    go_enter Try.func7, Try.ntmps7
    go_wp2_with fail
    refine (lmHead_any _).mono ?_
    rintro e w1 ⟨rfl, hb⟩
    have B1 := Lib.hid hb
    have R1 := Lib.hid (HR.out.keep hb)
    clear hb
    go_wp2_with fail
    rw [HP.out.hn]
    refine (mSplit_any A ws _ _ _ R1.out).mono ?_
    rintro e w2 ⟨la, lc, rfl, hr, hb⟩
    have B2 := Lib.hid (below_then B1.out hb)
    have R2 := Lib.hid (R1.out.keep hb)
    have L2 := Lib.hid hr
    clear hb hr B1 R1
    rw [HE.out, HP.out.len, ← HP.out.hn]
    have hdn : ((n : Int) != (n : Int)) = false := by simp
    go_wp2
    go_loopg [8, 9, 10, 11, 41] n (fun g1 v8 v9 v10 v11 v41 wr => ∃ k : Nat, v41 = .int .i64 k ∧ k ≤ n ∧ n - k ≤ g1 ∧ v8 = .int .i64 (sumF P k) ∧ v9 = .int .i64 (sumF (wt ws) k) ∧ Hid (w2 = wr))
    case atStart => exact ⟨0, by go_num, by omega, by omega, rfl, rfl, Lib.hid rfl⟩
    case round =>
      obtain ⟨k, rfl, hk, hg1, rfl, rfl, HW⟩ := hrel
      obtain rfl := HW.out
      clear HW
      have s1 := sumF_bd (part_bd HP.out) k
      have s2 := sumF_bd HP.out.hw k
      have s3 : sumF P k ≤ 50000000000000000 := by omega
      have s4 : sumF (wt ws) k ≤ 50000000 := by omega
      obtain ⟨s5, _⟩ := s1
      obtain ⟨s6, _⟩ := s2
      by_cases hlt : k < n
      · have hltz : (k : Int) < (n : Int) := by omega
        obtain ⟨bx, ox, x, rfl, lx, hx, cx⟩ := L2.out.at_ (k := k) (by rw [HP.out.len]; exact hlt)
        obtain ⟨by', oy, y, rfl, ly, hy, cy⟩ := R2.out.at_ (k := k) (by rw [← HP.out.hn]; exact hlt)
        have cx0 := cx 0 _ rfl
        have cy0 := cy 0 _ rfl
        rw [Nat.mul_one, Nat.add_zero] at cx0 cy0
        have ex : x = P k := by have := HP.out.nth k hlt; rw [hx] at this; exact Option.some.inj this
        have ey : y = wt ws k := by unfold wt; rw [hy]; rfl
        have x01 := part_bd HP.out k
        have y01 := HP.out.hw k
        rw [← ex] at x01
        rw [← ey] at y01
        obtain ⟨x0, x1⟩ := x01
        obtain ⟨y0, y1⟩ := y01
        have EX : Hid (sumF P (k + 1) = sumF P k + x) := Lib.hid (by rw [ex]; rfl)
        have EY : Hid (sumF (wt ws) (k + 1) = sumF (wt ws) k + y) := Lib.hid (by rw [ey]; rfl)
        clear ex ey cx cy hx hy lx ly
        generalize sumF P k = u at *
        generalize sumF (wt ws) k = v at *
        go_wp2
        go_roundg (n - (k + 1))
        case measure => omega
        case rel => exact ⟨k + 1, by go_num, by omega, by omega, by rw [EX.out], by rw [EY.out], Lib.hid rfl⟩
      · have hltz : ¬ (k : Int) < (n : Int) := by omega
        obtain rfl : n = k := by omega
        have h1 : sumF P n = A := by rw [HP.out.P_eq]; exact pV_sum HP.out.hS HP.out.hs (by omega)
        have h2 := HP.out.hs
        rw [h1, h2]
        rw [h2] at s4 s6
        have S0 := HP.out.hS
        clear h1 h2 s3 s5
        go_wp2
        go_loopg [12, 13, 14, 58] n (fun g1 v12 v13 v14 v58 wr => ∃ k : Nat, v58 = .int .i64 k ∧ k ≤ n ∧ n - k ≤ g1 ∧ Hid (w2 = wr))
        case atStart => exact ⟨0, by go_num, by omega, by omega, Lib.hid rfl⟩
        case round =>
          obtain ⟨k, rfl, hk, hg1, HW⟩ := hrel
          obtain rfl := HW.out
          clear HW
          by_cases hlt : k < n
          · have hltz : (k : Int) < (n : Int) := by omega
            obtain ⟨bx, ox, x, rfl, lx, hx, cx⟩ := L2.out.at_ (k := k) (by rw [HP.out.len]; exact hlt)
            obtain ⟨by', oy, y, rfl, ly, hy, cy⟩ := R2.out.at_ (k := k) (by rw [← HP.out.hn]; exact hlt)
            have cx0 := cx 0 _ rfl
            have cy0 := cy 0 _ rfl
            rw [Nat.mul_one, Nat.add_zero] at cx0 cy0
            have ex : x = P k := by have := HP.out.nth k hlt; rw [hx] at this; exact Option.some.inj this
            have ey : y = wt ws k := by unfold wt; rw [hy]; rfl
            have x01 := part_bd HP.out k
            have y01 := HP.out.hw k
            have off := pV_off (i := k) A0 HP.out.hS HP.out.hs (by omega) (HP.out.hw k).1
            rw [← HP.out.P_eq, ← ex, ← ey] at off
            rw [← ex] at x01
            rw [← ey] at y01
            obtain ⟨x0, x1⟩ := x01
            obtain ⟨y0, y1⟩ := y01
            obtain ⟨_, f1, f2, f3⟩ := off
            clear ex ey cx cy hx hy lx ly
            obtain ⟨m0, m1⟩ := mul_bd A0 A1 y0 (by omega)
            have xs : -S < x * S - A * y := f1
            have xS0 : 0 ≤ x * S := Int.mul_nonneg x0 (by omega)
            by_cases hy0 : y = 0
            · have hx0 := f3 hy0
              subst hy0 hx0
              clear f3
              go_wp2
              go_roundg (n - (k + 1))
              case measure => omega
              case rel => exact ⟨k + 1, by go_num, by omega, by omega, Lib.hid rfl⟩
            · have hb0 : (y == 0) = false := by rw [beq_eq_false_iff_ne]; exact hy0
              clear f3
              go_wp2
              go_roundg (n - (k + 1))
              case measure => omega
              case rel => exact ⟨k + 1, by go_num, by omega, by omega, Lib.hid rfl⟩
          · have hltz : ¬ (k : Int) < (n : Int) := by omega
            have hAA : (A == A) = true := by simp
            go_wp2
            go_ret
            exact ⟨rfl, B2.out⟩
end Go.Proofs.Ytahpoikbnjhkgaa
