/-
Two controllers: the law's walk.
-/
import Derived.Test.YtkbbapefgifagaaGreatDoorCTwZE
namespace Go.Proofs.YtkbbapefgifagaaGreatDoor
open Go.RowKit
set_option linter.unusedVariables false
set_option linter.unusedSimpArgs false
/-- A turn. -/
structure Trn7 where
  what : Int
  who : Bool
  pick : Int
def encTn (t : Trn7) : List Value := [.int .u8 t.what, .bool t.who, .int .u8 t.pick]
theorem rdTn_at {w : World} {A : Option Addr} {xs : List Trn7} (h : Rd 3 encTn w A xs) {k : Nat} (hk : k < xs.length) : ∃ b off x, A = some ⟨b, off, none⟩ ∧ b < w.heap.size ∧ xs[k]? = some x ∧ w.cell? ⟨b, off + k * 3, none⟩ = some (.int .u8 x.what) ∧ w.cell? ⟨b, off + k * 3 + 1, none⟩ = some (.bool x.who) ∧ w.cell? ⟨b, off + k * 3 + 2, none⟩ = some (.int .u8 x.pick) := by
  obtain ⟨b, off, x, hA, hb, hx, hc⟩ := h.at_ hk
  exact ⟨b, off, x, hA, hb, hx, hc 0 _ rfl, hc 1 _ rfl, hc 2 _ rfl⟩
theorem alvS_nil (n : Nat) (t : Int) : alvS n t [] = 0 := by
  unfold alvS
  induction n with
  | zero => rfl
  | succ k ih => unfold sumN; rw [ih]; rfl
theorem new_ok {n : Nat} {p : Int} (h0 : 0 ≤ p) (h9 : p ≤ 99) : HfOk n 0 0 (newX p) :=
  ⟨⟨h0, by show p ≤ 1000; omega, by show (1 : Int) ≤ 1; omega, by show (1 : Int) ≤ 1000001; omega, by show 0 ≤ 64; omega, by show 0 ≤ 64; omega, fun t ht => (by cases ht), fun t ht => (by cases ht), List.Pairwise.nil, List.Pairwise.nil⟩, ⟨by show 0 ≤ 64; omega, fun t ht => (by cases ht), List.Pairwise.nil⟩, fun t ht => (by cases ht), fun t ht => (by cases ht), fun t ht => (by cases ht), Int.le_refl _, by show (1 : Int) ≤ 1 + 4 * 0; omega, fun i _ => Int.le_refl _, by show alvS n 0 [] ≤ p; rw [alvS_nil]; exact h0, rfl, fun k t ht => (by cases ht), Nat.le_refl _, Nat.le_refl _⟩
theorem two_start {n m : Nat} {p q : Int} (hn0 : 0 < n) (hn4 : n ≤ 4) (hm0 : 0 < m) (hm4 : m ≤ 4) (hp0 : 0 ≤ p) (hp9 : p ≤ 99) (hq0 : 0 ≤ q) (hq9 : q ≤ 99) : Two n m (p + q) 0 0 (newX p) (newX q) :=
  ⟨new_ok hp0 hp9, new_ok hq0 hq9, fun t ht => (by cases ht), fun t ht => (by cases ht), by show p + q + 0 + 0 = p + q; omega, Int.le_refl _, by show (0 : Int) ≤ ((0 : Nat) : Int); omega, by omega, by omega⟩
set_option maxRecDepth 100000 in
set_option maxHeartbeats 16000000 in
theorem walk_TopTwoControllers (a b c : Int) (A : Option Addr) (N cA : Nat) (ts : List Trn7) (w : World) (ha : 0 ≤ a ∧ a ≤ 255) (hb : 0 ≤ b ∧ b ≤ 255) (hc : 0 ≤ c ∧ c ≤ 255) (HX : Hid (Rd 3 encTn w A ts)) (HN : Hid (ts.length = N)) (HU : Hid (∀ t ∈ ts, (0 ≤ t.what ∧ t.what ≤ 255) ∧ (0 ≤ t.pick ∧ t.pick ≤ 255))) (HT : Hid (hapT w)) (hG46 : w.cell? ⟨0, 46, none⟩ = some (.int .i64 (-2))) (hG52 : w.cell? ⟨0, 52, none⟩ = some (.int .i64 (-2))) :
    Calls Tryz.prog 3 #[.int .u8 a, .int .u8 b, .int .u8 c, .slice A N cA] w fun e w' => e = .returned (.bool true) ∧ Below w.heap.size w w' := by
  have HLS := Lib.hid (r7Lease_any w hG46 hG52)
  clear hG46 hG52
  go_enter Tryz.func3, Tryz.ntmps3
  go_wp2_with fail
  refine HLS.out.mono ?_
  rintro e w1 ⟨rfl, hb1⟩
  have HB1 := Lib.hid hb1
  clear hb1 HLS
  by_cases hN : 200 < N
  · have hNz : (200 : Int) < (N : Int) := by omega
    go_wp2_with fail
    go_ret
    exact ⟨rfl, HB1.out⟩
  · have hNz : ¬ (200 : Int) < (N : Int) := by omega
    obtain ⟨n, hn⟩ : ∃ n : Nat, 1 + c % 4 = (n : Int) := ⟨(1 + c % 4).toNat, by omega⟩
    obtain ⟨m, hm⟩ : ∃ m : Nat, 1 + c / 4 % 4 = (m : Int) := ⟨(1 + c / 4 % 4).toNat, by omega⟩
    obtain ⟨p, hp⟩ : ∃ p, a % 100 = p := ⟨_, rfl⟩
    obtain ⟨q, hq⟩ : ∃ q, b % 100 = q := ⟨_, rfl⟩
    have hnb : 0 < n ∧ n ≤ 4 := by omega
    have hmb : 0 < m ∧ m ≤ 4 := by omega
    have hpb : 0 ≤ p ∧ p ≤ 99 := by omega
    have hqb : 0 ≤ q ∧ q ≤ 99 := by omega
    obtain ⟨hn0, hn4⟩ := hnb
    obtain ⟨hm0, hm4⟩ := hmb
    obtain ⟨hp0, hp9⟩ := hpb
    obtain ⟨hq0, hq9⟩ := hqb
    have hN2 : N ≤ 200 := by omega
    go_wp2_with fail
    refine (r7New_ok p n w1 hn0 hn4).mono ?_
    rintro e w2 ⟨Hx, A0, rfl, hHx, hox, hxx, hb2⟩
    have HBX := Lib.hid (And.intro hHx (And.intro hox (And.intro (hxx w.heap.size) hb2)))
    have lHx := hox.lt
    clear hHx hox hxx hb2
    go_wp2_with fail
    refine (r7New_ok q m w2 hm0 hm4).mono ?_
    rintro e w3 ⟨Hy, A1, rfl, hHy, hoy, hyy, hb3⟩
    obtain ⟨w4, hw4⟩ : ∃ W, W = w3.alloc (.cells #[.pointer (some ⟨Hx, 0, none⟩), .pointer (some ⟨Hy, 0, none⟩)] 26) := ⟨_, rfl⟩
    obtain ⟨L, hL⟩ : ∃ L, L = w3.heap.size := ⟨_, rfl⟩
    have hb4 : Below w3.heap.size w3 w4 := by rw [hw4]; exact (Below.refl _ _).alloc (Nat.le_refl _) _
    have hlc : Own w4 L 26 2 (hfF [.pointer (some ⟨Hx, 0, none⟩), .pointer (some ⟨Hy, 0, none⟩)]) := by rw [hw4, hL]; exact Own.hf w3 [.pointer (some ⟨Hx, 0, none⟩), .pointer (some ⟨Hy, 0, none⟩)] 26
    have HP0 : Hid (Pair w.heap.size L (hfF [.pointer (some ⟨Hx, 0, none⟩), .pointer (some ⟨Hy, 0, none⟩)]) Hx Hy n m (newX p) (newX q) w4) := Lib.hid ⟨_, _, _, _, PairC.start hn0 hm0 HBX.out.2.1 HBX.out.2.2.1 (.inl rfl) hb3 hoy (hyy w.heap.size) ⟨.inr lHx, .inl rfl⟩ hHy hb4 (by omega) hlc (Nat.le_trans HB1.out.size HBX.out.1)⟩
    have HBW : Hid (Below w.heap.size w w4) := Lib.hid (below_then (below_then (below_then HB1.out HBX.out.2.2.2) hb3) hb4)
    have HT0 : Hid (Two n m (p + q) 0 0 (newX p) (newX q)) := Lib.hid (two_start hn0 hn4 hm0 hm4 (by omega) (by omega) (by omega) (by omega))
    have HHX : Hid (1 < Hx ∧ 1 < Hy) := Lib.hid (by have := zb (HT.out 0 (by omega)); have := HB1.out.size; have := HBX.out.1; dsimp only at *; omega)
    have HW4 := Lib.hid (And.intro hw4.symm hL.symm)
    clear hw4 hL hb4 hlc hHy hoy hyy hb3 HBX lHx
    go_upto_region 7 with (fail)
    try simp only [World.size_alloc]
    rw [HW4.out.1, HW4.out.2]
    clear HW4
    go_wp2_with fail
    go_loopg [13, 60] (N + 1) (fun g1 v13 v60 wr => ∃ (r : Nat) (tick : Int) (x y : Hf), v13 = .int .i64 tick ∧ v60 = .int .i64 (r : Nat) ∧ r ≤ N ∧ N - r ≤ g1 ∧ Hid (Pair w.heap.size L (hfF [.pointer (some ⟨Hx, 0, none⟩), .pointer (some ⟨Hy, 0, none⟩)]) Hx Hy n m x y wr) ∧ Hid (Two n m (p + q) tick r x y) ∧ Hid (Below w.heap.size w wr))
    case atStart => exact ⟨0, 0, newX p, newX q, by go_num, by go_num, by omega, by omega, HP0, HT0, HBW⟩
    case round =>
      clear HP0 HT0 HBW
      obtain ⟨r, tick, x, y, rfl, rfl, hr, hg1, HP, HTW, HBr⟩ := hrel
      by_cases hlt : r < N
      · have hltz : (r : Int) < (N : Int) := by omega
        obtain ⟨bt, ot, t, hA, hlt0, hgx, t0, t1, t2⟩ := rdTn_at (HX.out.keep HBr.out) (show r < ts.length by rw [HN.out]; exact hlt)
        obtain ⟨htw, htp⟩ := HU.out t (List.mem_of_getElem? hgx)
        obtain ⟨what, who, pick⟩ := t
        dsimp only at t0 t1 t2 htw htp
        obtain ⟨htw0, htw1⟩ := htw
        obtain ⟨htp0, htp1⟩ := htp
        have hhalf : ∃ (ii jj Hh Ho nh no : Nat) (xh xo : Hf), (ii : Int) = (if who then 1 else 0) ∧ (jj : Int) = 1 - (ii : Int) ∧ ii + jj = 1 ∧ (hfF [.pointer (some ⟨Hx, 0, none⟩), .pointer (some ⟨Hy, 0, none⟩)]) ii = .pointer (some ⟨Hh, 0, none⟩) ∧ (hfF [.pointer (some ⟨Hx, 0, none⟩), .pointer (some ⟨Hy, 0, none⟩)]) jj = .pointer (some ⟨Ho, 0, none⟩) ∧ (0 < nh ∧ nh ≤ 4) ∧ (0 < no ∧ no ≤ 4) ∧ (1 < Hh ∧ 1 < Ho) ∧
            Pair w.heap.size L (hfF [.pointer (some ⟨Hx, 0, none⟩), .pointer (some ⟨Hy, 0, none⟩)]) Hh Ho nh no xh xo wr ∧ Two nh no (p + q) tick r xh xo ∧ ∀ (x' y' : Hf) (tick' : Int) (r' : Nat) (W : World), Pair w.heap.size L (hfF [.pointer (some ⟨Hx, 0, none⟩), .pointer (some ⟨Hy, 0, none⟩)]) Hh Ho nh no x' y' W → Two nh no (p + q) tick' r' x' y' → ∃ x2 y2, Hid (Pair w.heap.size L (hfF [.pointer (some ⟨Hx, 0, none⟩), .pointer (some ⟨Hy, 0, none⟩)]) Hx Hy n m x2 y2 W) ∧ Hid (Two n m (p + q) tick' r' x2 y2) := by
          cases who
          · exact ⟨0, 1, Hx, Hy, n, m, x, y, rfl, rfl, rfl, rfl, rfl, ⟨hn0, hn4⟩, ⟨hm0, hm4⟩, HHX.out, HP.out, HTW.out, fun x' y' _ _ _ h1 h2 => ⟨x', y', Lib.hid h1, Lib.hid h2⟩⟩
          · exact ⟨1, 0, Hy, Hx, m, n, y, x, rfl, rfl, rfl, rfl, rfl, ⟨hm0, hm4⟩, ⟨hn0, hn4⟩, HHX.out.symm, HP.out.swap hn0 hm0, HTW.out.swap, fun x' y' _ _ _ h1 h2 => ⟨y', x', Lib.hid (h1.swap hm0 hn0), Lib.hid h2.swap⟩⟩
        obtain ⟨ii, jj, Hh, Ho, nh, no, xh, xo, hii, hjj, hij, hlh, hlo, hnh, hno, hh1, hPh, hTh, hback⟩ := hhalf
        have HH2 := Lib.hid hh1
        have HPH := Lib.hid hPh
        have HTH := Lib.hid hTh
        have HBK := Lib.hid hback
        have HLF := Lib.hid (And.intro hlh hlo)
        obtain ⟨wA, hwA⟩ : ∃ W, W = wr.alloc (.cells #[.int .u8 what, .bool who, .int .u8 pick] 28) := ⟨_, rfl⟩
        obtain ⟨Y, hY⟩ : ∃ Y, Y = wr.heap.size := ⟨_, rfl⟩
        have hbA : Below wr.heap.size wr wA := by rw [hwA]; exact (Below.refl _ _).alloc (Nat.le_refl _) _
        obtain ⟨y0, y1, y2⟩ : wA.cell? ⟨Y, 0, none⟩ = some (.int .u8 what) ∧ wA.cell? ⟨Y, 1, none⟩ = some (.bool who) ∧ wA.cell? ⟨Y, 2, none⟩ = some (.int .u8 pick) := by rw [hwA, hY]; exact ⟨by go_simp, by go_simp, by go_simp⟩
        have lY : Y < wA.heap.size := zb y0
        have HBA := Lib.hid hbA
        have HBAW : Hid (Below w.heap.size w wA) := Lib.hid (below_then HBr.out hbA)
        have HPA : Hid (Pair w.heap.size L (hfF [.pointer (some ⟨Hx, 0, none⟩), .pointer (some ⟨Hy, 0, none⟩)]) Hx Hy n m x y wA) := Lib.hid (HP.out.keepP hn0 hm0 hbA)
        have HPHA : Hid (Pair w.heap.size L (hfF [.pointer (some ⟨Hx, 0, none⟩), .pointer (some ⟨Hy, 0, none⟩)]) Hh Ho nh no xh xo wA) := Lib.hid (HPH.out.keepP hnh.1 hno.1 hbA)
        have HTA : Hid (hapT wA) := Lib.hid (hapT_keep HT.out HBAW.out)
        have hr2 : r < 200 := by omega
        have HWA := Lib.hid (And.intro hwA.symm hY.symm)
        have HII := Lib.hid (And.intro hii (And.intro hjj hij))
        clear hwA hY hbA hPh hTh hback hlh hlo hgx hii hjj hij hh1
        subst hA
        go_upto_region 10 with (fail)
        rw [HWA.out.1, HWA.out.2]
        clear HWA t0 t1 t2 hlt0
        go_upto_if 65 with (fail)
        cases who
        · have hi0 : ii = 0 := by have := HII.out.1; simp at this; omega
          subst hi0
          go_step
          go_step
          go_step
          go_step
          refine wp_normal (fun K' hK' => ?_)
          refine round_ok w.heap.size L Hx Hy n m Hh Ho nh no 0 jj Y p q tick what pick r x y xh xo wA K' HPA HTW HPHA HTH hr2 hn0 hn4 hm0 hm4 hnh.1 hnh.2 hno.1 hno.2 htw0 htw1 htp0 htp1 HHX.out.1 HHX.out.2 HH2.out.1 HH2.out.2 HTA ⟨hp0, hp9⟩ ⟨hq0, hq9⟩ HII.out.2.2 HLF.out.1 HLF.out.2 y0 y2 HBK (Lib.hid (fun g tick' x' y' W h1 h2 h3 => hK' _ _ ?_))
          have HBn : Hid (Below w.heap.size w W) := Lib.hid (HBAW.out.trans h3.out)
          clear hK' K' y0 y1 y2 lY h3
          unfold frP
          go_wp2_with fail
          go_roundg (N - (r + 1))
          case measure => omega
          case rel => exact ⟨r + 1, tick', x', y', rfl, by go_num, by omega, by omega, h1, h2, HBn⟩
        · have hi0 : ii = 1 := by have := HII.out.1; simp at this; omega
          subst hi0
          go_step
          go_step
          go_step
          go_step
          go_step
          go_step
          go_step
          go_step
          refine wp_normal (fun K' hK' => ?_)
          refine round_ok w.heap.size L Hx Hy n m Hh Ho nh no 1 jj Y p q tick what pick r x y xh xo wA K' HPA HTW HPHA HTH hr2 hn0 hn4 hm0 hm4 hnh.1 hnh.2 hno.1 hno.2 htw0 htw1 htp0 htp1 HHX.out.1 HHX.out.2 HH2.out.1 HH2.out.2 HTA ⟨hp0, hp9⟩ ⟨hq0, hq9⟩ HII.out.2.2 HLF.out.1 HLF.out.2 y0 y2 HBK (Lib.hid (fun g tick' x' y' W h1 h2 h3 => hK' _ _ ?_))
          have HBn : Hid (Below w.heap.size w W) := Lib.hid (HBAW.out.trans h3.out)
          clear hK' K' y0 y1 y2 lY h3
          unfold frP
          go_wp2_with fail
          go_roundg (N - (r + 1))
          case measure => omega
          case rel => exact ⟨r + 1, tick', x', y', rfl, by go_num, by omega, by omega, h1, h2, HBn⟩
      · have hltz : ¬ (r : Int) < (N : Int) := by omega
        go_wp2_with fail
        go_ret
        exact ⟨rfl, HBr.out⟩
end Go.Proofs.YtkbbapefgifagaaGreatDoor
