/-
Contracts of package money in one form each, the comparison of lists of the reference, and the examples (head).
-/
import Derived.Test.YtahpoikbnjhkgaaMoneyD
namespace Go.Proofs.Ytahpoikbnjhkgaa
open Go.RowKit

theorem mTimes_any (p q r : Int) (w : World) : Calls Try.prog 11 #[.int .i64 p, .int .i64 q, .int .i64 r] w (Ends2 (timesV p q r) (timesE p q r) w) := by
  unfold timesV timesE fitV fitE
  cases h : tOk p q r with
  | false => simp only [Bool.false_eq_true, if_false]; exact mTimes_bad p q r w h
  | true =>
    cases hv : inB (halfV (p * q) r) 0 1000000000 with
    | true => simp only [if_true]; exact mTimes_yes p q r w h hv
    | false => simp only [if_true, Bool.false_eq_true, if_false]; exact mTimes_no p q r w h hv
theorem mStarted_any (p q r : Int) (w : World) : Calls Try.prog 13 #[.int .i64 p, .int .i64 q, .int .i64 r] w (Ends2 (startV p q r) (startE p q r) w) := by
  unfold startV startE fitV fitE
  cases h : tOk p q r with
  | false => simp only [Bool.false_eq_true, if_false]; exact mStarted_bad p q r w h
  | true =>
    cases hv : inB (startN p q r) 0 1000000000 with
    | true => simp only [if_true]; exact mStarted_yes p q r w h hv
    | false => simp only [if_true, Bool.false_eq_true, if_false]; exact mStarted_no p q r w h hv
theorem mTax_any (p q : Int) (w : World) : Calls Try.prog 15 #[.int .i64 p, .int .i64 q] w (Ends2 (taxV p q) (taxE p q) w) := by
  unfold taxV taxE fitV fitE
  cases h : xOk p q with
  | false => simp only [Bool.false_eq_true, if_false]; exact mTax_bad p q w h
  | true =>
    cases hv : inB (halfV (p * q) 10000) 0 1000000000 with
    | true => simp only [if_true]; exact mTax_yes p q w h hv
    | false => simp only [if_true, Bool.false_eq_true, if_false]; exact mTax_no p q w h hv

/-- The parts of an amount. -/
def partV (A : Int) (ws : List Int) (i : Nat) : Int := qV A (sumL ws) ws i + if rank (keyV A (sumL ws) ws) ws.length i < (leftV A (sumL ws) ws ws.length).toNat then 1 else 0
def splitL (A : Int) (ws : List Int) : List Int := if splitOk A ws then (List.range ws.length).map (partV A ws) else []
def splitE (A : Int) (ws : List Int) : Int := if splitOk A ws then 0 else 1
theorem splitL_length (A : Int) (ws : List Int) : (splitL A ws).length = if splitOk A ws then ws.length else 0 := by unfold splitL; split <;> simp
/-- A call answers a list and a number; nothing that was there has changed. -/
def EndsL (l : List Int) (k : Int) (w : World) (e : Ending) (w' : World) : Prop := ∃ (a : Option Addr) (cap : Nat), e = .returned (.tuple #[.slice a l.length cap, .int .i64 k]) ∧ Rd 1 encI w' a l ∧ Below w.heap.size w w'
theorem mSplit_any (A : Int) (ws : List Int) (a0 : Option Addr) (cap : Nat) (w : World) (hr : Rd 1 encI w a0 ws) :
    Calls Try.prog 17 #[.int .i64 A, .slice a0 ws.length cap] w (EndsL (splitL A ws) (splitE A ws) w) := by
  cases h : (inB A 0 1000000000 && inB ws.length 1 32) with
  | false =>
    have hs : splitOk A ws = false := by unfold splitOk; rw [h]; rfl
    unfold splitL splitE
    rw [hs]
    refine (mSplit_bad1 A ws a0 cap w h).mono ?_
    rintro e w' ⟨rfl, hb⟩
    exact ⟨none, 0, rfl, Rd.nil, hb⟩
  | true =>
    obtain ⟨h1, h2⟩ := Bool.and_eq_true_iff.1 h
    refine (mSplit_main A ws a0 cap w h1 h2 hr).mono ?_
    intro e w' hp
    unfold SplitPost at hp
    by_cases hc : wOk ws = true ∧ 0 < sumL ws
    · rw [if_pos hc] at hp
      obtain ⟨g, o, rfl, hg, ho, hown, hb⟩ := hp
      have hs : splitOk A ws = true := by unfold splitOk; rw [h, hc.1]; simp [hc.2]
      have hlen : (splitL A ws).length = ws.length := by rw [splitL_length, hs]; rfl
      have hS : sumF (wt ws) ws.length = sumL ws := by rw [← sumL_take ws ws.length (Nat.le_refl _), List.take_length]
      have hn : 0 < ws.length := by have := (inB_of h2).1; omega
      have hl := left_bd (A := A) hc.2 hS hn
      refine ⟨some ⟨g, 0, none⟩, ws.length, ?_, ?_, hb⟩
      · rw [hlen]; unfold splitE; rw [hs]; rfl
      · refine hown.rd (sz := 1) (by rw [hlen]; omega) (fun _ => rfl) ?_
        intro k x hx j v hv
        have hk : k < ws.length := by rw [← hlen]; exact (List.getElem?_eq_some_iff.1 hx).1
        unfold splitL at hx
        rw [hs, if_pos rfl, List.getElem?_map, List.getElem?_range hk] at hx
        simp only [Option.map_some, Option.some.injEq] at hx
        subst hx
        have hj : j = 0 := by have := (List.getElem?_eq_some_iff.1 hv).1; simp [encI] at this; exact this
        subst hj
        simp only [encI, List.getElem?_cons_zero, Option.some.injEq] at hv
        subst hv
        rw [Nat.mul_one, Nat.add_zero, bumps_rank ho _ (by omega) hk]
        rfl
    · rw [if_neg hc] at hp
      obtain ⟨rfl, hb⟩ := hp
      have hs : splitOk A ws = false := by
        unfold splitOk
        rw [h]
        cases hw : wOk ws with
        | false => rfl
        | true => have : ¬ 0 < sumL ws := fun x => hc ⟨hw, x⟩; simp [this]
      unfold splitL splitE
      rw [hs]
      exact ⟨none, 0, rfl, Rd.nil, hb⟩

def eqB (xs ys : List Int) : Bool := decide (xs = ys)
set_option maxHeartbeats 1000000 in
theorem rmInts_any (xs ys : List Int) (a b : Option Addr) (c d : Nat) (w : World) (hx : Rd 1 encI w a xs) (hy : Rd 1 encI w b ys) (hn : xs.length ≤ 1000000000) (hm : ys.length ≤ 1000000000) :
    Calls Try.prog 19 #[.slice a xs.length c, .slice b ys.length d] w fun e w' => e = .returned (.bool (eqB xs ys)) ∧ ∃ n, w' = w.drewN n := by
  have HX := Lib.hid hx
  have HY := Lib.hid hy
  clear hx hy
  obtain ⟨n, hn'⟩ : ∃ n, n = xs.length := ⟨_, rfl⟩
  obtain ⟨m, hm'⟩ : ∃ m, m = ys.length := ⟨_, rfl⟩
  rw [← hn'] at hn ⊢
  rw [← hm'] at hm ⊢
  have HN := Lib.hid hn'
  have HM := Lib.hid hm'
  clear hn' hm'
  by_cases hne : n = m
  · have hd : ((n : Int) != (m : Int)) = false := by subst hne; simp
    have HE := Lib.hid hne
    clear hne
    go_enter Try.func19, Try.ntmps19
    go_wp2
    go_loopg [5] n (fun g1 vi wr => ∃ i q : Nat, vi = .int .i64 i ∧ i ≤ n ∧ n - i ≤ g1 ∧ Hid (xs.take i = ys.take i) ∧ Hid (wr = w.drewN q))
    case atStart => exact ⟨0, 0, by go_num, by omega, by omega, Lib.hid rfl, Lib.hid rfl⟩
    case round =>
      obtain ⟨i, q, rfl, hi, hg1, HT, HW⟩ := hrel
      obtain rfl := HW.out
      clear HW
      by_cases hlt : i < n
      · have hltz : (i : Int) < (n : Int) := by omega
        have hltm : (i : Int) < (m : Int) := by have := HE.out; omega
        obtain ⟨bx, ox, rfl, lx, cx⟩ := HX.out.int (k := i) (by rw [← HN.out]; exact hlt)
        obtain ⟨by', oy, rfl, ly, cy⟩ := HY.out.int (k := i) (by rw [← HM.out]; omega)
        have hxi : xs[i]? = some (xs[i]?.getD 0) := by rw [List.getElem?_eq_getElem (by rw [← HN.out]; exact hlt)]; rfl
        have hyi : ys[i]? = some (ys[i]?.getD 0) := by rw [List.getElem?_eq_getElem (by rw [← HM.out]; omega)]; rfl
        have HXI := Lib.hid hxi
        have HYI := Lib.hid hyi
        clear hxi hyi lx ly
        by_cases he : xs[i]?.getD 0 = ys[i]?.getD 0
        · have HEQ : Hid (xs.take (i + 1) = ys.take (i + 1)) := Lib.hid (by rw [take_snoc HXI.out, take_snoc HYI.out, HT.out, he])
          have hb : (xs[i]?.getD 0 != ys[i]?.getD 0) = false := by rw [he]; simp
          clear HT HXI HYI he
          generalize xs[i]?.getD 0 = x at *
          generalize ys[i]?.getD 0 = y at *
          go_wp2_with fail
          go_quiet (fail)
          go_wp2
          go_roundg (n - (i + 1))
          case measure => omega
          case rel => exact ⟨i + 1, _, by go_num, by omega, by omega, HEQ, Lib.hid rfl⟩
        · have HEQ : Hid (eqB xs ys = false) := Lib.hid (by unfold eqB; rw [decide_eq_false_iff_not]; intro e; exact he (by rw [e]))
          have hb : (xs[i]?.getD 0 != ys[i]?.getD 0) = true := by rw [bne_iff_ne]; exact he
          clear HT HXI HYI he
          generalize xs[i]?.getD 0 = x at *
          generalize ys[i]?.getD 0 = y at *
          go_wp2_with fail
          go_quiet (fail)
          go_wp2
          go_ret
          exact ⟨ret_bool HEQ.out.symm, _, World.drewN_drewN _ _ _⟩
      · have hltz : ¬ (i : Int) < (n : Int) := by omega
        have HEQ : Hid (eqB xs ys = true) := Lib.hid (by
          unfold eqB; rw [decide_eq_true_iff]
          have := HT.out
          rwa [List.take_of_length_le (by rw [← HN.out]; omega), List.take_of_length_le (by rw [← HM.out]; have := HE.out; omega)] at this)
        go_wp2
        go_ret
        exact ⟨ret_bool HEQ.out.symm, _, rfl⟩
  · have hd : ((n : Int) != (m : Int)) = true := by rw [bne_iff_ne]; omega
    have HEQ : Hid (eqB xs ys = false) := Lib.hid (by unfold eqB; rw [decide_eq_false_iff_not]; intro e; exact hne (by rw [HN.out, HM.out, e]))
    clear hne
    go_enter Try.func19, Try.ntmps19
    go_wp2
    go_ret
    exact ⟨ret_bool HEQ.out.symm, 0, rfl⟩
theorem below_alloc {w w' : World} {o : Obj} (h : Below (w.alloc o).heap.size (w.alloc o) w') : Below w.heap.size w w' :=
  ((Below.refl _ w).alloc (Nat.le_refl _) o).trans (h.mono (by simp))
theorem Rd.alloc {α : Type} {sz : Nat} {enc : α → List Value} {w : World} {A : Option Addr} {xs : List α} (h : Rd sz enc w A xs) (o : Obj) : Rd sz enc (w.alloc o) A xs := h.keep ((Below.refl _ w).alloc (Nat.le_refl _) o)
/-- A list literal, just laid. -/
theorem rd_new (w : World) (l : List Int) : Rd 1 encI (w.alloc (.cells (l.map (Value.int .i64)).toArray 3)) (some ⟨w.heap.size, 0, none⟩) l := by
  refine (Own.new w 3 (l.map (Value.int .i64)).toArray undef).rd (sz := 1) (by simp) (fun _ => rfl) ?_
  intro k x hx j v hv
  have hj : j = 0 := by have := (List.getElem?_eq_some_iff.1 hv).1; simp [encI] at this; exact this
  subst hj
  simp only [encI, List.getElem?_cons_zero, Option.some.injEq] at hv
  subst hv
  simp [hx]
set_option maxRecDepth 100000 in
set_option maxHeartbeats 4000000 in
theorem lmHead_any (w : World) : Calls Try.prog 10 #[] w fun e w' => e = .returned (.bool true) ∧ Below w.heap.size w w' := by
  go_enter Try.func10, Try.ntmps10
  go_wp2_with fail
  refine (mTimes_any _ _ _ _).mono ?_
  rintro e w1 ⟨rfl, hb⟩
  have B1 := Lib.hid (hb)
  clear hb
  rw [show timesV 3000 12345 1000 = 37035 from by decide +kernel, show timesE 3000 12345 1000 = 0 from by decide +kernel]
  go_wp2_with fail
  refine (mTimes_any _ _ _ _).mono ?_
  rintro e w2 ⟨rfl, hb⟩
  have B2 := Lib.hid (below_then B1.out hb)
  clear hb B1
  rw [show timesV 1 1 2 = 1 from by decide +kernel, show timesE 1 1 2 = 0 from by decide +kernel]
  go_wp2_with fail
  refine (mTimes_any _ _ _ _).mono ?_
  rintro e w3 ⟨rfl, hb⟩
  have B3 := Lib.hid (below_then B2.out hb)
  clear hb B2
  rw [show timesV 1 1 3 = 0 from by decide +kernel, show timesE 1 1 3 = 0 from by decide +kernel]
  go_wp2_with fail
  refine (mStarted_any _ _ _ _).mono ?_
  rintro e w4 ⟨rfl, hb⟩
  have B4 := Lib.hid (below_then B3.out hb)
  clear hb B3
  rw [show startV 500 61 30 = 1500 from by decide +kernel, show startE 500 61 30 = 0 from by decide +kernel]
  go_wp2_with fail
  refine (mTax_any _ _ _).mono ?_
  rintro e w5 ⟨rfl, hb⟩
  have B5 := Lib.hid (below_then B4.out hb)
  clear hb B4
  rw [show taxV 10001 1900 = 1900 from by decide +kernel, show taxE 10001 1900 = 0 from by decide +kernel]
  go_wp2_with fail
  refine (mSplit_any 100 [1, 1, 1] (some ⟨w5.heap.size, 0, none⟩) 3 _ (rd_new w5 [1, 1, 1])).mono ?_
  rintro e w6 ⟨la, lc, rfl, hr, hb⟩
  have B6 := Lib.hid (below_then B5.out (below_alloc hb))
  clear hb B5
  rw [show splitL 100 [1, 1, 1] = [34, 33, 33] from by decide +kernel] at hr ⊢
  rw [show splitE 100 [1, 1, 1] = 0 from by decide +kernel]
  have Rl := Lib.hid hr
  clear hr
  go_wp2_with fail
  refine (mSplit_any 10 [1, 2, 0] (some ⟨w6.heap.size, 0, none⟩) 3 _ (rd_new w6 [1, 2, 0])).mono ?_
  rintro e w7 ⟨na, nc, rfl, hr, hb⟩
  have B7 := Lib.hid (below_then B6.out (below_alloc hb))
  have hb7 := hb
  clear hb B6
  rw [show splitL 10 [1, 2, 0] = [3, 7, 0] from by decide +kernel] at hr ⊢
  rw [show splitE 10 [1, 2, 0] = 0 from by decide +kernel]
  have Rn := Lib.hid hr
  have Rl2 := Lib.hid (Rl.out.keep (below_alloc hb7))
  clear hr hb7 Rl
  go_wp2_with fail
  refine (mTimes_any _ _ _ _).mono ?_
  rintro e w8 ⟨rfl, hb⟩
  have B8 := Lib.hid (below_then B7.out hb)
  have Rl3 := Lib.hid (Rl2.out.keep hb)
  have Rn3 := Lib.hid (Rn.out.keep hb)
  clear Rl2 Rn
  clear hb B7
  rw [show timesV 1000000000 2 1 = 0 from by decide +kernel, show timesE 1000000000 2 1 = 3 from by decide +kernel]
  go_wp2_with fail
  refine (mSplit_any 5 [0] (some ⟨w8.heap.size, 0, none⟩) 1 _ (rd_new w8 [0])).mono ?_
  rintro e w9 ⟨qa, qc, rfl, hr, hb⟩
  have B9 := Lib.hid (below_then B8.out (below_alloc hb))
  have Rl4 := Lib.hid (Rl3.out.keep (below_alloc hb))
  have Rn4 := Lib.hid (Rn3.out.keep (below_alloc hb))
  clear Rl3 Rn3
  clear hb B8
  rw [show splitL 5 [0] = [] from by decide +kernel] at hr ⊢
  rw [show splitE 5 [0] = 1 from by decide +kernel]
  clear hr
  go_wp2_with fail
  refine (mTimes_any _ _ _ _).mono ?_
  rintro e w10 ⟨rfl, hb⟩
  have B10 := Lib.hid (below_then B9.out hb)
  have Rl5 := Lib.hid (Rl4.out.keep hb)
  have Rn5 := Lib.hid (Rn4.out.keep hb)
  clear Rl4 Rn4
  clear hb B9
  rw [show timesV 1 1 0 = 0 from by decide +kernel, show timesE 1 1 0 = 1 from by decide +kernel]
  go_wp2_with fail
  refine (rmInts_any [34, 33, 33] [34, 33, 33] la (some ⟨w10.heap.size, 0, none⟩) lc 3 _ (Rl5.out.alloc _) (rd_new w10 [34, 33, 33]) (by simp) (by simp)).mono ?_
  rintro e w11 ⟨rfl, k1, rfl⟩
  rw [show eqB [34, 33, 33] [34, 33, 33] = true from by decide]
  go_wp2_with fail
  have hsz : ((w10.alloc (.cells #[.int .i64 34, .int .i64 33, .int .i64 33] 3)).drewN k1).heap.size = w10.heap.size + 1 := by simp
  have hrn := rd_new ((w10.alloc (.cells #[.int .i64 34, .int .i64 33, .int .i64 33] 3)).drewN k1) [3, 7, 0]
  rw [hsz] at hrn
  refine (rmInts_any [3, 7, 0] [3, 7, 0] na (some ⟨w10.heap.size + 1, 0, none⟩) nc 3 _ (((Rn5.out.alloc _).drewN k1).alloc _) hrn (by simp) (by simp)).mono ?_
  clear hrn hsz
  rintro e w12 ⟨rfl, k2, rfl⟩
  rw [show eqB [3, 7, 0] [3, 7, 0] = true from by decide]
  go_wp2
  go_ret
  have B := B10.out
  exact ⟨rfl, below_drewN ((below_drewN (B.alloc B.size _) k1).alloc (by simp; have := B.size; omega) _) k2⟩
end Go.Proofs.Ytahpoikbnjhkgaa
