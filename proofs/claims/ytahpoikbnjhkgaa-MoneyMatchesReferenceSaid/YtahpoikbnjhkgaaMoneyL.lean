/-
The reference's Split: what it answers.
-/
import Derived.Test.YtahpoikbnjhkgaaMoneyK
import Derived.Test.YtahpoikbnjhkgaaMoneyH
import Derived.Test.YtahpoikbnjhkgaaAppI
namespace Go.Proofs.Ytahpoikbnjhkgaa
open Go.RowKit
set_option linter.unusedVariables false

/-- The rests behind t rounds: those that were taken are -1. -/
def restAt (A S : Int) (ws : List Int) (n t i : Nat) : Int := if rank (keyV A S ws) n i < t then -1 else rV A S ws i
def partAt (A S : Int) (ws : List Int) (n t i : Nat) : Int := qV A S ws i + if rank (keyV A S ws) n i < t then 1 else 0
/-- b is the first of the greatest rests below i. -/
def BestTo (ρ : Nat → Int) (i b : Nat) : Prop := ∀ j, j < i → ρ j ≤ ρ b ∧ (j < b → ρ j < ρ b)
theorem best_step_yes {ρ : Nat → Int} {i b : Nat} (h : BestTo ρ i b) (hb : b < i ∨ b = 0) (hg : ρ b < ρ i) : BestTo ρ (i + 1) i := by
  intro j hj
  by_cases c : j = i
  · subst c; exact ⟨Int.le_refl _, fun x => by omega⟩
  · have := h j (by omega)
    exact ⟨by omega, fun _ => by omega⟩
theorem best_step_no {ρ : Nat → Int} {i b : Nat} (h : BestTo ρ i b) (hb : b < i ∨ (b = 0 ∧ i = 0)) (hg : ¬ ρ b < ρ i) : BestTo ρ (i + 1) b := by
  intro j hj
  by_cases c : j = i
  · subst c; exact ⟨by omega, fun x => by omega⟩
  · exact h j (by omega)
theorem best_step_no' {ρ : Nat → Int} {i b : Nat} (h : BestTo ρ i b) (hb : b < i ∨ b = 0) (hg : ¬ ρ b < ρ i) : BestTo ρ (i + 1) b := by
  intro j hj
  by_cases c : j = i
  · subst c; exact ⟨by omega, fun x => by omega⟩
  · exact h j (by omega)
theorem best_rank {A S : Int} {ws : List Int} {n t b : Nat} (hS : 0 < S) (ht : t < n) (hb : b < n) (h : BestTo (restAt A S ws n t) n b) : rank (keyV A S ws) n b = t := by
  obtain ⟨o, ho⟩ := exists_sorts (keyV A S ws) n
  obtain ⟨i, _, hi, ei⟩ := ho.mem (k := t) (by omega) ht
  have ei' : o t = (i : Int) := ei
  have ri : rank (keyV A S ws) n i = t := by rw [← ei']; exact rank_at ho ht
  have hib := h i hi
  have vi : restAt A S ws n t i = rV A S ws i := by unfold restAt; rw [if_neg (by omega)]
  have r0 := (r_bd (A := A) (ws := ws) (i := i) hS).1
  obtain ⟨rb, eb⟩ := rank_lt ho hb
  by_cases c : rank (keyV A S ws) n b < t
  · have vb : restAt A S ws n t b = -1 := by unfold restAt; rw [if_pos c]
    rw [vi, vb] at hib
    omega
  · have vb : restAt A S ws n t b = rV A S ws b := by unfold restAt; rw [if_neg c]
    rw [vi, vb] at hib
    by_cases d : rank (keyV A S ws) n b = t
    · exact d
    · exfalso
      have := ho.sorted t (rank (keyV A S ws) n b) (by omega) (by omega) rb
      rw [ei', eb] at this
      unfold klt keyV at this
      simp only [Int.toNat_natCast] at this
      have := hib.2
      omega
theorem rank_inj {key : Int → Int} {n i j : Nat} (hi : i < n) (hj : j < n) (h : rank key n i = rank key n j) : i = j := by
  obtain ⟨o, ho⟩ := exists_sorts key n
  have e1 := (rank_lt ho hi).2
  have e2 := (rank_lt ho hj).2
  rw [h, e2] at e1
  omega
theorem restAt_next {A S : Int} {ws : List Int} {n t b i : Nat} (hb : b < n) (hi : i < n) (hr : rank (keyV A S ws) n b = t) : restAt A S ws n (t + 1) i = if i = b then -1 else restAt A S ws n t i := by
  unfold restAt
  by_cases c : i = b
  · subst c; rw [if_pos rfl, if_pos (by omega)]
  · rw [if_neg c]
    have : rank (keyV A S ws) n i ≠ t := fun e => c (rank_inj (key := keyV A S ws) hi hb (by omega))
    by_cases d : rank (keyV A S ws) n i < t
    · rw [if_pos d, if_pos (by omega)]
    · rw [if_neg d, if_neg (by omega)]
theorem partAt_next {A S : Int} {ws : List Int} {n t b i : Nat} (hb : b < n) (hi : i < n) (hr : rank (keyV A S ws) n b = t) : partAt A S ws n (t + 1) i = if i = b then partAt A S ws n t b + 1 else partAt A S ws n t i := by
  unfold partAt
  by_cases c : i = b
  · subst c; rw [if_pos rfl, if_pos (by omega), if_neg (by omega)]; omega
  · rw [if_neg c]
    have : rank (keyV A S ws) n i ≠ t := fun e => c (rank_inj (key := keyV A S ws) hi hb (by omega))
    by_cases d : rank (keyV A S ws) n i < t
    · rw [if_pos d, if_pos (by omega)]
    · rw [if_neg d, if_neg (by omega)]

/-- Block g has at least n cells of its own; the first n hold the numbers f. -/
def RowL (w : World) (g n : Nat) (f : Nat → Int) : Prop := ∃ (m : Nat) (u : Nat → Value), n ≤ m ∧ Own w g 3 m u ∧ ∀ i, i < n → u i = .int .i64 (f i)
theorem RowL.lt {w : World} {g n : Nat} {f : Nat → Int} (h : RowL w g n f) : g < w.heap.size := by obtain ⟨m, u, _, ho, _⟩ := h; exact ho.lt
theorem RowL.cell {w : World} {g n : Nat} {f : Nat → Int} (h : RowL w g n f) {i : Nat} (hi : i < n) : w.cell? ⟨g, i, none⟩ = some (.int .i64 (f i)) := by
  obtain ⟨m, u, hm, ho, hu⟩ := h
  rw [ho.cell (by omega), hu i hi]
theorem RowL.frozen {w : World} {g n : Nat} {f : Nat → Int} (h : RowL w g n f) (i : Nat) : w.frozen? ⟨g, i, none⟩ = false := by obtain ⟨m, u, _, ho, _⟩ := h; exact ho.frozen i
theorem RowL.other {w : World} {g n : Nat} {f : Nat → Int} (h : RowL w g n f) {k i : Nat} (hk : g ≠ k) (v : Value) : RowL (w.setCell ⟨k, i, none⟩ v) g n f := by
  obtain ⟨m, u, hm, ho, hu⟩ := h
  exact ⟨m, u, hm, ho.other hk v, hu⟩
theorem RowL.set {w : World} {g n : Nat} {f : Nat → Int} (h : RowL w g n f) (i : Nat) (x : Int) : RowL (w.setCell ⟨g, i, none⟩ (.int .i64 x)) g n (fun j => if j = i then x else f j) := by
  obtain ⟨m, u, hm, ho, hu⟩ := h
  refine ⟨m, _, hm, ho.set i _, ?_⟩
  intro j hj
  by_cases c : j = i
  · show (if j = i then Value.int .i64 x else u j) = Value.int .i64 (if j = i then x else f j)
    rw [if_pos c, if_pos c]
  · show (if j = i then Value.int .i64 x else u j) = Value.int .i64 (if j = i then x else f j)
    rw [if_neg c, if_neg c, hu j hj]
theorem RowL.congr {w : World} {g n : Nat} {f f' : Nat → Int} (h : RowL w g n f) (e : ∀ i, i < n → f i = f' i) : RowL w g n f' := by
  obtain ⟨m, u, hm, ho, hu⟩ := h
  exact ⟨m, u, hm, ho, fun i hi => by rw [hu i hi, e i hi]⟩
theorem RowL.drewN {w : World} {g n : Nat} {f : Nat → Int} (h : RowL w g n f) (k : Nat) : RowL (w.drewN k) g n f := by
  obtain ⟨m, u, hm, ho, hu⟩ := h
  exact ⟨m, u, hm, ho.drewN k, hu⟩
theorem RowL.rd {w : World} {g : Nat} {f : Nat → Int} {l : List Int} (h : RowL w g l.length f) (hl : ∀ i x, l[i]? = some x → f i = x) : Rd 1 encI w (some ⟨g, 0, none⟩) l := by
  intro h0
  refine ⟨g, 0, rfl, h.lt, ?_⟩
  intro k x hx j u hu
  have hj : j = 0 := by have := (List.getElem?_eq_some_iff.1 hu).1; simp [encI] at this; exact this
  subst hj
  simp only [encI, List.getElem?_cons_zero, Option.some.injEq] at hu
  subst hu
  rw [Nat.mul_one, Nat.add_zero, Nat.zero_add, h.cell (List.getElem?_eq_some_iff.1 hx).1, hl k x hx]
/-- A list of the call's own that is not empty is such a row. -/
theorem OwnL.row {w : World} {base : Nat} {v : Value} {xs : List Int} {n : Nat} {f : Nat → Int} (h : OwnL w base v xs) (hn : xs.length = n) (h0 : 0 < n) (hf : ∀ i, i < n → xs[i]? = some (f i)) : ∃ g cap, v = .slice (some ⟨g, 0, none⟩) n cap ∧ v.ownBlock = some g ∧ base ≤ g ∧ RowL w g n f := by
  subst hn
  rcases h.2 with ⟨_, hz⟩ | ⟨g, cap, cur, hv, hb, hh, h1, h2, h3, h4⟩
  · omega
  · refine ⟨g, cap, hv, by rw [hv]; rfl, hb, cur.size, fun i => cur[i]?.getD undef, by omega, ⟨cur, hh, rfl, fun i hi => by show cur[i]? = some (cur[i]?.getD undef); rw [Array.getElem?_eq_getElem hi]; rfl⟩, ?_⟩
    intro i hi
    rw [Nat.mul_one] at h4
    have : (cur.toList.take xs.length)[i]? = (xs.map (Value.int .i64))[i]? := by rw [h4]
    rw [List.getElem?_take, if_pos hi, List.getElem?_map, hf i hi, Array.getElem?_toList] at this
    show cur[i]?.getD undef = _
    rw [this]
    rfl

theorem rmSplit_bad1 (A : Int) (ws : List Int) (a0 : Option Addr) (cap : Nat) (w : World) (hl : ws.length ≤ 1000000000) (h : (inB A 0 1000000000 && inB ws.length 1 32) = false) :
    Calls Try.prog 18 #[.int .i64 A, .slice a0 ws.length cap] w fun e w' => e = .returned (.tuple #[.slice none 0 0, .int .i64 1]) ∧ Below w.heap.size w w' := by
  cases h1 : inB A 0 1000000000 with
  | false =>
    have H1 := Lib.hid h1
    clear h1 h
    go_enter Try.func18, Try.ntmps18
    go_wp2_with (go_at_call 27; refine (rmAmount_any _ _).mono ?_; rintro e w' ⟨rfl, rfl⟩; rw [H1.out])
    go_ret2
    exact ⟨rfl, Below.refl _ _⟩
  | true =>
    have H1 := Lib.hid h1
    rw [h1, Bool.true_and] at h
    generalize ws.length = n at *
    by_cases h2 : (n : Int) < 1
    · clear h1 h
      go_enter Try.func18, Try.ntmps18
      go_wp2_with (go_at_call 27; refine (rmAmount_any _ _).mono ?_; rintro e w' ⟨rfl, rfl⟩; rw [H1.out])
      go_ret2
      exact ⟨rfl, Below.refl _ _⟩
    · have h3 : (32 : Int) < (n : Int) := by
        unfold inB at h
        rw [decide_eq_false_iff_not] at h
        omega
      clear h1 h
      go_enter Try.func18, Try.ntmps18
      go_wp2_with (go_at_call 27; refine (rmAmount_any _ _).mono ?_; rintro e w' ⟨rfl, rfl⟩; rw [H1.out])
      go_ret2
      exact ⟨rfl, Below.refl _ _⟩

theorem OwnL.some_block {w : World} {base : Nat} {v : Value} {xs : List Int} (h : OwnL w base v xs) (h0 : 0 < xs.length) : ∃ g, v.ownBlock = some g ∧ g < w.heap.size := by
  obtain ⟨g, cap, rfl, _, hlt⟩ := World.ownsRow.form h h0
  exact ⟨g, rfl, hlt⟩
/-- Two own lists that each got one more number still lie apart. -/
theorem two_apart {w w1 : World} {base : Nat} {v u v' u' : Value} {xs ys xs' : List Int} (hv : OwnL w base v xs) (hu : OwnL w base u ys) (hd : v.ownBlock = none ∧ u.ownBlock = none ∨ v.ownBlock ≠ u.ownBlock) (hv' : OwnL w1 base v' xs') (h0 : 0 < xs'.length)
    (e1 : v'.ownBlock = v.ownBlock ∨ v'.ownBlock = some (w.heap.size + 1)) (e2 : u'.ownBlock = u.ownBlock ∨ u'.ownBlock = some (w1.heap.size + 1)) : v'.ownBlock ≠ u'.ownBlock := by
  obtain ⟨g, hg, hlt⟩ := hv'.some_block h0
  rw [hg]
  intro he
  rcases e2 with e2 | e2
  · rw [e2] at he
    have hgu := (World.ownsRow.lt hu g he.symm).2
    rcases e1 with e1 | e1
    · rw [hg] at e1
      rcases hd with ⟨x, _⟩ | x
      · rw [x] at e1; cases e1
      · exact x (by rw [← e1, he])
    · rw [hg] at e1
      have := Option.some.inj e1
      omega
  · rw [e2] at he
    have := Option.some.inj he
    omega
theorem apart_not {v u : Value} {k : Nat} (hd : v.ownBlock = none ∧ u.ownBlock = none ∨ v.ownBlock ≠ u.ownBlock) (hk : u.ownBlock = some k) : ¬ v.ownBlock = some k := by
  rcases hd with ⟨_, x⟩ | x
  · rw [x] at hk; cases hk
  · intro h; exact x (by rw [h, hk])
theorem range_snoc (f : Nat → Int) (k : Nat) : (List.range (k + 1)).map f = (List.range k).map f ++ [f k] := by rw [List.range_succ, List.map_append]; rfl
def RSplitPost (A : Int) (ws : List Int) (w : World) (e : Ending) (w' : World) : Prop := EndsL (splitL A ws) (splitE A ws) w e w'
set_option maxRecDepth 100000 in
set_option maxHeartbeats 8000000 in
theorem rmSplit_main (A : Int) (ws : List Int) (a0 : Option Addr) (cap : Nat) (w : World) (h1 : inB A 0 1000000000 = true) (h2 : inB ws.length 1 32 = true) (hr : Rd 1 encI w a0 ws) :
    Calls Try.prog 18 #[.int .i64 A, .slice a0 ws.length cap] w (RSplitPost A ws w) := by
  have HBAD : Hid (∀ e w', ¬ (wOk ws = true ∧ 0 < sumL ws) → e = .returned (.tuple #[.slice none 0 0, .int .i64 1]) → Below w.heap.size w w' → RSplitPost A ws w e w') := Lib.hid (by
    intro e w' hno he hb
    have hs : splitOk A ws = false := by
      unfold splitOk
      rw [h1, h2]
      cases hw : wOk ws with
      | false => rfl
      | true => have : ¬ 0 < sumL ws := fun x => hno ⟨hw, x⟩; simp [this]
    unfold RSplitPost splitL splitE
    rw [hs]
    exact ⟨none, 0, he, Rd.nil, hb⟩)
  have HOKS : Hid (wOk ws = true → 0 < sumL ws → splitOk A ws = true) := Lib.hid (fun a b => by unfold splitOk; rw [h1, h2, a]; simp [b])
  obtain ⟨A0, A1⟩ := inB_of h1
  obtain ⟨n0, n1⟩ := inB_of h2
  have H1 := Lib.hid h1
  have HR := Lib.hid hr
  clear h1 h2 hr
  obtain ⟨n, hn⟩ : ∃ n, n = ws.length := ⟨_, rfl⟩
  rw [← hn] at n0 n1 ⊢
  have HN := Lib.hid hn
  clear hn
  go_enter Try.func18, Try.ntmps18
  go_wp2_with (go_at_call 27; refine (rmAmount_any _ _).mono ?_; rintro e w' ⟨rfl, rfl⟩; rw [H1.out])
  go_loopg [6, 7] n (fun g1 v6 v7 wr => ∃ k : Nat, v7 = .int .i64 k ∧ k ≤ n ∧ n - k ≤ g1 ∧ v6 = .int .i64 (sumL (ws.take k)) ∧ Hid (wOk (ws.take k) = true) ∧ Hid (w = wr))
  case atStart => exact ⟨0, by go_num, by omega, by omega, rfl, Lib.hid (by simp [wOk]), Lib.hid rfl⟩
  case round =>
    obtain ⟨k, rfl, hk, hg1, rfl, HO, HW⟩ := hrel
    obtain rfl := HW.out
    clear HW
    have hsb := sumL_bd HO.out
    have hlk : (ws.take k).length ≤ k := List.length_take_le _ _
    have hs1 : sumL (ws.take k) ≤ 32000000 := by have := hsb.2; omega
    have hs0 := hsb.1
    clear hsb hlk
    by_cases hlt : k < n
    · have hltz : (k : Int) < (n : Int) := by omega
      obtain ⟨b, off, x, rfl, _, hx, hcc⟩ := HR.out.at_ (k := k) (by rw [← HN.out]; exact hlt)
      have hc0 := hcc 0 _ rfl
      rw [Nat.mul_one, Nat.add_zero] at hc0
      have HX := Lib.hid hx
      clear hx hcc
      by_cases hx0 : x < 0
      · as_aux_lemma =>
        have hd : decide (x < 0) = true := decide_eq_true hx0
        have HP := Lib.hid (wOk_take HX.out (inB_false (fun h => by omega)))
        generalize sumL (ws.take k) = s at *
        go_wp2
        go_ret2
        exact HBAD.out _ _ (fun z => by rw [HP.out] at z; cases z.1) rfl (Below.refl _ _)
      by_cases hx1 : 1000000 < x
      · as_aux_lemma =>
        have hd : decide (x < 0) = false := decide_eq_false hx0
        have HP := Lib.hid (wOk_take HX.out (inB_false (fun h => by omega)))
        generalize sumL (ws.take k) = s at *
        go_wp2
        go_ret2
        exact HBAD.out _ _ (fun z => by rw [HP.out] at z; cases z.1) rfl (Below.refl _ _)
      have HI := Lib.hid (inB_true (by omega : 0 ≤ x) (by omega : x ≤ 1000000))
      have HS2 : Hid (sumL (ws.take (k + 1)) = sumL (ws.take k) + x) := Lib.hid (by rw [take_snoc HX.out, sumL_snoc])
      have HO2 : Hid (wOk (ws.take (k + 1)) = true) := Lib.hid (by rw [take_snoc HX.out, wOk_snoc, HO.out, HI.out]; rfl)
      generalize sumL (ws.take k) = s at *
      go_wp2
      go_roundg (n - (k + 1))
      case measure => omega
      case rel => exact ⟨k + 1, by go_num, by omega, by omega, by rw [HS2.out], HO2, Lib.hid rfl⟩
    · have hltz : ¬ (k : Int) < (n : Int) := by omega
      have htk : ws.take k = ws := List.take_of_length_le (by rw [← HN.out]; omega)
      rw [htk] at HO hs0 hs1 ⊢
      clear htk
      by_cases hz : sumL ws = 0
      · as_aux_lemma =>
        have hzb : (sumL ws == 0) = true := by rw [hz]; rfl
        have HZ := Lib.hid hz
        clear hz
        generalize hS : sumL ws = S at *
        have HS := Lib.hid hS
        clear hS
        go_wp2
        go_ret2
        exact HBAD.out _ _ (fun z => by have := z.2; have := HZ.out; omega) rfl (Below.refl _ _)
      · have hpos : 0 < sumL ws := by omega
        obtain ⟨P, hp⟩ := split_ok (HOKS.out HO.out hpos)
        have HE : Hid (splitE A ws = 0) := Lib.hid (by unfold splitE; rw [HOKS.out HO.out hpos]; rfl)
        rw [← HN.out] at hp
        obtain ⟨S, hS⟩ : ∃ S, S = sumL ws := ⟨_, rfl⟩
        rw [← hS] at hp hpos hs0 hs1 ⊢
        have hzb : (S == 0) = false := by rw [beq_eq_false_iff_ne]; omega
        have HP := Lib.hid hp
        clear hp hz HBAD HOKS hS
        have HWT := Lib.hid HP.out.hw
        go_wp2
        as_aux_lemma =>
        go_loopg [8, 9, 10, 11] n (fun g1 v8 v9 v10 v11 wr => ∃ k : Nat, v11 = .int .i64 k ∧ k ≤ n ∧ n - k ≤ g1 ∧ v10 = .int .i64 (leftV A S ws k) ∧ Hid (OwnL wr w.heap.size v8 ((List.range k).map (qV A S ws))) ∧ Hid (OwnL wr w.heap.size v9 ((List.range k).map (rV A S ws))) ∧ Hid (v8.ownBlock = none ∧ v9.ownBlock = none ∨ v8.ownBlock ≠ v9.ownBlock) ∧ Hid (Below w.heap.size w wr))
        case atStart => exact ⟨0, by go_num, by omega, by omega, by simp [leftV, sumF], Lib.hid (OwnL.nil _ _), Lib.hid (OwnL.nil _ _), Lib.hid (Or.inl ⟨rfl, rfl⟩), Lib.hid (Below.refl _ _)⟩
        case round =>
          obtain ⟨k, rfl, hk, hg1, rfl, HQ, HRR, HD, HB⟩ := hrel
          by_cases hlt : k < n
          · have hltz : (k : Int) < (n : Int) := by omega
            obtain ⟨b, off, x, hA, hbl, hx, hcc⟩ := (HR.out.keep HB.out).at_ (k := k) (by rw [← HN.out]; exact hlt)
            have hc0 := hcc 0 _ rfl
            rw [Nat.mul_one, Nat.add_zero] at hc0
            subst hA
            obtain ⟨x0, x1⟩ : 0 ≤ x ∧ x ≤ 1000000 := by have := HWT.out k; unfold wt at this; rw [hx] at this; exact this
            have EQ : Hid (qV A S ws k = A * x / S) := Lib.hid (by unfold qV wt; rw [hx]; rfl)
            have ER : Hid (rV A S ws k = A * x % S) := Lib.hid (by unfold rV wt; rw [hx]; rfl)
            clear hx hcc
            obtain ⟨m0, m1⟩ := mul_bd A0 A1 x0 (by omega)
            obtain ⟨r0, r1⟩ := left_rough A0 A1 hpos HWT.out k (by omega)
            have q0 : 0 ≤ A * x / S := Int.ediv_nonneg m0 (by omega)
            have q1 : A * x / S ≤ 1000000000000000000 := Int.le_trans (Int.ediv_le_self _ m0) m1
            obtain ⟨ap, v8', w4, av, aw, hown8, hmod8, hob8⟩ := app_int (A * x / S) HQ.out HB.out.size (by rw [List.length_map, List.length_range]; omega)
            obtain ⟨ap9, v9', w5, av9, aw9, hown9, hmod9, hob9⟩ := app_int (A * x % S) (HRR.out.mod hmod8 (fun j hj => apart_not HD.out hj)) (Nat.le_trans HB.out.size hmod8.size) (by rw [List.length_map, List.length_range]; omega)
            have HD2 := Lib.hid (two_apart HQ.out HRR.out HD.out hown8 (by simp) hob8 hob9)
            have HB4 : Below w.heap.size w w4 := HB.out.trans (HQ.out.below hmod8 HB.out.size)
            have HB5 : Hid (Below w.heap.size w w5) := Lib.hid (HB4.trans ((HRR.out.mod hmod8 (fun j hj => apart_not HD.out hj)).below hmod9 HB4.size))
            have hown8' : OwnL w5 w.heap.size v8' ((List.range k).map (qV A S ws) ++ [A * x / S]) := hown8.mod hmod9 (fun j hj => by
              intro h9
              obtain ⟨g8, e8, _⟩ := hown8.some_block (by simp)
              rw [e8] at hj
              obtain rfl := Option.some.inj hj
              have hlt9 := (World.ownsRow.lt HRR.out _ h9).2
              rcases hob8 with y | y
              · rw [e8] at y; exact apart_not HD.out h9 y.symm
              · rw [e8] at y; have := Option.some.inj y; omega)
            rw [← EQ.out, ← range_snoc] at hown8'
            rw [← ER.out, ← range_snoc] at hown9
            obtain ⟨a8, c8, rfl, hrd8⟩ := hown8'.rd
            have hlen8 : ((List.range (k + 1)).map (qV A S ws)).length = k + 1 := by simp
            obtain ⟨g8, o8, y, rfl, _, hy, hcy⟩ := hrd8.at_ (k := k) (by rw [hlen8]; omega)
            have hcy0 := hcy 0 _ rfl
            rw [Nat.mul_one, Nat.add_zero] at hcy0
            have ey : y = A * x / S := by
              rw [List.getElem?_map, List.getElem?_range (by omega)] at hy
              rw [← EQ.out]; exact (Option.some.inj hy).symm
            rw [ey] at hcy0
            rw [hlen8] at av
            have HQ2 := Lib.hid hown8'
            have HR2 := Lib.hid hown9
            have HL : Hid (leftV A S ws (k + 1) = leftV A S ws k - A * x / S) := Lib.hid (by rw [left_succ, EQ.out])
            rw [hlen8] at HQ2 HD2
            have hk1 : (k : Int) < ((k + 1 : Nat) : Int) := by omega
            have hk2 : (k : Int) < (k : Int) + 1 := by omega
            have hl9 := lt_of_cell hc0
            have hne : b ≠ wr.heap.size := by omega
            have hcw : w4.cell? ⟨b, off + k, none⟩ = some (.int .i64 x) := by
              have hb0 : b < w.heap.size ∨ w.heap.size ≤ b := by omega
              obtain ⟨b', off', e', hlt', _⟩ := HR.out (by rw [← HN.out]; omega)
              injection e' with e'
              injection e' with e1 e2
              have hbw : b < w.heap.size := by rw [e1]; exact hlt'
              rw [hmod8.cell (p := ⟨b, off + k, none⟩) hl9 (fun h => by have := (World.ownsRow.lt HQ.out b h).1; omega)]
              exact hc0
            have hl4 := lt_of_cell hcw
            have hne4 : b ≠ w4.heap.size := by omega
            clear hown8' hown9 hown8 hmod8 hmod9 hob8 hob9 HQ HRR HD HB HB4 hrd8 hcy hy ey hlen8
            generalize leftV A S ws k = lk at *
            go_wp2
            go_roundg (n - (k + 1))
            case measure => omega
            case rel => exact ⟨k + 1, by go_num, by omega, by omega, by rw [HL.out], HQ2, HR2, Lib.hid (Or.inr HD2.out), HB5⟩
          · have hltz : ¬ (k : Int) < (n : Int) := by omega
            obtain rfl : n = k := by omega
            obtain ⟨L0, L1⟩ := left_bd (A := A) hpos HP.out.hs (by omega)
            obtain ⟨lf, hlf⟩ : ∃ lf : Nat, leftV A S ws n = (lf : Int) := ⟨(leftV A S ws n).toNat, by omega⟩
            rw [hlf] at L0 L1 ⊢
            have HLF := Lib.hid hlf
            clear hlf
            obtain ⟨g8, c8, rfl, eb8, _, hrow8⟩ := HQ.out.row (n := n) (f := qV A S ws) (by simp) (by omega) (fun i hi => by rw [List.getElem?_map, List.getElem?_range hi]; rfl)
            obtain ⟨g9, c9, rfl, eb9, _, hrow9⟩ := HRR.out.row (n := n) (f := rV A S ws) (by simp) (by omega) (fun i hi => by rw [List.getElem?_map, List.getElem?_range hi]; rfl)
            have hg89 : g8 ≠ g9 := by
              rcases HD.out with ⟨x, _⟩ | x
              · rw [eb8] at x; cases x
              · rw [eb8, eb9] at x; intro e; exact x (by rw [e])
            have hb8 : w.heap.size ≤ g8 := (World.ownsRow.lt HQ.out g8 eb8).1
            have hb9 : w.heap.size ≤ g9 := (World.ownsRow.lt HRR.out g9 eb9).1
            have R8 : Hid (RowL wr g8 n (partAt A S ws n 0)) := Lib.hid (hrow8.congr (fun i _ => by unfold partAt; rw [if_neg (by omega)]; omega))
            have R9 : Hid (RowL wr g9 n (restAt A S ws n 0)) := Lib.hid (hrow9.congr (fun i _ => by unfold restAt; rw [if_neg (by omega)]))
            clear HQ HRR HD eb8 eb9 hrow8 hrow9
            go_wp2
            as_aux_lemma =>
            go_loopg [10, 12, 13] lf (fun g1 v10 v12 v13 wr => ∃ t : Nat, v10 = .int .i64 ((lf : Int) - (t : Int)) ∧ t ≤ lf ∧ lf - t ≤ g1 ∧ Hid (RowL wr g8 n (partAt A S ws n t)) ∧ Hid (RowL wr g9 n (restAt A S ws n t)) ∧ Hid (Below w.heap.size w wr))
            case atStart => exact ⟨0, by simp, by omega, by omega, R8, R9, HB⟩
            case round =>
              clear R8 R9 HB
              obtain ⟨t, rfl, ht, hg1, R8, R9, HB⟩ := hrel
              by_cases htl : t < lf
              · have htz : (0 : Int) < (lf : Int) - (t : Int) := by omega
                have htz' : (t : Int) < (lf : Int) := by omega
                go_wp2
                go_loopg [12, 13] n (fun g1 v12 v13 wr => ∃ i b : Nat, v13 = .int .i64 i ∧ v12 = .int .i64 b ∧ i ≤ n ∧ n - i ≤ g1 ∧ b < n ∧ (b < i ∨ b = 0) ∧ Hid (BestTo (restAt A S ws n t) i b) ∧ Hid (RowL wr g8 n (partAt A S ws n t)) ∧ Hid (RowL wr g9 n (restAt A S ws n t)) ∧ Hid (Below w.heap.size w wr))
                case atStart => exact ⟨0, 0, by go_num, by go_num, by omega, by omega, by omega, by omega, Lib.hid (fun j hj => by omega), R8, R9, HB⟩
                case round =>
                  clear R8 R9 HB
                  obtain ⟨i, b, rfl, rfl, hi, hg2, hbn, hbi, HBT, R8, R9, HB⟩ := hrel
                  by_cases hil : i < n
                  · have hilz : (i : Int) < (n : Int) := by omega
                    have hbz : (b : Int) < (n : Int) := by omega
                    have ci := R9.out.cell hil
                    have cb := R9.out.cell hbn
                    by_cases hgt : restAt A S ws n t b < restAt A S ws n t i
                    · have hd : decide (restAt A S ws n t b < restAt A S ws n t i) = true := decide_eq_true hgt
                      have HBT2 := Lib.hid (best_step_yes HBT.out hbi hgt)
                      generalize restAt A S ws n t b = xb at *
                      generalize restAt A S ws n t i = xi at *
                      go_wp2_with fail
                      go_quiet (fail)
                      have R8' := Lib.hid (R8.out.drewN nq)
                      have R9' := Lib.hid (R9.out.drewN nq)
                      have HB' := Lib.hid (below_drewN HB.out nq)
                      clear ci cb R8 R9 HB
                      go_wp2
                      go_roundg (n - (i + 1))
                      case measure => omega
                      case rel => exact ⟨i + 1, i, by go_num, rfl, by omega, by omega, hil, by omega, HBT2, R8', R9', HB'⟩
                    · have hd : decide (restAt A S ws n t b < restAt A S ws n t i) = false := decide_eq_false hgt
                      have HBT2 := Lib.hid (best_step_no' HBT.out hbi hgt)
                      generalize restAt A S ws n t b = xb at *
                      generalize restAt A S ws n t i = xi at *
                      go_wp2_with fail
                      go_quiet (fail)
                      have R8' := Lib.hid (R8.out.drewN nq)
                      have R9' := Lib.hid (R9.out.drewN nq)
                      have HB' := Lib.hid (below_drewN HB.out nq)
                      clear ci cb R8 R9 HB
                      go_wp2
                      go_roundg (n - (i + 1))
                      case measure => omega
                      case rel => exact ⟨i + 1, b, by go_num, rfl, by omega, by omega, hbn, by omega, HBT2, R8', R9', HB'⟩
                  · have hilz : ¬ (i : Int) < (n : Int) := by omega
                    obtain rfl : n = i := by omega
                    have hrk := best_rank hpos (by omega : t < n) hbn HBT.out
                    have HRK := Lib.hid hrk
                    clear hrk
                    have hbz : (b : Int) < (n : Int) := by omega
                    have co := R8.out.cell hbn
                    have fo := R8.out.frozen b
                    have cr := R9.out.cell hbn
                    have fr := R9.out.frozen b
                    have pb : 0 ≤ partAt A S ws n t b ∧ partAt A S ws n t b ≤ 1000000000000001 := by
                      have q0 := q_nonneg (ws := ws) (i := b) A0 hpos (HWT.out b).1
                      have q1 := q_le (S := S) (ws := ws) (i := b) A0 A1 (HWT.out b).1 (HWT.out b).2
                      unfold partAt
                      split <;> omega
                    obtain ⟨pb0, pb1⟩ := pb
                    have R8' : Hid (RowL ((wr.setCell ⟨g8, b, none⟩ (.int .i64 (partAt A S ws n t b + 1))).setCell ⟨g9, b, none⟩ (.int .i64 (-1))) g8 n (partAt A S ws n (t + 1))) := Lib.hid
                      (((R8.out.set b _).other hg89 _).congr (fun i hi => (partAt_next hbn hi HRK.out).symm))
                    have R9' : Hid (RowL ((wr.setCell ⟨g8, b, none⟩ (.int .i64 (partAt A S ws n t b + 1))).setCell ⟨g9, b, none⟩ (.int .i64 (-1))) g9 n (restAt A S ws n (t + 1))) := Lib.hid
                      (((R9.out.other (fun e => hg89 e.symm) _).set b _).congr (fun i hi => (restAt_next hbn hi HRK.out).symm))
                    have HB' : Hid (Below w.heap.size w ((wr.setCell ⟨g8, b, none⟩ (.int .i64 (partAt A S ws n t b + 1))).setCell ⟨g9, b, none⟩ (.int .i64 (-1)))) := Lib.hid ((HB.out.setCell hb8 _).setCell hb9 _)
                    have cr' := (R9.out.other (k := g8) (i := b) (fun e => hg89 e.symm) (.int .i64 (partAt A S ws n t b + 1))).cell hbn
                    have fr' := (R9.out.other (k := g8) (i := b) (fun e => hg89 e.symm) (.int .i64 (partAt A S ws n t b + 1))).frozen b
                    clear R8 R9 HB
                    generalize partAt A S ws n t b = pp at *
                    go_wp2
                    clear co fo cr fr cr' fr'
                    generalize (wr.setCell ⟨g8, b, none⟩ (.int .i64 (pp + 1))).setCell ⟨g9, b, none⟩ (.int .i64 (-1)) = w9 at R8' R9' HB' ⊢
                    go_roundg (lf - (t + 1))
                    case measure => omega
                    case rel => exact ⟨t + 1, by congr 1; omega, by omega, by omega, R8', R9', HB'⟩
              · have htz : ¬ (0 : Int) < (lf : Int) - (t : Int) := by omega
                have htz' : ¬ (t : Int) < (lf : Int) := by omega
                obtain rfl : lf = t := by omega
                go_wp2
                go_ret2
                refine ⟨some ⟨g8, 0, none⟩, c8, by rw [HP.out.len, HE.out]; rfl, ?_, HB.out⟩
                refine RowL.rd (f := partAt A S ws n lf) (by rw [HP.out.len]; exact R8.out) ?_
                intro i x hx
                have hi : i < n := by rw [← HP.out.len]; exact (List.getElem?_eq_some_iff.1 hx).1
                rw [HP.out.nth i hi] at hx
                have := Option.some.inj hx
                rw [← this, HP.out.P_eq]
                unfold pV partAt
                rw [HLF.out, Int.toNat_natCast]
theorem rmSplit_any (A : Int) (ws : List Int) (a0 : Option Addr) (cap : Nat) (w : World) (hr : Rd 1 encI w a0 ws) (hl : ws.length ≤ 1000000000) :
    Calls Try.prog 18 #[.int .i64 A, .slice a0 ws.length cap] w (EndsL (splitL A ws) (splitE A ws) w) := by
  cases h : (inB A 0 1000000000 && inB ws.length 1 32) with
  | false =>
    have hs : splitOk A ws = false := by unfold splitOk; rw [h]; rfl
    unfold splitL splitE
    rw [hs]
    refine (rmSplit_bad1 A ws a0 cap w hl h).mono ?_
    rintro e w' ⟨rfl, hb⟩
    exact ⟨none, 0, rfl, Rd.nil, hb⟩
  | true =>
    obtain ⟨h1, h2⟩ := Bool.and_eq_true_iff.1 h
    exact rmSplit_main A ws a0 cap w h1 h2 hr
end Go.Proofs.Ytahpoikbnjhkgaa
