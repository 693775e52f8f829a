/-
Two controllers: steps, a new trial.
-/
import Derived.Test.YtkbbapefgifagaaGreatDoorGTwX
namespace Go.Proofs.YtkbbapefgifagaaGreatDoor
open Go.RowKit
set_option linter.unusedVariables false
set_option linter.unusedSimpArgs false
def sumN (f : Nat → Int) : Nat → Int
  | 0 => 0
  | k + 1 => sumN f k + f k
theorem sumN_bd {f : Nat → Int} {n : Nat} (h : ∀ i, i < n → 0 ≤ f i ∧ f i ≤ 80) : ∀ k, k ≤ n → 0 ≤ sumN f k ∧ sumN f k ≤ 80 * k
  | 0, _ => by simp [sumN]
  | k + 1, hk => by
    have h1 := sumN_bd h k (by omega)
    have h2 := h k (by omega)
    unfold sumN
    omega
theorem ownL_one {w : World} {base : Nat} {v : Value} (h : OwnL w base v [0]) : ∃ g c, v = .slice (some ⟨g, 0, none⟩) 1 c ∧ w.cell? ⟨g, 0, none⟩ = some (.int .i64 0) ∧ g < w.heap.size ∧ base ≤ g := by
  have h' := h
  rcases h.2 with ⟨h1, h2⟩ | ⟨g, cap, cur, hv, hb, hg, _⟩
  · cases h2
  · refine ⟨g, cap, hv, ?_, (Array.getElem?_eq_some_iff.1 hg).1, hb⟩
    exact World.ownsRow.cells h' (g := g) (by rw [hv]; rfl) 0 (.int .i64 0) rfl
/-- The cells of a trial. -/
def trlF (a1 : Option Addr) (n1 c1 : Nat) (a2 : Option Addr) (n2 c2 : Nat) (a3 : Option Addr) (n3 c3 : Nat) (a4 : Option Addr) (n4 c4 : Nat) (a5 : Option Addr) (n5 c5 : Nat) (rw al : Value) (S L n u k : Nat) (O cO : Nat → Nat) (i : Nat) : Value :=
  if i = 0 then .slice a1 n1 c1 else if i = 1 then .slice a2 n2 c2 else if i = 2 then .slice a3 n3 c3 else if i = 3 then .slice a4 n4 c4 else if i = 4 then .slice a5 n5 c5 else if i = 5 then rw else if i < 22 then (if i - 6 < k then .slice (some ⟨O (i - 6), 0, none⟩) 1 (cO (i - 6)) else .slice none 0 0) else if i = 22 then .slice (some ⟨S, 0, none⟩) u u else if i = 23 then al else .slice (some ⟨L, 0, none⟩) n n
def setN (f : Nat → Nat) (k a : Nat) : Nat → Nat := fun i => if i = k then a else f i
theorem trlF_new {a1 : Option Addr} {n1 c1 : Nat} {a2 : Option Addr} {n2 c2 : Nat} {a3 : Option Addr} {n3 c3 : Nat} {a4 : Option Addr} {n4 c4 : Nat} {a5 : Option Addr} {n5 c5' : Nat} {rw al : Value} {S L n u : Nat} {O cO : Nat → Nat} {G c5 : Nat} (i : Nat) (h : i < 16) : trlF a1 n1 c1 a2 n2 c2 a3 n3 c3 a4 n4 c4 a5 n5 c5' rw al S L n u (i + 1) (setN O i G) (setN cO i c5) (6 + i) = .slice (some ⟨G, 0, none⟩) 1 c5 := by
  unfold trlF
  rw [if_neg (by omega), if_neg (by omega), if_neg (by omega), if_neg (by omega), if_neg (by omega), if_neg (by omega), if_pos (by omega), if_pos (by omega)]
  unfold setN
  rw [show 6 + i - 6 = i by omega, if_pos rfl, if_pos rfl]
theorem trlF_old {a1 : Option Addr} {n1 c1 : Nat} {a2 : Option Addr} {n2 c2 : Nat} {a3 : Option Addr} {n3 c3 : Nat} {a4 : Option Addr} {n4 c4 : Nat} {a5 : Option Addr} {n5 c5' : Nat} {rw al : Value} {S L n u : Nat} {O cO : Nat → Nat} {k G c5 : Nat} (j : Nat) (h : ¬ j = 6 + k) : trlF a1 n1 c1 a2 n2 c2 a3 n3 c3 a4 n4 c4 a5 n5 c5' rw al S L n u (k + 1) (setN O k G) (setN cO k c5) j = trlF a1 n1 c1 a2 n2 c2 a3 n3 c3 a4 n4 c4 a5 n5 c5' rw al S L n u k O cO j := by
  unfold trlF
  by_cases h0 : j = 0
  · rw [if_pos h0, if_pos h0]
  by_cases h1 : j = 1
  · rw [if_neg h0, if_neg h0, if_pos h1, if_pos h1]
  by_cases h2 : j = 2
  · rw [if_neg h0, if_neg h0, if_neg h1, if_neg h1, if_pos h2, if_pos h2]
  by_cases h3 : j = 3
  · simp only [h3]; rfl
  by_cases h4 : j = 4
  · simp only [h4]; rfl
  by_cases h5 : j = 5
  · simp only [h5]; rfl
  simp only [h0, h1, h2, h3, h4, h5, if_false]
  by_cases h6 : j < 22
  · simp only [h6, if_true]
    have hne : ¬ j - 6 = k := by omega
    by_cases h7 : j - 6 < k
    · rw [if_pos (by omega), if_pos h7]
      unfold setN
      rw [if_neg hne, if_neg hne]
    · rw [if_neg (by omega), if_neg h7]
  · simp only [h6, if_false]
theorem trlF_of {a1 : Option Addr} {n1 c1 : Nat} {a2 : Option Addr} {n2 c2 : Nat} {a3 : Option Addr} {n3 c3 : Nat} {a4 : Option Addr} {n4 c4 : Nat} {a5 : Option Addr} {n5 c5 : Nat} {rw al : Value} {S L n u k : Nat} {O cO : Nat → Nat} (i : Nat) (h : i < 16 ∧ k ≤ i) : trlF a1 n1 c1 a2 n2 c2 a3 n3 c3 a4 n4 c4 a5 n5 c5 rw al S L n u k O cO (6 + i) = .slice none 0 0 := by
  unfold trlF
  rw [if_neg (by omega), if_neg (by omega), if_neg (by omega), if_neg (by omega), if_neg (by omega), if_neg (by omega), if_pos (by omega), if_neg (by omega)]
theorem Own.trial (w : World) (a1 : Option Addr) (n1 c1 : Nat) (a2 : Option Addr) (n2 c2 : Nat) (a3 : Option Addr) (n3 c3 : Nat) (a4 : Option Addr) (n4 c4 : Nat) (a5 : Option Addr) (n5 c5 : Nat) (rw al : Value) (S L n u : Nat) : Own (w.alloc (.cells #[.slice a1 n1 c1, .slice a2 n2 c2, .slice a3 n3 c3, .slice a4 n4 c4, .slice a5 n5 c5, rw, .slice none 0 0, .slice none 0 0, .slice none 0 0, .slice none 0 0, .slice none 0 0, .slice none 0 0, .slice none 0 0, .slice none 0 0, .slice none 0 0, .slice none 0 0, .slice none 0 0, .slice none 0 0, .slice none 0 0, .slice none 0 0, .slice none 0 0, .slice none 0 0, .slice (some ⟨S, 0, none⟩) u u, al, .slice (some ⟨L, 0, none⟩) n n] 172)) w.heap.size 172 25 (trlF a1 n1 c1 a2 n2 c2 a3 n3 c3 a4 n4 c4 a5 n5 c5 rw al S L n u 0 (fun _ => 0) (fun _ => 0)) :=
  Own.newAt _ 172 _ _ rfl (n := 25) rfl (fun i hi => by match i, hi with | 0, _ => rfl | 1, _ => rfl | 2, _ => rfl | 3, _ => rfl | 4, _ => rfl | 5, _ => rfl | 6, _ => rfl | 7, _ => rfl | 8, _ => rfl | 9, _ => rfl | 10, _ => rfl | 11, _ => rfl | 12, _ => rfl | 13, _ => rfl | 14, _ => rfl | 15, _ => rfl | 16, _ => rfl | 17, _ => rfl | 18, _ => rfl | 19, _ => rfl | 20, _ => rfl | 21, _ => rfl | 22, _ => rfl | 23, _ => rfl | 24, _ => rfl | k + 25, h => exact absurd h (by omega))
/-- What newTrial does. -/
def NtPost (a1 : Option Addr) (n1 c1 : Nat) (a2 : Option Addr) (n2 c2 : Nat) (a3 : Option Addr) (n3 c3 : Nat) (a4 : Option Addr) (n4 c4 : Nat) (a5 : Option Addr) (n5 c5 : Nat) (bR oR cR bA oA cA n u : Nat) (al : Nat → Int) (w : World) (e : Ending) (w' : World) : Prop :=
  ∃ (T S L : Nat) (O cO : Nat → Nat), e = .returned (.pointer (some ⟨T, 0, none⟩)) ∧ Own w' T 172 25 (trlF a1 n1 c1 a2 n2 c2 a3 n3 c3 a4 n4 c4 a5 n5 c5 (.slice (some ⟨bR, oR, none⟩) u cR) (.slice (some ⟨bA, oA, none⟩) n cA) S L n u n O cO) ∧ Own w' S 3 u (fun _ => .int .i64 (sumN al n)) ∧ Own w' L 3 n (fun _ => .int .i64 0) ∧ (∀ i, i < n → w'.cell? ⟨O i, 0, none⟩ = some (.int .i64 0) ∧ w.heap.size ≤ O i ∧ O i ≠ S ∧ O i ≠ L ∧ O i ≠ T) ∧ (w.heap.size ≤ T ∧ w.heap.size ≤ S ∧ w.heap.size ≤ L ∧ T ≠ S ∧ T ≠ L ∧ S ≠ L) ∧ Below w.heap.size w w'
set_option maxRecDepth 100000 in
set_option maxHeartbeats 16000000 in
theorem spNew_ok (a1 : Option Addr) (n1 c1 : Nat) (a2 : Option Addr) (n2 c2 : Nat) (a3 : Option Addr) (n3 c3 : Nat) (a4 : Option Addr) (n4 c4 : Nat) (a5 : Option Addr) (n5 c5 : Nat) (bR oR cR bA oA cA bM oM cM n u : Nat) (cap : Int) (al : Nat → Int) (w : World) (HU : Hid (u = 1))
    (HR0 : Hid (w.cell? ⟨bR, oR, none⟩ = some (.int .i64 cap))) (HR1 : Hid (w.cell? ⟨bR, oR + 1, none⟩ = some (.slice (some ⟨bM, oM, none⟩) n cM))) (HM : Hid (∀ i, i < n → w.cell? ⟨bM, oM + i, none⟩ = some (.int .i64 (i : Nat)))) (HA : Hid (∀ i, i < n → w.cell? ⟨bA, oA + i, none⟩ = some (.int .i64 (al i)))) (HAB : Hid (∀ i, i < n → 0 ≤ al i ∧ al i ≤ 80)) (hn0 : 0 < n) (hn : n ≤ 16) :
    Calls Tryz.prog 89 #[.agg #[.slice a1 n1 c1, .slice a2 n2 c2, .slice a3 n3 c3, .slice a4 n4 c4, .slice a5 n5 c5], .slice (some ⟨bR, oR, none⟩) u cR, .slice (some ⟨bA, oA, none⟩) n cA] w (NtPost a1 n1 c1 a2 n2 c2 a3 n3 c3 a4 n4 c4 a5 n5 c5 bR oR cR bA oA cA n u al w) := by
  obtain ⟨B, hB⟩ : ∃ B, B = w.heap.size := ⟨_, rfl⟩
  obtain ⟨W0, hW0⟩ : ∃ W, W = w.alloc (.cells #[.slice a1 n1 c1, .slice a2 n2 c2, .slice a3 n3 c3, .slice a4 n4 c4, .slice a5 n5 c5] 39) := ⟨_, rfl⟩
  have hb0 : Below w.heap.size w W0 := by rw [hW0]; exact (Below.refl _ _).alloc (Nat.le_refl _) _
  have e0 : W0.cell? ⟨B, 0, none⟩ = some (.slice a1 n1 c1) := by rw [hW0, hB]; go_simp
  have e1 : W0.cell? ⟨B, 1, none⟩ = some (.slice a2 n2 c2) := by rw [hW0, hB]; go_simp
  have e2 : W0.cell? ⟨B, 2, none⟩ = some (.slice a3 n3 c3) := by rw [hW0, hB]; go_simp
  have e3 : W0.cell? ⟨B, 3, none⟩ = some (.slice a4 n4 c4) := by rw [hW0, hB]; go_simp
  have e4 : W0.cell? ⟨B, 4, none⟩ = some (.slice a5 n5 c5) := by rw [hW0, hB]; go_simp
  have HB := Lib.hid hb0
  have HW0 := Lib.hid (And.intro hW0.symm hB.symm)
  clear hb0 hW0 hB
  go_enter Tryz.func89, Tryz.ntmps89
  go_upto_region 1 with (fail)
  try simp only [World.size_alloc]
  rw [HW0.out.1, HW0.out.2]
  clear HW0
  go_cut [7] (fun v7 wx => ∃ T S L, v7 = .pointer (some ⟨T, 0, none⟩) ∧ Hid (Own wx T 172 25 (trlF a1 n1 c1 a2 n2 c2 a3 n3 c3 a4 n4 c4 a5 n5 c5 (.slice (some ⟨bR, oR, none⟩) u cR) (.slice (some ⟨bA, oA, none⟩) n cA) S L n u 0 (fun _ => 0) (fun _ => 0))) ∧ Hid (Own wx S 3 u (fun _ => .int .i64 0)) ∧ Hid (Own wx L 3 n (fun _ => .int .i64 0)) ∧ Hid (W0.heap.size ≤ T ∧ W0.heap.size ≤ S ∧ W0.heap.size ≤ L ∧ T ≠ S ∧ T ≠ L ∧ S ≠ L) ∧ Hid (Below W0.heap.size W0 wx))
  case first =>
    refine region_z (S := fun w' => Below W0.heap.size W0 w') [] (by kernel_rfl) (Below.refl _ _).drew (fun hHeld => ?_)
    obtain ⟨wd, hwd⟩ : ∃ wd, wd = W0.drew := ⟨_, rfl⟩
    rw [← hwd] at hHeld ⊢
    clear hwd
    refine zt (i := 0) (v := .agg #[.slice a1 n1 c1, .slice a2 n2 c2, .slice a3 n3 c3, .slice a4 n4 c4, .slice a5 n5 c5]) [] (fun w' hSw => ?_) hHeld ?_
    · have f0 := (hSw.cell (p := ⟨B, 0, none⟩) (zb e0)).trans e0
      have f1 := (hSw.cell (p := ⟨B, 1, none⟩) (zb e1)).trans e1
      have f2 := (hSw.cell (p := ⟨B, 2, none⟩) (zb e2)).trans e2
      have f3 := (hSw.cell (p := ⟨B, 3, none⟩) (zb e3)).trans e3
      have f4 := (hSw.cell (p := ⟨B, 4, none⟩) (zb e4)).trans e4
      have lB1 : B < w'.heap.size := zb f0
      clear hHeld hSw
      go_simp
    simp only [Act.put, zl0, zl1, zl2, zl3, zl4, zl5]
    refine zt (i := 1) (v := .slice (some ⟨bR, oR, none⟩) u cR) [] (fun w' hSw => ?_) hHeld ?_
    · clear hHeld hSw
      go_simp
    simp only [Act.put, zl0, zl1, zl2, zl3, zl4, zl5]
    refine zt (i := 2) (v := .slice (some ⟨bR, oR, none⟩) u cR) [] (fun w' hSw => ?_) hHeld ?_
    · clear hHeld hSw
      go_simp
    simp only [Act.put, zl0, zl1, zl2, zl3, zl4, zl5]
    refine zt (i := 3) (v := .int .i64 (u : Nat)) [] (fun w' hSw => ?_) hHeld ?_
    · clear hHeld hSw
      go_simp
    simp only [Act.put, zl0, zl1, zl2, zl3, zl4, zl5]
    refine zt (i := 5) (v := .slice (some ⟨bA, oA, none⟩) n cA) [] (fun w' hSw => ?_) hHeld ?_
    · clear hHeld hSw
      go_simp
    simp only [Act.put, zl0, zl1, zl2, zl3, zl4, zl5]
    refine zt (i := 6) (v := .slice (some ⟨bA, oA, none⟩) n cA) [] (fun w' hSw => ?_) hHeld ?_
    · clear hHeld hSw
      go_simp
    simp only [Act.put, zl0, zl1, zl2, zl3, zl4, zl5]
    refine zt (i := 7) (v := .int .i64 (n : Nat)) [] (fun w' hSw => ?_) hHeld ?_
    · clear hHeld hSw
      go_simp
    simp only [Act.put, zl0, zl1, zl2, zl3, zl4, zl5]
    refine wpAnyZ_two (i := 4) (k := 8) (by kernel_rfl) rfl rfl (fun K' hK => ?_) (fun K' hK => ?_)
    · obtain ⟨W1, hmk, hown, hb, hsz⟩ := mk_ints u (by have := HU.out; omega) wd
      have OS0 := Lib.hid hown
      have ZS := Lib.hid (show W0.heap.size ≤ wd.heap.size from hHeld.size)
      have YS := Lib.hid hsz
      clear hown hsz
      obtain ⟨S, hS⟩ : ∃ S, S = wd.heap.size := ⟨_, rfl⟩
      rw [← hS] at hmk OS0 ZS YS
      have XS := Lib.hid hS
      clear hS
      go_simp
      refine hK.out _ _ ?_ (fun hHeld' => ?_)
      · exact hHeld.trans (hb.mono hHeld.size)
      clear hK K'
      clear hmk
      clear hHeld hb
      have hHeld := hHeld'
      clear hHeld'
      try simp only [Act.put, zl0, zl1, zl2, zl3, zl4, zl5]
      refine zo 8 (fun K' hK => ?_)
      obtain ⟨W2, hmk, hown, hb, hsz⟩ := mk_ints n (by have := HU.out; omega) W1
      have OL0 := Lib.hid hown
      have ZL := Lib.hid (show W0.heap.size ≤ W1.heap.size from hHeld.size)
      have YL := Lib.hid hsz
      clear hown hsz
      obtain ⟨L, hL⟩ : ∃ S, S = W1.heap.size := ⟨_, rfl⟩
      rw [← hL] at hmk OL0 ZL YL
      have XL := Lib.hid hL
      clear hL
      go_simp
      refine hK.out _ _ ?_ (fun hHeld' => ?_)
      · exact hHeld.trans (hb.mono hHeld.size)
      clear hK K'
      have OS1 := Lib.hid (OS0.out.keep hb OS0.out.lt)
      have NE : Hid (S ≠ L ∧ S < W2.heap.size ∧ L < W2.heap.size) := Lib.hid ⟨by have h1 := XL.out; have h2 := YS.out; have h3 := XS.out; omega, by have h1 := YL.out; have h2 := XL.out; have h3 := OS0.out.lt; omega, by have h1 := YL.out; have h2 := XL.out; have h3 := OS0.out.lt; omega⟩
      clear hmk
      clear hHeld hb
      have hHeld := hHeld'
      clear hHeld'
      try simp only [Act.put, zl0, zl1, zl2, zl3, zl4, zl5]
      have OOS := OS1
      have OOL := OL0
      clear OS0 OS1 OL0 YS YL
      refine zt (i := 9) (v := .agg #[.slice a1 n1 c1, .slice a2 n2 c2, .slice a3 n3 c3, .slice a4 n4 c4, .slice a5 n5 c5, .slice (some ⟨bR, oR, none⟩) u cR, .slice none 0 0, .slice none 0 0, .slice none 0 0, .slice none 0 0, .slice none 0 0, .slice none 0 0, .slice none 0 0, .slice none 0 0, .slice none 0 0, .slice none 0 0, .slice none 0 0, .slice none 0 0, .slice none 0 0, .slice none 0 0, .slice none 0 0, .slice none 0 0, .slice (some ⟨S, 0, none⟩) u u, .slice (some ⟨bA, oA, none⟩) n cA, .slice (some ⟨L, 0, none⟩) n n]) [] (fun w' hSw => ?_) hHeld ?_
      · clear hHeld hSw
        go_simp
      simp only [Act.put, zl0, zl1, zl2, zl3, zl4, zl5]
      refine zo 10 (fun K' hK => ?_)
      obtain ⟨W3, hW3⟩ : ∃ W, W = W2.alloc (.cells #[.slice a1 n1 c1, .slice a2 n2 c2, .slice a3 n3 c3, .slice a4 n4 c4, .slice a5 n5 c5, .slice (some ⟨bR, oR, none⟩) u cR, .slice none 0 0, .slice none 0 0, .slice none 0 0, .slice none 0 0, .slice none 0 0, .slice none 0 0, .slice none 0 0, .slice none 0 0, .slice none 0 0, .slice none 0 0, .slice none 0 0, .slice none 0 0, .slice none 0 0, .slice none 0 0, .slice none 0 0, .slice none 0 0, .slice (some ⟨S, 0, none⟩) u u, .slice (some ⟨bA, oA, none⟩) n cA, .slice (some ⟨L, 0, none⟩) n n] 172) := ⟨_, rfl⟩
      have hb : Below W2.heap.size W2 W3 := by rw [hW3]; exact (Below.refl _ _).alloc (Nat.le_refl _) _
      have OT : Hid (Own W3 W2.heap.size 172 25 (trlF a1 n1 c1 a2 n2 c2 a3 n3 c3 a4 n4 c4 a5 n5 c5 (.slice (some ⟨bR, oR, none⟩) u cR) (.slice (some ⟨bA, oA, none⟩) n cA) S L n u 0 (fun _ => 0) (fun _ => 0))) := Lib.hid (by rw [hW3]; exact Own.trial W2 a1 n1 c1 a2 n2 c2 a3 n3 c3 a4 n4 c4 a5 n5 c5 _ _ S L n u)
      obtain ⟨T, hT⟩ : ∃ T, T = W2.heap.size := ⟨_, rfl⟩
      rw [← hT] at OT
      have ZT : Hid (W0.heap.size ≤ T) := Lib.hid (by rw [hT]; exact hHeld.size)
      have NT : Hid (T ≠ S ∧ T ≠ L) := Lib.hid (by have := NE.out; rw [hT]; omega)
      have OS3 := Lib.hid (OOS.out.keep hb OOS.out.lt)
      have OL3 := Lib.hid (OOL.out.keep hb OOL.out.lt)
      go_simp
      rw [← hW3, ← hT]
      clear hW3 hT
      refine hK.out _ _ ?_ (fun hHeld' => ?_)
      · exact hHeld.trans (hb.mono hHeld.size)
      clear hK K' hHeld hb OOS OOL
      have hHeld := hHeld'
      clear hHeld'
      try simp only [Act.put, zl0, zl1, zl2, zl3, zl4, zl5]
      refine zt (i := 11) (v := .pointer (some ⟨T, 0, none⟩)) [] (fun w' hSw => ?_) hHeld ?_
      · clear hHeld hSw
        go_simp
      simp only [Act.put, zl0, zl1, zl2, zl3, zl4, zl5]
      refine wpAnyZ_done (by kernel_rfl) ?_ _
      go_wp2_with fail
      go_meet
      exact ⟨T, S, L, rfl, OT, OS3, OL3, Lib.hid ⟨ZT.out, ZS.out, ZL.out, NT.out.1, NT.out.2, NE.out.1⟩, Lib.hid hHeld⟩
    · obtain ⟨W1, hmk, hown, hb, hsz⟩ := mk_ints n (by have := HU.out; omega) wd
      have OL0 := Lib.hid hown
      have ZL := Lib.hid (show W0.heap.size ≤ wd.heap.size from hHeld.size)
      have YL := Lib.hid hsz
      clear hown hsz
      obtain ⟨L, hL⟩ : ∃ S, S = wd.heap.size := ⟨_, rfl⟩
      rw [← hL] at hmk OL0 ZL YL
      have XL := Lib.hid hL
      clear hL
      go_simp
      refine hK.out _ _ ?_ (fun hHeld' => ?_)
      · exact hHeld.trans (hb.mono hHeld.size)
      clear hK K'
      clear hmk
      clear hHeld hb
      have hHeld := hHeld'
      clear hHeld'
      try simp only [Act.put, zl0, zl1, zl2, zl3, zl4, zl5]
      refine zo 4 (fun K' hK => ?_)
      obtain ⟨W2, hmk, hown, hb, hsz⟩ := mk_ints u (by have := HU.out; omega) W1
      have OS0 := Lib.hid hown
      have ZS := Lib.hid (show W0.heap.size ≤ W1.heap.size from hHeld.size)
      have YS := Lib.hid hsz
      clear hown hsz
      obtain ⟨S, hS⟩ : ∃ S, S = W1.heap.size := ⟨_, rfl⟩
      rw [← hS] at hmk OS0 ZS YS
      have XS := Lib.hid hS
      clear hS
      go_simp
      refine hK.out _ _ ?_ (fun hHeld' => ?_)
      · exact hHeld.trans (hb.mono hHeld.size)
      clear hK K'
      have OL1 := Lib.hid (OL0.out.keep hb OL0.out.lt)
      have NE : Hid (S ≠ L ∧ S < W2.heap.size ∧ L < W2.heap.size) := Lib.hid ⟨by have h1 := XS.out; have h2 := YL.out; have h3 := XL.out; omega, by have h1 := YS.out; have h2 := XS.out; have h3 := OL0.out.lt; omega, by have h1 := YS.out; have h2 := XS.out; have h3 := OL0.out.lt; omega⟩
      clear hmk
      clear hHeld hb
      have hHeld := hHeld'
      clear hHeld'
      try simp only [Act.put, zl0, zl1, zl2, zl3, zl4, zl5]
      have OOL := OL1
      have OOS := OS0
      clear OL0 OL1 OS0 YL YS
      refine zt (i := 9) (v := .agg #[.slice a1 n1 c1, .slice a2 n2 c2, .slice a3 n3 c3, .slice a4 n4 c4, .slice a5 n5 c5, .slice (some ⟨bR, oR, none⟩) u cR, .slice none 0 0, .slice none 0 0, .slice none 0 0, .slice none 0 0, .slice none 0 0, .slice none 0 0, .slice none 0 0, .slice none 0 0, .slice none 0 0, .slice none 0 0, .slice none 0 0, .slice none 0 0, .slice none 0 0, .slice none 0 0, .slice none 0 0, .slice none 0 0, .slice (some ⟨S, 0, none⟩) u u, .slice (some ⟨bA, oA, none⟩) n cA, .slice (some ⟨L, 0, none⟩) n n]) [] (fun w' hSw => ?_) hHeld ?_
      · clear hHeld hSw
        go_simp
      simp only [Act.put, zl0, zl1, zl2, zl3, zl4, zl5]
      refine zo 10 (fun K' hK => ?_)
      obtain ⟨W3, hW3⟩ : ∃ W, W = W2.alloc (.cells #[.slice a1 n1 c1, .slice a2 n2 c2, .slice a3 n3 c3, .slice a4 n4 c4, .slice a5 n5 c5, .slice (some ⟨bR, oR, none⟩) u cR, .slice none 0 0, .slice none 0 0, .slice none 0 0, .slice none 0 0, .slice none 0 0, .slice none 0 0, .slice none 0 0, .slice none 0 0, .slice none 0 0, .slice none 0 0, .slice none 0 0, .slice none 0 0, .slice none 0 0, .slice none 0 0, .slice none 0 0, .slice none 0 0, .slice (some ⟨S, 0, none⟩) u u, .slice (some ⟨bA, oA, none⟩) n cA, .slice (some ⟨L, 0, none⟩) n n] 172) := ⟨_, rfl⟩
      have hb : Below W2.heap.size W2 W3 := by rw [hW3]; exact (Below.refl _ _).alloc (Nat.le_refl _) _
      have OT : Hid (Own W3 W2.heap.size 172 25 (trlF a1 n1 c1 a2 n2 c2 a3 n3 c3 a4 n4 c4 a5 n5 c5 (.slice (some ⟨bR, oR, none⟩) u cR) (.slice (some ⟨bA, oA, none⟩) n cA) S L n u 0 (fun _ => 0) (fun _ => 0))) := Lib.hid (by rw [hW3]; exact Own.trial W2 a1 n1 c1 a2 n2 c2 a3 n3 c3 a4 n4 c4 a5 n5 c5 _ _ S L n u)
      obtain ⟨T, hT⟩ : ∃ T, T = W2.heap.size := ⟨_, rfl⟩
      rw [← hT] at OT
      have ZT : Hid (W0.heap.size ≤ T) := Lib.hid (by rw [hT]; exact hHeld.size)
      have NT : Hid (T ≠ S ∧ T ≠ L) := Lib.hid (by have := NE.out; rw [hT]; omega)
      have OS3 := Lib.hid (OOS.out.keep hb OOS.out.lt)
      have OL3 := Lib.hid (OOL.out.keep hb OOL.out.lt)
      go_simp
      rw [← hW3, ← hT]
      clear hW3 hT
      refine hK.out _ _ ?_ (fun hHeld' => ?_)
      · exact hHeld.trans (hb.mono hHeld.size)
      clear hK K' hHeld hb OOS OOL
      have hHeld := hHeld'
      clear hHeld'
      try simp only [Act.put, zl0, zl1, zl2, zl3, zl4, zl5]
      refine zt (i := 11) (v := .pointer (some ⟨T, 0, none⟩)) [] (fun w' hSw => ?_) hHeld ?_
      · clear hHeld hSw
        go_simp
      simp only [Act.put, zl0, zl1, zl2, zl3, zl4, zl5]
      refine wpAnyZ_done (by kernel_rfl) ?_ _
      go_wp2_with fail
      go_meet
      exact ⟨T, S, L, rfl, OT, OS3, OL3, Lib.hid ⟨ZT.out, ZS.out, ZL.out, NT.out.1, NT.out.2, NE.out.1⟩, Lib.hid hHeld⟩
  case rest =>
    obtain ⟨T, S, L, rfl, OT, OS, OL, HNE, HBX⟩ := hcut
    have HLT := Lib.hid (And.intro OT.out.lt (And.intro OS.out.lt OL.out.lt))
    have hu0 : (0 : Int) < (u : Int) := by have := HU.out; omega
    have hu0n : 0 < u := by have := HU.out; omega
    clear e0 e1 e2 e3 e4
    go_wp2_with fail
    go_loopg [25] 3 (fun g1 v25 wr => ∃ (r k : Nat) (O cO : Nat → Nat), v25 = .int .i64 r ∧ r ≤ u ∧ u - r ≤ g1 ∧ Hid (r = 0 → k = 0) ∧ Hid (r = 1 → k = n) ∧ Hid (wc.heap.size ≤ wr.heap.size) ∧ Hid (Own wr T 172 25 (trlF a1 n1 c1 a2 n2 c2 a3 n3 c3 a4 n4 c4 a5 n5 c5 (.slice (some ⟨bR, oR, none⟩) u cR) (.slice (some ⟨bA, oA, none⟩) n cA) S L n u k O cO)) ∧ Hid (Own wr S 3 u (fun _ => .int .i64 (sumN al k))) ∧ Hid (Own wr L 3 n (fun _ => .int .i64 0)) ∧ Hid (∀ i, i < k → wr.cell? ⟨O i, 0, none⟩ = some (.int .i64 0) ∧ wc.heap.size ≤ O i) ∧ Hid (Below W0.heap.size W0 wr))
    case atStart => exact ⟨0, 0, fun _ => 0, fun _ => 0, by go_num, by omega, by have := HU.out; omega, Lib.hid (fun _ => rfl), Lib.hid (fun h => by omega), Lib.hid (Nat.le_refl _), OT, OS, OL, Lib.hid (fun i hi => by omega), HBX⟩
    case round =>
      obtain ⟨r, k0, O0, cO0, rfl, hr, hg1, HK0, HK1, HSZ0, OTr, OSr, OLr, HOr, HBr⟩ := hrel
      by_cases hlt : r < u
      · have hr0 : r = 0 := by have := HU.out; omega
        subst hr0
        have hk0 : k0 = 0 := HK0.out rfl
        subst hk0
        have HBw := Lib.hid (below_then HB.out HBr.out)
        have m0 := (HBw.out.cell (zb HR0.out)).trans HR0.out
        have m1 := (HBw.out.cell (zb HR1.out)).trans HR1.out
        have lR : bR < wr.heap.size := zb m0
        clear HBw
        go_wp2_with fail
        go_loopg [33] (n + 1) (fun g2 v33 wr => ∃ (k : Nat) (O cO : Nat → Nat), v33 = .int .i64 k ∧ k ≤ n ∧ n - k ≤ g2 ∧ Hid (wc.heap.size ≤ wr.heap.size) ∧ Hid (Own wr T 172 25 (trlF a1 n1 c1 a2 n2 c2 a3 n3 c3 a4 n4 c4 a5 n5 c5 (.slice (some ⟨bR, oR, none⟩) u cR) (.slice (some ⟨bA, oA, none⟩) n cA) S L n u k O cO)) ∧ Hid (Own wr S 3 u (fun _ => .int .i64 (sumN al k))) ∧ Hid (Own wr L 3 n (fun _ => .int .i64 0)) ∧ Hid (∀ i, i < k → wr.cell? ⟨O i, 0, none⟩ = some (.int .i64 0) ∧ wc.heap.size ≤ O i) ∧ Hid (Below W0.heap.size W0 wr))
        case atStart => exact ⟨0, O0, cO0, by go_num, by omega, by omega, Lib.hid (by have := HSZ0.out; simp; omega), Lib.hid (OTr.out.keep ((Below.refl wr.heap.size wr).alloc (Nat.le_refl _) _) OTr.out.lt), Lib.hid (OSr.out.keep ((Below.refl wr.heap.size wr).alloc (Nat.le_refl _) _) OSr.out.lt), Lib.hid (OLr.out.keep ((Below.refl wr.heap.size wr).alloc (Nat.le_refl _) _) OLr.out.lt), Lib.hid (fun i hi => by omega), Lib.hid (HBr.out.trans (((Below.refl wr.heap.size wr).alloc (Nat.le_refl _) _).mono HBr.out.size))⟩
        case round =>
          clear OTr OSr OLr HOr HBr m0 m1 lR
          obtain ⟨k, O, cO, rfl, hk, hg2, HSZ, OTr, OSr, OLr, HOr, HBr⟩ := hrel
          by_cases hkn : k < n
          · have hkz : (k : Int) < (n : Int) := by omega
            have HBw := Lib.hid (below_then HB.out HBr.out)
            have m0 := (HBw.out.cell (zb (HM.out k hkn))).trans (HM.out k hkn)
            have lM : bM < wr.heap.size := zb m0
            have k16 : k < 16 := by omega
            have k16z : (k : Int) < 16 := by omega
            have hT6 : Hid (wr.cell? ⟨T, 6 + k, none⟩ = some (.slice none 0 0)) := Lib.hid ((OTr.out.cell (i := 6 + k) (by omega)).trans (congrArg some (trlF_of _ (by omega))))
            have lT : T < wr.heap.size := OTr.out.lt
            go_upto_region 8 with (fail)
            clear m0 lM
            refine region_z (S := fun w' => Below wr.heap.size wr w') [14] (by kernel_rfl) (Below.refl _ _).drew (fun hHeld => ?_)
            obtain ⟨wd, hwd⟩ : ∃ wd, wd = wr.drew := ⟨_, rfl⟩
            rw [← hwd] at hHeld ⊢
            clear hwd
            refine zt (i := 0) (v := .pointer (some ⟨T, 0, none⟩)) [14] (fun w' hSw => ?_) hHeld ?_
            · clear hHeld hSw
              go_simp
            simp only [Act.put, zl0, zl1, zl2, zl3, zl4, zl5]
            refine zt (i := 1) (v := .int .i64 (k : Nat)) [14] (fun w' hSw => ?_) hHeld ?_
            · clear hHeld hSw
              go_simp
            simp only [Act.put, zl0, zl1, zl2, zl3, zl4, zl5]
            refine zt (i := 2) (v := .pointer (some ⟨T, 0, none⟩)) [14] (fun w' hSw => ?_) hHeld ?_
            · clear hHeld hSw
              go_simp
            simp only [Act.put, zl0, zl1, zl2, zl3, zl4, zl5]
            refine zt (i := 3) (v := .int .i64 (k : Nat)) [14] (fun w' hSw => ?_) hHeld ?_
            · clear hHeld hSw
              go_simp
            simp only [Act.put, zl0, zl1, zl2, zl3, zl4, zl5]
            refine zt (i := 4) (v := .pointer (some ⟨T, 0, none⟩)) [14] (fun w' hSw => ?_) hHeld ?_
            · clear hHeld hSw
              go_simp
            simp only [Act.put, zl0, zl1, zl2, zl3, zl4, zl5]
            refine zt (i := 5) (v := .pointer (some ⟨T, 6, none⟩)) [14] (fun w' hSw => ?_) hHeld ?_
            · clear hHeld hSw
              go_simp
            simp only [Act.put, zl0, zl1, zl2, zl3, zl4, zl5]
            refine zt (i := 6) (v := .pointer (some ⟨T, 6 + k, none⟩)) [14] (fun w' hSw => ?_) hHeld ?_
            · clear hHeld hSw
              go_simp
            simp only [Act.put, zl0, zl1, zl2, zl3, zl4, zl5]
            refine zt (i := 7) (v := .slice none 0 0) [14] (fun w' hSw => ?_) hHeld ?_
            · have hT6' := (hSw.cell (p := ⟨T, 6 + k, none⟩) lT).trans hT6.out
              have lT' := Nat.lt_of_lt_of_le lT hSw.size
              clear hHeld hSw
              go_simp
            simp only [Act.put, zl0, zl1, zl2, zl3, zl4, zl5]
            refine zt (i := 8) (v := .int .i64 0) [14] (fun w' hSw => ?_) hHeld ?_
            · clear hHeld hSw
              go_simp
            simp only [Act.put, zl0, zl1, zl2, zl3, zl4, zl5]
            refine zt (i := 11) (v := .pointer (some ⟨T, 0, none⟩)) [12, 13, 14] (fun w' hSw => ?_) hHeld ?_
            · clear hHeld hSw
              go_simp
            simp only [Act.put, zl0, zl1, zl2, zl3, zl4, zl5]
            refine zt (i := 12) (v := .pointer (some ⟨T, 6, none⟩)) [13, 14] (fun w' hSw => ?_) hHeld ?_
            · clear hHeld hSw
              go_simp
            simp only [Act.put, zl0, zl1, zl2, zl3, zl4, zl5]
            have hWD := Lib.hid hHeld
            obtain ⟨ap, v', w5, av, aw, HL5, HM5, HOW5⟩ := app_int (w := wd) (base := wc.heap.size) 0 (OwnL.nil wd wc.heap.size) (Nat.le_trans HSZ.out hHeld.size) (by simp)
            refine zo 9 (fun K' hK => ?_)
            go_simp
            refine hK.out _ _ ?_ (fun hHeld' => ?_)
            · exact hHeld.trans (((Below.refl wd.heap.size wd).alloc (Nat.le_refl _) _).mono hHeld.size)
            clear hK K' hHeld
            have hHeld := hHeld'
            clear hHeld'
            try simp only [Act.put, zl0, zl1, zl2, zl3, zl4, zl5]
            clear hHeld
            have hb5 : Below wr.heap.size wr w5 := hWD.out.trans (HM5.below hWD.out.size (fun j _ h => by cases h))
            obtain ⟨G, cG, hv5, HG0, hGlt, hGb⟩ := ownL_one HL5
            refine zo 10 (fun K' hK => ?_)
            rw [if_pos (by rfl)]
            refine append_go rfl rfl ap av aw ?_
            refine hK.out _ _ ?_ (fun hHeld' => ?_)
            · exact hb5
            clear hK K'
            have hHeld := hHeld'
            clear hHeld'
            try simp only [Act.put, zl0, zl1, zl2, zl3, zl4, zl5]
            have OT5 := Lib.hid (OTr.out.keep hb5 OTr.out.lt)
            have OS5 := Lib.hid (OSr.out.keep hb5 OSr.out.lt)
            have OL5 := Lib.hid (OLr.out.keep hb5 OLr.out.lt)
            have HGG := Lib.hid (And.intro HG0 (And.intro hGlt hGb))
            have HB5 := Lib.hid hb5
            clear ap av aw HL5 HM5 HOW5 hb5 HG0 hGlt hGb hWD
            subst hv5
            refine zt (i := 13) (v := .pointer (some ⟨T, 6 + k, none⟩)) [14] (fun w' hSw => ?_) hHeld ?_
            · clear hHeld hSw
              go_simp
            simp only [Act.put, zl0, zl1, zl2, zl3, zl4, zl5]
            clear hHeld
            have cT5 := OT5.out.cell (i := 6 + k) (by omega)
            have fT5 := OT5.out.frozen (6 + k)
            refine wpAnyZ_last (i := 14) (by kernel_rfl) rfl (by kernel_rfl) (fun K' hK => ?_)
            go_simp
            refine hK.out _ _ ?_
            clear hK K' cT5 fT5
            try simp only [Act.put, zl0, zl1, zl2, zl3, zl4, zl5]
            refine wpAnyZ_done (by kernel_rfl) ?_ _
            obtain ⟨W6, hW6⟩ : ∃ W, W = w5.setCell ⟨T, 6 + k, none⟩ (.slice (some ⟨G, 0, none⟩) 1 cG) := ⟨_, rfl⟩
            have hm6 : Mod (fun j => j = T) w5 W6 := by rw [hW6]; exact (Mod.refl (fun j => j = T) w5).setCell (p := ⟨T, 6 + k, none⟩) (.inl rfl) _
            rw [← hW6]
            have HT6n : Hid (Own W6 T 172 25 (trlF a1 n1 c1 a2 n2 c2 a3 n3 c3 a4 n4 c4 a5 n5 c5 (.slice (some ⟨bR, oR, none⟩) u cR) (.slice (some ⟨bA, oA, none⟩) n cA) S L n u (k + 1) (setN O k G) (setN cO k cG))) := Lib.hid (by
              rw [hW6]
              exact (OT5.out.set (6 + k) _).congr (fun j hj => by
                by_cases e : j = 6 + k
                · rw [if_pos e, e]; exact (trlF_new k (by omega)).symm
                · rw [if_neg e]; exact (trlF_old j e).symm))
            have HS6 := Lib.hid (OS5.out.mod hm6 (fun e => HNE.out.2.2.2.1 e.symm))
            have HL6 := Lib.hid (OL5.out.mod hm6 (fun e => HNE.out.2.2.2.2.1 e.symm))
            have HB6 : Hid (Below W0.heap.size W0 W6) := Lib.hid (by rw [hW6]; exact (HBr.out.trans (HB5.out.mono HBr.out.size)).setCell (p := ⟨T, 6 + k, none⟩) HNE.out.1 _)
            have HO6 : Hid (∀ i, i < k + 1 → W6.cell? ⟨setN O k G i, 0, none⟩ = some (.int .i64 0) ∧ wc.heap.size ≤ setN O k G i) := Lib.hid (fun i hi => by
              unfold setN
              by_cases e : i = k
              · rw [if_pos e]
                exact ⟨(hm6.cell HGG.out.2.1 (fun e2 => by have := HGG.out.2.2; have := HLT.out.1; dsimp only at e2; omega)).trans HGG.out.1, HGG.out.2.2⟩
              · rw [if_neg e]
                have h1 := HOr.out i (by omega)
                have h2 := zb h1.1
                have h3 := (HB5.out.cell h2).trans h1.1
                exact ⟨(hm6.cell (zb h3) (fun e2 => by have := h1.2; have := HLT.out.1; dsimp only at e2; omega)).trans h3, h1.2⟩)
            have HSZ6 := Lib.hid (Nat.le_trans HSZ.out (Nat.le_trans HB5.out.size hm6.size))
            clear hW6 hm6 OT5 OS5 OL5 HB5 HGG OTr OSr OLr HOr HSZ HBr hT6 lT
            have t22 : W6.cell? ⟨T, 22, none⟩ = some (.slice (some ⟨S, 0, none⟩) u u) := HT6n.out.cell (by omega)
            have s0 : W6.cell? ⟨S, 0, none⟩ = some (.int .i64 (sumN al k)) := HS6.out.cell hu0n
            have sf := HS6.out.frozen 0
            have hBw6 : Below w.heap.size w W6 := below_then HB.out HB6.out
            have x0 : W6.cell? ⟨bA, oA + k, none⟩ = some (.int .i64 (al k)) := (hBw6.cell (zb (HA.out k hkn))).trans (HA.out k hkn)
            have lT := zb t22
            have lS := zb s0
            have lA := zb x0
            dsimp only at lT lS lA
            obtain ⟨sk, hsk⟩ : ∃ s, s = sumN al k := ⟨_, rfl⟩
            obtain ⟨ak, hak⟩ : ∃ s, s = al k := ⟨_, rfl⟩
            rw [← hsk] at s0
            rw [← hak] at x0
            have hsb : 0 ≤ sk ∧ sk ≤ 2000 := by have := sumN_bd HAB.out k (by omega); rw [hsk]; omega
            have hab : 0 ≤ ak ∧ ak ≤ 80 := by rw [hak]; exact HAB.out k hkn
            obtain ⟨hsb0, hsb1⟩ := hsb
            obtain ⟨hab0, hab1⟩ := hab
            have wsm : IntKind.i64.wrap (sk + ak) = sk + ak := IntWalk.i64_in _ (by omega)
            have hm7 : Mod (fun j => j = S) W6 (W6.setCell ⟨S, 0, none⟩ (.int .i64 (sk + ak))) := (Mod.refl (fun j => j = S) W6).setCell (p := ⟨S, 0, none⟩) (.inl rfl) _
            have HS7 : Hid (Own (W6.setCell ⟨S, 0, none⟩ (.int .i64 (sk + ak))) S 3 u (fun _ => .int .i64 (sumN al (k + 1)))) := Lib.hid ((HS6.out.set 0 _).congr (fun j hj => by
              have : j = 0 := by have := HU.out; omega
              rw [if_pos this, hsk, hak]; rfl))
            have HT7 := Lib.hid (HT6n.out.mod hm7 HNE.out.2.2.2.1)
            have HL7 := Lib.hid (HL6.out.mod hm7 (fun e => HNE.out.2.2.2.2.2 e.symm))
            have HB7 := Lib.hid (HB6.out.setCell (p := ⟨S, 0, none⟩) HNE.out.2.1 (.int .i64 (sk + ak)))
            have HO7 : Hid (∀ i, i < k + 1 → (W6.setCell ⟨S, 0, none⟩ (.int .i64 (sk + ak))).cell? ⟨setN O k G i, 0, none⟩ = some (.int .i64 0) ∧ wc.heap.size ≤ setN O k G i) := Lib.hid (fun i hi => by
              have h1 := HO6.out i hi
              exact ⟨(hm7.cell (zb h1.1) (fun e2 => by have := h1.2; have := HLT.out.2.1; dsimp only at e2; omega)).trans h1.1, h1.2⟩)
            have HSZ7 := Lib.hid (Nat.le_trans HSZ6.out hm7.size)
            clear hsk hak hm7 HS6 HT6n HL6 HB6 HO6 HSZ6 hBw6
            go_upto_region 9 with (fail)
            go_still_tail 13, (by kernel_rfl)
            change wpList _ _ _ _ _ W6.drew
            go_wp2_with fail
            clear t22 s0 sf x0 lT lS lA
            go_roundg (n - (k + 1))
            case measure => omega
            case rel => exact ⟨k + 1, setN O k G, setN cO k cG, by go_num, by omega, by omega, Lib.hid HSZ7.out, Lib.hid HT7.out.drew, Lib.hid HS7.out.drew, Lib.hid HL7.out.drew, Lib.hid HO7.out, Lib.hid HB7.out.drew⟩
          · have hkz : ¬ (k : Int) < (n : Int) := by omega
            have hkn' : k = n := by omega
            subst hkn'
            go_wp2_with fail
            go_roundg 0
            case measure => omega
            case rel => exact ⟨1, k, O, cO, by go_num, by have := HU.out; omega, by have := HU.out; omega, Lib.hid (fun h => by omega), Lib.hid (fun _ => rfl), HSZ, OTr, OSr, OLr, HOr, HBr⟩
      · have hltz : ¬ (r : Int) < (u : Int) := by omega
        have hr1 : r = 1 := by have := HU.out; omega
        have hkn : k0 = n := HK1.out hr1
        subst hkn
        go_wp2_with fail
        go_ret
        refine ⟨T, S, L, O0, cO0, rfl, OTr.out, OSr.out, OLr.out, fun i hi => ?_, ⟨?_, ?_, ?_, HNE.out.2.2.2.1, HNE.out.2.2.2.2.1, HNE.out.2.2.2.2.2⟩, below_then HB.out HBr.out⟩
        · have h1 := HOr.out i hi
          have h2 := HLT.out
          have h3 := HB.out.size
          have h4 := HBX.out.size
          refine ⟨h1.1, ?_, ?_, ?_, ?_⟩ <;> omega
        · exact Nat.le_trans HB.out.size HNE.out.1
        · exact Nat.le_trans HB.out.size HNE.out.2.1
        · exact Nat.le_trans HB.out.size HNE.out.2.2.1
end Go.Proofs.YtkbbapefgifagaaGreatDoor
