/-
slices.stableCmpFunc and slices.SortStableFunc at []int, fewer than 40 numbers, which come in increasing order: they are sorted by their keys, the greatest first, and by themselves.
-/
import Derived.Test.YtahpoikbnjhkgaaSortD
import Derived.LoopN
namespace Go.Proofs.Ytahpoikbnjhkgaa
open Go.RowKit

theorem runs_of_two {key : Int → Int} {a m b : Nat} {f g h : Nat → Int} (hf : Asc f a b) (hg : Sorts key a m f g) (hh : Sorts key m b g h) : Runs key a m b h := by
  refine ⟨?_, fun p q h1 h2 h3 => hh.sorted p q h1 h2 h3, ?_⟩
  · intro p q h1 h2 h3; rw [hh.out p (by omega), hh.out q (by omega)]; exact hg.sorted p q h1 h2 h3
  · intro p q h1 h2 h3 h4
    rw [hh.out p (by omega)]
    obtain ⟨j, j1, j2, ej⟩ := hg.mem h1 h2
    obtain ⟨l, l1, l2, el⟩ := hh.mem h3 h4
    rw [ej, el, hg.out l (by omega)]
    exact hf j l j1 (by omega) l2
theorem Sorts.after_two {key : Int → Int} {a m b : Nat} {f g h k : Nat → Int} (ham : a ≤ m) (hmb : m ≤ b) (hg : Sorts key a m f g) (hh : Sorts key m b g h) (hk : Sorts key a b h k) : Sorts key a b f k := by
  refine ⟨fun x hx => by rw [hk.out x hx, hh.out x (by omega), hg.out x (by omega)], hk.perm.trans ?_, hk.sorted⟩
  rw [seg_append h ham hmb, seg_append f ham hmb, seg_congr (f := h) (g := g) (a := a) (b := m) (fun x _ y => hh.out x (by omega))]
  refine hg.perm.append ?_
  rw [seg_congr (f := f) (g := g) (a := m) (b := b) (fun x y _ => (hg.out x (by omega)).symm)]
  exact hh.perm
theorem sInsert_at (key : Int → Int) (D : Int → Prop) (pc g n cap a b : Nat) (A B : Int) (f : Nat → Int) (w0 w : World) (eA : A = a) (eB : B = b) (HC0 : CmpOk key D pc g w0) (S0 : SortW w0 g n f w) (hab : a ≤ b) (hb : b ≤ n) (hn : n ≤ 1000000)
    (hD0 : ∀ k, k < n → D (f k)) (hasc0 : Asc f a b) :
    Calls Try.prog 39 #[.slice (some ⟨g, 0, none⟩) n cap, .int .i64 A, .int .i64 B, .func (.func 35) #[] #[.pointer (some ⟨pc, 0, none⟩)]] w (SortPost key a b f w0 g n) := by
  subst eA eB
  exact sInsert_any key D pc g n cap a b f w0 w HC0 S0 hab hb hn hD0 hasc0
set_option maxHeartbeats 2000000 in
theorem sStable_few (key : Int → Int) (D : Int → Prop) (pc g n cap : Nat) (f : Nat → Int) (w0 w : World) (HC0 : CmpOk key D pc g w0) (S0 : SortW w0 g n f w) (hn : n < 20) (hD0 : ∀ k, k < n → D (f k)) (hasc0 : Asc f 0 n) :
    Calls Try.prog 37 #[.slice (some ⟨g, 0, none⟩) n cap, .int .i64 n, .func (.func 35) #[] #[.pointer (some ⟨pc, 0, none⟩)]] w (SortPost key 0 n f w0 g n) := by
  have HC := Lib.hid HC0
  have S := Lib.hid S0
  have hD := Lib.hid hD0
  have hasc := Lib.hid hasc0
  clear HC0 S0 hD0 hasc0
  have c1 : ¬ (20 : Int) ≤ (n : Int) := by omega
  have c2 : ¬ (20 : Int) < (n : Int) := by omega
  go_enter Try.func37, Try.ntmps37
  go_wp2
  refine wp_loop_rounds 1 ?_
  rw [rounds_succ]
  go_wp2_with fail
  refine (sInsert_at key D pc g n cap 0 n _ _ f w0 _ rfl rfl HC.out S.out (by omega) (by omega) (by omega) hD.out hasc.out).mono ?_
  rintro e w1 ⟨rfl, f1, HS, S1⟩
  have H1 := Lib.hid HS
  have H2 := Lib.hid S1
  clear HS S1 S
  go_wp2
  refine wp_loop_rounds 1 ?_
  rw [rounds_succ]
  go_wp2
  go_end0
  exact ⟨rfl, f1, H1.out, H2.out⟩
set_option maxHeartbeats 2000000 in
theorem sStable_twenty (key : Int → Int) (D : Int → Prop) (pc g n cap : Nat) (f : Nat → Int) (w0 w : World) (HC0 : CmpOk key D pc g w0) (S0 : SortW w0 g n f w) (hn : n = 20) (hD0 : ∀ k, k < n → D (f k)) (hasc0 : Asc f 0 n) :
    Calls Try.prog 37 #[.slice (some ⟨g, 0, none⟩) n cap, .int .i64 n, .func (.func 35) #[] #[.pointer (some ⟨pc, 0, none⟩)]] w (SortPost key 0 n f w0 g n) := by
  have HC := Lib.hid HC0
  have S := Lib.hid S0
  have hD := Lib.hid hD0
  have hasc := Lib.hid hasc0
  clear HC0 S0 hD0 hasc0
  have HN := Lib.hid hn
  clear hn
  have hn1 : n ≤ 20 := by rw [HN.out]; omega
  have hn2 : 20 ≤ n := by rw [HN.out]; omega
  have c2 : ¬ (20 : Int) < (n : Int) := by omega
  have c1 : (20 : Int) ≤ (n : Int) := by omega
  have c3 : ¬ (40 : Int) ≤ (n : Int) := by omega
  go_enter Try.func37, Try.ntmps37
  go_wp2
  refine wp_loop_rounds 2 ?_
  rw [rounds_succ]
  go_wp2_with fail
  refine (sInsert_at key D pc g n cap 0 20 _ _ f w0 _ rfl rfl HC.out S.out (by omega) (by omega) (by omega) hD.out (fun p q a b c => hasc.out p q a b (by omega))).mono ?_
  rintro e w1 ⟨rfl, f1, HS, S1⟩
  have H1 := Lib.hid HS
  have H2 := Lib.hid S1
  have HD1 := Lib.hid (HS.all (by omega) hD.out)
  clear HS S1 S
  go_wp2
  rw [rounds_succ]
  go_wp2_with fail
  refine (sInsert_at key D pc g n cap 20 n _ _ f1 w0 _ rfl rfl HC.out H2.out (by omega) (by omega) (by omega) HD1.out (fun p q a b c => by rw [H1.out.out p (by omega), H1.out.out q (by omega)]; exact hasc.out p q (by omega) b c)).mono ?_
  rintro e w2 ⟨rfl, f2, HS, S1⟩
  have H3 := Lib.hid HS
  have H4 := Lib.hid S1
  have HD2 := Lib.hid (HS.all (by omega) HD1.out)
  clear HS S1 H2
  go_wp2
  refine wp_loop_rounds 1 ?_
  rw [rounds_succ]
  go_wp2
  go_end0
  exact ⟨rfl, f2, Sorts.after_two (m := 20) (by omega) (by omega) H1.out H3.out (by
    have R := runs_of_two hasc.out H1.out H3.out
    exact Sorts.of_runs R (by omega)), H4.out⟩
set_option maxHeartbeats 2000000 in
theorem sStable_more (key : Int → Int) (D : Int → Prop) (pc g n cap : Nat) (f : Nat → Int) (w0 w : World) (HC0 : CmpOk key D pc g w0) (S0 : SortW w0 g n f w) (hn1 : 20 < n) (hn : n < 40) (hD0 : ∀ k, k < n → D (f k)) (hasc0 : Asc f 0 n) :
    Calls Try.prog 37 #[.slice (some ⟨g, 0, none⟩) n cap, .int .i64 n, .func (.func 35) #[] #[.pointer (some ⟨pc, 0, none⟩)]] w (SortPost key 0 n f w0 g n) := by
  have HC := Lib.hid HC0
  have S := Lib.hid S0
  have hD := Lib.hid hD0
  have hasc := Lib.hid hasc0
  clear HC0 S0 hD0 hasc0
  have c2 : (20 : Int) < (n : Int) := by omega
  have c4 : ¬ (40 : Int) < (n : Int) := by omega
  have c1 : (20 : Int) ≤ (n : Int) := by omega
  have c3 : ¬ (40 : Int) ≤ (n : Int) := by omega
  go_enter Try.func37, Try.ntmps37
  go_wp2
  refine wp_loop_rounds 2 ?_
  rw [rounds_succ]
  go_wp2_with fail
  refine (sInsert_at key D pc g n cap 0 20 _ _ f w0 _ rfl rfl HC.out S.out (by omega) (by omega) (by omega) hD.out (fun p q a b c => hasc.out p q a b (by omega))).mono ?_
  rintro e w1 ⟨rfl, f1, HS, S1⟩
  have H1 := Lib.hid HS
  have H2 := Lib.hid S1
  have HD1 := Lib.hid (HS.all (by omega) hD.out)
  clear HS S1 S
  go_wp2
  rw [rounds_succ]
  go_wp2_with fail
  refine (sInsert_at key D pc g n cap 20 n _ _ f1 w0 _ rfl rfl HC.out H2.out (by omega) (by omega) (by omega) HD1.out (fun p q a b c => by rw [H1.out.out p (by omega), H1.out.out q (by omega)]; exact hasc.out p q (by omega) b c)).mono ?_
  rintro e w2 ⟨rfl, f2, HS, S1⟩
  have H3 := Lib.hid HS
  have H4 := Lib.hid S1
  have HD2 := Lib.hid (HS.all (by omega) HD1.out)
  clear HS S1 H2
  go_wp2
  refine wp_loop_rounds 2 ?_
  rw [rounds_succ]
  go_wp2
  refine wp_loop_rounds 1 ?_
  rw [rounds_succ]
  go_wp2_with fail
  refine (sSym_any key D pc g n cap w0 HC.out (by omega) 0 20 n (by omega) (by omega) (by omega) _ _ _ f2 _ rfl rfl rfl H4.out HD2.out (runs_of_two hasc.out H1.out H3.out)).mono ?_
  rintro e w3 ⟨rfl, f3, HS, S1⟩
  have H5 := Lib.hid HS
  have H6 := Lib.hid S1
  clear HS S1 H4
  go_wp2
  rw [rounds_succ]
  go_wp2
  go_end0
  exact ⟨rfl, f3, Sorts.after_two (m := 20) (by omega) (by omega) H1.out H3.out H5.out, H6.out⟩
theorem sStable_any (key : Int → Int) (D : Int → Prop) (pc g n cap : Nat) (f : Nat → Int) (w0 w : World) (HC0 : CmpOk key D pc g w0) (S0 : SortW w0 g n f w) (hn : n < 40) (hD0 : ∀ k, k < n → D (f k)) (hasc0 : Asc f 0 n) :
    Calls Try.prog 37 #[.slice (some ⟨g, 0, none⟩) n cap, .int .i64 n, .func (.func 35) #[] #[.pointer (some ⟨pc, 0, none⟩)]] w (SortPost key 0 n f w0 g n) := by
  rcases Nat.lt_trichotomy n 20 with h | h | h
  · exact sStable_few key D pc g n cap f w0 w HC0 S0 h hD0 hasc0
  · exact sStable_twenty key D pc g n cap f w0 w HC0 S0 h hD0 hasc0
  · exact sStable_more key D pc g n cap f w0 w HC0 S0 h hn hD0 hasc0
theorem sSort_any (key : Int → Int) (D : Int → Prop) (pc g n cap : Nat) (f : Nat → Int) (w0 w : World) (HC0 : CmpOk key D pc g w0) (S0 : SortW w0 g n f w) (hn : n < 40) (hD0 : ∀ k, k < n → D (f k)) (hasc0 : Asc f 0 n) :
    Calls Try.prog 34 #[.slice (some ⟨g, 0, none⟩) n cap, .func (.func 35) #[] #[.pointer (some ⟨pc, 0, none⟩)]] w (SortPost key 0 n f w0 g n) := by
  have HC := Lib.hid HC0
  have S := Lib.hid S0
  have hD := Lib.hid hD0
  have hasc := Lib.hid hasc0
  clear HC0 S0 hD0 hasc0
  go_enter Try.func34, Try.ntmps34
  go_wp2_with fail
  refine (sStable_any key D pc g n cap f w0 _ HC.out S.out hn hD.out hasc.out).mono ?_
  rintro e w1 ⟨rfl, f1, HS, S1⟩
  have H1 := Lib.hid HS
  have H2 := Lib.hid S1
  clear HS S1 S
  go_wp2
  go_end0
  exact ⟨rfl, f1, H1.out, H2.out⟩
end Go.Proofs.Ytahpoikbnjhkgaa
