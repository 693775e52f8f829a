/-
Several texts in one: PrDel, PrC.
-/
import Derived.Test.YtpkonifeieepfaaGreatGLPrA
import Derived.Test.YtpkonifeieepfaaGreatGLSortP
import Derived.Lib.SliceRun
import Derived.Test.YtpkonifeieepfaaGreatGLLimG
import Derived.Test.YtpkonifeieepfaaGreatGLTreeH
/-
slices.DeleteFunc at []int with the predicate of proof.witness.
-/
namespace Go.Proofs.YtpkonifeieepfaaGreat
open Go.RowKit
set_option linter.unusedVariables false
set_option linter.unusedSimpArgs false
def rowN (f : Nat → Int) (n : Nat) : List Int := (List.range n).map f
theorem rowN_succ (f : Nat → Int) (n : Nat) : rowN f (n + 1) = rowN f n ++ [f n] := by unfold rowN; rw [List.range_succ, List.map_append]; rfl
theorem rowN_congr {f g : Nat → Int} {n : Nat} (h : ∀ k, k < n → f k = g k) : rowN f n = rowN g n := by
  unfold rowN
  exact List.map_congr_left (fun k hk => h k (List.mem_range.1 hk))
theorem rowN_len (f : Nat → Int) (n : Nat) : (rowN f n).length = n := by unfold rowN; simp
/-- Between two rounds of DeleteFunc. -/
def KeptN (P : Int → Bool) (f f2 : Nat → Int) (n i j : Nat) : Prop := rowN f2 i = (rowN f j).filter (fun x => !P x) ∧ (∀ k, j ≤ k → k < n → f2 k = f k) ∧ i < j ∧ j ≤ n
theorem KeptN.start {P : Int → Bool} {f : Nat → Int} {n k : Nat} (hk : k < n) (h1 : P (f k) = true) (h2 : ∀ j, j < k → P (f j) = false) : KeptN P f f n k (k + 1) := by
  refine ⟨?_, fun _ _ _ => rfl, by omega, by omega⟩
  rw [rowN_succ, List.filter_append]
  have h3 : (rowN f k).filter (fun x => !P x) = rowN f k := by
    rw [List.filter_eq_self]
    intro x hx
    unfold rowN at hx
    obtain ⟨j, hj, rfl⟩ := List.mem_map.1 hx
    rw [h2 j (List.mem_range.1 hj)]; rfl
  rw [h3]
  simp [h1]
theorem KeptN.skip {P : Int → Bool} {f f2 : Nat → Int} {n i j : Nat} (h : KeptN P f f2 n i j) (hj : j < n) (h1 : P (f j) = true) : KeptN P f f2 n i (j + 1) := by
  obtain ⟨a, b, c, d⟩ := h
  refine ⟨?_, fun k hk hn => b k (by omega) hn, by omega, by omega⟩
  rw [rowN_succ, List.filter_append, ← a]
  simp [h1]
theorem KeptN.keep {P : Int → Bool} {f f2 f3 : Nat → Int} {n i j : Nat} (h : KeptN P f f2 n i j) (hj : j < n) (h1 : P (f j) = false) (h3 : ∀ k, f3 k = if k = i then f j else f2 k) : KeptN P f f3 n (i + 1) (j + 1) := by
  obtain ⟨a, b, c, d⟩ := h
  refine ⟨?_, fun k hk hn => ?_, by omega, by omega⟩
  · rw [rowN_succ, rowN_succ, List.filter_append, ← a, h3 i, if_pos rfl, rowN_congr (fun k hk => by rw [h3 k, if_neg (by omega)])]
    simp [h1]
  · rw [h3 k, if_neg (by omega)]
    exact b k (by omega) hn
theorem SortP.set {w0 w : World} {g n : Nat} {f : Nat → Int} (h : SortP w0 g n f w) (i : Nat) (x : Int) : SortP w0 g n (fun j => if j = i then x else f j) (w.setCell ⟨g, i, none⟩ (.int .i64 x)) := ⟨h.own.set i x, h.mod.setCell (p := ⟨g, i, none⟩) (Or.inl rfl) _⟩
theorem SortP.clr {w0 : World} {g n : Nat} : ∀ (m o : Nat) (f : Nat → Int) (w : World), SortP w0 g n f w → SortP w0 g n (fun j => if o ≤ j ∧ j < o + m then 0 else f j) (w.setCells g o (List.replicate m (.int .i64 0)))
  | 0, o, f, w, h => ⟨h.own.congr (fun j _ => by rw [if_neg (by omega)]), h.mod⟩
  | m + 1, o, f, w, h => by
    have ih := SortP.clr m (o + 1) _ _ (h.set o 0)
    refine ⟨ih.own.congr (fun j _ => ?_), ih.mod⟩
    by_cases e : j = o
    · subst e; rw [if_neg (by omega), if_pos rfl, if_pos (by omega)]
    · by_cases e2 : o + 1 ≤ j ∧ j < o + 1 + m
      · rw [if_pos e2, if_pos (by omega)]
      · rw [if_neg e2, if_neg e, if_neg (by omega)]
def IdxR (P : Int → Bool) (f : Nat → Int) (n : Nat) (r : Int) : Prop := (r = -1 ∧ ∀ k, k < n → P (f k) = false) ∨ ∃ k : Nat, k < n ∧ r = k ∧ P (f k) = true ∧ ∀ j, j < k → P (f j) = false
/-- The predicate, whatever has been done to block g. -/
def DelR (P : Int → Bool) (D : Int → Prop) (v1 v2 : Value) (g : Nat) (w0 : World) : Prop := ∀ W, Mod (fun k => k = g) w0 W → ∀ x, D x → Calls Tryz.prog 38 #[.int .i64 x, v1, v2] W fun e w' => e = .returned (.bool (P x)) ∧ Below W.heap.size W w'
set_option maxRecDepth 100000 in
set_option maxHeartbeats 4000000 in
theorem slIndexF_any (P : Int → Bool) (D : Int → Prop) (v1 v2 : Value) (g n cap : Nat) (f : Nat → Int) (w0 w : World) (HC0 : DelR P D v1 v2 g w0) (S0 : SortP w0 g n f w) (hn : n ≤ 1000000) (hD0 : ∀ k, k < n → D (f k)) :
    Calls Tryz.prog 82 #[.slice (some ⟨g, 0, none⟩) n cap, .func (.func 38) #[] #[v1, v2]] w fun e w' => ∃ r, e = .returned (.int .i64 r) ∧ Hid (IdxR P f n r) ∧ Hid (SortP w0 g n f w') := by
  have HC := Lib.hid HC0
  have S := Lib.hid S0
  have HD := Lib.hid hD0
  clear HC0 S0 hD0
  go_enter Tryz.func82, Tryz.ntmps82
  go_wp2_with fail
  go_loopg [5, 8] n (fun gg _ s8 wr => ∃ i : Nat, s8 = .int .i64 i ∧ i ≤ n ∧ n - i ≤ gg ∧ Hid (∀ j, j < i → P (f j) = false) ∧ Hid (SortP w0 g n f wr))
  case atStart => exact ⟨0, by go_num, by omega, by omega, Lib.hid (fun j hj => by omega), S⟩
  case round =>
    clear S
    obtain ⟨i, rfl, hi, hgg, HJ, S⟩ := hrel
    by_cases hlt : i < n
    · have hltz : (i : Int) < (n : Int) := by omega
      have c0 := S.out.own.cell (i := i) hlt
      go_wp2_with fail
      refine (HC.out _ S.out.mod _ (HD.out i hlt)).mono ?_
      rintro e w1 ⟨rfl, hb⟩
      have S1 := Lib.hid (S.out.below hb)
      clear hb S c0
      cases hq : P (f i)
      · have HJ1 : Hid (∀ j, j < i + 1 → P (f j) = false) := Lib.hid (fun j hj => by
          by_cases e : j = i
          · rw [e]; exact hq
          · exact HJ.out j (by omega))
        clear hq
        go_wp2_with fail
        go_roundg (n - (i + 1))
        case measure => omega
        case rel => exact ⟨i + 1, by go_num, by omega, by omega, HJ1, S1⟩
      · have HR : Hid (IdxR P f n (i : Int)) := Lib.hid (.inr ⟨i, hlt, rfl, hq, HJ.out⟩)
        clear hq
        go_wp2_with fail
        go_ret
        exact ⟨_, rfl, HR, S1⟩
    · have hltz : ¬ (i : Int) < (n : Int) := by omega
      have HR : Hid (IdxR P f n (-1)) := Lib.hid (.inl ⟨rfl, fun k hk => HJ.out k (by omega)⟩)
      go_wp2_with fail
      go_ret
      exact ⟨_, rfl, HR, S⟩
theorem zeroInt (W : World) : (zeroValue 3).run Tryz.prog W = .ok (.int .i64 0) W := by go_simp
set_option maxRecDepth 100000 in
set_option maxHeartbeats 4000000 in
theorem slDelete_any (P : Int → Bool) (D : Int → Prop) (v1 v2 : Value) (g n cap : Nat) (f : Nat → Int) (w0 w : World) (HC0 : DelR P D v1 v2 g w0) (S0 : SortP w0 g n f w) (hn : n ≤ 1000000) (hcap : n ≤ cap) (hcap2 : cap ≤ 9223372036854775807) (hD0 : ∀ k, k < n → D (f k)) :
    Calls Tryz.prog 36 #[.slice (some ⟨g, 0, none⟩) n cap, .func (.func 38) #[] #[v1, v2]] w fun e w' => ∃ m f', e = .returned (.slice (some ⟨g, 0, none⟩) m cap) ∧ Hid (m ≤ n ∧ rowN f' m = (rowN f n).filter (fun x => !P x)) ∧ Hid (SortP w0 g n f' w') := by
  have HC := Lib.hid HC0
  have HD := Lib.hid hD0
  have HI := Lib.hid (slIndexF_any P D v1 v2 g n cap f w0 w HC0 S0 hn hD0)
  clear HC0 S0 hD0
  go_enter Tryz.func36, Tryz.ntmps36
  go_wp2_with fail
  refine HI.out.mono ?_
  rintro e w1 ⟨r, rfl, HR, S⟩
  clear HI
  rcases HR.out with ⟨rfl, hall⟩ | ⟨k0, hk0, rfl, ht, hb0⟩
  · have HF : Hid (n ≤ n ∧ rowN f n = (rowN f n).filter (fun x => !P x)) := Lib.hid ⟨Nat.le_refl _, by
      symm
      rw [List.filter_eq_self]
      intro x hx
      unfold rowN at hx
      obtain ⟨j, hj, rfl⟩ := List.mem_map.1 hx
      rw [hall j (List.mem_range.1 hj)]; rfl⟩
    clear hall
    go_wp2_with fail
    go_ret
    exact ⟨n, f, rfl, HF, S⟩
  · have HK := Lib.hid (KeptN.start hk0 ht hb0)
    have hk1 : ((k0 : Int) == -1) = false := by simp
    have hk2 : ¬ (k0 : Int) = -1 := by omega
    clear ht hb0 HR
    go_wp2_with fail
    go_loopg [5, 6, 7] n (fun gg s5 s6 _ wr => ∃ (i j : Nat) (f2 : Nat → Int), s5 = .int .i64 i ∧ s6 = .int .i64 j ∧ i < j ∧ j ≤ n ∧ n - j ≤ gg ∧ Hid (KeptN P f f2 n i j) ∧ Hid (SortP w0 g n f2 wr))
    case atStart => exact ⟨k0, k0 + 1, f, by go_num, by go_num, by omega, by omega, by omega, HK, S⟩
    case round =>
      clear HK S hk1 hk2
      obtain ⟨i, j, f2, rfl, rfl, hij, hjn, hgg, HK, S⟩ := hrel
      by_cases hlt : j < n
      · have hltz : (j : Int) < (n : Int) := by omega
        have cj : wr.cell? ⟨g, j, none⟩ = some (.int .i64 (f j)) := by rw [← HK.out.2.1 j (Nat.le_refl _) hlt]; exact S.out.own.cell (i := j) hlt
        go_wp2_with fail
        refine (HC.out _ S.out.mod _ (HD.out j hlt)).mono ?_
        rintro e w2 ⟨rfl, hb⟩
        have S2 := Lib.hid (S.out.below hb)
        clear hb S cj
        cases hq : P (f j)
        · have HK2 : Hid (KeptN P f (fun k => if k = i then f j else f2 k) n (i + 1) (j + 1)) := Lib.hid (HK.out.keep hlt hq (fun k => rfl))
          have ci := S2.out.own.cell (i := i) (by omega)
          have fi := S2.out.own.frozen i
          have S3 := Lib.hid (S2.out.set i (f j))
          clear hq HK
          go_wp2_with fail
          go_roundg (n - (j + 1))
          case measure => omega
          case rel => exact ⟨i + 1, j + 1, _, by go_num, by go_num, by omega, by omega, by omega, HK2, S3⟩
        · have HK2 := Lib.hid (HK.out.skip hlt hq)
          clear hq HK
          go_wp2_with fail
          go_roundg (n - (j + 1))
          case measure => omega
          case rel => exact ⟨i, j + 1, f2, rfl, by go_num, by omega, by omega, by omega, HK2, S2⟩
      · obtain rfl : j = n := by omega
        have hltz : ¬ (j : Int) < (j : Int) := by omega
        have hcl : ∀ ty, (Builtin.clear_ #[29] ty #[.slice (some ⟨g, 0 + i, none⟩) (j - i) (cap - i)]).run Tryz.prog wr = .ok (.tuple #[]) (wr.setCells g (0 + i) (List.replicate (j - i) (.int .i64 0))) :=
          fun ty => Lib.run_clear_slice wr _ _ ty _ Tryz.underlying29 zeroInt rfl rfl g (0 + i) _ _ (by omega) (fun t ht => by rw [show 0 + i + t = i + t by omega, S.out.own.cell (i := i + t) (by omega)]; rfl) (fun t ht => S.out.own.frozen _)
        rw [Nat.zero_add] at hcl
        have S3 := Lib.hid (S.out.clr (j - i) i)
        have HF : Hid (i ≤ j ∧ rowN (fun k => if i ≤ k ∧ k < i + (j - i) then 0 else f2 k) i = (rowN f j).filter (fun x => !P x)) := Lib.hid ⟨by omega, by rw [← HK.out.1]; exact rowN_congr (fun k hk => by rw [if_neg (by omega)])⟩
        clear HK S
        go_wp2_with fail
        go_ret
        first | exact ⟨i, rfl, _, HF, S3⟩ | exact ⟨_, rfl, HF, S3⟩ | exact ⟨_, HF, S3⟩ | exact ⟨i, _, rfl, HF, S3⟩
end Go.Proofs.YtpkonifeieepfaaGreat
/-
proof.witness: the clone, the two closures.
-/
namespace Go.Proofs.YtpkonifeieepfaaGreat
open Go.RowKit
set_option linter.unusedVariables false
set_option linter.unusedSimpArgs false
theorem eqlNilS {P : Program} (w : World) (t e : TypeId) (a : Option Addr) (n c : Nat) (h : P.underlying t = some (.slice e)) : (binOp .eql t (.slice a n c) (.slice none 0 0)).run P w = .ok (.bool a.isNone) w := by
  rw [Lib.run_eql_slice_nil w t e a n c 0 0 h]
theorem OwnR.ownP1 {w : World} {base : Nat} {v : Value} {xs : List Int} (h : OwnR 3 1 encI w base v xs) (h0 : 0 < xs.length) : ∃ g c, v = .slice (some ⟨g, 0, none⟩) xs.length c ∧ base ≤ g ∧ xs.length ≤ c ∧ c ≤ maxLen ∧ OwnP w g xs.length (fI xs) := by
  rcases h.2 with ⟨h1, h2⟩ | ⟨g, cap, cur, hv, hb, hg, hl, hm, hs, hc⟩
  · exact absurd h2 (by omega)
  · refine ⟨g, cap, hv, hb, hl, hm, cur, hg, by omega, fun i hi => ?_⟩
    have : xs[i]? = some (fI xs i) := by simp [fI, List.getElem?_eq_getElem hi]
    have e := flatR_at encI_len1 xs i 0 (fI xs i) _ this rfl
    rw [← hc, List.getElem?_take, if_pos (by omega), Nat.mul_one, Nat.add_zero, Array.getElem?_toList] at e
    exact e
set_option maxRecDepth 100000 in
set_option maxHeartbeats 4000000 in
theorem slClone_any (a : Addr) (c N : Nat) (xs : List Int) (w : World) (hR : Rd 1 encI w (some a) xs) (HN : Hid (xs.length = N)) (hN : N ≤ 1000000) (h0 : 0 < N) :
    Calls Tryz.prog 37 #[.slice (some a) N c] w fun e w' => ∃ g cap, e = .returned (.slice (some ⟨g, 0, none⟩) N cap) ∧ Hid (N ≤ cap ∧ cap ≤ 9223372036854775807 ∧ w.heap.size ≤ g ∧ OwnP w' g N (fI xs) ∧ Below w.heap.size w w') := by
  have hown : OwnR 3 1 encI (w.alloc (.cells #[] 3)) w.heap.size (.slice (some ⟨w.heap.size, 0, none⟩) 0 0) [] := OwnR.made w #[] 0 (by omega) rfl (Nat.le_refl _)
  have ba : Below w.heap.size w (w.alloc (.cells #[] 3)) := (Below.refl _ w).alloc (Nat.le_refl _) _
  obtain ⟨ap, v', w1, av, aw, HO, HA⟩ := app_argR (P := Tryz.prog) (ty := 29) (c := c) (m := N) appInfoNum Tryz.underlying29 rfl (by omega) encI_len1 encI_one hown (hR.keep ba) HN.out ba.size (by simp; unfold maxLen; omega) (by simp; omega)
  rw [List.nil_append] at HO
  obtain ⟨g, cap, hv, hg, hl, hm, hp⟩ := HO.out.ownP1 (by rw [HN.out]; exact h0)
  rw [HN.out] at hv hl hp
  have HB : Hid (N ≤ cap ∧ cap ≤ 9223372036854775807 ∧ w.heap.size ≤ g ∧ OwnP w1 g N (fI xs) ∧ Below w.heap.size w w1) := Lib.hid ⟨hl, by unfold maxLen at hm; omega, hg, hp, ba.trans HA.out.bel⟩
  subst hv
  clear hR hown ba HA HO hg hl hm hp
  have heq : ∀ W : World, (binOp .eql 29 (.slice (some a) N c) (.slice none 0 0)).run Tryz.prog W = .ok (.bool false) W := fun W => eqlNilS W 29 3 (some a) N c Tryz.underlying29
  go_enter Tryz.func37, Tryz.ntmps37
  go_wp2
  go_ret
  first | exact HB | exact ⟨_, _, rfl, HB⟩
set_option maxRecDepth 100000 in
set_option maxHeartbeats 4000000 in
theorem prWit1_any (X V : Nat) (a4 : Option Addr) (n4 c4 : Nat) (s : GSite) (p : Nat) (hp : p < 3) (W : World) (k3 : W.cell? ⟨X, 3, none⟩ = some (.slice a4 n4 c4)) (y1 : W.cell? ⟨V, 1, none⟩ = some (.int .i64 (p : Nat))) (HR : Hid (Rd 8 encChg W a4 s.chgs)) (HL : Hid (s.chgs.length = n4)) (hn4 : n4 ≤ 1000000) (HPH : Hid (∀ g, g ∈ s.chgs → 0 ≤ g.ph ∧ g.ph ≤ 7)) (x : Int) (hx : 0 ≤ x ∧ x < (n4 : Int)) :
    Calls Tryz.prog 38 #[.int .i64 x, .pointer (some ⟨X, 0, none⟩), .pointer (some ⟨V, 0, none⟩)] W fun e w' => e = .returned (.bool (!usesB s p x)) ∧ Below W.heap.size W w' := by
  obtain ⟨i, rfl⟩ := Int.eq_ofNat_of_zero_le hx.1
  have hi : i < n4 := by omega
  have hiz : (i : Int) < (n4 : Int) := by omega
  have hpz : (p : Int) < 64 := by omega
  obtain ⟨b, off, g, hA4, hbl, hgx, d0, d1, d2, d3, d4, d5, d6, d7⟩ := rdChg_at HR.out (k := i) (by rw [HL.out]; exact hi)
  have hph := HPH.out g (List.mem_of_getElem? hgx)
  have hb := bits_ph hph hp
  have hu : usesB s p (i : Int) = bitP g.ph p := by unfold usesB phOf; rw [show ((i : Int)).toNat = i from rfl, hgx]; rfl
  have hbe : (bits BinOp.and IntKind.i64 g.ph (wrap64 (2 ^ p)) == 0) = !bitP g.ph p := by rw [← hb]; simp [bne]
  rw [hu]
  clear hgx hbl d0 d1 d3 d4 d5 d6 d7 hu HR HPH hph hb hx
  subst hA4
  go_enter Tryz.func38, Tryz.ntmps38
  go_wp2_with fail
  go_quiet (fail)
  go_wp2_with fail
  go_ret
  exact ⟨rfl, below_drewG _ (Below.refl _ _)⟩
theorem prNaN_any (n : Int) (w : World) : Calls Tryz.prog 84 #[.int .i64 n] w fun e w' => e = .returned (.bool false) ∧ w = w' := by
  have h : (n != n) = false := by simp
  go_enter Tryz.func84, Tryz.ntmps84
  go_wp2
  go_ret
  exact ⟨rfl, rfl⟩
theorem prCmp_any (x y : Int) (w : World) : Calls Tryz.prog 41 #[.int .i64 x, .int .i64 y] w fun e w' => e = .returned (.int .i64 (cmpV x y)) ∧ w = w' := by
  unfold cmpV
  by_cases h1 : x < y
  · rw [if_pos h1]
    go_enter Tryz.func41, Tryz.ntmps41
    go_wp2_with (go_at_call 84; refine (prNaN_any _ _).mono ?_; rintro e w' ⟨rfl, rfl⟩)
    go_ret
    exact ⟨rfl, rfl⟩
  · rw [if_neg h1]
    by_cases h2 : y < x
    · rw [if_pos h2]
      go_enter Tryz.func41, Tryz.ntmps41
      go_wp2_with (go_at_call 84; refine (prNaN_any _ _).mono ?_; rintro e w' ⟨rfl, rfl⟩)
      go_ret
      exact ⟨rfl, rfl⟩
    · rw [if_neg h2]
      go_enter Tryz.func41, Tryz.ntmps41
      go_wp2_with (go_at_call 84; refine (prNaN_any _ _).mono ?_; rintro e w' ⟨rfl, rfl⟩)
      go_ret
      exact ⟨rfl, rfl⟩
set_option maxRecDepth 100000 in
set_option maxHeartbeats 4000000 in
theorem prWit2_any (T : Nat) (aT : Option Addr) (nT cT : Nat) (xs : List Int) (W : World) (k0 : W.cell? ⟨T, 0, none⟩ = some (.slice aT nT cT)) (HX : Hid (Rd 1 encI W aT xs)) (HN : Hid (xs.length = nT)) (hn : nT ≤ 1000000) (x y : Int) (hx : 0 ≤ x ∧ x < (nT : Int)) (hy : 0 ≤ y ∧ y < (nT : Int)) :
    Calls Tryz.prog 40 #[.int .i64 x, .int .i64 y, .pointer (some ⟨T, 0, none⟩)] W fun e w' => e = .returned (.int .i64 (cmpV (fI xs y.toNat) (fI xs x.toNat))) ∧ Below W.heap.size W w' := by
  obtain ⟨i, rfl⟩ := Int.eq_ofNat_of_zero_le hx.1
  obtain ⟨j, rfl⟩ := Int.eq_ofNat_of_zero_le hy.1
  have hiz : (i : Int) < (nT : Int) := by omega
  have hjz : (j : Int) < (nT : Int) := by omega
  obtain ⟨bA, oA, hA, hbA, c1⟩ := HX.out.int (k := i) (by rw [HN.out]; omega)
  obtain ⟨bB, oB, hB, hbB, c2⟩ := HX.out.int (k := j) (by rw [HN.out]; omega)
  rw [hA] at hB
  injection hB with hB
  injection hB with e1 e2
  subst e1 e2 hA
  rw [Int.toNat_natCast, Int.toNat_natCast]
  change W.cell? _ = some (.int .i64 (fI xs i)) at c1
  change W.cell? _ = some (.int .i64 (fI xs j)) at c2
  generalize fI xs i = u at *
  generalize fI xs j = v at *
  clear HX HN hx hy hbA hbB
  go_enter Tryz.func40, Tryz.ntmps40
  go_wp2_with fail
  go_quiet (first | (go_at_call 41; exact Calls.quiet_of_same ((prCmp_any _ _ _).mono (fun _ _ h => ⟨h.1, h.2.symm⟩))))
  go_wp2_with fail
  go_ret
  exact ⟨rfl, below_drewG _ (Below.refl _ _)⟩
end Go.Proofs.YtpkonifeieepfaaGreat
