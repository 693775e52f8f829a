/-
Names of the parser and of a site; walked.
-/
import Derived.Test.YtbalhbpaholakaaCParA
namespace Go.Proofs.Ytbalhbpaholakaa
open Go.RowKit
set_option linter.unusedVariables false
set_option linter.unusedSimpArgs false
theorem idx_str {P : Program} {t : TypeId} (h : P.underlying t = some .string) {s : ByteArray} {k : Nat} (hk : k < s.size) (w : World) : (Instr.index t (.string s) (.int .i64 (k : Int))).run P w = .ok (.int .u8 (byteAt s k)) w := by
  rw [run_index_string w t s .i64 (k : Int) h, dif_pos ⟨by omega, by omega⟩]
  unfold byteAt
  rw [ByteArray.getElem?_lt' s _ (by omega)]
  rfl
theorem byteAt_lt (s : ByteArray) (k : Nat) : byteAt s k < 256 := by unfold byteAt; exact UInt8.toNat_lt _
noncomputable def okWordB (s : ByteArray) : Bool := @decide (okWord s) (Classical.propDecidable _)
theorem okWordB_iff {s : ByteArray} : okWordB s = true ↔ okWord s := @decide_eq_true_iff _ (Classical.propDecidable _)
theorem okWordB_no {s : ByteArray} (h : ¬ okWord s) : okWordB s = false := by
  cases e : okWordB s
  · rfl
  · exact absurd (okWordB_iff.1 e) h
set_option maxRecDepth 100000 in
set_option maxHeartbeats 4000000 in
theorem paWord_any (s : ByteArray) (w : World) (hs : s.size ≤ 9223372036854775807) : Calls Try.prog 129 #[.string s] w fun e w' => e = .returned (.bool (okWordB s)) ∧ w' = w := by
  obtain ⟨n, hn⟩ : ∃ n, s.size = n := ⟨_, rfl⟩
  have HN := Lib.hid hn
  by_cases c1 : 1 ≤ n
  case neg =>
    have HF : Hid (okWordB s = false) := Lib.hid (okWordB_no (fun h => c1 (by rw [← hn]; exact h.1)))
    have z1 : (n : Int) < 1 := by omega
    go_enter Try.func129, Try.ntmps129
    go_wp2_with fail
    go_ret
    exact ⟨ret_bool HF.out.symm, rfl⟩
  have z1 : ¬ (n : Int) < 1 := by omega
  have hi := idx_str (P := Try.prog) (t := 9) Try.underlying9 (s := s) (k := 0) (by omega)
  obtain ⟨b, hb⟩ : ∃ b, byteAt s 0 = b := ⟨_, rfl⟩
  have HB := Lib.hid hb
  rw [hb] at hi
  have hi0 : ∀ w : World, (Instr.index 9 (.string s) (.int .i64 0)).run Try.prog w = .ok (.int .u8 (b : Nat)) w := hi
  clear hb hi
  by_cases c2 : n ≤ 12
  case neg =>
    have HF : Hid (okWordB s = false) := Lib.hid (okWordB_no (fun h => c2 (by rw [← hn]; exact h.2.1)))
    have z2 : (12 : Int) < (n : Int) := by omega
    go_enter Try.func129, Try.ntmps129
    go_wp2_with fail
    go_ret
    exact ⟨ret_bool HF.out.symm, rfl⟩
  have z2 : ¬ (12 : Int) < (n : Int) := by omega
  by_cases c3 : 97 ≤ b
  case neg =>
    have HF : Hid (okWordB s = false) := Lib.hid (okWordB_no (fun h => c3 (by have := h.2.2.1; unfold lowN at this; rw [HB.out] at this; exact this.1)))
    have z3 : (b : Int) < 97 := by omega
    go_enter Try.func129, Try.ntmps129
    go_wp2_with fail
    go_ret
    exact ⟨ret_bool HF.out.symm, rfl⟩
  have z3 : ¬ (b : Int) < 97 := by omega
  by_cases c4 : b ≤ 122
  case neg =>
    have HF : Hid (okWordB s = false) := Lib.hid (okWordB_no (fun h => c4 (by have := h.2.2.1; unfold lowN at this; rw [HB.out] at this; exact this.2)))
    have z4 : (122 : Int) < (b : Int) := by omega
    go_enter Try.func129, Try.ntmps129
    go_wp2_with fail
    go_ret
    exact ⟨ret_bool HF.out.symm, rfl⟩
  have z4 : ¬ (122 : Int) < (b : Int) := by omega
  have HLOW : Hid (lowN (byteAt s 0)) := Lib.hid (by rw [HB.out]; exact ⟨c3, c4⟩)
  go_enter Try.func129, Try.ntmps129
  go_wp2_with fail
  clear hi0 z3 z4 c3 c4
  go_loopg [3, 4] n (fun g1 v3 v4 wr => ∃ k : Nat, v3 = .int .i64 k ∧ 1 ≤ k ∧ k ≤ n ∧ n - k ≤ g1 ∧ Hid (∀ i, 0 < i → i < k → partN (byteAt s i)) ∧ Hid (wr = w))
  case atStart => exact ⟨1, by go_num, by omega, by omega, by omega, Lib.hid (fun i h0 hi => by omega), Lib.hid rfl⟩
  case round =>
    obtain ⟨k, rfl, hk1, hk, hg1, HA, HW⟩ := hrel
    by_cases hlt : k < n
    · have hltz : (k : Int) < (n : Int) := by omega
      have hik := idx_str (P := Try.prog) (t := 9) Try.underlying9 (s := s) (k := k) (by omega)
      obtain ⟨x, hx⟩ : ∃ x, byteAt s k = x := ⟨_, rfl⟩
      rw [hx] at hik
      have HX := Lib.hid hx
      clear hx
      by_cases hp : partN x
      · have HA2 : Hid (∀ i, 0 < i → i < k + 1 → partN (byteAt s i)) := Lib.hid (fun i h0 hi => by
          by_cases e : i = k
          · subst e; rw [HX.out]; exact hp
          · exact HA.out i h0 (by omega))
        have HCASE : Hid ((97 ≤ x ∧ x ≤ 122) ∨ (¬ (97 ≤ x ∧ x ≤ 122) ∧ (48 ≤ x ∧ x ≤ 57)) ∨ x = 95) := Lib.hid (by unfold partN at hp; omega)
        clear hp HA
        rcases HCASE.out with ⟨a1, a2⟩ | ⟨a0, a1, a2⟩ | a0
        · have y1 : (97 : Int) ≤ (x : Int) := by omega
          have y2 : (x : Int) ≤ 122 := by omega
          clear HCASE
          go_wp2_with fail
          go_roundg (n - (k + 1))
          case measure => omega
          case rel => exact ⟨k + 1, by go_num, by omega, by omega, by omega, HA2, HW⟩
        · have y0 : ¬ (97 : Int) ≤ (x : Int) := by omega
          have y1 : (48 : Int) ≤ (x : Int) := by omega
          have y2 : (x : Int) ≤ 57 := by omega
          clear HCASE a0
          go_wp2_with fail
          go_roundg (n - (k + 1))
          case measure => omega
          case rel => exact ⟨k + 1, by go_num, by omega, by omega, by omega, HA2, HW⟩
        · subst a0
          clear HCASE
          go_wp2_with fail
          go_roundg (n - (k + 1))
          case measure => omega
          case rel => exact ⟨k + 1, by go_num, by omega, by omega, by omega, HA2, HW⟩
      · have HF : Hid (okWordB s = false) := Lib.hid (okWordB_no (fun h => hp (by rw [← HX.out]; exact h.2.2.2 k (by omega) (by rw [HN.out]; exact hlt))))
        have HCASE : Hid ((x < 48) ∨ (57 < x ∧ x < 97 ∧ x ≠ 95) ∨ 122 < x) := Lib.hid (by unfold partN at hp; omega)
        clear hp HA
        rcases HCASE.out with a1 | ⟨a1, a2, a3⟩ | a1
        · have y0 : ¬ (97 : Int) ≤ (x : Int) := by omega
          have y1 : ¬ (48 : Int) ≤ (x : Int) := by omega
          have y2 : ((x : Int) == 95) = false := by simp; omega
          clear HCASE
          go_wp2_with fail
          go_ret
          exact ⟨ret_bool HF.out.symm, HW.out⟩
        · have y0 : ¬ (97 : Int) ≤ (x : Int) := by omega
          have y1 : (48 : Int) ≤ (x : Int) := by omega
          have y3 : ¬ (x : Int) ≤ 57 := by omega
          have y2 : ((x : Int) == 95) = false := by simp; omega
          clear HCASE
          go_wp2_with fail
          go_ret
          exact ⟨ret_bool HF.out.symm, HW.out⟩
        · have y0 : (97 : Int) ≤ (x : Int) := by omega
          have y4 : ¬ (x : Int) ≤ 122 := by omega
          have y1 : (48 : Int) ≤ (x : Int) := by omega
          have y3 : ¬ (x : Int) ≤ 57 := by omega
          have y2 : ((x : Int) == 95) = false := by simp; omega
          clear HCASE
          go_wp2_with fail
          go_ret
          exact ⟨ret_bool HF.out.symm, HW.out⟩
    · have hltz : ¬ (k : Int) < (n : Int) := by omega
      have HT : Hid (okWordB s = true) := Lib.hid (okWordB_iff.2 ⟨by rw [HN.out]; exact c1, by rw [HN.out]; exact c2, HLOW.out, fun i h0 hi => HA.out i h0 (by rw [HN.out] at hi; omega)⟩)
      clear HA
      go_wp2_with fail
      go_ret
      exact ⟨ret_bool HT.out.symm, HW.out⟩
set_option maxRecDepth 100000 in
set_option maxHeartbeats 4000000 in
theorem paGood_any (s : ByteArray) (w : World) (hs : s.size ≤ 9223372036854775807) : Calls Try.prog 126 #[.string s] w fun e w' => e = .returned (.bool (okNameB keyL s)) ∧ w' = w := by
  go_enter Try.func126, Try.ntmps126
  go_wp2_with fail
  refine (paWord_any s w hs).mono ?_
  rintro e w1 ⟨rfl, rfl⟩
  cases h1 : okWordB s
  · have HF : Hid (okNameB keyL s = false) := Lib.hid (okNameB_no (fun h => by rw [okWordB_iff.2 h.1] at h1; cases h1))
    clear h1
    go_wp2_with fail
    go_ret
    exact ⟨ret_bool HF.out.symm, rfl⟩
  · have HW := Lib.hid (okWordB_iff.1 h1)
    clear h1
    go_wp2_with fail
    refine (paKey_any s w1).mono ?_
    rintro e w2 ⟨rfl, rfl⟩
    have HF : Hid ((!inB keyL s) = okNameB keyL s) := Lib.hid (by
      rw [Bool.eq_iff_iff, okNameB_iff, Bool.not_eq_true']
      constructor
      · intro h; exact ⟨HW.out, fun hm => by rw [inB_iff.2 hm] at h; cases h⟩
      · intro h
        cases hk : inB keyL s
        · rfl
        · exact absurd (inB_iff.1 hk) h.2)
    go_wp2_with fail
    go_ret
    exact ⟨ret_bool HF.out, rfl⟩
end Go.Proofs.Ytbalhbpaholakaa
