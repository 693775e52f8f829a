/-
The reference's names; walked.
-/
import Derived.Test.YtjlfnhfiiailgaaCSiteE
namespace Go.Proofs.Ytjlfnhfiiailgaa
open Go.RowKit
set_option linter.unusedVariables false
set_option linter.unusedSimpArgs false
set_option maxRecDepth 100000 in
theorem r4Inside_any (n a b : Int) (w : World) : Calls Try.prog 40 #[.int .i64 n, .int .i64 a, .int .i64 b] w fun e w' => e = .returned (.bool (inside n a b)) ∧ w' = w := by
  by_cases h : a ≤ n
  · by_cases h2 : n ≤ b
    · have HF : Hid (inside n a b = true) := Lib.hid (inside_iff.2 ⟨h, h2⟩)
      go_enter Try.func40, Try.ntmps40
      go_wp2_with fail
      go_ret
      exact ⟨ret_bool HF.out.symm, rfl⟩
    · have HF : Hid (inside n a b = false) := Lib.hid (by cases e : inside n a b; rfl; exact absurd (inside_iff.1 e).2 h2)
      have h3 : ¬ n ≤ b := h2
      go_enter Try.func40, Try.ntmps40
      go_wp2_with fail
      go_ret
      exact ⟨ret_bool HF.out.symm, rfl⟩
  · have HF : Hid (inside n a b = false) := Lib.hid (by cases e : inside n a b; rfl; exact absurd (inside_iff.1 e).1 h)
    go_enter Try.func40, Try.ntmps40
    go_wp2_with fail
    go_ret
    exact ⟨ret_bool HF.out.symm, rfl⟩
/-- A text in a list of texts. -/
noncomputable def inTs (l : List ByteArray) (s : ByteArray) : Bool := inB (l.map (·.toList)) s
theorem inTs_iff {l : List ByteArray} {s : ByteArray} : inTs l s = true ↔ ∃ x, x ∈ l ∧ x.toList = s.toList := by
  unfold inTs
  rw [inB_iff, List.mem_map]
set_option maxRecDepth 100000 in
set_option maxHeartbeats 4000000 in
theorem r4Has_any (A : Option Addr) (c N : Nat) (l : List ByteArray) (s : ByteArray) (w : World) (hR : Rd 1 encS w A l) (HN : Hid (l.length = N)) (hl : N ≤ 9223372036854775807) :
    Calls Try.prog 49 #[.slice A N c, .string s] w fun e w' => e = .returned (.bool (inTs l s)) ∧ w' = w := by
  have HR := Lib.hid hR
  clear hR
  go_enter Try.func49, Try.ntmps49
  go_wp2_with fail
  go_loopg [5] N (fun g1 v5 wr => ∃ k : Nat, v5 = .int .i64 k ∧ k ≤ N ∧ N - k ≤ g1 ∧ Hid (∀ i x, i < k → l[i]? = some x → ¬ x.toList = s.toList) ∧ Hid (wr = w))
  case atStart => exact ⟨0, by go_num, by omega, by omega, Lib.hid (fun i x hi => by omega), Lib.hid rfl⟩
  case round =>
    obtain ⟨k, rfl, hk, hg1, HA, HW⟩ := hrel
    have hw := HW.out
    subst hw
    by_cases hlt : k < N
    · have hltz : (k : Int) < (N : Int) := by omega
      obtain ⟨b, off, x, hbe, hbl, hx, hxc⟩ := rdOwn_at HR.out (k := k) (by rw [HN.out]; exact hlt)
      have HX := Lib.hid hx
      obtain ⟨z, hz⟩ : ∃ z, (x.toList == s.toList) = z := ⟨_, rfl⟩
      have HZ := Lib.hid hz
      subst hbe
      clear hx
      cases z
      · have HA2 : Hid (∀ i y, i < k + 1 → l[i]? = some y → ¬ y.toList = s.toList) := Lib.hid (fun i y hi hy => by
          by_cases e : i = k
          · subst e
            rw [HX.out] at hy
            injection hy with hy
            subst hy
            intro h
            have := HZ.out
            simp [h] at this
          · exact HA.out i y (by omega) hy)
        clear HA
        go_wp2_with fail
        go_roundg (N - (k + 1))
        case measure => omega
        case rel => exact ⟨k + 1, by go_num, by omega, by omega, HA2, Lib.hid rfl⟩
      · have HT : Hid (true = inTs l s) := Lib.hid (inTs_iff.2 ⟨x, List.mem_of_getElem? HX.out, by simpa using HZ.out⟩).symm
        clear HA
        go_wp2_with fail
        go_ret
        exact ⟨ret_bool HT.out, rfl⟩
    · have hltz : ¬ (k : Int) < (N : Int) := by omega
      have HT : Hid (false = inTs l s) := Lib.hid (by
        cases e : inTs l s
        · rfl
        · obtain ⟨x, hx, hxs⟩ := inTs_iff.1 e
          obtain ⟨i, hi⟩ := List.mem_iff_getElem?.1 hx
          exact absurd hxs (HA.out i x (by have := (List.getElem?_eq_some_iff.1 hi).1; rw [HN.out] at this; omega) hi))
      clear HA
      go_wp2_with fail
      go_ret
      exact ⟨ret_bool HT.out, rfl⟩
set_option maxRecDepth 100000 in
set_option maxHeartbeats 4000000 in
theorem r2In_any (A : Option Addr) (c N : Nat) (l : List ByteArray) (s : ByteArray) (w : World) (hR : Rd 1 encS w A l) (HN : Hid (l.length = N)) (hl : N ≤ 9223372036854775807) :
    Calls Try.prog 53 #[.slice A N c, .string s] w fun e w' => ∃ i : Int, e = .returned (.int .i64 i) ∧ (0 ≤ i ↔ inTs l s = true) ∧ w' = w := by
  have HR := Lib.hid hR
  clear hR
  go_enter Try.func53, Try.ntmps53
  go_wp2_with fail
  go_loopg [5] N (fun g1 v5 wr => ∃ k : Nat, v5 = .int .i64 k ∧ k ≤ N ∧ N - k ≤ g1 ∧ Hid (∀ i x, i < k → l[i]? = some x → ¬ x.toList = s.toList) ∧ Hid (wr = w))
  case atStart => exact ⟨0, by go_num, by omega, by omega, Lib.hid (fun i x hi => by omega), Lib.hid rfl⟩
  case round =>
    obtain ⟨k, rfl, hk, hg1, HA, HW⟩ := hrel
    have hw := HW.out
    subst hw
    by_cases hlt : k < N
    · have hltz : (k : Int) < (N : Int) := by omega
      obtain ⟨b, off, x, hbe, hbl, hx, hxc⟩ := rdOwn_at HR.out (k := k) (by rw [HN.out]; exact hlt)
      have HX := Lib.hid hx
      obtain ⟨z, hz⟩ : ∃ z, (x.toList == s.toList) = z := ⟨_, rfl⟩
      have HZ := Lib.hid hz
      subst hbe
      clear hx
      cases z
      · have HA2 : Hid (∀ i y, i < k + 1 → l[i]? = some y → ¬ y.toList = s.toList) := Lib.hid (fun i y hi hy => by
          by_cases e : i = k
          · subst e
            rw [HX.out] at hy
            injection hy with hy
            subst hy
            intro h
            have := HZ.out
            simp [h] at this
          · exact HA.out i y (by omega) hy)
        clear HA
        go_wp2_with fail
        go_roundg (N - (k + 1))
        case measure => omega
        case rel => exact ⟨k + 1, by go_num, by omega, by omega, HA2, Lib.hid rfl⟩
      · have HT : Hid (inTs l s = true) := Lib.hid (inTs_iff.2 ⟨x, List.mem_of_getElem? HX.out, by simpa using HZ.out⟩)
        clear HA
        go_wp2_with fail
        go_ret
        first | exact ⟨(k : Int), rfl, ⟨fun _ => HT.out, fun _ => by omega⟩, rfl⟩ | exact ⟨⟨fun _ => HT.out, fun _ => by omega⟩, rfl⟩
    · have hltz : ¬ (k : Int) < (N : Int) := by omega
      have HT : Hid (¬ inTs l s = true) := Lib.hid (fun e => by
        obtain ⟨x, hx, hxs⟩ := inTs_iff.1 e
        obtain ⟨i, hi⟩ := List.mem_iff_getElem?.1 hx
        exact absurd hxs (HA.out i x (by have := (List.getElem?_eq_some_iff.1 hi).1; rw [HN.out] at this; omega) hi))
      clear HA
      go_wp2_with fail
      go_ret
      first | exact ⟨-1, rfl, ⟨fun h => by omega, fun h => absurd h HT.out⟩, rfl⟩ | exact ⟨⟨fun h => by omega, fun h => absurd h HT.out⟩, rfl⟩
theorem rd_texts (w : World) (l : List ByteArray) : Rd 1 encS (w.alloc (.cells (l.map Value.string).toArray 9)) (some ⟨w.heap.size, 0, none⟩) l := by
  intro h0
  refine ⟨w.heap.size, 0, rfl, by simp, fun k x hx j v hv => ?_⟩
  have hj : j = 0 := by
    rcases j with _ | j
    · rfl
    · simp [encS] at hv
  subst hj
  simp [encS] at hv
  rw [World.cell?_alloc_new, ← hv]
  simp [hx]
def kindsT : List ByteArray := [⟨#[102, 101, 101, 100, 101, 114]⟩, ⟨#[99, 97, 98, 108, 101]⟩, ⟨#[111, 119, 110, 101, 114]⟩, ⟨#[99, 111, 110, 116, 114, 97, 99, 116]⟩, ⟨#[99, 104, 97, 114, 103, 101, 114]⟩, ⟨#[98, 97, 121]⟩, ⟨#[116, 97, 114, 105, 102, 102]⟩]
theorem kindsT_map : kindsT.map (·.toList) = kindL := by
  unfold kindsT kindL
  simp [ByteArray.toList_eq]
set_option maxRecDepth 100000 in
theorem r2Kinds_any (w : World) : Calls Try.prog 54 #[] w fun e w' => e = .returned (.slice (some ⟨w.heap.size, 0, none⟩) 7 7) ∧ w' = w.alloc (.cells (kindsT.map Value.string).toArray 9) := by
  go_enter Try.func54, Try.ntmps54
  go_wp2_with fail
  go_ret
  exact ⟨rfl, rfl⟩
def attrsT : List ByteArray := [⟨#[108, 105, 109, 105, 116]⟩, ⟨#[110, 101, 117, 116, 114, 97, 108]⟩, ⟨#[102, 117, 115, 101]⟩, ⟨#[116, 104, 101, 114, 109, 97, 108]⟩, ⟨#[102, 114, 111, 109]⟩, ⟨#[97, 116]⟩, ⟨#[112, 104, 97, 115, 101, 115]⟩, ⟨#[97, 109, 112, 115]⟩, ⟨#[102, 97, 108, 108, 98, 97, 99, 107]⟩, ⟨#[111, 119, 110, 101, 114]⟩, ⟨#[99, 97, 114, 100]⟩, ⟨#[114, 97, 110, 107]⟩, ⟨#[99, 104, 97, 114, 103, 101, 114]⟩]
theorem attrsT_map : attrsT.map (·.toList) = attrL := by
  unfold attrsT attrL
  simp [ByteArray.toList_eq]
set_option maxRecDepth 100000 in
theorem r2Attrs_any (w : World) : Calls Try.prog 55 #[] w fun e w' => e = .returned (.slice (some ⟨w.heap.size, 0, none⟩) 13 13) ∧ w' = w.alloc (.cells (attrsT.map Value.string).toArray 9) := by
  go_enter Try.func55, Try.ntmps55
  go_wp2_with fail
  go_ret
  exact ⟨rfl, rfl⟩
def articlesT : List ByteArray := [⟨#[115, 116, 97, 114, 116]⟩, ⟨#[101, 110, 101, 114, 103, 121]⟩, ⟨#[116, 105, 109, 101]⟩, ⟨#[105, 100, 108, 101]⟩, ⟨#[99, 97, 112]⟩, ⟨#[116, 97, 120]⟩]
theorem articlesT_map : articlesT.map (·.toList) = artL := by
  unfold articlesT artL
  simp [ByteArray.toList_eq]
set_option maxRecDepth 100000 in
theorem r2Articles_any (w : World) : Calls Try.prog 56 #[] w fun e w' => e = .returned (.slice (some ⟨w.heap.size, 0, none⟩) 6 6) ∧ w' = w.alloc (.cells (articlesT.map Value.string).toArray 9) := by
  go_enter Try.func56, Try.ntmps56
  go_wp2_with fail
  go_ret
  exact ⟨rfl, rfl⟩
def wordsT : List ByteArray := [⟨#[111, 110]⟩, ⟨#[119, 111, 114, 107]⟩, ⟨#[115, 97, 116, 117, 114, 100, 97, 121]⟩, ⟨#[115, 117, 110, 100, 97, 121]⟩, ⟨#[98, 101, 116, 119, 101, 101, 110]⟩, ⟨#[112, 101, 114]⟩, ⟨#[102, 114, 101, 101]⟩]
theorem wordsT_map : wordsT.map (·.toList) = wordL := by
  unfold wordsT wordL
  simp [ByteArray.toList_eq]
set_option maxRecDepth 100000 in
theorem r2Words_any (w : World) : Calls Try.prog 57 #[] w fun e w' => e = .returned (.slice (some ⟨w.heap.size, 0, none⟩) 7 7) ∧ w' = w.alloc (.cells (wordsT.map Value.string).toArray 9) := by
  go_enter Try.func57, Try.ntmps57
  go_wp2_with fail
  go_ret
  exact ⟨rfl, rfl⟩
theorem mem_keyL {s : ByteArray} : s.toList ∈ keyL ↔ (inTs kindsT s = true ∨ inTs attrsT s = true ∨ inTs articlesT s = true ∨ inTs wordsT s = true) := by
  unfold inTs
  rw [kindsT_map, attrsT_map, articlesT_map, wordsT_map, inB_iff, inB_iff, inB_iff, inB_iff]
  unfold keyL
  simp only [List.mem_append, or_assoc]
set_option maxRecDepth 100000 in
set_option maxHeartbeats 8000000 in
theorem r2Name_any (s : ByteArray) (w : World) (hs : s.size ≤ 9223372036854775807) : Calls Try.prog 48 #[.string s] w fun e w' => e = .returned (.bool (okNameB keyL s)) ∧ Below w.heap.size w w' := by
  obtain ⟨n, hn⟩ : ∃ n, s.size = n := ⟨_, rfl⟩
  have HN := Lib.hid hn
  rw [hn] at hs
  go_enter Try.func48, Try.ntmps48
  go_wp2_with fail
  go_loopg [3, 4] n (fun g1 v3 v4 wr => ∃ k : Nat, v3 = .int .i64 k ∧ k ≤ n ∧ n - k ≤ g1 ∧ Hid (∀ i, i < k → (i = 0 → lowN (byteAt s i)) ∧ (0 < i → partN (byteAt s i))) ∧ Hid (wr = w))
  case atStart => exact ⟨0, by go_num, by omega, by omega, Lib.hid (fun i hi => by omega), Lib.hid rfl⟩
  case round =>
    obtain ⟨k, rfl, hk, hg1, HA, HW⟩ := hrel
    have hw := HW.out
    subst hw
    by_cases hlt : k < n
    · have hltz : (k : Int) < (n : Int) := by omega
      have hik := idx_str (P := Try.prog) (t := 9) Try.underlying9 (s := s) (k := k) (by omega)
      obtain ⟨x, hx⟩ : ∃ x, byteAt s k = x := ⟨_, rfl⟩
      rw [hx] at hik
      have HX := Lib.hid hx
      clear hx
      have HGO : Hid ((97 ≤ x ∧ x ≤ 122) ∨ (¬ (97 ≤ x ∧ x ≤ 122) ∧ 0 < k ∧ 48 ≤ x ∧ x ≤ 57) ∨ (0 < k ∧ x = 95) ∨ (¬ (97 ≤ x ∧ x ≤ 122) ∧ (k = 0 ∨ ¬ partN x))) := Lib.hid (by unfold partN; omega)
      have HNEXT : Hid (((97 ≤ x ∧ x ≤ 122) ∨ (0 < k ∧ partN x)) → ∀ i, i < k + 1 → (i = 0 → lowN (byteAt s i)) ∧ (0 < i → partN (byteAt s i))) := Lib.hid (fun h i hi => by
        by_cases e : i = k
        · subst e
          rw [HX.out]
          unfold lowN
          unfold partN at h ⊢
          omega
        · exact HA.out i (by omega))
      have HBAD : Hid (¬ (97 ≤ x ∧ x ≤ 122) → (k = 0 ∨ ¬ partN x) → false = okNameB keyL s) := Lib.hid (fun h1 h2 => (okNameB_no (fun h => by
        have h3 := h.1
        unfold okWord at h3
        obtain ⟨_, _, h4, h5⟩ := h3
        rcases h2 with h2 | h2
        · subst h2; rw [HX.out] at h4; exact h1 h4
        · by_cases e : k = 0
          · subst e; rw [HX.out] at h4; exact h1 h4
          · have := h5 k (by omega) (by rw [HN.out]; exact hlt)
            rw [HX.out] at this
            exact h2 this)).symm)
      have HL0 : Hid (wr = wr) := Lib.hid rfl
      clear HA
      rcases HGO.out with ⟨a1, a2⟩ | ⟨a0, a1, a2, a3⟩ | ⟨a1, a2⟩ | ⟨a1, a2⟩
      · have HA2 := Lib.hid (HNEXT.out (.inl ⟨a1, a2⟩))
        have y1 : ¬ (x : Int) < 97 := by omega
        have y2 : ¬ (122 : Int) < (x : Int) := by omega
        clear HGO HNEXT HBAD
        go_wp2_with fail
        go_roundg (n - (k + 1))
        case measure => omega
        case rel => exact ⟨k + 1, by go_num, by omega, by omega, HA2, Lib.hid rfl⟩
      · have HA2 := Lib.hid (HNEXT.out (.inr ⟨a1, .inr (.inl ⟨a2, a3⟩)⟩))
        have y1 : (x : Int) < 97 := by omega
        have y3 : ¬ (x : Int) < 48 := by omega
        have y4 : ¬ (57 : Int) < (x : Int) := by omega
        have y5 : ((k : Int) == 0) = false := by simp; omega
        clear HGO HNEXT HBAD a0
        go_wp2_with fail
        go_roundg (n - (k + 1))
        case measure => omega
        case rel => exact ⟨k + 1, by go_num, by omega, by omega, HA2, Lib.hid rfl⟩
      · have HA2 := Lib.hid (HNEXT.out (.inr ⟨a1, .inr (.inr a2)⟩))
        have y5 : ((k : Int) == 0) = false := by simp; omega
        subst a2
        clear HGO HNEXT HBAD
        go_wp2_with fail
        go_roundg (n - (k + 1))
        case measure => omega
        case rel => exact ⟨k + 1, by go_num, by omega, by omega, HA2, Lib.hid rfl⟩
      · have HF := Lib.hid (HBAD.out a1 a2)
        have HC : Hid (x < 97 ∨ 122 < x) := Lib.hid (by omega)
        have HD : Hid (k = 0 ∨ (¬ k = 0 ∧ (x < 48 ∨ 57 < x) ∧ x ≠ 95)) := Lib.hid (by unfold partN at a2; omega)
        clear HGO HNEXT HBAD a1 a2
        rcases HD.out with hk0 | ⟨hk0, hd1, hd2⟩
        · have y5 : ((k : Int) == 0) = true := by simp [hk0]
          clear hk0 HD
          rcases HC.out with hc | hc
          · have y1 : (x : Int) < 97 := by omega
            go_wp2_with fail
            go_ret
            exact ⟨ret_bool HF.out, Below.refl _ _⟩
          · have y1 : ¬ (x : Int) < 97 := by omega
            have y2 : (122 : Int) < (x : Int) := by omega
            go_wp2_with fail
            go_ret
            exact ⟨ret_bool HF.out, Below.refl _ _⟩
        · have y5 : ((k : Int) == 0) = false := by simp; omega
          have y6 : ((x : Int) != 95) = true := by simp; omega
          clear HD
          rcases HC.out with hc | hc
          · have y1 : (x : Int) < 97 := by omega
            rcases hd1 with hd1 | hd1
            · have y3 : (x : Int) < 48 := by omega
              go_wp2_with fail
              go_ret
              exact ⟨ret_bool HF.out, Below.refl _ _⟩
            · have y3 : ¬ (x : Int) < 48 := by omega
              have y4 : (57 : Int) < (x : Int) := by omega
              go_wp2_with fail
              go_ret
              exact ⟨ret_bool HF.out, Below.refl _ _⟩
          · have y1 : ¬ (x : Int) < 97 := by omega
            have y2 : (122 : Int) < (x : Int) := by omega
            have y3 : ¬ (x : Int) < 48 := by omega
            have y4 : (57 : Int) < (x : Int) := by omega
            go_wp2_with fail
            go_ret
            exact ⟨ret_bool HF.out, Below.refl _ _⟩
    · have hltz : ¬ (k : Int) < (n : Int) := by omega
      have hkn : k = n := by omega
      have HOK : Hid (okNameB keyL s = (decide (1 ≤ n) && (decide (n ≤ 12) && !(inTs kindsT s || (inTs attrsT s || (inTs articlesT s || inTs wordsT s)))))) := Lib.hid (by
        rw [Bool.eq_iff_iff, okNameB_iff]
        simp only [Bool.and_eq_true, decide_eq_true_eq, Bool.not_eq_true', Bool.or_eq_false_iff]
        constructor
        · rintro ⟨h1, h2⟩
          have hz : ∀ b : Bool, ¬ b = true → b = false := fun b h => by cases b <;> simp_all
          exact ⟨by rw [← hn]; exact h1.1, by rw [← hn]; exact h1.2.1, hz _ (fun h => h2 (mem_keyL.2 (.inl h))), hz _ (fun h => h2 (mem_keyL.2 (.inr (.inl h)))), hz _ (fun h => h2 (mem_keyL.2 (.inr (.inr (.inl h))))), hz _ (fun h => h2 (mem_keyL.2 (.inr (.inr (.inr h)))))⟩
        · rintro ⟨h1, h2, h3, h4, h5, h6⟩
          refine ⟨⟨by rw [hn]; exact h1, by rw [hn]; exact h2, (HA.out 0 (by omega)).1 rfl, fun i h0 hi => (HA.out i (by rw [hn] at hi; omega)).2 h0⟩, fun hm => ?_⟩
          rcases mem_keyL.1 hm with h | h | h | h
          · rw [h3] at h; cases h
          · rw [h4] at h; cases h
          · rw [h5] at h; cases h
          · rw [h6] at h; cases h)
      clear HA hk hg1 hlt hkn
      have HN1 : Hid (1 ≤ n ↔ ¬ (n : Int) < 1) := Lib.hid (by omega)
      obtain ⟨z1, hz1⟩ : ∃ z, decide (1 ≤ (n : Int)) = z := ⟨_, rfl⟩
      obtain ⟨z2, hz2⟩ : ∃ z, decide ((n : Int) ≤ 12) = z := ⟨_, rfl⟩
      have HZ : Hid (decide (1 ≤ n) = z1 ∧ decide (n ≤ 12) = z2) := Lib.hid ⟨by rw [← hz1]; congr 1; simp; omega, by rw [← hz2]; congr 1; simp; omega⟩
      have HB0 : Hid (Below wr.heap.size wr wr) := Lib.hid (Below.refl _ _)
      obtain ⟨A0, hA0⟩ : ∃ A, A = wr.heap.size := ⟨_, rfl⟩
      have HS0 : Hid (A0 ≤ wr.heap.size) := Lib.hid (by rw [hA0]; exact Nat.le_refl _)
      rw [← hA0] at HB0
      have HA0 := Lib.hid hA0
      clear hA0
      have HC1 := Lib.hid (r2Kinds_any wr)
      go_wp2_with fail
      refine HC1.out.mono ?_
      rintro e w1 ⟨rfl, hw1⟩
      have HI1 := Lib.hid (r2In_any (some ⟨wr.heap.size, 0, none⟩) 7 7 kindsT s w1 (by rw [hw1]; exact rd_texts _ _) (Lib.hid rfl) (by omega))
      have HB1 : Hid (Below A0 wr w1) := Lib.hid (by rw [hw1]; exact HB0.out.alloc HS0.out _)
      have HS1 : Hid (A0 ≤ w1.heap.size) := Lib.hid (by rw [hw1, World.size_alloc]; exact Nat.le_succ_of_le HS0.out)
      clear hw1 HC1
      go_wp2_with fail
      refine HI1.out.mono ?_
      rintro e v1 ⟨i1, rfl, hi1, hv1⟩
      subst hv1
      obtain ⟨t1, ht1⟩ : ∃ z, inTs kindsT s = z := ⟨_, rfl⟩
      have HT1 := Lib.hid ht1
      rw [ht1] at hi1
      have HIK1 := Lib.hid hi1
      clear hi1 ht1 HI1
      cases t1
      case' true =>
        have y1 : 0 ≤ i1 := HIK1.out.2 rfl
      case' false =>
        have y1 : ¬ 0 ≤ i1 := fun h => by cases HIK1.out.1 h
      case true =>
        have HF : Hid (false = okNameB keyL s) := Lib.hid (by rw [HOK.out, HT1.out]; simp)
        cases z1 <;> cases z2 <;> go_wp2 <;> go_ret <;> exact ⟨ret_bool HF.out, by rw [← HA0.out]; exact HB1.out⟩
      case false =>
        have HC2 := Lib.hid (r2Attrs_any v1)
        go_wp2_with fail
        refine HC2.out.mono ?_
        rintro e w2 ⟨rfl, hw2⟩
        have HI2 := Lib.hid (r2In_any (some ⟨v1.heap.size, 0, none⟩) 13 13 attrsT s w2 (by rw [hw2]; exact rd_texts _ _) (Lib.hid rfl) (by omega))
        have HB2 : Hid (Below A0 wr w2) := Lib.hid (by rw [hw2]; exact HB1.out.alloc HS1.out _)
        have HS2 : Hid (A0 ≤ w2.heap.size) := Lib.hid (by rw [hw2, World.size_alloc]; exact Nat.le_succ_of_le HS1.out)
        clear hw2 HC2
        go_wp2_with fail
        refine HI2.out.mono ?_
        rintro e v2 ⟨i2, rfl, hi2, hv2⟩
        subst hv2
        obtain ⟨t2, ht2⟩ : ∃ z, inTs attrsT s = z := ⟨_, rfl⟩
        have HT2 := Lib.hid ht2
        rw [ht2] at hi2
        have HIK2 := Lib.hid hi2
        clear hi2 ht2 HI2
        cases t2
        case' true =>
          have y2 : 0 ≤ i2 := HIK2.out.2 rfl
        case' false =>
          have y2 : ¬ 0 ≤ i2 := fun h => by cases HIK2.out.1 h
        case true =>
          have HF : Hid (false = okNameB keyL s) := Lib.hid (by rw [HOK.out, HT1.out, HT2.out]; simp)
          cases z1 <;> cases z2 <;> go_wp2 <;> go_ret <;> exact ⟨ret_bool HF.out, by rw [← HA0.out]; exact HB2.out⟩
        case false =>
          have HC3 := Lib.hid (r2Articles_any v2)
          go_wp2_with fail
          refine HC3.out.mono ?_
          rintro e w3 ⟨rfl, hw3⟩
          have HI3 := Lib.hid (r2In_any (some ⟨v2.heap.size, 0, none⟩) 6 6 articlesT s w3 (by rw [hw3]; exact rd_texts _ _) (Lib.hid rfl) (by omega))
          have HB3 : Hid (Below A0 wr w3) := Lib.hid (by rw [hw3]; exact HB2.out.alloc HS2.out _)
          have HS3 : Hid (A0 ≤ w3.heap.size) := Lib.hid (by rw [hw3, World.size_alloc]; exact Nat.le_succ_of_le HS2.out)
          clear hw3 HC3
          go_wp2_with fail
          refine HI3.out.mono ?_
          rintro e v3 ⟨i3, rfl, hi3, hv3⟩
          subst hv3
          obtain ⟨t3, ht3⟩ : ∃ z, inTs articlesT s = z := ⟨_, rfl⟩
          have HT3 := Lib.hid ht3
          rw [ht3] at hi3
          have HIK3 := Lib.hid hi3
          clear hi3 ht3 HI3
          cases t3
          case' true =>
            have y3 : 0 ≤ i3 := HIK3.out.2 rfl
          case' false =>
            have y3 : ¬ 0 ≤ i3 := fun h => by cases HIK3.out.1 h
          case true =>
            have HF : Hid (false = okNameB keyL s) := Lib.hid (by rw [HOK.out, HT1.out, HT2.out, HT3.out]; simp)
            cases z1 <;> cases z2 <;> go_wp2 <;> go_ret <;> exact ⟨ret_bool HF.out, by rw [← HA0.out]; exact HB3.out⟩
          case false =>
            have HC4 := Lib.hid (r2Words_any v3)
            go_wp2_with fail
            refine HC4.out.mono ?_
            rintro e w4 ⟨rfl, hw4⟩
            have HI4 := Lib.hid (r2In_any (some ⟨v3.heap.size, 0, none⟩) 7 7 wordsT s w4 (by rw [hw4]; exact rd_texts _ _) (Lib.hid rfl) (by omega))
            have HB4 : Hid (Below A0 wr w4) := Lib.hid (by rw [hw4]; exact HB3.out.alloc HS3.out _)
            have HS4 : Hid (A0 ≤ w4.heap.size) := Lib.hid (by rw [hw4, World.size_alloc]; exact Nat.le_succ_of_le HS3.out)
            clear hw4 HC4
            go_wp2_with fail
            refine HI4.out.mono ?_
            rintro e v4 ⟨i4, rfl, hi4, hv4⟩
            subst hv4
            obtain ⟨t4, ht4⟩ : ∃ z, inTs wordsT s = z := ⟨_, rfl⟩
            have HT4 := Lib.hid ht4
            rw [ht4] at hi4
            have HIK4 := Lib.hid hi4
            clear hi4 ht4 HI4
            cases t4
            case' true =>
              have y4 : 0 ≤ i4 := HIK4.out.2 rfl
            case' false =>
              have y4 : ¬ 0 ≤ i4 := fun h => by cases HIK4.out.1 h
            case true =>
              have HF : Hid (false = okNameB keyL s) := Lib.hid (by rw [HOK.out, HT1.out, HT2.out, HT3.out, HT4.out]; simp)
              cases z1 <;> cases z2 <;> go_wp2 <;> go_ret <;> exact ⟨ret_bool HF.out, by rw [← HA0.out]; exact HB4.out⟩
            case false =>
              have HF : Hid (okNameB keyL s = (z1 && z2)) := Lib.hid (by rw [HOK.out, HT1.out, HT2.out, HT3.out, HT4.out, HZ.out.1, HZ.out.2]; simp)
              have HY : Hid (i1 < 0 ∧ i2 < 0 ∧ i3 < 0 ∧ i4 < 0) := Lib.hid ⟨by omega, by omega, by omega, by omega⟩
              cases z1 <;> cases z2 <;> go_wp2 <;> go_ret <;> first | exact ⟨ret_bool HF.out.symm, by rw [← HA0.out]; exact HB4.out⟩ | exact ⟨ret_bool (by rw [HF.out]; have := HY.out; simp; omega), by rw [← HA0.out]; exact HB4.out⟩
end Go.Proofs.Ytjlfnhfiiailgaa
