/-
Several texts in one: SiteF, SiteG0, SiteG.
-/
import Derived.Test.YtpkonifeieepfaaGreatGLSiteV
import Derived.Test.YtpkonifeieepfaaGreatGLSiteR
import Derived.Test.YtpkonifeieepfaaGreatGBase
/-
The reference's names; walked.
-/
namespace Go.Proofs.YtpkonifeieepfaaGreat
open Go.RowKit
set_option linter.unusedVariables false
set_option linter.unusedSimpArgs false
set_option maxRecDepth 100000 in
theorem r4Inside_any (n a b : Int) (w : World) : Calls Tryz.prog 30 #[.int .i64 n, .int .i64 a, .int .i64 b] w fun e w' => e = .returned (.bool (inside n a b)) ∧ w' = w := by
  by_cases h : a ≤ n
  · by_cases h2 : n ≤ b
    · have HF : Hid (inside n a b = true) := Lib.hid (inside_iff.2 ⟨h, h2⟩)
      go_enter Tryz.func30, Tryz.ntmps30
      go_wp2_with fail
      go_ret
      exact ⟨ret_bool HF.out.symm, rfl⟩
    · have HF : Hid (inside n a b = false) := Lib.hid (by cases e : inside n a b; rfl; exact absurd (inside_iff.1 e).2 h2)
      have h3 : ¬ n ≤ b := h2
      go_enter Tryz.func30, Tryz.ntmps30
      go_wp2_with fail
      go_ret
      exact ⟨ret_bool HF.out.symm, rfl⟩
  · have HF : Hid (inside n a b = false) := Lib.hid (by cases e : inside n a b; rfl; exact absurd (inside_iff.1 e).1 h)
    go_enter Tryz.func30, Tryz.ntmps30
    go_wp2_with fail
    go_ret
    exact ⟨ret_bool HF.out.symm, rfl⟩
/-- A text in a list of texts. -/
noncomputable def inTs (l : List ByteArray) (s : ByteArray) : Bool := inB (l.map (·.toList)) s
theorem inTs_iff {l : List ByteArray} {s : ByteArray} : inTs l s = true ↔ ∃ x, x ∈ l ∧ x.toList = s.toList := by
  unfold inTs
  rw [inB_iff, List.mem_map]
set_option maxRecDepth 100000 in
set_option maxHeartbeats 4000000 in
theorem r4Has_any (A : Option Addr) (c N : Nat) (l : List ByteArray) (s : ByteArray) (w : World) (hR : Rd 1 encS w A l) (HN : Hid (l.length = N)) (hl : N ≤ 9223372036854775807) :
    Calls Tryz.prog 78 #[.slice A N c, .string s] w fun e w' => e = .returned (.bool (inTs l s)) ∧ w' = w := by
  have HR := Lib.hid hR
  clear hR
  go_enter Tryz.func78, Tryz.ntmps78
  go_wp2_with fail
  go_loopg [5] N (fun g1 v5 wr => ∃ k : Nat, v5 = .int .i64 k ∧ k ≤ N ∧ N - k ≤ g1 ∧ Hid (∀ i x, i < k → l[i]? = some x → ¬ x.toList = s.toList) ∧ Hid (wr = w))
  case atStart => exact ⟨0, by go_num, by omega, by omega, Lib.hid (fun i x hi => by omega), Lib.hid rfl⟩
  case round =>
    obtain ⟨k, rfl, hk, hg1, HA, HW⟩ := hrel
    have hw := HW.out
    subst hw
    by_cases hlt : k < N
    · have hltz : (k : Int) < (N : Int) := by omega
      obtain ⟨b, off, x, hbe, hbl, hx, hxc⟩ := rdOwn_at HR.out (k := k) (by rw [HN.out]; exact hlt)
      have HX := Lib.hid hx
      obtain ⟨z, hz⟩ : ∃ z, (x.toList == s.toList) = z := ⟨_, rfl⟩
      have HZ := Lib.hid hz
      subst hbe
      clear hx
      cases z
      · have HA2 : Hid (∀ i y, i < k + 1 → l[i]? = some y → ¬ y.toList = s.toList) := Lib.hid (fun i y hi hy => by
          by_cases e : i = k
          · subst e
            rw [HX.out] at hy
            injection hy with hy
            subst hy
            intro h
            have := HZ.out
            simp [h] at this
          · exact HA.out i y (by omega) hy)
        clear HA
        go_wp2_with fail
        go_roundg (N - (k + 1))
        case measure => omega
        case rel => exact ⟨k + 1, by go_num, by omega, by omega, HA2, Lib.hid rfl⟩
      · have HT : Hid (true = inTs l s) := Lib.hid (inTs_iff.2 ⟨x, List.mem_of_getElem? HX.out, by simpa using HZ.out⟩).symm
        clear HA
        go_wp2_with fail
        go_ret
        exact ⟨ret_bool HT.out, rfl⟩
    · have hltz : ¬ (k : Int) < (N : Int) := by omega
      have HT : Hid (false = inTs l s) := Lib.hid (by
        cases e : inTs l s
        · rfl
        · obtain ⟨x, hx, hxs⟩ := inTs_iff.1 e
          obtain ⟨i, hi⟩ := List.mem_iff_getElem?.1 hx
          exact absurd hxs (HA.out i x (by have := (List.getElem?_eq_some_iff.1 hi).1; rw [HN.out] at this; omega) hi))
      clear HA
      go_wp2_with fail
      go_ret
      exact ⟨ret_bool HT.out, rfl⟩
set_option maxRecDepth 100000 in
set_option maxHeartbeats 4000000 in
theorem r2In_any (A : Option Addr) (c N : Nat) (l : List ByteArray) (s : ByteArray) (w : World) (hR : Rd 1 encS w A l) (HN : Hid (l.length = N)) (hl : N ≤ 9223372036854775807) :
    Calls Tryz.prog 120 #[.slice A N c, .string s] w fun e w' => ∃ i : Int, e = .returned (.int .i64 i) ∧ (0 ≤ i ↔ inTs l s = true) ∧ w' = w := by
  have HR := Lib.hid hR
  clear hR
  go_enter Tryz.func120, Tryz.ntmps120
  go_wp2_with fail
  go_loopg [5] N (fun g1 v5 wr => ∃ k : Nat, v5 = .int .i64 k ∧ k ≤ N ∧ N - k ≤ g1 ∧ Hid (∀ i x, i < k → l[i]? = some x → ¬ x.toList = s.toList) ∧ Hid (wr = w))
  case atStart => exact ⟨0, by go_num, by omega, by omega, Lib.hid (fun i x hi => by omega), Lib.hid rfl⟩
  case round =>
    obtain ⟨k, rfl, hk, hg1, HA, HW⟩ := hrel
    have hw := HW.out
    subst hw
    by_cases hlt : k < N
    · have hltz : (k : Int) < (N : Int) := by omega
      obtain ⟨b, off, x, hbe, hbl, hx, hxc⟩ := rdOwn_at HR.out (k := k) (by rw [HN.out]; exact hlt)
      have HX := Lib.hid hx
      obtain ⟨z, hz⟩ : ∃ z, (x.toList == s.toList) = z := ⟨_, rfl⟩
      have HZ := Lib.hid hz
      subst hbe
      clear hx
      cases z
      · have HA2 : Hid (∀ i y, i < k + 1 → l[i]? = some y → ¬ y.toList = s.toList) := Lib.hid (fun i y hi hy => by
          by_cases e : i = k
          · subst e
            rw [HX.out] at hy
            injection hy with hy
            subst hy
            intro h
            have := HZ.out
            simp [h] at this
          · exact HA.out i y (by omega) hy)
        clear HA
        go_wp2_with fail
        go_roundg (N - (k + 1))
        case measure => omega
        case rel => exact ⟨k + 1, by go_num, by omega, by omega, HA2, Lib.hid rfl⟩
      · have HT : Hid (inTs l s = true) := Lib.hid (inTs_iff.2 ⟨x, List.mem_of_getElem? HX.out, by simpa using HZ.out⟩)
        clear HA
        go_wp2_with fail
        go_ret
        first | exact ⟨(k : Int), rfl, ⟨fun _ => HT.out, fun _ => by omega⟩, rfl⟩ | exact ⟨⟨fun _ => HT.out, fun _ => by omega⟩, rfl⟩
    · have hltz : ¬ (k : Int) < (N : Int) := by omega
      have HT : Hid (¬ inTs l s = true) := Lib.hid (fun e => by
        obtain ⟨x, hx, hxs⟩ := inTs_iff.1 e
        obtain ⟨i, hi⟩ := List.mem_iff_getElem?.1 hx
        exact absurd hxs (HA.out i x (by have := (List.getElem?_eq_some_iff.1 hi).1; rw [HN.out] at this; omega) hi))
      clear HA
      go_wp2_with fail
      go_ret
      first | exact ⟨-1, rfl, ⟨fun h => by omega, fun h => absurd h HT.out⟩, rfl⟩ | exact ⟨⟨fun h => by omega, fun h => absurd h HT.out⟩, rfl⟩
theorem rd_texts (w : World) (l : List ByteArray) : Rd 1 encS (w.alloc (.cells (l.map Value.string).toArray 9)) (some ⟨w.heap.size, 0, none⟩) l := by
  intro h0
  refine ⟨w.heap.size, 0, rfl, by simp, fun k x hx j v hv => ?_⟩
  have hj : j = 0 := by
    rcases j with _ | j
    · rfl
    · simp [encS] at hv
  subst hj
  simp [encS] at hv
  rw [World.cell?_alloc_new, ← hv]
  simp [hx]
def kindsT : List ByteArray := [⟨#[102, 101, 101, 100, 101, 114]⟩, ⟨#[99, 97, 98, 108, 101]⟩, ⟨#[111, 119, 110, 101, 114]⟩, ⟨#[99, 111, 110, 116, 114, 97, 99, 116]⟩, ⟨#[99, 104, 97, 114, 103, 101, 114]⟩, ⟨#[98, 97, 121]⟩, ⟨#[116, 97, 114, 105, 102, 102]⟩]
theorem kindsT_map : kindsT.map (·.toList) = kindL := by
  unfold kindsT kindL
  simp [ByteArray.toList_eq]
set_option maxRecDepth 100000 in
theorem r2Kinds_any (w : World) : Calls Tryz.prog 121 #[] w fun e w' => e = .returned (.slice (some ⟨w.heap.size, 0, none⟩) 7 7) ∧ w' = w.alloc (.cells (kindsT.map Value.string).toArray 9) := by
  go_enter Tryz.func121, Tryz.ntmps121
  go_wp2_with fail
  go_ret
  exact ⟨rfl, rfl⟩
def attrsT : List ByteArray := [⟨#[108, 105, 109, 105, 116]⟩, ⟨#[110, 101, 117, 116, 114, 97, 108]⟩, ⟨#[102, 117, 115, 101]⟩, ⟨#[116, 104, 101, 114, 109, 97, 108]⟩, ⟨#[102, 114, 111, 109]⟩, ⟨#[97, 116]⟩, ⟨#[112, 104, 97, 115, 101, 115]⟩, ⟨#[97, 109, 112, 115]⟩, ⟨#[102, 97, 108, 108, 98, 97, 99, 107]⟩, ⟨#[111, 119, 110, 101, 114]⟩, ⟨#[99, 97, 114, 100]⟩, ⟨#[114, 97, 110, 107]⟩, ⟨#[99, 104, 97, 114, 103, 101, 114]⟩]
theorem attrsT_map : attrsT.map (·.toList) = attrL := by
  unfold attrsT attrL
  simp [ByteArray.toList_eq]
set_option maxRecDepth 100000 in
theorem r2Attrs_any (w : World) : Calls Tryz.prog 122 #[] w fun e w' => e = .returned (.slice (some ⟨w.heap.size, 0, none⟩) 13 13) ∧ w' = w.alloc (.cells (attrsT.map Value.string).toArray 9) := by
  go_enter Tryz.func122, Tryz.ntmps122
  go_wp2_with fail
  go_ret
  exact ⟨rfl, rfl⟩
def articlesT : List ByteArray := [⟨#[115, 116, 97, 114, 116]⟩, ⟨#[101, 110, 101, 114, 103, 121]⟩, ⟨#[116, 105, 109, 101]⟩, ⟨#[105, 100, 108, 101]⟩, ⟨#[99, 97, 112]⟩, ⟨#[116, 97, 120]⟩]
theorem articlesT_map : articlesT.map (·.toList) = artL := by
  unfold articlesT artL
  simp [ByteArray.toList_eq]
set_option maxRecDepth 100000 in
theorem r2Articles_any (w : World) : Calls Tryz.prog 123 #[] w fun e w' => e = .returned (.slice (some ⟨w.heap.size, 0, none⟩) 6 6) ∧ w' = w.alloc (.cells (articlesT.map Value.string).toArray 9) := by
  go_enter Tryz.func123, Tryz.ntmps123
  go_wp2_with fail
  go_ret
  exact ⟨rfl, rfl⟩
def wordsT : List ByteArray := [⟨#[111, 110]⟩, ⟨#[119, 111, 114, 107]⟩, ⟨#[115, 97, 116, 117, 114, 100, 97, 121]⟩, ⟨#[115, 117, 110, 100, 97, 121]⟩, ⟨#[98, 101, 116, 119, 101, 101, 110]⟩, ⟨#[112, 101, 114]⟩, ⟨#[102, 114, 101, 101]⟩]
theorem wordsT_map : wordsT.map (·.toList) = wordL := by
  unfold wordsT wordL
  simp [ByteArray.toList_eq]
set_option maxRecDepth 100000 in
theorem r2Words_any (w : World) : Calls Tryz.prog 124 #[] w fun e w' => e = .returned (.slice (some ⟨w.heap.size, 0, none⟩) 7 7) ∧ w' = w.alloc (.cells (wordsT.map Value.string).toArray 9) := by
  go_enter Tryz.func124, Tryz.ntmps124
  go_wp2_with fail
  go_ret
  exact ⟨rfl, rfl⟩
theorem mem_keyL {s : ByteArray} : s.toList ∈ keyL ↔ (inTs kindsT s = true ∨ inTs attrsT s = true ∨ inTs articlesT s = true ∨ inTs wordsT s = true) := by
  unfold inTs
  rw [kindsT_map, attrsT_map, articlesT_map, wordsT_map, inB_iff, inB_iff, inB_iff, inB_iff]
  unfold keyL
  simp only [List.mem_append, or_assoc]
set_option maxRecDepth 100000 in
set_option maxHeartbeats 8000000 in
theorem r2Name_any (s : ByteArray) (w : World) (hs : s.size ≤ 9223372036854775807) : Calls Tryz.prog 77 #[.string s] w fun e w' => e = .returned (.bool (okNameB keyL s)) ∧ Below w.heap.size w w' := by
  obtain ⟨n, hn⟩ : ∃ n, s.size = n := ⟨_, rfl⟩
  have HN := Lib.hid hn
  rw [hn] at hs
  go_enter Tryz.func77, Tryz.ntmps77
  go_wp2_with fail
  go_loopg [3, 4] n (fun g1 v3 v4 wr => ∃ k : Nat, v3 = .int .i64 k ∧ k ≤ n ∧ n - k ≤ g1 ∧ Hid (∀ i, i < k → (i = 0 → lowN (byteAt s i)) ∧ (0 < i → partN (byteAt s i))) ∧ Hid (wr = w))
  case atStart => exact ⟨0, by go_num, by omega, by omega, Lib.hid (fun i hi => by omega), Lib.hid rfl⟩
  case round =>
    obtain ⟨k, rfl, hk, hg1, HA, HW⟩ := hrel
    have hw := HW.out
    subst hw
    by_cases hlt : k < n
    · have hltz : (k : Int) < (n : Int) := by omega
      have hik := idx_str (P := Tryz.prog) (t := 9) Tryz.underlying9 (s := s) (k := k) (by omega)
      obtain ⟨x, hx⟩ : ∃ x, byteAt s k = x := ⟨_, rfl⟩
      rw [hx] at hik
      have HX := Lib.hid hx
      clear hx
      have HGO : Hid ((97 ≤ x ∧ x ≤ 122) ∨ (¬ (97 ≤ x ∧ x ≤ 122) ∧ 0 < k ∧ 48 ≤ x ∧ x ≤ 57) ∨ (0 < k ∧ x = 95) ∨ (¬ (97 ≤ x ∧ x ≤ 122) ∧ (k = 0 ∨ ¬ partN x))) := Lib.hid (by unfold partN; omega)
      have HNEXT : Hid (((97 ≤ x ∧ x ≤ 122) ∨ (0 < k ∧ partN x)) → ∀ i, i < k + 1 → (i = 0 → lowN (byteAt s i)) ∧ (0 < i → partN (byteAt s i))) := Lib.hid (fun h i hi => by
        by_cases e : i = k
        · subst e
          rw [HX.out]
          unfold lowN
          unfold partN at h ⊢
          omega
        · exact HA.out i (by omega))
      have HBAD : Hid (¬ (97 ≤ x ∧ x ≤ 122) → (k = 0 ∨ ¬ partN x) → false = okNameB keyL s) := Lib.hid (fun h1 h2 => (okNameB_no (fun h => by
        have h3 := h.1
        unfold okWord at h3
        obtain ⟨_, _, h4, h5⟩ := h3
        rcases h2 with h2 | h2
        · subst h2; rw [HX.out] at h4; exact h1 h4
        · by_cases e : k = 0
          · subst e; rw [HX.out] at h4; exact h1 h4
          · have := h5 k (by omega) (by rw [HN.out]; exact hlt)
            rw [HX.out] at this
            exact h2 this)).symm)
      have HL0 : Hid (wr = wr) := Lib.hid rfl
      clear HA
      rcases HGO.out with ⟨a1, a2⟩ | ⟨a0, a1, a2, a3⟩ | ⟨a1, a2⟩ | ⟨a1, a2⟩
      · have HA2 := Lib.hid (HNEXT.out (.inl ⟨a1, a2⟩))
        have y1 : ¬ (x : Int) < 97 := by omega
        have y2 : ¬ (122 : Int) < (x : Int) := by omega
        clear HGO HNEXT HBAD
        go_wp2_with fail
        go_roundg (n - (k + 1))
        case measure => omega
        case rel => exact ⟨k + 1, by go_num, by omega, by omega, HA2, Lib.hid rfl⟩
      · have HA2 := Lib.hid (HNEXT.out (.inr ⟨a1, .inr (.inl ⟨a2, a3⟩)⟩))
        have y1 : (x : Int) < 97 := by omega
        have y3 : ¬ (x : Int) < 48 := by omega
        have y4 : ¬ (57 : Int) < (x : Int) := by omega
        have y5 : ((k : Int) == 0) = false := by simp; omega
        clear HGO HNEXT HBAD a0
        go_wp2_with fail
        go_roundg (n - (k + 1))
        case measure => omega
        case rel => exact ⟨k + 1, by go_num, by omega, by omega, HA2, Lib.hid rfl⟩
      · have HA2 := Lib.hid (HNEXT.out (.inr ⟨a1, .inr (.inr a2)⟩))
        have y5 : ((k : Int) == 0) = false := by simp; omega
        subst a2
        clear HGO HNEXT HBAD
        go_wp2_with fail
        go_roundg (n - (k + 1))
        case measure => omega
        case rel => exact ⟨k + 1, by go_num, by omega, by omega, HA2, Lib.hid rfl⟩
      · have HF := Lib.hid (HBAD.out a1 a2)
        have HC : Hid (x < 97 ∨ 122 < x) := Lib.hid (by omega)
        have HD : Hid (k = 0 ∨ (¬ k = 0 ∧ (x < 48 ∨ 57 < x) ∧ x ≠ 95)) := Lib.hid (by unfold partN at a2; omega)
        clear HGO HNEXT HBAD a1 a2
        rcases HD.out with hk0 | ⟨hk0, hd1, hd2⟩
        · have y5 : ((k : Int) == 0) = true := by simp [hk0]
          clear hk0 HD
          rcases HC.out with hc | hc
          · have y1 : (x : Int) < 97 := by omega
            go_wp2_with fail
            go_ret
            exact ⟨ret_bool HF.out, Below.refl _ _⟩
          · have y1 : ¬ (x : Int) < 97 := by omega
            have y2 : (122 : Int) < (x : Int) := by omega
            go_wp2_with fail
            go_ret
            exact ⟨ret_bool HF.out, Below.refl _ _⟩
        · have y5 : ((k : Int) == 0) = false := by simp; omega
          have y6 : ((x : Int) != 95) = true := by simp; omega
          clear HD
          rcases HC.out with hc | hc
          · have y1 : (x : Int) < 97 := by omega
            rcases hd1 with hd1 | hd1
            · have y3 : (x : Int) < 48 := by omega
              go_wp2_with fail
              go_ret
              exact ⟨ret_bool HF.out, Below.refl _ _⟩
            · have y3 : ¬ (x : Int) < 48 := by omega
              have y4 : (57 : Int) < (x : Int) := by omega
              go_wp2_with fail
              go_ret
              exact ⟨ret_bool HF.out, Below.refl _ _⟩
          · have y1 : ¬ (x : Int) < 97 := by omega
            have y2 : (122 : Int) < (x : Int) := by omega
            have y3 : ¬ (x : Int) < 48 := by omega
            have y4 : (57 : Int) < (x : Int) := by omega
            go_wp2_with fail
            go_ret
            exact ⟨ret_bool HF.out, Below.refl _ _⟩
    · have hltz : ¬ (k : Int) < (n : Int) := by omega
      have hkn : k = n := by omega
      have HOK : Hid (okNameB keyL s = (decide (1 ≤ n) && (decide (n ≤ 12) && !(inTs kindsT s || (inTs attrsT s || (inTs articlesT s || inTs wordsT s)))))) := Lib.hid (by
        rw [Bool.eq_iff_iff, okNameB_iff]
        simp only [Bool.and_eq_true, decide_eq_true_eq, Bool.not_eq_true', Bool.or_eq_false_iff]
        constructor
        · rintro ⟨h1, h2⟩
          have hz : ∀ b : Bool, ¬ b = true → b = false := fun b h => by cases b <;> simp_all
          exact ⟨by rw [← hn]; exact h1.1, by rw [← hn]; exact h1.2.1, hz _ (fun h => h2 (mem_keyL.2 (.inl h))), hz _ (fun h => h2 (mem_keyL.2 (.inr (.inl h)))), hz _ (fun h => h2 (mem_keyL.2 (.inr (.inr (.inl h))))), hz _ (fun h => h2 (mem_keyL.2 (.inr (.inr (.inr h)))))⟩
        · rintro ⟨h1, h2, h3, h4, h5, h6⟩
          refine ⟨⟨by rw [hn]; exact h1, by rw [hn]; exact h2, (HA.out 0 (by omega)).1 rfl, fun i h0 hi => (HA.out i (by rw [hn] at hi; omega)).2 h0⟩, fun hm => ?_⟩
          rcases mem_keyL.1 hm with h | h | h | h
          · rw [h3] at h; cases h
          · rw [h4] at h; cases h
          · rw [h5] at h; cases h
          · rw [h6] at h; cases h)
      clear HA hk hg1 hlt hkn
      have HN1 : Hid (1 ≤ n ↔ ¬ (n : Int) < 1) := Lib.hid (by omega)
      obtain ⟨z1, hz1⟩ : ∃ z, decide (1 ≤ (n : Int)) = z := ⟨_, rfl⟩
      obtain ⟨z2, hz2⟩ : ∃ z, decide ((n : Int) ≤ 12) = z := ⟨_, rfl⟩
      have HZ : Hid (decide (1 ≤ n) = z1 ∧ decide (n ≤ 12) = z2) := Lib.hid ⟨by rw [← hz1]; congr 1; simp; omega, by rw [← hz2]; congr 1; simp; omega⟩
      have HB0 : Hid (Below wr.heap.size wr wr) := Lib.hid (Below.refl _ _)
      obtain ⟨A0, hA0⟩ : ∃ A, A = wr.heap.size := ⟨_, rfl⟩
      have HS0 : Hid (A0 ≤ wr.heap.size) := Lib.hid (by rw [hA0]; exact Nat.le_refl _)
      rw [← hA0] at HB0
      have HA0 := Lib.hid hA0
      clear hA0
      have HC1 := Lib.hid (r2Kinds_any wr)
      go_wp2_with fail
      refine HC1.out.mono ?_
      rintro e w1 ⟨rfl, hw1⟩
      have HI1 := Lib.hid (r2In_any (some ⟨wr.heap.size, 0, none⟩) 7 7 kindsT s w1 (by rw [hw1]; exact rd_texts _ _) (Lib.hid rfl) (by omega))
      have HB1 : Hid (Below A0 wr w1) := Lib.hid (by rw [hw1]; exact HB0.out.alloc HS0.out _)
      have HS1 : Hid (A0 ≤ w1.heap.size) := Lib.hid (by rw [hw1, World.size_alloc]; exact Nat.le_succ_of_le HS0.out)
      clear hw1 HC1
      go_wp2_with fail
      refine HI1.out.mono ?_
      rintro e v1 ⟨i1, rfl, hi1, hv1⟩
      subst hv1
      obtain ⟨t1, ht1⟩ : ∃ z, inTs kindsT s = z := ⟨_, rfl⟩
      have HT1 := Lib.hid ht1
      rw [ht1] at hi1
      have HIK1 := Lib.hid hi1
      clear hi1 ht1 HI1
      cases t1
      case' true =>
        have y1 : 0 ≤ i1 := HIK1.out.2 rfl
      case' false =>
        have y1 : ¬ 0 ≤ i1 := fun h => by cases HIK1.out.1 h
      case true =>
        have HF : Hid (false = okNameB keyL s) := Lib.hid (by rw [HOK.out, HT1.out]; simp)
        cases z1 <;> cases z2 <;> go_wp2 <;> go_ret <;> exact ⟨ret_bool HF.out, by rw [← HA0.out]; exact HB1.out⟩
      case false =>
        have HC2 := Lib.hid (r2Attrs_any v1)
        go_wp2_with fail
        refine HC2.out.mono ?_
        rintro e w2 ⟨rfl, hw2⟩
        have HI2 := Lib.hid (r2In_any (some ⟨v1.heap.size, 0, none⟩) 13 13 attrsT s w2 (by rw [hw2]; exact rd_texts _ _) (Lib.hid rfl) (by omega))
        have HB2 : Hid (Below A0 wr w2) := Lib.hid (by rw [hw2]; exact HB1.out.alloc HS1.out _)
        have HS2 : Hid (A0 ≤ w2.heap.size) := Lib.hid (by rw [hw2, World.size_alloc]; exact Nat.le_succ_of_le HS1.out)
        clear hw2 HC2
        go_wp2_with fail
        refine HI2.out.mono ?_
        rintro e v2 ⟨i2, rfl, hi2, hv2⟩
        subst hv2
        obtain ⟨t2, ht2⟩ : ∃ z, inTs attrsT s = z := ⟨_, rfl⟩
        have HT2 := Lib.hid ht2
        rw [ht2] at hi2
        have HIK2 := Lib.hid hi2
        clear hi2 ht2 HI2
        cases t2
        case' true =>
          have y2 : 0 ≤ i2 := HIK2.out.2 rfl
        case' false =>
          have y2 : ¬ 0 ≤ i2 := fun h => by cases HIK2.out.1 h
        case true =>
          have HF : Hid (false = okNameB keyL s) := Lib.hid (by rw [HOK.out, HT1.out, HT2.out]; simp)
          cases z1 <;> cases z2 <;> go_wp2 <;> go_ret <;> exact ⟨ret_bool HF.out, by rw [← HA0.out]; exact HB2.out⟩
        case false =>
          have HC3 := Lib.hid (r2Articles_any v2)
          go_wp2_with fail
          refine HC3.out.mono ?_
          rintro e w3 ⟨rfl, hw3⟩
          have HI3 := Lib.hid (r2In_any (some ⟨v2.heap.size, 0, none⟩) 6 6 articlesT s w3 (by rw [hw3]; exact rd_texts _ _) (Lib.hid rfl) (by omega))
          have HB3 : Hid (Below A0 wr w3) := Lib.hid (by rw [hw3]; exact HB2.out.alloc HS2.out _)
          have HS3 : Hid (A0 ≤ w3.heap.size) := Lib.hid (by rw [hw3, World.size_alloc]; exact Nat.le_succ_of_le HS2.out)
          clear hw3 HC3
          go_wp2_with fail
          refine HI3.out.mono ?_
          rintro e v3 ⟨i3, rfl, hi3, hv3⟩
          subst hv3
          obtain ⟨t3, ht3⟩ : ∃ z, inTs articlesT s = z := ⟨_, rfl⟩
          have HT3 := Lib.hid ht3
          rw [ht3] at hi3
          have HIK3 := Lib.hid hi3
          clear hi3 ht3 HI3
          cases t3
          case' true =>
            have y3 : 0 ≤ i3 := HIK3.out.2 rfl
          case' false =>
            have y3 : ¬ 0 ≤ i3 := fun h => by cases HIK3.out.1 h
          case true =>
            have HF : Hid (false = okNameB keyL s) := Lib.hid (by rw [HOK.out, HT1.out, HT2.out, HT3.out]; simp)
            cases z1 <;> cases z2 <;> go_wp2 <;> go_ret <;> exact ⟨ret_bool HF.out, by rw [← HA0.out]; exact HB3.out⟩
          case false =>
            have HC4 := Lib.hid (r2Words_any v3)
            go_wp2_with fail
            refine HC4.out.mono ?_
            rintro e w4 ⟨rfl, hw4⟩
            have HI4 := Lib.hid (r2In_any (some ⟨v3.heap.size, 0, none⟩) 7 7 wordsT s w4 (by rw [hw4]; exact rd_texts _ _) (Lib.hid rfl) (by omega))
            have HB4 : Hid (Below A0 wr w4) := Lib.hid (by rw [hw4]; exact HB3.out.alloc HS3.out _)
            have HS4 : Hid (A0 ≤ w4.heap.size) := Lib.hid (by rw [hw4, World.size_alloc]; exact Nat.le_succ_of_le HS3.out)
            clear hw4 HC4
            go_wp2_with fail
            refine HI4.out.mono ?_
            rintro e v4 ⟨i4, rfl, hi4, hv4⟩
            subst hv4
            obtain ⟨t4, ht4⟩ : ∃ z, inTs wordsT s = z := ⟨_, rfl⟩
            have HT4 := Lib.hid ht4
            rw [ht4] at hi4
            have HIK4 := Lib.hid hi4
            clear hi4 ht4 HI4
            cases t4
            case' true =>
              have y4 : 0 ≤ i4 := HIK4.out.2 rfl
            case' false =>
              have y4 : ¬ 0 ≤ i4 := fun h => by cases HIK4.out.1 h
            case true =>
              have HF : Hid (false = okNameB keyL s) := Lib.hid (by rw [HOK.out, HT1.out, HT2.out, HT3.out, HT4.out]; simp)
              cases z1 <;> cases z2 <;> go_wp2 <;> go_ret <;> exact ⟨ret_bool HF.out, by rw [← HA0.out]; exact HB4.out⟩
            case false =>
              have HF : Hid (okNameB keyL s = (z1 && z2)) := Lib.hid (by rw [HOK.out, HT1.out, HT2.out, HT3.out, HT4.out, HZ.out.1, HZ.out.2]; simp)
              have HY : Hid (i1 < 0 ∧ i2 < 0 ∧ i3 < 0 ∧ i4 < 0) := Lib.hid ⟨by omega, by omega, by omega, by omega⟩
              cases z1 <;> cases z2 <;> go_wp2 <;> go_ret <;> first | exact ⟨ret_bool HF.out.symm, by rw [← HA0.out]; exact HB4.out⟩ | exact ⟨ret_bool (by rw [HF.out]; have := HY.out; simp; omega), by rw [← HA0.out]; exact HB4.out⟩
end Go.Proofs.YtpkonifeieepfaaGreat
/-
The drawn region of the reference's names.
-/
namespace Go.Proofs.YtpkonifeieepfaaGreat
open Go.RowKit
set_option linter.unusedVariables false
set_option linter.unusedSimpArgs false
theorem Rd.takeG {α : Type} {sz : Nat} {enc : α → List Value} {w : World} {A : Option Addr} {xs : List α} (h : Rd sz enc w A xs) (n : Nat) : Rd sz enc w A (xs.take n) := by
  intro h0
  have : 0 < xs.length := by rw [List.length_take] at h0; omega
  obtain ⟨b, off, e, hlt, hc⟩ := h this
  refine ⟨b, off, e, hlt, fun k x hx j v hv => hc k x ?_ j v hv⟩
  by_cases hk : k < n
  · rwa [List.getElem?_take_of_lt hk] at hx
  · rw [List.getElem?_eq_none (by rw [List.length_take]; omega)] at hx
    cases hx
noncomputable def nmReg : Code := ((Tryz.f31.body.bind (findRegion 25)).getD .skip)
set_option maxHeartbeats 4000000 in
set_option maxRecDepth 100000 in
theorem nmReg_ok (wc : World) (b off L d9 k : Nat) (l : List ByteArray) (x : ByteArray) (K : Act → World → Prop) (hbl : b < wc.heap.size) (hxc : wc.cell? ⟨b, off + k, none⟩ = some (.string x))
  (HR : Hid (Rd 1 encS wc (some ⟨b, off, none⟩) (l.take k))) (HLK : Hid ((l.take k).length = k)) (hkL : k < L) (hltz : (k : Int) < (L : Int)) (hL : L ≤ 96) (hLd : ¬ d9 < k) (HSX : Hid (x.size ≤ 9223372036854775807))
  (u0 u1 u2 u4 u5 u6 u7 u8 u10 u11 u12 u13 u14 u15 u16 u17 u18 u19 u20 u21 u22 u23 u24 u25 u26 u27 u28 u29 u30 u31 u32 u33 u34 u35 u36 u37 u38 u39 u40 u41 u42 u43 u44 u45 u46 u47 u48 u49 u50 u51 u52 u53 u54 u55 u56 u57 u58 u59 u60 u61 u62 u63 u64 u65 u66 u67 u68 u69 u70 u71 u72 u73 u74 u75 u76 u77 u78 u79 u80 u81 u82 u83 u84 u85 u86 u87 u88 u89 u90 u91 u92 u93 u94 u95 u96 u97 u98 u99 u100 u101 u102 u103 u104 u105 u106 u107 u108 u109 u110 u111 : Value)
  (HK : Hid (∀ (W' : World) (v96 v97 v98 v99 v100 v101 v102 v103 v104 v105 v106 v107 v108 v109 v110 : Value), Below wc.heap.size wc W' → K ⟨List.toArray (u0 :: u1 :: u2 :: (.slice (some ⟨b, off, none⟩) L d9) :: u4 :: u5 :: u6 :: u7 :: u8 :: (.int .i64 k) :: u10 :: u11 :: u12 :: u13 :: u14 :: u15 :: u16 :: u17 :: u18 :: u19 :: u20 :: u21 :: u22 :: u23 :: u24 :: u25 :: u26 :: u27 :: u28 :: u29 :: u30 :: u31 :: u32 :: u33 :: u34 :: u35 :: u36 :: u37 :: u38 :: u39 :: u40 :: u41 :: u42 :: u43 :: u44 :: u45 :: u46 :: u47 :: u48 :: u49 :: u50 :: u51 :: u52 :: u53 :: u54 :: u55 :: u56 :: u57 :: u58 :: u59 :: u60 :: u61 :: u62 :: u63 :: u64 :: u65 :: u66 :: u67 :: u68 :: u69 :: u70 :: u71 :: u72 :: u73 :: u74 :: u75 :: u76 :: u77 :: u78 :: u79 :: u80 :: u81 :: u82 :: u83 :: u84 :: u85 :: u86 :: u87 :: u88 :: u89 :: u90 :: u91 :: u92 :: u93 :: u94 :: u95 :: v96 :: v97 :: v98 :: v99 :: v100 :: v101 :: v102 :: v103 :: v104 :: v105 :: v106 :: v107 :: v108 :: v109 :: v110 :: (.bool (!okNameB keyL x || inTs (l.take k) x)) :: []), []⟩ W')) :
  Code.wp Tryz.prog nmReg (Exit.then K fun _ _ _ => False) ⟨List.toArray (u0 :: u1 :: u2 :: (.slice (some ⟨b, off, none⟩) L d9) :: u4 :: u5 :: u6 :: u7 :: u8 :: (.int .i64 k) :: u10 :: u11 :: u12 :: u13 :: u14 :: u15 :: u16 :: u17 :: u18 :: u19 :: u20 :: u21 :: u22 :: u23 :: u24 :: u25 :: u26 :: u27 :: u28 :: u29 :: u30 :: u31 :: u32 :: u33 :: u34 :: u35 :: u36 :: u37 :: u38 :: u39 :: u40 :: u41 :: u42 :: u43 :: u44 :: u45 :: u46 :: u47 :: u48 :: u49 :: u50 :: u51 :: u52 :: u53 :: u54 :: u55 :: u56 :: u57 :: u58 :: u59 :: u60 :: u61 :: u62 :: u63 :: u64 :: u65 :: u66 :: u67 :: u68 :: u69 :: u70 :: u71 :: u72 :: u73 :: u74 :: u75 :: u76 :: u77 :: u78 :: u79 :: u80 :: u81 :: u82 :: u83 :: u84 :: u85 :: u86 :: u87 :: u88 :: u89 :: u90 :: u91 :: u92 :: u93 :: u94 :: u95 :: u96 :: u97 :: u98 :: u99 :: u100 :: u101 :: u102 :: u103 :: u104 :: u105 :: u106 :: u107 :: u108 :: u109 :: u110 :: u111 :: []), []⟩ wc := by
  conv => arg 2; whnf
  refine region_z (S := fun w' => Below wc.heap.size wc w') [] (by kernel_rfl) (Below.refl _ _).drew (fun hHeld => ?_)
  refine wpAnyZ_take (i := 0) (v := (.slice (some ⟨b, off, none⟩) L d9)) [] rfl (by kernel_rfl) (by kernel_rfl) (by kernel_rfl) (by kernel_rfl) (fun _ _ _ h => h) (Or.inl ⟨by kernel_rfl, fun w' hSw => ?_⟩) hHeld ?_
  · clear hHeld
    go_simp
  simp only [Act.put, List.getElem_toArray, List.getElem_cons_zero, List.getElem_cons_succ, List.setIfInBounds_toArray, List.set_cons_zero, List.set_cons_succ]
  refine wpAnyZ_take (i := 1) (v := (.int .i64 k)) [] rfl (by kernel_rfl) (by kernel_rfl) (by kernel_rfl) (by kernel_rfl) (fun _ _ _ h => h) (Or.inl ⟨by kernel_rfl, fun w' hSw => ?_⟩) hHeld ?_
  · clear hHeld
    go_simp
  simp only [Act.put, List.getElem_toArray, List.getElem_cons_zero, List.getElem_cons_succ, List.setIfInBounds_toArray, List.set_cons_zero, List.set_cons_succ]
  refine wpAnyZ_take (i := 2) (v := (.pointer (some ⟨b, off + k, none⟩))) [] rfl (by kernel_rfl) (by kernel_rfl) (by kernel_rfl) (by kernel_rfl) (fun _ _ _ h => h) (Or.inl ⟨by kernel_rfl, fun w' hSw => ?_⟩) hHeld ?_
  · clear hHeld
    go_simp
  simp only [Act.put, List.getElem_toArray, List.getElem_cons_zero, List.getElem_cons_succ, List.setIfInBounds_toArray, List.set_cons_zero, List.set_cons_succ]
  refine wpAnyZ_take (i := 3) (v := (.string x)) [] rfl (by kernel_rfl) (by kernel_rfl) (by kernel_rfl) (by kernel_rfl) (fun _ _ _ h => h) (Or.inl ⟨by kernel_rfl, fun w' hSw => ?_⟩) hHeld ?_
  · clear hHeld
    have s0 := (hSw.cell (p := ⟨b, off + k, none⟩) hbl).trans hxc
    go_simp
  simp only [Act.put, List.getElem_toArray, List.getElem_cons_zero, List.getElem_cons_succ, List.setIfInBounds_toArray, List.set_cons_zero, List.set_cons_succ]
  refine wpAnyZ_one (i := 4) (by kernel_rfl) rfl (fun K' hK => ?_)
  go_simp
  refine (r2Name_any x _ HSX.out).mono ?_
  rintro e w5 ⟨rfl, hb5⟩
  refine hK.out _ _ ?_ (fun hHeld' => ?_)
  · exact below_then hHeld hb5
  clear hK K' hb5 hHeld
  have hHeld := hHeld'
  clear hHeld'
  try simp only [Act.put, List.getElem_toArray, List.getElem_cons_zero, List.getElem_cons_succ, List.setIfInBounds_toArray, List.set_cons_zero, List.set_cons_succ]
  obtain ⟨z, hz⟩ : ∃ z, okNameB keyL x = z := ⟨_, rfl⟩
  rw [hz] at HK ⊢
  have HZ := Lib.hid hz
  clear hz
  cases z
  · simp only [Bool.not_false, Bool.true_or] at HK
    refine wpAnyZ_take (i := 5) (v := (.bool true)) [] rfl (by kernel_rfl) (by kernel_rfl) (by kernel_rfl) (by kernel_rfl) (fun _ _ _ h => h) (Or.inl ⟨by kernel_rfl, fun w' hSw => ?_⟩) hHeld ?_
    · clear hHeld
      go_simp
    simp only [Act.put, List.getElem_toArray, List.getElem_cons_zero, List.getElem_cons_succ, List.setIfInBounds_toArray, List.set_cons_zero, List.set_cons_succ]
    refine wpAnyZ_take (i := 6) (v := (.bool true)) [] rfl (by kernel_rfl) (by kernel_rfl) (by kernel_rfl) (by kernel_rfl) (fun _ _ _ h => h) (Or.inl ⟨by kernel_rfl, fun w' hSw => ?_⟩) hHeld ?_
    · clear hHeld
      go_simp
    simp only [Act.put, List.getElem_toArray, List.getElem_cons_zero, List.getElem_cons_succ, List.setIfInBounds_toArray, List.set_cons_zero, List.set_cons_succ]
    refine wpAnyZ_take (i := 7) (v := undef) [] rfl (by kernel_rfl) (by kernel_rfl) (by kernel_rfl) (by kernel_rfl) (fun _ _ _ h => h) (Or.inr ⟨by kernel_rfl, rfl⟩) hHeld ?_
    simp only [Act.put, List.getElem_toArray, List.getElem_cons_zero, List.getElem_cons_succ, List.setIfInBounds_toArray, List.set_cons_zero, List.set_cons_succ]
    refine wpAnyZ_take (i := 8) (v := undef) [] rfl (by kernel_rfl) (by kernel_rfl) (by kernel_rfl) (by kernel_rfl) (fun _ _ _ h => h) (Or.inr ⟨by kernel_rfl, rfl⟩) hHeld ?_
    simp only [Act.put, List.getElem_toArray, List.getElem_cons_zero, List.getElem_cons_succ, List.setIfInBounds_toArray, List.set_cons_zero, List.set_cons_succ]
    refine wpAnyZ_take (i := 9) (v := undef) [] rfl (by kernel_rfl) (by kernel_rfl) (by kernel_rfl) (by kernel_rfl) (fun _ _ _ h => h) (Or.inr ⟨by kernel_rfl, rfl⟩) hHeld ?_
    simp only [Act.put, List.getElem_toArray, List.getElem_cons_zero, List.getElem_cons_succ, List.setIfInBounds_toArray, List.set_cons_zero, List.set_cons_succ]
    refine wpAnyZ_take (i := 10) (v := undef) [] rfl (by kernel_rfl) (by kernel_rfl) (by kernel_rfl) (by kernel_rfl) (fun _ _ _ h => h) (Or.inr ⟨by kernel_rfl, rfl⟩) hHeld ?_
    simp only [Act.put, List.getElem_toArray, List.getElem_cons_zero, List.getElem_cons_succ, List.setIfInBounds_toArray, List.set_cons_zero, List.set_cons_succ]
    refine wpAnyZ_take (i := 11) (v := undef) [] rfl (by kernel_rfl) (by kernel_rfl) (by kernel_rfl) (by kernel_rfl) (fun _ _ _ h => h) (Or.inr ⟨by kernel_rfl, rfl⟩) hHeld ?_
    simp only [Act.put, List.getElem_toArray, List.getElem_cons_zero, List.getElem_cons_succ, List.setIfInBounds_toArray, List.set_cons_zero, List.set_cons_succ]
    refine wpAnyZ_take (i := 12) (v := undef) [] rfl (by kernel_rfl) (by kernel_rfl) (by kernel_rfl) (by kernel_rfl) (fun _ _ _ h => h) (Or.inr ⟨by kernel_rfl, rfl⟩) hHeld ?_
    simp only [Act.put, List.getElem_toArray, List.getElem_cons_zero, List.getElem_cons_succ, List.setIfInBounds_toArray, List.set_cons_zero, List.set_cons_succ]
    refine wpAnyZ_take (i := 13) (v := undef) [] rfl (by kernel_rfl) (by kernel_rfl) (by kernel_rfl) (by kernel_rfl) (fun _ _ _ h => h) (Or.inr ⟨by kernel_rfl, rfl⟩) hHeld ?_
    simp only [Act.put, List.getElem_toArray, List.getElem_cons_zero, List.getElem_cons_succ, List.setIfInBounds_toArray, List.set_cons_zero, List.set_cons_succ]
    refine wpAnyZ_take (i := 14) (v := undef) [] rfl (by kernel_rfl) (by kernel_rfl) (by kernel_rfl) (by kernel_rfl) (fun _ _ _ h => h) (Or.inr ⟨by kernel_rfl, rfl⟩) hHeld ?_
    simp only [Act.put, List.getElem_toArray, List.getElem_cons_zero, List.getElem_cons_succ, List.setIfInBounds_toArray, List.set_cons_zero, List.set_cons_succ]
    refine wpAnyZ_take (i := 15) (v := (.bool true)) [] rfl (by kernel_rfl) (by kernel_rfl) (by kernel_rfl) (by kernel_rfl) (fun _ _ _ h => h) (Or.inl ⟨by kernel_rfl, fun w' hSw => ?_⟩) hHeld ?_
    · clear hHeld
      go_simp
    simp only [Act.put, List.getElem_toArray, List.getElem_cons_zero, List.getElem_cons_succ, List.setIfInBounds_toArray, List.set_cons_zero, List.set_cons_succ]
    refine wpAnyZ_done (by kernel_rfl) ?_ _
    go_step
    exact HK.out _ _ _ _ _ _ _ _ _ _ _ _ _ _ _ _ hHeld
  · simp only [Bool.not_true, Bool.false_or] at HK
    refine wpAnyZ_take (i := 5) (v := (.bool false)) [] rfl (by kernel_rfl) (by kernel_rfl) (by kernel_rfl) (by kernel_rfl) (fun _ _ _ h => h) (Or.inl ⟨by kernel_rfl, fun w' hSw => ?_⟩) hHeld ?_
    · clear hHeld
      go_simp
    simp only [Act.put, List.getElem_toArray, List.getElem_cons_zero, List.getElem_cons_succ, List.setIfInBounds_toArray, List.set_cons_zero, List.set_cons_succ]
    refine wpAnyZ_take (i := 6) (v := (.bool false)) [] rfl (by kernel_rfl) (by kernel_rfl) (by kernel_rfl) (by kernel_rfl) (fun _ _ _ h => h) (Or.inl ⟨by kernel_rfl, fun w' hSw => ?_⟩) hHeld ?_
    · clear hHeld
      go_simp
    simp only [Act.put, List.getElem_toArray, List.getElem_cons_zero, List.getElem_cons_succ, List.setIfInBounds_toArray, List.set_cons_zero, List.set_cons_succ]
    refine wpAnyZ_take (i := 7) (v := (.slice (some ⟨b, off, none⟩) L d9)) [] rfl (by kernel_rfl) (by kernel_rfl) (by kernel_rfl) (by kernel_rfl) (fun _ _ _ h => h) (Or.inl ⟨by kernel_rfl, fun w' hSw => ?_⟩) hHeld ?_
    · clear hHeld
      go_simp
    simp only [Act.put, List.getElem_toArray, List.getElem_cons_zero, List.getElem_cons_succ, List.setIfInBounds_toArray, List.set_cons_zero, List.set_cons_succ]
    refine wpAnyZ_take (i := 8) (v := (.int .i64 k)) [] rfl (by kernel_rfl) (by kernel_rfl) (by kernel_rfl) (by kernel_rfl) (fun _ _ _ h => h) (Or.inl ⟨by kernel_rfl, fun w' hSw => ?_⟩) hHeld ?_
    · clear hHeld
      go_simp
    simp only [Act.put, List.getElem_toArray, List.getElem_cons_zero, List.getElem_cons_succ, List.setIfInBounds_toArray, List.set_cons_zero, List.set_cons_succ]
    refine wpAnyZ_take (i := 9) (v := (.slice (some ⟨b, off, none⟩) k d9)) [] rfl (by kernel_rfl) (by kernel_rfl) (by kernel_rfl) (by kernel_rfl) (fun _ _ _ h => h) (Or.inl ⟨by kernel_rfl, fun w' hSw => ?_⟩) hHeld ?_
    · clear hHeld
      go_simp
    simp only [Act.put, List.getElem_toArray, List.getElem_cons_zero, List.getElem_cons_succ, List.setIfInBounds_toArray, List.set_cons_zero, List.set_cons_succ]
    refine wpAnyZ_take (i := 10) (v := (.slice (some ⟨b, off, none⟩) L d9)) [] rfl (by kernel_rfl) (by kernel_rfl) (by kernel_rfl) (by kernel_rfl) (fun _ _ _ h => h) (Or.inl ⟨by kernel_rfl, fun w' hSw => ?_⟩) hHeld ?_
    · clear hHeld
      go_simp
    simp only [Act.put, List.getElem_toArray, List.getElem_cons_zero, List.getElem_cons_succ, List.setIfInBounds_toArray, List.set_cons_zero, List.set_cons_succ]
    refine wpAnyZ_take (i := 11) (v := (.int .i64 k)) [] rfl (by kernel_rfl) (by kernel_rfl) (by kernel_rfl) (by kernel_rfl) (fun _ _ _ h => h) (Or.inl ⟨by kernel_rfl, fun w' hSw => ?_⟩) hHeld ?_
    · clear hHeld
      go_simp
    simp only [Act.put, List.getElem_toArray, List.getElem_cons_zero, List.getElem_cons_succ, List.setIfInBounds_toArray, List.set_cons_zero, List.set_cons_succ]
    refine wpAnyZ_take (i := 12) (v := (.pointer (some ⟨b, off + k, none⟩))) [] rfl (by kernel_rfl) (by kernel_rfl) (by kernel_rfl) (by kernel_rfl) (fun _ _ _ h => h) (Or.inl ⟨by kernel_rfl, fun w' hSw => ?_⟩) hHeld ?_
    · clear hHeld
      go_simp
    simp only [Act.put, List.getElem_toArray, List.getElem_cons_zero, List.getElem_cons_succ, List.setIfInBounds_toArray, List.set_cons_zero, List.set_cons_succ]
    refine wpAnyZ_take (i := 13) (v := (.string x)) [] rfl (by kernel_rfl) (by kernel_rfl) (by kernel_rfl) (by kernel_rfl) (fun _ _ _ h => h) (Or.inl ⟨by kernel_rfl, fun w' hSw => ?_⟩) hHeld ?_
    · clear hHeld
      have s0 := (hSw.cell (p := ⟨b, off + k, none⟩) hbl).trans hxc
      go_simp
    simp only [Act.put, List.getElem_toArray, List.getElem_cons_zero, List.getElem_cons_succ, List.setIfInBounds_toArray, List.set_cons_zero, List.set_cons_succ]
    refine wpAnyZ_one (i := 14) (by kernel_rfl) rfl (fun K' hK => ?_)
    go_simp
    refine (r4Has_any (some ⟨b, off, none⟩) d9 k (l.take k) x _ (HR.out.keep hHeld) HLK (by omega)).mono ?_
    rintro e w6 ⟨rfl, h6⟩
    subst h6
    refine hK.out _ _ ?_ (fun hHeld' => ?_)
    · exact hHeld
    clear hK K' hHeld
    have hHeld := hHeld'
    clear hHeld'
    try simp only [Act.put, List.getElem_toArray, List.getElem_cons_zero, List.getElem_cons_succ, List.setIfInBounds_toArray, List.set_cons_zero, List.set_cons_succ]
    refine wpAnyZ_take (i := 15) (v := (.bool (inTs (l.take k) x))) [] rfl (by kernel_rfl) (by kernel_rfl) (by kernel_rfl) (by kernel_rfl) (fun _ _ _ h => h) (Or.inl ⟨by kernel_rfl, fun w' hSw => ?_⟩) hHeld ?_
    · clear hHeld
      go_simp
    simp only [Act.put, List.getElem_toArray, List.getElem_cons_zero, List.getElem_cons_succ, List.setIfInBounds_toArray, List.set_cons_zero, List.set_cons_succ]
    refine wpAnyZ_done (by kernel_rfl) ?_ _
    go_step
    exact HK.out _ _ _ _ _ _ _ _ _ _ _ _ _ _ _ _ hHeld
end Go.Proofs.YtpkonifeieepfaaGreat
/-
The reference's names, walked.
-/
namespace Go.Proofs.YtpkonifeieepfaaGreat
open Go.RowKit
set_option linter.unusedVariables false
set_option linter.unusedSimpArgs false
noncomputable def okNamesB (keys : List (List UInt8)) (l : List ByteArray) : Bool := @decide (okNamesP keys l) (Classical.propDecidable _)
theorem okNamesB_iff {keys : List (List UInt8)} {l : List ByteArray} : okNamesB keys l = true ↔ okNamesP keys l := @decide_eq_true_iff _ (Classical.propDecidable _)
theorem okNamesB_yes {keys : List (List UInt8)} {l : List ByteArray} (h : okNamesP keys l) : true = okNamesB keys l := (okNamesB_iff.2 h).symm
theorem okNamesB_no {keys : List (List UInt8)} {l : List ByteArray} (h : ¬ okNamesP keys l) : false = okNamesB keys l := by
  cases e : okNamesB keys l
  · rfl
  · exact absurd (okNamesB_iff.1 e) h
set_option maxRecDepth 100000 in
set_option maxHeartbeats 16000000 in
theorem r4Names_any (a1 a2 a3 a4 a5 : Option Addr) (n1 c1 n2 c2 n3 c3 n4 c4 n5 c5 : Nat) (s : GSite) (w : World) (HS : Hid (RdSite w a1 a2 a3 a4 a5 n1 n2 n3 n4 n5 s)) (h1 : n1 ≤ 16) (h2 : n2 ≤ 8) (h3 : n3 ≤ 32) (h4 : n4 ≤ 16) (h5 : n5 ≤ 24) :
    Calls Tryz.prog 31 #[.agg #[.slice a1 n1 c1, .slice a2 n2 c2, .slice a3 n3 c3, .slice a4 n4 c4, .slice a5 n5 c5]] w fun e w' => e = .returned (.bool (okNamesB keyL (allNames s))) ∧ Below w.heap.size w w' := by
  obtain ⟨W0, hW0⟩ : ∃ W0, W0 = w.alloc (.cells #[.slice a1 n1 c1, .slice a2 n2 c2, .slice a3 n3 c3, .slice a4 n4 c4, .slice a5 n5 c5] 28) := ⟨_, rfl⟩
  have b0 : Below w.heap.size w W0 := by rw [hW0]; exact (Below.refl _ w).alloc (Nat.le_refl _) _
  have hs0 : w.heap.size < W0.heap.size := by rw [hW0]; simp
  have q0 : W0.cell? ⟨w.heap.size, 0, none⟩ = some (.slice a1 n1 c1) := by rw [hW0]; go_simp
  have q1 : W0.cell? ⟨w.heap.size, 1, none⟩ = some (.slice a2 n2 c2) := by rw [hW0]; go_simp
  have q2 : W0.cell? ⟨w.heap.size, 2, none⟩ = some (.slice a3 n3 c3) := by rw [hW0]; go_simp
  have q3 : W0.cell? ⟨w.heap.size, 3, none⟩ = some (.slice a4 n4 c4) := by rw [hW0]; go_simp
  have q4 : W0.cell? ⟨w.heap.size, 4, none⟩ = some (.slice a5 n5 c5) := by rw [hW0]; go_simp
  have HW0 := Lib.hid hW0.symm
  have HB0 := Lib.hid b0
  have HSW := Lib.hid (HS.out.keep b0)
  have HL : Hid (s.cons.length = n1 ∧ s.owns.length = n2 ∧ s.ctrs.length = n3 ∧ s.chgs.length = n4 ∧ s.bays.length = n5) := Lib.hid ⟨HS.out.l1, HS.out.l2, HS.out.l3, HS.out.l4, HS.out.l5⟩
  have HSZ : Hid (∀ x, x ∈ allNames s → x.size ≤ maxLen) := Lib.hid HS.out.nm
  clear hW0 b0
  go_enter Tryz.func31, Tryz.ntmps31
  go_upto_region 1 with (fail)
  rw [HW0.out]
  go_wp2_with fail
  go_loopg [3, 4] n1 (fun g1 v3 v4 wr => ∃ k : Nat, v4 = .int .i64 k ∧ k ≤ n1 ∧ n1 - k ≤ g1 ∧ Hid (OwnT wr W0.heap.size v3 ([] ++ ((s.cons.map GCon.name)).take k)) ∧ Hid (Below W0.heap.size W0 wr))
  case atStart => exact ⟨0, by go_num, by omega, by omega, Lib.hid (by simpa using (OwnR.nil (t := 9) (sz := 1) (enc := encS) W0 W0.heap.size)), Lib.hid (Below.refl _ _)⟩
  case round =>
    obtain ⟨k, rfl, hk, hg1, HX, HB⟩ := hrel
    have p00 := (HB.out.cell (p := ⟨w.heap.size, 0, none⟩) hs0).trans q0
    by_cases hlt : k < n1
    · have hltz : (k : Int) < (n1 : Int) := by omega
      obtain ⟨b, off, c, hbe, hbl, hc, k0, k1, k2, k3, k4, k5, k6, k7, k8, k9, k10⟩ := rdCon_at (HSW.out.r1.keep HB.out) (k := k) (by rw [HSW.out.l1]; exact hlt)
      have hpl : ([] ++ ((s.cons.map GCon.name)).take k).length ≤ 1000 := by simp only [List.length_append, List.length_map, List.length_take, List.length_nil, HL.out.1, HL.out.2.1, HL.out.2.2.1, HL.out.2.2.2.1]; omega
      obtain ⟨ap, v', w5, av, aw, HO1, HA1⟩ := app_str c.name HX.out HB.out.size (by omega)
      have HX2 : Hid (OwnT w5 W0.heap.size v' ([] ++ ((s.cons.map GCon.name)).take (k + 1))) := Lib.hid (by
        have e : ((s.cons.map GCon.name)).take (k + 1) = ((s.cons.map GCon.name)).take k ++ [c.name] := take_snoc (by rw [List.getElem?_map, hc]; rfl)
        rw [e, ← List.append_assoc]
        exact HO1.out)
      have HB2 : Hid (Below W0.heap.size W0 w5) := Lib.hid (HB.out.trans HA1.out.bel)
      subst hbe
      clear hc HX HB HO1 HA1 hpl
      go_wp2_with fail
      go_roundg (n1 - (k + 1))
      case measure => omega
      case rel => exact ⟨k + 1, by go_num, by omega, by omega, HX2, HB2⟩
    · have hltz : ¬ (k : Int) < (n1 : Int) := by omega
      have HX1 : Hid (OwnT wr W0.heap.size u3 (s.cons.map GCon.name)) := Lib.hid (by
        have h := HX.out
        rw [List.take_of_length_le (by rw [List.length_map, HSW.out.l1]; omega)] at h
        simpa using h)
      have HB1 := HB
      clear HX HB hk hg1 hlt
      go_wp2_with fail
      go_loopg [3, 5] n2 (fun g1 v3 v5 wr => ∃ k : Nat, v5 = .int .i64 k ∧ k ≤ n2 ∧ n2 - k ≤ g1 ∧ Hid (OwnT wr W0.heap.size v3 (s.cons.map GCon.name ++ (s.owns).take k)) ∧ Hid (Below W0.heap.size W0 wr))
      case atStart => exact ⟨0, by go_num, by omega, by omega, Lib.hid (by simpa using HX1.out), HB1⟩
      case round =>
        clear HX1 HB1
        obtain ⟨k, rfl, hk, hg1, HX, HB⟩ := hrel
        have p01 := (HB.out.cell (p := ⟨w.heap.size, 1, none⟩) hs0).trans q1
        by_cases hlt : k < n2
        · have hltz : (k : Int) < (n2 : Int) := by omega
          obtain ⟨b, off, c, hbe, hbl, hc, k0⟩ := rdOwn_at (HSW.out.r2.keep HB.out) (k := k) (by rw [HSW.out.l2]; exact hlt)
          have hpl : (s.cons.map GCon.name ++ (s.owns).take k).length ≤ 1000 := by simp only [List.length_append, List.length_map, List.length_take, List.length_nil, HL.out.1, HL.out.2.1, HL.out.2.2.1, HL.out.2.2.2.1]; omega
          obtain ⟨ap, v', w5, av, aw, HO1, HA1⟩ := app_str c HX.out HB.out.size (by omega)
          have HX2 : Hid (OwnT w5 W0.heap.size v' (s.cons.map GCon.name ++ (s.owns).take (k + 1))) := Lib.hid (by
            have e : (s.owns).take (k + 1) = (s.owns).take k ++ [c] := take_snoc (by exact hc)
            rw [e, ← List.append_assoc]
            exact HO1.out)
          have HB2 : Hid (Below W0.heap.size W0 w5) := Lib.hid (HB.out.trans HA1.out.bel)
          subst hbe
          clear hc HX HB HO1 HA1 hpl
          go_wp2_with fail
          go_roundg (n2 - (k + 1))
          case measure => omega
          case rel => exact ⟨k + 1, by go_num, by omega, by omega, HX2, HB2⟩
        · have hltz : ¬ (k : Int) < (n2 : Int) := by omega
          have HX2 : Hid (OwnT wr W0.heap.size u3 (s.cons.map GCon.name ++ s.owns)) := Lib.hid (by
            have h := HX.out
            rw [List.take_of_length_le (by rw [HSW.out.l2]; omega)] at h
            exact h)
          have HB2 := HB
          clear HX HB hk hg1 hlt
          go_wp2_with fail
          go_loopg [3, 6] n3 (fun g1 v3 v6 wr => ∃ k : Nat, v6 = .int .i64 k ∧ k ≤ n3 ∧ n3 - k ≤ g1 ∧ Hid (OwnT wr W0.heap.size v3 (s.cons.map GCon.name ++ s.owns ++ ((s.ctrs.map GCtr.name)).take k)) ∧ Hid (Below W0.heap.size W0 wr))
          case atStart => exact ⟨0, by go_num, by omega, by omega, Lib.hid (by simpa using HX2.out), HB2⟩
          case round =>
            clear HX2 HB2
            obtain ⟨k, rfl, hk, hg1, HX, HB⟩ := hrel
            have p02 := (HB.out.cell (p := ⟨w.heap.size, 2, none⟩) hs0).trans q2
            by_cases hlt : k < n3
            · have hltz : (k : Int) < (n3 : Int) := by omega
              obtain ⟨b, off, c, hbe, hbl, hc, k0, k1, k2, k3⟩ := rdCtr_at (HSW.out.r3.keep HB.out) (k := k) (by rw [HSW.out.l3]; exact hlt)
              have hpl : (s.cons.map GCon.name ++ s.owns ++ ((s.ctrs.map GCtr.name)).take k).length ≤ 1000 := by simp only [List.length_append, List.length_map, List.length_take, List.length_nil, HL.out.1, HL.out.2.1, HL.out.2.2.1, HL.out.2.2.2.1]; omega
              obtain ⟨ap, v', w5, av, aw, HO1, HA1⟩ := app_str c.name HX.out HB.out.size (by omega)
              have HX2 : Hid (OwnT w5 W0.heap.size v' (s.cons.map GCon.name ++ s.owns ++ ((s.ctrs.map GCtr.name)).take (k + 1))) := Lib.hid (by
                have e : ((s.ctrs.map GCtr.name)).take (k + 1) = ((s.ctrs.map GCtr.name)).take k ++ [c.name] := take_snoc (by rw [List.getElem?_map, hc]; rfl)
                rw [e, ← List.append_assoc]
                exact HO1.out)
              have HB2 : Hid (Below W0.heap.size W0 w5) := Lib.hid (HB.out.trans HA1.out.bel)
              subst hbe
              clear hc HX HB HO1 HA1 hpl
              go_wp2_with fail
              go_roundg (n3 - (k + 1))
              case measure => omega
              case rel => exact ⟨k + 1, by go_num, by omega, by omega, HX2, HB2⟩
            · have hltz : ¬ (k : Int) < (n3 : Int) := by omega
              have HX3 : Hid (OwnT wr W0.heap.size u3 (s.cons.map GCon.name ++ s.owns ++ (s.ctrs.map GCtr.name))) := Lib.hid (by
                have h := HX.out
                rw [List.take_of_length_le (by rw [List.length_map, HSW.out.l3]; omega)] at h
                exact h)
              have HB3 := HB
              clear HX HB hk hg1 hlt
              go_wp2_with fail
              go_loopg [3, 7] n4 (fun g1 v3 v7 wr => ∃ k : Nat, v7 = .int .i64 k ∧ k ≤ n4 ∧ n4 - k ≤ g1 ∧ Hid (OwnT wr W0.heap.size v3 (s.cons.map GCon.name ++ s.owns ++ s.ctrs.map GCtr.name ++ ((s.chgs.map GChg.name)).take k)) ∧ Hid (Below W0.heap.size W0 wr))
              case atStart => exact ⟨0, by go_num, by omega, by omega, Lib.hid (by simpa using HX3.out), HB3⟩
              case round =>
                clear HX3 HB3
                obtain ⟨k, rfl, hk, hg1, HX, HB⟩ := hrel
                have p03 := (HB.out.cell (p := ⟨w.heap.size, 3, none⟩) hs0).trans q3
                by_cases hlt : k < n4
                · have hltz : (k : Int) < (n4 : Int) := by omega
                  obtain ⟨b, off, c, hbe, hbl, hc, k0, k1, k2, k3, k4, k5, k6, k7⟩ := rdChg_at (HSW.out.r4.keep HB.out) (k := k) (by rw [HSW.out.l4]; exact hlt)
                  have hpl : (s.cons.map GCon.name ++ s.owns ++ s.ctrs.map GCtr.name ++ ((s.chgs.map GChg.name)).take k).length ≤ 1000 := by simp only [List.length_append, List.length_map, List.length_take, List.length_nil, HL.out.1, HL.out.2.1, HL.out.2.2.1, HL.out.2.2.2.1]; omega
                  obtain ⟨ap, v', w5, av, aw, HO1, HA1⟩ := app_str c.name HX.out HB.out.size (by omega)
                  have HX2 : Hid (OwnT w5 W0.heap.size v' (s.cons.map GCon.name ++ s.owns ++ s.ctrs.map GCtr.name ++ ((s.chgs.map GChg.name)).take (k + 1))) := Lib.hid (by
                    have e : ((s.chgs.map GChg.name)).take (k + 1) = ((s.chgs.map GChg.name)).take k ++ [c.name] := take_snoc (by rw [List.getElem?_map, hc]; rfl)
                    rw [e, ← List.append_assoc]
                    exact HO1.out)
                  have HB2 : Hid (Below W0.heap.size W0 w5) := Lib.hid (HB.out.trans HA1.out.bel)
                  subst hbe
                  clear hc HX HB HO1 HA1 hpl
                  go_wp2_with fail
                  go_roundg (n4 - (k + 1))
                  case measure => omega
                  case rel => exact ⟨k + 1, by go_num, by omega, by omega, HX2, HB2⟩
                · have hltz : ¬ (k : Int) < (n4 : Int) := by omega
                  have HX4 : Hid (OwnT wr W0.heap.size u3 (s.cons.map GCon.name ++ s.owns ++ s.ctrs.map GCtr.name ++ (s.chgs.map GChg.name))) := Lib.hid (by
                    have h := HX.out
                    rw [List.take_of_length_le (by rw [List.length_map, HSW.out.l4]; omega)] at h
                    exact h)
                  have HB4 := HB
                  clear HX HB hk hg1 hlt
                  go_wp2_with fail
                  go_loopg [3, 8] n5 (fun g1 v3 v8 wr => ∃ k : Nat, v8 = .int .i64 k ∧ k ≤ n5 ∧ n5 - k ≤ g1 ∧ Hid (OwnT wr W0.heap.size v3 (s.cons.map GCon.name ++ s.owns ++ s.ctrs.map GCtr.name ++ s.chgs.map GChg.name ++ ((s.bays.map GBay.name)).take k)) ∧ Hid (Below W0.heap.size W0 wr))
                  case atStart => exact ⟨0, by go_num, by omega, by omega, Lib.hid (by simpa using HX4.out), HB4⟩
                  case round =>
                    clear HX4 HB4
                    obtain ⟨k, rfl, hk, hg1, HX, HB⟩ := hrel
                    have p04 := (HB.out.cell (p := ⟨w.heap.size, 4, none⟩) hs0).trans q4
                    by_cases hlt : k < n5
                    · have hltz : (k : Int) < (n5 : Int) := by omega
                      obtain ⟨b, off, c, hbe, hbl, hc, k0, k1⟩ := rdBay_at (HSW.out.r5.keep HB.out) (k := k) (by rw [HSW.out.l5]; exact hlt)
                      have hpl : (s.cons.map GCon.name ++ s.owns ++ s.ctrs.map GCtr.name ++ s.chgs.map GChg.name ++ ((s.bays.map GBay.name)).take k).length ≤ 1000 := by simp only [List.length_append, List.length_map, List.length_take, List.length_nil, HL.out.1, HL.out.2.1, HL.out.2.2.1, HL.out.2.2.2.1]; omega
                      obtain ⟨ap, v', w5, av, aw, HO1, HA1⟩ := app_str c.name HX.out HB.out.size (by omega)
                      have HX2 : Hid (OwnT w5 W0.heap.size v' (s.cons.map GCon.name ++ s.owns ++ s.ctrs.map GCtr.name ++ s.chgs.map GChg.name ++ ((s.bays.map GBay.name)).take (k + 1))) := Lib.hid (by
                        have e : ((s.bays.map GBay.name)).take (k + 1) = ((s.bays.map GBay.name)).take k ++ [c.name] := take_snoc (by rw [List.getElem?_map, hc]; rfl)
                        rw [e, ← List.append_assoc]
                        exact HO1.out)
                      have HB2 : Hid (Below W0.heap.size W0 w5) := Lib.hid (HB.out.trans HA1.out.bel)
                      subst hbe
                      clear hc HX HB HO1 HA1 hpl
                      go_wp2_with fail
                      go_roundg (n5 - (k + 1))
                      case measure => omega
                      case rel => exact ⟨k + 1, by go_num, by omega, by omega, HX2, HB2⟩
                    · have hltz : ¬ (k : Int) < (n5 : Int) := by omega
                      have HX5 : Hid (OwnT wr W0.heap.size u3 (s.cons.map GCon.name ++ s.owns ++ s.ctrs.map GCtr.name ++ s.chgs.map GChg.name ++ (s.bays.map GBay.name))) := Lib.hid (by
                        have h := HX.out
                        rw [List.take_of_length_le (by rw [List.length_map, HSW.out.l5]; omega)] at h
                        exact h)
                      have HB5 := HB
                      obtain ⟨a9, d9, e9, r9⟩ := HX5.out.rd encS_len
                      have e10 : (s.cons.map GCon.name ++ s.owns ++ s.ctrs.map GCtr.name ++ s.chgs.map GChg.name ++ s.bays.map GBay.name).length = n1 + n2 + n3 + n4 + n5 := by
                        simp only [List.length_append, List.length_map, HL.out.1, HL.out.2.1, HL.out.2.2.1, HL.out.2.2.2.1, HL.out.2.2.2.2]
                      rw [e10] at e9
                      obtain ⟨L, hL⟩ : ∃ L, L = n1 + n2 + n3 + n4 + n5 := ⟨_, rfl⟩
                      rw [← hL] at e9 e10
                      have hL96 : L ≤ 96 := by omega
                      have hLd : L ≤ d9 := by
                        have h := HX5.out
                        rw [e9] at h
                        exact h.len_le e10
                      have r9' : Rd 1 encS wr a9 (allNames s) := r9
                      have HR9 := Lib.hid r9'
                      have HLN : Hid ((allNames s).length = L) := Lib.hid e10
                      have HBW : Hid (Below w.heap.size w wr) := Lib.hid (below_then HB0.out HB.out)
                      subst e9
                      clear HX HX5 HB HB5 r9 r9' e10 hk hg1 hlt hL
                      go_wp2_with fail
                      have HBZ : Hid (Below wr.heap.size wr wr) := Lib.hid (Below.refl _ _)
                      obtain ⟨W1, hW1⟩ : ∃ W1, W1 = wr := ⟨_, rfl⟩
                      rw [← hW1] at HBZ HBW HR9
                      have HCK : Hid (W1 = wr) := Lib.hid hW1
                      clear hW1
                      go_loopg [9] L (fun g1 v9 wx => ∃ k : Nat, v9 = .int .i64 k ∧ k ≤ L ∧ L - k ≤ g1 ∧ Hid (okNamesP keyL ((allNames s).take k)) ∧ Hid (Below W1.heap.size W1 wx))
                      case atStart => exact ⟨0, by go_num, by omega, by omega, Lib.hid ⟨by simp, by simp⟩, Lib.hid (by rw [HCK.out]; exact Below.refl _ _)⟩
                      case round =>
                        clear HBZ HCK
                        obtain ⟨k, rfl, hk, hg1, HN, HB⟩ := hrel
                        by_cases hlt : k < L
                        · obtain ⟨b, off, x, hbe, hbl, hx, hxc⟩ := rdOwn_at (HR9.out.keep HB.out) (k := k) (by rw [HLN.out]; exact hlt)
                          have hltz : (k : Int) < (L : Int) := by omega
                          have HXK := Lib.hid hx
                          have HSX : Hid (x.size ≤ 9223372036854775807) := Lib.hid (by have := HSZ.out x (List.mem_of_getElem? hx); unfold maxLen at this; omega)
                          have HRX := HR9.out.keep HB.out
                          rw [hbe] at HRX
                          have HRX := Lib.hid (HRX.takeG k)
                          have HLK : Hid (((allNames s).take k).length = k) := Lib.hid (by rw [List.length_take, HLN.out]; omega)
                          have hkd : ¬ d9 < k := by omega
                          have HBA : Hid (Below w.heap.size w wr) := Lib.hid (below_then HBW.out HB.out)
                          subst hbe
                          clear hx
                          go_wp2_with fail
                          refine wp_normal (fun K hK => ?_)
                          refine nmReg_ok wr b off L d9 k (allNames s) x K hbl hxc HRX HLK hlt hltz hL96 hkd HSX _ _ _ _ _ _ _ _ _ _ _ _ _ _ _ _ _ _ _ _ _ _ _ _ _ _ _ _ _ _ _ _ _ _ _ _ _ _ _ _ _ _ _ _ _ _ _ _ _ _ _ _ _ _ _ _ _ _ _ _ _ _ _ _ _ _ _ _ _ _ _ _ _ _ _ _ _ _ _ _ _ _ _ _ _ _ _ _ _ _ _ _ _ _ _ _ _ _ _ _ _ _ _ _ _ _ _ _ _ _ ?_
                          refine Lib.hid ?_
                          intro w5 v96 v97 v98 v99 v100 v101 v102 v103 v104 v105 v106 v107 v108 v109 v110 hb5
                          refine hK _ _ ?_
                          have HB5 := Lib.hid (HB.out.trans (hb5.mono HB.out.size))
                          have HE := Lib.hid (below_then HBA.out hb5)
                          clear hK K hb5 HB HBA hxc HRX HLK hkd HSX
                          obtain ⟨z, hz⟩ : ∃ z, (!okNameB keyL x || inTs ((allNames s).take k) x) = z := ⟨_, rfl⟩
                          rw [hz]
                          have HZ := Lib.hid hz
                          clear hz
                          cases z
                          · have HN2 : Hid (okNamesP keyL ((allNames s).take (k + 1))) := Lib.hid (by
                              have h := HZ.out
                              rw [Bool.or_eq_false_iff, Bool.not_eq_false'] at h
                              rw [take_snoc HXK.out]
                              refine ⟨fun y hy => ?_, ?_⟩
                              · rcases List.mem_append.1 hy with h1 | h1
                                · exact HN.out.1 y h1
                                · rw [List.mem_singleton] at h1; rw [h1]; exact h.1
                              · rw [List.map_append, List.nodup_append]
                                refine ⟨HN.out.2, by simp, fun a ha b2 hb2 hab => ?_⟩
                                simp only [List.map_cons, List.map_nil, List.mem_singleton] at hb2
                                subst hab
                                rw [hb2] at ha
                                obtain ⟨y, hy, hyx⟩ := List.mem_map.1 ha
                                have := inTs_iff.2 ⟨y, hy, hyx⟩
                                rw [h.2] at this
                                cases this)
                            clear HN HZ
                            go_wp2_with fail
                            go_roundg (L - (k + 1))
                            case measure => omega
                            case rel => exact ⟨k + 1, by go_num, by omega, by omega, HN2, HB5⟩
                          · have HF : Hid (false = okNamesB keyL (allNames s)) := Lib.hid (okNamesB_no (fun h => by
                              have hz := HZ.out
                              rw [Bool.or_eq_true, Bool.not_eq_true'] at hz
                              rcases hz with hz | hz
                              · rw [h.1 x (List.mem_of_getElem? HXK.out)] at hz; cases hz
                              · obtain ⟨y, hy, hyx⟩ := inTs_iff.1 hz
                                obtain ⟨i, hi⟩ := List.mem_iff_getElem?.1 hy
                                have hik : i < k := by
                                  have := (List.getElem?_eq_some_iff.1 hi).1
                                  rw [List.length_take] at this; omega
                                rw [List.getElem?_take_of_lt hik] at hi
                                have h2 := h.2
                                have e1 : ((allNames s).map (·.toList))[i]? = some y.toList := by rw [List.getElem?_map, hi]; rfl
                                have e2 : ((allNames s).map (·.toList))[k]? = some y.toList := by rw [List.getElem?_map, HXK.out, hyx]; rfl
                                have l1 := (List.getElem?_eq_some_iff.1 e1)
                                have l2 := (List.getElem?_eq_some_iff.1 e2)
                                obtain ⟨l1, g1⟩ := l1
                                obtain ⟨l2, g2⟩ := l2
                                exact List.pairwise_iff_getElem.1 h2 i k l1 l2 hik (g1.trans g2.symm)))
                            clear HN HZ HB5
                            go_wp2_with fail
                            go_ret
                            exact ⟨ret_bool HF.out, HE.out⟩
                        · have hltz : ¬ (k : Int) < (L : Int) := by omega
                          have HF : Hid (true = okNamesB keyL (allNames s)) := Lib.hid (okNamesB_yes (by
                            have h := HN.out
                            rw [List.take_of_length_le (by rw [HLN.out]; omega)] at h
                            exact h))
                          have HBE : Hid (Below w.heap.size w wr) := Lib.hid (below_then HBW.out HB.out)
                          clear HN HB HBW hlt hk hg1
                          go_wp2_with fail
                          go_ret
                          exact ⟨ret_bool HF.out, HBE.out⟩
end Go.Proofs.YtpkonifeieepfaaGreat
