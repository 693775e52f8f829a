/-
Several texts in one: MapS, ParA, ParB, ParC.
-/
import Derived.Test.YtkbbapefgifagaaGreatDoorGBase
import Derived.Maps.Own
import Derived.Maps.Views
import Derived.Maps.OwnSet
import Derived.Test.YtkbbapefgifagaaGreatDoorGLApp
import Derived.Test.YtkbbapefgifagaaGreatDoorGLSM
import Derived.Deep.QuietTactic
/-
A set that the call makes: map[string]bool | map[int]bool, filled by 'm[x] = true', asked by 'm[x]'.
-/
namespace Go.Proofs.YtkbbapefgifagaaGreatDoor
open Go.RowKit Go.Maps
set_option linter.unusedVariables false
noncomputable def inS (l : List Lit) (kl : Lit) : Bool := @decide (kl ∈ l) (Classical.propDecidable _)
theorem inS_iff {l : List Lit} {kl : Lit} : inS l kl = true ↔ kl ∈ l := @decide_eq_true_iff _ (Classical.propDecidable _)
theorem inS_no {l : List Lit} {kl : Lit} (h : ¬ kl ∈ l) : inS l kl = false := by
  cases e : inS l kl
  · rfl
  · exact absurd (inS_iff.1 e) h
section
variable {P : Program} {t k e : TypeId}
theorem plainElem_bool_inv {e : TypeId} (he : P.underlying e = some .bool) {v : Value} {z : DataW Unit × List MemPlace} (h : plainElem P e v = some z) : ∃ b, v = .bool b ∧ z = (.lit (.bool b), []) := by
  unfold plainElem at h
  rw [he] at h
  cases v <;> simp at h
  exact ⟨_, rfl, h.symm⟩
/-- Block b is a map that holds exactly the keys of l, each with true; at most n of them. -/
def SetM (P : Program) (k e : TypeId) (w : World) (b n : Nat) (l : List Lit) : Prop :=
  ∃ D : DataW Unit, w.ownsMap P k (plainElem P e) b n D ∧ ∀ kl, WideAt.IsKeyLit kl → D.atKey kl (.lit (.bool false)) = .lit (.bool (inS l kl))
theorem SetM.made (w : World) : SetM P k e (w.alloc (.map #[] 0)) w.heap.size 0 [] := by
  refine ⟨.map [], World.ownsMap_made w P k _, fun kl _ => ?_⟩
  rw [inS_no (by simp)]
  rfl
theorem SetM.lt {w : World} {b n : Nat} {l : List Lit} (h : SetM P k e w b n l) : b < w.heap.size := by
  obtain ⟨D, h1, _⟩ := h
  exact h1.lt
theorem SetM.keep {w w' : World} {b n : Nat} {l : List Lit} (h : SetM P k e w b n l) (hb : Below w.heap.size w w') : SetM P k e w' b n l := by
  obtain ⟨D, ⟨es, clock, h1, h2⟩, h3⟩ := h
  have hlt := World.ownsMap.lt ⟨es, clock, h1, h2⟩
  exact ⟨D, ⟨es, clock, (hb.block b hlt).trans h1, h2⟩, h3⟩
theorem SetM.look {w : World} {b n : Nat} {l : List Lit} (h : SetM P k e w b n l) (K : Keyed P k) (ht : P.underlying t = some (.map k e)) (he : P.underlying e = some .bool) (hz : (zeroValue e).run P w = .ok (.bool false) w) {key : Value} {kl : Lit} (hkey : keyOf P k key = some kl) (hkl : WideAt.IsKeyLit kl) :
    (Instr.lookup t (.map (some b)) key false).run P w = .ok (.bool (inS l kl)) w := by
  obtain ⟨D, h1, h2⟩ := h
  obtain ⟨v, ps, hrun, hv⟩ := h1.lookup K ht hz (plainElem_bool he false) hkey
  obtain ⟨c, rfl, hc⟩ := plainElem_bool_inv he hv
  rw [h2 kl hkl] at hc
  injection hc with hc
  injection hc with hc
  injection hc with hc
  rw [hrun, ← hc]
theorem SetM.put {w : World} {b n : Nat} {l : List Lit} (h : SetM P k e w b n l) (K : Keyed P k) (ht : P.underlying t = some (.map k e)) (he : P.underlying e = some .bool) (hn : n < 1000000) {key : Value} {kl : Lit} (hkey : keyOf P k key = some kl) (hkl : WideAt.IsKeyLit kl) :
    ∃ w', (Instr.mapUpdate t (.map (some b)) key (.bool true)).run P w = .ok () w' ∧ Hid (SetM P k e w' b (n + 1) (l ++ [kl])) ∧ Hid (Mod (fun q => q = b) w w') := by
  obtain ⟨D, h1, h2⟩ := h
  obtain ⟨w', hrun, ho, hg⟩ := h1.update K ht (by unfold maxLen; omega) hkey (plainElem_bool he true)
  have hm : IsMap D := h1.isMap
  refine ⟨w', hrun, Lib.hid ⟨_, ho, fun kl' hk' => ?_⟩, Lib.hid ⟨hg.os, hg.tape, hg.output, hg.size, fun q hq hne => hg.block q hq (fun e => hne (by injection e))⟩⟩
  by_cases e1 : kl' = kl
  · subst e1
    rw [atKey_put_same hm hkl, inS_iff.2 (by simp)]
  · rw [atKey_put_other e1, h2 kl' hk']
    congr 2
    rw [Bool.eq_iff_iff, inS_iff, inS_iff, List.mem_append, List.mem_singleton]
    exact ⟨fun h => .inl h, fun h => h.elim id (fun h => absurd h e1)⟩
end
end Go.Proofs.YtkbbapefgifagaaGreatDoor
/-
Words of the parser: kinds, keys, names; walked.
-/
namespace Go.Proofs.YtkbbapefgifagaaGreatDoor
open Go.RowKit
set_option linter.unusedVariables false
set_option linter.unusedSimpArgs false
set_option maxRecDepth 100000 in
set_option maxHeartbeats 4000000 in
theorem paKind_any (s : ByteArray) (w : World) : Calls Tryz.prog 132 #[.string s] w fun e w' => ∃ n : Int, e = .returned (.int .i64 n) ∧ (n = 0 ↔ ¬ s.toList ∈ kindL) ∧ w' = w := by
  go_enter Tryz.func132, Tryz.ntmps132
  go_wp2
  all_goals
    go_ret
    first | exact ⟨_, rfl, by simp_all [kindL], rfl⟩ | (simp_all [kindL]; done)
noncomputable def inB (l : List (List UInt8)) (s : ByteArray) : Bool := @decide (s.toList ∈ l) (Classical.propDecidable _)
theorem inB_iff {l : List (List UInt8)} {s : ByteArray} : inB l s = true ↔ s.toList ∈ l := @decide_eq_true_iff _ (Classical.propDecidable _)
theorem inB_of {l : List (List UInt8)} {s : ByteArray} {b : Bool} (h : b = true ↔ s.toList ∈ l) : b = inB l s := by
  rw [Bool.eq_iff_iff, inB_iff]; exact h
set_option maxRecDepth 100000 in
set_option maxHeartbeats 4000000 in
theorem paAttr_any (s : ByteArray) (w : World) : Calls Tryz.prog 129 #[.string s] w fun e w' => e = .returned (.bool (inB attrL s)) ∧ w' = w := by
  go_enter Tryz.func129, Tryz.ntmps129
  go_wp2
  all_goals
    go_ret
    first | exact ⟨ret_bool (inB_of (by simp_all [attrL])), rfl⟩ | (exfalso; simp_all; done)
set_option maxRecDepth 100000 in
set_option maxHeartbeats 4000000 in
theorem paArt_any (s : ByteArray) (w : World) : Calls Tryz.prog 130 #[.string s] w fun e w' => e = .returned (.bool (inB artL s)) ∧ w' = w := by
  go_enter Tryz.func130, Tryz.ntmps130
  go_wp2
  all_goals
    go_ret
    first | exact ⟨ret_bool (inB_of (by simp_all [artL])), rfl⟩ | (exfalso; simp_all; done)
set_option maxRecDepth 100000 in
set_option maxHeartbeats 4000000 in
theorem paIsWord_any (s : ByteArray) (w : World) : Calls Tryz.prog 133 #[.string s] w fun e w' => e = .returned (.bool (inB wordL s)) ∧ w' = w := by
  go_enter Tryz.func133, Tryz.ntmps133
  go_wp2
  all_goals
    go_ret
    first | exact ⟨ret_bool (inB_of (by simp_all [wordL])), rfl⟩ | (exfalso; simp_all; done)
set_option maxRecDepth 100000 in
set_option maxHeartbeats 4000000 in
theorem paKey_any (s : ByteArray) (w : World) : Calls Tryz.prog 128 #[.string s] w fun e w' => e = .returned (.bool (inB keyL s)) ∧ w' = w := by
  have HE : Hid (s.toList ∈ keyL ↔ (s.toList ∈ kindL ∨ s.toList ∈ attrL ∨ s.toList ∈ artL ∨ s.toList ∈ wordL)) := Lib.hid (by unfold keyL; simp only [List.mem_append, or_assoc])
  go_enter Tryz.func128, Tryz.ntmps128
  go_wp2_with fail
  refine (paKind_any s w).mono ?_
  rintro e w1 ⟨n, rfl, hn, rfl⟩
  have HN := Lib.hid hn
  clear hn
  by_cases h0 : n = 0
  · have hz : (n != 0) = false := by simp [h0]
    have HK : Hid (¬ s.toList ∈ kindL) := Lib.hid (HN.out.1 h0)
    clear h0
    go_wp2_with fail
    refine (paAttr_any s w1).mono ?_
    rintro e w2 ⟨rfl, rfl⟩
    cases h1 : inB attrL s
    · go_wp2_with fail
      refine (paArt_any s w2).mono ?_
      rintro e w3 ⟨rfl, rfl⟩
      cases h2 : inB artL s
      · go_wp2_with fail
        refine (paIsWord_any s w3).mono ?_
        rintro e w4 ⟨rfl, rfl⟩
        have HF : Hid (inB wordL s = inB keyL s) := Lib.hid (inB_of (by
          have a1 : ¬ s.toList ∈ attrL := fun h => by rw [inB_iff.2 h] at h1; cases h1
          have a2 : ¬ s.toList ∈ artL := fun h => by rw [inB_iff.2 h] at h2; cases h2
          rw [HE.out, inB_iff]
          exact ⟨fun h => .inr (.inr (.inr h)), fun h => h.elim (fun h => absurd h HK.out) (fun h => h.elim (fun h => absurd h a1) (fun h => h.elim (fun h => absurd h a2) id))⟩))
        go_wp2_with fail
        go_ret
        exact ⟨ret_bool HF.out, rfl⟩
      · have HF : Hid (true = inB keyL s) := Lib.hid (inB_of (by rw [HE.out]; exact ⟨fun _ => .inr (.inr (.inl (inB_iff.1 h2))), fun _ => rfl⟩))
        go_wp2_with fail
        go_ret
        exact ⟨ret_bool HF.out, rfl⟩
    · have HF : Hid (true = inB keyL s) := Lib.hid (inB_of (by rw [HE.out]; exact ⟨fun _ => .inr (.inl (inB_iff.1 h1)), fun _ => rfl⟩))
      go_wp2_with fail
      go_ret
      exact ⟨ret_bool HF.out, rfl⟩
  · have hz : (n != 0) = true := by simp [h0]
    have HF : Hid (true = inB keyL s) := Lib.hid (inB_of (by
      rw [HE.out]
      exact ⟨fun _ => .inl (Classical.byContradiction fun h => h0 (HN.out.2 h)), fun _ => rfl⟩))
    clear h0
    go_wp2_with fail
    go_ret
    exact ⟨ret_bool HF.out, rfl⟩
end Go.Proofs.YtkbbapefgifagaaGreatDoor
/-
Names of the parser and of a site; walked.
-/
namespace Go.Proofs.YtkbbapefgifagaaGreatDoor
open Go.RowKit
set_option linter.unusedVariables false
set_option linter.unusedSimpArgs false
theorem idx_str {P : Program} {t : TypeId} (h : P.underlying t = some .string) {s : ByteArray} {k : Nat} (hk : k < s.size) (w : World) : (Instr.index t (.string s) (.int .i64 (k : Int))).run P w = .ok (.int .u8 (byteAt s k)) w := by
  rw [run_index_string w t s .i64 (k : Int) h, dif_pos ⟨by omega, by omega⟩]
  unfold byteAt
  rw [ByteArray.getElem?_lt' s _ (by omega)]
  rfl
noncomputable def okWordB (s : ByteArray) : Bool := @decide (okWord s) (Classical.propDecidable _)
theorem okWordB_iff {s : ByteArray} : okWordB s = true ↔ okWord s := @decide_eq_true_iff _ (Classical.propDecidable _)
theorem okWordB_no {s : ByteArray} (h : ¬ okWord s) : okWordB s = false := by
  cases e : okWordB s
  · rfl
  · exact absurd (okWordB_iff.1 e) h
set_option maxRecDepth 100000 in
set_option maxHeartbeats 4000000 in
theorem paWord_any (s : ByteArray) (w : World) (hs : s.size ≤ 9223372036854775807) : Calls Tryz.prog 127 #[.string s] w fun e w' => e = .returned (.bool (okWordB s)) ∧ w' = w := by
  obtain ⟨n, hn⟩ : ∃ n, s.size = n := ⟨_, rfl⟩
  have HN := Lib.hid hn
  by_cases c1 : 1 ≤ n
  case neg =>
    have HF : Hid (okWordB s = false) := Lib.hid (okWordB_no (fun h => c1 (by rw [← hn]; exact h.1)))
    have z1 : (n : Int) < 1 := by omega
    go_enter Tryz.func127, Tryz.ntmps127
    go_wp2_with fail
    go_ret
    exact ⟨ret_bool HF.out.symm, rfl⟩
  have z1 : ¬ (n : Int) < 1 := by omega
  have hi := idx_str (P := Tryz.prog) (t := 9) Tryz.underlying9 (s := s) (k := 0) (by omega)
  obtain ⟨b, hb⟩ : ∃ b, byteAt s 0 = b := ⟨_, rfl⟩
  have HB := Lib.hid hb
  rw [hb] at hi
  have hi0 : ∀ w : World, (Instr.index 9 (.string s) (.int .i64 0)).run Tryz.prog w = .ok (.int .u8 (b : Nat)) w := hi
  clear hb hi
  by_cases c2 : n ≤ 12
  case neg =>
    have HF : Hid (okWordB s = false) := Lib.hid (okWordB_no (fun h => c2 (by rw [← hn]; exact h.2.1)))
    have z2 : (12 : Int) < (n : Int) := by omega
    go_enter Tryz.func127, Tryz.ntmps127
    go_wp2_with fail
    go_ret
    exact ⟨ret_bool HF.out.symm, rfl⟩
  have z2 : ¬ (12 : Int) < (n : Int) := by omega
  by_cases c3 : 97 ≤ b
  case neg =>
    have HF : Hid (okWordB s = false) := Lib.hid (okWordB_no (fun h => c3 (by have := h.2.2.1; unfold lowN at this; rw [HB.out] at this; exact this.1)))
    have z3 : (b : Int) < 97 := by omega
    go_enter Tryz.func127, Tryz.ntmps127
    go_wp2_with fail
    go_ret
    exact ⟨ret_bool HF.out.symm, rfl⟩
  have z3 : ¬ (b : Int) < 97 := by omega
  by_cases c4 : b ≤ 122
  case neg =>
    have HF : Hid (okWordB s = false) := Lib.hid (okWordB_no (fun h => c4 (by have := h.2.2.1; unfold lowN at this; rw [HB.out] at this; exact this.2)))
    have z4 : (122 : Int) < (b : Int) := by omega
    go_enter Tryz.func127, Tryz.ntmps127
    go_wp2_with fail
    go_ret
    exact ⟨ret_bool HF.out.symm, rfl⟩
  have z4 : ¬ (122 : Int) < (b : Int) := by omega
  have HLOW : Hid (lowN (byteAt s 0)) := Lib.hid (by rw [HB.out]; exact ⟨c3, c4⟩)
  go_enter Tryz.func127, Tryz.ntmps127
  go_wp2_with fail
  clear hi0 z3 z4 c3 c4
  go_loopg [3, 4] n (fun g1 v3 v4 wr => ∃ k : Nat, v3 = .int .i64 k ∧ 1 ≤ k ∧ k ≤ n ∧ n - k ≤ g1 ∧ Hid (∀ i, 0 < i → i < k → partN (byteAt s i)) ∧ Hid (wr = w))
  case atStart => exact ⟨1, by go_num, by omega, by omega, by omega, Lib.hid (fun i h0 hi => by omega), Lib.hid rfl⟩
  case round =>
    obtain ⟨k, rfl, hk1, hk, hg1, HA, HW⟩ := hrel
    by_cases hlt : k < n
    · have hltz : (k : Int) < (n : Int) := by omega
      have hik := idx_str (P := Tryz.prog) (t := 9) Tryz.underlying9 (s := s) (k := k) (by omega)
      obtain ⟨x, hx⟩ : ∃ x, byteAt s k = x := ⟨_, rfl⟩
      rw [hx] at hik
      have HX := Lib.hid hx
      clear hx
      by_cases hp : partN x
      · have HA2 : Hid (∀ i, 0 < i → i < k + 1 → partN (byteAt s i)) := Lib.hid (fun i h0 hi => by
          by_cases e : i = k
          · subst e; rw [HX.out]; exact hp
          · exact HA.out i h0 (by omega))
        have HCASE : Hid ((97 ≤ x ∧ x ≤ 122) ∨ (¬ (97 ≤ x ∧ x ≤ 122) ∧ (48 ≤ x ∧ x ≤ 57)) ∨ x = 95) := Lib.hid (by unfold partN at hp; omega)
        clear hp HA
        rcases HCASE.out with ⟨a1, a2⟩ | ⟨a0, a1, a2⟩ | a0
        · have y1 : (97 : Int) ≤ (x : Int) := by omega
          have y2 : (x : Int) ≤ 122 := by omega
          clear HCASE
          go_wp2_with fail
          go_roundg (n - (k + 1))
          case measure => omega
          case rel => exact ⟨k + 1, by go_num, by omega, by omega, by omega, HA2, HW⟩
        · have y0 : ¬ (97 : Int) ≤ (x : Int) := by omega
          have y1 : (48 : Int) ≤ (x : Int) := by omega
          have y2 : (x : Int) ≤ 57 := by omega
          clear HCASE a0
          go_wp2_with fail
          go_roundg (n - (k + 1))
          case measure => omega
          case rel => exact ⟨k + 1, by go_num, by omega, by omega, by omega, HA2, HW⟩
        · subst a0
          clear HCASE
          go_wp2_with fail
          go_roundg (n - (k + 1))
          case measure => omega
          case rel => exact ⟨k + 1, by go_num, by omega, by omega, by omega, HA2, HW⟩
      · have HF : Hid (okWordB s = false) := Lib.hid (okWordB_no (fun h => hp (by rw [← HX.out]; exact h.2.2.2 k (by omega) (by rw [HN.out]; exact hlt))))
        have HCASE : Hid ((x < 48) ∨ (57 < x ∧ x < 97 ∧ x ≠ 95) ∨ 122 < x) := Lib.hid (by unfold partN at hp; omega)
        clear hp HA
        rcases HCASE.out with a1 | ⟨a1, a2, a3⟩ | a1
        · have y0 : ¬ (97 : Int) ≤ (x : Int) := by omega
          have y1 : ¬ (48 : Int) ≤ (x : Int) := by omega
          have y2 : ((x : Int) == 95) = false := by simp; omega
          clear HCASE
          go_wp2_with fail
          go_ret
          exact ⟨ret_bool HF.out.symm, HW.out⟩
        · have y0 : ¬ (97 : Int) ≤ (x : Int) := by omega
          have y1 : (48 : Int) ≤ (x : Int) := by omega
          have y3 : ¬ (x : Int) ≤ 57 := by omega
          have y2 : ((x : Int) == 95) = false := by simp; omega
          clear HCASE
          go_wp2_with fail
          go_ret
          exact ⟨ret_bool HF.out.symm, HW.out⟩
        · have y0 : (97 : Int) ≤ (x : Int) := by omega
          have y4 : ¬ (x : Int) ≤ 122 := by omega
          have y1 : (48 : Int) ≤ (x : Int) := by omega
          have y3 : ¬ (x : Int) ≤ 57 := by omega
          have y2 : ((x : Int) == 95) = false := by simp; omega
          clear HCASE
          go_wp2_with fail
          go_ret
          exact ⟨ret_bool HF.out.symm, HW.out⟩
    · have hltz : ¬ (k : Int) < (n : Int) := by omega
      have HT : Hid (okWordB s = true) := Lib.hid (okWordB_iff.2 ⟨by rw [HN.out]; exact c1, by rw [HN.out]; exact c2, HLOW.out, fun i h0 hi => HA.out i h0 (by rw [HN.out] at hi; omega)⟩)
      clear HA
      go_wp2_with fail
      go_ret
      exact ⟨ret_bool HT.out.symm, HW.out⟩
set_option maxRecDepth 100000 in
set_option maxHeartbeats 4000000 in
theorem paGood_any (s : ByteArray) (w : World) (hs : s.size ≤ 9223372036854775807) : Calls Tryz.prog 125 #[.string s] w fun e w' => e = .returned (.bool (okNameB keyL s)) ∧ w' = w := by
  go_enter Tryz.func125, Tryz.ntmps125
  go_wp2_with fail
  refine (paWord_any s w hs).mono ?_
  rintro e w1 ⟨rfl, rfl⟩
  cases h1 : okWordB s
  · have HF : Hid (okNameB keyL s = false) := Lib.hid (okNameB_no (fun h => by rw [okWordB_iff.2 h.1] at h1; cases h1))
    clear h1
    go_wp2_with fail
    go_ret
    exact ⟨ret_bool HF.out.symm, rfl⟩
  · have HW := Lib.hid (okWordB_iff.1 h1)
    clear h1
    go_wp2_with fail
    refine (paKey_any s w1).mono ?_
    rintro e w2 ⟨rfl, rfl⟩
    have HF : Hid ((!inB keyL s) = okNameB keyL s) := Lib.hid (by
      rw [Bool.eq_iff_iff, okNameB_iff, Bool.not_eq_true']
      constructor
      · intro h; exact ⟨HW.out, fun hm => by rw [inB_iff.2 hm] at h; cases h⟩
      · intro h
        cases hk : inB keyL s
        · rfl
        · exact absurd (inB_iff.1 hk) h.2)
    go_wp2_with fail
    go_ret
    exact ⟨ret_bool HF.out, rfl⟩
end Go.Proofs.YtkbbapefgifagaaGreatDoor
/-
parser.Valid of a source with one item, and a site's goodName; walked.
-/
namespace Go.Proofs.YtkbbapefgifagaaGreatDoor
open Go.RowKit
set_option linter.unusedVariables false
set_option linter.unusedSimpArgs false
set_option maxRecDepth 100000 in
set_option maxHeartbeats 8000000 in
theorem paItem_any (s : ByteArray) (bl : Nat) (x : Int) (w : World) (hs : s.size ≤ 9223372036854775807) (hc : w.cell? ⟨bl, 0, none⟩ = some (.int .i64 x)) (hf : w.frozen? ⟨bl, 0, none⟩ = false) (hx0 : 0 ≤ x) (hx1 : x ≤ 2000) :
    Calls Tryz.prog 121 #[.agg #[.int .i64 2, .string s, .int .i64 3, .int .i64 0, .slice none 0 0], .pointer (some ⟨bl, 0, none⟩)] w fun e w' => e = .returned (.bool (okNameB keyL s)) ∧ Mod (fun q => q = bl) w w' := by
  have lb := World.block_lt_of_cell? w _ hc
  dsimp only at lb
  have HGOOD := Lib.hid (fun w => paGood_any s w hs)
  go_enter Tryz.func121, Tryz.ntmps121
  go_wp2_with fail
  refine (HGOOD.out _).mono ?_
  rintro e w1 ⟨rfl, rfl⟩
  cases hg : okNameB keyL s
  · have HF := Lib.hid hg
    clear hg
    go_wp2_with fail
    go_ret
    exact ⟨ret_bool HF.out.symm, (Mod.refl _ w).alloc _⟩
  · have HG := Lib.hid hg
    clear hg
    have hc2 : (w.alloc (.cells #[.int .i64 2, .string s, .int .i64 3, .int .i64 0, .slice none 0 0] 198)).cell? ⟨bl, 0, none⟩ = some (.int .i64 x) := (((Below.refl _ w).alloc (Nat.le_refl _) _).cell (p := ⟨bl, 0, none⟩) lb).trans hc
    have hf2 : (w.alloc (.cells #[.int .i64 2, .string s, .int .i64 3, .int .i64 0, .slice none 0 0] 198)).frozen? ⟨bl, 0, none⟩ = false := (((Below.refl _ w).alloc (Nat.le_refl _) _).frozen (p := ⟨bl, 0, none⟩) lb).trans hf
    have hne : bl ≠ w.heap.size := by omega
    have h37 : (w.setCell ⟨bl, 0, none⟩ (.int .i64 x)).cell? ⟨bl, 0, none⟩ = some (.int .i64 x) := World.cell?_setCell_same _ _ _ hc
    clear hc hf
    have hxn : ¬ x < 0 := by omega
    go_wp2_with fail
    go_big_region
    go_wp2_with fail
    have HMD : Hid (Mod (fun q => q = bl) w (((w.setCell ⟨bl, 0, none⟩ (.int .i64 x)).alloc (.cells #[.int .i64 2, .string s, .int .i64 3, .int .i64 0, .slice none 0 0] 198)).drew)) := Lib.hid (((Mod.refl (fun q => q = bl) w).setCell (p := ⟨bl, 0, none⟩) (.inl rfl) _).alloc _).drew
    go_loopg [5, 7, 42] 0 (fun g1 v5 v7 v42 wr => v42 = .int .i64 0 ∧ v5 = .bool false ∧ Hid (Mod (fun q => q = bl) w wr))
    case atStart => exact ⟨by go_num, rfl, HMD⟩
    case round =>
      obtain ⟨rfl, rfl, HM⟩ := hrel
      go_wp2_with fail
      go_ret
      exact ⟨ret_bool HG.out.symm, HM.out⟩
set_option maxRecDepth 100000 in
set_option maxHeartbeats 8000000 in
theorem paValid_one (s : ByteArray) (b : Nat) (w : World) (hs : s.size ≤ 9223372036854775807) (k0 : w.cell? ⟨b, 0, none⟩ = some (.int .i64 2)) (k1 : w.cell? ⟨b, 1, none⟩ = some (.string s)) (k2 : w.cell? ⟨b, 2, none⟩ = some (.int .i64 3)) (k3 : w.cell? ⟨b, 3, none⟩ = some (.int .i64 0)) (k4 : w.cell? ⟨b, 4, none⟩ = some (.slice none 0 0)) :
    Calls Tryz.prog 110 #[.agg #[.int .i64 1, .string ByteArray.empty, .int .i64 0, .int .i64 0, .slice (some ⟨b, 0, none⟩) 1 1]] w fun e w' => e = .returned (.bool (okNameB keyL s)) ∧ Below w.heap.size w w' := by
  have lb := World.block_lt_of_cell? w _ k0
  dsimp only at lb
  go_enter Tryz.func110, Tryz.ntmps110
  go_wp2_with fail
  go_loopg [5, 30] 1 (fun g1 v5 v30 wr => ∃ k : Nat, v30 = .int .i64 k ∧ k ≤ 1 ∧ 1 - k ≤ g1 ∧ Hid (k = 1 → okNameB keyL s = true) ∧ Hid (Below w.heap.size w wr) ∧ Hid ((wr.cell? ⟨w.heap.size + 1, 0, none⟩ = some (.int .i64 1498) ∧ wr.frozen? ⟨w.heap.size + 1, 0, none⟩ = false) ∨ k = 1))
  case atStart => exact ⟨0, by go_num, by omega, by omega, Lib.hid (fun h => by omega), Lib.hid (((Below.refl _ w).alloc (Nat.le_refl _) _).alloc (by simp) _), Lib.hid (.inl ⟨by go_simp, by go_simp⟩)⟩
  case round =>
    obtain ⟨k, rfl, hk, hg1, HT, HB, HL⟩ := hrel
    by_cases hlt : k < 1
    · have hk0 : k = 0 := by omega
      subst hk0
      obtain ⟨hc, hfz⟩ : wr.cell? ⟨w.heap.size + 1, 0, none⟩ = some (.int .i64 1498) ∧ wr.frozen? ⟨w.heap.size + 1, 0, none⟩ = false := by
        rcases HL.out with h | h
        · exact h
        · omega
      have q0 := (HB.out.cell (p := ⟨b, 0, none⟩) lb).trans k0
      have q1 := (HB.out.cell (p := ⟨b, 1, none⟩) lb).trans k1
      have q2 := (HB.out.cell (p := ⟨b, 2, none⟩) lb).trans k2
      have q3 := (HB.out.cell (p := ⟨b, 3, none⟩) lb).trans k3
      have q4 := (HB.out.cell (p := ⟨b, 4, none⟩) lb).trans k4
      have lc := World.block_lt_of_cell? wr _ hc
      dsimp only at lc
      have al : Below wr.heap.size wr (wr.alloc (.cells #[.int .i64 2, .string s, .int .i64 3, .int .i64 0, .slice none 0 0] 198)) := (Below.refl _ _).alloc (Nat.le_refl _) _
      have hCall := Lib.hid (paItem_any s (w.heap.size + 1) 1498 (wr.alloc (.cells #[.int .i64 2, .string s, .int .i64 3, .int .i64 0, .slice none 0 0] 198)) hs ((al.cell (p := ⟨w.heap.size + 1, 0, none⟩) lc).trans hc) ((al.frozen (p := ⟨w.heap.size + 1, 0, none⟩) lc).trans hfz) (by omega) (by omega))
      have HBA := Lib.hid (HB.out.trans (al.mono HB.out.size))
      clear hc HT HL k0 k1 k2 k3 k4 al
      go_wp2_with fail
      refine hCall.out.mono ?_
      rintro e w6 ⟨rfl, hm⟩
      have HB6 : Hid (Below w.heap.size w w6) := Lib.hid (HBA.out.trans (hm.below HBA.out.size (fun q _ hq => by omega)))
      cases hg : okNameB keyL s
      · have HF := Lib.hid hg
        clear hg
        go_wp2_with fail
        go_ret
        exact ⟨ret_bool HF.out.symm, HB6.out⟩
      · have HF := Lib.hid hg
        clear hg
        go_wp2_with fail
        go_roundg 0
        case measure => omega
        case rel => exact ⟨1, by go_num, by omega, by omega, Lib.hid (fun _ => HF.out), HB6, Lib.hid (.inr rfl)⟩
    · have hk1 : k = 1 := by omega
      subst hk1
      have HF := Lib.hid (HT.out rfl)
      go_wp2_with fail
      go_ret
      exact ⟨ret_bool HF.out.symm, HB.out⟩
set_option maxRecDepth 100000 in
set_option maxHeartbeats 8000000 in
theorem stGood_any (s : ByteArray) (w : World) (hs : s.size ≤ 9223372036854775807) : Calls Tryz.prog 99 #[.string s] w fun e w' => e = .returned (.bool (okNameB keyL s)) ∧ Below w.heap.size w w' := by
  obtain ⟨W, hW⟩ : ∃ W, W = (w.alloc (.cells #[.int .i64 2, .string s, .int .i64 3, .int .i64 0, .slice none 0 0] 198)).alloc (.cells #[.int .i64 2, .string s, .int .i64 3, .int .i64 0, .slice none 0 0] 198) := ⟨_, rfl⟩
  have hb : Below w.heap.size w W := by rw [hW]; exact ((Below.refl _ w).alloc (Nat.le_refl _) _).alloc (by simp) _
  have hc := Lib.hid (paValid_one s (w.heap.size + 1) W hs (by rw [hW]; go_simp) (by rw [hW]; go_simp) (by rw [hW]; go_simp) (by rw [hW]; go_simp) (by rw [hW]; go_simp))
  have HW := Lib.hid hW.symm
  have HB := Lib.hid hb
  clear hW hb
  go_enter Tryz.func99, Tryz.ntmps99
  go_wp2_with fail
  rw [HW.out]
  refine hc.out.mono ?_
  rintro e w1 ⟨rfl, hb1⟩
  have HF := Lib.hid (HB.out.trans (hb1.mono HB.out.size))
  go_wp2_with fail
  go_ret
  exact ⟨rfl, HF.out⟩
end Go.Proofs.YtkbbapefgifagaaGreatDoor
