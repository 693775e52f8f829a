/-
Contracts of plan.sum and plan.marks.
-/
import Derived.Test.YtmmmgafnmpaohaaCPlanA
import Derived.Test.YtmmmgafnmpaohaaCFlowR2
namespace Go.Proofs.Ytmmmgafnmpaohaa
open Go.RowKit
set_option linter.unusedVariables false
theorem S_bound3 {xs : List Int} {k : Nat} (h : ∀ i, i < xs.length → -1000000 ≤ fAt xs i ∧ fAt xs i ≤ 1000000) (hk : k ≤ xs.length) (hl : xs.length ≤ 1000000) : -1000000000000 ≤ S k (fAt xs) ∧ S k (fAt xs) ≤ 1000000000000 := by
  have h1 := S_bound (n := k) (c := 1000000) (fun i hi => (h i (by omega)).2)
  have h2 := S_lower (n := k) (c := -1000000) (fun i hi => (h i (by omega)).1)
  omega
set_option maxRecDepth 100000 in
set_option maxHeartbeats 1600000 in
theorem plSum_any (A : Option Addr) (c N : Nat) (xs : List Int) (w : World) (hR : Rd 1 encI w A xs) (HN : Hid (xs.length = N)) (hl : N ≤ 1000000) (hx : ∀ i, i < xs.length → -1000000 ≤ fAt xs i ∧ fAt xs i ≤ 1000000) :
    Calls Try.prog 38 #[.slice A N c] w fun e w' => e = .returned (.int .i64 (S xs.length (fAt xs))) ∧ w' = w := by
  have HR := Lib.hid hR
  have HX := Lib.hid hx
  clear hR hx
  go_enter Try.func38, Try.ntmps38
  go_wp2
  go_loopg [3, 8] N (fun g1 v3 v8 wr => ∃ k : Nat, v8 = .int .i64 k ∧ k ≤ N ∧ N - k ≤ g1 ∧ v3 = .int .i64 (S k (fAt xs)) ∧ w = wr)
  case atStart => exact ⟨0, by go_num, by omega, by omega, by go_num, rfl⟩
  case round =>
    obtain ⟨k, rfl, hk, hg1, rfl, rfl⟩ := hrel
    have bk := S_bound3 HX.out (k := k) (by rw [HN.out]; exact hk) (by rw [HN.out]; exact hl)
    by_cases hlt : k < N
    · have hltz : (k : Int) < (N : Int) := by omega
      obtain ⟨b, off, hA, hbl, hc0⟩ := HR.out.int (k := k) (by rw [HN.out]; exact hlt)
      subst hA
      have hc1 : w.cell? ⟨b, off + k, none⟩ = some (.int .i64 (fAt xs k)) := hc0
      have bx := HX.out k (by rw [HN.out]; exact hlt)
      have Hs : Hid (S (k + 1) (fAt xs) = S k (fAt xs) + fAt xs k) := Lib.hid (S_succ _ _)
      clear hc0
      generalize S k (fAt xs) = sk at *
      generalize fAt xs k = x at *
      go_wp2
      go_roundg (N - (k + 1))
      case measure => omega
      case rel => exact ⟨k + 1, by go_num, by omega, by omega, by rw [Hs.out], rfl⟩
    · have hltz : ¬ (k : Int) < (N : Int) := by omega
      have hkN : k = N := by omega
      have Hk : Hid (S k (fAt xs) = S xs.length (fAt xs)) := Lib.hid (by rw [HN.out, hkN])
      clear hkN
      go_wp2
      go_ret
      exact ⟨ret_int Hk.out, rfl⟩
theorem plSum_two (a b : Int) (w : World) (ha : -1000000 ≤ a ∧ a ≤ 1000000) (hb : -1000000 ≤ b ∧ b ≤ 1000000) :
    Calls Try.prog 38 #[.slice (some ⟨w.heap.size, 0, none⟩) 2 2] (w.alloc (.cells #[.int .i64 a, .int .i64 b] 3)) fun e w' => e = .returned (.int .i64 (a + b)) ∧ w' = w.alloc (.cells #[.int .i64 a, .int .i64 b] 3) := by
  have hr : Rd 1 encI (w.alloc (.cells #[.int .i64 a, .int .i64 b] 3)) (some ⟨w.heap.size, 0, none⟩) [a, b] :=
    (Own.new w 3 #[.int .i64 a, .int .i64 b] undef).rd (Nat.le_refl _) (fun _ => rfl) (fun k x hx j v hv => by
      have hj : j = 0 := by have := (List.getElem?_eq_some_iff.1 hv).1; simp [encI] at this; exact this
      subst hj
      have hk : k < 2 := (List.getElem?_eq_some_iff.1 hx).1
      match k, hk with
      | 0, _ => simp at hx; subst hx; simpa [encI] using hv
      | 1, _ => simp at hx; subst hx; simpa [encI] using hv)
  refine (plSum_any _ 2 2 [a, b] _ hr (Lib.hid rfl) (by omega) (fun i hi => ?_)).mono ?_
  · have : i < 2 := hi
    match i, this with
    | 0, _ => exact ha
    | 1, _ => exact hb
  · rintro e w' ⟨rfl, rfl⟩
    refine ⟨?_, rfl⟩
    simp [S, fAt]
/-- What stands ahead of place i of a list that must increase from 0 on. -/
def befP (xs : List Int) : Nat → Int
  | 0 => -1
  | i + 1 => fAt xs i
def goodTo (xs : List Int) (N : Int) (k : Nat) : Prop := ∀ i, i < k → befP xs i < fAt xs i ∧ fAt xs i < N
noncomputable def marksB (xs : List Int) (N : Int) : Bool := @decide (goodTo xs N xs.length) (Classical.propDecidable _)
theorem marksB_iff {xs : List Int} {N : Int} : marksB xs N = true ↔ goodTo xs N xs.length := by simp [marksB]
theorem marksB_not {xs : List Int} {N : Int} {k : Nat} (hk : k < xs.length) (h : ¬ (befP xs k < fAt xs k ∧ fAt xs k < N)) : marksB xs N = false := by
  simp only [marksB, decide_eq_false_iff_not]
  exact fun g => h (g k hk)
theorem befP_ge {xs : List Int} {N : Int} {k : Nat} (h : goodTo xs N k) : -1 ≤ befP xs k := by
  induction k with
  | zero => exact Int.le_refl _
  | succ k ih =>
    have := ih (fun i hi => h i (by omega))
    have := (h k (by omega)).1
    show -1 ≤ fAt xs k
    omega
def inL (xs : List Int) (t : Nat) : Bool := decide ((t : Int) ∈ xs)
theorem mem_take_succ {xs : List Int} {k : Nat} (hk : k < xs.length) (t : Int) : t ∈ xs.take (k + 1) ↔ (t ∈ xs.take k ∨ t = fAt xs k) := by
  rw [take_snoc (List.getElem?_eq_getElem hk), List.mem_append, List.mem_singleton]
  simp [fAt, List.getElem?_eq_getElem hk]
theorem inL_succ {xs : List Int} {k d : Nat} (hk : k < xs.length) (hd : fAt xs k = d) (i : Nat) : inL (xs.take (k + 1)) i = if i = d then true else inL (xs.take k) i := by
  by_cases e : i = d
  · subst e
    simp only [inL, mem_take_succ hk, hd, if_true]
    simp
  · have ne : ¬ ((i : Int) = (d : Int)) := by omega
    simp only [inL, mem_take_succ hk, hd, e, ne, if_false, or_false]
def MarksPost (w : World) (T : Nat) (xs : List Int) (e : Ending) (w' : World) : Prop :=
  (marksB xs T = false ∧ e = .returned (.tuple #[.slice none 0 0, .bool false]) ∧ Below w.heap.size w w') ∨
  (marksB xs T = true ∧ ∃ g, e = .returned (.tuple #[.slice (some ⟨g, 0, none⟩) T T, .bool true]) ∧ Own w' g 4 T (fun t => .bool (inL xs t)) ∧ w.heap.size ≤ g ∧ Below w.heap.size w w')
set_option maxRecDepth 100000 in
set_option maxHeartbeats 1600000 in
theorem plMarks_any (A : Option Addr) (c N T : Nat) (xs : List Int) (w : World) (hR : Rd 1 encI w A xs) (HN : Hid (xs.length = N)) (hl : N ≤ 9223372036854775807) (hT : T ≤ 24) :
    Calls Try.prog 48 #[.slice A N c, .int .i64 T] w (MarksPost w T xs) := by
  obtain ⟨mb, hmk, hmb⟩ := mk_opq (P := Try.prog) 65 4 (.bool false) 1 Try.underlying65 infoBool rfl T (by omega) (by omega)
  have HR := Lib.hid hR
  have O0 : Hid (Own (w.alloc (.cells mb 4)) w.heap.size 4 T (fun t => .bool (inL (xs.take 0) t))) := Lib.hid ((hmb w _ rfl).congr (fun i _ => by simp [inL]))
  have B0 : Hid (Below w.heap.size w (w.alloc (.cells mb 4))) := Lib.hid ((Below.refl _ w).alloc (Nat.le_refl _) _)
  clear hR hmb
  go_enter Try.func48, Try.ntmps48
  go_wp2
  go_loopg [7, 14] N (fun g1 v7 v14 wr => ∃ k : Nat, v14 = .int .i64 k ∧ k ≤ N ∧ N - k ≤ g1 ∧ v7 = .int .i64 (befP xs k) ∧ Hid (goodTo xs T k) ∧ Hid (Own wr w.heap.size 4 T (fun t => .bool (inL (xs.take k) t))) ∧ Hid (Below w.heap.size w wr))
  case atStart => exact ⟨0, by go_num, by omega, by omega, rfl, Lib.hid (fun i hi => absurd hi (Nat.not_lt_zero _)), O0, B0⟩
  case round =>
    clear O0 B0 hmk
    obtain ⟨k, rfl, hk, hg1, rfl, HG, HO, HB⟩ := hrel
    have bf := befP_ge HG.out
    by_cases hlt : k < N
    · have hltz : (k : Int) < (N : Int) := by omega
      obtain ⟨b, off, hA, hbl, hc0⟩ := (HR.out.keep HB.out).int (k := k) (by rw [HN.out]; exact hlt)
      subst hA
      have hc1 : wr.cell? ⟨b, off + k, none⟩ = some (.int .i64 (fAt xs k)) := hc0
      clear hc0
      have hkx : k < xs.length := by rw [HN.out]; exact hlt
      by_cases h1 : befP xs k < fAt xs k
      · by_cases h2 : fAt xs k < (T : Int)
        · obtain ⟨d, hd⟩ : ∃ d : Nat, fAt xs k = d := ⟨(fAt xs k).toNat, by omega⟩
          have HG2 : Hid (goodTo xs T (k + 1)) := Lib.hid (fun i hi => by
            by_cases e : i = k
            · subst e; exact ⟨h1, h2⟩
            · exact HG.out i (by omega))
          rw [hd] at hc1 h1 h2
          have hdT : d < T := by omega
          have x1 := HO.out.cell hdT
          have x2 := HO.out.frozen d
          have HO2 : Hid (Own (wr.setCell ⟨w.heap.size, d, none⟩ (.bool true)) w.heap.size 4 T (fun t => .bool (inL (xs.take (k + 1)) t))) := Lib.hid ((HO.out.set d (.bool true)).congr (fun i hi => by
            rw [inL_succ hkx hd]
            by_cases e : i = d <;> simp [e]))
          have HB2 : Hid (Below w.heap.size w (wr.setCell ⟨w.heap.size, d, none⟩ (.bool true))) := Lib.hid (HB.out.setCell (p := ⟨w.heap.size, d, none⟩) (Nat.le_refl _) _)
          have Hb2 : Hid (befP xs (k + 1) = (d : Int)) := Lib.hid hd
          clear HO HB HG hd
          generalize befP xs k = bb at *
          go_wp2
          go_roundg (N - (k + 1))
          case measure => omega
          case rel => exact ⟨k + 1, by go_num, by omega, by omega, by rw [Hb2.out], HG2, HO2, HB2⟩
        · have HF : Hid (marksB xs T = false) := Lib.hid (marksB_not hkx (fun h => h2 h.2))
          generalize befP xs k = bb at *
          generalize fAt xs k = x at *
          go_wp2
          go_ret2
          exact .inl ⟨HF.out, rfl, HB.out⟩
      · have HF : Hid (marksB xs T = false) := Lib.hid (marksB_not hkx (fun h => h1 h.1))
        generalize befP xs k = bb at *
        generalize fAt xs k = x at *
        go_wp2
        go_ret2
        exact .inl ⟨HF.out, rfl, HB.out⟩
    · have hltz : ¬ (k : Int) < (N : Int) := by omega
      have hkN : k = xs.length := by rw [HN.out]; omega
      have HF : Hid (marksB xs T = true) := Lib.hid (marksB_iff.2 (by rw [← hkN]; exact HG.out))
      have HO2 : Hid (Own wr w.heap.size 4 T (fun t => .bool (inL xs t))) := Lib.hid (by have := HO.out; rwa [List.take_of_length_le (by omega)] at this)
      clear hkN HG HO
      go_wp2
      go_ret2
      exact .inr ⟨HF.out, _, rfl, HO2.out, Nat.le_refl _, HB.out⟩
end Go.Proofs.Ytmmmgafnmpaohaa
