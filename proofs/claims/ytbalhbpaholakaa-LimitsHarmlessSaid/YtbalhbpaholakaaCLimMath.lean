/-
Plain: what a conductor may carry. No program in sight.
-/
import Derived.Test.YtbalhbpaholakaaCSiteMath
namespace Go.Proofs.Ytbalhbpaholakaa
set_option linter.unusedVariables false
def roomC (c : GCon) : Int := min c.loss c.den * (c.most - c.amb)
def zC (c : GCon) : Bool := decide (c.amb = 0 ∧ c.most = 0 ∧ c.gain = 0 ∧ c.loss = 0 ∧ c.den = 0)
def okAm (gain room : Int) (n : Nat) : Bool := decide (gain * (n : Int) * (n : Int) ≤ room)
/-- The greatest number up to N that is good. -/
def grN (gain room : Int) : Nat → Nat
  | 0 => 0
  | n + 1 => if okAm gain room (n + 1) = true then n + 1 else grN gain room n
theorem grN_le (gain room : Int) : ∀ N, grN gain room N ≤ N
  | 0 => Nat.le_refl _
  | n + 1 => by
    unfold grN
    split
    · exact Nat.le_refl _
    · have := grN_le gain room n; omega
theorem okAm_zero {gain room : Int} (h : 0 ≤ room) : okAm gain room 0 = true := by
  unfold okAm
  simp [h]
theorem grN_ok {gain room : Int} (h : 0 ≤ room) : ∀ N, okAm gain room (grN gain room N) = true
  | 0 => okAm_zero h
  | n + 1 => by
    unfold grN
    split
    · assumption
    · exact grN_ok h n
theorem grN_most {gain room : Int} {m : Nat} (hm : okAm gain room m = true) : ∀ N, m ≤ N → m ≤ grN gain room N
  | 0, h => h
  | n + 1, h => by
    unfold grN
    split
    · exact h
    · rename_i hn
      have : m ≠ n + 1 := fun e => hn (e ▸ hm)
      exact grN_most hm n (by omega)
theorem okAm_down {gain room : Int} (hg : 0 ≤ gain) {m n : Nat} (h : m ≤ n) (hn : okAm gain room n = true) : okAm gain room m = true := by
  unfold okAm at *
  simp only [decide_eq_true_eq] at *
  have h1 : gain * (m : Int) ≤ gain * (n : Int) := Int.mul_le_mul_of_nonneg_left (by omega) hg
  have h2 : gain * (m : Int) * (m : Int) ≤ gain * (n : Int) * (m : Int) := Int.mul_le_mul_of_nonneg_right h1 (by omega)
  have h3 : gain * (n : Int) * (m : Int) ≤ gain * (n : Int) * (n : Int) := Int.mul_le_mul_of_nonneg_left (by omega) (Int.mul_nonneg hg (by omega))
  omega
theorem grN_eq {gain room : Int} {k N : Nat} (hk : k ≤ N) (h : okAm gain room k = true) (hn : ∀ m, k < m → m ≤ N → okAm gain room m = false) (h0 : 0 ≤ room) : grN gain room N = k := by
  have h1 := grN_most h N hk
  have h2 := grN_ok (gain := gain) h0 N
  have h3 := grN_le gain room N
  rcases Nat.lt_or_ge k (grN gain room N) with h4 | h4
  · rw [hn _ h4 h3] at h2
    cases h2
  · omega
/-- What a cable carries for ever. -/
def permV (c : GCon) : Int := if zC c = true then 1000 else (grN c.gain (roomC c) 1000 : Nat)
/-- What a conductor may carry. -/
def limV (c : GCon) : Int := if c.rated = 0 then min (min c.limit c.neutral) (permV c) else min (min (min c.limit c.neutral) (permV c)) c.rated
/-- What is known of a conductor of a valid site. -/
structure OkC (c : GCon) : Prop where
  lim : 1 ≤ c.limit ∧ c.limit ≤ 1000
  neu : 1 ≤ c.neutral ∧ c.neutral ≤ 1000
  fuse : (c.rated = 0 ∧ c.heat = 0) ∨ ((1 ≤ c.rated ∧ c.rated ≤ 1000) ∧ (0 ≤ c.heat ∧ c.heat ≤ 1000000))
  cab : zC c = true ∨ ((0 ≤ c.amb ∧ c.amb ≤ 200000) ∧ (0 ≤ c.most ∧ c.most ≤ 200000) ∧ (0 ≤ c.gain ∧ c.gain ≤ 1000) ∧ (0 ≤ c.loss ∧ c.loss ≤ 1000) ∧ (1 ≤ c.den ∧ c.den ≤ 1000000) ∧ c.amb < c.most)
theorem OkC.of {i : Nat} {c : GCon} (h : okCon i c = true) : OkC c := by
  unfold okCon okFuse okCable inside at h
  simp only [Bool.and_eq_true, decide_eq_true_eq] at h
  obtain ⟨⟨⟨_, h1, h2⟩, h3⟩, h4⟩ := h
  refine ⟨h1, h2, h3, ?_⟩
  rcases h4 with h4 | h4
  · left; unfold zC; simp only [decide_eq_true_eq]; exact h4
  · exact .inr h4
theorem OkSite.okC {keys : List (List UInt8)} {s : GSite} (h : OkSite keys s) {i : Nat} {c : GCon} (hc : s.cons[i]? = some c) : OkC c := OkC.of (h.con i c hc)
theorem OkC.room {c : GCon} (h : OkC c) (hz : zC c = false) : 0 ≤ roomC c ∧ roomC c ≤ 200000000 ∧ 0 ≤ c.gain ∧ c.gain ≤ 1000 := by
  rcases h.cab with h1 | ⟨⟨a1, a2⟩, ⟨b1, b2⟩, ⟨c1, c2⟩, ⟨d1, d2⟩, ⟨e1, e2⟩, f⟩
  · rw [hz] at h1; cases h1
  · unfold roomC
    have hm : 0 ≤ min c.loss c.den ∧ min c.loss c.den ≤ 1000 := by omega
    have h2 : min c.loss c.den * (c.most - c.amb) ≤ 1000 * (c.most - c.amb) := Int.mul_le_mul_of_nonneg_right hm.2 (by omega)
    exact ⟨Int.mul_nonneg hm.1 (by omega), by omega, c1, c2⟩
theorem permV_bd {c : GCon} : 0 ≤ permV c ∧ permV c ≤ 1000 := by
  unfold permV
  split
  · omega
  · have := grN_le c.gain (roomC c) 1000; omega
theorem limV_bd {c : GCon} (h : OkC c) : 0 ≤ limV c ∧ limV c ≤ 1000 := by
  have h1 := permV_bd (c := c)
  have h2 := h.lim
  have h3 := h.neu
  unfold limV
  split <;> rcases h.fuse with h4 | h4 <;> omega
/-- The reference's order of the same. -/
theorem limV_ref (c : GCon) : limV c = if c.rated = 0 then min (min (permV c) c.limit) c.neutral else min (min (min (permV c) c.limit) c.neutral) c.rated := by
  unfold limV
  split <;> omega
end Go.Proofs.Ytbalhbpaholakaa
