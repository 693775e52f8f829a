/-
Plain: the neutral conductor, the warming of a cable.
-/
import Derived.Test.YtbalhbpaholakaaCLimMath
namespace Go.Proofs.Ytbalhbpaholakaa
set_option linter.unusedVariables false
set_option linter.unusedSimpArgs false
def twoN (a b c : Int) : Int := (a - b) * (a - b) + (b - c) * (b - c) + (c - a) * (c - a)
theorem sq_core {u v m : Int} (hu : 0 ≤ u) (hv : 0 ≤ v) (h : u + v ≤ m) : u * u + v * v + (u + v) * (u + v) ≤ 2 * (m * m) := by
  have h1 : 0 ≤ u * v := Int.mul_nonneg hu hv
  have h2 : (u + v) * (u + v) ≤ m * m := Int.mul_le_mul h h (by omega) (by omega)
  have h3 : (u + v) * (u + v) = u * u + v * v + 2 * (u * v) := by
    rw [Int.add_mul, Int.mul_add, Int.mul_add, Int.mul_comm v u]
    omega
  omega
theorem twoN_le {a b c m : Int} (ha : 0 ≤ a ∧ a ≤ m) (hb : 0 ≤ b ∧ b ≤ m) (hc : 0 ≤ c ∧ c ≤ m) : twoN a b c ≤ 2 * (m * m) := by
  unfold twoN
  rcases Int.le_total b a with h1 | h1 <;> rcases Int.le_total c b with h2 | h2 <;> rcases Int.le_total c a with h3 | h3
  · have h := sq_core (u := a - b) (v := b - c) (m := m) (by omega) (by omega) (by omega)
    rw [show c - a = -((a - b) + (b - c)) by omega, Int.neg_mul_neg]
    exact h
  · have e : c = a := by omega
    have e2 : b = a := by omega
    subst e e2
    have h := sq_core (u := 0) (v := 0) (m := m) (by omega) (by omega) (by omega)
    simp at h ⊢
    omega
  · have h := sq_core (u := a - c) (v := c - b) (m := m) (by omega) (by omega) (by omega)
    rw [show a - b = (a - c) + (c - b) by omega, show b - c = -(c - b) by omega, show c - a = -(a - c) by omega, Int.neg_mul_neg, Int.neg_mul_neg]
    omega
  · have h := sq_core (u := c - a) (v := a - b) (m := m) (by omega) (by omega) (by omega)
    rw [show b - c = -((c - a) + (a - b)) by omega, Int.neg_mul_neg]
    omega
  · have h := sq_core (u := b - a) (v := a - c) (m := m) (by omega) (by omega) (by omega)
    rw [show b - c = (b - a) + (a - c) by omega, show a - b = -(b - a) by omega, show c - a = -(a - c) by omega, Int.neg_mul_neg, Int.neg_mul_neg]
    omega
  · have h := sq_core (u := b - c) (v := c - a) (m := m) (by omega) (by omega) (by omega)
    rw [show a - b = -((b - c) + (c - a)) by omega, Int.neg_mul_neg]
    omega
  · have e : c = a := by omega
    have e2 : b = a := by omega
    subst e e2
    have h := sq_core (u := 0) (v := 0) (m := m) (by omega) (by omega) (by omega)
    simp at h ⊢
    omega
  · have h := sq_core (u := c - b) (v := b - a) (m := m) (by omega) (by omega) (by omega)
    rw [show c - a = (c - b) + (b - a) by omega, show a - b = -(b - a) by omega, show b - c = -(c - b) by omega, Int.neg_mul_neg, Int.neg_mul_neg]
    omega
/-- Division, rounded up. -/
def upV (n d : Int) : Int := if 0 < n.tmod d then n.tdiv d + 1 else n.tdiv d
theorem upV_le {n d k : Int} (hd : 0 < d) (hk : 0 ≤ k) (h : n ≤ d * k) : upV n d ≤ k := by
  have e := Int.mul_tdiv_add_tmod n d
  unfold upV
  by_cases hn : 0 ≤ n
  · have h1 := Int.tmod_nonneg d hn
    by_cases hr : 0 < n.tmod d
    · rw [if_pos hr]
      have : d * n.tdiv d < d * k := by omega
      have := Int.lt_of_mul_lt_mul_left this (by omega)
      omega
    · rw [if_neg hr]
      have : d * n.tdiv d ≤ d * k := by omega
      exact Int.le_of_mul_le_mul_left this hd
  · have h1 : n.tmod d ≤ 0 := by
      have := Int.tmod_nonneg d (show 0 ≤ -n by omega)
      rw [Int.neg_tmod] at this
      omega
    have h2 : n.tdiv d ≤ 0 := by
      have := Int.tdiv_nonneg (show 0 ≤ -n by omega) (show 0 ≤ d by omega)
      rw [Int.neg_tdiv] at this
      omega
    rw [if_neg (by omega)]
    omega
theorem upV_ge {n d k : Int} (hd : 0 < d) (hk : 0 ≤ k) (h : -(d * k) ≤ n) : -k ≤ upV n d := by
  have e := Int.mul_tdiv_add_tmod n d
  unfold upV
  by_cases hn : 0 ≤ n
  · have h2 := Int.tdiv_nonneg hn (show 0 ≤ d by omega)
    split <;> omega
  · have h1 : n.tmod d ≤ 0 := by
      have := Int.tmod_nonneg d (show 0 ≤ -n by omega)
      rw [Int.neg_tmod] at this
      omega
    rw [if_neg (by omega)]
    have : d * (-k) ≤ d * n.tdiv d := by rw [Int.mul_neg]; omega
    exact Int.le_of_mul_le_mul_left this hd
/-- The temperature stays between Ambient and Most. -/
theorem warm_step {c : GCon} {a now : Int} (hl : 0 ≤ c.loss) (hd : 1 ≤ c.den) (hg : 0 ≤ c.gain) (ha : 0 ≤ a) (hok : c.gain * a * a ≤ roomC c) (h1 : c.amb ≤ now) (h2 : now ≤ c.most) :
    c.amb ≤ now + upV (c.gain * a * a - min c.loss c.den * (now - c.amb)) c.den ∧ now + upV (c.gain * a * a - min c.loss c.den * (now - c.amb)) c.den ≤ c.most := by
  have hq : 0 ≤ c.gain * a * a := Int.mul_nonneg (Int.mul_nonneg hg ha) ha
  unfold roomC at hok
  generalize c.gain * a * a = q at *
  generalize hL : min c.loss c.den = l at *
  have hl0 : 0 ≤ l := by omega
  have hld : l ≤ c.den := by omega
  constructor
  · have h3 : l * (now - c.amb) ≤ c.den * (now - c.amb) := Int.mul_le_mul_of_nonneg_right hld (by omega)
    have h4 := upV_ge (n := q - l * (now - c.amb)) (d := c.den) (k := now - c.amb) (by omega) (by omega) (by omega)
    omega
  · have h3 : l * (c.most - now) ≤ c.den * (c.most - now) := Int.mul_le_mul_of_nonneg_right hld (by omega)
    have h5 : l * (c.most - c.amb) = l * (c.most - now) + l * (now - c.amb) := by rw [← Int.mul_add]; congr 1; omega
    have h4 := upV_le (n := q - l * (now - c.amb)) (d := c.den) (k := c.most - now) (by omega) (by omega) (by omega)
    omega
end Go.Proofs.Ytbalhbpaholakaa
