/-
Several texts in one: LimMath, LimA, LimB, LimC.
-/
import Derived.Test.YtoekpdnpncgeeaaGreatGLSM
import Derived.Test.YtoekpdnpncgeeaaGreatGLRefA
import Derived.Deep.QuietTactic
import Derived.BigQuiet
import Derived.IntWalk
import Derived.Laws.EntriesVeiled
import Derived.Deep.RegionHeld3
import Derived.Test.YtoekpdnpncgeeaaGreatGBase
import Derived.Test.YtoekpdnpncgeeaaGreatGLSiteH
/-
Plain: what a conductor may carry. No program in sight.
-/
namespace Go.Proofs.YtoekpdnpncgeeaaGreat
set_option linter.unusedVariables false
def roomC (c : GCon) : Int := min c.loss c.den * (c.most - c.amb)
def zC (c : GCon) : Bool := decide (c.amb = 0 ∧ c.most = 0 ∧ c.gain = 0 ∧ c.loss = 0 ∧ c.den = 0)
def okAm (gain room : Int) (n : Nat) : Bool := decide (gain * (n : Int) * (n : Int) ≤ room)
/-- The greatest number up to N that is good. -/
def grN (gain room : Int) : Nat → Nat
  | 0 => 0
  | n + 1 => if okAm gain room (n + 1) = true then n + 1 else grN gain room n
theorem grN_le (gain room : Int) : ∀ N, grN gain room N ≤ N
  | 0 => Nat.le_refl _
  | n + 1 => by
    unfold grN
    split
    · exact Nat.le_refl _
    · have := grN_le gain room n; omega
theorem okAm_zero {gain room : Int} (h : 0 ≤ room) : okAm gain room 0 = true := by
  unfold okAm
  simp [h]
theorem grN_ok {gain room : Int} (h : 0 ≤ room) : ∀ N, okAm gain room (grN gain room N) = true
  | 0 => okAm_zero h
  | n + 1 => by
    unfold grN
    split
    · assumption
    · exact grN_ok h n
theorem grN_most {gain room : Int} {m : Nat} (hm : okAm gain room m = true) : ∀ N, m ≤ N → m ≤ grN gain room N
  | 0, h => h
  | n + 1, h => by
    unfold grN
    split
    · exact h
    · rename_i hn
      have : m ≠ n + 1 := fun e => hn (e ▸ hm)
      exact grN_most hm n (by omega)
theorem okAm_down {gain room : Int} (hg : 0 ≤ gain) {m n : Nat} (h : m ≤ n) (hn : okAm gain room n = true) : okAm gain room m = true := by
  unfold okAm at *
  simp only [decide_eq_true_eq] at *
  have h1 : gain * (m : Int) ≤ gain * (n : Int) := Int.mul_le_mul_of_nonneg_left (by omega) hg
  have h2 : gain * (m : Int) * (m : Int) ≤ gain * (n : Int) * (m : Int) := Int.mul_le_mul_of_nonneg_right h1 (by omega)
  have h3 : gain * (n : Int) * (m : Int) ≤ gain * (n : Int) * (n : Int) := Int.mul_le_mul_of_nonneg_left (by omega) (Int.mul_nonneg hg (by omega))
  omega
theorem grN_eq {gain room : Int} {k N : Nat} (hk : k ≤ N) (h : okAm gain room k = true) (hn : ∀ m, k < m → m ≤ N → okAm gain room m = false) (h0 : 0 ≤ room) : grN gain room N = k := by
  have h1 := grN_most h N hk
  have h2 := grN_ok (gain := gain) h0 N
  have h3 := grN_le gain room N
  rcases Nat.lt_or_ge k (grN gain room N) with h4 | h4
  · rw [hn _ h4 h3] at h2
    cases h2
  · omega
/-- What a cable carries for ever. -/
def permV (c : GCon) : Int := if zC c = true then 1000 else (grN c.gain (roomC c) 1000 : Nat)
/-- What a conductor may carry. -/
def limV (c : GCon) : Int := if c.rated = 0 then min (min c.limit c.neutral) (permV c) else min (min (min c.limit c.neutral) (permV c)) c.rated
/-- What is known of a conductor of a valid site. -/
structure OkC (c : GCon) : Prop where
  lim : 1 ≤ c.limit ∧ c.limit ≤ 1000
  neu : 1 ≤ c.neutral ∧ c.neutral ≤ 1000
  fuse : (c.rated = 0 ∧ c.heat = 0) ∨ ((1 ≤ c.rated ∧ c.rated ≤ 1000) ∧ (0 ≤ c.heat ∧ c.heat ≤ 1000000))
  cab : zC c = true ∨ ((0 ≤ c.amb ∧ c.amb ≤ 200000) ∧ (0 ≤ c.most ∧ c.most ≤ 200000) ∧ (0 ≤ c.gain ∧ c.gain ≤ 1000) ∧ (0 ≤ c.loss ∧ c.loss ≤ 1000) ∧ (1 ≤ c.den ∧ c.den ≤ 1000000) ∧ c.amb < c.most)
theorem OkC.of {i : Nat} {c : GCon} (h : okCon i c = true) : OkC c := by
  unfold okCon okFuse okCable inside at h
  simp only [Bool.and_eq_true, decide_eq_true_eq] at h
  obtain ⟨⟨⟨_, h1, h2⟩, h3⟩, h4⟩ := h
  refine ⟨h1, h2, h3, ?_⟩
  rcases h4 with h4 | h4
  · left; unfold zC; simp only [decide_eq_true_eq]; exact h4
  · exact .inr h4
theorem OkSite.okC {keys : List (List UInt8)} {s : GSite} (h : OkSite keys s) {i : Nat} {c : GCon} (hc : s.cons[i]? = some c) : OkC c := OkC.of (h.con i c hc)
theorem OkC.room {c : GCon} (h : OkC c) (hz : zC c = false) : 0 ≤ roomC c ∧ roomC c ≤ 200000000 ∧ 0 ≤ c.gain ∧ c.gain ≤ 1000 := by
  rcases h.cab with h1 | ⟨⟨a1, a2⟩, ⟨b1, b2⟩, ⟨c1, c2⟩, ⟨d1, d2⟩, ⟨e1, e2⟩, f⟩
  · rw [hz] at h1; cases h1
  · unfold roomC
    have hm : 0 ≤ min c.loss c.den ∧ min c.loss c.den ≤ 1000 := by omega
    have h2 : min c.loss c.den * (c.most - c.amb) ≤ 1000 * (c.most - c.amb) := Int.mul_le_mul_of_nonneg_right hm.2 (by omega)
    exact ⟨Int.mul_nonneg hm.1 (by omega), by omega, c1, c2⟩
theorem permV_bd {c : GCon} : 0 ≤ permV c ∧ permV c ≤ 1000 := by
  unfold permV
  split
  · omega
  · have := grN_le c.gain (roomC c) 1000; omega
theorem limV_bd {c : GCon} (h : OkC c) : 0 ≤ limV c ∧ limV c ≤ 1000 := by
  have h1 := permV_bd (c := c)
  have h2 := h.lim
  have h3 := h.neu
  unfold limV
  split <;> rcases h.fuse with h4 | h4 <;> omega
/-- The reference's order of the same. -/
theorem limV_ref (c : GCon) : limV c = if c.rated = 0 then min (min (permV c) c.limit) c.neutral else min (min (min (permV c) c.limit) c.neutral) c.rated := by
  unfold limV
  split <;> omega
end Go.Proofs.YtoekpdnpncgeeaaGreat
/-
cable.Permitted, and the reference's.
-/
namespace Go.Proofs.YtoekpdnpncgeeaaGreat
open Go.RowKit
set_option linter.unusedVariables false
set_option linter.unusedSimpArgs false
/-- A cable with its temperature, in memory. -/
structure WarmM (W : World) (b : Nat) (c : GCon) : Prop where
  k0 : W.cell? ⟨b, 0, none⟩ = some (.int .i64 c.amb)
  k1 : W.cell? ⟨b, 1, none⟩ = some (.int .i64 c.most)
  k2 : W.cell? ⟨b, 2, none⟩ = some (.int .i64 c.gain)
  k3 : W.cell? ⟨b, 3, none⟩ = some (.int .i64 c.loss)
  k4 : W.cell? ⟨b, 4, none⟩ = some (.int .i64 c.den)
end Go.Proofs.YtoekpdnpncgeeaaGreat
/-
cable.Permitted, limits.limit, and the reference's.
-/
namespace Go.Proofs.YtoekpdnpncgeeaaGreat
open Go.RowKit
set_option linter.unusedVariables false
set_option linter.unusedSimpArgs false
theorem WarmM.keep {W W' : World} {b : Nat} {c : GCon} (h : WarmM W b c) (hb : Below W.heap.size W W') : WarmM W' b c := by
  have l := World.block_lt_of_cell? W _ h.k0
  exact ⟨(hb.cell (p := ⟨b, 0, none⟩) l).trans h.k0, (hb.cell (p := ⟨b, 1, none⟩) l).trans h.k1, (hb.cell (p := ⟨b, 2, none⟩) l).trans h.k2, (hb.cell (p := ⟨b, 3, none⟩) l).trans h.k3, (hb.cell (p := ⟨b, 4, none⟩) l).trans h.k4⟩
theorem rd_litI (W : World) (cs : Array Value) (xs : List Int) (h : cs.toList = xs.map (Value.int .i64)) : Rd 1 encI (W.alloc (.cells cs 3)) (some ⟨W.heap.size, 0, none⟩) xs := by
  have hcs : cs = (xs.map (Value.int .i64)).toArray := by rw [← h]
  refine (Own.new W 3 cs undef).rd (sz := 1) (by rw [hcs]; simp) (fun _ => rfl) (fun k x hx j v hv => ?_)
  have hj : j = 0 := by have := (List.getElem?_eq_some_iff.1 hv).1; simp [encI] at this; exact this
  subst hj
  simp [encI] at hv
  rw [hcs, Nat.mul_one, Nat.add_zero, List.getElem?_toArray, List.getElem?_map, hx, ← hv]
  rfl
end Go.Proofs.YtoekpdnpncgeeaaGreat
/-
limits.least, limits.limit, the reference's Of.
-/
namespace Go.Proofs.YtoekpdnpncgeeaaGreat
open Go.RowKit
set_option linter.unusedVariables false
set_option linter.unusedSimpArgs false
def minL (x : Int) (xs : List Int) : Int := xs.foldl min x
theorem minL_take {x : Int} {xs : List Int} {k : Nat} (hk : k < xs.length) : minL x (xs.take (k + 1)) = min (minL x (xs.take k)) (fI xs k) := by
  unfold minL fI
  rw [take_snoc (List.getElem?_eq_getElem hk), List.foldl_append, List.getElem?_eq_getElem hk]
  rfl
end Go.Proofs.YtoekpdnpncgeeaaGreat
