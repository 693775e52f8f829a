/-
Plain: a load is what the chargers on the conductor draw and what leads from it.
-/
import Derived.Test.YtbalhbpaholakaaGLTreeE
import Derived.Test.YtbalhbpaholakaaGLTreeA
namespace Go.Proofs.Ytbalhbpaholakaa
open Go.RowKit
set_option linter.unusedVariables false
set_option linter.unusedSimpArgs false
theorem mem_sum {cs : List GCon} (hu : OkUps cs) (k : Nat) (x : Int) : ∀ c, c < cs.length → pick (k ∈ pth cs (c : Int)) x = pick (c = k) x + S cs.length (fun i => pick (upAt cs i = (k : Int) ∧ i ∈ pth cs (c : Int)) x) := by
  refine pth_ind hu (fun h0 => ?_) (fun c u hc hlt hup ih => ?_)
  · have e : S cs.length (fun i => pick (upAt cs i = (k : Int) ∧ i ∈ pth cs ((0 : Nat) : Int)) x) = 0 := by
      rw [S_congr (h := fun _ => 0) (fun i hi => ?_), S_zero]
      refine pick_neg ?_ _
      rw [show ((0 : Nat) : Int) = 0 from rfl, pth_zero hu h0]
      rintro ⟨h1, h2⟩
      have : i = 0 := by simpa using h2
      subst this
      have h3 := hu 0 h0
      omega
    rw [e, show ((0 : Nat) : Int) = 0 from rfl, pth_zero hu h0, Int.add_zero]
    unfold pick
    by_cases h : k = 0
    · simp [h]
    · rw [if_neg (by simpa using h), if_neg (fun h2 => h h2.symm)]
  · have hcu : ¬ c ∈ pth cs (u : Int) := fun h => by have := pth_le hu u (by omega) c h; omega
    have e : S cs.length (fun i => pick (upAt cs i = (k : Int) ∧ i ∈ pth cs (c : Int)) x) = pick (u = k) x + S cs.length (fun i => pick (upAt cs i = (k : Int) ∧ i ∈ pth cs (u : Int)) x) := by
      rw [S_congr (h := fun i => (if i = c then pick (u = k) x else 0) + pick (upAt cs i = (k : Int) ∧ i ∈ pth cs (u : Int)) x) (fun i hi => ?_), S_add, S_single (k := c) hc (fun i _ h => if_neg h), if_pos rfl]
      rw [pth_step hu hc hup]
      unfold pick
      by_cases h : i = c
      · subst h
        rw [if_pos rfl, if_neg (c := upAt cs i = (k : Int) ∧ i ∈ pth cs (u : Int)) (fun h => hcu h.2), Int.add_zero, hup]
        by_cases h2 : u = k
        · rw [if_pos ⟨by omega, by simp⟩, if_pos h2]
        · rw [if_neg (fun h => h2 (by omega)), if_neg h2]
      · rw [if_neg h, Int.zero_add]
        by_cases h2 : upAt cs i = (k : Int) ∧ i ∈ pth cs (u : Int)
        · rw [if_pos h2, if_pos ⟨h2.1, List.mem_cons_of_mem _ h2.2⟩]
        · rw [if_neg h2, if_neg (fun h3 => h2 ⟨h3.1, (List.mem_cons.1 h3.2).resolve_left h⟩)]
    rw [e, ← ih, pth_step hu hc hup]
    unfold pick
    by_cases h : k = c
    · have : ¬ k ∈ pth cs (u : Int) := by rw [h]; exact hcu
      rw [if_pos (by simp [h]), if_pos h.symm, if_neg this, Int.add_zero]
    · rw [if_neg (c := c = k) (fun h2 => h h2.symm), Int.zero_add]
      by_cases h2 : k ∈ pth cs (u : Int)
      · rw [if_pos h2, if_pos (List.mem_cons_of_mem _ h2)]
      · rw [if_neg h2, if_neg (fun h3 => h2 ((List.mem_cons.1 h3).resolve_left h))]
/-- What the chargers on a conductor draw on a phase. -/
def ownA (s : GSite) (f : Nat → Int) (k m p : Nat) : Int := S m (fun c => pick (placeOf s c = k ∧ bitP (phOf s c) p = true) (f c))
/-- What leads from a conductor. -/
def fromB (s : GSite) (L : Nat → Int) (k m p : Nat) : Int := S m (fun i => pick (upAt s.cons i = (k : Int)) (L (i * 3 + p)))
theorem ownA_succ (s : GSite) (f : Nat → Int) (k m p : Nat) : ownA s f k (m + 1) p = ownA s f k m p + pick (placeOf s m = k ∧ bitP (phOf s m) p = true) (f m) := rfl
theorem fromB_succ (s : GSite) (L : Nat → Int) (k m p : Nat) : fromB s L k (m + 1) p = fromB s L k m p + pick (upAt s.cons m = (k : Int)) (L (m * 3 + p)) := rfl
theorem load_sum {s : GSite} (hk : OkSite keyL s) (f : Nat → Int) (k p : Nat) (hp : p < 3) : loadS s f s.chgs.length (k * 3 + p) = ownA s f k s.chgs.length p + fromB s (loadS s f s.chgs.length) k s.cons.length p := by
  have e1 : fromB s (loadS s f s.chgs.length) k s.cons.length p = S s.chgs.length (fun c => S s.cons.length (fun i => pick (upAt s.cons i = (k : Int)) (pick (onB s c i p = true) (f c)))) := by
    unfold fromB
    rw [← S_swap]
    refine S_congr (fun i _ => ?_)
    unfold loadS
    rw [show (i * 3 + p) / 3 = i by omega, show (i * 3 + p) % 3 = p by omega]
    unfold pick
    split
    · rfl
    · exact (S_zero _).symm
  rw [e1]
  unfold ownA loadS
  rw [← S_add]
  refine S_congr (fun c hc => ?_)
  obtain ⟨p1, p2, p3⟩ := hk.place (List.getElem?_eq_getElem hc)
  have hm := mem_sum hk.ups k (pick (bitP (phOf s c) p = true) (f c)) (placeOf s c) (by omega)
  rw [show (k * 3 + p) / 3 = k by omega, show (k * 3 + p) % 3 = p by omega]
  have h1 : ∀ j, pick (onB s c j p = true) (f c) = pick (j ∈ pth s.cons (placeOf s c : Nat)) (pick (bitP (phOf s c) p = true) (f c)) := fun j => by
    unfold onB pick
    cases bitP (phOf s c) p
    · simp
    · simp
  have h2 : pick (placeOf s c = k ∧ bitP (phOf s c) p = true) (f c) = pick (placeOf s c = k) (pick (bitP (phOf s c) p = true) (f c)) := by
    unfold pick
    by_cases a : placeOf s c = k
    · by_cases b : bitP (phOf s c) p = true
      · rw [if_pos ⟨a, b⟩, if_pos a, if_pos b]
      · rw [if_neg (fun h => b h.2), if_pos a, if_neg b]
    · rw [if_neg (fun h => a h.1), if_neg a]
  rw [h1, h2, hm]
  congr 1
  refine S_congr (fun i _ => ?_)
  rw [h1]
  unfold pick
  by_cases a : upAt s.cons i = (k : Int)
  · by_cases b : i ∈ pth s.cons (placeOf s c : Nat)
    · rw [if_pos ⟨a, b⟩, if_pos a, if_pos b]
    · rw [if_neg (fun h => b h.2), if_pos a, if_neg b]
  · rw [if_neg (fun h => a h.1), if_neg a]
theorem ownA_bd {s : GSite} {f : Nat → Int} (hf : ∀ c, 0 ≤ f c ∧ f c ≤ 80) (k m p : Nat) : 0 ≤ ownA s f k m p ∧ ownA s f k m p ≤ m * 80 := by
  unfold ownA
  constructor
  · refine S_nonneg (fun c _ => ?_)
    have := hf c
    unfold pick
    split <;> omega
  · refine S_bound (fun c _ => ?_)
    have := hf c
    unfold pick
    split <;> omega
theorem fromB_bd {s : GSite} {L : Nat → Int} {c : Nat} (hL : ∀ j, 0 ≤ L j ∧ L j ≤ c) (k m p : Nat) : 0 ≤ fromB s L k m p ∧ fromB s L k m p ≤ m * (c : Int) := by
  unfold fromB
  constructor
  · refine S_nonneg (fun i _ => ?_)
    have := hL (i * 3 + p)
    unfold pick
    split <;> omega
  · refine S_bound (fun i _ => ?_)
    have := hL (i * 3 + p)
    unfold pick
    split <;> omega
end Go.Proofs.Ytbalhbpaholakaa
