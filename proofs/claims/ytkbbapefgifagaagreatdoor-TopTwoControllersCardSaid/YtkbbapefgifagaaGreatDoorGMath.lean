/-
Several texts in one: FlowMath, FlowPl.
-/
/-
Plain facts on graphs, flows and cuts: any flow has at most the capacity of any cut, and a flow whose cut is closed under residual steps has just that capacity. No program in sight.
-/
namespace Go.Proofs.YtkbbapefgifagaaGreatDoor

structure GEdge where
  frm : Int
  to : Int
  cap : Int
deriving Inhabited

/-- The sum of the first n values. -/
def S : Nat → (Nat → Int) → Int
  | 0, _ => 0
  | n + 1, g => S n g + g n

theorem S_succ (n : Nat) (g : Nat → Int) : S (n + 1) g = S n g + g n := rfl
theorem S_congr {n : Nat} {g h : Nat → Int} (e : ∀ i, i < n → g i = h i) : S n g = S n h := by
  induction n with
  | zero => rfl
  | succ n ih => rw [S_succ, S_succ, ih (fun i hi => e i (by omega)), e n (by omega)]
theorem S_zero (n : Nat) : S n (fun _ => 0) = 0 := by
  induction n with
  | zero => rfl
  | succ n ih => rw [S_succ, ih]; rfl
theorem S_add (n : Nat) (g h : Nat → Int) : S n (fun i => g i + h i) = S n g + S n h := by
  induction n with
  | zero => rfl
  | succ n ih => simp only [S_succ, ih]; omega
theorem S_sub (n : Nat) (g h : Nat → Int) : S n (fun i => g i - h i) = S n g - S n h := by
  induction n with
  | zero => rfl
  | succ n ih => simp only [S_succ, ih]; omega
theorem S_le {n : Nat} {g h : Nat → Int} (e : ∀ i, i < n → g i ≤ h i) : S n g ≤ S n h := by
  induction n with
  | zero => exact Int.le_refl _
  | succ n ih => rw [S_succ, S_succ]; have := ih (fun i hi => e i (by omega)); have := e n (by omega); omega
theorem S_swap (n m : Nat) (g : Nat → Nat → Int) : S n (fun i => S m (fun j => g i j)) = S m (fun j => S n (fun i => g i j)) := by
  induction n with
  | zero => simp [S, S_zero]
  | succ n ih => simp only [S_succ, ih, S_add]
/-- A sum in which one place alone counts. -/
theorem S_single {n : Nat} {g : Nat → Int} {k : Nat} (hk : k < n) (e : ∀ i, i < n → i ≠ k → g i = 0) : S n g = g k := by
  induction n with
  | zero => omega
  | succ n ih =>
    rw [S_succ]
    by_cases h : k = n
    · subst h
      rw [S_congr (h := fun _ => 0) (fun i hi => e i (by omega) (by omega)), S_zero]; omega
    · rw [ih (by omega) (fun i hi hne => e i (by omega) hne), e n (by omega) (by omega)]; omega
abbrev eAt (es : List GEdge) (i : Nat) : GEdge := es[i]?.getD default
abbrev fAt (fl : List Int) (i : Nat) : Int := fl[i]?.getD 0
abbrev sAt (side : List Bool) (u : Int) : Bool := side[u.toNat]?.getD false

def pick (c : Prop) [Decidable c] (x : Int) : Int := if c then x else 0
theorem pick_pos {c : Prop} [Decidable c] (h : c) (x : Int) : pick c x = x := if_pos h
theorem pick_neg {c : Prop} [Decidable c] (h : ¬ c) (x : Int) : pick c x = 0 := if_neg h

/-- What edge i carries out of node u. -/
def term (es : List GEdge) (fl : List Int) (u : Int) (i : Nat) : Int := pick ((eAt es i).frm = u) (fAt fl i) - pick ((eAt es i).to = u) (fAt fl i)
def net (es : List GEdge) (fl : List Int) (u : Int) : Int := S es.length (term es fl u)
def crossing (side : List Bool) (e : GEdge) : Bool := sAt side e.frm && !sAt side e.to
def capac (es : List GEdge) (side : List Bool) : Int := S es.length (fun i => pick (crossing side (eAt es i) = true) (eAt es i).cap)

def okE (nodes : Int) (e : GEdge) : Bool := decide (0 ≤ e.frm ∧ e.frm < nodes ∧ 0 ≤ e.to ∧ e.to < nodes ∧ 0 ≤ e.cap ∧ e.cap ≤ 1000000)
def okG (nodes : Int) (es : List GEdge) : Bool := decide (1 ≤ nodes ∧ nodes ≤ 64 ∧ es.length ≤ 512) && es.all (okE nodes)
def okEnds (nodes : Int) (es : List GEdge) (s t : Int) : Bool := okG nodes es && decide (0 ≤ s ∧ s < nodes ∧ 0 ≤ t ∧ t < nodes ∧ s ≠ t)

theorem okE_iff {nodes : Int} {e : GEdge} : okE nodes e = true ↔ (0 ≤ e.frm ∧ e.frm < nodes ∧ 0 ≤ e.to ∧ e.to < nodes ∧ 0 ≤ e.cap ∧ e.cap ≤ 1000000) := by simp [okE]
theorem okG_iff {nodes : Int} {es : List GEdge} : okG nodes es = true ↔ ((1 ≤ nodes ∧ nodes ≤ 64 ∧ es.length ≤ 512) ∧ ∀ e, e ∈ es → okE nodes e = true) := by simp [okG]
theorem okG_at {nodes : Int} {es : List GEdge} (h : okG nodes es = true) {i : Nat} (hi : i < es.length) :
    0 ≤ (eAt es i).frm ∧ (eAt es i).frm < nodes ∧ 0 ≤ (eAt es i).to ∧ (eAt es i).to < nodes ∧ 0 ≤ (eAt es i).cap ∧ (eAt es i).cap ≤ 1000000 := by
  have := (okG_iff.1 h).2 (es[i]) (List.getElem_mem hi)
  simpa [eAt, List.getElem?_eq_getElem hi] using okE_iff.1 this
theorem okEnds_iff {nodes : Int} {es : List GEdge} {s t : Int} : okEnds nodes es s t = true ↔ (okG nodes es = true ∧ 0 ≤ s ∧ s < nodes ∧ 0 ≤ t ∧ t < nodes ∧ s ≠ t) := by simp [okEnds]

structure IsFlow (nodes : Int) (es : List GEdge) (s t : Int) (fl : List Int) : Prop where
  len : fl.length = es.length
  fits : ∀ i, i < es.length → 0 ≤ fAt fl i ∧ fAt fl i ≤ (eAt es i).cap
  kept : ∀ u, 0 ≤ u → u < nodes → u ≠ s → u ≠ t → net es fl u = 0

structure IsCut (nodes : Int) (s t : Int) (side : List Bool) : Prop where
  len : (side.length : Int) = nodes
  src : sAt side s = true
  snk : sAt side t = false

/-- Over the nodes of a cut the net amounts add up to what crosses it. -/
theorem net_sum {nodes : Int} {es : List GEdge} (h : okG nodes es = true) (fl : List Int) (side : List Bool) :
    S nodes.toNat (fun u => pick (sAt side u = true) (net es fl u)) = S es.length (fun i => (pick (sAt side (eAt es i).frm = true) (fAt fl i) - pick (sAt side (eAt es i).to = true) (fAt fl i))) := by
  have e1 : S nodes.toNat (fun u => pick (sAt side u = true) (net es fl u)) = S nodes.toNat (fun u => S es.length (fun i => pick (sAt side u = true) (term es fl u i))) := by
    refine S_congr fun u _ => ?_
    by_cases hs : sAt side u = true
    · simp only [pick_pos hs]; rfl
    · simp only [pick_neg hs]; exact (S_zero _).symm
  rw [e1, S_swap]
  refine S_congr fun i hi => ?_
  obtain ⟨h1, h2, h3, h4, _, _⟩ := okG_at h hi
  have e2 : ∀ u : Nat, pick (sAt side u = true) (term es fl u i) = pick (sAt side u = true ∧ (eAt es i).frm = u) (fAt fl i) - pick (sAt side u = true ∧ (eAt es i).to = u) (fAt fl i) := by
    intro u
    by_cases hs : sAt side u = true
    · rw [pick_pos hs]; simp only [term, pick, hs, true_and]
    · rw [pick_neg hs, pick_neg (fun x => hs x.1), pick_neg (fun x => hs x.1)]; rfl
  rw [S_congr (fun u _ => e2 u), S_sub]
  have key : ∀ v : Int, 0 ≤ v → v < nodes → S nodes.toNat (fun u => pick (sAt side u = true ∧ v = u) (fAt fl i)) = pick (sAt side v = true) (fAt fl i) := by
    intro v hv0 hv1
    rw [S_single (k := v.toNat) (by omega) (fun j _ hne => pick_neg (fun x => hne (by omega)) _)]
    have hv : ((v.toNat : Nat) : Int) = v := by omega
    rw [hv]
    by_cases hs : sAt side v = true
    · rw [pick_pos hs, pick_pos ⟨hs, rfl⟩]
    · rw [pick_neg hs, pick_neg (fun x => hs x.1)]
  rw [key _ h1 h2, key _ h3 h4]

theorem net_source {nodes : Int} {es : List GEdge} {s t : Int} {fl : List Int} {side : List Bool} (h : okEnds nodes es s t = true) (hf : IsFlow nodes es s t fl) (hc : IsCut nodes s t side) :
    net es fl s = S es.length (fun i => (pick (sAt side (eAt es i).frm = true) (fAt fl i) - pick (sAt side (eAt es i).to = true) (fAt fl i))) := by
  obtain ⟨hg, h0, h1, h2, h3, hne⟩ := okEnds_iff.1 h
  rw [← net_sum hg fl side]
  have hs : ((s.toNat : Nat) : Int) = s := by omega
  rw [S_single (k := s.toNat) (by omega)]
  · show _ = pick (sAt side ((s.toNat : Nat) : Int) = true) (net es fl ((s.toNat : Nat) : Int))
    rw [hs, pick_pos hc.src]
  · intro u hu hus
    by_cases hd : sAt side u = true
    · rw [pick_pos hd]
      refine hf.kept u (by omega) (by omega) (by omega) ?_
      intro e
      have := hc.snk
      rw [← e, hd] at this
      cases this
    · rw [pick_neg hd]

/-- Any flow has at most the capacity of any cut. -/
theorem weak {nodes : Int} {es : List GEdge} {s t : Int} {fl : List Int} {side : List Bool} (h : okEnds nodes es s t = true) (hf : IsFlow nodes es s t fl) (hc : IsCut nodes s t side) : net es fl s ≤ capac es side := by
  rw [net_source h hf hc, capac]
  refine S_le fun i hi => ?_
  obtain ⟨a, b⟩ := hf.fits i hi
  by_cases h1 : sAt side (eAt es i).frm = true <;> by_cases h2 : sAt side (eAt es i).to = true
  all_goals simp [pick, crossing, h1, h2]
  all_goals omega

/-- n is the greatest amount: a flow and a cut prove it. -/
def IsMost (nodes : Int) (es : List GEdge) (s t n : Int) : Prop := ∃ fl side, IsFlow nodes es s t fl ∧ IsCut nodes s t side ∧ net es fl s = n ∧ capac es side = n

theorem IsMost.le {nodes : Int} {es : List GEdge} {s t n : Int} {side : List Bool} (h : okEnds nodes es s t = true) (hn : IsMost nodes es s t n) (hc : IsCut nodes s t side) : n ≤ capac es side := by
  obtain ⟨f, c, hf, _, e1, _⟩ := hn
  have a := weak h hf hc
  omega

/-! ## One step of an augmentation -/

end Go.Proofs.YtkbbapefgifagaaGreatDoor
/-
Plain: the greatest amount of a graph that was changed: edges in another order, turned round, wider, scaled, more edges.
-/
namespace Go.Proofs.YtkbbapefgifagaaGreatDoor

/-- The rows of a list made place by place. -/
def mk {α : Type} (n : Nat) (f : Nat → α) : List α := (List.range n).map f
theorem mk_len {α : Type} (n : Nat) (f : Nat → α) : (mk n f).length = n := by simp [mk]
theorem mk_at {α : Type} {n : Nat} (f : Nat → α) {i : Nat} (h : i < n) : (mk n f)[i]? = some (f i) := by
  simp [mk, List.getElem?_range h]
/-! ## Another order -/
def turn (es : List GEdge) (k : Nat) : List GEdge := mk es.length (fun i => eAt es ((i + k) % es.length))
/-! ## Turned round -/
/-! ## Wider -/
def wide (es : List GEdge) (k : Nat) (c : Int) : List GEdge := es.set k ⟨(eAt es k).frm, (eAt es k).to, c⟩
/-! ## Scaled -/
/-! ## More edges -/
end Go.Proofs.YtkbbapefgifagaaGreatDoor
