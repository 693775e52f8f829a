/-
Several texts in one: FlowMath, FlowPl, PlanMath, PlanMath2, PlanLaw, AdmMath, PlanRG.
-/
/-
Plain facts on graphs, flows and cuts: any flow has at most the capacity of any cut, and a flow whose cut is closed under residual steps has just that capacity. No program in sight.
-/
namespace Go.Proofs.Ytgfcnkfmgpakkaa

structure GEdge where
  frm : Int
  to : Int
  cap : Int
deriving Inhabited

/-- The sum of the first n values. -/
def S : Nat → (Nat → Int) → Int
  | 0, _ => 0
  | n + 1, g => S n g + g n

theorem S_succ (n : Nat) (g : Nat → Int) : S (n + 1) g = S n g + g n := rfl
theorem S_congr {n : Nat} {g h : Nat → Int} (e : ∀ i, i < n → g i = h i) : S n g = S n h := by
  induction n with
  | zero => rfl
  | succ n ih => rw [S_succ, S_succ, ih (fun i hi => e i (by omega)), e n (by omega)]
theorem S_zero (n : Nat) : S n (fun _ => 0) = 0 := by
  induction n with
  | zero => rfl
  | succ n ih => rw [S_succ, ih]; rfl
theorem S_add (n : Nat) (g h : Nat → Int) : S n (fun i => g i + h i) = S n g + S n h := by
  induction n with
  | zero => rfl
  | succ n ih => simp only [S_succ, ih]; omega
theorem S_sub (n : Nat) (g h : Nat → Int) : S n (fun i => g i - h i) = S n g - S n h := by
  induction n with
  | zero => rfl
  | succ n ih => simp only [S_succ, ih]; omega
theorem S_mul (n : Nat) (c : Int) (g : Nat → Int) : S n (fun i => c * g i) = c * S n g := by
  induction n with
  | zero => simp [S]
  | succ n ih => simp only [S_succ, ih, Int.mul_add]
theorem S_le {n : Nat} {g h : Nat → Int} (e : ∀ i, i < n → g i ≤ h i) : S n g ≤ S n h := by
  induction n with
  | zero => exact Int.le_refl _
  | succ n ih => rw [S_succ, S_succ]; have := ih (fun i hi => e i (by omega)); have := e n (by omega); omega
theorem S_nonneg {n : Nat} {g : Nat → Int} (e : ∀ i, i < n → 0 ≤ g i) : 0 ≤ S n g := by
  have := S_le (g := fun _ => 0) e
  rwa [S_zero] at this
theorem S_bound {n : Nat} {g : Nat → Int} {c : Int} (e : ∀ i, i < n → g i ≤ c) : S n g ≤ n * c := by
  induction n with
  | zero => simp [S]
  | succ n ih =>
    rw [S_succ]; have h1 := ih (fun i hi => e i (by omega)); have h2 := e n (by omega)
    have h3 : ((n + 1 : Nat) : Int) * c = n * c + c := by rw [Int.natCast_add, Int.add_mul]; simp
    omega
theorem S_lower {n : Nat} {g : Nat → Int} {c : Int} (e : ∀ i, i < n → c ≤ g i) : n * c ≤ S n g := by
  induction n with
  | zero => simp [S]
  | succ n ih =>
    rw [S_succ]; have h1 := ih (fun i hi => e i (by omega)); have h2 := e n (by omega)
    have h3 : ((n + 1 : Nat) : Int) * c = n * c + c := by rw [Int.natCast_add, Int.add_mul]; simp
    omega
theorem S_swap (n m : Nat) (g : Nat → Nat → Int) : S n (fun i => S m (fun j => g i j)) = S m (fun j => S n (fun i => g i j)) := by
  induction n with
  | zero => simp [S, S_zero]
  | succ n ih => simp only [S_succ, ih, S_add]
/-- A sum in which one place alone counts. -/
theorem S_single {n : Nat} {g : Nat → Int} {k : Nat} (hk : k < n) (e : ∀ i, i < n → i ≠ k → g i = 0) : S n g = g k := by
  induction n with
  | zero => omega
  | succ n ih =>
    rw [S_succ]
    by_cases h : k = n
    · subst h
      rw [S_congr (h := fun _ => 0) (fun i hi => e i (by omega) (by omega)), S_zero]; omega
    · rw [ih (by omega) (fun i hi hne => e i (by omega) hne), e n (by omega) (by omega)]; omega
/-- Two families that differ at one place. -/
theorem S_change {n : Nat} {g h : Nat → Int} {k : Nat} (hk : k < n) (e : ∀ i, i < n → i ≠ k → g i = h i) : S n g = S n h + (g k - h k) := by
  have h1 : S n (fun i => g i - h i) = g k - h k := S_single hk (fun i hi hne => by have := e i hi hne; omega)
  rw [S_sub] at h1
  omega
theorem S_append (n m : Nat) (g : Nat → Int) : S (n + m) g = S n g + S m (fun i => g (n + i)) := by
  induction m with
  | zero => simp [S]
  | succ m ih => rw [← Nat.add_assoc, S_succ, ih, S_succ]; omega

abbrev eAt (es : List GEdge) (i : Nat) : GEdge := es[i]?.getD default
abbrev fAt (fl : List Int) (i : Nat) : Int := fl[i]?.getD 0
abbrev sAt (side : List Bool) (u : Int) : Bool := side[u.toNat]?.getD false

def pick (c : Prop) [Decidable c] (x : Int) : Int := if c then x else 0
theorem pick_pos {c : Prop} [Decidable c] (h : c) (x : Int) : pick c x = x := if_pos h
theorem pick_neg {c : Prop} [Decidable c] (h : ¬ c) (x : Int) : pick c x = 0 := if_neg h

/-- What edge i carries out of node u. -/
def term (es : List GEdge) (fl : List Int) (u : Int) (i : Nat) : Int := pick ((eAt es i).frm = u) (fAt fl i) - pick ((eAt es i).to = u) (fAt fl i)
def net (es : List GEdge) (fl : List Int) (u : Int) : Int := S es.length (term es fl u)
def crossing (side : List Bool) (e : GEdge) : Bool := sAt side e.frm && !sAt side e.to
def capac (es : List GEdge) (side : List Bool) : Int := S es.length (fun i => pick (crossing side (eAt es i) = true) (eAt es i).cap)

def okE (nodes : Int) (e : GEdge) : Bool := decide (0 ≤ e.frm ∧ e.frm < nodes ∧ 0 ≤ e.to ∧ e.to < nodes ∧ 0 ≤ e.cap ∧ e.cap ≤ 1000000)
def okG (nodes : Int) (es : List GEdge) : Bool := decide (1 ≤ nodes ∧ nodes ≤ 64 ∧ es.length ≤ 512) && es.all (okE nodes)
def okEnds (nodes : Int) (es : List GEdge) (s t : Int) : Bool := okG nodes es && decide (0 ≤ s ∧ s < nodes ∧ 0 ≤ t ∧ t < nodes ∧ s ≠ t)

theorem okE_iff {nodes : Int} {e : GEdge} : okE nodes e = true ↔ (0 ≤ e.frm ∧ e.frm < nodes ∧ 0 ≤ e.to ∧ e.to < nodes ∧ 0 ≤ e.cap ∧ e.cap ≤ 1000000) := by simp [okE]
theorem okG_iff {nodes : Int} {es : List GEdge} : okG nodes es = true ↔ ((1 ≤ nodes ∧ nodes ≤ 64 ∧ es.length ≤ 512) ∧ ∀ e, e ∈ es → okE nodes e = true) := by simp [okG]
theorem okG_at {nodes : Int} {es : List GEdge} (h : okG nodes es = true) {i : Nat} (hi : i < es.length) :
    0 ≤ (eAt es i).frm ∧ (eAt es i).frm < nodes ∧ 0 ≤ (eAt es i).to ∧ (eAt es i).to < nodes ∧ 0 ≤ (eAt es i).cap ∧ (eAt es i).cap ≤ 1000000 := by
  have := (okG_iff.1 h).2 (es[i]) (List.getElem_mem hi)
  simpa [eAt, List.getElem?_eq_getElem hi] using okE_iff.1 this
theorem okEnds_iff {nodes : Int} {es : List GEdge} {s t : Int} : okEnds nodes es s t = true ↔ (okG nodes es = true ∧ 0 ≤ s ∧ s < nodes ∧ 0 ≤ t ∧ t < nodes ∧ s ≠ t) := by simp [okEnds]

structure IsFlow (nodes : Int) (es : List GEdge) (s t : Int) (fl : List Int) : Prop where
  len : fl.length = es.length
  fits : ∀ i, i < es.length → 0 ≤ fAt fl i ∧ fAt fl i ≤ (eAt es i).cap
  kept : ∀ u, 0 ≤ u → u < nodes → u ≠ s → u ≠ t → net es fl u = 0

structure IsCut (nodes : Int) (s t : Int) (side : List Bool) : Prop where
  len : (side.length : Int) = nodes
  src : sAt side s = true
  snk : sAt side t = false

/-- Over the nodes of a cut the net amounts add up to what crosses it. -/
theorem net_sum {nodes : Int} {es : List GEdge} (h : okG nodes es = true) (fl : List Int) (side : List Bool) :
    S nodes.toNat (fun u => pick (sAt side u = true) (net es fl u)) = S es.length (fun i => (pick (sAt side (eAt es i).frm = true) (fAt fl i) - pick (sAt side (eAt es i).to = true) (fAt fl i))) := by
  have e1 : S nodes.toNat (fun u => pick (sAt side u = true) (net es fl u)) = S nodes.toNat (fun u => S es.length (fun i => pick (sAt side u = true) (term es fl u i))) := by
    refine S_congr fun u _ => ?_
    by_cases hs : sAt side u = true
    · simp only [pick_pos hs]; rfl
    · simp only [pick_neg hs]; exact (S_zero _).symm
  rw [e1, S_swap]
  refine S_congr fun i hi => ?_
  obtain ⟨h1, h2, h3, h4, _, _⟩ := okG_at h hi
  have e2 : ∀ u : Nat, pick (sAt side u = true) (term es fl u i) = pick (sAt side u = true ∧ (eAt es i).frm = u) (fAt fl i) - pick (sAt side u = true ∧ (eAt es i).to = u) (fAt fl i) := by
    intro u
    by_cases hs : sAt side u = true
    · rw [pick_pos hs]; simp only [term, pick, hs, true_and]
    · rw [pick_neg hs, pick_neg (fun x => hs x.1), pick_neg (fun x => hs x.1)]; rfl
  rw [S_congr (fun u _ => e2 u), S_sub]
  have key : ∀ v : Int, 0 ≤ v → v < nodes → S nodes.toNat (fun u => pick (sAt side u = true ∧ v = u) (fAt fl i)) = pick (sAt side v = true) (fAt fl i) := by
    intro v hv0 hv1
    rw [S_single (k := v.toNat) (by omega) (fun j _ hne => pick_neg (fun x => hne (by omega)) _)]
    have hv : ((v.toNat : Nat) : Int) = v := by omega
    rw [hv]
    by_cases hs : sAt side v = true
    · rw [pick_pos hs, pick_pos ⟨hs, rfl⟩]
    · rw [pick_neg hs, pick_neg (fun x => hs x.1)]
  rw [key _ h1 h2, key _ h3 h4]

theorem net_source {nodes : Int} {es : List GEdge} {s t : Int} {fl : List Int} {side : List Bool} (h : okEnds nodes es s t = true) (hf : IsFlow nodes es s t fl) (hc : IsCut nodes s t side) :
    net es fl s = S es.length (fun i => (pick (sAt side (eAt es i).frm = true) (fAt fl i) - pick (sAt side (eAt es i).to = true) (fAt fl i))) := by
  obtain ⟨hg, h0, h1, h2, h3, hne⟩ := okEnds_iff.1 h
  rw [← net_sum hg fl side]
  have hs : ((s.toNat : Nat) : Int) = s := by omega
  rw [S_single (k := s.toNat) (by omega)]
  · show _ = pick (sAt side ((s.toNat : Nat) : Int) = true) (net es fl ((s.toNat : Nat) : Int))
    rw [hs, pick_pos hc.src]
  · intro u hu hus
    by_cases hd : sAt side u = true
    · rw [pick_pos hd]
      refine hf.kept u (by omega) (by omega) (by omega) ?_
      intro e
      have := hc.snk
      rw [← e, hd] at this
      cases this
    · rw [pick_neg hd]

/-- Any flow has at most the capacity of any cut. -/
theorem weak {nodes : Int} {es : List GEdge} {s t : Int} {fl : List Int} {side : List Bool} (h : okEnds nodes es s t = true) (hf : IsFlow nodes es s t fl) (hc : IsCut nodes s t side) : net es fl s ≤ capac es side := by
  rw [net_source h hf hc, capac]
  refine S_le fun i hi => ?_
  obtain ⟨a, b⟩ := hf.fits i hi
  by_cases h1 : sAt side (eAt es i).frm = true <;> by_cases h2 : sAt side (eAt es i).to = true
  all_goals simp [pick, crossing, h1, h2]
  all_goals omega

/-- A flow and a cut that no residual step leaves: they have the same amount. -/
theorem tight {nodes : Int} {es : List GEdge} {s t : Int} {fl : List Int} {side : List Bool} (h : okEnds nodes es s t = true) (hf : IsFlow nodes es s t fl) (hc : IsCut nodes s t side)
    (hr : ∀ i, i < es.length → (sAt side (eAt es i).frm = true → fAt fl i < (eAt es i).cap → sAt side (eAt es i).to = true) ∧ (sAt side (eAt es i).to = true → 0 < fAt fl i → sAt side (eAt es i).frm = true)) :
    net es fl s = capac es side := by
  rw [net_source h hf hc, capac]
  refine S_congr fun i hi => ?_
  obtain ⟨a, b⟩ := hf.fits i hi
  obtain ⟨r1, r2⟩ := hr i hi
  by_cases h1 : sAt side (eAt es i).frm = true <;> by_cases h2 : sAt side (eAt es i).to = true
  · simp [pick, crossing, h1, h2]
  · simp [pick, crossing, h1, h2]
    have := mt (r1 h1) h2
    omega
  · simp [pick, crossing, h1, h2]
    have := mt (r2 h2) h1
    omega
  · simp [pick, crossing, h1, h2]

/-- n is the greatest amount: a flow and a cut prove it. -/
def IsMost (nodes : Int) (es : List GEdge) (s t n : Int) : Prop := ∃ fl side, IsFlow nodes es s t fl ∧ IsCut nodes s t side ∧ net es fl s = n ∧ capac es side = n

theorem IsMost.eq {nodes : Int} {es : List GEdge} {s t n m : Int} (h : okEnds nodes es s t = true) (hn : IsMost nodes es s t n) (hm : IsMost nodes es s t m) : n = m := by
  obtain ⟨f, c, hf, hc, e1, e2⟩ := hn
  obtain ⟨f', c', hf', hc', e1', e2'⟩ := hm
  have a := weak h hf hc'
  have b := weak h hf' hc
  omega
theorem IsMost.ge {nodes : Int} {es : List GEdge} {s t n : Int} {fl : List Int} (h : okEnds nodes es s t = true) (hn : IsMost nodes es s t n) (hf : IsFlow nodes es s t fl) : net es fl s ≤ n := by
  obtain ⟨f, c, _, hc, _, e2⟩ := hn
  have a := weak h hf hc
  omega
theorem IsMost.le {nodes : Int} {es : List GEdge} {s t n : Int} {side : List Bool} (h : okEnds nodes es s t = true) (hn : IsMost nodes es s t n) (hc : IsCut nodes s t side) : n ≤ capac es side := by
  obtain ⟨f, c, hf, _, e1, _⟩ := hn
  have a := weak h hf hc
  omega

/-! ## One step of an augmentation -/

theorem fAt_set (fl : List Int) (k i : Nat) (x : Int) (hk : k < fl.length) : fAt (fl.set k x) i = if i = k then x else fAt fl i := by
  unfold fAt
  rw [List.getElem?_set]
  by_cases h : k = i
  · subst h; simp [hk]
  · have h' : ¬ i = k := fun e => h e.symm
    simp [h, h']

theorem net_set {es : List GEdge} {fl : List Int} {k : Nat} (hk : k < es.length) (hl : fl.length = es.length) (x u : Int) :
    net es (fl.set k x) u = net es fl u + (pick ((eAt es k).frm = u) (x - fAt fl k) - pick ((eAt es k).to = u) (x - fAt fl k)) := by
  unfold net
  rw [S_change hk (h := term es fl u)]
  · congr 1
    unfold term
    rw [fAt_set _ _ _ _ (by omega), if_pos rfl]
    unfold pick
    split <;> split <;> omega
  · intro i _ hne
    unfold term
    rw [fAt_set _ _ _ _ (by omega), if_neg hne]

theorem net_le_bound {nodes : Int} {es : List GEdge} {s t : Int} {fl : List Int} (h : okG nodes es = true) (hf : IsFlow nodes es s t fl) (u : Int) : -512000000 ≤ net es fl u ∧ net es fl u ≤ 512000000 := by
  have hl := (okG_iff.1 h).1.2.2
  have a : ∀ i, i < es.length → term es fl u i ≤ 1000000 ∧ -1000000 ≤ term es fl u i := by
    intro i hi
    obtain ⟨a, b⟩ := hf.fits i hi
    obtain ⟨_, _, _, _, c, d⟩ := okG_at h hi
    unfold term pick
    split <;> split <;> omega
  have h1 := S_bound (fun i hi => (a i hi).1)
  have h2 := S_lower (fun i hi => (a i hi).2)
  unfold net
  omega

end Go.Proofs.Ytgfcnkfmgpakkaa
/-
Plain: the greatest amount of a graph that was changed: edges in another order, turned round, wider, scaled, more edges.
-/
namespace Go.Proofs.Ytgfcnkfmgpakkaa

theorem eAt_lt {es : List GEdge} {i : Nat} (h : i < es.length) : eAt es i = es[i] := by simp [eAt, List.getElem?_eq_getElem h]
theorem eAt_mem {es : List GEdge} {i : Nat} (h : i < es.length) : eAt es i ∈ es := by rw [eAt_lt h]; exact List.getElem_mem h
theorem okG_of_at {nodes : Int} {es : List GEdge} (h1 : 1 ≤ nodes ∧ nodes ≤ 64 ∧ es.length ≤ 512) (h : ∀ i, i < es.length → okE nodes (eAt es i) = true) : okG nodes es = true := by
  refine okG_iff.2 ⟨h1, fun e he => ?_⟩
  obtain ⟨i, hi, rfl⟩ := List.getElem_of_mem he
  have := h i hi
  rwa [eAt_lt hi] at this
theorem okE_at {nodes : Int} {es : List GEdge} (h : okG nodes es = true) {i : Nat} (hi : i < es.length) : okE nodes (eAt es i) = true := (okG_iff.1 h).2 _ (eAt_mem hi)

/-- The rows of a list made place by place. -/
def mk {α : Type} (n : Nat) (f : Nat → α) : List α := (List.range n).map f
theorem mk_len {α : Type} (n : Nat) (f : Nat → α) : (mk n f).length = n := by simp [mk]
theorem mk_at {α : Type} {n : Nat} (f : Nat → α) {i : Nat} (h : i < n) : (mk n f)[i]? = some (f i) := by
  simp [mk, List.getElem?_range h]
theorem mk_succ {α : Type} (n : Nat) (f : Nat → α) : mk (n + 1) f = mk n f ++ [f n] := by simp [mk, List.range_succ]
theorem mk_e {n : Nat} (f : Nat → GEdge) {i : Nat} (h : i < n) : eAt (mk n f) i = f i := by unfold eAt; rw [mk_at f h]; rfl
theorem mk_f {n : Nat} (f : Nat → Int) {i : Nat} (h : i < n) : fAt (mk n f) i = f i := by unfold fAt; rw [mk_at f h]; rfl

/-! ## Another order -/
theorem S_rot (n k : Nat) (hk : k < n) (g : Nat → Int) : S n (fun i => g ((i + k) % n)) = S n g := by
  have e1 : n = (n - k) + k := by omega
  have e2 : n = k + (n - k) := by omega
  have a : S n (fun i => g ((i + k) % n)) = S (n - k) (fun i => g (k + i)) + S k g := by
    have h := S_append (n - k) k (fun i => g ((i + k) % n))
    rw [← e1] at h
    rw [h, S_congr (n := n - k) (h := fun i => g (k + i)) (fun i hi => ?_), S_congr (n := k) (h := g) (fun i hi => ?_)]
    · have : (n - k + i + k) % n = i := by rw [show n - k + i + k = i + n by omega, Nat.add_mod_right, Nat.mod_eq_of_lt (by omega)]
      rw [this]
    · rw [Nat.mod_eq_of_lt (by omega), Nat.add_comm]
  have b : S n g = S k g + S (n - k) (fun i => g (k + i)) := by
    have h := S_append k (n - k) g
    rwa [← e2] at h
  omega
def turn (es : List GEdge) (k : Nat) : List GEdge := mk es.length (fun i => eAt es ((i + k) % es.length))
theorem turn_len (es : List GEdge) (k : Nat) : (turn es k).length = es.length := mk_len _ _
theorem turn_ok {nodes : Int} {es : List GEdge} (k : Nat) (h : okG nodes es = true) : okG nodes (turn es k) = true := by
  refine okG_of_at (by rw [turn_len]; exact (okG_iff.1 h).1) fun i hi => ?_
  rw [turn_len] at hi
  unfold turn
  rw [mk_e _ hi]
  exact okE_at h (Nat.mod_lt _ (by omega))
theorem turn_most {nodes : Int} {es : List GEdge} {s t n : Int} {k : Nat} (hk : es.length = 0 ∨ k < es.length) (h : IsMost nodes es s t n) : IsMost nodes (turn es k) s t n := by
  obtain ⟨fl, side, hf, hc, e1, e2⟩ := h
  have hnet : ∀ u, net (turn es k) (mk es.length (fun i => fAt fl ((i + k) % es.length))) u = net es fl u := by
    intro u
    unfold net
    rw [turn_len]
    rcases hk with h0 | hk
    · rw [h0]; rfl
    · rw [← S_rot es.length k hk (term es fl u)]
      refine S_congr fun i hi => ?_
      unfold term turn
      rw [mk_e _ hi, mk_f _ hi]
  refine ⟨_, side, ⟨?_, ?_, ?_⟩, hc, (hnet s).trans e1, ?_⟩
  · rw [mk_len, turn_len]
  · intro i hi
    rw [turn_len] at hi
    rw [mk_f _ hi]
    unfold turn
    rw [mk_e _ hi]
    exact hf.fits _ (Nat.mod_lt _ (by omega))
  · intro u h0 h1 h2 h3
    rw [hnet]
    exact hf.kept u h0 h1 h2 h3
  · rw [← e2]
    unfold capac
    rw [turn_len]
    rcases hk with h0 | hk
    · rw [h0]; rfl
    · rw [← S_rot es.length k hk (fun i => pick (crossing side (eAt es i) = true) (eAt es i).cap)]
      refine S_congr fun i hi => ?_
      unfold turn
      rw [mk_e _ hi]

/-! ## Turned round -/
def flipE (e : GEdge) : GEdge := ⟨e.to, e.frm, e.cap⟩
def flipG (es : List GEdge) : List GEdge := es.map flipE
theorem flip_len (es : List GEdge) : (flipG es).length = es.length := by simp [flipG]
theorem flip_e {es : List GEdge} {i : Nat} (h : i < es.length) : eAt (flipG es) i = flipE (eAt es i) := by
  rw [eAt_lt h, eAt_lt (by rw [flip_len]; exact h)]
  simp [flipG]
theorem flip_ok {nodes : Int} {es : List GEdge} (h : okG nodes es = true) : okG nodes (flipG es) = true := by
  refine okG_of_at (by rw [flip_len]; exact (okG_iff.1 h).1) fun i hi => ?_
  rw [flip_len] at hi
  rw [flip_e hi]
  obtain ⟨a, b, c, d, e, f⟩ := okG_at h hi
  exact okE_iff.2 ⟨c, d, a, b, e, f⟩
theorem net_both {nodes : Int} {es : List GEdge} {s t : Int} {fl : List Int} (h : okEnds nodes es s t = true) (hf : IsFlow nodes es s t fl) : net es fl t = - net es fl s := by
  obtain ⟨hg, h0, h1, h2, h3, hne⟩ := okEnds_iff.1 h
  have hall : ∀ u : Int, 0 ≤ u → u < nodes → sAt (List.replicate nodes.toNat true) u = true := by
    intro u a b
    unfold sAt
    rw [List.getElem?_replicate, if_pos (by omega)]
    rfl
  have e := net_sum hg fl (List.replicate nodes.toNat true)
  have e0 : S es.length (fun i => (pick (sAt (List.replicate nodes.toNat true) (eAt es i).frm = true) (fAt fl i) - pick (sAt (List.replicate nodes.toNat true) (eAt es i).to = true) (fAt fl i))) = 0 := by
    rw [S_congr (h := fun _ => 0) (fun i hi => ?_), S_zero]
    obtain ⟨a, b, c, d, _, _⟩ := okG_at hg hi
    rw [pick_pos (hall _ a b), pick_pos (hall _ c d)]
    omega
  rw [e0] at e
  have e2 : S nodes.toNat (fun u => pick (sAt (List.replicate nodes.toNat true) u = true) (net es fl u)) = S nodes.toNat (fun u => pick ((u : Int) = s) (net es fl s) + pick ((u : Int) = t) (net es fl t)) := by
    refine S_congr fun u hu => ?_
    rw [pick_pos (hall u (by omega) (by omega))]
    by_cases hs : (u : Int) = s
    · rw [pick_pos hs, pick_neg (by omega), hs]; omega
    · by_cases ht : (u : Int) = t
      · rw [pick_neg hs, pick_pos ht, ht]; omega
      · rw [pick_neg hs, pick_neg ht, hf.kept u (by omega) (by omega) hs ht]; rfl
  rw [e2, S_add, S_single (k := s.toNat) (by omega) (fun j _ hj => pick_neg (by omega) _), S_single (k := t.toNat) (by omega) (fun j _ hj => pick_neg (by omega) _), pick_pos (by omega), pick_pos (by omega)] at e
  omega
theorem flip_most {nodes : Int} {es : List GEdge} {s t n : Int} (h : okEnds nodes es s t = true) (hm : IsMost nodes es s t n) : IsMost nodes (flipG es) t s n := by
  obtain ⟨fl, side, hf, hc, e1, e2⟩ := hm
  obtain ⟨hg, h0, h1, h2, h3, hne⟩ := okEnds_iff.1 h
  have hnet : ∀ u, net (flipG es) fl u = - net es fl u := by
    intro u
    have e : S es.length (fun i => (-1) * term es fl u i) = (-1) * net es fl u := S_mul _ _ _
    rw [show - net es fl u = (-1) * net es fl u by omega, ← e]
    unfold net
    rw [flip_len]
    refine S_congr fun i hi => ?_
    unfold term
    rw [flip_e hi]
    unfold flipE
    dsimp only
    omega
  have hlen := hc.len
  have hnot : ∀ u : Int, 0 ≤ u → u < nodes → sAt (side.map (!·)) u = !sAt side u := by
    intro u a b
    unfold sAt
    rw [List.getElem?_map, List.getElem?_eq_getElem (by omega)]
    rfl
  refine ⟨fl, side.map (!·), ⟨?_, ?_, ?_⟩, ⟨?_, ?_, ?_⟩, ?_, ?_⟩
  · rw [flip_len]; exact hf.len
  · intro i hi
    rw [flip_len] at hi
    rw [flip_e hi]
    exact hf.fits i hi
  · intro u a b c d
    rw [hnet, hf.kept u a b d c]
    rfl
  · rw [List.length_map]; exact hlen
  · rw [hnot t h2 h3, hc.snk]; rfl
  · rw [hnot s h0 h1, hc.src]; rfl
  · rw [hnet, net_both h hf]; omega
  · rw [← e2]
    unfold capac
    rw [flip_len]
    refine S_congr fun i hi => ?_
    obtain ⟨a, b, c, d, _, _⟩ := okG_at hg hi
    rw [flip_e hi]
    unfold crossing flipE
    dsimp only
    rw [hnot _ a b, hnot _ c d]
    cases sAt side (eAt es i).frm <;> cases sAt side (eAt es i).to <;> rfl

/-! ## Wider -/
def wide (es : List GEdge) (k : Nat) (c : Int) : List GEdge := es.set k ⟨(eAt es k).frm, (eAt es k).to, c⟩
theorem wide_len (es : List GEdge) (k : Nat) (c : Int) : (wide es k c).length = es.length := by simp [wide]
theorem wide_e {es : List GEdge} {k : Nat} {c : Int} (hk : k < es.length) (i : Nat) : eAt (wide es k c) i = if i = k then ⟨(eAt es k).frm, (eAt es k).to, c⟩ else eAt es i := by
  unfold eAt wide
  rw [List.getElem?_set]
  by_cases h : k = i
  · subst h; rw [if_pos rfl, if_pos hk, if_pos rfl]; rfl
  · have h' : ¬ i = k := fun e => h e.symm
    simp [h, h']
theorem wide_ok {nodes : Int} {es : List GEdge} {k : Nat} {c : Int} (hk : k < es.length) (c0 : 0 ≤ c) (c1 : c ≤ 1000000) (h : okG nodes es = true) : okG nodes (wide es k c) = true := by
  refine okG_of_at (by rw [wide_len]; exact (okG_iff.1 h).1) fun i hi => ?_
  rw [wide_len] at hi
  rw [wide_e hk]
  split
  · obtain ⟨a, b, c', d, e, f⟩ := okG_at h hk
    exact okE_iff.2 ⟨a, b, c', d, c0, c1⟩
  · exact okE_at h hi
theorem wide_most {nodes : Int} {es : List GEdge} {s t n m : Int} {k : Nat} {c more : Int} (hk : k < es.length) (h : okEnds nodes es s t = true) (c0 : (eAt es k).cap ≤ c) (c1 : c ≤ (eAt es k).cap + more) (c2 : c ≤ 1000000)
    (hn : IsMost nodes es s t n) (hm : IsMost nodes (wide es k c) s t m) : n ≤ m ∧ m ≤ n + more := by
  obtain ⟨hg, h0, h1, h2, h3, hne⟩ := okEnds_iff.1 h
  have hE : okEnds nodes (wide es k c) s t = true := okEnds_iff.2 ⟨wide_ok hk (by have := (okG_at hg hk).2.2.2.2.1; omega) c2 hg, h0, h1, h2, h3, hne⟩
  obtain ⟨fl, side, hf, hc, e1, e2⟩ := hn
  have hnet : ∀ u, net (wide es k c) fl u = net es fl u := by
    intro u
    unfold net
    rw [wide_len]
    refine S_congr fun i hi => ?_
    unfold term
    rw [wide_e hk]
    split
    · rename_i e; subst e; rfl
    · rfl
  constructor
  · have := hm.ge hE (fl := fl) ⟨by rw [wide_len]; exact hf.len, fun i hi => ?_, fun u a b c d => by rw [hnet]; exact hf.kept u a b c d⟩
    · rw [hnet, e1] at this; exact this
    · rw [wide_len] at hi
      have := hf.fits i hi
      rw [wide_e hk]
      split
      · rename_i e; subst e; exact ⟨this.1, by dsimp only; omega⟩
      · exact this
  · have := hm.le hE hc
    refine Int.le_trans this ?_
    rw [← e2]
    unfold capac
    rw [wide_len, S_change hk (h := fun i => pick (crossing side (eAt es i) = true) (eAt es i).cap) (fun i _ hne => by rw [wide_e hk, if_neg hne])]
    have hx : eAt (wide es k c) k = ⟨(eAt es k).frm, (eAt es k).to, c⟩ := by rw [wide_e hk, if_pos rfl]
    rw [hx]
    unfold crossing
    dsimp only
    cases hcr : (sAt side (eAt es k).frm && !sAt side (eAt es k).to)
    · rw [pick_neg (by simp), pick_neg (by simp)]; omega
    · rw [pick_pos rfl, pick_pos rfl]; omega

/-! ## Scaled -/
def scaleE (x : Int) (e : GEdge) : GEdge := ⟨e.frm, e.to, x * e.cap⟩
def scaleG (x : Int) (es : List GEdge) : List GEdge := es.map (scaleE x)
theorem scale_len (x : Int) (es : List GEdge) : (scaleG x es).length = es.length := by simp [scaleG]
theorem scale_e {x : Int} {es : List GEdge} {i : Nat} (h : i < es.length) : eAt (scaleG x es) i = scaleE x (eAt es i) := by
  rw [eAt_lt h, eAt_lt (by rw [scale_len]; exact h)]
  simp [scaleG]
theorem scale_most {nodes : Int} {es : List GEdge} {s t n x : Int} (hx : 0 ≤ x) (hm : IsMost nodes es s t n) : IsMost nodes (scaleG x es) s t (x * n) := by
  obtain ⟨fl, side, hf, hc, e1, e2⟩ := hm
  have hl := hf.len
  have hfa : ∀ i, i < es.length → fAt (fl.map (x * ·)) i = x * fAt fl i := by
    intro i hi
    unfold fAt
    rw [List.getElem?_map, List.getElem?_eq_getElem (by omega)]
    rfl
  have hnet : ∀ u, net (scaleG x es) (fl.map (x * ·)) u = x * net es fl u := by
    intro u
    have e : S es.length (fun i => x * term es fl u i) = x * net es fl u := S_mul _ _ _
    rw [← e]
    unfold net
    rw [scale_len]
    refine S_congr fun i hi => ?_
    unfold term
    rw [scale_e hi, hfa i hi]
    unfold scaleE pick
    dsimp only
    rw [Int.mul_sub]
    split <;> split <;> simp
  refine ⟨_, side, ⟨?_, ?_, ?_⟩, hc, (hnet s).trans (by rw [e1]), ?_⟩
  · rw [scale_len, List.length_map]; exact hl
  · intro i hi
    rw [scale_len] at hi
    rw [scale_e hi, hfa i hi]
    obtain ⟨a, b⟩ := hf.fits i hi
    exact ⟨Int.mul_nonneg hx a, Int.mul_le_mul_of_nonneg_left b hx⟩
  · intro u a b c d
    rw [hnet, hf.kept u a b c d]
    simp
  · have e : S es.length (fun i => x * pick (crossing side (eAt es i) = true) (eAt es i).cap) = x * capac es side := S_mul _ _ _
    rw [← e2, ← e]
    unfold capac
    rw [scale_len]
    refine S_congr fun i hi => ?_
    rw [scale_e hi]
    unfold scaleE crossing pick
    dsimp only
    split <;> simp

/-! ## More edges -/
theorem app_e1 {es ys : List GEdge} {i : Nat} (h : i < es.length) : eAt (es ++ ys) i = eAt es i := by unfold eAt; rw [List.getElem?_append_left h]
theorem app_f1 {fl gl : List Int} {i : Nat} (h : i < fl.length) : fAt (fl ++ gl) i = fAt fl i := by unfold fAt; rw [List.getElem?_append_left h]
theorem app_e2 {es ys : List GEdge} {j : Nat} : eAt (es ++ ys) (es.length + j) = eAt ys j := by unfold eAt; rw [List.getElem?_append_right (by omega), Nat.add_sub_cancel_left]
theorem app_f2 {fl gl : List Int} {n j : Nat} (h : fl.length = n) : fAt (fl ++ gl) (n + j) = fAt gl j := by subst h; unfold fAt; rw [List.getElem?_append_right (by omega), Nat.add_sub_cancel_left]
theorem net_app {es ys : List GEdge} {fl gl : List Int} (h : fl.length = es.length) (u : Int) : net (es ++ ys) (fl ++ gl) u = net es fl u + net ys gl u := by
  unfold net
  rw [List.length_append, S_append]
  congr 1
  · refine S_congr fun i hi => ?_
    unfold term
    rw [app_e1 hi, app_f1 (by omega)]
  · refine S_congr fun i _ => ?_
    unfold term
    rw [app_e2, app_f2 h]
theorem capac_app (es ys : List GEdge) (side : List Bool) : capac (es ++ ys) side = capac es side + capac ys side := by
  unfold capac
  rw [List.length_append, S_append]
  congr 1
  · refine S_congr fun i hi => ?_
    rw [app_e1 hi]
  · refine S_congr fun i _ => ?_
    rw [app_e2]
theorem app_ok {nodes : Int} {es ys : List GEdge} (h : okG nodes es = true) (hl : es.length + ys.length ≤ 512) (hy : ∀ e, e ∈ ys → okE nodes e = true) : okG nodes (es ++ ys) = true := by
  obtain ⟨⟨a, b, _⟩, c⟩ := okG_iff.1 h
  refine okG_iff.2 ⟨⟨a, b, by rw [List.length_append]; exact hl⟩, fun e he => ?_⟩
  rcases List.mem_append.1 he with h | h
  · exact c e h
  · exact hy e h
theorem one_most {nodes : Int} {es : List GEdge} {s t n r : Int} (hst : s ≠ t) (hr : 0 ≤ r) (hm : IsMost nodes es s t n) : IsMost nodes (es ++ [⟨s, t, r⟩]) s t (n + r) := by
  obtain ⟨fl, side, hf, hc, e1, e2⟩ := hm
  have hl := hf.len
  refine ⟨fl ++ [r], side, ⟨?_, ?_, ?_⟩, hc, ?_, ?_⟩
  · simp [hl]
  · intro i hi
    by_cases h : i < es.length
    · rw [app_e1 h, app_f1 (by omega)]; exact hf.fits i h
    · have : i = es.length + 0 := by simp at hi; omega
      subst this
      rw [app_e2, app_f2 hl]
      exact ⟨hr, Int.le_refl _⟩
  · intro u a b c d
    rw [net_app hl, hf.kept u a b c d]
    have h1 : ¬ s = u := fun e => c e.symm
    have h2 : ¬ t = u := fun e => d e.symm
    simp [net, S, term, pick, eAt, h1, h2]
  · rw [net_app hl, e1]
    have h2 : ¬ t = s := fun e => hst e.symm
    simp [net, S, term, pick, eAt, fAt, h2]
  · rw [capac_app, e2]
    simp [capac, S, pick, eAt, crossing, hc.src, hc.snk]
theorem idle_most {nodes : Int} {es : List GEdge} {s t n r a b : Int} (hr : 0 ≤ r) (hm : IsMost nodes es s t n) : IsMost nodes (es ++ [⟨a, s, r⟩, ⟨t, b, r⟩]) s t n := by
  obtain ⟨fl, side, hf, hc, e1, e2⟩ := hm
  have hl := hf.len
  have hz : ∀ u, net [⟨a, s, r⟩, ⟨t, b, r⟩] [0, 0] u = 0 := by
    intro u
    simp [net, S, term, pick, eAt, fAt]
  refine ⟨fl ++ [0, 0], side, ⟨?_, ?_, ?_⟩, hc, ?_, ?_⟩
  · simp [hl]
  · intro i hi
    by_cases h : i < es.length
    · rw [app_e1 h, app_f1 (by omega)]; exact hf.fits i h
    · have : i = es.length + 0 ∨ i = es.length + 1 := by simp at hi; omega
      rcases this with e | e
      all_goals
        subst e
        rw [app_e2, app_f2 hl]
        exact ⟨Int.le_refl _, hr⟩
  · intro u a b c d
    rw [net_app hl, hf.kept u a b c d, hz]
    rfl
  · rw [net_app hl, e1, hz]; omega
  · rw [capac_app, e2]
    simp [capac, S, pick, eAt, crossing, hc.src, hc.snk]
end Go.Proofs.Ytgfcnkfmgpakkaa
/-
Plain facts on plans: a plan and a cut are never both right; what a greatest flow of the graph of jobs and slots says. No program in sight.
-/
namespace Go.Proofs.Ytgfcnkfmgpakkaa
set_option linter.unusedVariables false
set_option linter.unusedSimpArgs false

structure GJob where
  frm : Int
  till : Int
  energy : Int
  rate : Int
  rank : Int
deriving Inhabited
abbrev jAt (js : List GJob) (i : Nat) : GJob := js[i]?.getD default
def inJ (j : GJob) (t : Nat) : Prop := j.frm ≤ t ∧ (t : Int) < j.till
instance (j : GJob) (t : Nat) : Decidable (inJ j t) := by unfold inJ; exact inferInstance
def okJ (n : Int) (j : GJob) : Bool := decide (0 ≤ j.frm ∧ j.frm ≤ j.till ∧ j.till ≤ n ∧ 0 ≤ j.energy ∧ j.energy ≤ 1000 ∧ 0 ≤ j.rate ∧ j.rate ≤ 1000 ∧ 1 ≤ j.rank ∧ j.rank ≤ 9)
def okU (x : Int) : Bool := decide (0 ≤ x ∧ x ≤ 1000)
def okP (js : List GJob) (sup : List Int) : Bool := decide (js.length ≤ 12 ∧ sup.length ≤ 24) && (sup.all okU && js.all (okJ sup.length))
theorem okJ_iff {n : Int} {j : GJob} : okJ n j = true ↔ (0 ≤ j.frm ∧ j.frm ≤ j.till ∧ j.till ≤ n ∧ 0 ≤ j.energy ∧ j.energy ≤ 1000 ∧ 0 ≤ j.rate ∧ j.rate ≤ 1000 ∧ 1 ≤ j.rank ∧ j.rank ≤ 9) := by simp [okJ]
theorem okU_iff {x : Int} : okU x = true ↔ (0 ≤ x ∧ x ≤ 1000) := by simp [okU]
theorem okP_iff {js : List GJob} {sup : List Int} : okP js sup = true ↔ ((js.length ≤ 12 ∧ sup.length ≤ 24) ∧ (∀ x, x ∈ sup → okU x = true) ∧ ∀ j, j ∈ js → okJ sup.length j = true) := by simp [okP]
theorem jAt_lt {js : List GJob} {i : Nat} (h : i < js.length) : jAt js i = js[i] := by simp [jAt, List.getElem?_eq_getElem h]
theorem okP_job {js : List GJob} {sup : List Int} (h : okP js sup = true) {i : Nat} (hi : i < js.length) : 0 ≤ (jAt js i).frm ∧ (jAt js i).frm ≤ (jAt js i).till ∧ (jAt js i).till ≤ sup.length ∧ 0 ≤ (jAt js i).energy ∧ (jAt js i).energy ≤ 1000 ∧ 0 ≤ (jAt js i).rate ∧ (jAt js i).rate ≤ 1000 ∧ 1 ≤ (jAt js i).rank ∧ (jAt js i).rank ≤ 9 := by
  rw [jAt_lt hi]
  exact okJ_iff.1 ((okP_iff.1 h).2.2 _ (List.getElem_mem hi))
theorem okP_sup {js : List GJob} {sup : List Int} (h : okP js sup = true) {t : Nat} (ht : t < sup.length) : 0 ≤ fAt sup t ∧ fAt sup t ≤ 1000 := by
  have := okU_iff.1 ((okP_iff.1 h).2.1 _ (List.getElem_mem ht))
  simpa [fAt, List.getElem?_eq_getElem ht] using this

/-- P i t: what job i gets in slot t. -/
structure IsPlan (js : List GJob) (sup : List Int) (P : Nat → Nat → Int) : Prop where
  lo : ∀ i t, i < js.length → t < sup.length → 0 ≤ P i t
  hi : ∀ i t, i < js.length → t < sup.length → P i t ≤ (jAt js i).rate
  out : ∀ i t, i < js.length → t < sup.length → ¬ inJ (jAt js i) t → P i t = 0
  got : ∀ i, i < js.length → S sup.length (P i) = (jAt js i).energy
  fits : ∀ t, t < sup.length → S js.length (fun i => P i t) ≤ fAt sup t
def Met (js : List GJob) (sup : List Int) : Prop := ∃ P, IsPlan js sup P
def needC (js : List GJob) (cj : Nat → Bool) : Int := S js.length (fun i => pick (cj i = true) (jAt js i).energy)
def roomC (js : List GJob) (sup : List Int) (cj cs : Nat → Bool) : Int :=
  S sup.length (fun t => pick (cs t = true) (fAt sup t)) + S js.length (fun i => pick (cj i = true) (S sup.length (fun t => pick (inJ (jAt js i) t ∧ cs t = false) (jAt js i).rate)))
theorem S_pick {n : Nat} {c : Prop} [Decidable c] (g : Nat → Int) : pick c (S n g) = S n (fun i => pick c (g i)) := by
  by_cases h : c
  · rw [pick_pos h]; exact S_congr (fun i _ => (pick_pos h _).symm)
  · rw [pick_neg h, S_congr (h := fun _ => 0) (fun i _ => pick_neg h _), S_zero]
theorem not_both {js : List GJob} {sup : List Int} {P : Nat → Nat → Int} (hok : okP js sup = true) (h : IsPlan js sup P) (cj cs : Nat → Bool) : needC js cj ≤ roomC js sup cj cs := by
  have e1 : needC js cj = S js.length (fun i => S sup.length (fun t => pick (cj i = true) (P i t))) := by
    unfold needC
    refine S_congr fun i hi => ?_
    rw [← h.got i hi, S_pick]
  have e2 : S js.length (fun i => S sup.length (fun t => pick (cj i = true) (P i t))) ≤ S js.length (fun i => S sup.length (fun t => pick (cs t = true) (P i t) + pick (cj i = true) (pick (inJ (jAt js i) t ∧ cs t = false) (jAt js i).rate))) := by
    refine S_le fun i hi => S_le fun t ht => ?_
    have a := h.lo i t hi ht
    have b := h.hi i t hi ht
    by_cases c1 : cj i = true
    · rw [pick_pos c1, pick_pos c1]
      by_cases c2 : cs t = true
      · rw [pick_pos c2, pick_neg (by simp [c2])]; omega
      · rw [pick_neg c2]
        by_cases c3 : inJ (jAt js i) t
        · rw [pick_pos ⟨c3, by simpa using c2⟩]; omega
        · rw [pick_neg (fun x => c3 x.1), h.out i t hi ht c3]; omega
    · rw [pick_neg c1, pick_neg c1]
      unfold pick
      split <;> omega
  have e3 : S js.length (fun i => S sup.length (fun t => pick (cs t = true) (P i t) + pick (cj i = true) (pick (inJ (jAt js i) t ∧ cs t = false) (jAt js i).rate))) = S sup.length (fun t => pick (cs t = true) (S js.length (fun i => P i t))) + S js.length (fun i => pick (cj i = true) (S sup.length (fun t => pick (inJ (jAt js i) t ∧ cs t = false) (jAt js i).rate))) := by
    rw [S_congr (h := fun i => S sup.length (fun t => pick (cs t = true) (P i t)) + pick (cj i = true) (S sup.length (fun t => pick (inJ (jAt js i) t ∧ cs t = false) (jAt js i).rate))) (fun i _ => by rw [S_add, S_pick (n := sup.length) (c := cj i = true)]), S_add, S_swap]
    congr 1
    exact S_congr (fun t _ => (S_pick _).symm)
  have e4 : S sup.length (fun t => pick (cs t = true) (S js.length (fun i => P i t))) ≤ S sup.length (fun t => pick (cs t = true) (fAt sup t)) := by
    refine S_le fun t ht => ?_
    have := h.fits t ht
    unfold pick
    split <;> omega
  rw [e1]
  unfold roomC
  omega

/-! ## The graph -/
def lenJ (j : GJob) : Nat := (j.till - j.frm).toNat
def offJ (js : List GJob) : Nat → Nat
  | 0 => 0
  | i + 1 => offJ js i + lenJ (jAt js i)
theorem S_parts (js : List GJob) (n : Nat) (g : Nat → Int) : S (offJ js n) g = S n (fun i => S (lenJ (jAt js i)) (fun k => g (offJ js i + k))) := by
  induction n with
  | zero => rfl
  | succ n ih => rw [S_succ, ← ih]; exact S_append _ _ _
theorem S_slots {T : Nat} {j : GJob} (h0 : 0 ≤ j.frm) (h1 : j.frm ≤ j.till) (h2 : j.till ≤ T) (g : Nat → Int) : S (lenJ j) (fun k => g (j.frm.toNat + k)) = S T (fun t => pick (inJ j t) (g t)) := by
  have e : T = j.frm.toNat + (lenJ j + (T - j.till.toNat)) := by unfold lenJ; omega
  have z1 : S j.frm.toNat (fun t => pick (inJ j t) (g t)) = 0 := by
    rw [S_congr (h := fun _ => 0) (fun t ht => pick_neg (by unfold inJ; omega) _), S_zero]
  have z2 : S (T - j.till.toNat) (fun i => pick (inJ j (j.frm.toNat + (lenJ j + i))) (g (j.frm.toNat + (lenJ j + i)))) = 0 := by
    rw [S_congr (h := fun _ => 0) (fun t ht => pick_neg (by unfold inJ lenJ; omega) _), S_zero]
  have h3 : S T (fun t => pick (inJ j t) (g t)) = S j.frm.toNat (fun t => pick (inJ j t) (g t)) + (S (lenJ j) (fun k => pick (inJ j (j.frm.toNat + k)) (g (j.frm.toNat + k))) + S (T - j.till.toNat) (fun i => pick (inJ j (j.frm.toNat + (lenJ j + i))) (g (j.frm.toNat + (lenJ j + i))))) := by
    conv => lhs; rw [e]
    rw [S_append, S_append]
  rw [h3, z1, z2, S_congr (h := fun k => pick (inJ j (j.frm.toNat + k)) (g (j.frm.toNat + k))) (fun k hk => (pick_pos (by unfold inJ lenJ at *; omega) _).symm)]
  omega
def edJ (js : List GJob) (i : Nat) : GEdge := ⟨0, 2 + i, (jAt js i).energy⟩
def edT (J : Nat) (sup : List Int) (t : Nat) : GEdge := ⟨2 + J + t, 1, fAt sup t⟩
def edR (js : List GJob) (J i k : Nat) : GEdge := ⟨2 + i, 2 + J + ((jAt js i).frm.toNat + k : Nat), (jAt js i).rate⟩
def rowsR (js : List GJob) (J n : Nat) : List GEdge := (List.range n).flatMap (fun i => mk (lenJ (jAt js i)) (edR js J i))
def graphP (js : List GJob) (sup : List Int) : List GEdge := mk js.length (edJ js) ++ (mk sup.length (edT js.length sup) ++ rowsR js js.length js.length)
theorem rowsR_succ (js : List GJob) (J n : Nat) : rowsR js J (n + 1) = rowsR js J n ++ mk (lenJ (jAt js n)) (edR js J n) := by
  unfold rowsR
  rw [List.range_succ, List.flatMap_append]
  simp
theorem rowsR_len (js : List GJob) (J n : Nat) : (rowsR js J n).length = offJ js n := by
  induction n with
  | zero => rfl
  | succ n ih => rw [rowsR_succ, List.length_append, ih, mk_len]; rfl
theorem rowsR_at (js : List GJob) (J : Nat) {n i k : Nat} (hi : i < n) (hk : k < lenJ (jAt js i)) : eAt (rowsR js J n) (offJ js i + k) = edR js J i k := by
  induction n with
  | zero => omega
  | succ n ih =>
    rw [rowsR_succ]
    by_cases e : i = n
    · subst e
      rw [← rowsR_len js J i, app_e2, mk_e _ hk]
    · have hmono : ∀ m, i + 1 ≤ m → offJ js i + lenJ (jAt js i) ≤ offJ js m := by
        intro m
        induction m with
        | zero => omega
        | succ m ihm =>
          intro hm
          by_cases e2 : i = m
          · subst e2; exact Nat.le_refl _
          · have := ihm (by omega)
            show _ ≤ offJ js m + _
            omega
      rw [app_e1 (by rw [rowsR_len]; have := hmono n (by omega); omega)]
      exact ih (by omega)
theorem graphP_len (js : List GJob) (sup : List Int) : (graphP js sup).length = js.length + (sup.length + offJ js js.length) := by
  unfold graphP
  rw [List.length_append, List.length_append, mk_len, mk_len, rowsR_len]
theorem S_graph (js : List GJob) (sup : List Int) (g : GEdge → Nat → Int) :
    S (graphP js sup).length (fun i => g (eAt (graphP js sup) i) i) = S js.length (fun i => g (edJ js i) i) + (S sup.length (fun t => g (edT js.length sup t) (js.length + t)) + S js.length (fun i => S (lenJ (jAt js i)) (fun k => g (edR js js.length i k) (js.length + (sup.length + (offJ js i + k)))))) := by
  rw [graphP_len, S_append, S_append, S_parts]
  congr 1
  · refine S_congr fun i hi => ?_
    unfold graphP
    rw [app_e1 (by rw [mk_len]; exact hi), mk_e _ hi]
  · congr 1
    · refine S_congr fun t ht => ?_
      unfold graphP
      have e : js.length + t = (mk js.length (edJ js)).length + t := by rw [mk_len]
      rw [e, app_e2, app_e1 (by rw [mk_len]; exact ht), mk_e _ ht, mk_len]
    · refine S_congr fun i hi => S_congr fun k hk => ?_
      unfold graphP
      have e : js.length + (sup.length + (offJ js i + k)) = (mk js.length (edJ js)).length + ((mk sup.length (edT js.length sup)).length + (offJ js i + k)) := by rw [mk_len, mk_len]
      rw [e, app_e2, app_e2, rowsR_at js js.length hi hk, mk_len, mk_len]
theorem len_le {js : List GJob} {sup : List Int} (h : okP js sup = true) {i : Nat} (hi : i < js.length) : lenJ (jAt js i) ≤ 24 := by
  obtain ⟨a, b, c, _⟩ := okP_job h hi
  have := (okP_iff.1 h).1.2
  unfold lenJ
  omega
theorem off_le {js : List GJob} {sup : List Int} (h : okP js sup = true) (n : Nat) (hn : n ≤ js.length) : offJ js n ≤ 24 * n := by
  induction n with
  | zero => exact Nat.le_refl _
  | succ n ih =>
    have := ih (by omega)
    have := len_le h (i := n) (by omega)
    show offJ js n + lenJ (jAt js n) ≤ _
    omega
theorem graphP_ok {js : List GJob} {sup : List Int} (h : okP js sup = true) : okEnds (2 + js.length + sup.length) (graphP js sup) 0 1 = true := by
  obtain ⟨⟨a1, a2⟩, _, _⟩ := okP_iff.1 h
  have hoff := off_le h js.length (Nat.le_refl _)
  refine okEnds_iff.2 ⟨okG_iff.2 ⟨⟨by omega, by omega, by rw [graphP_len]; omega⟩, fun e he => ?_⟩, by omega, by omega, by omega, by omega, by omega⟩
  unfold graphP at he
  rcases List.mem_append.1 he with he | he
  · obtain ⟨i, hi, rfl⟩ := List.mem_map.1 he
    have hi := List.mem_range.1 hi
    obtain ⟨_, _, _, q1, q2, _⟩ := okP_job h hi
    exact okE_iff.2 ⟨by simp [edJ], by simp [edJ]; omega, by simp [edJ]; omega, by simp [edJ]; omega, by simp [edJ]; omega, by simp [edJ]; omega⟩
  · rcases List.mem_append.1 he with he | he
    · obtain ⟨t, ht, rfl⟩ := List.mem_map.1 he
      have ht := List.mem_range.1 ht
      have := okP_sup h ht
      exact okE_iff.2 ⟨by simp [edT]; omega, by simp [edT]; omega, by simp [edT], by simp [edT]; omega, by simp [edT]; omega, by simp [edT]; omega⟩
    · obtain ⟨i, hi, he⟩ := List.mem_flatMap.1 he
      have hi := List.mem_range.1 hi
      obtain ⟨k, hk, rfl⟩ := List.mem_map.1 he
      have hk := List.mem_range.1 hk
      obtain ⟨q1, q2, q3, _, _, q4, q5, _⟩ := okP_job h hi
      unfold lenJ at hk
      exact okE_iff.2 ⟨by simp [edR]; omega, by simp [edR]; omega, by simp [edR]; omega, by simp [edR]; omega, by simp [edR]; omega, by simp [edR]; omega⟩
end Go.Proofs.Ytgfcnkfmgpakkaa
/-
Plain: a greatest flow of the graph of jobs and slots is a plan, if it brings all energy; otherwise its cut shows that the jobs cannot be met.
-/
namespace Go.Proofs.Ytgfcnkfmgpakkaa
set_option linter.unusedVariables false
set_option linter.unusedSimpArgs false

def allE (js : List GJob) : Int := S js.length (fun i => (jAt js i).energy)
/-- What a flow says of job i in slot t. -/
def planOf (js : List GJob) (T : Nat) (fl : List Int) (i t : Nat) : Int := pick (inJ (jAt js i) t) (fAt fl (js.length + (T + (offJ js i + (t - (jAt js i).frm.toNat)))))
theorem S_tight {n : Nat} {g h : Nat → Int} (e : ∀ i, i < n → g i ≤ h i) (hs : S n h ≤ S n g) : ∀ i, i < n → g i = h i := by
  induction n with
  | zero => intro i hi; omega
  | succ n ih =>
    rw [S_succ, S_succ] at hs
    have h1 := S_le (n := n) (fun i hi => e i (by omega))
    have h2 := e n (by omega)
    intro i hi
    by_cases c : i = n
    · subst c; omega
    · exact ih (fun i hi => e i (by omega)) (by omega) i (by omega)
theorem S_none {n : Nat} {g : Nat → Int} (h : ∀ i, i < n → g i = 0) : S n g = 0 := by rw [S_congr h, S_zero]
section
variable {js : List GJob} {sup : List Int}
theorem net_graph (fl : List Int) (u : Int) : net (graphP js sup) fl u = S js.length (fun i => pick ((0 : Int) = u) (fAt fl i) - pick ((2 + i : Int) = u) (fAt fl i)) + (S sup.length (fun t => pick ((2 + js.length + t : Int) = u) (fAt fl (js.length + t)) - pick ((1 : Int) = u) (fAt fl (js.length + t))) + S js.length (fun i => S (lenJ (jAt js i)) (fun k => pick ((2 + i : Int) = u) (fAt fl (js.length + (sup.length + (offJ js i + k)))) - pick ((2 + js.length + ((jAt js i).frm.toNat + k : Nat) : Int) = u) (fAt fl (js.length + (sup.length + (offJ js i + k))))))) := by
  have h := S_graph js sup (fun e i => pick (e.frm = u) (fAt fl i) - pick (e.to = u) (fAt fl i))
  exact h
theorem net_src (fl : List Int) : net (graphP js sup) fl 0 = S js.length (fun i => fAt fl i) := by
  rw [net_graph, S_congr (h := fun i => fAt fl i) (fun i _ => by rw [pick_pos rfl, pick_neg (by omega)]; omega), S_none (n := sup.length) (fun t _ => by rw [pick_neg (by omega), pick_neg (by omega)]; rfl), S_none (n := js.length) (g := fun i => S (lenJ (jAt js i)) _) (fun i _ => S_none (fun k _ => by rw [pick_neg (by omega), pick_neg (by omega)]; rfl))]
  omega
theorem net_job (fl : List Int) {i : Nat} (hi : i < js.length) : net (graphP js sup) fl (2 + i : Int) = - fAt fl i + S (lenJ (jAt js i)) (fun k => fAt fl (js.length + (sup.length + (offJ js i + k)))) := by
  rw [net_graph, S_single (k := i) hi (fun j _ hj => by rw [pick_neg (by omega), pick_neg (by omega)]; rfl), S_none (n := sup.length) (fun t _ => by rw [pick_neg (by omega), pick_neg (by omega)]; rfl),
    S_single (k := i) hi (fun j _ hj => S_none (fun k _ => by rw [pick_neg (by omega), pick_neg (by omega)]; rfl)),
    S_congr (n := lenJ (jAt js i)) (h := fun k => fAt fl (js.length + (sup.length + (offJ js i + k)))) (fun k _ => by rw [pick_pos rfl, pick_neg (by omega)]; omega)]
  rw [pick_neg (by omega), pick_pos rfl]
  omega
theorem plan_slots (hok : okP js sup = true) (fl : List Int) {i : Nat} (hi : i < js.length) : S (lenJ (jAt js i)) (fun k => fAt fl (js.length + (sup.length + (offJ js i + k)))) = S sup.length (planOf js sup.length fl i) := by
  obtain ⟨a, b, c, _⟩ := okP_job hok hi
  have := S_slots a b c (fun t => fAt fl (js.length + (sup.length + (offJ js i + (t - (jAt js i).frm.toNat)))))
  rw [S_congr (h := fun k => fAt fl (js.length + (sup.length + (offJ js i + k)))) (fun k _ => by rw [Nat.add_sub_cancel_left])] at this
  exact this
theorem net_slot (hok : okP js sup = true) (fl : List Int) {t : Nat} (ht : t < sup.length) : net (graphP js sup) fl (2 + js.length + t : Int) = fAt fl (js.length + t) - S js.length (fun i => planOf js sup.length fl i t) := by
  rw [net_graph, S_none (n := js.length) (g := fun i => pick ((0 : Int) = _) _ - _) (fun i hi => by rw [pick_neg (by omega), pick_neg (by omega)]; rfl), S_single (k := t) ht (fun j _ hj => by rw [pick_neg (by omega), pick_neg (by omega)]; rfl)]
  rw [pick_pos rfl, pick_neg (by omega)]
  have e : S js.length (fun i => S (lenJ (jAt js i)) (fun k => pick ((2 + i : Int) = (2 + js.length + t : Int)) (fAt fl (js.length + (sup.length + (offJ js i + k)))) - pick ((2 + js.length + ((jAt js i).frm.toNat + k : Nat) : Int) = (2 + js.length + t : Int)) (fAt fl (js.length + (sup.length + (offJ js i + k)))))) = S js.length (fun i => (-1) * planOf js sup.length fl i t) := by
    refine S_congr fun i hi => ?_
    obtain ⟨a, b, c, _⟩ := okP_job hok hi
    unfold planOf
    by_cases h : inJ (jAt js i) t
    · rw [pick_pos h]
      unfold inJ at h
      rw [S_single (k := t - (jAt js i).frm.toNat) (by unfold lenJ; omega) (fun k _ hk => by rw [pick_neg (by omega), pick_neg (by omega)]; rfl), pick_neg (by omega), pick_pos (by omega)]
      omega
    · rw [pick_neg h, S_none (fun k hk => by
        unfold inJ at h
        unfold lenJ at hk
        rw [pick_neg (by omega), pick_neg (by omega)]; rfl)]
      rfl
  rw [e, S_mul]
  omega
theorem edge_job {fl : List Int} (hf : IsFlow (2 + js.length + sup.length) (graphP js sup) 0 1 fl) {i : Nat} (hi : i < js.length) : 0 ≤ fAt fl i ∧ fAt fl i ≤ (jAt js i).energy := by
  have := hf.fits i (by rw [graphP_len]; omega)
  unfold graphP at this
  rw [app_e1 (by rw [mk_len]; exact hi), mk_e _ hi] at this
  exact this
theorem edge_slot {fl : List Int} (hf : IsFlow (2 + js.length + sup.length) (graphP js sup) 0 1 fl) {t : Nat} (ht : t < sup.length) : 0 ≤ fAt fl (js.length + t) ∧ fAt fl (js.length + t) ≤ fAt sup t := by
  have := hf.fits (js.length + t) (by rw [graphP_len]; omega)
  unfold graphP at this
  have e : js.length + t = (mk js.length (edJ js)).length + t := by rw [mk_len]
  rw [e, app_e2, app_e1 (by rw [mk_len]; exact ht), mk_e _ ht, mk_len] at this
  exact this
theorem off_mono {i n : Nat} (h : i < n) : offJ js i + lenJ (jAt js i) ≤ offJ js n := by
  induction n with
  | zero => omega
  | succ n ih =>
    by_cases e : i = n
    · subst e; exact Nat.le_refl _
    · have := ih (by omega)
      show _ ≤ offJ js n + _
      omega
theorem edge_rate {fl : List Int} (hf : IsFlow (2 + js.length + sup.length) (graphP js sup) 0 1 fl) {i k : Nat} (hi : i < js.length) (hk : k < lenJ (jAt js i)) : 0 ≤ fAt fl (js.length + (sup.length + (offJ js i + k))) ∧ fAt fl (js.length + (sup.length + (offJ js i + k))) ≤ (jAt js i).rate := by
  have := hf.fits (js.length + (sup.length + (offJ js i + k))) (by rw [graphP_len]; have := off_mono (js := js) hi; omega)
  unfold graphP at this
  have e : js.length + (sup.length + (offJ js i + k)) = (mk js.length (edJ js)).length + ((mk sup.length (edT js.length sup)).length + (offJ js i + k)) := by rw [mk_len, mk_len]
  rw [e, app_e2, app_e2, rowsR_at js js.length hi hk, mk_len, mk_len] at this
  exact this
theorem net_all {fl : List Int} (hf : IsFlow (2 + js.length + sup.length) (graphP js sup) 0 1 fl) : net (graphP js sup) fl 0 ≤ allE js := by
  rw [net_src]
  exact S_le (fun i hi => (edge_job hf hi).2)
theorem flow_plan (hok : okP js sup = true) {fl : List Int} (hf : IsFlow (2 + js.length + sup.length) (graphP js sup) 0 1 fl) (hfull : allE js ≤ net (graphP js sup) fl 0) : IsPlan js sup (planOf js sup.length fl) := by
  rw [net_src] at hfull
  have hall := S_tight (fun i hi => (edge_job hf hi).2) hfull
  refine ⟨?_, ?_, ?_, ?_, ?_⟩
  · intro i t hi ht
    unfold planOf
    obtain ⟨a, b, c, _⟩ := okP_job hok hi
    by_cases h : inJ (jAt js i) t
    · rw [pick_pos h]
      unfold inJ at h
      exact (edge_rate hf hi (k := t - (jAt js i).frm.toNat) (by unfold lenJ; omega)).1
    · rw [pick_neg h]; omega
  · intro i t hi ht
    unfold planOf
    obtain ⟨a, b, c, _, _, d, _⟩ := okP_job hok hi
    by_cases h : inJ (jAt js i) t
    · rw [pick_pos h]
      unfold inJ at h
      exact (edge_rate hf hi (k := t - (jAt js i).frm.toNat) (by unfold lenJ; omega)).2
    · rw [pick_neg h]; omega
  · intro i t hi ht h
    unfold planOf
    rw [pick_neg h]
  · intro i hi
    have h := hf.kept (2 + i : Int) (by omega) (by omega) (by omega) (by omega)
    rw [net_job fl hi, plan_slots hok fl hi, hall i hi] at h
    omega
  · intro t ht
    have h := hf.kept (2 + js.length + t : Int) (by omega) (by omega) (by omega) (by omega)
    rw [net_slot hok fl ht] at h
    have := (edge_slot hf ht).2
    omega
theorem cap_graph (side : List Bool) : capac (graphP js sup) side = S js.length (fun i => pick (crossing side (edJ js i) = true) (jAt js i).energy) + (S sup.length (fun t => pick (crossing side (edT js.length sup t) = true) (fAt sup t)) + S js.length (fun i => S (lenJ (jAt js i)) (fun k => pick (crossing side (edR js js.length i k) = true) (jAt js i).rate))) := by
  have h := S_graph js sup (fun e i => pick (crossing side e = true) e.cap)
  exact h
theorem cut_plan (hok : okP js sup = true) {side : List Bool} (hc : IsCut (2 + js.length + sup.length) 0 1 side) (hless : capac (graphP js sup) side < allE js) : roomC js sup (fun i => sAt side (2 + i : Int)) (fun t => sAt side (2 + js.length + t : Int)) < needC js (fun i => sAt side (2 + i : Int)) := by
  rw [cap_graph] at hless
  have e1 : S js.length (fun i => pick (crossing side (edJ js i) = true) (jAt js i).energy) = allE js - needC js (fun i => sAt side (2 + i : Int)) := by
    unfold allE needC
    rw [← S_sub]
    refine S_congr fun i _ => ?_
    have : crossing side (edJ js i) = !sAt side (2 + i : Int) := by
      unfold crossing edJ
      dsimp only
      rw [hc.src]
      rfl
    rw [this]
    dsimp only
    by_cases hs : sAt side (2 + i : Int) = true
    · rw [pick_neg (by simp [hs]), pick_pos hs]; omega
    · rw [pick_pos (by simp [hs]), pick_neg hs]; omega
  have e2 : S sup.length (fun t => pick (crossing side (edT js.length sup t) = true) (fAt sup t)) = S sup.length (fun t => pick (sAt side (2 + js.length + t : Int) = true) (fAt sup t)) := by
    refine S_congr fun t _ => ?_
    have : crossing side (edT js.length sup t) = sAt side (2 + js.length + t : Int) := by
      unfold crossing edT
      dsimp only
      rw [hc.snk]
      simp
    rw [this]
  have e3 : S js.length (fun i => S (lenJ (jAt js i)) (fun k => pick (crossing side (edR js js.length i k) = true) (jAt js i).rate)) = S js.length (fun i => pick (sAt side (2 + i : Int) = true) (S sup.length (fun t => pick (inJ (jAt js i) t ∧ sAt side (2 + js.length + t : Int) = false) (jAt js i).rate))) := by
    refine S_congr fun i hi => ?_
    obtain ⟨a, b, c, _⟩ := okP_job hok hi
    have h1 := S_slots a b c (fun t => pick (sAt side (2 + js.length + t : Int) = false) (jAt js i).rate)
    have h2 : S sup.length (fun t => pick (inJ (jAt js i) t) (pick (sAt side (2 + js.length + t : Int) = false) (jAt js i).rate)) = S sup.length (fun t => pick (inJ (jAt js i) t ∧ sAt side (2 + js.length + t : Int) = false) (jAt js i).rate) := by
      refine S_congr fun t _ => ?_
      unfold pick
      by_cases x : inJ (jAt js i) t <;> by_cases y : sAt side (2 + js.length + t : Int) = false <;> simp [x, y]
    rw [← h2, ← h1, S_pick]
    refine S_congr fun k _ => ?_
    unfold crossing edR pick
    dsimp only
    cases sAt side (2 + i : Int) <;> cases sAt side (2 + js.length + ((jAt js i).frm.toNat + k : Nat) : Int) <;> simp
  rw [e1, e2, e3] at hless
  unfold roomC
  dsimp only
  omega
/-- What Most says of the jobs. -/
theorem most_plan (hok : okP js sup = true) {n : Int} (h : IsMost (2 + js.length + sup.length) (graphP js sup) 0 1 n) : (n = allE js ↔ Met js sup) ∧ n ≤ allE js := by
  obtain ⟨fl, side, hf, hc, e1, e2⟩ := h
  have hle := net_all hf
  refine ⟨⟨fun h => ⟨_, flow_plan hok hf (by omega)⟩, fun ⟨P, hP⟩ => ?_⟩, by omega⟩
  rcases Int.lt_or_le n (allE js) with hlt | hge
  · have h1 := cut_plan hok hc (by omega)
    have h2 := not_both hok hP (fun i => sAt side (2 + i : Int)) (fun t => sAt side (2 + js.length + t : Int))
    omega
  · omega
end
end Go.Proofs.Ytgfcnkfmgpakkaa
/-
Plain laws of what can be met: fewer jobs, easier jobs, one job, another order, time backward, greater numbers, joined jobs. No program in sight.
-/
namespace Go.Proofs.Ytgfcnkfmgpakkaa
set_option linter.unusedVariables false
set_option linter.unusedSimpArgs false

/-- Less of something: a part of a sum of numbers that are not negative. -/
theorem S_part {n : Nat} {g : Nat → Int} (h : ∀ i, i < n → 0 ≤ g i) {e : Int} (h0 : 0 ≤ e) (h1 : e ≤ S n g) : ∃ k : Nat → Int, (∀ i, i < n → 0 ≤ k i ∧ k i ≤ g i) ∧ S n k = e := by
  induction n generalizing e with
  | zero => exact ⟨fun _ => 0, fun i hi => by omega, by simp [S] at h1 ⊢; omega⟩
  | succ n ih =>
    rw [S_succ] at h1
    have hn := h n (by omega)
    by_cases c : e ≤ S n g
    · obtain ⟨k, hk, hs⟩ := ih (fun i hi => h i (by omega)) h0 c
      refine ⟨fun i => if i = n then 0 else k i, fun i hi => ?_, ?_⟩
      · by_cases e' : i = n
        · subst e'; simp [hn]
        · simp [e']; exact hk i (by omega)
      · rw [S_succ, S_congr (h := k) (fun i hi => by simp [show i ≠ n by omega]), hs]; simp
    · refine ⟨fun i => if i = n then e - S n g else g i, fun i hi => ?_, ?_⟩
      · by_cases e' : i = n
        · subst e'; simp; omega
        · simp [e']; exact h i (by omega)
      · rw [S_succ, S_congr (h := g) (fun i hi => by simp [show i ≠ n by omega])]; simp; omega
/-- Easier jobs, more supply. -/
theorem Met.mono {js js' : List GJob} {sup sup' : List Int} (hl : js'.length = js.length) (hs : sup'.length = sup.length) (h : Met js sup)
    (he : ∀ i, i < js.length → 0 ≤ (jAt js' i).energy ∧ (jAt js' i).energy ≤ (jAt js i).energy) (hr : ∀ i, i < js.length → (jAt js i).rate ≤ (jAt js' i).rate)
    (hi : ∀ i t, i < js.length → t < sup.length → inJ (jAt js i) t → inJ (jAt js' i) t) (hsup : ∀ t, t < sup.length → fAt sup t ≤ fAt sup' t) : Met js' sup' := by
  obtain ⟨P, hP⟩ := h
  have part : ∀ i, ∃ k : Nat → Int, i < js.length → (∀ t, t < sup.length → 0 ≤ k t ∧ k t ≤ P i t) ∧ S sup.length k = (jAt js' i).energy := by
    intro i
    by_cases hi : i < js.length
    · obtain ⟨k, h1, h2⟩ := S_part (n := sup.length) (g := P i) (fun t ht => hP.lo i t hi ht) (he i hi).1 (by rw [hP.got i hi]; exact (he i hi).2)
      exact ⟨k, fun _ => ⟨h1, h2⟩⟩
    · exact ⟨fun _ => 0, fun h => absurd h hi⟩
  refine ⟨fun i => Classical.choose (part i), ?_⟩
  have sp := fun i (hi : i < js.length) => Classical.choose_spec (part i) hi
  refine ⟨?_, ?_, ?_, ?_, ?_⟩
  · intro i t hi' ht
    exact ((sp i (by omega)).1 t (by omega)).1
  · intro i t hi' ht
    have a := ((sp i (by omega)).1 t (by omega)).2
    have b := hP.hi i t (by omega) (by omega)
    have c := hr i (by omega)
    omega
  · intro i t hi' ht hn
    have a := (sp i (by omega)).1 t (by omega)
    have b := hP.out i t (by omega) (by omega) (fun x => hn (hi i t (by omega) (by omega) x))
    omega
  · intro i hi'
    rw [hs]
    exact (sp i (by omega)).2
  · intro t ht
    rw [hl]
    have a := S_le (n := js.length) (g := fun i => Classical.choose (part i) t) (h := fun i => P i t) (fun i hi => ((sp i hi).1 t (by omega)).2)
    have b := hP.fits t (by omega)
    have c := hsup t (by omega)
    omega
/-- Places with one left out. -/
def skipAt (k i : Nat) : Nat := if i < k then i else i + 1
theorem S_skip {n k : Nat} (hk : k ≤ n) (g : Nat → Int) : S (n + 1) g = S n (fun i => g (skipAt k i)) + g k := by
  induction n with
  | zero =>
    have : k = 0 := by omega
    subst this
    simp [S]
  | succ n ih =>
    by_cases c : k ≤ n
    · rw [S_succ, ih c, S_succ]
      have : skipAt k n = n + 1 := by unfold skipAt; rw [if_neg (by omega)]
      rw [this]
      omega
    · have : k = n + 1 := by omega
      subst this
      rw [S_succ, S_congr (n := n + 1) (g := fun i => g (skipAt (n + 1) i)) (h := g) (fun i hi => by show g (skipAt (n + 1) i) = g i; unfold skipAt; rw [if_pos hi])]
theorem jAt_skip {js : List GJob} {k i : Nat} (hk : k < js.length) (hi : i + 1 < js.length) : jAt (js.take k ++ js.drop (k + 1)) i = jAt js (skipAt k i) := by
  unfold jAt skipAt
  have hl : (js.take k).length = k := by rw [List.length_take]; omega
  by_cases c : i < k
  · rw [if_pos c, List.getElem?_append_left (by omega), List.getElem?_take_of_lt c]
  · rw [if_neg c, List.getElem?_append_right (by omega), List.getElem?_drop, hl]
    congr 2
    omega
/-- Without one of them. -/
theorem Met.without {js : List GJob} {sup : List Int} {k : Nat} (hk : k < js.length) (h : Met js sup) : Met (js.take k ++ js.drop (k + 1)) sup := by
  obtain ⟨P, hP⟩ := h
  obtain ⟨n, hn⟩ : ∃ n, js.length = n + 1 := ⟨js.length - 1, by omega⟩
  have hl : (js.take k ++ js.drop (k + 1)).length = n := by rw [List.length_append, List.length_take, List.length_drop]; omega
  have sk : ∀ i, i < n → skipAt k i < js.length := fun i hi => by unfold skipAt; split <;> omega
  refine ⟨fun i => P (skipAt k i), ?_, ?_, ?_, ?_, ?_⟩
  · intro i t hi ht; exact hP.lo _ t (sk i (by omega)) ht
  · intro i t hi ht; rw [jAt_skip hk (by omega)]; exact hP.hi _ t (sk i (by omega)) ht
  · intro i t hi ht hn'; rw [jAt_skip hk (by omega)] at hn'; exact hP.out _ t (sk i (by omega)) ht hn'
  · intro i hi; rw [jAt_skip hk (by omega)]; exact hP.got _ (sk i (by omega))
  · intro t ht
    rw [hl]
    have a := S_skip (n := n) (k := k) (by omega) (fun i => P i t)
    have b := hP.fits t ht
    have c := hP.lo k t hk ht
    rw [hn] at b
    show S n (fun i => P (skipAt k i) t) ≤ _
    omega
/-- What one job can get. -/
def mostOne (j : GJob) (sup : List Int) (m : Nat) : Int := S m (fun q => min j.rate (fAt sup (j.frm.toNat + q)))
theorem met_one {j : GJob} {sup : List Int} (hok : okP [j] sup = true) : Met [j] sup ↔ j.energy ≤ mostOne j sup (lenJ j) := by
  have hj : jAt [j] 0 = j := rfl
  obtain ⟨a, b, c, d, _, e, _⟩ := okP_job hok (i := 0) (by simp)
  rw [hj] at a b c d e
  have hs := S_slots a b c (fun t => min j.rate (fAt sup t))
  unfold mostOne
  rw [hs]
  have nn : ∀ t, t < sup.length → 0 ≤ pick (inJ j t) (min j.rate (fAt sup t)) := fun t ht => by
    have := (okP_sup hok ht).1
    unfold pick; split <;> omega
  constructor
  · rintro ⟨P, hP⟩
    have g := hP.got 0 (by simp)
    rw [hj] at g
    rw [← g]
    refine S_le (fun t ht => ?_)
    have h1 := hP.hi 0 t (by simp) ht
    have h2 := hP.fits t ht
    have h3 : S [j].length (fun i => P i t) = P 0 t := by simp [S]
    have h4 := hP.out 0 t (by simp) ht
    rw [hj] at h1 h4
    by_cases x : inJ j t
    · rw [pick_pos x]; omega
    · rw [pick_neg x, h4 x]; omega
  · intro h
    obtain ⟨k, h1, h2⟩ := S_part (n := sup.length) (fun t ht => nn t ht) d h
    have hi0 : ∀ {i}, i < [j].length → i = 0 := fun {i} h => by simp at h; exact h
    refine ⟨fun _ => k, ?_, ?_, ?_, ?_, ?_⟩
    · intro i t hi ht; exact (h1 t ht).1
    · intro i t hi ht
      obtain rfl := hi0 hi
      rw [hj]
      have := (h1 t ht).2
      unfold pick at this
      split at this <;> omega
    · intro i t hi ht hn
      obtain rfl := hi0 hi
      rw [hj] at hn
      have := h1 t ht
      rw [pick_neg hn] at this
      omega
    · intro i hi
      obtain rfl := hi0 hi
      exact h2
    · intro t ht
      have h3 : S [j].length (fun _ => k t) = k t := by simp [S]
      show S [j].length (fun _ => k t) ≤ _
      rw [h3]
      have := (h1 t ht).2
      have := (okP_sup hok ht).1
      unfold pick at *
      split at * <;> omega
/-- Another order. -/
def turnJ (js : List GJob) (k : Nat) : List GJob := mk js.length (fun i => jAt js ((i + k) % js.length))
theorem mk_j {n : Nat} (f : Nat → GJob) {i : Nat} (h : i < n) : jAt (mk n f) i = f i := by unfold jAt; rw [mk_at f h]; rfl
theorem Met.turn {js : List GJob} {sup : List Int} {k : Nat} (hk : k < js.length) (h : Met js sup) : Met (turnJ js k) sup := by
  obtain ⟨P, hP⟩ := h
  have hl : (turnJ js k).length = js.length := mk_len _ _
  have hm : ∀ i, (i + k) % js.length < js.length := fun i => Nat.mod_lt _ (by omega)
  refine ⟨fun i => P ((i + k) % js.length), ?_, ?_, ?_, ?_, ?_⟩
  · intro i t hi ht; exact hP.lo _ t (hm i) ht
  · intro i t hi ht; unfold turnJ; rw [mk_j _ (by omega)]; exact hP.hi _ t (hm i) ht
  · intro i t hi ht hn; unfold turnJ at hn; rw [mk_j _ (by omega)] at hn; exact hP.out _ t (hm i) ht hn
  · intro i hi; unfold turnJ; rw [mk_j _ (by omega)]; exact hP.got _ (hm i)
  · intro t ht
    rw [hl]
    have := S_rot js.length k hk (fun i => P i t)
    show S js.length (fun i => P ((i + k) % js.length) t) ≤ _
    rw [this]
    exact hP.fits t ht
theorem ext_j {xs ys : List GJob} (hl : xs.length = ys.length) (h : ∀ i, i < xs.length → jAt xs i = jAt ys i) : xs = ys := by
  refine List.ext_getElem hl (fun i h1 h2 => ?_)
  have := h i h1
  rwa [jAt_lt h1, jAt_lt h2] at this
theorem ext_f {xs ys : List Int} (hl : xs.length = ys.length) (h : ∀ i, i < xs.length → fAt xs i = fAt ys i) : xs = ys := by
  refine List.ext_getElem hl (fun i h1 h2 => ?_)
  have := h i h1
  simpa [fAt, List.getElem?_eq_getElem h1, List.getElem?_eq_getElem h2] using this
theorem turnJ_back {js : List GJob} {k : Nat} (hk : k < js.length) : turnJ (turnJ js k) ((js.length - k) % js.length) = js := by
  have hl : (turnJ js k).length = js.length := mk_len _ _
  refine ext_j (by unfold turnJ; rw [mk_len, mk_len]) (fun i hi => ?_)
  have hi' : i < js.length := by unfold turnJ at hi; rw [mk_len, mk_len] at hi; exact hi
  conv => lhs; unfold turnJ
  rw [mk_j _ (by rw [mk_len]; exact hi'), mk_len, mk_j _ (Nat.mod_lt _ (by omega))]
  congr 1
  rw [Nat.mod_add_mod, Nat.add_right_comm, Nat.add_mod_mod, show i + k + (js.length - k) = i + js.length by omega, Nat.add_mod_right, Nat.mod_eq_of_lt hi']
theorem met_turn {js : List GJob} {sup : List Int} {k : Nat} (hk : k < js.length) : Met (turnJ js k) sup ↔ Met js sup := by
  refine ⟨fun h => ?_, Met.turn hk⟩
  have := Met.turn (k := (js.length - k) % js.length) (by unfold turnJ; rw [mk_len]; exact Nat.mod_lt _ (by omega)) h
  rwa [turnJ_back hk] at this
/-- Time backward. -/
def backJ (T : Nat) (j : GJob) : GJob := ⟨T - j.till, T - j.frm, j.energy, j.rate, j.rank⟩
def backS (sup : List Int) : List Int := mk sup.length (fun i => fAt sup (sup.length - 1 - i))
theorem S_back (n : Nat) (g : Nat → Int) : S n (fun i => g (n - 1 - i)) = S n g := by
  induction n generalizing g with
  | zero => rfl
  | succ n ih =>
    have h := S_append 1 n (fun i => g (n + 1 - 1 - i))
    rw [Nat.add_comm] at h
    rw [h, S_succ]
    have e : S n (fun i => g (n + 1 - 1 - (1 + i))) = S n g := by
      rw [← ih g]
      exact S_congr (fun i hi => by congr 1; omega)
    rw [e]
    simp [S]
    omega
theorem map_j (f : GJob → GJob) {js : List GJob} {i : Nat} (hi : i < js.length) : jAt (js.map f) i = f (jAt js i) := by
  unfold jAt
  rw [List.getElem?_map, List.getElem?_eq_getElem hi]
  rfl
theorem Met.back {js : List GJob} {sup : List Int} (h : Met js sup) : Met (js.map (backJ sup.length)) (backS sup) := by
  obtain ⟨P, hP⟩ := h
  have hl : (js.map (backJ sup.length)).length = js.length := List.length_map _
  have hs : (backS sup).length = sup.length := mk_len _ _
  have inb : ∀ {j : GJob} {t : Nat}, t < sup.length → inJ j (sup.length - 1 - t) → inJ (backJ sup.length j) t := fun {j t} ht x => by
    unfold inJ backJ at *; dsimp only at *; omega
  refine ⟨fun i t => P i (sup.length - 1 - t), ?_, ?_, ?_, ?_, ?_⟩
  · intro i t hi ht; exact hP.lo _ _ (by omega) (by omega)
  · intro i t hi ht; rw [map_j _ (by omega)]; exact hP.hi i _ (by omega) (by omega)
  · intro i t hi ht hn; rw [map_j _ (by omega)] at hn; exact hP.out i _ (by omega) (by omega) (fun x => hn (inb (by omega) x))
  · intro i hi
    rw [map_j _ (by omega), hs]
    have := S_back sup.length (P i)
    show S sup.length (fun t => P i (sup.length - 1 - t)) = _
    rw [this]
    exact hP.got i (by omega)
  · intro t ht
    rw [hl]
    unfold backS
    rw [mk_f _ (by omega)]
    exact hP.fits _ (by omega)
theorem back_back (js : List GJob) (T : Nat) : (js.map (backJ T)).map (backJ T) = js := by
  rw [List.map_map]
  have : (backJ T ∘ backJ T) = id := by
    funext j
    cases j
    simp [backJ]
    omega
  rw [this, List.map_id]
theorem backS_back (sup : List Int) : backS (backS sup) = sup := by
  refine ext_f (by unfold backS; rw [mk_len, mk_len]) (fun i hi => ?_)
  have hi' : i < sup.length := by unfold backS at hi; rw [mk_len, mk_len] at hi; exact hi
  conv => lhs; unfold backS
  rw [mk_f _ (by rw [mk_len]; exact hi'), mk_len, mk_f _ (by omega)]
  congr 1
  omega
theorem met_back {js : List GJob} {sup : List Int} : Met (js.map (backJ sup.length)) (backS sup) ↔ Met js sup := by
  refine ⟨fun h => ?_, Met.back⟩
  have := h.back
  have hs : (backS sup).length = sup.length := mk_len _ _
  rwa [hs, back_back, backS_back] at this
/-- Everything some times as great. -/
def timesJ (x : Int) (j : GJob) : GJob := ⟨j.frm, j.till, j.energy * x, j.rate * x, j.rank⟩
theorem Met.times {js : List GJob} {sup : List Int} {x : Int} (hx : 0 ≤ x) (h : Met js sup) : Met (js.map (timesJ x)) (sup.map (· * x)) := by
  obtain ⟨P, hP⟩ := h
  have hl : (js.map (timesJ x)).length = js.length := List.length_map _
  have hs : (sup.map (· * x)).length = sup.length := List.length_map _
  refine ⟨fun i t => x * P i t, ?_, ?_, ?_, ?_, ?_⟩
  · intro i t hi ht; exact Int.mul_nonneg hx (hP.lo i t (by omega) (by omega))
  · intro i t hi ht
    rw [map_j _ (by omega)]
    show x * P i t ≤ (jAt js i).rate * x
    rw [Int.mul_comm x]
    exact Int.mul_le_mul_of_nonneg_right (hP.hi i t (by omega) (by omega)) hx
  · intro i t hi ht hn
    rw [map_j _ (by omega)] at hn
    rw [hP.out i t (by omega) (by omega) hn]; omega
  · intro i hi
    rw [map_j _ (by omega), hs, S_mul, hP.got i (by omega)]
    show _ = (jAt js i).energy * x
    rw [Int.mul_comm]
  · intro t ht
    rw [hl]
    have e : fAt (sup.map (· * x)) t = fAt sup t * x := by
      unfold fAt
      rw [List.getElem?_map, List.getElem?_eq_getElem (by omega)]
      rfl
    rw [e]
    show S js.length (fun i => x * P i t) ≤ _
    rw [S_mul, Int.mul_comm x]
    exact Int.mul_le_mul_of_nonneg_right (hP.fits t (by omega)) hx
theorem cut_times {js : List GJob} {sup : List Int} {x : Int} (hx : 0 < x) (cj cs : Nat → Bool) (h : roomC js sup cj cs < needC js cj) : roomC (js.map (timesJ x)) (sup.map (· * x)) cj cs < needC (js.map (timesJ x)) cj := by
  have pk : ∀ (c : Prop) [Decidable c] (y : Int), pick c (y * x) = x * pick c y := fun c _ y => by unfold pick; split; exact Int.mul_comm _ _; omega
  have e1 : needC (js.map (timesJ x)) cj = x * needC js cj := by
    unfold needC
    rw [List.length_map, ← S_mul]
    exact S_congr (fun i hi => by rw [map_j _ hi]; exact pk _ _)
  have e2 : roomC (js.map (timesJ x)) (sup.map (· * x)) cj cs = x * roomC js sup cj cs := by
    unfold roomC
    rw [List.length_map, List.length_map, Int.mul_add, ← S_mul, ← S_mul]
    congr 1
    · refine S_congr (fun t ht => ?_)
      have e : fAt (sup.map (· * x)) t = fAt sup t * x := by
        unfold fAt
        rw [List.getElem?_map, List.getElem?_eq_getElem ht]
        rfl
      rw [e]
      exact pk _ _
    · refine S_congr (fun i hi => ?_)
      have e : S sup.length (fun t => pick (inJ (jAt (js.map (timesJ x)) i) t ∧ cs t = false) (jAt (js.map (timesJ x)) i).rate) = x * S sup.length (fun t => pick (inJ (jAt js i) t ∧ cs t = false) (jAt js i).rate) := by
        rw [← S_mul]
        refine S_congr (fun t _ => ?_)
        rw [map_j _ hi]
        exact pk _ _
      rw [e]
      unfold pick
      split
      · rfl
      · omega
  rw [e1, e2]
  exact Int.mul_lt_mul_of_pos_left h hx
/-- Two jobs with the same slots joined. -/
theorem Met.join {js : List GJob} {sup : List Int} {a b : GJob} (h1 : b.frm = a.frm) (h2 : b.till = a.till) (h : Met (js ++ [a, b]) sup) (r : Int) : Met (js ++ [⟨a.frm, a.till, a.energy + b.energy, a.rate + b.rate, r⟩]) sup := by
  obtain ⟨P, hP⟩ := h
  have hl : (js ++ [a, b]).length = js.length + 2 := by simp
  have hl' : (js ++ [(⟨a.frm, a.till, a.energy + b.energy, a.rate + b.rate, r⟩ : GJob)]).length = js.length + 1 := by simp
  have ja : jAt (js ++ [a, b]) js.length = a := by unfold jAt; rw [List.getElem?_append_right (Nat.le_refl _)]; simp
  have jb : jAt (js ++ [a, b]) (js.length + 1) = b := by unfold jAt; rw [List.getElem?_append_right (by omega)]; simp
  have jo : ∀ (ys : List GJob) i, i < js.length → jAt (js ++ ys) i = jAt js i := fun ys i hi => by unfold jAt; rw [List.getElem?_append_left hi]
  have jc : ∀ x : GJob, jAt (js ++ [x]) js.length = x := fun x => by unfold jAt; rw [List.getElem?_append_right (Nat.le_refl _)]; simp
  refine ⟨fun i t => if i = js.length then P i t + P (i + 1) t else P i t, ?_, ?_, ?_, ?_, ?_⟩
  · intro i t hi ht
    have x := hP.lo i t (by omega) ht
    by_cases c : i = js.length
    · have y := hP.lo (i + 1) t (by omega) ht
      simp only [if_pos c]; omega
    · simp only [if_neg c]; exact x
  · intro i t hi ht
    have x := hP.hi i t (by omega) ht
    by_cases c : i = js.length
    · have y := hP.hi (i + 1) t (by omega) ht
      subst c
      rw [ja] at x
      rw [jb] at y
      simp only [if_pos]
      rw [jc]
      dsimp only
      omega
    · simp only [if_neg c]
      rw [jo _ _ (by omega)] at x ⊢
      exact x
  · intro i t hi ht hn
    have x := hP.out i t (by omega) ht
    by_cases c : i = js.length
    · have y := hP.out (i + 1) t (by omega) ht
      subst c
      rw [ja] at x
      rw [jb] at y
      rw [jc] at hn
      simp only [if_pos]
      have e : ¬ inJ b t := fun z => hn (by unfold inJ at *; dsimp only; omega)
      rw [x hn, y e]; omega
    · simp only [if_neg c]
      rw [jo _ _ (by omega)] at x hn
      exact x hn
  · intro i hi
    have x := hP.got i (by omega)
    by_cases c : i = js.length
    · have y := hP.got (i + 1) (by omega)
      subst c
      rw [ja] at x
      rw [jb] at y
      rw [jc]
      simp only [if_pos]
      rw [S_add, x]
      show _ + S sup.length (P (js.length + 1)) = _
      rw [y]
    · simp only [if_neg c]
      rw [jo _ _ (by omega)] at x ⊢
      exact x
  · intro t ht
    have x := hP.fits t ht
    rw [hl, S_succ, S_succ] at x
    rw [hl', S_succ, S_congr (h := fun i => P i t) (fun i hi => by simp [show i ≠ js.length by omega])]
    simp only [if_pos]
    omega
end Go.Proofs.Ytgfcnkfmgpakkaa
/-
Plain laws of a further job: what can be met with it and without it, the greatest energy, the first slot carried out. No program in sight.
-/
namespace Go.Proofs.Ytgfcnkfmgpakkaa
set_option linter.unusedVariables false
set_option linter.unusedSimpArgs false
/-- A job with another energy. -/
def withE (x : GJob) (e : Int) : GJob := ⟨x.frm, x.till, e, x.rate, x.rank⟩
theorem jAt_snoc_lt {js : List GJob} {x : GJob} {i : Nat} (h : i < js.length) : jAt (js ++ [x]) i = jAt js i := by
  simp [jAt, List.getElem?_append_left h]
theorem jAt_snoc {js : List GJob} {x : GJob} : jAt (js ++ [x]) js.length = x := by simp [jAt]
theorem jAt_snoc2_lt {js : List GJob} {x y : GJob} {i : Nat} (h : i < js.length) : jAt (js ++ [x, y]) i = jAt js i := by
  simp [jAt, List.getElem?_append_left h]
theorem jAt_snoc2_a {js : List GJob} {x y : GJob} : jAt (js ++ [x, y]) js.length = x := by simp [jAt]
theorem jAt_snoc2_b {js : List GJob} {x y : GJob} : jAt (js ++ [x, y]) (js.length + 1) = y := by
  simp [jAt, List.getElem?_append_right]
theorem okP_one {x : GJob} {sup : List Int} : okP [x] sup = true ↔ (sup.length ≤ 24 ∧ (∀ y, y ∈ sup → okU y = true) ∧ okJ sup.length x = true) := by
  rw [okP_iff]
  constructor
  · rintro ⟨⟨_, h1⟩, h2, h3⟩
    exact ⟨h1, h2, h3 x (by simp)⟩
  · rintro ⟨h1, h2, h3⟩
    exact ⟨⟨by simp, h1⟩, h2, fun j hj => by simp at hj; subst hj; exact h3⟩
theorem okP_snoc {js : List GJob} {x : GJob} {sup : List Int} : okP (js ++ [x]) sup = true ↔ (okP js sup = true ∧ okP [x] sup = true ∧ js.length < 12) := by
  rw [okP_iff, okP_iff, okP_one]
  constructor
  · rintro ⟨⟨h0, h1⟩, h2, h3⟩
    simp at h0
    exact ⟨⟨⟨by omega, h1⟩, h2, fun j hj => h3 j (by simp [hj])⟩, ⟨h1, h2, h3 x (by simp)⟩, by omega⟩
  · rintro ⟨⟨⟨h0, h1⟩, h2, h3⟩, ⟨_, _, h4⟩, h5⟩
    refine ⟨⟨by simp; omega, h1⟩, h2, fun j hj => ?_⟩
    rcases List.mem_append.1 hj with hj | hj
    · exact h3 j hj
    · simp at hj; subst hj; exact h4
theorem okP_withE {x : GJob} {sup : List Int} {e e' : Int} (h : okP [withE x e] sup = true) (h0 : 0 ≤ e') (h1 : e' ≤ 1000) : okP [withE x e'] sup = true := by
  obtain ⟨a, b, c⟩ := okP_one.1 h
  refine okP_one.2 ⟨a, b, ?_⟩
  have := okJ_iff.1 c
  exact okJ_iff.2 ⟨this.1, this.2.1, this.2.2.1, h0, h1, this.2.2.2.2.2⟩
theorem okP_withE_over {x : GJob} {sup : List Int} {e : Int} (h : 1000 < e) : okP [withE x e] sup = false := by
  cases c : okP [withE x e] sup
  · rfl
  · have := (okJ_iff.1 (okP_one.1 c).2.2).2.2.2.2.1
    simp only [withE] at this
    omega
/-- Without the last one. -/
theorem Met.butlast {js : List GJob} {x : GJob} {sup : List Int} (h : Met (js ++ [x]) sup) : Met js sup := by
  have := h.without (k := js.length) (by simp)
  simpa using this
theorem Met.drop_mid {js : List GJob} {x y : GJob} {sup : List Int} (h : Met (js ++ [x] ++ [y]) sup) : Met (js ++ [y]) sup := by
  have := h.without (k := js.length) (by simp)
  have e1 : (js ++ [x] ++ [y]).take js.length = js := by simp
  have e2 : (js ++ [x] ++ [y]).drop (js.length + 1) = [y] := by
    rw [List.drop_append_of_le_length (by simp)]
    simp
  rwa [e1, e2] at this
/-- One that needs nothing. -/
theorem Met.nothing {js : List GJob} {x : GJob} {sup : List Int} (h : Met js sup) (he : x.energy = 0) (hr : 0 ≤ x.rate) : Met (js ++ [x]) sup := by
  obtain ⟨P, hP⟩ := h
  refine ⟨fun i t => if i < js.length then P i t else 0, ?_⟩
  have hlen : (js ++ [x]).length = js.length + 1 := by simp
  refine ⟨fun i t hi ht => ?_, fun i t hi ht => ?_, fun i t hi ht hn => ?_, fun i hi => ?_, fun t ht => ?_⟩
  · split
    · exact hP.lo i t (by assumption) ht
    · omega
  · split
    · rename_i c; rw [jAt_snoc_lt c]; exact hP.hi i t c ht
    · have : i = js.length := by omega
      subst this
      rw [jAt_snoc]; exact hr
  · split
    · rename_i c; rw [jAt_snoc_lt c] at hn; exact hP.out i t c ht hn
    · rfl
  · by_cases c : i < js.length
    · simp only [c, if_true]
      rw [jAt_snoc_lt c]; exact hP.got i c
    · have : i = js.length := by omega
      subst this
      simp only [c, if_false]
      rw [S_zero, jAt_snoc, he]
  · rw [hlen, S_succ]
    simp only [Nat.lt_irrefl, if_false]
    rw [S_congr (h := fun i => P i t) (fun i hi => by simp [hi])]
    have := hP.fits t ht
    omega
/-- An easier last one. -/
theorem Met.easier {js : List GJob} {x y : GJob} {sup : List Int} (h : Met (js ++ [x]) sup) (hok : okP js sup = true) (h0 : 0 ≤ y.energy) (he : y.energy ≤ x.energy) (hr : x.rate ≤ y.rate) (hf : y.frm ≤ x.frm) (ht : x.till ≤ y.till) : Met (js ++ [y]) sup := by
  refine Met.mono (js := js ++ [x]) (by simp) rfl h (fun i hi => ?_) (fun i hi => ?_) (fun i t hi _ hin => ?_) (fun _ _ => Int.le_refl _)
  · by_cases c : i < js.length
    · rw [jAt_snoc_lt c, jAt_snoc_lt c]
      exact ⟨(okP_job hok c).2.2.2.1, Int.le_refl _⟩
    · have : i = js.length := by simp at hi; omega
      subst this
      rw [jAt_snoc, jAt_snoc]; exact ⟨h0, he⟩
  · by_cases c : i < js.length
    · rw [jAt_snoc_lt c, jAt_snoc_lt c]; exact Int.le_refl _
    · have : i = js.length := by simp at hi; omega
      subst this
      rw [jAt_snoc, jAt_snoc]; exact hr
  · by_cases c : i < js.length
    · rw [jAt_snoc_lt c] at hin ⊢; exact hin
    · have : i = js.length := by simp at hi; omega
      subst this
      rw [jAt_snoc] at hin ⊢
      unfold inJ at *
      omega
theorem Met.less {js : List GJob} {x : GJob} {sup : List Int} {e e' : Int} (h : Met (js ++ [withE x e]) sup) (hok : okP js sup = true) (h0 : 0 ≤ e') (he : e' ≤ e) : Met (js ++ [withE x e']) sup :=
  h.easier hok h0 he (Int.le_refl _) (Int.le_refl _) (Int.le_refl _)
/-- The last two in the other order. -/
theorem Met.swap {js : List GJob} {a b : GJob} {sup : List Int} (h : Met (js ++ [a] ++ [b]) sup) : Met (js ++ [b] ++ [a]) sup := by
  simp only [List.append_assoc, List.cons_append, List.nil_append] at h ⊢
  obtain ⟨P, hP⟩ := h
  have hl : ∀ x y : GJob, (js ++ [x, y]).length = js.length + 2 := fun x y => by simp
  let σ : Nat → Nat := fun i => if i < js.length then i else if i = js.length then js.length + 1 else js.length
  have s1 : ∀ i, i < js.length → σ i = i := fun i h => by simp [σ, h]
  have s2 : σ js.length = js.length + 1 := by simp [σ]
  have s3 : σ (js.length + 1) = js.length := by simp [σ]
  have hj : ∀ i, i < js.length + 2 → jAt (js ++ [b, a]) i = jAt (js ++ [a, b]) (σ i) ∧ σ i < js.length + 2 := by
    intro i hi
    by_cases c : i < js.length
    · rw [s1 i c, jAt_snoc2_lt c, jAt_snoc2_lt c]; exact ⟨rfl, hi⟩
    · by_cases c2 : i = js.length
      · subst c2; rw [s2, jAt_snoc2_a, jAt_snoc2_b]; exact ⟨rfl, by omega⟩
      · have : i = js.length + 1 := by omega
        subst this
        rw [s3, jAt_snoc2_b, jAt_snoc2_a]; exact ⟨rfl, by omega⟩
  refine ⟨fun i t => P (σ i) t, ?_⟩
  refine ⟨fun i t hi ht => ?_, fun i t hi ht => ?_, fun i t hi ht hn => ?_, fun i hi => ?_, fun t ht => ?_⟩
  · rw [hl] at hi
    exact hP.lo _ t (by rw [hl]; exact (hj i hi).2) ht
  · rw [hl] at hi
    rw [(hj i hi).1]
    exact hP.hi _ t (by rw [hl]; exact (hj i hi).2) ht
  · rw [hl] at hi
    rw [(hj i hi).1] at hn
    exact hP.out _ t (by rw [hl]; exact (hj i hi).2) ht hn
  · rw [hl] at hi
    rw [(hj i hi).1]
    exact hP.got _ (by rw [hl]; exact (hj i hi).2)
  · have := hP.fits t ht
    rw [hl] at this ⊢
    rw [S_succ, S_succ] at this ⊢
    rw [s2, s3, S_congr (h := fun i => P i t) (fun i hi => by rw [s1 i hi])]
    omega
theorem met_swap {js : List GJob} {a b : GJob} {sup : List Int} : Met (js ++ [a] ++ [b]) sup ↔ Met (js ++ [b] ++ [a]) sup := ⟨Met.swap, Met.swap⟩
/-- A cut that does not name the last job is a cut of the others. -/
theorem cut_butlast {js : List GJob} {x : GJob} {sup : List Int} {cj cs : Nat → Bool} (hc : cj js.length = false) (h : roomC (js ++ [x]) sup cj cs < needC (js ++ [x]) cj) : roomC js sup cj cs < needC js cj := by
  have hl : (js ++ [x]).length = js.length + 1 := by simp
  unfold roomC needC at *
  rw [hl, S_succ, S_succ, pick_neg (by simp [hc]), pick_neg (by simp [hc])] at h
  rw [S_congr (n := js.length) (g := fun i => pick (cj i = true) (S sup.length (fun t => pick (inJ (jAt (js ++ [x]) i) t ∧ cs t = false) (jAt (js ++ [x]) i).rate))) (h := fun i => pick (cj i = true) (S sup.length (fun t => pick (inJ (jAt js i) t ∧ cs t = false) (jAt js i).rate))) (fun i hi => by rw [jAt_snoc_lt hi]),
    S_congr (n := js.length) (g := fun i => pick (cj i = true) (jAt (js ++ [x]) i).energy) (h := fun i => pick (cj i = true) (jAt js i).energy) (fun i hi => by rw [jAt_snoc_lt hi])] at h
  omega
/-- The errors: 2 too many, 6 the jobs alone cannot be met, 10 no room. -/
noncomputable def chkE (js : List GJob) (sup : List Int) (x : GJob) : Int :=
  @ite _ (okP js sup = true ∧ okP [x] sup = true) (Classical.propDecidable _) (if js.length = 12 then 2 else @ite _ (Met js sup) (Classical.propDecidable _) 0 6) 1
theorem chkE_arg {js : List GJob} {sup : List Int} {x : GJob} (h : ¬ (okP js sup = true ∧ okP [x] sup = true)) : chkE js sup x = 1 := by
  unfold chkE; rw [if_neg h]
theorem chkE_limit {js : List GJob} {sup : List Int} {x : GJob} (h1 : okP js sup = true) (h2 : okP [x] sup = true) (h3 : js.length = 12) : chkE js sup x = 2 := by
  unfold chkE; rw [if_pos ⟨h1, h2⟩, if_pos h3]
theorem chkE_state {js : List GJob} {sup : List Int} {x : GJob} (h1 : okP js sup = true) (h2 : okP [x] sup = true) (h3 : js.length ≠ 12) (h4 : ¬ Met js sup) : chkE js sup x = 6 := by
  unfold chkE; rw [if_pos ⟨h1, h2⟩, if_neg h3, if_neg h4]
theorem chkE_ok {js : List GJob} {sup : List Int} {x : GJob} (h1 : okP js sup = true) (h2 : okP [x] sup = true) (h3 : js.length ≠ 12) (h4 : Met js sup) : chkE js sup x = 0 := by
  unfold chkE; rw [if_pos ⟨h1, h2⟩, if_neg h3, if_pos h4]
theorem chkE_zero {js : List GJob} {sup : List Int} {x : GJob} (h : chkE js sup x = 0) : okP js sup = true ∧ okP [x] sup = true ∧ js.length < 12 ∧ Met js sup := by
  by_cases h1 : okP js sup = true ∧ okP [x] sup = true
  · by_cases h3 : js.length = 12
    · rw [chkE_limit h1.1 h1.2 h3] at h; omega
    · by_cases h4 : Met js sup
      · have := (okP_iff.1 h1.1).1.1
        exact ⟨h1.1, h1.2, by omega, h4⟩
      · rw [chkE_state h1.1 h1.2 h3 h4] at h; omega
  · rw [chkE_arg h1] at h; omega
theorem chkE_range (js : List GJob) (sup : List Int) (x : GJob) : chkE js sup x = 0 ∨ chkE js sup x = 1 ∨ chkE js sup x = 2 ∨ chkE js sup x = 6 := by
  by_cases h1 : okP js sup = true ∧ okP [x] sup = true
  · by_cases h3 : js.length = 12
    · exact .inr (.inr (.inl (chkE_limit h1.1 h1.2 h3)))
    · by_cases h4 : Met js sup
      · exact .inl (chkE_ok h1.1 h1.2 h3 h4)
      · exact .inr (.inr (.inr (chkE_state h1.1 h1.2 h3 h4)))
  · exact .inr (.inl (chkE_arg h1))
noncomputable def admE (js : List GJob) (sup : List Int) (x : GJob) : Int := if chkE js sup x = 0 then @ite _ (Met (js ++ [x]) sup) (Classical.propDecidable _) 0 10 else chkE js sup x
theorem admE_err {js : List GJob} {sup : List Int} {x : GJob} (h : chkE js sup x ≠ 0) : admE js sup x = chkE js sup x := by unfold admE; rw [if_neg h]
theorem admE_ok {js : List GJob} {sup : List Int} {x : GJob} (h : chkE js sup x = 0) (hm : Met (js ++ [x]) sup) : admE js sup x = 0 := by unfold admE; rw [if_pos h, if_pos hm]
theorem admE_full {js : List GJob} {sup : List Int} {x : GJob} (h : chkE js sup x = 0) (hm : ¬ Met (js ++ [x]) sup) : admE js sup x = 10 := by unfold admE; rw [if_pos h, if_neg hm]
theorem admE_zero {js : List GJob} {sup : List Int} {x : GJob} : admE js sup x = 0 ↔ okP (js ++ [x]) sup = true ∧ Met (js ++ [x]) sup := by
  constructor
  · intro h
    by_cases c : chkE js sup x = 0
    · obtain ⟨h1, h2, h3, h4⟩ := chkE_zero c
      by_cases m : Met (js ++ [x]) sup
      · exact ⟨okP_snoc.2 ⟨h1, h2, h3⟩, m⟩
      · rw [admE_full c m] at h; omega
    · rw [admE_err c] at h; exact absurd h c
  · rintro ⟨h, m⟩
    obtain ⟨h1, h2, h3⟩ := okP_snoc.1 h
    exact admE_ok (chkE_ok h1 h2 (by omega) m.butlast) m
theorem adm_order {js : List GJob} {sup : List Int} {a b : GJob} : (admE js sup a = 0 ∧ admE (js ++ [a]) sup b = 0) ↔ (admE js sup b = 0 ∧ admE (js ++ [b]) sup a = 0) := by
  have key : ∀ a b : GJob, (admE js sup a = 0 ∧ admE (js ++ [a]) sup b = 0) → (admE js sup b = 0 ∧ admE (js ++ [b]) sup a = 0) := by
    intro a b
    simp only [admE_zero]
    rintro ⟨⟨h1, m1⟩, h2, m2⟩
    obtain ⟨g1, g2, g3⟩ := okP_snoc.1 h2
    obtain ⟨k1, k2, k3⟩ := okP_snoc.1 h1
    simp at g3
    have hb : okP (js ++ [b]) sup = true := okP_snoc.2 ⟨k1, g2, k3⟩
    exact ⟨⟨hb, m2.drop_mid⟩, okP_snoc.2 ⟨hb, k2, by simp; omega⟩, m2.swap⟩
  exact ⟨key a b, key b a⟩
/-- The greatest energy. -/
def IsRoom (js : List GJob) (sup : List Int) (x : GJob) (n : Int) : Prop := 0 ≤ n ∧ n ≤ 1000 ∧ Met (js ++ [withE x n]) sup ∧ ∀ e, n < e → e ≤ 1000 → ¬ Met (js ++ [withE x e]) sup
theorem IsRoom.unique {js : List GJob} {sup : List Int} {x : GJob} {n m : Int} (h : IsRoom js sup x n) (k : IsRoom js sup x m) : n = m := by
  obtain ⟨a1, a2, a3, a4⟩ := h
  obtain ⟨b1, b2, b3, b4⟩ := k
  rcases Int.lt_trichotomy n m with c | c | c
  · exact absurd b3 (a4 m c b2)
  · exact c
  · exact absurd a3 (b4 n c a2)
theorem IsRoom.crowds {js : List GJob} {sup : List Int} {a b : GJob} {n m : Int} (h : IsRoom js sup b n) (k : IsRoom (js ++ [a]) sup b m) : m ≤ n := by
  obtain ⟨a1, a2, a3, a4⟩ := h
  obtain ⟨b1, b2, b3, b4⟩ := k
  by_cases c : m ≤ n
  · exact c
  · exact absurd b3.drop_mid (a4 m (by omega) b2)
/-- What a bisection knows. -/
structure Bis (js : List GJob) (sup : List Int) (x : GJob) (lo hi : Int) : Prop where
  lo0 : 0 ≤ lo
  le : lo ≤ hi
  hi1 : hi ≤ 1000
  yes : Met (js ++ [withE x lo]) sup
  no : ∀ e, hi < e → e ≤ 1000 → ¬ Met (js ++ [withE x e]) sup
theorem Bis.start {js : List GJob} {sup : List Int} {x : GJob} (h : chkE js sup (withE x 0) = 0) : Bis js sup x 0 1000 := by
  obtain ⟨h1, h2, h3, h4⟩ := chkE_zero h
  refine ⟨Int.le_refl _, by omega, Int.le_refl _, ?_, fun e h1 h2 => by omega⟩
  refine h4.nothing rfl ?_
  exact (okJ_iff.1 (okP_one.1 h2).2.2).2.2.2.2.2.1
theorem Bis.up {js : List GJob} {sup : List Int} {x : GJob} {lo hi m : Int} (h : Bis js sup x lo hi) (h1 : lo ≤ m) (h2 : m ≤ hi) (hm : Met (js ++ [withE x m]) sup) : Bis js sup x m hi :=
  ⟨by have := h.lo0; omega, h2, h.hi1, hm, h.no⟩
theorem Bis.down {js : List GJob} {sup : List Int} {x : GJob} {lo hi m : Int} (h : Bis js sup x lo hi) (hok : okP js sup = true) (h1 : lo < m) (h2 : m ≤ hi) (hm : ¬ Met (js ++ [withE x m]) sup) : Bis js sup x lo (m - 1) :=
  ⟨h.lo0, by omega, by have := h.hi1; omega, h.yes, fun e he1 he2 hmet => hm (hmet.less hok (by have := h.lo0; omega) (by omega))⟩
theorem Bis.done {js : List GJob} {sup : List Int} {x : GJob} {lo hi : Int} (h : Bis js sup x lo hi) (e : ¬ lo < hi) : IsRoom js sup x lo :=
  ⟨h.lo0, by have := h.hi1; have := h.le; omega, h.yes, fun e' h1 h2 => h.no e' (by have := h.le; omega) h2⟩
/-- The first slot carried out. -/
def okD1 (j : GJob) (d : Int) : Prop := 0 ≤ d ∧ d ≤ j.rate ∧ d ≤ j.energy ∧ (0 < d → j.frm = 0 ∧ j.till ≠ 0)
instance (j : GJob) (d : Int) : Decidable (okD1 j d) := by unfold okD1; infer_instance
def okDTo (js : List GJob) (done : List Int) (k : Nat) : Prop := ∀ i, i < k → okD1 (jAt js i) (fAt done i)
noncomputable def okD (js : List GJob) (sup done : List Int) : Bool :=
  @decide (okP js sup = true ∧ 0 < sup.length ∧ done.length = js.length ∧ okDTo js done js.length ∧ S js.length (fAt done) ≤ fAt sup 0) (Classical.propDecidable _)
theorem okD_iff {js : List GJob} {sup done : List Int} : okD js sup done = true ↔ (okP js sup = true ∧ 0 < sup.length ∧ done.length = js.length ∧ okDTo js done js.length ∧ S js.length (fAt done) ≤ fAt sup 0) := by
  unfold okD
  exact @decide_eq_true_iff _ (Classical.propDecidable _)
theorem okD_not {js : List GJob} {sup done : List Int} (h : ¬ (okP js sup = true ∧ 0 < sup.length ∧ done.length = js.length ∧ okDTo js done js.length ∧ S js.length (fAt done) ≤ fAt sup 0)) : okD js sup done = false := by
  cases e : okD js sup done
  · rfl
  · exact absurd (okD_iff.1 e) h
def nextJ (j : GJob) (d : Int) : GJob := ⟨max 0 (j.frm - 1), max 0 (j.till - 1), j.energy - d, j.rate, j.rank⟩
def nextJs (js : List GJob) (done : List Int) : List GJob := mk js.length (fun i => nextJ (jAt js i) (fAt done i))
theorem okDTo_mono {js : List GJob} {done : List Int} {k m : Nat} (h : okDTo js done m) (hk : k ≤ m) : okDTo js done k := fun i hi => h i (by omega)
theorem okDTo_succ {js : List GJob} {done : List Int} {k : Nat} : okDTo js done (k + 1) ↔ okDTo js done k ∧ okD1 (jAt js k) (fAt done k) := by
  constructor
  · exact fun h => ⟨okDTo_mono h (by omega), h k (by omega)⟩
  · rintro ⟨h1, h2⟩ i hi
    by_cases c : i = k
    · subst c; exact h2
    · exact h1 i (by omega)
theorem done_bound {js : List GJob} {sup done : List Int} (hok : okP js sup = true) {k : Nat} (hk : k ≤ js.length) (h : okDTo js done k) : 0 ≤ S k (fAt done) ∧ S k (fAt done) ≤ 12000 := by
  have h1 := S_nonneg (n := k) (g := fAt done) (fun i hi => (h i hi).1)
  have h2 := S_bound (n := k) (g := fAt done) (c := 1000) (fun i hi => by
    have a := (h i hi).2.1
    have b := (okP_job hok (i := i) (by omega)).2.2.2.2.2.2.1
    omega)
  have := (okP_iff.1 hok).1.1
  exact ⟨h1, by omega⟩
theorem S_mono_n {g : Nat → Int} {n m : Nat} (h : n ≤ m) (h0 : ∀ i, i < m → 0 ≤ g i) : S n g ≤ S m g := by
  induction m with
  | zero => have : n = 0 := by omega
            subst this; exact Int.le_refl _
  | succ m ih =>
    by_cases c : n = m + 1
    · subst c; exact Int.le_refl _
    · have := ih (by omega) (fun i hi => h0 i (by omega))
      have := h0 m (by omega)
      rw [S_succ]; omega
theorem fAt_tail (sup : List Int) (t : Nat) : fAt sup.tail t = fAt sup (t + 1) := by
  cases sup <;> simp [fAt]
theorem S_first (n : Nat) (g : Nat → Int) : S (n + 1) g = g 0 + S n (fun t => g (t + 1)) := by
  induction n with
  | zero => simp [S]
  | succ n ih => rw [S_succ, ih, S_succ]; omega
theorem nextJs_len (js : List GJob) (done : List Int) : (nextJs js done).length = js.length := mk_len _ _
theorem nextJs_at {js : List GJob} {done : List Int} {i : Nat} (h : i < js.length) : jAt (nextJs js done) i = nextJ (jAt js i) (fAt done i) := mk_j _ h
theorem okP_next {js : List GJob} {sup done : List Int} (h : okD js sup done = true) : okP (nextJs js done) sup.tail = true := by
  obtain ⟨hok, h0, h1, h2, h3⟩ := okD_iff.1 h
  obtain ⟨⟨a1, a2⟩, a3, a4⟩ := okP_iff.1 hok
  refine okP_iff.2 ⟨⟨by rw [nextJs_len]; exact a1, by rw [List.length_tail]; omega⟩, fun x hx => a3 x (List.mem_of_mem_tail hx), fun j hj => ?_⟩
  obtain ⟨i, hi, e⟩ := List.getElem_of_mem hj
  rw [nextJs_len] at hi
  have e2 : j = nextJ (jAt js i) (fAt done i) := by rw [← e, ← nextJs_at hi, jAt_lt (by rw [nextJs_len]; exact hi)]
  obtain ⟨b1, b2, b3, b4, b5, b6, b7, b8, b9⟩ := okP_job hok hi
  have d := h2 i hi
  unfold okD1 at d
  rw [e2, okJ_iff, List.length_tail]
  unfold nextJ
  dsimp only
  refine ⟨by omega, by omega, by omega, by omega, by omega, b6, b7, b8, b9⟩
theorem okD_plan {js : List GJob} {sup done : List Int} {P : Nat → Nat → Int} (hok : okP js sup = true) (hT : 0 < sup.length) (hl : done.length = js.length) (hP : IsPlan js sup P) (hd : ∀ i, i < js.length → fAt done i = P i 0) : okD js sup done = true := by
  refine okD_iff.2 ⟨hok, hT, hl, fun i hi => ?_, ?_⟩
  · rw [hd i hi]
    refine ⟨hP.lo i 0 hi hT, hP.hi i 0 hi hT, ?_, fun hpos => ?_⟩
    · rw [← hP.got i hi]
      have : sup.length = (sup.length - 1) + 1 := by omega
      rw [this, S_first]
      have := S_nonneg (n := sup.length - 1) (g := fun t => P i (t + 1)) (fun t ht => hP.lo i (t + 1) hi (by omega))
      omega
    · have : inJ (jAt js i) 0 := Classical.byContradiction fun hn => by
        have := hP.out i 0 hi hT hn
        omega
      unfold inJ at this
      have b := okP_job hok hi
      omega
  · rw [S_congr (h := fun i => P i 0) hd]
    exact hP.fits 0 hT
theorem plan_next {js : List GJob} {sup done : List Int} {P : Nat → Nat → Int} (hok : okP js sup = true) (hT : 0 < sup.length) (hP : IsPlan js sup P) (hd : ∀ i, i < js.length → fAt done i = P i 0) : IsPlan (nextJs js done) sup.tail (fun i t => P i (t + 1)) := by
  refine ⟨fun i t hi ht => ?_, fun i t hi ht => ?_, fun i t hi ht hn => ?_, fun i hi => ?_, fun t ht => ?_⟩ <;> (try rw [nextJs_len] at hi) <;> (try rw [List.length_tail] at ht)
  · exact hP.lo i _ hi (by omega)
  · rw [nextJs_at hi]
    exact hP.hi i _ hi (by omega)
  · rw [nextJs_at hi] at hn
    refine hP.out i _ hi (by omega) (fun hin => hn ?_)
    unfold inJ nextJ at *
    dsimp only at *
    omega
  · rw [nextJs_at hi, List.length_tail]
    unfold nextJ
    dsimp only
    rw [hd i hi, ← hP.got i hi]
    have : sup.length = (sup.length - 1) + 1 := by omega
    conv => rhs; rw [this, S_first]
    omega
  · rw [nextJs_len, fAt_tail]
    exact hP.fits _ (by omega)
theorem plan_over {js : List GJob} {sup : List Int} {P : Nat → Nat → Int} (hP : IsPlan js sup P) {i : Nat} (hi : i < js.length) (h : (jAt js i).till = 0) : (jAt js i).energy = 0 := by
  rw [← hP.got i hi]
  refine S_none fun t ht => hP.out i t hi ht (fun hin => ?_)
  unfold inJ at hin
  omega
end Go.Proofs.Ytgfcnkfmgpakkaa
/-
Plain: the graph of the reference's Schedule (one edge for each job and slot); its greatest amount is all energy if and only if the jobs can be met.
-/
namespace Go.Proofs.Ytgfcnkfmgpakkaa
set_option linter.unusedVariables false
set_option linter.unusedSimpArgs false
theorem S_blocks (n m : Nat) (g : Nat → Int) : S (n * m) g = S n (fun i => S m (fun k => g (i * m + k))) := by
  induction n with
  | zero => rw [Nat.zero_mul]; rfl
  | succ n ih => rw [Nat.succ_mul, S_append, ih, S_succ]
/-- The rate in a slot. -/
def rateAt (j : GJob) (t : Nat) : Int := pick (inJ j t) j.rate
def edA (js : List GJob) (T i : Nat) : GEdge := ⟨0, 1 + T + i, (jAt js i).energy⟩
def edB (js : List GJob) (T i t : Nat) : GEdge := ⟨1 + T + i, 1 + t, rateAt (jAt js i) t⟩
def edC (J T : Nat) (sup : List Int) (t : Nat) : GEdge := ⟨1 + t, T + J + 1, fAt sup t⟩
/-- The edges of a job: the first one, then those to n slots. -/
def rowB (js : List GJob) (T i n : Nat) : List GEdge := edA js T i :: mk n (edB js T i)
def rowsB (js : List GJob) (T n : Nat) : List GEdge := (List.range n).flatMap (fun i => rowB js T i T)
def graphQ (js : List GJob) (sup : List Int) : List GEdge := rowsB js sup.length js.length ++ mk sup.length (edC js.length sup.length sup)
theorem rowB_len (js : List GJob) (T i n : Nat) : (rowB js T i n).length = n + 1 := by unfold rowB; rw [List.length_cons, mk_len]
theorem rowB_succ (js : List GJob) (T i n : Nat) : rowB js T i (n + 1) = rowB js T i n ++ [edB js T i n] := by unfold rowB; rw [mk_succ]; rfl
theorem rowsB_succ (js : List GJob) (T n : Nat) : rowsB js T (n + 1) = rowsB js T n ++ rowB js T n T := by
  unfold rowsB
  rw [List.range_succ, List.flatMap_append]
  simp
theorem rowsB_len (js : List GJob) (T n : Nat) : (rowsB js T n).length = n * (T + 1) := by
  induction n with
  | zero => rw [Nat.zero_mul]; rfl
  | succ n ih => rw [rowsB_succ, List.length_append, ih, rowB_len, Nat.succ_mul]
theorem rowB_0 (js : List GJob) (T i n : Nat) : eAt (rowB js T i n) 0 = edA js T i := rfl
theorem rowB_1 (js : List GJob) (T i : Nat) {n k : Nat} (hk : k < n) : eAt (rowB js T i n) (1 + k) = edB js T i k := by
  unfold rowB eAt
  rw [Nat.add_comm, List.getElem?_cons_succ, mk_at _ hk]
  rfl
theorem rowsB_at (js : List GJob) (T : Nat) {n i k : Nat} (hi : i < n) (hk : k < T + 1) : eAt (rowsB js T n) (i * (T + 1) + k) = eAt (rowB js T i T) k := by
  induction n with
  | zero => omega
  | succ n ih =>
    rw [rowsB_succ]
    by_cases e : i = n
    · subst e
      rw [← rowsB_len js T i, app_e2]
    · rw [app_e1 (by
        rw [rowsB_len]
        have : i * (T + 1) + (T + 1) ≤ n * (T + 1) := by rw [← Nat.succ_mul]; exact Nat.mul_le_mul_right _ (by omega)
        omega)]
      exact ih (by omega)
theorem graphQ_len (js : List GJob) (sup : List Int) : (graphQ js sup).length = js.length * (sup.length + 1) + sup.length := by
  unfold graphQ
  rw [List.length_append, rowsB_len, mk_len]
theorem S_one (n : Nat) (g : Nat → Int) : S (n + 1) g = g 0 + S n (fun k => g (1 + k)) := by
  rw [Nat.add_comm, S_append]
  simp [S]
theorem S_graphQ (js : List GJob) (sup : List Int) (g : GEdge → Nat → Int) :
    S (graphQ js sup).length (fun i => g (eAt (graphQ js sup) i) i) = S js.length (fun i => g (edA js sup.length i) (i * (sup.length + 1)) + S sup.length (fun t => g (edB js sup.length i t) (i * (sup.length + 1) + (1 + t)))) + S sup.length (fun t => g (edC js.length sup.length sup t) (js.length * (sup.length + 1) + t)) := by
  rw [graphQ_len, S_append, S_blocks]
  congr 1
  · refine S_congr fun i hi => ?_
    rw [S_one]
    have hlt : ∀ k, k < sup.length + 1 → i * (sup.length + 1) + k < (rowsB js sup.length js.length).length := fun k hk => by
      rw [rowsB_len]
      have : i * (sup.length + 1) + (sup.length + 1) ≤ js.length * (sup.length + 1) := by rw [← Nat.succ_mul]; exact Nat.mul_le_mul_right _ (by omega)
      omega
    unfold graphQ
    rw [app_e1 (hlt 0 (by omega)), rowsB_at js sup.length hi (by omega), rowB_0, Nat.add_zero]
    congr 1
    refine S_congr fun t ht => ?_
    rw [app_e1 (hlt (1 + t) (by omega)), rowsB_at js sup.length hi (by omega), rowB_1 _ _ _ ht]
  · refine S_congr fun t ht => ?_
    unfold graphQ
    rw [← rowsB_len js sup.length js.length, app_e2, mk_e _ ht]
theorem rate_bd {js : List GJob} {sup : List Int} (h : okP js sup = true) {i : Nat} (hi : i < js.length) (t : Nat) : 0 ≤ rateAt (jAt js i) t ∧ rateAt (jAt js i) t ≤ 1000 := by
  obtain ⟨_, _, _, _, _, a, b, _⟩ := okP_job h hi
  unfold rateAt pick
  split <;> omega
theorem graphQ_ok {js : List GJob} {sup : List Int} (h : okP js sup = true) : okEnds (sup.length + js.length + 2) (graphQ js sup) 0 (sup.length + js.length + 1) = true := by
  obtain ⟨⟨a1, a2⟩, _, _⟩ := okP_iff.1 h
  have hm : js.length * (sup.length + 1) ≤ 12 * 25 := Nat.mul_le_mul a1 (by omega)
  refine okEnds_iff.2 ⟨okG_iff.2 ⟨⟨by omega, by omega, by rw [graphQ_len]; omega⟩, fun e he => ?_⟩, by omega, by omega, by omega, by omega, by omega⟩
  unfold graphQ at he
  rcases List.mem_append.1 he with he | he
  · unfold rowsB at he
    obtain ⟨i, hi, he⟩ := List.mem_flatMap.1 he
    have hi := List.mem_range.1 hi
    unfold rowB at he
    rcases List.mem_cons.1 he with rfl | he
    · obtain ⟨_, _, _, q1, q2, _⟩ := okP_job h hi
      refine okE_iff.2 ?_
      unfold edA
      dsimp only
      omega
    · obtain ⟨t, ht, rfl⟩ := List.mem_map.1 he
      have ht := List.mem_range.1 ht
      have := rate_bd h hi t
      refine okE_iff.2 ?_
      unfold edB
      dsimp only
      omega
  · obtain ⟨t, ht, rfl⟩ := List.mem_map.1 he
    have ht := List.mem_range.1 ht
    have := okP_sup h ht
    refine okE_iff.2 ?_
    unfold edC
    dsimp only
    omega
section
variable {js : List GJob} {sup : List Int}
theorem netQ (fl : List Int) (u : Int) : net (graphQ js sup) fl u = S js.length (fun i => pick ((0 : Int) = u) (fAt fl (i * (sup.length + 1))) - pick ((1 + sup.length + i : Int) = u) (fAt fl (i * (sup.length + 1))) + S sup.length (fun t => pick ((1 + sup.length + i : Int) = u) (fAt fl (i * (sup.length + 1) + (1 + t))) - pick ((1 + t : Int) = u) (fAt fl (i * (sup.length + 1) + (1 + t))))) + S sup.length (fun t => pick ((1 + t : Int) = u) (fAt fl (js.length * (sup.length + 1) + t)) - pick ((sup.length + js.length + 1 : Int) = u) (fAt fl (js.length * (sup.length + 1) + t))) := by
  have h := S_graphQ js sup (fun e i => pick (e.frm = u) (fAt fl i) - pick (e.to = u) (fAt fl i))
  exact h
theorem netQ_src (fl : List Int) : net (graphQ js sup) fl 0 = S js.length (fun i => fAt fl (i * (sup.length + 1))) := by
  rw [netQ, S_congr (h := fun i => fAt fl (i * (sup.length + 1))) (fun i _ => by
    rw [pick_pos rfl, pick_neg (by omega), S_none (fun t _ => by rw [pick_neg (by omega), pick_neg (by omega)]; rfl)]; omega), S_none (n := sup.length) (fun t _ => by rw [pick_neg (by omega), pick_neg (by omega)]; rfl)]
  omega
theorem netQ_job (fl : List Int) {i : Nat} (hi : i < js.length) : net (graphQ js sup) fl (1 + sup.length + i : Int) = - fAt fl (i * (sup.length + 1)) + S sup.length (fun t => fAt fl (i * (sup.length + 1) + (1 + t))) := by
  have e1 : S sup.length (fun t => pick ((1 + t : Int) = (1 + sup.length + i : Int)) (fAt fl (js.length * (sup.length + 1) + t)) - pick ((sup.length + js.length + 1 : Int) = (1 + sup.length + i : Int)) (fAt fl (js.length * (sup.length + 1) + t))) = 0 := S_none (fun t ht => by rw [pick_neg (by omega), pick_neg (by omega)]; rfl)
  have e2 : S sup.length (fun t => pick ((1 + sup.length + i : Int) = (1 + sup.length + i : Int)) (fAt fl (i * (sup.length + 1) + (1 + t))) - pick ((1 + t : Int) = (1 + sup.length + i : Int)) (fAt fl (i * (sup.length + 1) + (1 + t)))) = S sup.length (fun t => fAt fl (i * (sup.length + 1) + (1 + t))) := S_congr (fun t ht => by rw [pick_pos rfl, pick_neg (by omega)]; omega)
  rw [netQ, e1, S_single (k := i) hi (fun k _ hk => by
    rw [pick_neg (by omega), pick_neg (by omega), S_none (fun t ht => by rw [pick_neg (by omega), pick_neg (by omega)]; rfl)]; rfl), e2, pick_neg (by omega), pick_pos rfl]
  omega
theorem netQ_slot (fl : List Int) {t : Nat} (ht : t < sup.length) : net (graphQ js sup) fl (1 + t : Int) = fAt fl (js.length * (sup.length + 1) + t) - S js.length (fun i => fAt fl (i * (sup.length + 1) + (1 + t))) := by
  rw [netQ, S_congr (h := fun i => (-1) * fAt fl (i * (sup.length + 1) + (1 + t))) (fun i _ => by
    rw [pick_neg (by omega), pick_neg (by omega), S_single (k := t) ht (fun k _ hk => by rw [pick_neg (by omega), pick_neg (by omega)]; rfl), pick_neg (by omega), pick_pos rfl]; omega), S_mul, S_single (k := t) ht (fun k _ hk => by rw [pick_neg (by omega), pick_neg (by omega)]; rfl), pick_pos rfl, pick_neg (by omega)]
  omega
theorem fitQ {fl : List Int} (hf : IsFlow (sup.length + js.length + 2) (graphQ js sup) 0 (sup.length + js.length + 1) fl) {i k : Nat} (hi : i < js.length) (hk : k < sup.length + 1) : 0 ≤ fAt fl (i * (sup.length + 1) + k) ∧ fAt fl (i * (sup.length + 1) + k) ≤ (eAt (rowB js sup.length i sup.length) k).cap := by
  have hm : i * (sup.length + 1) + (sup.length + 1) ≤ js.length * (sup.length + 1) := by rw [← Nat.succ_mul]; exact Nat.mul_le_mul_right _ (by omega)
  have := hf.fits (i * (sup.length + 1) + k) (by rw [graphQ_len]; omega)
  unfold graphQ at this
  rw [app_e1 (by rw [rowsB_len]; omega), rowsB_at js sup.length hi hk] at this
  exact this
theorem fitC {fl : List Int} (hf : IsFlow (sup.length + js.length + 2) (graphQ js sup) 0 (sup.length + js.length + 1) fl) {t : Nat} (ht : t < sup.length) : fAt fl (js.length * (sup.length + 1) + t) ≤ fAt sup t := by
  have := (hf.fits (js.length * (sup.length + 1) + t) (by rw [graphQ_len]; omega)).2
  unfold graphQ at this
  rw [← rowsB_len js sup.length js.length, app_e2, mk_e _ ht] at this
  rw [← rowsB_len js sup.length js.length]
  exact this
theorem netQ_all {fl : List Int} (hf : IsFlow (sup.length + js.length + 2) (graphQ js sup) 0 (sup.length + js.length + 1) fl) : net (graphQ js sup) fl 0 ≤ allE js := by
  rw [netQ_src]
  exact S_le (fun i hi => (fitQ hf hi (k := 0) (by omega)).2)
theorem flowQ_plan (hok : okP js sup = true) {fl : List Int} (hf : IsFlow (sup.length + js.length + 2) (graphQ js sup) 0 (sup.length + js.length + 1) fl) (hfull : allE js ≤ net (graphQ js sup) fl 0) : Met js sup := by
  rw [netQ_src] at hfull
  have hall := S_tight (fun i hi => (fitQ hf hi (k := 0) (by omega)).2) hfull
  have hr : ∀ i t, i < js.length → t < sup.length → 0 ≤ fAt fl (i * (sup.length + 1) + (1 + t)) ∧ fAt fl (i * (sup.length + 1) + (1 + t)) ≤ rateAt (jAt js i) t := fun i t hi ht => by
    have := fitQ hf hi (k := 1 + t) (by omega)
    rwa [rowB_1 _ _ _ ht] at this
  refine ⟨fun i t => fAt fl (i * (sup.length + 1) + (1 + t)), fun i t hi ht => (hr i t hi ht).1, fun i t hi ht => ?_, fun i t hi ht hn => ?_, fun i hi => ?_, fun t ht => ?_⟩
  · have h1 := hr i t hi ht
    by_cases x : inJ (jAt js i) t
    · unfold rateAt at h1; rw [pick_pos x] at h1; exact h1.2
    · unfold rateAt at h1; rw [pick_neg x] at h1
      have h2 : fAt fl (i * (sup.length + 1) + (1 + t)) = 0 := by omega
      show fAt fl (i * (sup.length + 1) + (1 + t)) ≤ _
      rw [h2]
      exact (okP_job hok hi).2.2.2.2.2.1
  · have h1 := hr i t hi ht
    unfold rateAt at h1; rw [pick_neg hn] at h1
    show fAt fl (i * (sup.length + 1) + (1 + t)) = 0
    omega
  · have h := hf.kept (1 + sup.length + i : Int) (by omega) (by omega) (by omega) (by omega)
    rw [netQ_job fl hi] at h
    have h2 : fAt fl (i * (sup.length + 1)) = (jAt js i).energy := hall i hi
    show S sup.length (fun t => fAt fl (i * (sup.length + 1) + (1 + t))) = _
    omega
  · have h := hf.kept (1 + t : Int) (by omega) (by omega) (by omega) (by omega)
    rw [netQ_slot fl ht] at h
    have := fitC hf ht
    show S js.length (fun i => fAt fl (i * (sup.length + 1) + (1 + t))) ≤ _
    omega
theorem capQ (side : List Bool) : capac (graphQ js sup) side = S js.length (fun i => pick (crossing side (edA js sup.length i) = true) (jAt js i).energy + S sup.length (fun t => pick (crossing side (edB js sup.length i t) = true) (rateAt (jAt js i) t))) + S sup.length (fun t => pick (crossing side (edC js.length sup.length sup t) = true) (fAt sup t)) := by
  have h := S_graphQ js sup (fun e i => pick (crossing side e = true) e.cap)
  exact h
theorem cutQ_plan {side : List Bool} (hc : IsCut (sup.length + js.length + 2) 0 (sup.length + js.length + 1) side) (hless : capac (graphQ js sup) side < allE js) : roomC js sup (fun i => sAt side (1 + sup.length + i : Int)) (fun t => sAt side (1 + t : Int)) < needC js (fun i => sAt side (1 + sup.length + i : Int)) := by
  rw [capQ, S_add] at hless
  have e1 : S js.length (fun i => pick (crossing side (edA js sup.length i) = true) (jAt js i).energy) = allE js - needC js (fun i => sAt side (1 + sup.length + i : Int)) := by
    unfold allE needC
    rw [← S_sub]
    refine S_congr fun i _ => ?_
    have : crossing side (edA js sup.length i) = !sAt side (1 + sup.length + i : Int) := by
      unfold crossing edA
      dsimp only
      rw [hc.src]
      rfl
    rw [this]
    dsimp only
    by_cases hs : sAt side (1 + sup.length + i : Int) = true
    · rw [pick_neg (by simp [hs]), pick_pos hs]; omega
    · rw [pick_pos (by simp [hs]), pick_neg hs]; omega
  have e2 : S sup.length (fun t => pick (crossing side (edC js.length sup.length sup t) = true) (fAt sup t)) = S sup.length (fun t => pick (sAt side (1 + t : Int) = true) (fAt sup t)) := by
    refine S_congr fun t _ => ?_
    have : crossing side (edC js.length sup.length sup t) = sAt side (1 + t : Int) := by
      unfold crossing edC
      dsimp only
      rw [hc.snk]
      simp
    rw [this]
  have e3 : S js.length (fun i => S sup.length (fun t => pick (crossing side (edB js sup.length i t) = true) (rateAt (jAt js i) t))) = S js.length (fun i => pick (sAt side (1 + sup.length + i : Int) = true) (S sup.length (fun t => pick (inJ (jAt js i) t ∧ sAt side (1 + t : Int) = false) (jAt js i).rate))) := by
    refine S_congr fun i hi => ?_
    rw [S_pick]
    refine S_congr fun t _ => ?_
    unfold crossing edB rateAt pick
    dsimp only
    cases sAt side (1 + sup.length + i : Int) <;> cases sAt side (1 + t : Int) <;> by_cases x : inJ (jAt js i) t <;> simp [x]
  rw [e1, e2, e3] at hless
  unfold roomC
  dsimp only
  omega
/-- What the reference's Most says of the jobs. -/
theorem mostQ_plan (hok : okP js sup = true) {n : Int} (h : IsMost (sup.length + js.length + 2) (graphQ js sup) 0 (sup.length + js.length + 1) n) : n = allE js ↔ Met js sup := by
  obtain ⟨fl, side, hf, hc, e1, e2⟩ := h
  have hle := netQ_all hf
  refine ⟨fun h => flowQ_plan hok hf (by omega), fun ⟨P, hP⟩ => ?_⟩
  rcases Int.lt_or_le n (allE js) with hlt | hge
  · have h1 := cutQ_plan hc (by omega)
    have h2 := not_both hok hP (fun i => sAt side (1 + sup.length + i : Int)) (fun t => sAt side (1 + t : Int))
    omega
  · omega
end
end Go.Proofs.Ytgfcnkfmgpakkaa
