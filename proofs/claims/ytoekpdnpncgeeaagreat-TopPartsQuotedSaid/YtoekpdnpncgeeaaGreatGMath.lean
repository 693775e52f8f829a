/-
Several texts in one: FlowMath, FlowPl.
-/
/-
Plain facts on graphs, flows and cuts: any flow has at most the capacity of any cut, and a flow whose cut is closed under residual steps has just that capacity. No program in sight.
-/
namespace Go.Proofs.YtoekpdnpncgeeaaGreat

structure GEdge where
  frm : Int
  to : Int
  cap : Int
deriving Inhabited

/-- The sum of the first n values. -/
def S : Nat → (Nat → Int) → Int
  | 0, _ => 0
  | n + 1, g => S n g + g n

theorem S_succ (n : Nat) (g : Nat → Int) : S (n + 1) g = S n g + g n := rfl
theorem S_congr {n : Nat} {g h : Nat → Int} (e : ∀ i, i < n → g i = h i) : S n g = S n h := by
  induction n with
  | zero => rfl
  | succ n ih => rw [S_succ, S_succ, ih (fun i hi => e i (by omega)), e n (by omega)]
theorem S_zero (n : Nat) : S n (fun _ => 0) = 0 := by
  induction n with
  | zero => rfl
  | succ n ih => rw [S_succ, ih]; rfl
theorem S_add (n : Nat) (g h : Nat → Int) : S n (fun i => g i + h i) = S n g + S n h := by
  induction n with
  | zero => rfl
  | succ n ih => simp only [S_succ, ih]; omega
theorem S_sub (n : Nat) (g h : Nat → Int) : S n (fun i => g i - h i) = S n g - S n h := by
  induction n with
  | zero => rfl
  | succ n ih => simp only [S_succ, ih]; omega
theorem S_mul (n : Nat) (c : Int) (g : Nat → Int) : S n (fun i => c * g i) = c * S n g := by
  induction n with
  | zero => simp [S]
  | succ n ih => simp only [S_succ, ih, Int.mul_add]
theorem S_le {n : Nat} {g h : Nat → Int} (e : ∀ i, i < n → g i ≤ h i) : S n g ≤ S n h := by
  induction n with
  | zero => exact Int.le_refl _
  | succ n ih => rw [S_succ, S_succ]; have := ih (fun i hi => e i (by omega)); have := e n (by omega); omega
theorem S_nonneg {n : Nat} {g : Nat → Int} (e : ∀ i, i < n → 0 ≤ g i) : 0 ≤ S n g := by
  have := S_le (g := fun _ => 0) e
  rwa [S_zero] at this
theorem S_bound {n : Nat} {g : Nat → Int} {c : Int} (e : ∀ i, i < n → g i ≤ c) : S n g ≤ n * c := by
  induction n with
  | zero => simp [S]
  | succ n ih =>
    rw [S_succ]; have h1 := ih (fun i hi => e i (by omega)); have h2 := e n (by omega)
    have h3 : ((n + 1 : Nat) : Int) * c = n * c + c := by rw [Int.natCast_add, Int.add_mul]; simp
    omega
theorem S_lower {n : Nat} {g : Nat → Int} {c : Int} (e : ∀ i, i < n → c ≤ g i) : n * c ≤ S n g := by
  induction n with
  | zero => simp [S]
  | succ n ih =>
    rw [S_succ]; have h1 := ih (fun i hi => e i (by omega)); have h2 := e n (by omega)
    have h3 : ((n + 1 : Nat) : Int) * c = n * c + c := by rw [Int.natCast_add, Int.add_mul]; simp
    omega
theorem S_swap (n m : Nat) (g : Nat → Nat → Int) : S n (fun i => S m (fun j => g i j)) = S m (fun j => S n (fun i => g i j)) := by
  induction n with
  | zero => simp [S, S_zero]
  | succ n ih => simp only [S_succ, ih, S_add]
/-- A sum in which one place alone counts. -/
theorem S_single {n : Nat} {g : Nat → Int} {k : Nat} (hk : k < n) (e : ∀ i, i < n → i ≠ k → g i = 0) : S n g = g k := by
  induction n with
  | zero => omega
  | succ n ih =>
    rw [S_succ]
    by_cases h : k = n
    · subst h
      rw [S_congr (h := fun _ => 0) (fun i hi => e i (by omega) (by omega)), S_zero]; omega
    · rw [ih (by omega) (fun i hi hne => e i (by omega) hne), e n (by omega) (by omega)]; omega
/-- Two families that differ at one place. -/
theorem S_change {n : Nat} {g h : Nat → Int} {k : Nat} (hk : k < n) (e : ∀ i, i < n → i ≠ k → g i = h i) : S n g = S n h + (g k - h k) := by
  have h1 : S n (fun i => g i - h i) = g k - h k := S_single hk (fun i hi hne => by have := e i hi hne; omega)
  rw [S_sub] at h1
  omega
theorem S_append (n m : Nat) (g : Nat → Int) : S (n + m) g = S n g + S m (fun i => g (n + i)) := by
  induction m with
  | zero => simp [S]
  | succ m ih => rw [← Nat.add_assoc, S_succ, ih, S_succ]; omega

abbrev eAt (es : List GEdge) (i : Nat) : GEdge := es[i]?.getD default
abbrev fAt (fl : List Int) (i : Nat) : Int := fl[i]?.getD 0
abbrev sAt (side : List Bool) (u : Int) : Bool := side[u.toNat]?.getD false

def pick (c : Prop) [Decidable c] (x : Int) : Int := if c then x else 0
theorem pick_pos {c : Prop} [Decidable c] (h : c) (x : Int) : pick c x = x := if_pos h
theorem pick_neg {c : Prop} [Decidable c] (h : ¬ c) (x : Int) : pick c x = 0 := if_neg h

/-- What edge i carries out of node u. -/
def term (es : List GEdge) (fl : List Int) (u : Int) (i : Nat) : Int := pick ((eAt es i).frm = u) (fAt fl i) - pick ((eAt es i).to = u) (fAt fl i)
def net (es : List GEdge) (fl : List Int) (u : Int) : Int := S es.length (term es fl u)
def crossing (side : List Bool) (e : GEdge) : Bool := sAt side e.frm && !sAt side e.to
def capac (es : List GEdge) (side : List Bool) : Int := S es.length (fun i => pick (crossing side (eAt es i) = true) (eAt es i).cap)

def okE (nodes : Int) (e : GEdge) : Bool := decide (0 ≤ e.frm ∧ e.frm < nodes ∧ 0 ≤ e.to ∧ e.to < nodes ∧ 0 ≤ e.cap ∧ e.cap ≤ 1000000)
def okG (nodes : Int) (es : List GEdge) : Bool := decide (1 ≤ nodes ∧ nodes ≤ 64 ∧ es.length ≤ 512) && es.all (okE nodes)
def okEnds (nodes : Int) (es : List GEdge) (s t : Int) : Bool := okG nodes es && decide (0 ≤ s ∧ s < nodes ∧ 0 ≤ t ∧ t < nodes ∧ s ≠ t)

theorem okE_iff {nodes : Int} {e : GEdge} : okE nodes e = true ↔ (0 ≤ e.frm ∧ e.frm < nodes ∧ 0 ≤ e.to ∧ e.to < nodes ∧ 0 ≤ e.cap ∧ e.cap ≤ 1000000) := by simp [okE]
theorem okG_iff {nodes : Int} {es : List GEdge} : okG nodes es = true ↔ ((1 ≤ nodes ∧ nodes ≤ 64 ∧ es.length ≤ 512) ∧ ∀ e, e ∈ es → okE nodes e = true) := by simp [okG]
theorem okG_at {nodes : Int} {es : List GEdge} (h : okG nodes es = true) {i : Nat} (hi : i < es.length) :
    0 ≤ (eAt es i).frm ∧ (eAt es i).frm < nodes ∧ 0 ≤ (eAt es i).to ∧ (eAt es i).to < nodes ∧ 0 ≤ (eAt es i).cap ∧ (eAt es i).cap ≤ 1000000 := by
  have := (okG_iff.1 h).2 (es[i]) (List.getElem_mem hi)
  simpa [eAt, List.getElem?_eq_getElem hi] using okE_iff.1 this
theorem okEnds_iff {nodes : Int} {es : List GEdge} {s t : Int} : okEnds nodes es s t = true ↔ (okG nodes es = true ∧ 0 ≤ s ∧ s < nodes ∧ 0 ≤ t ∧ t < nodes ∧ s ≠ t) := by simp [okEnds]

structure IsFlow (nodes : Int) (es : List GEdge) (s t : Int) (fl : List Int) : Prop where
  len : fl.length = es.length
  fits : ∀ i, i < es.length → 0 ≤ fAt fl i ∧ fAt fl i ≤ (eAt es i).cap
  kept : ∀ u, 0 ≤ u → u < nodes → u ≠ s → u ≠ t → net es fl u = 0

structure IsCut (nodes : Int) (s t : Int) (side : List Bool) : Prop where
  len : (side.length : Int) = nodes
  src : sAt side s = true
  snk : sAt side t = false

/-- Over the nodes of a cut the net amounts add up to what crosses it. -/
theorem net_sum {nodes : Int} {es : List GEdge} (h : okG nodes es = true) (fl : List Int) (side : List Bool) :
    S nodes.toNat (fun u => pick (sAt side u = true) (net es fl u)) = S es.length (fun i => (pick (sAt side (eAt es i).frm = true) (fAt fl i) - pick (sAt side (eAt es i).to = true) (fAt fl i))) := by
  have e1 : S nodes.toNat (fun u => pick (sAt side u = true) (net es fl u)) = S nodes.toNat (fun u => S es.length (fun i => pick (sAt side u = true) (term es fl u i))) := by
    refine S_congr fun u _ => ?_
    by_cases hs : sAt side u = true
    · simp only [pick_pos hs]; rfl
    · simp only [pick_neg hs]; exact (S_zero _).symm
  rw [e1, S_swap]
  refine S_congr fun i hi => ?_
  obtain ⟨h1, h2, h3, h4, _, _⟩ := okG_at h hi
  have e2 : ∀ u : Nat, pick (sAt side u = true) (term es fl u i) = pick (sAt side u = true ∧ (eAt es i).frm = u) (fAt fl i) - pick (sAt side u = true ∧ (eAt es i).to = u) (fAt fl i) := by
    intro u
    by_cases hs : sAt side u = true
    · rw [pick_pos hs]; simp only [term, pick, hs, true_and]
    · rw [pick_neg hs, pick_neg (fun x => hs x.1), pick_neg (fun x => hs x.1)]; rfl
  rw [S_congr (fun u _ => e2 u), S_sub]
  have key : ∀ v : Int, 0 ≤ v → v < nodes → S nodes.toNat (fun u => pick (sAt side u = true ∧ v = u) (fAt fl i)) = pick (sAt side v = true) (fAt fl i) := by
    intro v hv0 hv1
    rw [S_single (k := v.toNat) (by omega) (fun j _ hne => pick_neg (fun x => hne (by omega)) _)]
    have hv : ((v.toNat : Nat) : Int) = v := by omega
    rw [hv]
    by_cases hs : sAt side v = true
    · rw [pick_pos hs, pick_pos ⟨hs, rfl⟩]
    · rw [pick_neg hs, pick_neg (fun x => hs x.1)]
  rw [key _ h1 h2, key _ h3 h4]

theorem net_source {nodes : Int} {es : List GEdge} {s t : Int} {fl : List Int} {side : List Bool} (h : okEnds nodes es s t = true) (hf : IsFlow nodes es s t fl) (hc : IsCut nodes s t side) :
    net es fl s = S es.length (fun i => (pick (sAt side (eAt es i).frm = true) (fAt fl i) - pick (sAt side (eAt es i).to = true) (fAt fl i))) := by
  obtain ⟨hg, h0, h1, h2, h3, hne⟩ := okEnds_iff.1 h
  rw [← net_sum hg fl side]
  have hs : ((s.toNat : Nat) : Int) = s := by omega
  rw [S_single (k := s.toNat) (by omega)]
  · show _ = pick (sAt side ((s.toNat : Nat) : Int) = true) (net es fl ((s.toNat : Nat) : Int))
    rw [hs, pick_pos hc.src]
  · intro u hu hus
    by_cases hd : sAt side u = true
    · rw [pick_pos hd]
      refine hf.kept u (by omega) (by omega) (by omega) ?_
      intro e
      have := hc.snk
      rw [← e, hd] at this
      cases this
    · rw [pick_neg hd]

/-- Any flow has at most the capacity of any cut. -/
theorem weak {nodes : Int} {es : List GEdge} {s t : Int} {fl : List Int} {side : List Bool} (h : okEnds nodes es s t = true) (hf : IsFlow nodes es s t fl) (hc : IsCut nodes s t side) : net es fl s ≤ capac es side := by
  rw [net_source h hf hc, capac]
  refine S_le fun i hi => ?_
  obtain ⟨a, b⟩ := hf.fits i hi
  by_cases h1 : sAt side (eAt es i).frm = true <;> by_cases h2 : sAt side (eAt es i).to = true
  all_goals simp [pick, crossing, h1, h2]
  all_goals omega

/-- A flow and a cut that no residual step leaves: they have the same amount. -/
theorem tight {nodes : Int} {es : List GEdge} {s t : Int} {fl : List Int} {side : List Bool} (h : okEnds nodes es s t = true) (hf : IsFlow nodes es s t fl) (hc : IsCut nodes s t side)
    (hr : ∀ i, i < es.length → (sAt side (eAt es i).frm = true → fAt fl i < (eAt es i).cap → sAt side (eAt es i).to = true) ∧ (sAt side (eAt es i).to = true → 0 < fAt fl i → sAt side (eAt es i).frm = true)) :
    net es fl s = capac es side := by
  rw [net_source h hf hc, capac]
  refine S_congr fun i hi => ?_
  obtain ⟨a, b⟩ := hf.fits i hi
  obtain ⟨r1, r2⟩ := hr i hi
  by_cases h1 : sAt side (eAt es i).frm = true <;> by_cases h2 : sAt side (eAt es i).to = true
  · simp [pick, crossing, h1, h2]
  · simp [pick, crossing, h1, h2]
    have := mt (r1 h1) h2
    omega
  · simp [pick, crossing, h1, h2]
    have := mt (r2 h2) h1
    omega
  · simp [pick, crossing, h1, h2]

/-- n is the greatest amount: a flow and a cut prove it. -/
def IsMost (nodes : Int) (es : List GEdge) (s t n : Int) : Prop := ∃ fl side, IsFlow nodes es s t fl ∧ IsCut nodes s t side ∧ net es fl s = n ∧ capac es side = n

theorem IsMost.eq {nodes : Int} {es : List GEdge} {s t n m : Int} (h : okEnds nodes es s t = true) (hn : IsMost nodes es s t n) (hm : IsMost nodes es s t m) : n = m := by
  obtain ⟨f, c, hf, hc, e1, e2⟩ := hn
  obtain ⟨f', c', hf', hc', e1', e2'⟩ := hm
  have a := weak h hf hc'
  have b := weak h hf' hc
  omega
theorem IsMost.ge {nodes : Int} {es : List GEdge} {s t n : Int} {fl : List Int} (h : okEnds nodes es s t = true) (hn : IsMost nodes es s t n) (hf : IsFlow nodes es s t fl) : net es fl s ≤ n := by
  obtain ⟨f, c, _, hc, _, e2⟩ := hn
  have a := weak h hf hc
  omega
theorem IsMost.le {nodes : Int} {es : List GEdge} {s t n : Int} {side : List Bool} (h : okEnds nodes es s t = true) (hn : IsMost nodes es s t n) (hc : IsCut nodes s t side) : n ≤ capac es side := by
  obtain ⟨f, c, hf, _, e1, _⟩ := hn
  have a := weak h hf hc
  omega

/-! ## One step of an augmentation -/

theorem fAt_set (fl : List Int) (k i : Nat) (x : Int) (hk : k < fl.length) : fAt (fl.set k x) i = if i = k then x else fAt fl i := by
  unfold fAt
  rw [List.getElem?_set]
  by_cases h : k = i
  · subst h; simp [hk]
  · have h' : ¬ i = k := fun e => h e.symm
    simp [h, h']

theorem net_set {es : List GEdge} {fl : List Int} {k : Nat} (hk : k < es.length) (hl : fl.length = es.length) (x u : Int) :
    net es (fl.set k x) u = net es fl u + (pick ((eAt es k).frm = u) (x - fAt fl k) - pick ((eAt es k).to = u) (x - fAt fl k)) := by
  unfold net
  rw [S_change hk (h := term es fl u)]
  · congr 1
    unfold term
    rw [fAt_set _ _ _ _ (by omega), if_pos rfl]
    unfold pick
    split <;> split <;> omega
  · intro i _ hne
    unfold term
    rw [fAt_set _ _ _ _ (by omega), if_neg hne]

theorem net_le_bound {nodes : Int} {es : List GEdge} {s t : Int} {fl : List Int} (h : okG nodes es = true) (hf : IsFlow nodes es s t fl) (u : Int) : -512000000 ≤ net es fl u ∧ net es fl u ≤ 512000000 := by
  have hl := (okG_iff.1 h).1.2.2
  have a : ∀ i, i < es.length → term es fl u i ≤ 1000000 ∧ -1000000 ≤ term es fl u i := by
    intro i hi
    obtain ⟨a, b⟩ := hf.fits i hi
    obtain ⟨_, _, _, _, c, d⟩ := okG_at h hi
    unfold term pick
    split <;> split <;> omega
  have h1 := S_bound (fun i hi => (a i hi).1)
  have h2 := S_lower (fun i hi => (a i hi).2)
  unfold net
  omega

end Go.Proofs.YtoekpdnpncgeeaaGreat
/-
Plain: the greatest amount of a graph that was changed: edges in another order, turned round, wider, scaled, more edges.
-/
namespace Go.Proofs.YtoekpdnpncgeeaaGreat

theorem eAt_lt {es : List GEdge} {i : Nat} (h : i < es.length) : eAt es i = es[i] := by simp [eAt, List.getElem?_eq_getElem h]
theorem eAt_mem {es : List GEdge} {i : Nat} (h : i < es.length) : eAt es i ∈ es := by rw [eAt_lt h]; exact List.getElem_mem h
theorem okG_of_at {nodes : Int} {es : List GEdge} (h1 : 1 ≤ nodes ∧ nodes ≤ 64 ∧ es.length ≤ 512) (h : ∀ i, i < es.length → okE nodes (eAt es i) = true) : okG nodes es = true := by
  refine okG_iff.2 ⟨h1, fun e he => ?_⟩
  obtain ⟨i, hi, rfl⟩ := List.getElem_of_mem he
  have := h i hi
  rwa [eAt_lt hi] at this
theorem okE_at {nodes : Int} {es : List GEdge} (h : okG nodes es = true) {i : Nat} (hi : i < es.length) : okE nodes (eAt es i) = true := (okG_iff.1 h).2 _ (eAt_mem hi)

/-- The rows of a list made place by place. -/
def mk {α : Type} (n : Nat) (f : Nat → α) : List α := (List.range n).map f
theorem mk_len {α : Type} (n : Nat) (f : Nat → α) : (mk n f).length = n := by simp [mk]
theorem mk_at {α : Type} {n : Nat} (f : Nat → α) {i : Nat} (h : i < n) : (mk n f)[i]? = some (f i) := by
  simp [mk, List.getElem?_range h]
theorem mk_succ {α : Type} (n : Nat) (f : Nat → α) : mk (n + 1) f = mk n f ++ [f n] := by simp [mk, List.range_succ]
theorem mk_e {n : Nat} (f : Nat → GEdge) {i : Nat} (h : i < n) : eAt (mk n f) i = f i := by unfold eAt; rw [mk_at f h]; rfl
theorem mk_f {n : Nat} (f : Nat → Int) {i : Nat} (h : i < n) : fAt (mk n f) i = f i := by unfold fAt; rw [mk_at f h]; rfl

/-! ## Another order -/
theorem S_rot (n k : Nat) (hk : k < n) (g : Nat → Int) : S n (fun i => g ((i + k) % n)) = S n g := by
  have e1 : n = (n - k) + k := by omega
  have e2 : n = k + (n - k) := by omega
  have a : S n (fun i => g ((i + k) % n)) = S (n - k) (fun i => g (k + i)) + S k g := by
    have h := S_append (n - k) k (fun i => g ((i + k) % n))
    rw [← e1] at h
    rw [h, S_congr (n := n - k) (h := fun i => g (k + i)) (fun i hi => ?_), S_congr (n := k) (h := g) (fun i hi => ?_)]
    · have : (n - k + i + k) % n = i := by rw [show n - k + i + k = i + n by omega, Nat.add_mod_right, Nat.mod_eq_of_lt (by omega)]
      rw [this]
    · rw [Nat.mod_eq_of_lt (by omega), Nat.add_comm]
  have b : S n g = S k g + S (n - k) (fun i => g (k + i)) := by
    have h := S_append k (n - k) g
    rwa [← e2] at h
  omega
def turn (es : List GEdge) (k : Nat) : List GEdge := mk es.length (fun i => eAt es ((i + k) % es.length))
theorem turn_len (es : List GEdge) (k : Nat) : (turn es k).length = es.length := mk_len _ _
theorem turn_ok {nodes : Int} {es : List GEdge} (k : Nat) (h : okG nodes es = true) : okG nodes (turn es k) = true := by
  refine okG_of_at (by rw [turn_len]; exact (okG_iff.1 h).1) fun i hi => ?_
  rw [turn_len] at hi
  unfold turn
  rw [mk_e _ hi]
  exact okE_at h (Nat.mod_lt _ (by omega))
theorem turn_most {nodes : Int} {es : List GEdge} {s t n : Int} {k : Nat} (hk : es.length = 0 ∨ k < es.length) (h : IsMost nodes es s t n) : IsMost nodes (turn es k) s t n := by
  obtain ⟨fl, side, hf, hc, e1, e2⟩ := h
  have hnet : ∀ u, net (turn es k) (mk es.length (fun i => fAt fl ((i + k) % es.length))) u = net es fl u := by
    intro u
    unfold net
    rw [turn_len]
    rcases hk with h0 | hk
    · rw [h0]; rfl
    · rw [← S_rot es.length k hk (term es fl u)]
      refine S_congr fun i hi => ?_
      unfold term turn
      rw [mk_e _ hi, mk_f _ hi]
  refine ⟨_, side, ⟨?_, ?_, ?_⟩, hc, (hnet s).trans e1, ?_⟩
  · rw [mk_len, turn_len]
  · intro i hi
    rw [turn_len] at hi
    rw [mk_f _ hi]
    unfold turn
    rw [mk_e _ hi]
    exact hf.fits _ (Nat.mod_lt _ (by omega))
  · intro u h0 h1 h2 h3
    rw [hnet]
    exact hf.kept u h0 h1 h2 h3
  · rw [← e2]
    unfold capac
    rw [turn_len]
    rcases hk with h0 | hk
    · rw [h0]; rfl
    · rw [← S_rot es.length k hk (fun i => pick (crossing side (eAt es i) = true) (eAt es i).cap)]
      refine S_congr fun i hi => ?_
      unfold turn
      rw [mk_e _ hi]

/-! ## Turned round -/
def flipE (e : GEdge) : GEdge := ⟨e.to, e.frm, e.cap⟩
def flipG (es : List GEdge) : List GEdge := es.map flipE
theorem flip_len (es : List GEdge) : (flipG es).length = es.length := by simp [flipG]
theorem flip_e {es : List GEdge} {i : Nat} (h : i < es.length) : eAt (flipG es) i = flipE (eAt es i) := by
  rw [eAt_lt h, eAt_lt (by rw [flip_len]; exact h)]
  simp [flipG]
theorem flip_ok {nodes : Int} {es : List GEdge} (h : okG nodes es = true) : okG nodes (flipG es) = true := by
  refine okG_of_at (by rw [flip_len]; exact (okG_iff.1 h).1) fun i hi => ?_
  rw [flip_len] at hi
  rw [flip_e hi]
  obtain ⟨a, b, c, d, e, f⟩ := okG_at h hi
  exact okE_iff.2 ⟨c, d, a, b, e, f⟩
theorem net_both {nodes : Int} {es : List GEdge} {s t : Int} {fl : List Int} (h : okEnds nodes es s t = true) (hf : IsFlow nodes es s t fl) : net es fl t = - net es fl s := by
  obtain ⟨hg, h0, h1, h2, h3, hne⟩ := okEnds_iff.1 h
  have hall : ∀ u : Int, 0 ≤ u → u < nodes → sAt (List.replicate nodes.toNat true) u = true := by
    intro u a b
    unfold sAt
    rw [List.getElem?_replicate, if_pos (by omega)]
    rfl
  have e := net_sum hg fl (List.replicate nodes.toNat true)
  have e0 : S es.length (fun i => (pick (sAt (List.replicate nodes.toNat true) (eAt es i).frm = true) (fAt fl i) - pick (sAt (List.replicate nodes.toNat true) (eAt es i).to = true) (fAt fl i))) = 0 := by
    rw [S_congr (h := fun _ => 0) (fun i hi => ?_), S_zero]
    obtain ⟨a, b, c, d, _, _⟩ := okG_at hg hi
    rw [pick_pos (hall _ a b), pick_pos (hall _ c d)]
    omega
  rw [e0] at e
  have e2 : S nodes.toNat (fun u => pick (sAt (List.replicate nodes.toNat true) u = true) (net es fl u)) = S nodes.toNat (fun u => pick ((u : Int) = s) (net es fl s) + pick ((u : Int) = t) (net es fl t)) := by
    refine S_congr fun u hu => ?_
    rw [pick_pos (hall u (by omega) (by omega))]
    by_cases hs : (u : Int) = s
    · rw [pick_pos hs, pick_neg (by omega), hs]; omega
    · by_cases ht : (u : Int) = t
      · rw [pick_neg hs, pick_pos ht, ht]; omega
      · rw [pick_neg hs, pick_neg ht, hf.kept u (by omega) (by omega) hs ht]; rfl
  rw [e2, S_add, S_single (k := s.toNat) (by omega) (fun j _ hj => pick_neg (by omega) _), S_single (k := t.toNat) (by omega) (fun j _ hj => pick_neg (by omega) _), pick_pos (by omega), pick_pos (by omega)] at e
  omega
theorem flip_most {nodes : Int} {es : List GEdge} {s t n : Int} (h : okEnds nodes es s t = true) (hm : IsMost nodes es s t n) : IsMost nodes (flipG es) t s n := by
  obtain ⟨fl, side, hf, hc, e1, e2⟩ := hm
  obtain ⟨hg, h0, h1, h2, h3, hne⟩ := okEnds_iff.1 h
  have hnet : ∀ u, net (flipG es) fl u = - net es fl u := by
    intro u
    have e : S es.length (fun i => (-1) * term es fl u i) = (-1) * net es fl u := S_mul _ _ _
    rw [show - net es fl u = (-1) * net es fl u by omega, ← e]
    unfold net
    rw [flip_len]
    refine S_congr fun i hi => ?_
    unfold term
    rw [flip_e hi]
    unfold flipE
    dsimp only
    omega
  have hlen := hc.len
  have hnot : ∀ u : Int, 0 ≤ u → u < nodes → sAt (side.map (!·)) u = !sAt side u := by
    intro u a b
    unfold sAt
    rw [List.getElem?_map, List.getElem?_eq_getElem (by omega)]
    rfl
  refine ⟨fl, side.map (!·), ⟨?_, ?_, ?_⟩, ⟨?_, ?_, ?_⟩, ?_, ?_⟩
  · rw [flip_len]; exact hf.len
  · intro i hi
    rw [flip_len] at hi
    rw [flip_e hi]
    exact hf.fits i hi
  · intro u a b c d
    rw [hnet, hf.kept u a b d c]
    rfl
  · rw [List.length_map]; exact hlen
  · rw [hnot t h2 h3, hc.snk]; rfl
  · rw [hnot s h0 h1, hc.src]; rfl
  · rw [hnet, net_both h hf]; omega
  · rw [← e2]
    unfold capac
    rw [flip_len]
    refine S_congr fun i hi => ?_
    obtain ⟨a, b, c, d, _, _⟩ := okG_at hg hi
    rw [flip_e hi]
    unfold crossing flipE
    dsimp only
    rw [hnot _ a b, hnot _ c d]
    cases sAt side (eAt es i).frm <;> cases sAt side (eAt es i).to <;> rfl

/-! ## Wider -/
def wide (es : List GEdge) (k : Nat) (c : Int) : List GEdge := es.set k ⟨(eAt es k).frm, (eAt es k).to, c⟩
theorem wide_len (es : List GEdge) (k : Nat) (c : Int) : (wide es k c).length = es.length := by simp [wide]
theorem wide_e {es : List GEdge} {k : Nat} {c : Int} (hk : k < es.length) (i : Nat) : eAt (wide es k c) i = if i = k then ⟨(eAt es k).frm, (eAt es k).to, c⟩ else eAt es i := by
  unfold eAt wide
  rw [List.getElem?_set]
  by_cases h : k = i
  · subst h; rw [if_pos rfl, if_pos hk, if_pos rfl]; rfl
  · have h' : ¬ i = k := fun e => h e.symm
    simp [h, h']
theorem wide_ok {nodes : Int} {es : List GEdge} {k : Nat} {c : Int} (hk : k < es.length) (c0 : 0 ≤ c) (c1 : c ≤ 1000000) (h : okG nodes es = true) : okG nodes (wide es k c) = true := by
  refine okG_of_at (by rw [wide_len]; exact (okG_iff.1 h).1) fun i hi => ?_
  rw [wide_len] at hi
  rw [wide_e hk]
  split
  · obtain ⟨a, b, c', d, e, f⟩ := okG_at h hk
    exact okE_iff.2 ⟨a, b, c', d, c0, c1⟩
  · exact okE_at h hi
theorem wide_most {nodes : Int} {es : List GEdge} {s t n m : Int} {k : Nat} {c more : Int} (hk : k < es.length) (h : okEnds nodes es s t = true) (c0 : (eAt es k).cap ≤ c) (c1 : c ≤ (eAt es k).cap + more) (c2 : c ≤ 1000000)
    (hn : IsMost nodes es s t n) (hm : IsMost nodes (wide es k c) s t m) : n ≤ m ∧ m ≤ n + more := by
  obtain ⟨hg, h0, h1, h2, h3, hne⟩ := okEnds_iff.1 h
  have hE : okEnds nodes (wide es k c) s t = true := okEnds_iff.2 ⟨wide_ok hk (by have := (okG_at hg hk).2.2.2.2.1; omega) c2 hg, h0, h1, h2, h3, hne⟩
  obtain ⟨fl, side, hf, hc, e1, e2⟩ := hn
  have hnet : ∀ u, net (wide es k c) fl u = net es fl u := by
    intro u
    unfold net
    rw [wide_len]
    refine S_congr fun i hi => ?_
    unfold term
    rw [wide_e hk]
    split
    · rename_i e; subst e; rfl
    · rfl
  constructor
  · have := hm.ge hE (fl := fl) ⟨by rw [wide_len]; exact hf.len, fun i hi => ?_, fun u a b c d => by rw [hnet]; exact hf.kept u a b c d⟩
    · rw [hnet, e1] at this; exact this
    · rw [wide_len] at hi
      have := hf.fits i hi
      rw [wide_e hk]
      split
      · rename_i e; subst e; exact ⟨this.1, by dsimp only; omega⟩
      · exact this
  · have := hm.le hE hc
    refine Int.le_trans this ?_
    rw [← e2]
    unfold capac
    rw [wide_len, S_change hk (h := fun i => pick (crossing side (eAt es i) = true) (eAt es i).cap) (fun i _ hne => by rw [wide_e hk, if_neg hne])]
    have hx : eAt (wide es k c) k = ⟨(eAt es k).frm, (eAt es k).to, c⟩ := by rw [wide_e hk, if_pos rfl]
    rw [hx]
    unfold crossing
    dsimp only
    cases hcr : (sAt side (eAt es k).frm && !sAt side (eAt es k).to)
    · rw [pick_neg (by simp), pick_neg (by simp)]; omega
    · rw [pick_pos rfl, pick_pos rfl]; omega

/-! ## Scaled -/
def scaleE (x : Int) (e : GEdge) : GEdge := ⟨e.frm, e.to, x * e.cap⟩
def scaleG (x : Int) (es : List GEdge) : List GEdge := es.map (scaleE x)
theorem scale_len (x : Int) (es : List GEdge) : (scaleG x es).length = es.length := by simp [scaleG]
theorem scale_e {x : Int} {es : List GEdge} {i : Nat} (h : i < es.length) : eAt (scaleG x es) i = scaleE x (eAt es i) := by
  rw [eAt_lt h, eAt_lt (by rw [scale_len]; exact h)]
  simp [scaleG]
theorem scale_most {nodes : Int} {es : List GEdge} {s t n x : Int} (hx : 0 ≤ x) (hm : IsMost nodes es s t n) : IsMost nodes (scaleG x es) s t (x * n) := by
  obtain ⟨fl, side, hf, hc, e1, e2⟩ := hm
  have hl := hf.len
  have hfa : ∀ i, i < es.length → fAt (fl.map (x * ·)) i = x * fAt fl i := by
    intro i hi
    unfold fAt
    rw [List.getElem?_map, List.getElem?_eq_getElem (by omega)]
    rfl
  have hnet : ∀ u, net (scaleG x es) (fl.map (x * ·)) u = x * net es fl u := by
    intro u
    have e : S es.length (fun i => x * term es fl u i) = x * net es fl u := S_mul _ _ _
    rw [← e]
    unfold net
    rw [scale_len]
    refine S_congr fun i hi => ?_
    unfold term
    rw [scale_e hi, hfa i hi]
    unfold scaleE pick
    dsimp only
    rw [Int.mul_sub]
    split <;> split <;> simp
  refine ⟨_, side, ⟨?_, ?_, ?_⟩, hc, (hnet s).trans (by rw [e1]), ?_⟩
  · rw [scale_len, List.length_map]; exact hl
  · intro i hi
    rw [scale_len] at hi
    rw [scale_e hi, hfa i hi]
    obtain ⟨a, b⟩ := hf.fits i hi
    exact ⟨Int.mul_nonneg hx a, Int.mul_le_mul_of_nonneg_left b hx⟩
  · intro u a b c d
    rw [hnet, hf.kept u a b c d]
    simp
  · have e : S es.length (fun i => x * pick (crossing side (eAt es i) = true) (eAt es i).cap) = x * capac es side := S_mul _ _ _
    rw [← e2, ← e]
    unfold capac
    rw [scale_len]
    refine S_congr fun i hi => ?_
    rw [scale_e hi]
    unfold scaleE crossing pick
    dsimp only
    split <;> simp

/-! ## More edges -/
theorem app_e1 {es ys : List GEdge} {i : Nat} (h : i < es.length) : eAt (es ++ ys) i = eAt es i := by unfold eAt; rw [List.getElem?_append_left h]
theorem app_f1 {fl gl : List Int} {i : Nat} (h : i < fl.length) : fAt (fl ++ gl) i = fAt fl i := by unfold fAt; rw [List.getElem?_append_left h]
theorem app_e2 {es ys : List GEdge} {j : Nat} : eAt (es ++ ys) (es.length + j) = eAt ys j := by unfold eAt; rw [List.getElem?_append_right (by omega), Nat.add_sub_cancel_left]
theorem app_f2 {fl gl : List Int} {n j : Nat} (h : fl.length = n) : fAt (fl ++ gl) (n + j) = fAt gl j := by subst h; unfold fAt; rw [List.getElem?_append_right (by omega), Nat.add_sub_cancel_left]
theorem net_app {es ys : List GEdge} {fl gl : List Int} (h : fl.length = es.length) (u : Int) : net (es ++ ys) (fl ++ gl) u = net es fl u + net ys gl u := by
  unfold net
  rw [List.length_append, S_append]
  congr 1
  · refine S_congr fun i hi => ?_
    unfold term
    rw [app_e1 hi, app_f1 (by omega)]
  · refine S_congr fun i _ => ?_
    unfold term
    rw [app_e2, app_f2 h]
theorem capac_app (es ys : List GEdge) (side : List Bool) : capac (es ++ ys) side = capac es side + capac ys side := by
  unfold capac
  rw [List.length_append, S_append]
  congr 1
  · refine S_congr fun i hi => ?_
    rw [app_e1 hi]
  · refine S_congr fun i _ => ?_
    rw [app_e2]
theorem app_ok {nodes : Int} {es ys : List GEdge} (h : okG nodes es = true) (hl : es.length + ys.length ≤ 512) (hy : ∀ e, e ∈ ys → okE nodes e = true) : okG nodes (es ++ ys) = true := by
  obtain ⟨⟨a, b, _⟩, c⟩ := okG_iff.1 h
  refine okG_iff.2 ⟨⟨a, b, by rw [List.length_append]; exact hl⟩, fun e he => ?_⟩
  rcases List.mem_append.1 he with h | h
  · exact c e h
  · exact hy e h
theorem one_most {nodes : Int} {es : List GEdge} {s t n r : Int} (hst : s ≠ t) (hr : 0 ≤ r) (hm : IsMost nodes es s t n) : IsMost nodes (es ++ [⟨s, t, r⟩]) s t (n + r) := by
  obtain ⟨fl, side, hf, hc, e1, e2⟩ := hm
  have hl := hf.len
  refine ⟨fl ++ [r], side, ⟨?_, ?_, ?_⟩, hc, ?_, ?_⟩
  · simp [hl]
  · intro i hi
    by_cases h : i < es.length
    · rw [app_e1 h, app_f1 (by omega)]; exact hf.fits i h
    · have : i = es.length + 0 := by simp at hi; omega
      subst this
      rw [app_e2, app_f2 hl]
      exact ⟨hr, Int.le_refl _⟩
  · intro u a b c d
    rw [net_app hl, hf.kept u a b c d]
    have h1 : ¬ s = u := fun e => c e.symm
    have h2 : ¬ t = u := fun e => d e.symm
    simp [net, S, term, pick, eAt, h1, h2]
  · rw [net_app hl, e1]
    have h2 : ¬ t = s := fun e => hst e.symm
    simp [net, S, term, pick, eAt, fAt, h2]
  · rw [capac_app, e2]
    simp [capac, S, pick, eAt, crossing, hc.src, hc.snk]
theorem idle_most {nodes : Int} {es : List GEdge} {s t n r a b : Int} (hr : 0 ≤ r) (hm : IsMost nodes es s t n) : IsMost nodes (es ++ [⟨a, s, r⟩, ⟨t, b, r⟩]) s t n := by
  obtain ⟨fl, side, hf, hc, e1, e2⟩ := hm
  have hl := hf.len
  have hz : ∀ u, net [⟨a, s, r⟩, ⟨t, b, r⟩] [0, 0] u = 0 := by
    intro u
    simp [net, S, term, pick, eAt, fAt]
  refine ⟨fl ++ [0, 0], side, ⟨?_, ?_, ?_⟩, hc, ?_, ?_⟩
  · simp [hl]
  · intro i hi
    by_cases h : i < es.length
    · rw [app_e1 h, app_f1 (by omega)]; exact hf.fits i h
    · have : i = es.length + 0 ∨ i = es.length + 1 := by simp at hi; omega
      rcases this with e | e
      all_goals
        subst e
        rw [app_e2, app_f2 hl]
        exact ⟨Int.le_refl _, hr⟩
  · intro u a b c d
    rw [net_app hl, hf.kept u a b c d, hz]
    rfl
  · rw [net_app hl, e1, hz]; omega
  · rw [capac_app, e2]
    simp [capac, S, pick, eAt, crossing, hc.src, hc.snk]
end Go.Proofs.YtoekpdnpncgeeaaGreat
