/-
Plain: the loads. No program in sight.
-/
import Derived.Test.YtjlfnhfiiailgaaCTreeE
namespace Go.Proofs.Ytjlfnhfiiailgaa
set_option linter.unusedVariables false
set_option linter.unusedSimpArgs false
def fI (xs : List Int) (i : Nat) : Int := xs[i]?.getD 0
def phOf (s : GSite) (i : Nat) : Int := (s.chgs[i]?.map GChg.ph).getD 0
/-- A charger is on a conductor, on a phase. -/
def onB (s : GSite) (c k p : Nat) : Bool := bitP (phOf s c) p && decide (k ∈ pth s.cons (placeOf s c : Nat))
/-- The load of the first m chargers, on the cell of conductor j / 3, phase j % 3. -/
def loadS (s : GSite) (am : Nat → Int) (m j : Nat) : Int := S m (fun c => pick (onB s c (j / 3) (j % 3) = true) (am c))
def loadM (s : GSite) (am : Nat → Int) (m : Nat) (pre : List Nat) (j : Nat) : Int := loadS s am m j + pick (bitP (phOf s m) (j % 3) = true) (((pre.count (j / 3) : Nat) : Int) * am m)
theorem loadS_zero (s : GSite) (am : Nat → Int) (j : Nat) : loadS s am 0 j = 0 := rfl
theorem loadM_nil (s : GSite) (am : Nat → Int) (m j : Nat) : loadM s am m [] j = loadS s am m j := by
  unfold loadM pick
  simp
theorem loadM_all (s : GSite) (am : Nat → Int) (m j : Nat) (hn : (pth s.cons (placeOf s m : Nat)).Nodup) : loadM s am m (pth s.cons (placeOf s m : Nat)) j = loadS s am (m + 1) j := by
  unfold loadM loadS
  rw [S_succ, hn.count]
  congr 1
  unfold onB pick
  by_cases h1 : bitP (phOf s m) (j % 3) = true
  · by_cases h2 : j / 3 ∈ pth s.cons (placeOf s m : Nat)
    · simp [h1, h2]
    · simp [h1, h2]
  · simp [h1]
theorem loadM_step (s : GSite) (am : Nat → Int) (m : Nat) (pre : List Nat) (k : Nat) (j : Nat) : addF (loadM s am m pre) k (phOf s m) (am m) 3 j = loadM s am m (pre ++ [k]) j := by
  unfold addF
  by_cases c : k * 3 ≤ j ∧ j < k * 3 + 3 ∧ bitP (phOf s m) (j - k * 3) = true
  · rw [if_pos c]
    have e1 : j / 3 = k := by omega
    have e2 : j - k * 3 = j % 3 := by omega
    have hb := c.2.2
    rw [e2] at hb
    unfold loadM
    rw [hb, e1, pick_pos rfl, pick_pos rfl, List.count_append, List.count_singleton_self, Int.natCast_add, Int.add_mul]
    simp
    omega
  · rw [if_neg c]
    unfold loadM
    congr 1
    by_cases e1 : j / 3 = k
    · have e2 : j - k * 3 = j % 3 := by omega
      rw [e2] at c
      have hb : bitP (phOf s m) (j % 3) = false := by
        cases h : bitP (phOf s m) (j % 3)
        · rfl
        · exact absurd ⟨by omega, by omega, h⟩ c
      rw [hb, pick_neg (by simp), pick_neg (by simp)]
    · have e : List.count (j / 3) [k] = 0 := by
        rw [List.count_eq_zero]
        simpa using e1
      rw [List.count_append, e, Nat.add_zero]
theorem loadS_bd {s : GSite} {am : Nat → Int} {m : Nat} (h : ∀ c, c < m → 0 ≤ am c ∧ am c ≤ 80) (j : Nat) : 0 ≤ loadS s am m j ∧ loadS s am m j ≤ m * 80 := by
  unfold loadS
  constructor
  · refine S_nonneg (fun c hc => ?_)
    have := h c hc
    unfold pick
    split <;> omega
  · refine S_bound (fun c hc => ?_)
    have := h c hc
    unfold pick
    split <;> omega
theorem loadM_bd {s : GSite} {am : Nat → Int} {m : Nat} (h : ∀ c, c < m + 1 → 0 ≤ am c ∧ am c ≤ 80) (pre : List Nat) (j : Nat) : 0 ≤ loadM s am m pre j ∧ loadM s am m pre j ≤ m * 80 + pre.length * 80 := by
  have h1 := loadS_bd (s := s) (am := am) (m := m) (fun c hc => h c (by omega)) j
  have h2 := h m (by omega)
  have h3 : pre.count (j / 3) ≤ pre.length := List.count_le_length
  have h4 : 0 ≤ ((pre.count (j / 3) : Nat) : Int) * am m := Int.mul_nonneg (by omega) h2.1
  have h5 : ((pre.count (j / 3) : Nat) : Int) * am m ≤ pre.length * 80 := by
    have a1 : ((pre.count (j / 3) : Nat) : Int) * am m ≤ ((pre.count (j / 3) : Nat) : Int) * 80 := Int.mul_le_mul_of_nonneg_left h2.2 (by omega)
    omega
  unfold loadM pick
  split <;> omega
/-- The numbers are currents of all chargers. -/
def curB (s : GSite) (xs : List Int) : Bool := decide (xs.length = s.chgs.length) && xs.all (fun a => decide (0 ≤ a ∧ a ≤ 80))
noncomputable def loadB (s : GSite) (xs : List Int) : Bool := okSB keyL s && curB s xs
theorem curB_iff {s : GSite} {xs : List Int} : curB s xs = true ↔ (xs.length = s.chgs.length ∧ ∀ i, i < xs.length → 0 ≤ fI xs i ∧ fI xs i ≤ 80) := by
  unfold curB
  simp only [Bool.and_eq_true, decide_eq_true_eq, List.all_eq_true]
  constructor
  · rintro ⟨h1, h2⟩
    refine ⟨h1, fun i hi => ?_⟩
    have := h2 xs[i] (List.getElem_mem hi)
    unfold fI
    rw [List.getElem?_eq_getElem hi]
    exact this
  · rintro ⟨h1, h2⟩
    refine ⟨h1, fun a ha => ?_⟩
    obtain ⟨i, hi, e⟩ := List.getElem_of_mem ha
    have := h2 i hi
    unfold fI at this
    rw [List.getElem?_eq_getElem hi] at this
    rw [← e]
    exact this
theorem loadB_no1 {s : GSite} {xs : List Int} (h : okSB keyL s = false) : loadB s xs = false := by unfold loadB; rw [h]; rfl
theorem loadB_no2 {s : GSite} {xs : List Int} (h : curB s xs = false) : loadB s xs = false := by unfold loadB; rw [h, Bool.and_false]
theorem loadB_yes {s : GSite} {xs : List Int} (h : okSB keyL s = true) (h2 : curB s xs = true) : loadB s xs = true := by unfold loadB; rw [h, h2]; rfl
theorem curB_no1 {s : GSite} {xs : List Int} (h : xs.length ≠ s.chgs.length) : curB s xs = false := by
  cases e : curB s xs
  · rfl
  · exact absurd (curB_iff.1 e).1 h
theorem curB_no2 {s : GSite} {xs : List Int} {i : Nat} (hi : i < xs.length) (h : ¬ (0 ≤ fI xs i ∧ fI xs i ≤ 80)) : curB s xs = false := by
  cases e : curB s xs
  · rfl
  · exact absurd ((curB_iff.1 e).2 i hi) h
abbrev R3 : Type := Int × Int × Int
def enc3 (r : R3) : List Value := [.int .i64 r.1, .int .i64 r.2.1, .int .i64 r.2.2]
def row3 (f : Nat → Int) (k : Nat) : R3 := (f (k * 3), f (k * 3 + 1), f (k * 3 + 2))
/-- All loads, conductor by conductor. -/
def loadsOf (s : GSite) (xs : List Int) : List R3 := (List.range s.cons.length).map (row3 (loadS s (fI xs) s.chgs.length))
noncomputable def loadsO (s : GSite) (xs : List Int) : List R3 := if loadB s xs = true then loadsOf s xs else []
theorem loadsO_no {s : GSite} {xs : List Int} (h : loadB s xs = false) : loadsO s xs = [] := by unfold loadsO; rw [h]; rfl
theorem loadsO_yes {s : GSite} {xs : List Int} (h : loadB s xs = true) : loadsO s xs = loadsOf s xs := by unfold loadsO; rw [if_pos h]
theorem loadsOf_len (s : GSite) (xs : List Int) : (loadsOf s xs).length = s.cons.length := by unfold loadsOf; simp
theorem loadsOf_at {s : GSite} {xs : List Int} {k : Nat} (hk : k < s.cons.length) : (loadsOf s xs)[k]? = some (row3 (loadS s (fI xs) s.chgs.length) k) := by
  unfold loadsOf
  rw [List.getElem?_map, List.getElem?_range hk]
  rfl
/-- The cells of a list of loads, read. -/
theorem Own.rd3 {w : World} {g : Nat} {t : TypeId} {n : Nat} {f : Nat → Int} (h : Own w g t (n * 3) (fun i => .int .i64 (f i))) : Rd 3 enc3 w (some ⟨g, 0, none⟩) ((List.range n).map (row3 f)) := by
  refine h.rd (by simp) (fun x => rfl) (fun k x hx j v hv => ?_)
  rw [List.getElem?_map] at hx
  obtain ⟨k', hk', rfl⟩ := Option.map_eq_some_iff.1 hx
  have e : k' = k := by
    have hlt : k < n := by
      have := (List.getElem?_eq_some_iff.1 hk').1
      simpa using this
    rw [List.getElem?_range hlt] at hk'
    injection hk' with hk'
    exact hk'.symm
  subst e
  match j, hv with
  | 0, hv => simp [enc3, row3] at hv; rw [← hv]; rfl
  | 1, hv => simp [enc3, row3] at hv; rw [← hv]
  | 2, hv => simp [enc3, row3] at hv; rw [← hv]
  | j + 3, hv => simp [enc3] at hv
end Go.Proofs.Ytjlfnhfiiailgaa
