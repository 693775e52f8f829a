/-
Plain: the rows and the loads.
-/
import Derived.Test.YtbalhbpaholakaaCLimR
namespace Go.Proofs.Ytbalhbpaholakaa
set_option linter.unusedVariables false
set_option linter.unusedSimpArgs false
def atX (xs : List Int) (i : Int) : Int := fI xs i.toNat
theorem sumK_take (xs ms : List Int) : ∀ k, k ≤ ms.length → sumK xs ms k = ((ms.take k).map (atX xs)).sum
  | 0, _ => by simp [sumK]
  | k + 1, h => by
    have ih := sumK_take xs ms k (by omega)
    have hg : ms[k]? = some (ms[k]'(by omega)) := List.getElem?_eq_getElem _
    rw [take_snoc hg, List.map_append, List.sum_append]
    show sumK xs ms k + fI xs (fI ms k).toNat = _
    rw [ih]
    have e : fI ms k = ms[k]'(by omega) := by unfold fI; rw [hg]; rfl
    rw [e]
    simp [atX]
theorem sumK_all (xs ms : List Int) : sumK xs ms ms.length = (ms.map (atX xs)).sum := by
  rw [sumK_take xs ms ms.length (Nat.le_refl _), List.take_length]
theorem load_rows (s : GSite) (xs : List Int) (c p : Nat) (hp : p < 3) : ∀ m : Nat, (((belowL s (c : Int) m).filter (usesB s p)).map (atX xs)).sum = loadS s (fI xs) m (c * 3 + p)
  | 0 => by rw [loadS_zero]; rfl
  | m + 1 => by
    have ih := load_rows s xs c p hp m
    have e1 : (c * 3 + p) / 3 = c := by omega
    have e2 : (c * 3 + p) % 3 = p := by omega
    have hl : loadS s (fI xs) (m + 1) (c * 3 + p) = loadS s (fI xs) m (c * 3 + p) + pick (onB s m c p = true) (fI xs m) := by
      unfold loadS
      rw [S_succ, e1, e2]
    rw [hl]
    have hb : isBel s (c : Int) m = decide (c ∈ pth s.cons (placeOf s m : Nat)) := by
      unfold isBel pthI
      congr 1
      simp
      constructor
      · rintro ⟨a, ha, e⟩
        have e2 : a = c := by omega
        rw [← e2]; exact ha
      · intro h
        exact ⟨c, h, rfl⟩
    have hu : usesB s p (m : Int) = bitP (phOf s m) p := by unfold usesB; rw [Int.toNat_natCast]
    have ho : onB s m c p = (usesB s p (m : Int) && isBel s (c : Int) m) := by unfold onB; rw [hu, hb]
    cases h : isBel s (c : Int) m
    · rw [belowL_no h, ih, pick_neg (by rw [ho, h]; simp)]
      omega
    · rw [belowL_yes h, List.filter_append, List.map_append, List.sum_append, ih]
      cases h2 : usesB s p (m : Int)
      · rw [pick_neg (by rw [ho, h2]; simp)]
        simp [h2]
      · rw [pick_pos (by rw [ho, h2, h]; rfl)]
        simp [h2, atX]
theorem sum_mem (s : GSite) (xs : List Int) (t : Nat) : sumK xs (memL s t) (memL s t).length = loadS s (fI xs) s.chgs.length t := by
  rw [sumK_all]
  have h := load_rows s xs (t / 3) (t % 3) (by omega) s.chgs.length
  rw [show t / 3 * 3 + t % 3 = t by omega] at h
  exact h
theorem belowL_ltR (s : GSite) (co : Int) (m : Nat) : (belowL s co m).Pairwise (fun a b => a < b) := by
  unfold belowL
  rw [List.pairwise_map]
  refine List.Pairwise.filter _ (List.Pairwise.imp ?_ (List.pairwise_lt_range (n := m)))
  intro a b h
  omega
theorem memL_inc (s : GSite) (t : Nat) {i j : Nat} (hij : i < j) (hj : j < (memL s t).length) : fI (memL s t) i < fI (memL s t) j := by
  have h0 : (memL s t).Pairwise (fun a b => a < b) := List.Pairwise.filter _ (belowL_ltR _ _ _)
  have h := List.pairwise_iff_getElem.1 h0 i j (by omega) hj hij
  unfold fI
  rw [List.getElem?_eq_getElem (by omega : i < _), List.getElem?_eq_getElem hj]
  exact h
theorem memL_in (s : GSite) (t : Nat) {i : Nat} (hi : i < (memL s t).length) : 0 ≤ fI (memL s t) i ∧ fI (memL s t) i < s.chgs.length := by
  have hm := List.getElem_mem hi
  unfold fI
  rw [List.getElem?_eq_getElem hi]
  generalize (memL s t)[i] = y at *
  unfold memL at hm
  have h1 := (List.mem_filter.1 hm).1
  unfold belowL at h1
  obtain ⟨k, hk, rfl⟩ := List.mem_map.1 h1
  have := List.mem_range.1 (List.mem_filter.1 hk).1
  simp
  omega
theorem memL_len (s : GSite) (t : Nat) : (memL s t).length ≤ s.chgs.length := Nat.le_trans (List.length_filter_le _ _) (belowL_len _ _ _)
/-- Each row is that of a place. -/
theorem rowsL_mem {s : GSite} {m : Nat} {r : GRow} : r ∈ rowsL s m ↔ ∃ t, t < m ∧ (memL s t).length ≠ 0 ∧ r = ⟨limAt s (t / 3), memL s t⟩ := by
  unfold rowsL
  rw [List.mem_filterMap]
  constructor
  · rintro ⟨t, ht, h⟩
    by_cases e : (memL s t).length = 0
    · rw [if_pos e] at h; cases h
    · rw [if_neg e] at h
      injection h with h
      exact ⟨t, List.mem_range.1 ht, e, h.symm⟩
  · rintro ⟨t, ht, e, rfl⟩
    exact ⟨t, List.mem_range.2 ht, by rw [if_neg e]⟩
def overB (xs : List Int) (r : GRow) : Bool := decide (r.cap < sumK xs r.mem r.mem.length)
theorem vio_rows {s : GSite} {xs : List Int} (h : loadB s xs = true) (hk : OkSite keyL s) : (vioO s xs).isSome = (rowsO s).any (overB xs) := by
  have hok : okSB keyL s = true := okSB_iff.2 hk
  rw [rowsO_yes hok]
  have hc : ∀ t, chkL s xs t = true ↔ limAt s (t / 3) < sumK xs (memL s t) (memL s t).length := fun t => by
    unfold chkL
    rw [sum_mem]
    simp
  have key : (∃ t, t < s.cons.length * 3 ∧ chkL s xs t = true) ↔ (rowsL s (s.cons.length * 3)).any (overB xs) = true := by
    rw [List.any_eq_true]
    constructor
    · rintro ⟨t, ht, e⟩
      refine ⟨⟨limAt s (t / 3), memL s t⟩, rowsL_mem.2 ⟨t, ht, fun e0 => ?_, rfl⟩, ?_⟩
      · have h1 := (hc t).1 e
        rw [e0] at h1
        have hg : s.cons[t / 3]? = some (s.cons[t / 3]'(by omega)) := List.getElem?_eq_getElem _
        have h2 := (limV_bd (hk.okC hg)).1
        unfold limAt at h1
        rw [hg] at h1
        simp [sumK] at h1
        omega
      · unfold overB
        rw [decide_eq_true_eq]
        exact (hc t).1 e
    · rintro ⟨r, hr, e⟩
      obtain ⟨t, ht, _, rfl⟩ := rowsL_mem.1 hr
      unfold overB at e
      rw [decide_eq_true_eq] at e
      exact ⟨t, ht, (hc t).2 e⟩
  unfold vioO
  rw [if_pos h]
  cases ha : (rowsL s (s.cons.length * 3)).any (overB xs)
  · rw [Option.isSome_eq_false_iff, Option.isNone_iff_eq_none, List.find?_eq_none]
    intro t ht hch
    have := key.1 ⟨t, List.mem_range.1 ht, hch⟩
    rw [ha] at this
    cases this
  · obtain ⟨t, ht, e⟩ := key.2 ha
    rw [List.find?_isSome]
    exact ⟨t, List.mem_range.2 ht, e⟩
end Go.Proofs.Ytbalhbpaholakaa
