/-
LimitsLess, walked.
-/
import Derived.Test.YtbalhbpaholakaaCLimM
import Derived.Test.YtbalhbpaholakaaCOpenS
namespace Go.Proofs.Ytbalhbpaholakaa
open Go.RowKit
set_option linter.unusedVariables false
set_option linter.unusedSimpArgs false
def lessL (xs bs : List Int) (k : Nat) : List Int := (List.range k).map (fun i => max 0 (fI xs i - fI bs i))
theorem lessL_len (xs bs : List Int) (k : Nat) : (lessL xs bs k).length = k := by unfold lessL; simp
theorem lessL_at (xs bs : List Int) {k i : Nat} (hi : i < k) : fI (lessL xs bs k) i = max 0 (fI xs i - fI bs i) := by
  unfold lessL fI
  rw [List.getElem?_map, List.getElem?_range hi]
  rfl
theorem lessL_succ (xs bs : List Int) (k : Nat) : lessL xs bs (k + 1) = lessL xs bs k ++ [max 0 (fI xs k - fI bs k)] := by
  unfold lessL
  rw [List.range_succ, List.map_append]
  rfl
theorem loadS_le (s : GSite) (f g : Nat → Int) (j : Nat) : ∀ m : Nat, (∀ i, i < m → f i ≤ g i) → loadS s f m j ≤ loadS s g m j
  | 0, _ => by rw [loadS_zero, loadS_zero]; exact Int.le_refl _
  | m + 1, h => by
    have ih := loadS_le s f g j m (fun i hi => h i (by omega))
    have h1 := h m (by omega)
    unfold loadS at *
    rw [S_succ, S_succ]
    by_cases e : onB s m (j / 3) (j % 3) = true
    · rw [pick_pos e, pick_pos e]; omega
    · rw [pick_neg e, pick_neg e]; omega
theorem vio_less {s : GSite} {xs ys : List Int} (hx : loadB s xs = true) (hy : loadB s ys = true) (h : ∀ i, i < s.chgs.length → fI ys i ≤ fI xs i) (hn : (vioO s xs).isSome = false) : (vioO s ys).isSome = false := by
  unfold vioO at hn
  rw [if_pos hx] at hn
  have h1 := List.find?_eq_none.1 (Option.isSome_eq_false_iff.1 hn |> Option.isNone_iff_eq_none.1)
  rw [vioO_all hy (fun t ht => ?_)]
  · rfl
  · have h2 := h1 t (List.mem_range.2 ht)
    unfold chkL at h2 ⊢
    have h3 := loadS_le s (fI ys) (fI xs) t s.chgs.length h
    simp only [decide_eq_true_eq] at h2
    simp only [decide_eq_false_iff_not]
    omega
theorem vio_agg (s : GSite) (xs : List Int) : ∃ v0 v1 v2, vioV s xs (vioO s xs) = .agg #[.int .i64 v0, .int .i64 v1, .int .i64 v2] := by
  cases vioO s xs
  · exact ⟨_, _, _, rfl⟩
  · exact ⟨_, _, _, rfl⟩
theorem u8_bdN {bs : List Int} (h : ∀ x, x ∈ bs → (Lit.int .u8 x).wf = true) (i : Nat) : 0 ≤ fI bs i ∧ fI bs i ≤ 255 := by
  unfold fI
  cases hg : bs[i]? with
  | none => simp
  | some x =>
    have hx := h x (List.mem_of_getElem? hg)
    simp [Lit.wf, IntKind.min, IntKind.max, IntKind.signed, IntKind.bits] at hx
    simpa using hx
theorem rd_u8 {w : World} {A : Option Addr} {xs : List Int} (h : Rd 1 encU8 w A xs) {k : Nat} (hk : k < xs.length) : ∃ b off, A = some ⟨b, off, none⟩ ∧ b < w.heap.size ∧ w.cell? ⟨b, off + k, none⟩ = some (.int .u8 (fI xs k)) := by
  obtain ⟨b, off, x, hA, hb, hx, hc⟩ := h.at_ hk
  have h1 := hc 0 (.int .u8 x) rfl
  rw [Nat.mul_one, Nat.add_zero] at h1
  refine ⟨b, off, hA, hb, ?_⟩
  unfold fI
  rw [hx]
  exact h1
end Go.Proofs.Ytbalhbpaholakaa
