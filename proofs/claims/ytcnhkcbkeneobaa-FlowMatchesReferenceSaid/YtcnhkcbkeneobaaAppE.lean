/-
Appending edges to a list of the call's own.
-/
import Derived.Test.YtcnhkcbkeneobaaAppR
import Derived.Test.YtcnhkcbkeneobaaFlowA
namespace Go.Proofs.Ytcnhkcbkeneobaa
open Go.RowKit
theorem appInfoEdge : (Try.prog.info? 39).map (fun i => (i.zero, i.size, i.bytes)) = some (some (.agg #[.int .i64 0, .int .i64 0, .int .i64 0]), 3, 24) := by kernel_rfl
abbrev OwnE (w : World) (base : Nat) (v : Value) (xs : List GEdge) : Prop := OwnR 39 3 encE w base v xs
theorem encE_len (x : GEdge) : (encE x).length = 3 := rfl
theorem encE_one (x : GEdge) (u : Value) (h : u ∈ encE x) : u.oneCell' = true := by
  simp [encE] at h
  rcases h with rfl | rfl | rfl <;> rfl
theorem rd_one (w : World) (x : GEdge) : Rd 3 encE (w.alloc (.cells #[.int .i64 x.frm, .int .i64 x.to, .int .i64 x.cap] 39)) (some ⟨w.heap.size, 0, none⟩) [x] :=
  (Own.new w 39 #[.int .i64 x.frm, .int .i64 x.to, .int .i64 x.cap] undef).rd (Nat.le_refl _) (fun _ => rfl) (fun k y hy j v hv => by
    have hk : k = 0 := by have := (List.getElem?_eq_some_iff.1 hy).1; simp at this; exact this
    subst hk
    simp at hy
    subst hy
    have hj : j < 3 := (List.getElem?_eq_some_iff.1 hv).1
    match j, hj with
    | 0, _ => simpa [encE] using hv
    | 1, _ => simpa [encE] using hv
    | 2, _ => simpa [encE] using hv)
/-- One edge more. -/
theorem app_edge {w : World} {base : Nat} {v : Value} {xs : List GEdge} (f t c : Int) (h : OwnE w base v xs) (hb : base ≤ w.heap.size) (hl : xs.length ≤ 1000000) :
    Appends Try.prog (w.alloc (.cells #[.int .i64 f, .int .i64 t, .int .i64 c] 39)) 22 22 v (.slice (some ⟨w.heap.size, 0, none⟩) 1 1) ∧
    ∃ v' w1, appV Try.prog (w.alloc (.cells #[.int .i64 f, .int .i64 t, .int .i64 c] 39)) 22 22 v (.slice (some ⟨w.heap.size, 0, none⟩) 1 1) = v' ∧
      appW Try.prog (w.alloc (.cells #[.int .i64 f, .int .i64 t, .int .i64 c] 39)) 22 22 v (.slice (some ⟨w.heap.size, 0, none⟩) 1 1) = w1 ∧
      OwnE w1 base v' (xs ++ [⟨f, t, c⟩]) ∧ Mod (fun k => v.ownBlock = some k) w w1 ∧ (v'.ownBlock = v.ownBlock ∨ v'.ownBlock = some (w.heap.size + 1)) := by
  obtain ⟨h1, v', w1, e1, e2, e3, e4, e5⟩ := app_rows (P := Try.prog) (ty := 22) (c := 1) (m := 1) appInfoEdge Try.underlying22 rfl (by omega) encE_len encE_one (h.alloc _) (rd_one w ⟨f, t, c⟩) rfl ⟨_, rfl⟩ (by simp; omega) (by unfold maxLen; omega) (by omega)
  refine ⟨h1, v', w1, e1, e2, e3, ((Mod.refl _ w).alloc _).trans e4, ?_⟩
  rcases e5 with e | e
  · exact .inl e
  · exact .inr (by rw [e]; simp)
end Go.Proofs.Ytcnhkcbkeneobaa
