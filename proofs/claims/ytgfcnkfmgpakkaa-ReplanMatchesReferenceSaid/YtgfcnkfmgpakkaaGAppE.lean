/-
Several texts in one: AppE, AppE2.
-/
import Derived.Test.YtgfcnkfmgpakkaaGBase
import Derived.Test.YtgfcnkfmgpakkaaGFlowA
import Derived.Test.YtgfcnkfmgpakkaaGMath
/-
Appending edges to a list of the call's own.
-/
namespace Go.Proofs.Ytgfcnkfmgpakkaa
open Go.RowKit
theorem appInfoEdge : (Try.prog.info? 70).map (fun i => (i.zero, i.size, i.bytes)) = some (some (.agg #[.int .i64 0, .int .i64 0, .int .i64 0]), 3, 24) := by kernel_rfl
abbrev OwnE (w : World) (base : Nat) (v : Value) (xs : List GEdge) : Prop := OwnR 70 3 encE w base v xs
theorem encE_len (x : GEdge) : (encE x).length = 3 := rfl
theorem encE_one (x : GEdge) (u : Value) (h : u ∈ encE x) : u.oneCell' = true := by
  simp [encE] at h
  rcases h with rfl | rfl | rfl <;> rfl
theorem rd_one (w : World) (x : GEdge) : Rd 3 encE (w.alloc (.cells #[.int .i64 x.frm, .int .i64 x.to, .int .i64 x.cap] 70)) (some ⟨w.heap.size, 0, none⟩) [x] :=
  (Own.new w 70 #[.int .i64 x.frm, .int .i64 x.to, .int .i64 x.cap] undef).rd (Nat.le_refl _) (fun _ => rfl) (fun k y hy j v hv => by
    have hk : k = 0 := by have := (List.getElem?_eq_some_iff.1 hy).1; simp at this; exact this
    subst hk
    simp at hy
    subst hy
    have hj : j < 3 := (List.getElem?_eq_some_iff.1 hv).1
    match j, hj with
    | 0, _ => simpa [encE] using hv
    | 1, _ => simpa [encE] using hv
    | 2, _ => simpa [encE] using hv)
/-- One edge more. -/
theorem app_edge {w : World} {base : Nat} {v : Value} {xs : List GEdge} (f t c : Int) (h : OwnE w base v xs) (hb : base ≤ w.heap.size) (hl : xs.length ≤ 1000000) :
    Appends Try.prog (w.alloc (.cells #[.int .i64 f, .int .i64 t, .int .i64 c] 70)) 66 66 v (.slice (some ⟨w.heap.size, 0, none⟩) 1 1) ∧
    ∃ v' w1, appV Try.prog (w.alloc (.cells #[.int .i64 f, .int .i64 t, .int .i64 c] 70)) 66 66 v (.slice (some ⟨w.heap.size, 0, none⟩) 1 1) = v' ∧
      appW Try.prog (w.alloc (.cells #[.int .i64 f, .int .i64 t, .int .i64 c] 70)) 66 66 v (.slice (some ⟨w.heap.size, 0, none⟩) 1 1) = w1 ∧
      OwnE w1 base v' (xs ++ [⟨f, t, c⟩]) ∧ Mod (fun k => v.ownBlock = some k) w w1 ∧ (v'.ownBlock = v.ownBlock ∨ v'.ownBlock = some (w.heap.size + 1)) := by
  obtain ⟨h1, v', w1, e1, e2, e3, e4, e5⟩ := app_rows (P := Try.prog) (ty := 66) (c := 1) (m := 1) appInfoEdge Try.underlying66 rfl (by omega) encE_len encE_one (h.alloc _) (rd_one w ⟨f, t, c⟩) rfl ⟨_, rfl⟩ (by simp; omega) (by unfold maxLen; omega) (by omega)
  refine ⟨h1, v', w1, e1, e2, e3, ((Mod.refl _ w).alloc _).trans e4, ?_⟩
  rcases e5 with e | e
  · exact .inl e
  · exact .inr (by rw [e]; simp)
end Go.Proofs.Ytgfcnkfmgpakkaa
/-
Two lists of edges that grow side by side.
-/
namespace Go.Proofs.Ytgfcnkfmgpakkaa
open Go.RowKit
theorem wf_bd {x : Int} (h : (Lit.int .i64 x).wf = true) : -9223372036854775808 ≤ x ∧ x ≤ 9223372036854775807 := by
  simp [Lit.wf, IntKind.min, IntKind.max, IntKind.signed, IntKind.bits] at h
  omega
theorem OwnR.some_block {α : Type} {t : TypeId} {sz : Nat} {enc : α → List Value} {w : World} {base : Nat} {v : Value} {xs : List α} (h : OwnR t sz enc w base v xs) (h0 : 0 < xs.length) : ∃ g, v.ownBlock = some g ∧ g < w.heap.size := by
  obtain ⟨g, cap, rfl, _, hlt⟩ := World.ownsRow.form h h0
  exact ⟨g, rfl, hlt⟩
def ApartV (v u : Value) : Prop := v.ownBlock = none ∧ u.ownBlock = none ∨ v.ownBlock ≠ u.ownBlock
theorem apartV_not {v u : Value} {k : Nat} (hd : ApartV v u) (hk : u.ownBlock = some k) : ¬ v.ownBlock = some k := by
  rcases hd with ⟨_, x⟩ | x
  · rw [x] at hk; cases hk
  · intro h; exact x (by rw [h, hk])
theorem app_two {wb : World} {B H base : Nat} {v u : Value} {xs ys : List GEdge} (f t c : Int) (hv : OwnE wb base v xs) (hu : OwnE wb base u ys) (hd : ApartV v u) (hH : wb.heap.size = H) (hb : base ≤ H) (hl : xs.length ≤ 1000000) (hl2 : ys.length ≤ 1000000)
    (q0 : wb.cell? ⟨B, 0, none⟩ = some (.int .i64 f)) (q1 : wb.cell? ⟨B, 1, none⟩ = some (.int .i64 t)) (q2 : wb.cell? ⟨B, 2, none⟩ = some (.int .i64 c)) (hB : v.ownBlock ≠ some B) :
    Appends Try.prog (wb.alloc (.cells #[.int .i64 f, .int .i64 t, .int .i64 c] 70)) 66 66 v (.slice (some ⟨H, 0, none⟩) 1 1) ∧
    ∃ v' w4, appV Try.prog (wb.alloc (.cells #[.int .i64 f, .int .i64 t, .int .i64 c] 70)) 66 66 v (.slice (some ⟨H, 0, none⟩) 1 1) = v' ∧
      appW Try.prog (wb.alloc (.cells #[.int .i64 f, .int .i64 t, .int .i64 c] 70)) 66 66 v (.slice (some ⟨H, 0, none⟩) 1 1) = w4 ∧
      Appends Try.prog (w4.alloc (.cells #[.int .i64 t, .int .i64 f, .int .i64 c] 70)) 66 66 u (.slice (some ⟨w4.heap.size, 0, none⟩) 1 1) ∧
      ∃ u' w5, appV Try.prog (w4.alloc (.cells #[.int .i64 t, .int .i64 f, .int .i64 c] 70)) 66 66 u (.slice (some ⟨w4.heap.size, 0, none⟩) 1 1) = u' ∧
        appW Try.prog (w4.alloc (.cells #[.int .i64 t, .int .i64 f, .int .i64 c] 70)) 66 66 u (.slice (some ⟨w4.heap.size, 0, none⟩) 1 1) = w5 ∧
        Hid (OwnE w5 base v' (xs ++ [⟨f, t, c⟩])) ∧ Hid (OwnE w5 base u' (ys ++ [⟨t, f, c⟩])) ∧ Hid (ApartV v' u') ∧ Hid (Below base wb w5) ∧
        w4.cell? ⟨B, 0, none⟩ = some (.int .i64 f) ∧ w4.cell? ⟨B, 1, none⟩ = some (.int .i64 t) ∧ w4.cell? ⟨B, 2, none⟩ = some (.int .i64 c) := by
  subst hH
  have hul : ∀ k, u.ownBlock = some k → k < wb.heap.size := fun k hk => (World.ownsRow.lt hu k hk).2
  have lB : B < wb.heap.size := World.block_lt_of_cell? wb _ q0
  obtain ⟨ap, v', w4, av, aw, hown8, hmod8, hob8⟩ := app_edge f t c hv hb hl
  have hu4 := hu.mod hmod8 (fun j hj => apartV_not hd hj)
  obtain ⟨ap9, u', w5, av9, aw9, hown9, hmod9, hob9⟩ := app_edge t f c hu4 (Nat.le_trans hb hmod8.size) hl2
  obtain ⟨g8, e8, l8⟩ := hown8.some_block (by simp)
  have hne : ∀ k, u.ownBlock = some k → g8 ≠ k := by
    intro k h9 he
    have h2 := hul _ h9
    rcases hob8 with y | y
    · rw [e8, he] at y; exact apartV_not hd h9 y.symm
    · rw [e8] at y; have := Option.some.inj y; omega
  refine ⟨ap, v', w4, av, aw, ap9, u', w5, av9, aw9, Lib.hid ?_, Lib.hid hown9, Lib.hid ?_, Lib.hid ?_, ?_, ?_, ?_⟩
  · exact hown8.mod hmod9 (fun j hj h9 => hne j h9 (by rw [e8] at hj; exact Option.some.inj hj))
  · right
    rw [e8]
    intro he
    rcases hob9 with e | e
    · rw [e] at he; exact hne g8 he.symm rfl
    · rw [e] at he; have := Option.some.inj he; omega
  · exact (hv.below hmod8 hb).trans (hu4.below hmod9 (Nat.le_trans hb hmod8.size))
  · rw [hmod8.cell (p := ⟨B, 0, none⟩) lB hB]; exact q0
  · rw [hmod8.cell (p := ⟨B, 1, none⟩) lB hB]; exact q1
  · rw [hmod8.cell (p := ⟨B, 2, none⟩) lB hB]; exact q2
end Go.Proofs.Ytgfcnkfmgpakkaa
