/-
Appending one number to a list of the call's own: what the append runs to, as rules of the walk.
-/
import Derived.Test.YtbalhbpaholakaaRows
import Derived.Test.YtbalhbpaholakaaGBase
namespace Go.Proofs.Ytbalhbpaholakaa
open Go.RowKit

theorem appInfoInt : (Try.prog.info? 3).map (fun i => (i.zero, i.size, i.bytes)) = some (some (.int .i64 0), 1, 8) := by kernel_rfl
/-- The slice value v is the call's own (blocks from base on) and holds the numbers xs. -/
def OwnL (w : World) (base : Nat) (v : Value) (xs : List Int) : Prop := w.ownsRow base 3 1 v xs.length (xs.map (Value.int .i64))
theorem OwnL.nil (w : World) (base : Nat) : OwnL w base (.slice none 0 0) [] := World.ownsRow_nil _ _ _ _
theorem OwnL.shape {w : World} {base : Nat} {v : Value} {xs : List Int} (h : OwnL w base v xs) : ∃ a c, v = .slice a xs.length c := by
  rcases h.2 with ⟨h1, h2⟩ | ⟨g, cap, cur, hv, _⟩
  · exact ⟨none, 0, by rw [h1, h2]⟩
  · exact ⟨_, cap, hv⟩
theorem OwnL.mod {w w' : World} {base : Nat} {v : Value} {xs : List Int} {M : Nat → Prop} (h : OwnL w base v xs) (hm : Mod M w w') (hn : ∀ k, v.ownBlock = some k → ¬ M k) : OwnL w' base v xs := by
  refine ⟨h.1, ?_⟩
  rcases h.2 with x | ⟨g, cap, cur, rfl, hb, hgg, rest⟩
  · exact .inl x
  · refine .inr ⟨g, cap, cur, rfl, hb, ?_, rest⟩
    rw [hm.block g (Array.getElem?_eq_some_iff.1 hgg).1 (hn g rfl)]
    exact hgg
theorem OwnL.keep {w w' : World} {base : Nat} {v : Value} {xs : List Int} (h : OwnL w base v xs) (hb : Below w.heap.size w w') : OwnL w' base v xs :=
  h.mod (Mod.of_below hb) (fun k hk => by have := (World.ownsRow.lt h k hk).2; omega)
theorem OwnL.rd {w : World} {base : Nat} {v : Value} {xs : List Int} (h : OwnL w base v xs) : ∃ a c, v = .slice a xs.length c ∧ Rd 1 encI w a xs := by
  obtain ⟨a, c, hv⟩ := h.shape
  refine ⟨a, c, hv, ?_⟩
  intro h0
  obtain ⟨g, cap, hv', _, hlt⟩ := World.ownsRow.form h h0
  rw [hv] at hv'
  injection hv' with e1 _ _
  subst e1
  refine ⟨g, 0, rfl, hlt, ?_⟩
  intro k x hx j u hu
  have hj : j = 0 := by have := (List.getElem?_eq_some_iff.1 hu).1; simp [encI] at this; exact this
  subst hj
  simp only [encI, List.getElem?_cons_zero, Option.some.injEq] at hu
  subst hu
  have := World.ownsRow.cells h (g := g) (by rw [hv]; rfl) k (.int .i64 x) (by rw [List.getElem?_map, hx]; rfl)
  have hadd : (⟨g, 0, none⟩ : Addr).add k = ⟨g, k, none⟩ := by unfold Addr.add; by_cases h : k = 0 <;> simp [h]
  rw [hadd] at this
  rw [Nat.mul_one, Nat.add_zero, Nat.zero_add]
  exact this
theorem app_int {w : World} {base : Nat} {v : Value} {xs : List Int} (x : Int) (h : OwnL w base v xs) (hb : base ≤ w.heap.size) (hl : xs.length ≤ 1000000) :
    Appends Try.prog (w.alloc (.cells #[.int .i64 x] 3)) 29 29 v (.slice (some ⟨w.heap.size, 0, none⟩) 1 1) ∧
    ∃ v' w1, appV Try.prog (w.alloc (.cells #[.int .i64 x] 3)) 29 29 v (.slice (some ⟨w.heap.size, 0, none⟩) 1 1) = v' ∧
      appW Try.prog (w.alloc (.cells #[.int .i64 x] 3)) 29 29 v (.slice (some ⟨w.heap.size, 0, none⟩) 1 1) = w1 ∧
      OwnL w1 base v' (xs ++ [x]) ∧ Mod (fun k => v.ownBlock = some k) w w1 ∧ (v'.ownBlock = v.ownBlock ∨ v'.ownBlock = some (w.heap.size + 1)) := by
  obtain ⟨i0, hi0, hz0, hz1, hz2⟩ := info_parts appInfoInt
  obtain ⟨gg, cap, w1, hrun, hown1, hgrow, hat, hgl⟩ := run_append_lies (P := Try.prog) (w.alloc (.cells #[.int .i64 x] 3)) 29 29 base 3 i0 _ 1 8 Try.underlying29 hi0 hz0 hz1 hz2 rfl (by omega) v xs.length (xs.map (Value.int .i64)) (World.ownsRow.alloc h _) ⟨w.heap.size, 0, none⟩ 1 1 [.int .i64 x] rfl (World.news_of_block (cs := #[.int .i64 x]) (t := 3) (fr := (0, 0)) (heap_alloc_new w _)) (by simp [Value.oneCell']) (by omega) (by unfold maxLen; omega) (by omega) (by simp; omega) (w.heap.size + 1) (by simp)
  obtain ⟨ap1, ap2, ap3⟩ := appends_of hrun
  refine ⟨ap1, _, w1, ap2, ap3, ?_, ((Mod.refl _ w).alloc _).grown hgrow (fun k hk => .inl hk), ?_⟩
  · unfold OwnL
    rw [List.length_append, List.map_append]
    exact hown1
  · rcases hat with e | e
    · exact .inl (by rw [e]; rfl)
    · exact .inr (by rw [e]; rfl)
/-- An own list lies below nothing old. -/
theorem OwnL.below {w w1 : World} {base : Nat} {v : Value} {xs : List Int} (h : OwnL w base v xs) (hm : Mod (fun k => v.ownBlock = some k) w w1) (hb : base ≤ w.heap.size) : Below base w w1 :=
  hm.below hb (fun k _ hk => (World.ownsRow.lt h k hk).1)
end Go.Proofs.Ytbalhbpaholakaa
