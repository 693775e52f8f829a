/-
Appending jobs and numbers to lists of the call's own, other own lists beside them.
-/
import Derived.Test.YtmmmgafnmpaohaaGAppE
import Derived.Test.YtmmmgafnmpaohaaCPlanA
namespace Go.Proofs.Ytmmmgafnmpaohaa
open Go.RowKit
set_option linter.unusedVariables false
theorem appInfoJob : (Try.prog.info? 36).map (fun i => (i.zero, i.size, i.bytes)) = some (some (.agg #[.int .i64 0, .int .i64 0, .int .i64 0, .int .i64 0, .int .i64 0]), 5, 40) := by kernel_rfl
theorem appInfoNum : (Try.prog.info? 3).map (fun i => (i.zero, i.size, i.bytes)) = some (some (.int .i64 0), 1, 8) := by kernel_rfl
abbrev OwnJ (w : World) (base : Nat) (v : Value) (xs : List GJob) : Prop := OwnR 36 5 encJ w base v xs
abbrev OwnN (w : World) (base : Nat) (v : Value) (xs : List Int) : Prop := OwnR 3 1 encI w base v xs
theorem encJ_len5 (x : GJob) : (encJ x).length = 5 := rfl
theorem encI_len1 (x : Int) : (encI x).length = 1 := rfl
theorem encJ_one (x : GJob) (u : Value) (h : u ∈ encJ x) : u.oneCell' = true := by
  simp [encJ] at h
  rcases h with rfl | rfl | rfl | rfl | rfl <;> rfl
theorem encI_one (x : Int) (u : Value) (h : u ∈ encI x) : u.oneCell' = true := by
  simp [encI] at h
  rw [h]
  rfl
theorem ApartV.symm {v u : Value} (h : ApartV v u) : ApartV u v := h.elim (fun x => .inl ⟨x.2, x.1⟩) (fun x => .inr (fun e => x e.symm))
theorem ApartV.nil (u : Value) : ApartV (.slice none 0 0) u := by
  cases h : u.ownBlock with
  | none => exact .inl ⟨rfl, h⟩
  | some k => exact .inr (by rw [h]; intro e; cases e)
/-- What an append to v leaves alone: other lists of the call's own, and cells elsewhere. -/
structure Aside (base : Nat) (v v' : Value) (w w1 : World) : Prop where
  row : ∀ {α : Type} {t : TypeId} {sz : Nat} {enc : α → List Value} {u : Value} {ys : List α}, OwnR t sz enc w base u ys → ApartV v u → OwnR t sz enc w1 base u ys ∧ ApartV v' u
  cell : ∀ {p : Addr} {c : Value}, w.cell? p = some c → v.ownBlock ≠ some p.block → w1.cell? p = some c
  bel : Below base w w1
  own : v'.ownBlock = v.ownBlock ∨ ∃ q, v'.ownBlock = some q ∧ w.heap.size ≤ q
/-- One row more, of any kind. -/
theorem app_lit {P : Program} {α : Type} {t e ty : TypeId} {sz bytes : Nat} {z : Value} {enc : α → List Value} {w : World} {base : Nat} {v : Value} {xs ys : List α} {m c : Nat} {lit : Array Value}
    (hinfo : (P.info? e).map (fun i => (i.zero, i.size, i.bytes)) = some (some z, sz, bytes)) (ht : P.underlying t = some (.slice e)) (hzs : z.cells.size = sz) (h0 : 0 < sz) (hsz : ∀ x, (enc x).length = sz) (hone : ∀ x u, u ∈ enc x → u.oneCell' = true)
    (h : OwnR e sz enc w base v xs) (hb : base ≤ w.heap.size) (hlit : lit = (ys.flatMap enc).toArray) (hym : ys.length = m) (hl : xs.length + m ≤ 1000000) (hbytes : bytes ≤ 1000) :
    Appends P (w.alloc (.cells lit e)) t ty v (.slice (some ⟨w.heap.size, 0, none⟩) m c) ∧
    ∃ v' w1, appV P (w.alloc (.cells lit e)) t ty v (.slice (some ⟨w.heap.size, 0, none⟩) m c) = v' ∧ appW P (w.alloc (.cells lit e)) t ty v (.slice (some ⟨w.heap.size, 0, none⟩) m c) = w1 ∧ Hid (OwnR e sz enc w1 base v' (xs ++ ys)) ∧ Hid (Aside base v v' w w1) := by
  have rd : Rd sz enc (w.alloc (.cells lit e)) (some ⟨w.heap.size, 0, none⟩) ys := by
    rw [hlit]
    exact (Own.new w e (ys.flatMap enc).toArray undef).rd (by rw [List.size_toArray, flatR_len hsz]; exact Nat.le_refl _) hsz (fun k x hx j v hv => by
      show (ys.flatMap enc).toArray[k * sz + j]?.getD undef = v
      rw [List.getElem?_toArray, flatR_at hsz ys k j x v hx hv]; rfl)
  obtain ⟨h1, v', w1, e1, e2, e3, e4, e5⟩ := app_rows (P := P) (ty := ty) (c := c) (m := m) hinfo ht hzs h0 hsz hone (h.alloc _) rd hym ⟨_, rfl⟩ (by simp; omega) (by unfold maxLen; omega)
    (Nat.le_trans (Nat.mul_le_mul hl hbytes) (by omega))
  have hm : Mod (fun k => v.ownBlock = some k) w w1 := ((Mod.refl _ w).alloc _).trans e4
  refine ⟨h1, v', w1, e1, e2, Lib.hid e3, Lib.hid ⟨?_, fun hc hn => (hm.cell (World.block_lt_of_cell? w _ hc) hn).trans hc, h.below hm hb, ?_⟩⟩
  · intro β t' sz' enc' u zs hu ha
    refine ⟨hu.mod hm (fun k hk => apartV_not ha hk), ?_⟩
    rcases e5 with x | x
    · unfold ApartV
      rw [x]
      exact ha
    · right
      rw [x]
      intro hq
      have := (World.ownsRow.lt hu _ hq.symm).2
      simp at this
      omega
  · rcases e5 with x | x
    · exact .inl x
    · exact .inr ⟨_, x, by simp⟩
theorem app_job {w : World} {base : Nat} {v : Value} {xs : List GJob} (a b c d e : Int) (h : OwnJ w base v xs) (hb : base ≤ w.heap.size) (hl : xs.length ≤ 100000) :
    Appends Try.prog (w.alloc (.cells #[.int .i64 a, .int .i64 b, .int .i64 c, .int .i64 d, .int .i64 e] 36)) 22 22 v (.slice (some ⟨w.heap.size, 0, none⟩) 1 1) ∧
    ∃ v' w1, appV Try.prog (w.alloc (.cells #[.int .i64 a, .int .i64 b, .int .i64 c, .int .i64 d, .int .i64 e] 36)) 22 22 v (.slice (some ⟨w.heap.size, 0, none⟩) 1 1) = v' ∧
      appW Try.prog (w.alloc (.cells #[.int .i64 a, .int .i64 b, .int .i64 c, .int .i64 d, .int .i64 e] 36)) 22 22 v (.slice (some ⟨w.heap.size, 0, none⟩) 1 1) = w1 ∧ Hid (OwnJ w1 base v' (xs ++ [⟨a, b, c, d, e⟩])) ∧ Hid (Aside base v v' w w1) :=
  app_lit appInfoJob Try.underlying22 rfl (by omega) encJ_len5 encJ_one h hb rfl rfl (by omega) (by omega)
theorem app_num {w : World} {base : Nat} {v : Value} {xs : List Int} (a : Int) (h : OwnN w base v xs) (hb : base ≤ w.heap.size) (hl : xs.length ≤ 100000) :
    Appends Try.prog (w.alloc (.cells #[.int .i64 a] 3)) 23 23 v (.slice (some ⟨w.heap.size, 0, none⟩) 1 1) ∧
    ∃ v' w1, appV Try.prog (w.alloc (.cells #[.int .i64 a] 3)) 23 23 v (.slice (some ⟨w.heap.size, 0, none⟩) 1 1) = v' ∧
      appW Try.prog (w.alloc (.cells #[.int .i64 a] 3)) 23 23 v (.slice (some ⟨w.heap.size, 0, none⟩) 1 1) = w1 ∧ Hid (OwnN w1 base v' (xs ++ [a])) ∧ Hid (Aside base v v' w w1) :=
  app_lit appInfoNum Try.underlying23 rfl (by omega) encI_len1 encI_one h hb rfl rfl (by omega) (by omega)
theorem OwnR.keepB {α : Type} {t : TypeId} {sz : Nat} {enc : α → List Value} {w w' : World} {base : Nat} {v : Value} {xs : List α} (h : OwnR t sz enc w base v xs) (hb : Below w.heap.size w w') : OwnR t sz enc w' base v xs := h.keep hb
end Go.Proofs.Ytmmmgafnmpaohaa
