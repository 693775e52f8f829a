/-
Appending the jobs of an argument to a made list.
-/
import Derived.Test.YtickndjlhokppaaCAppJ
namespace Go.Proofs.Ytickndjlhokppaa
open Go.RowKit
set_option linter.unusedVariables false
theorem mk_noneR {P : Program} (t e : TypeId) (z : Value) (sz bytes : Nat) (ht : P.underlying t = some (.slice e)) (hinfo : (P.info? e).map (fun i => (i.zero, i.size, i.bytes)) = some (some z, sz, bytes))
    (n : Nat) (hb : (bytes : Int) * (n : Int) ≤ 281474976710656) (h63 : (n : Int) ≤ 9223372036854775807) (W : World) :
    (Instr.makeSlice t (.int .i64 0) (.int .i64 n)).run P W = .ok (.slice (some ⟨W.heap.size, 0, none⟩) 0 n) (W.alloc (.cells (madeCells z.cells (n * sz)) e)) := by
  obtain ⟨i, hi, hzz⟩ := Option.map_eq_some_iff.1 hinfo
  simp only [Prod.mk.injEq] at hzz
  obtain ⟨hz, hs, hbb⟩ := hzz
  have := run_make W t e i z ht hi hz .i64 .i64 0 n (by omega) (by omega) (by rw [hbb]; exact hb) h63
  rw [hs] at this
  exact this
/-- make([]api.Job, 0, n): its cells are kept behind a name. -/
theorem mk_roomJ (n : Nat) (hb : n * 40 ≤ 140737488355328) : ∃ mc : Array Value, (∀ W : World, (Instr.makeSlice 22 (.int .i64 0) (.int .i64 n)).run Try.prog W = .ok (.slice (some ⟨W.heap.size, 0, none⟩) 0 n) (W.alloc (.cells mc 38))) ∧
    ∀ (W : World) (base : Nat), base ≤ W.heap.size → OwnJ (W.alloc (.cells mc 38)) base (.slice (some ⟨W.heap.size, 0, none⟩) 0 n) [] :=
  ⟨_, fun W => mk_noneR (P := Try.prog) 22 38 _ 5 40 Try.underlying22 appInfoJob n (by omega) (by omega) W, fun W base hW => OwnR.made W _ n (by unfold maxLen; omega) (size_madeCells _ _) hW⟩
theorem Aside.refl (base : Nat) (v : Value) (w : World) : Aside base v v w w := ⟨fun h a => ⟨h, a⟩, fun h _ => h, Below.refl _ _, .inl rfl⟩
/-- append(list, argument...). -/
theorem app_argR {P : Program} {α : Type} {t e ty : TypeId} {sz bytes : Nat} {z : Value} {enc : α → List Value} {w : World} {base : Nat} {v : Value} {xs ys : List α} {A : Option Addr} {m c : Nat}
    (hinfo : (P.info? e).map (fun i => (i.zero, i.size, i.bytes)) = some (some z, sz, bytes)) (ht : P.underlying t = some (.slice e)) (hzs : z.cells.size = sz) (h0 : 0 < sz) (hsz : ∀ x, (enc x).length = sz) (hone : ∀ x u, u ∈ enc x → u.oneCell' = true)
    (h : OwnR e sz enc w base v xs) (hy : Rd sz enc w A ys) (hym : ys.length = m) (hb : base ≤ w.heap.size) (hl : xs.length + m ≤ maxLen) (hbytes : (xs.length + m) * bytes ≤ 140737488355328) :
    Appends P w t ty v (.slice A m c) ∧ ∃ v' w1, appV P w t ty v (.slice A m c) = v' ∧ appW P w t ty v (.slice A m c) = w1 ∧ Hid (OwnR e sz enc w1 base v' (xs ++ ys)) ∧ Hid (Aside base v v' w w1) := by
  cases A with
  | none =>
    have hm0 : m = 0 := by
      rcases Nat.eq_zero_or_pos ys.length with h | h
      · omega
      · obtain ⟨b, off, e, _⟩ := hy h
        cases e
    subst hm0
    have hys : ys = [] := List.eq_nil_of_length_eq_zero hym
    subst hys
    obtain ⟨g1, g2, g3⟩ := app_none (P := P) (ty := ty) (c := c) hinfo ht h
    exact ⟨g1, v, w, g2, g3, Lib.hid (by rw [List.append_nil]; exact h), Lib.hid (Aside.refl _ _ _)⟩
  | some a =>
    obtain ⟨h1, v', w1, e1, e2, e3, e4, e5⟩ := app_rows (P := P) (ty := ty) (c := c) (m := m) hinfo ht hzs h0 hsz hone h hy hym ⟨_, rfl⟩ hb hl hbytes
    refine ⟨h1, v', w1, e1, e2, Lib.hid e3, Lib.hid ⟨?_, fun hc hn => (e4.cell (World.block_lt_of_cell? w _ hc) hn).trans hc, h.below e4 hb, ?_⟩⟩
    · intro β t' sz' enc' u zs hu ha
      refine ⟨hu.mod e4 (fun k hk => apartV_not ha hk), ?_⟩
      rcases e5 with x | x
      · unfold ApartV
        rw [x]
        exact ha
      · right
        rw [x]
        intro hq
        have := (World.ownsRow.lt hu _ hq.symm).2
        omega
    · rcases e5 with x | x
      · exact .inl x
      · exact .inr ⟨_, x, Nat.le_refl _⟩
theorem app_argJ {w : World} {base : Nat} {v : Value} {xs ys : List GJob} {A : Option Addr} {m c : Nat} (h : OwnJ w base v xs) (hy : Rd 5 encJ w A ys) (hym : ys.length = m) (hb : base ≤ w.heap.size) (hl : (xs.length + m) * 40 ≤ 140737488355328) :
    Appends Try.prog w 22 22 v (.slice A m c) ∧ ∃ v' w1, appV Try.prog w 22 22 v (.slice A m c) = v' ∧ appW Try.prog w 22 22 v (.slice A m c) = w1 ∧ Hid (OwnJ w1 base v' (xs ++ ys)) ∧ Hid (Aside base v v' w w1) :=
  app_argR appInfoJob Try.underlying22 rfl (by omega) encJ_len5 encJ_one h hy hym hb (by unfold maxLen; omega) hl
end Go.Proofs.Ytickndjlhokppaa
