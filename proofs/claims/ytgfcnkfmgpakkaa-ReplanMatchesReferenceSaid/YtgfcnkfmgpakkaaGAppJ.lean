/-
Several texts in one: AppJ, AppJ2, AppJ3.
-/
import Derived.Test.YtgfcnkfmgpakkaaGAppE
import Derived.Test.YtgfcnkfmgpakkaaCPlanA
import Derived.Test.YtgfcnkfmgpakkaaGBase
/-
Appending jobs and numbers to lists of the call's own, other own lists beside them.
-/
namespace Go.Proofs.Ytgfcnkfmgpakkaa
open Go.RowKit
set_option linter.unusedVariables false
theorem appInfoJob : (Try.prog.info? 25).map (fun i => (i.zero, i.size, i.bytes)) = some (some (.agg #[.int .i64 0, .int .i64 0, .int .i64 0, .int .i64 0, .int .i64 0]), 5, 40) := by kernel_rfl
theorem appInfoNum : (Try.prog.info? 3).map (fun i => (i.zero, i.size, i.bytes)) = some (some (.int .i64 0), 1, 8) := by kernel_rfl
abbrev OwnJ (w : World) (base : Nat) (v : Value) (xs : List GJob) : Prop := OwnR 25 5 encJ w base v xs
abbrev OwnN (w : World) (base : Nat) (v : Value) (xs : List Int) : Prop := OwnR 3 1 encI w base v xs
theorem encJ_len5 (x : GJob) : (encJ x).length = 5 := rfl
theorem encI_len1 (x : Int) : (encI x).length = 1 := rfl
theorem encJ_one (x : GJob) (u : Value) (h : u ∈ encJ x) : u.oneCell' = true := by
  simp [encJ] at h
  rcases h with rfl | rfl | rfl | rfl | rfl <;> rfl
theorem encI_one (x : Int) (u : Value) (h : u ∈ encI x) : u.oneCell' = true := by
  simp [encI] at h
  rw [h]
  rfl
theorem ApartV.symm {v u : Value} (h : ApartV v u) : ApartV u v := h.elim (fun x => .inl ⟨x.2, x.1⟩) (fun x => .inr (fun e => x e.symm))
theorem ApartV.nil (u : Value) : ApartV (.slice none 0 0) u := by
  cases h : u.ownBlock with
  | none => exact .inl ⟨rfl, h⟩
  | some k => exact .inr (by rw [h]; intro e; cases e)
/-- What an append to v leaves alone: other lists of the call's own, and cells elsewhere. -/
structure Aside (base : Nat) (v v' : Value) (w w1 : World) : Prop where
  row : ∀ {α : Type} {t : TypeId} {sz : Nat} {enc : α → List Value} {u : Value} {ys : List α}, OwnR t sz enc w base u ys → ApartV v u → OwnR t sz enc w1 base u ys ∧ ApartV v' u
  cell : ∀ {p : Addr} {c : Value}, w.cell? p = some c → v.ownBlock ≠ some p.block → w1.cell? p = some c
  bel : Below base w w1
  own : v'.ownBlock = v.ownBlock ∨ ∃ q, v'.ownBlock = some q ∧ w.heap.size ≤ q
/-- One row more, of any kind. -/
theorem app_lit {P : Program} {α : Type} {t e ty : TypeId} {sz bytes : Nat} {z : Value} {enc : α → List Value} {w : World} {base : Nat} {v : Value} {xs ys : List α} {m c : Nat} {lit : Array Value}
    (hinfo : (P.info? e).map (fun i => (i.zero, i.size, i.bytes)) = some (some z, sz, bytes)) (ht : P.underlying t = some (.slice e)) (hzs : z.cells.size = sz) (h0 : 0 < sz) (hsz : ∀ x, (enc x).length = sz) (hone : ∀ x u, u ∈ enc x → u.oneCell' = true)
    (h : OwnR e sz enc w base v xs) (hb : base ≤ w.heap.size) (hlit : lit = (ys.flatMap enc).toArray) (hym : ys.length = m) (hl : xs.length + m ≤ 1000000) (hbytes : bytes ≤ 1000) :
    Appends P (w.alloc (.cells lit e)) t ty v (.slice (some ⟨w.heap.size, 0, none⟩) m c) ∧
    ∃ v' w1, appV P (w.alloc (.cells lit e)) t ty v (.slice (some ⟨w.heap.size, 0, none⟩) m c) = v' ∧ appW P (w.alloc (.cells lit e)) t ty v (.slice (some ⟨w.heap.size, 0, none⟩) m c) = w1 ∧ Hid (OwnR e sz enc w1 base v' (xs ++ ys)) ∧ Hid (Aside base v v' w w1) := by
  have rd : Rd sz enc (w.alloc (.cells lit e)) (some ⟨w.heap.size, 0, none⟩) ys := by
    rw [hlit]
    exact (Own.new w e (ys.flatMap enc).toArray undef).rd (by rw [List.size_toArray, flatR_len hsz]; exact Nat.le_refl _) hsz (fun k x hx j v hv => by
      show (ys.flatMap enc).toArray[k * sz + j]?.getD undef = v
      rw [List.getElem?_toArray, flatR_at hsz ys k j x v hx hv]; rfl)
  obtain ⟨h1, v', w1, e1, e2, e3, e4, e5⟩ := app_rows (P := P) (ty := ty) (c := c) (m := m) hinfo ht hzs h0 hsz hone (h.alloc _) rd hym ⟨_, rfl⟩ (by simp; omega) (by unfold maxLen; omega)
    (Nat.le_trans (Nat.mul_le_mul hl hbytes) (by omega))
  have hm : Mod (fun k => v.ownBlock = some k) w w1 := ((Mod.refl _ w).alloc _).trans e4
  refine ⟨h1, v', w1, e1, e2, Lib.hid e3, Lib.hid ⟨?_, fun hc hn => (hm.cell (World.block_lt_of_cell? w _ hc) hn).trans hc, h.below hm hb, ?_⟩⟩
  · intro β t' sz' enc' u zs hu ha
    refine ⟨hu.mod hm (fun k hk => apartV_not ha hk), ?_⟩
    rcases e5 with x | x
    · unfold ApartV
      rw [x]
      exact ha
    · right
      rw [x]
      intro hq
      have := (World.ownsRow.lt hu _ hq.symm).2
      simp at this
      omega
  · rcases e5 with x | x
    · exact .inl x
    · exact .inr ⟨_, x, by simp⟩
theorem app_job {w : World} {base : Nat} {v : Value} {xs : List GJob} (a b c d e : Int) (h : OwnJ w base v xs) (hb : base ≤ w.heap.size) (hl : xs.length ≤ 100000) :
    Appends Try.prog (w.alloc (.cells #[.int .i64 a, .int .i64 b, .int .i64 c, .int .i64 d, .int .i64 e] 25)) 22 22 v (.slice (some ⟨w.heap.size, 0, none⟩) 1 1) ∧
    ∃ v' w1, appV Try.prog (w.alloc (.cells #[.int .i64 a, .int .i64 b, .int .i64 c, .int .i64 d, .int .i64 e] 25)) 22 22 v (.slice (some ⟨w.heap.size, 0, none⟩) 1 1) = v' ∧
      appW Try.prog (w.alloc (.cells #[.int .i64 a, .int .i64 b, .int .i64 c, .int .i64 d, .int .i64 e] 25)) 22 22 v (.slice (some ⟨w.heap.size, 0, none⟩) 1 1) = w1 ∧ Hid (OwnJ w1 base v' (xs ++ [⟨a, b, c, d, e⟩])) ∧ Hid (Aside base v v' w w1) :=
  app_lit appInfoJob Try.underlying22 rfl (by omega) encJ_len5 encJ_one h hb rfl rfl (by omega) (by omega)
theorem app_num {w : World} {base : Nat} {v : Value} {xs : List Int} (a : Int) (h : OwnN w base v xs) (hb : base ≤ w.heap.size) (hl : xs.length ≤ 100000) :
    Appends Try.prog (w.alloc (.cells #[.int .i64 a] 3)) 23 23 v (.slice (some ⟨w.heap.size, 0, none⟩) 1 1) ∧
    ∃ v' w1, appV Try.prog (w.alloc (.cells #[.int .i64 a] 3)) 23 23 v (.slice (some ⟨w.heap.size, 0, none⟩) 1 1) = v' ∧
      appW Try.prog (w.alloc (.cells #[.int .i64 a] 3)) 23 23 v (.slice (some ⟨w.heap.size, 0, none⟩) 1 1) = w1 ∧ Hid (OwnN w1 base v' (xs ++ [a])) ∧ Hid (Aside base v v' w w1) :=
  app_lit appInfoNum Try.underlying23 rfl (by omega) encI_len1 encI_one h hb rfl rfl (by omega) (by omega)
theorem OwnR.keepB {α : Type} {t : TypeId} {sz : Nat} {enc : α → List Value} {w w' : World} {base : Nat} {v : Value} {xs : List α} (h : OwnR t sz enc w base v xs) (hb : Below w.heap.size w w') : OwnR t sz enc w' base v xs := h.keep hb
end Go.Proofs.Ytgfcnkfmgpakkaa
/-
Appending the jobs of an argument to a made list.
-/
namespace Go.Proofs.Ytgfcnkfmgpakkaa
open Go.RowKit
set_option linter.unusedVariables false
theorem mk_noneR {P : Program} (t e : TypeId) (z : Value) (sz bytes : Nat) (ht : P.underlying t = some (.slice e)) (hinfo : (P.info? e).map (fun i => (i.zero, i.size, i.bytes)) = some (some z, sz, bytes))
    (n : Nat) (hb : (bytes : Int) * (n : Int) ≤ 281474976710656) (h63 : (n : Int) ≤ 9223372036854775807) (W : World) :
    (Instr.makeSlice t (.int .i64 0) (.int .i64 n)).run P W = .ok (.slice (some ⟨W.heap.size, 0, none⟩) 0 n) (W.alloc (.cells (madeCells z.cells (n * sz)) e)) := by
  obtain ⟨i, hi, hzz⟩ := Option.map_eq_some_iff.1 hinfo
  simp only [Prod.mk.injEq] at hzz
  obtain ⟨hz, hs, hbb⟩ := hzz
  have := run_make W t e i z ht hi hz .i64 .i64 0 n (by omega) (by omega) (by rw [hbb]; exact hb) h63
  rw [hs] at this
  exact this
/-- make([]api.Job, 0, n): its cells are kept behind a name. -/
theorem mk_roomJ (n : Nat) (hb : n * 40 ≤ 140737488355328) : ∃ mc : Array Value, (∀ W : World, (Instr.makeSlice 22 (.int .i64 0) (.int .i64 n)).run Try.prog W = .ok (.slice (some ⟨W.heap.size, 0, none⟩) 0 n) (W.alloc (.cells mc 25))) ∧
    ∀ (W : World) (base : Nat), base ≤ W.heap.size → OwnJ (W.alloc (.cells mc 25)) base (.slice (some ⟨W.heap.size, 0, none⟩) 0 n) [] :=
  ⟨_, fun W => mk_noneR (P := Try.prog) 22 25 _ 5 40 Try.underlying22 appInfoJob n (by omega) (by omega) W, fun W base hW => OwnR.made W _ n (by unfold maxLen; omega) (size_madeCells _ _) hW⟩
theorem Aside.refl (base : Nat) (v : Value) (w : World) : Aside base v v w w := ⟨fun h a => ⟨h, a⟩, fun h _ => h, Below.refl _ _, .inl rfl⟩
/-- append(list, argument...). -/
theorem app_argR {P : Program} {α : Type} {t e ty : TypeId} {sz bytes : Nat} {z : Value} {enc : α → List Value} {w : World} {base : Nat} {v : Value} {xs ys : List α} {A : Option Addr} {m c : Nat}
    (hinfo : (P.info? e).map (fun i => (i.zero, i.size, i.bytes)) = some (some z, sz, bytes)) (ht : P.underlying t = some (.slice e)) (hzs : z.cells.size = sz) (h0 : 0 < sz) (hsz : ∀ x, (enc x).length = sz) (hone : ∀ x u, u ∈ enc x → u.oneCell' = true)
    (h : OwnR e sz enc w base v xs) (hy : Rd sz enc w A ys) (hym : ys.length = m) (hb : base ≤ w.heap.size) (hl : xs.length + m ≤ maxLen) (hbytes : (xs.length + m) * bytes ≤ 140737488355328) :
    Appends P w t ty v (.slice A m c) ∧ ∃ v' w1, appV P w t ty v (.slice A m c) = v' ∧ appW P w t ty v (.slice A m c) = w1 ∧ Hid (OwnR e sz enc w1 base v' (xs ++ ys)) ∧ Hid (Aside base v v' w w1) := by
  cases A with
  | none =>
    have hm0 : m = 0 := by
      rcases Nat.eq_zero_or_pos ys.length with h | h
      · omega
      · obtain ⟨b, off, e, _⟩ := hy h
        cases e
    subst hm0
    have hys : ys = [] := List.eq_nil_of_length_eq_zero hym
    subst hys
    obtain ⟨g1, g2, g3⟩ := app_none (P := P) (ty := ty) (c := c) hinfo ht h
    exact ⟨g1, v, w, g2, g3, Lib.hid (by rw [List.append_nil]; exact h), Lib.hid (Aside.refl _ _ _)⟩
  | some a =>
    obtain ⟨h1, v', w1, e1, e2, e3, e4, e5⟩ := app_rows (P := P) (ty := ty) (c := c) (m := m) hinfo ht hzs h0 hsz hone h hy hym ⟨_, rfl⟩ hb hl hbytes
    refine ⟨h1, v', w1, e1, e2, Lib.hid e3, Lib.hid ⟨?_, fun hc hn => (e4.cell (World.block_lt_of_cell? w _ hc) hn).trans hc, h.below e4 hb, ?_⟩⟩
    · intro β t' sz' enc' u zs hu ha
      refine ⟨hu.mod e4 (fun k hk => apartV_not ha hk), ?_⟩
      rcases e5 with x | x
      · unfold ApartV
        rw [x]
        exact ha
      · right
        rw [x]
        intro hq
        have := (World.ownsRow.lt hu _ hq.symm).2
        omega
    · rcases e5 with x | x
      · exact .inl x
      · exact .inr ⟨_, x, Nat.le_refl _⟩
theorem app_argJ {w : World} {base : Nat} {v : Value} {xs ys : List GJob} {A : Option Addr} {m c : Nat} (h : OwnJ w base v xs) (hy : Rd 5 encJ w A ys) (hym : ys.length = m) (hb : base ≤ w.heap.size) (hl : (xs.length + m) * 40 ≤ 140737488355328) :
    Appends Try.prog w 22 22 v (.slice A m c) ∧ ∃ v' w1, appV Try.prog w 22 22 v (.slice A m c) = v' ∧ appW Try.prog w 22 22 v (.slice A m c) = w1 ∧ Hid (OwnJ w1 base v' (xs ++ ys)) ∧ Hid (Aside base v v' w w1) :=
  app_argR appInfoJob Try.underlying22 rfl (by omega) encJ_len5 encJ_one h hy hym hb (by unfold maxLen; omega) hl
end Go.Proofs.Ytgfcnkfmgpakkaa
/-
'append(append(make([]api.Job, 0, n), argument...), jobs...)' in each order that a draw allows.
-/
namespace Go.Proofs.Ytgfcnkfmgpakkaa
open Go.RowKit
set_option linter.unusedVariables false
section
variable {W : World} {A : Option Addr} {js ys : List GJob} {N c m n : Nat} {mc lit : Array Value}
theorem rd_litA (hlit : lit = (ys.flatMap encJ).toArray) (W : World) : Rd 5 encJ (W.alloc (.cells lit 25)) (some ⟨W.heap.size, 0, none⟩) ys := by
  rw [hlit]
  exact (Own.new W 25 (ys.flatMap encJ).toArray undef).rd (by rw [List.size_toArray, flatR_len encJ_len5]; exact Nat.le_refl _) encJ_len5 (fun k x hx j v hv => by
    show (ys.flatMap encJ).toArray[k * 5 + j]?.getD undef = v
    rw [List.getElem?_toArray, flatR_at encJ_len5 ys k j x v hx hv]; rfl)
theorem two_apps {W0 : World} {base L : Nat} {v0 : Value} (own : OwnJ W0 base v0 []) (hb : base ≤ W0.heap.size) (rd : Rd 5 encJ W0 A js) (hN : js.length = N) (rdl : Rd 5 encJ W0 (some ⟨L, 0, none⟩) ys) (hL : v0.ownBlock ≠ some L) (hm : ys.length = m) (hs : (N + m) * 40 ≤ 140737488355328) :
    Appends Try.prog W0 22 22 v0 (.slice A N c) ∧ ∃ v1 W1, appV Try.prog W0 22 22 v0 (.slice A N c) = v1 ∧ appW Try.prog W0 22 22 v0 (.slice A N c) = W1 ∧
      Appends Try.prog W1 22 22 v1 (.slice (some ⟨L, 0, none⟩) m m) ∧ ∃ v2 W2, appV Try.prog W1 22 22 v1 (.slice (some ⟨L, 0, none⟩) m m) = v2 ∧ appW Try.prog W1 22 22 v1 (.slice (some ⟨L, 0, none⟩) m m) = W2 ∧
        OwnJ W2 base v2 (js ++ ys) ∧ Below base W0 W1 ∧ Below base W0 W2 := by
  obtain ⟨p1, v1, W1, av1, aw1, o1, s1⟩ := app_argJ (c := c) own rd hN hb (by simp; omega)
  have rdl1 : Rd 5 encJ W1 (some ⟨L, 0, none⟩) ys := by
    intro h0
    obtain ⟨b, off, e, hlt, hc⟩ := rdl h0
    injection e with e
    injection e with e1 e2
    subst e1 e2
    exact ⟨_, _, rfl, Nat.lt_of_lt_of_le hlt s1.out.bel.size, fun k x hx j v hv => s1.out.cell (hc k x hx j v hv) hL⟩
  obtain ⟨p2, v2, W2, av2, aw2, o2, s2⟩ := app_argJ (c := m) o1.out rdl1 hm (Nat.le_trans hb s1.out.bel.size) (by rw [List.nil_append, hN]; exact hs)
  exact ⟨p1, v1, W1, av1, aw1, p2, v2, W2, av2, aw2, o2.out, s1.out.bel, s1.out.bel.trans s2.out.bel⟩
/-- The literal first. -/
theorem made_A (hown : ∀ (W : World) (base : Nat), base ≤ W.heap.size → OwnJ (W.alloc (.cells mc 25)) base (.slice (some ⟨W.heap.size, 0, none⟩) 0 n) []) (rd : Rd 5 encJ W A js) (hN : js.length = N) (hlit : lit = (ys.flatMap encJ).toArray) (hm : ys.length = m) (hs : (N + m) * 40 ≤ 140737488355328) :
    Appends Try.prog ((W.alloc (.cells lit 25)).alloc (.cells mc 25)).drew 22 22 (.slice (some ⟨W.heap.size + 1, 0, none⟩) 0 n) (.slice A N c) ∧ ∃ v1 W1, appV Try.prog ((W.alloc (.cells lit 25)).alloc (.cells mc 25)).drew 22 22 (.slice (some ⟨W.heap.size + 1, 0, none⟩) 0 n) (.slice A N c) = v1 ∧ appW Try.prog ((W.alloc (.cells lit 25)).alloc (.cells mc 25)).drew 22 22 (.slice (some ⟨W.heap.size + 1, 0, none⟩) 0 n) (.slice A N c) = W1 ∧
      Appends Try.prog W1 22 22 v1 (.slice (some ⟨W.heap.size, 0, none⟩) m m) ∧ ∃ v2 W2, appV Try.prog W1 22 22 v1 (.slice (some ⟨W.heap.size, 0, none⟩) m m) = v2 ∧ appW Try.prog W1 22 22 v1 (.slice (some ⟨W.heap.size, 0, none⟩) m m) = W2 ∧
        Hid (OwnJ W2 W.heap.size v2 (js ++ ys)) ∧ Hid (Below W.heap.size W W1) ∧ Hid (Below W.heap.size W W2) := by
  have ba : Below W.heap.size W (W.alloc (.cells lit 25)) := (Below.refl _ _).alloc (Nat.le_refl _) _
  have bb : Below W.heap.size W ((W.alloc (.cells lit 25)).alloc (.cells mc 25)).drew := (ba.alloc (by simp) _).drew
  have o := hown (W.alloc (.cells lit 25)) W.heap.size (by simp)
  rw [World.size_alloc] at o
  have rl : Rd 5 encJ ((W.alloc (.cells lit 25)).alloc (.cells mc 25)).drew (some ⟨W.heap.size, 0, none⟩) ys := (rd_litA hlit W).keep (((Below.refl _ _).alloc (Nat.le_refl _) _).drew)
  obtain ⟨p1, v1, W1, av1, aw1, p2, v2, W2, av2, aw2, o2, x1, x2⟩ := two_apps (W0 := ((W.alloc (.cells lit 25)).alloc (.cells mc 25)).drew) (c := c) o bb.size (rd.keep bb) hN rl (by simp [Value.ownBlock]) hm hs
  exact ⟨p1, v1, W1, av1, aw1, p2, v2, W2, av2, aw2, Lib.hid o2, Lib.hid (bb.trans x1), Lib.hid (bb.trans x2)⟩
/-- The literal between. -/
theorem made_B (hown : ∀ (W : World) (base : Nat), base ≤ W.heap.size → OwnJ (W.alloc (.cells mc 25)) base (.slice (some ⟨W.heap.size, 0, none⟩) 0 n) []) (rd : Rd 5 encJ W A js) (hN : js.length = N) (hlit : lit = (ys.flatMap encJ).toArray) (hm : ys.length = m) (hs : (N + m) * 40 ≤ 140737488355328) :
    Appends Try.prog ((W.alloc (.cells mc 25)).alloc (.cells lit 25)).drew 22 22 (.slice (some ⟨W.heap.size, 0, none⟩) 0 n) (.slice A N c) ∧ ∃ v1 W1, appV Try.prog ((W.alloc (.cells mc 25)).alloc (.cells lit 25)).drew 22 22 (.slice (some ⟨W.heap.size, 0, none⟩) 0 n) (.slice A N c) = v1 ∧ appW Try.prog ((W.alloc (.cells mc 25)).alloc (.cells lit 25)).drew 22 22 (.slice (some ⟨W.heap.size, 0, none⟩) 0 n) (.slice A N c) = W1 ∧
      Appends Try.prog W1 22 22 v1 (.slice (some ⟨W.heap.size + 1, 0, none⟩) m m) ∧ ∃ v2 W2, appV Try.prog W1 22 22 v1 (.slice (some ⟨W.heap.size + 1, 0, none⟩) m m) = v2 ∧ appW Try.prog W1 22 22 v1 (.slice (some ⟨W.heap.size + 1, 0, none⟩) m m) = W2 ∧
        Hid (OwnJ W2 W.heap.size v2 (js ++ ys)) ∧ Hid (Below W.heap.size W W1) ∧ Hid (Below W.heap.size W W2) := by
  have ba : Below W.heap.size W (W.alloc (.cells mc 25)) := (Below.refl _ _).alloc (Nat.le_refl _) _
  have bb : Below W.heap.size W ((W.alloc (.cells mc 25)).alloc (.cells lit 25)).drew := (ba.alloc (by simp) _).drew
  have o : OwnJ ((W.alloc (.cells mc 25)).alloc (.cells lit 25)).drew W.heap.size (.slice (some ⟨W.heap.size, 0, none⟩) 0 n) [] := (hown W W.heap.size (Nat.le_refl _)).alloc _
  have rl : Rd 5 encJ ((W.alloc (.cells mc 25)).alloc (.cells lit 25)).drew (some ⟨W.heap.size + 1, 0, none⟩) ys := by
    have h := rd_litA hlit (W.alloc (.cells mc 25))
    rw [World.size_alloc] at h
    exact h
  obtain ⟨p1, v1, W1, av1, aw1, p2, v2, W2, av2, aw2, o2, x1, x2⟩ := two_apps (W0 := ((W.alloc (.cells mc 25)).alloc (.cells lit 25)).drew) (c := c) o bb.size (rd.keep bb) hN rl (by simp [Value.ownBlock]) hm hs
  exact ⟨p1, v1, W1, av1, aw1, p2, v2, W2, av2, aw2, Lib.hid o2, Lib.hid (bb.trans x1), Lib.hid (bb.trans x2)⟩
/-- The literal last. -/
theorem made_C (hown : ∀ (W : World) (base : Nat), base ≤ W.heap.size → OwnJ (W.alloc (.cells mc 25)) base (.slice (some ⟨W.heap.size, 0, none⟩) 0 n) []) (rd : Rd 5 encJ W A js) (hN : js.length = N) (hlit : lit = (ys.flatMap encJ).toArray) (hm : ys.length = m) (hs : (N + m) * 40 ≤ 140737488355328) :
    Appends Try.prog (W.alloc (.cells mc 25)).drew 22 22 (.slice (some ⟨W.heap.size, 0, none⟩) 0 n) (.slice A N c) ∧ ∃ v1 W1, appV Try.prog (W.alloc (.cells mc 25)).drew 22 22 (.slice (some ⟨W.heap.size, 0, none⟩) 0 n) (.slice A N c) = v1 ∧ appW Try.prog (W.alloc (.cells mc 25)).drew 22 22 (.slice (some ⟨W.heap.size, 0, none⟩) 0 n) (.slice A N c) = W1 ∧
      Appends Try.prog (W1.alloc (.cells lit 25)) 22 22 v1 (.slice (some ⟨W1.heap.size, 0, none⟩) m m) ∧ ∃ v2 W2, appV Try.prog (W1.alloc (.cells lit 25)) 22 22 v1 (.slice (some ⟨W1.heap.size, 0, none⟩) m m) = v2 ∧ appW Try.prog (W1.alloc (.cells lit 25)) 22 22 v1 (.slice (some ⟨W1.heap.size, 0, none⟩) m m) = W2 ∧
        Hid (OwnJ W2 W.heap.size v2 (js ++ ys)) ∧ Hid (Below W.heap.size W W1) ∧ Hid (Below W.heap.size W W2) := by
  have bb : Below W.heap.size W (W.alloc (.cells mc 25)).drew := ((Below.refl _ _).alloc (Nat.le_refl _) _).drew
  have o : OwnJ (W.alloc (.cells mc 25)).drew W.heap.size (.slice (some ⟨W.heap.size, 0, none⟩) 0 n) [] := hown W W.heap.size (Nat.le_refl _)
  obtain ⟨p1, v1, W1, av1, aw1, o1, s1⟩ := app_argJ (w := (W.alloc (.cells mc 25)).drew) (c := c) o (rd.keep bb) hN bb.size (by simp; omega)
  have hb1 := Nat.le_trans bb.size s1.out.bel.size
  have bc : Below W1.heap.size W1 (W1.alloc (.cells lit 25)) := (Below.refl _ _).alloc (Nat.le_refl _) _
  obtain ⟨p2, v2, W2, av2, aw2, o2, s2⟩ := app_argJ (w := W1.alloc (.cells lit 25)) (c := m) (o1.out.alloc _) (rd_litA hlit W1) hm (Nat.le_trans hb1 bc.size) (by rw [List.nil_append, hN]; exact hs)
  refine ⟨p1, v1, W1, av1, aw1, p2, v2, W2, av2, aw2, Lib.hid o2.out, Lib.hid (bb.trans s1.out.bel), Lib.hid ?_⟩
  exact ((bb.trans s1.out.bel).trans (bc.mono hb1)).trans s2.out.bel
end
end Go.Proofs.Ytgfcnkfmgpakkaa
