/-
Several texts in one: AppG, AppI.
-/
import Derived.Test.YtkbbapefgifagaaGreatDoorProg
import Derived.Test.YtkbbapefgifagaaGreatDoorGBase
import Derived.Test.YtkbbapefgifagaaGreatDoorGMath
import Derived.Deep.LoopGhost
import Derived.Deep.DeepCutAuto
import Derived.LoopN
import Derived.Handy
import Derived.Outline
import Derived.Deep.QuietTactic
import Derived.BigQuiet
import Derived.Lib.SliceRun
import Derived.Test.YtkbbapefgifagaaGreatDoorRows
/-
Appends of rows of any kind: numbers, texts; own lists that are written.
-/
namespace Go.Proofs.YtkbbapefgifagaaGreatDoor
open Go.RowKit
set_option linter.unusedVariables false
set_option linter.unusedSimpArgs false
theorem appInfoNum : (Tryz.prog.info? 3).map (fun i => (i.zero, i.size, i.bytes)) = some (some (.int .i64 0), 1, 8) := by kernel_rfl
abbrev OwnN (w : World) (base : Nat) (v : Value) (xs : List Int) : Prop := OwnR 3 1 encI w base v xs
theorem encI_len1 (x : Int) : (encI x).length = 1 := rfl
theorem encI_one (x : Int) (u : Value) (h : u ∈ encI x) : u.oneCell' = true := by
  simp [encI] at h
  rw [h]
  rfl
def ApartV (v u : Value) : Prop := v.ownBlock = none ∧ u.ownBlock = none ∨ v.ownBlock ≠ u.ownBlock
theorem apartV_not {v u : Value} {k : Nat} (hd : ApartV v u) (hk : u.ownBlock = some k) : ¬ v.ownBlock = some k := by
  rcases hd with ⟨_, x⟩ | x
  · rw [x] at hk; cases hk
  · intro h; exact x (by rw [h, hk])
theorem ApartV.symm {v u : Value} (h : ApartV v u) : ApartV u v := h.elim (fun x => .inl ⟨x.2, x.1⟩) (fun x => .inr (fun e => x e.symm))
theorem ApartV.nil (u : Value) : ApartV (.slice none 0 0) u := by
  cases h : u.ownBlock with
  | none => exact .inl ⟨rfl, h⟩
  | some k => exact .inr (by rw [h]; intro e; cases e)
/-- What an append to v leaves alone: other lists of the call's own, and cells elsewhere. -/
structure Aside (base : Nat) (v v' : Value) (w w1 : World) : Prop where
  row : ∀ {α : Type} {t : TypeId} {sz : Nat} {enc : α → List Value} {u : Value} {ys : List α}, OwnR t sz enc w base u ys → ApartV v u → OwnR t sz enc w1 base u ys ∧ ApartV v' u
  cell : ∀ {p : Addr} {c : Value}, w.cell? p = some c → v.ownBlock ≠ some p.block → w1.cell? p = some c
  bel : Below base w w1
  own : v'.ownBlock = v.ownBlock ∨ ∃ q, v'.ownBlock = some q ∧ w.heap.size ≤ q
/-- One row more, of any kind. -/
theorem app_lit {P : Program} {α : Type} {t e ty : TypeId} {sz bytes : Nat} {z : Value} {enc : α → List Value} {w : World} {base : Nat} {v : Value} {xs ys : List α} {m c : Nat} {lit : Array Value}
    (hinfo : (P.info? e).map (fun i => (i.zero, i.size, i.bytes)) = some (some z, sz, bytes)) (ht : P.underlying t = some (.slice e)) (hzs : z.cells.size = sz) (h0 : 0 < sz) (hsz : ∀ x, (enc x).length = sz) (hone : ∀ x u, u ∈ enc x → u.oneCell' = true)
    (h : OwnR e sz enc w base v xs) (hb : base ≤ w.heap.size) (hlit : lit = (ys.flatMap enc).toArray) (hym : ys.length = m) (hl : xs.length + m ≤ 1000000) (hbytes : bytes ≤ 1000) :
    Appends P (w.alloc (.cells lit e)) t ty v (.slice (some ⟨w.heap.size, 0, none⟩) m c) ∧
    ∃ v' w1, appV P (w.alloc (.cells lit e)) t ty v (.slice (some ⟨w.heap.size, 0, none⟩) m c) = v' ∧ appW P (w.alloc (.cells lit e)) t ty v (.slice (some ⟨w.heap.size, 0, none⟩) m c) = w1 ∧ Hid (OwnR e sz enc w1 base v' (xs ++ ys)) ∧ Hid (Aside base v v' w w1) := by
  have rd : Rd sz enc (w.alloc (.cells lit e)) (some ⟨w.heap.size, 0, none⟩) ys := by
    rw [hlit]
    exact (Own.new w e (ys.flatMap enc).toArray undef).rd (by rw [List.size_toArray, flatR_len hsz]; exact Nat.le_refl _) hsz (fun k x hx j v hv => by
      show (ys.flatMap enc).toArray[k * sz + j]?.getD undef = v
      rw [List.getElem?_toArray, flatR_at hsz ys k j x v hx hv]; rfl)
  obtain ⟨h1, v', w1, e1, e2, e3, e4, e5⟩ := app_rows (P := P) (ty := ty) (c := c) (m := m) hinfo ht hzs h0 hsz hone (h.alloc _) rd hym ⟨_, rfl⟩ (by simp; omega) (by unfold maxLen; omega)
    (Nat.le_trans (Nat.mul_le_mul hl hbytes) (by omega))
  have hm : Mod (fun k => v.ownBlock = some k) w w1 := ((Mod.refl _ w).alloc _).trans e4
  refine ⟨h1, v', w1, e1, e2, Lib.hid e3, Lib.hid ⟨?_, fun hc hn => (hm.cell (World.block_lt_of_cell? w _ hc) hn).trans hc, h.below hm hb, ?_⟩⟩
  · intro β t' sz' enc' u zs hu ha
    refine ⟨hu.mod hm (fun k hk => apartV_not ha hk), ?_⟩
    rcases e5 with x | x
    · unfold ApartV
      rw [x]
      exact ha
    · right
      rw [x]
      intro hq
      have := (World.ownsRow.lt hu _ hq.symm).2
      simp at this
      omega
  · rcases e5 with x | x
    · exact .inl x
    · exact .inr ⟨_, x, by simp⟩
theorem mk_noneR {P : Program} (t e : TypeId) (z : Value) (sz bytes : Nat) (ht : P.underlying t = some (.slice e)) (hinfo : (P.info? e).map (fun i => (i.zero, i.size, i.bytes)) = some (some z, sz, bytes))
    (n : Nat) (hb : (bytes : Int) * (n : Int) ≤ 281474976710656) (h63 : (n : Int) ≤ 9223372036854775807) (W : World) :
    (Instr.makeSlice t (.int .i64 0) (.int .i64 n)).run P W = .ok (.slice (some ⟨W.heap.size, 0, none⟩) 0 n) (W.alloc (.cells (madeCells z.cells (n * sz)) e)) := by
  obtain ⟨i, hi, hzz⟩ := Option.map_eq_some_iff.1 hinfo
  simp only [Prod.mk.injEq] at hzz
  obtain ⟨hz, hs, hbb⟩ := hzz
  have := run_make W t e i z ht hi hz .i64 .i64 0 n (by omega) (by omega) (by rw [hbb]; exact hb) h63
  rw [hs] at this
  exact this
theorem Aside.refl (base : Nat) (v : Value) (w : World) : Aside base v v w w := ⟨fun h a => ⟨h, a⟩, fun h _ => h, Below.refl _ _, .inl rfl⟩
/-- append(list, argument...). -/
theorem app_argR {P : Program} {α : Type} {t e ty : TypeId} {sz bytes : Nat} {z : Value} {enc : α → List Value} {w : World} {base : Nat} {v : Value} {xs ys : List α} {A : Option Addr} {m c : Nat}
    (hinfo : (P.info? e).map (fun i => (i.zero, i.size, i.bytes)) = some (some z, sz, bytes)) (ht : P.underlying t = some (.slice e)) (hzs : z.cells.size = sz) (h0 : 0 < sz) (hsz : ∀ x, (enc x).length = sz) (hone : ∀ x u, u ∈ enc x → u.oneCell' = true)
    (h : OwnR e sz enc w base v xs) (hy : Rd sz enc w A ys) (hym : ys.length = m) (hb : base ≤ w.heap.size) (hl : xs.length + m ≤ maxLen) (hbytes : (xs.length + m) * bytes ≤ 140737488355328) :
    Appends P w t ty v (.slice A m c) ∧ ∃ v' w1, appV P w t ty v (.slice A m c) = v' ∧ appW P w t ty v (.slice A m c) = w1 ∧ Hid (OwnR e sz enc w1 base v' (xs ++ ys)) ∧ Hid (Aside base v v' w w1) := by
  cases A with
  | none =>
    have hm0 : m = 0 := by
      rcases Nat.eq_zero_or_pos ys.length with h | h
      · omega
      · obtain ⟨b, off, e, _⟩ := hy h
        cases e
    subst hm0
    have hys : ys = [] := List.eq_nil_of_length_eq_zero hym
    subst hys
    obtain ⟨g1, g2, g3⟩ := app_none (P := P) (ty := ty) (c := c) hinfo ht h
    exact ⟨g1, v, w, g2, g3, Lib.hid (by rw [List.append_nil]; exact h), Lib.hid (Aside.refl _ _ _)⟩
  | some a =>
    obtain ⟨h1, v', w1, e1, e2, e3, e4, e5⟩ := app_rows (P := P) (ty := ty) (c := c) (m := m) hinfo ht hzs h0 hsz hone h hy hym ⟨_, rfl⟩ hb hl hbytes
    refine ⟨h1, v', w1, e1, e2, Lib.hid e3, Lib.hid ⟨?_, fun hc hn => (e4.cell (World.block_lt_of_cell? w _ hc) hn).trans hc, h.below e4 hb, ?_⟩⟩
    · intro β t' sz' enc' u zs hu ha
      refine ⟨hu.mod e4 (fun k hk => apartV_not ha hk), ?_⟩
      rcases e5 with x | x
      · unfold ApartV
        rw [x]
        exact ha
      · right
        rw [x]
        intro hq
        have := (World.ownsRow.lt hu _ hq.symm).2
        omega
    · rcases e5 with x | x
      · exact .inl x
      · exact .inr ⟨_, x, Nat.le_refl _⟩
/-- An own list of numbers, that may be written: its first numbers are those of x. -/
def RowX (w : World) (base : Nat) (A : Option Addr) (n c : Nat) (x : Nat → Int) : Prop := 0 < n → ∃ g F, A = some ⟨g, 0, none⟩ ∧ base ≤ g ∧ n ≤ c ∧ Own w g 3 c F ∧ ∀ i, i < n → F i = .int .i64 (x i)
theorem RowX.of {w : World} {base : Nat} {A : Option Addr} {n c : Nat} {xs : List Int} (h : OwnN w base (.slice A n c) xs) (hn : xs.length = n) : RowX w base A n c (fun i => fAt xs i) := by
  intro h0
  rcases h.2 with ⟨h1, h2⟩ | ⟨g, cap, cur, hv, hb, hg, hl, hm, hs, hc⟩
  · omega
  · injection hv with e1 e2 e3
    subst e3
    refine ⟨g, fun i => cur[i]?.getD (.int .i64 0), e1, hb, by omega, ⟨cur, hg, by omega, fun i hi => ?_⟩, fun i hi => ?_⟩
    · have : i < cur.size := by omega
      simp [Array.getElem?_eq_getElem this]
    · have h3 : (xs.flatMap encI)[i]? = some (.int .i64 (fAt xs i)) := by
        have := flatR_at encI_len1 xs i 0 (fAt xs i) (.int .i64 (fAt xs i)) (by unfold fAt; rw [List.getElem?_eq_getElem (by omega)]; rfl) rfl
        simpa using this
      rw [← hc, List.getElem?_take_of_lt (by omega), Array.getElem?_toList] at h3
      dsimp only
      rw [h3]
      rfl
theorem RowX.keep {w w' : World} {base : Nat} {A : Option Addr} {n c : Nat} {x : Nat → Int} (h : RowX w base A n c x) (hb : Below w.heap.size w w') : RowX w' base A n c x := by
  intro h0
  obtain ⟨g, F, e, h1, h2, h3, h4⟩ := h h0
  exact ⟨g, F, e, h1, h2, h3.keep hb h3.lt, h4⟩
theorem RowX.rd {w : World} {base : Nat} {A : Option Addr} {n c : Nat} {x : Nat → Int} (h : RowX w base A n c x) : Rd 1 encI w A (mk n x) := by
  intro h0
  rw [mk_len] at h0
  obtain ⟨g, F, rfl, h1, h2, h3, h4⟩ := h h0
  exact h3.rd (xs := mk n x) (by rw [mk_len]; omega) encI_len1 (fun k y hy j v hv => by
    have hk : k < n := by have := (List.getElem?_eq_some_iff.1 hy).1; rwa [mk_len] at this
    rw [mk_at _ hk] at hy
    injection hy with hy
    rcases j with _ | j
    · simp [encI] at hv
      rw [← hv, ← hy]
      simpa using h4 k hk
    · simp [encI] at hv) (by rw [mk_len]; exact h0)
theorem Own.newAt (w : World) (t : TypeId) (cs : Array Value) (g : Nat) (hg : w.heap.size = g) {n : Nat} (hn : cs.size = n) {f : Nat → Value} (hf : ∀ i, i < n → cs[i]? = some (f i)) : Own (w.alloc (.cells cs t)) g t n f := by
  subst hg hn
  exact (Own.new w t cs (.bool false)).congr (fun i hi => by rw [hf i hi]; rfl)
/-- Texts. -/
def encS (s : ByteArray) : List Value := [.string s]
theorem encS_len (s : ByteArray) : (encS s).length = 1 := rfl
theorem encS_one (s : ByteArray) (u : Value) (h : u ∈ encS s) : u.oneCell' = true := by
  simp [encS] at h
  rw [h]
  rfl
abbrev OwnT (w : World) (base : Nat) (v : Value) (xs : List ByteArray) : Prop := OwnR 9 1 encS w base v xs
theorem appInfoStr : (Tryz.prog.info? 9).map (fun i => (i.zero, i.size, i.bytes)) = some (some (.string ByteArray.empty), 1, 16) := by kernel_rfl
theorem app_str {w : World} {base : Nat} {v : Value} {xs : List ByteArray} (a : ByteArray) (h : OwnT w base v xs) (hb : base ≤ w.heap.size) (hl : xs.length ≤ 100000) :
    Appends Tryz.prog (w.alloc (.cells #[.string a] 9)) 179 179 v (.slice (some ⟨w.heap.size, 0, none⟩) 1 1) ∧
    ∃ v' w1, appV Tryz.prog (w.alloc (.cells #[.string a] 9)) 179 179 v (.slice (some ⟨w.heap.size, 0, none⟩) 1 1) = v' ∧
      appW Tryz.prog (w.alloc (.cells #[.string a] 9)) 179 179 v (.slice (some ⟨w.heap.size, 0, none⟩) 1 1) = w1 ∧ Hid (OwnT w1 base v' (xs ++ [a])) ∧ Hid (Aside base v v' w w1) :=
  app_lit appInfoStr Tryz.underlying179 rfl (by omega) encS_len encS_one h hb rfl rfl (by omega) (by omega)
end Go.Proofs.YtkbbapefgifagaaGreatDoor
/-
Appending one number to a list of the call's own: what the append runs to, as rules of the walk.
-/
namespace Go.Proofs.YtkbbapefgifagaaGreatDoor
open Go.RowKit

theorem appInfoInt : (Tryz.prog.info? 3).map (fun i => (i.zero, i.size, i.bytes)) = some (some (.int .i64 0), 1, 8) := by kernel_rfl
/-- The slice value v is the call's own (blocks from base on) and holds the numbers xs. -/
def OwnL (w : World) (base : Nat) (v : Value) (xs : List Int) : Prop := w.ownsRow base 3 1 v xs.length (xs.map (Value.int .i64))
theorem OwnL.nil (w : World) (base : Nat) : OwnL w base (.slice none 0 0) [] := World.ownsRow_nil _ _ _ _
theorem OwnL.shape {w : World} {base : Nat} {v : Value} {xs : List Int} (h : OwnL w base v xs) : ∃ a c, v = .slice a xs.length c := by
  rcases h.2 with ⟨h1, h2⟩ | ⟨g, cap, cur, hv, _⟩
  · exact ⟨none, 0, by rw [h1, h2]⟩
  · exact ⟨_, cap, hv⟩
theorem OwnL.mod {w w' : World} {base : Nat} {v : Value} {xs : List Int} {M : Nat → Prop} (h : OwnL w base v xs) (hm : Mod M w w') (hn : ∀ k, v.ownBlock = some k → ¬ M k) : OwnL w' base v xs := by
  refine ⟨h.1, ?_⟩
  rcases h.2 with x | ⟨g, cap, cur, rfl, hb, hgg, rest⟩
  · exact .inl x
  · refine .inr ⟨g, cap, cur, rfl, hb, ?_, rest⟩
    rw [hm.block g (Array.getElem?_eq_some_iff.1 hgg).1 (hn g rfl)]
    exact hgg
theorem OwnL.keep {w w' : World} {base : Nat} {v : Value} {xs : List Int} (h : OwnL w base v xs) (hb : Below w.heap.size w w') : OwnL w' base v xs :=
  h.mod (Mod.of_below hb) (fun k hk => by have := (World.ownsRow.lt h k hk).2; omega)
theorem OwnL.rd {w : World} {base : Nat} {v : Value} {xs : List Int} (h : OwnL w base v xs) : ∃ a c, v = .slice a xs.length c ∧ Rd 1 encI w a xs := by
  obtain ⟨a, c, hv⟩ := h.shape
  refine ⟨a, c, hv, ?_⟩
  intro h0
  obtain ⟨g, cap, hv', _, hlt⟩ := World.ownsRow.form h h0
  rw [hv] at hv'
  injection hv' with e1 _ _
  subst e1
  refine ⟨g, 0, rfl, hlt, ?_⟩
  intro k x hx j u hu
  have hj : j = 0 := by have := (List.getElem?_eq_some_iff.1 hu).1; simp [encI] at this; exact this
  subst hj
  simp only [encI, List.getElem?_cons_zero, Option.some.injEq] at hu
  subst hu
  have := World.ownsRow.cells h (g := g) (by rw [hv]; rfl) k (.int .i64 x) (by rw [List.getElem?_map, hx]; rfl)
  have hadd : (⟨g, 0, none⟩ : Addr).add k = ⟨g, k, none⟩ := by unfold Addr.add; by_cases h : k = 0 <;> simp [h]
  rw [hadd] at this
  rw [Nat.mul_one, Nat.add_zero, Nat.zero_add]
  exact this
theorem app_int {w : World} {base : Nat} {v : Value} {xs : List Int} (x : Int) (h : OwnL w base v xs) (hb : base ≤ w.heap.size) (hl : xs.length ≤ 1000000) :
    Appends Tryz.prog (w.alloc (.cells #[.int .i64 x] 3)) 30 30 v (.slice (some ⟨w.heap.size, 0, none⟩) 1 1) ∧
    ∃ v' w1, appV Tryz.prog (w.alloc (.cells #[.int .i64 x] 3)) 30 30 v (.slice (some ⟨w.heap.size, 0, none⟩) 1 1) = v' ∧
      appW Tryz.prog (w.alloc (.cells #[.int .i64 x] 3)) 30 30 v (.slice (some ⟨w.heap.size, 0, none⟩) 1 1) = w1 ∧
      OwnL w1 base v' (xs ++ [x]) ∧ Mod (fun k => v.ownBlock = some k) w w1 ∧ (v'.ownBlock = v.ownBlock ∨ v'.ownBlock = some (w.heap.size + 1)) := by
  obtain ⟨i0, hi0, hz0, hz1, hz2⟩ := info_parts appInfoInt
  obtain ⟨gg, cap, w1, hrun, hown1, hgrow, hat, hgl⟩ := run_append_lies (P := Tryz.prog) (w.alloc (.cells #[.int .i64 x] 3)) 30 30 base 3 i0 _ 1 8 Tryz.underlying30 hi0 hz0 hz1 hz2 rfl (by omega) v xs.length (xs.map (Value.int .i64)) (World.ownsRow.alloc h _) ⟨w.heap.size, 0, none⟩ 1 1 [.int .i64 x] rfl (World.news_of_block (cs := #[.int .i64 x]) (t := 3) (fr := (0, 0)) (heap_alloc_new w _)) (by simp [Value.oneCell']) (by omega) (by unfold maxLen; omega) (by omega) (by simp; omega) (w.heap.size + 1) (by simp)
  obtain ⟨ap1, ap2, ap3⟩ := appends_of hrun
  refine ⟨ap1, _, w1, ap2, ap3, ?_, ((Mod.refl _ w).alloc _).grown hgrow (fun k hk => .inl hk), ?_⟩
  · unfold OwnL
    rw [List.length_append, List.map_append]
    exact hown1
  · rcases hat with e | e
    · exact .inl (by rw [e]; rfl)
    · exact .inr (by rw [e]; rfl)
/-- An own list lies below nothing old. -/
theorem OwnL.below {w w1 : World} {base : Nat} {v : Value} {xs : List Int} (h : OwnL w base v xs) (hm : Mod (fun k => v.ownBlock = some k) w w1) (hb : base ≤ w.heap.size) : Below base w w1 :=
  hm.below hb (fun k _ hk => (World.ownsRow.lt h k hk).1)
end Go.Proofs.YtkbbapefgifagaaGreatDoor
