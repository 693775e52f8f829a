/-
Rows: plain words, a list of rows that grows, Rows' closure, choose.
-/
import Derived.Test.YtbalhbpaholakaaCLimF0
import Derived.Test.YtbalhbpaholakaaCAppG
import Derived.Test.YtbalhbpaholakaaGLRefA
import Derived.Test.YtbalhbpaholakaaGLTreeH
namespace Go.Proofs.Ytbalhbpaholakaa
open Go.RowKit
set_option linter.unusedVariables false
set_option linter.unusedSimpArgs false
structure GRow where
  cap : Int
  mem : List Int
deriving DecidableEq
def usesB (s : GSite) (p : Nat) (i : Int) : Bool := bitP (phOf s i.toNat) p
/-- The chargers below conductor t / 3 on phase t % 3. -/
def memL (s : GSite) (t : Nat) : List Int := (belowL s ((t / 3 : Nat) : Int) s.chgs.length).filter (usesB s (t % 3))
def rowsL (s : GSite) (m : Nat) : List GRow := (List.range m).filterMap (fun t => if (memL s t).length = 0 then none else some ⟨limAt s (t / 3), memL s t⟩)
noncomputable def rowsO (s : GSite) : List GRow := if okSB keyL s = true then rowsL s (s.cons.length * 3) else []
theorem rowsL_no {s : GSite} {t : Nat} (h : (memL s t).length = 0) : rowsL s (t + 1) = rowsL s t := by
  unfold rowsL
  have h' : memL s t = [] := List.length_eq_zero_iff.1 h
  rw [List.range_succ, List.filterMap_append]
  simp [h']
theorem rowsL_yes {s : GSite} {t : Nat} (h : ¬ (memL s t).length = 0) : rowsL s (t + 1) = rowsL s t ++ [⟨limAt s (t / 3), memL s t⟩] := by
  unfold rowsL
  have h' : ¬ memL s t = [] := fun e => h (by rw [e]; rfl)
  rw [List.range_succ, List.filterMap_append]
  simp [h']
theorem rowsL_len (s : GSite) (m : Nat) : (rowsL s m).length ≤ m := by
  unfold rowsL
  exact Nat.le_trans (List.length_filterMap_le _ _) (by simp)
theorem rowsO_no {s : GSite} (h : okSB keyL s = false) : rowsO s = [] := by unfold rowsO; rw [h]; rfl
theorem rowsO_yes {s : GSite} (h : okSB keyL s = true) : rowsO s = rowsL s (s.cons.length * 3) := by unfold rowsO; rw [if_pos h]
/-- A row's value: its cap, the slice of its members. -/
abbrev RowH : Type := Int × Option Addr × Nat × Nat
def encHd (h : RowH) : List Value := [.int .i64 h.1, .slice h.2.1 h.2.2.1 h.2.2.2]
theorem encHd_len (h : RowH) : (encHd h).length = 2 := rfl
theorem encHd_one (h : RowH) (u : Value) (hu : u ∈ encHd h) : u.oneCell' = true := by
  simp [encHd] at hu
  rcases hu with rfl | rfl <;> rfl
def MemOk (W : World) (h : RowH) (r : GRow) : Prop := h.1 = r.cap ∧ h.2.2.1 = r.mem.length ∧ Rd 1 encI W h.2.1 r.mem
/-- Rows that are read. -/
def RdRows (W : World) (A : Option Addr) (hs : List RowH) (rs : List GRow) : Prop := Rd 2 encHd W A hs ∧ hs.length = rs.length ∧ ∀ (k : Nat) (h : RowH) (r : GRow), hs[k]? = some h → rs[k]? = some r → MemOk W h r
theorem RdRows.keep {W W' : World} {A : Option Addr} {hs : List RowH} {rs : List GRow} (h : RdRows W A hs rs) (hb : Below W.heap.size W W') : RdRows W' A hs rs :=
  ⟨h.1.keep hb, h.2.1, fun k x r hx hr => ⟨(h.2.2 k x r hx hr).1, (h.2.2 k x r hx hr).2.1, (h.2.2 k x r hx hr).2.2.keep hb⟩⟩
theorem RdRows.nil (W : World) : RdRows W none [] [] := ⟨Rd.nil, rfl, fun k h r hx => by simp at hx⟩
/-- What Rows does. -/
def RwPost (w : World) (s : GSite) (e : Ending) (w' : World) : Prop := ∃ a c hs, e = .returned (.tuple #[.slice a (rowsO s).length c, .int .i64 (errO (okSB keyL s))]) ∧ RdRows w' a hs (rowsO s) ∧ Below w.heap.size w w'
/-- Rows that grow. -/
structure RwL (W : World) (base : Nat) (v : Value) (hs : List RowH) (rs : List GRow) : Prop where
  own : OwnR 47 2 encHd W base v hs
  len : hs.length = rs.length
  mem : ∀ (k : Nat) (h : RowH) (r : GRow), hs[k]? = some h → rs[k]? = some r → MemOk W h r ∧ ∀ a, h.2.1 = some a → a.block < W.heap.size ∧ v.ownBlock ≠ some a.block
theorem RwL.nil (W : World) (base : Nat) : RwL W base (.slice none 0 0) [] [] := ⟨OwnR.nil _ _, rfl, fun k h r hx => by simp at hx⟩
theorem RwL.keep {W W' : World} {base : Nat} {v : Value} {hs : List RowH} {rs : List GRow} (h : RwL W base v hs rs) (hb : Below W.heap.size W W') : RwL W' base v hs rs :=
  ⟨h.own.keep hb, h.len, fun k x r hx hr => by
    obtain ⟨⟨m1, m2, m3⟩, m4⟩ := h.mem k x r hx hr
    exact ⟨⟨m1, m2, m3.keep hb⟩, fun a ha => ⟨Nat.lt_of_lt_of_le (m4 a ha).1 hb.size, (m4 a ha).2⟩⟩⟩
theorem RwL.mod {W W' : World} {base : Nat} {v : Value} {hs : List RowH} {rs : List GRow} (h : RwL W base v hs rs) {M : Nat → Prop} (hm : Mod M W W') (h0 : ∀ k, v.ownBlock = some k → ¬ M k) (h1 : ∀ (k : Nat) (x : RowH), hs[k]? = some x → ∀ a, x.2.1 = some a → ¬ M a.block) : RwL W' base v hs rs :=
  ⟨h.own.mod hm h0, h.len, fun k x r hx hr => by
    obtain ⟨⟨m1, m2, m3⟩, m4⟩ := h.mem k x r hx hr
    exact ⟨⟨m1, m2, m3.mod hm (fun a ha _ => h1 k x hx a ha)⟩, fun a ha => ⟨Nat.lt_of_lt_of_le (m4 a ha).1 hm.size, (m4 a ha).2⟩⟩⟩
theorem ownR_nc {α : Type} {t : TypeId} {sz : Nat} {enc : α → List Value} {B : Nat} {W W' : World} {base : Nat} {v : Value} {xs : List α} (h : OwnR t sz enc W base v xs) (hn : Nc B W W') : OwnR t sz enc W' base v xs := ownsRow_nc h hn
theorem RwL.nc {W W' : World} {base : Nat} {v : Value} {hs : List RowH} {rs : List GRow} (h : RwL W base v hs rs) {B : Nat} (hn : Nc B W W') : RwL W' base v hs rs :=
  ⟨ownR_nc h.own hn, h.len, fun k x r hx hr => by
    obtain ⟨⟨m1, m2, m3⟩, m4⟩ := h.mem k x r hx hr
    refine ⟨⟨m1, m2, m3.ncL hn⟩, fun a ha => ⟨?_, (m4 a ha).2⟩⟩
    obtain ⟨row, hg, _⟩ := hn
    exact Nat.lt_of_lt_of_le (m4 a ha).1 hg.size⟩
theorem appInfoRow : (Try.prog.info? 47).map (fun i => (i.zero, i.size, i.bytes)) = some (some (.agg #[.int .i64 0, .slice none 0 0]), 2, 32) := by kernel_rfl
/-- One row more. -/
theorem app_row {W : World} {base : Nat} {v : Value} {hs : List RowH} {rs : List GRow} (h : RwL W base v hs rs) (hb : base ≤ W.heap.size) (hl : hs.length ≤ 100000) (cap : Int) (a : Option Addr) (n c : Nat) (mem : List Int) (hn : n = mem.length) (hr : Rd 1 encI W a mem) (ha : ∀ x, a = some x → x.block < W.heap.size ∧ v.ownBlock ≠ some x.block) :
    Appends Try.prog (W.alloc (.cells #[.int .i64 cap, .slice a n c] 47)) 35 35 v (.slice (some ⟨W.heap.size, 0, none⟩) 1 1) ∧
    ∃ v' w1, appV Try.prog (W.alloc (.cells #[.int .i64 cap, .slice a n c] 47)) 35 35 v (.slice (some ⟨W.heap.size, 0, none⟩) 1 1) = v' ∧
      appW Try.prog (W.alloc (.cells #[.int .i64 cap, .slice a n c] 47)) 35 35 v (.slice (some ⟨W.heap.size, 0, none⟩) 1 1) = w1 ∧ Hid (RwL w1 base v' (hs ++ [(cap, a, n, c)]) (rs ++ [⟨cap, mem⟩])) ∧ Hid (Mod (fun j => v.ownBlock = some j) W w1) ∧ Hid (∃ a' c', v' = .slice a' (hs.length + 1) c') ∧ Hid (∀ j, v'.ownBlock = some j → base ≤ j) ∧ Hid (∀ j, j < W.heap.size → v.ownBlock ≠ some j → v'.ownBlock ≠ some j) := by
  have rd : Rd 2 encHd (W.alloc (.cells #[.int .i64 cap, .slice a n c] 47)) (some ⟨W.heap.size, 0, none⟩) [((cap, a, n, c) : RowH)] :=
    (Own.new W 47 #[.int .i64 cap, .slice a n c] undef).rd (by show 1 * 2 ≤ 2; omega) encHd_len (fun k x hx j v hv => by
      have hk : k = 0 := by have := (List.getElem?_eq_some_iff.1 hx).1; simpa using this
      subst hk
      simp at hx
      subst hx
      match j, hv with
      | 0, hv => simp [encHd] at hv; rw [← hv]; rfl
      | 1, hv => simp [encHd] at hv; rw [← hv]; rfl
      | j + 2, hv => simp [encHd] at hv)
  obtain ⟨h1, v', w1, e1, e2, e3, e4, e5⟩ := app_rows (P := Try.prog) (ty := 35) (c := 1) (m := 1) appInfoRow Try.underlying35 rfl (by omega) encHd_len encHd_one (h.own.alloc _) rd rfl ⟨_, rfl⟩ (by simp; omega) (by unfold maxLen; omega) (by omega)
  have hM : Mod (fun k => v.ownBlock = some k) W w1 := ((Mod.refl _ W).alloc _).trans e4
  refine ⟨h1, v', w1, e1, e2, Lib.hid ⟨e3, by simp [h.len], ?_⟩, Lib.hid hM, ?_, ?_, ?_⟩
  · have hbel : W.heap.size ≤ w1.heap.size := hM.size
    have hrd : ∀ (A : Option Addr) (zs : List Int), Rd 1 encI W A zs → (∀ x, A = some x → x.block < W.heap.size ∧ v.ownBlock ≠ some x.block) → Rd 1 encI w1 A zs := by
      intro A zs hz hx h0
      obtain ⟨b, off, hAe, hlt, hc⟩ := hz h0
      have h2 := hx _ hAe
      refine ⟨b, off, hAe, Nat.lt_of_lt_of_le hlt hbel, fun k x hk j u hu => (hM.cell (World.block_lt_of_cell? W _ (hc k x hk j u hu)) h2.2).trans (hc k x hk j u hu)⟩
    have hap : ∀ x : Addr, x.block < W.heap.size ∧ v.ownBlock ≠ some x.block → x.block < w1.heap.size ∧ v'.ownBlock ≠ some x.block := by
      intro x hx
      refine ⟨Nat.lt_of_lt_of_le hx.1 hbel, ?_⟩
      rcases e5 with e | e
      · rw [e]; exact hx.2
      · rw [e]
        intro e2
        injection e2 with e2
        simp at e2
        omega
    intro k x r hx hr2
    rcases Nat.lt_or_ge k hs.length with hk | hk
    · rw [List.getElem?_append_left hk] at hx
      rw [List.getElem?_append_left (by rw [← h.len]; exact hk)] at hr2
      obtain ⟨⟨m1, m2, m3⟩, m4⟩ := h.mem k x r hx hr2
      exact ⟨⟨m1, m2, hrd _ _ m3 m4⟩, fun y hy => hap y (m4 y hy)⟩
    · rw [List.getElem?_append_right hk] at hx
      rw [List.getElem?_append_right (by rw [← h.len]; exact hk)] at hr2
      have hk0 : k - hs.length = 0 := by
        have := (List.getElem?_eq_some_iff.1 hx).1
        simp at this
        omega
      rw [hk0] at hx
      rw [← h.len, hk0] at hr2
      simp at hx hr2
      subst hx hr2
      exact ⟨⟨rfl, hn, hrd _ _ hr ha⟩, fun y hy => hap y (ha y hy)⟩
  · exact Lib.hid (by
      obtain ⟨a', c', hv⟩ := e3.shape
      exact ⟨a', c', by rw [hv]; simp⟩)
  · exact Lib.hid (fun j hj => (World.ownsRow.lt e3 j hj).1)
  · exact Lib.hid (fun j hj hne => by
      rcases e5 with e | e
      · rw [e]; exact hne
      · rw [e]
        intro e2
        injection e2 with e2
        simp at e2
        omega)
end Go.Proofs.Ytbalhbpaholakaa
