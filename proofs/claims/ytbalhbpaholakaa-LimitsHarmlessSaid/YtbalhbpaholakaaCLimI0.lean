/-
Rows: what holds between two phases.
-/
import Derived.Test.YtbalhbpaholakaaCLimH
namespace Go.Proofs.Ytbalhbpaholakaa
open Go.RowKit
set_option linter.unusedVariables false
set_option linter.unusedSimpArgs false
structure RwM (w W : World) (a1 : Option Addr) (n1 c1 : Nat) (a2 : Option Addr) (n2 c2 : Nat) (a3 : Option Addr) (n3 c3 : Nat) (a4 : Option Addr) (n4 c4 : Nat) (a5 : Option Addr) (n5 c5 : Nat) (R : Nat) (v : Value) (hs : List RowH) (rs : List GRow) (ys : List Int) : Prop where
  k0 : W.cell? ⟨w.heap.size, 0, none⟩ = some (.slice a1 n1 c1)
  k1 : W.cell? ⟨w.heap.size, 1, none⟩ = some (.slice a2 n2 c2)
  k2 : W.cell? ⟨w.heap.size, 2, none⟩ = some (.slice a3 n3 c3)
  k3 : W.cell? ⟨w.heap.size, 3, none⟩ = some (.slice a4 n4 c4)
  k4 : W.cell? ⟨w.heap.size, 4, none⟩ = some (.slice a5 n5 c5)
  orr : Own W R 35 1 (fun _ => v)
  ob : ∃ ab cb, Own W (R + 1) 29 1 (fun _ => .slice ab ys.length cb) ∧ Rd 1 encI W ab ys ∧ (0 < ys.length → ∀ x, ab = some x → x.block < W.heap.size ∧ v.ownBlock ≠ some x.block ∧ x.block ≠ R ∧ x.block ≠ R + 1)
  rw : RwL W (R + 2) v hs rs
  hm : ∀ (k : Nat) (x : RowH), hs[k]? = some x → ∀ a, x.2.1 = some a → R + 2 ≤ a.block
  bel : Below w.heap.size w W
  lR : w.heap.size < R
section
variable {w W W' : World} {a1 : Option Addr} {n1 c1 : Nat} {a2 : Option Addr} {n2 c2 : Nat} {a3 : Option Addr} {n3 c3 : Nat} {a4 : Option Addr} {n4 c4 : Nat} {a5 : Option Addr} {n5 c5 : Nat} {R : Nat} {v : Value} {hs : List RowH} {rs : List GRow} {ys : List Int}
theorem RwM.own_ge (m : RwM w W a1 n1 c1 a2 n2 c2 a3 n3 c3 a4 n4 c4 a5 n5 c5 R v hs rs ys) {q : Nat} (h : v.ownBlock = some q) : R + 2 ≤ q ∧ q < W.heap.size := World.ownsRow.lt m.rw.own q h
theorem RwM.nc (h : RwM w W a1 n1 c1 a2 n2 c2 a3 n3 c3 a4 n4 c4 a5 n5 c5 R v hs rs ys) {B : Nat} (hn : Nc B W W') (hB : w.heap.size ≤ B) : RwM w W' a1 n1 c1 a2 n2 c2 a3 n3 c3 a4 n4 c4 a5 n5 c5 R v hs rs ys :=
  have hsz : W.heap.size ≤ W'.heap.size := by obtain ⟨row, hg, _⟩ := hn; exact hg.size
  ⟨cell_nc1 h.k0 hn, cell_nc1 h.k1 hn, cell_nc1 h.k2 hn, cell_nc1 h.k3 hn, cell_nc1 h.k4 hn, h.orr.nc hn, let ⟨ab, cb, o, r, x⟩ := h.ob; ⟨ab, cb, o.nc hn, r.ncL hn, fun h0 y hy => ⟨Nat.lt_of_lt_of_le (x h0 y hy).1 hsz, (x h0 y hy).2⟩⟩, h.rw.nc hn, h.hm, below_nc h.bel (Nat.le_refl _) hn hB, h.lR⟩
theorem RwM.keep (h : RwM w W a1 n1 c1 a2 n2 c2 a3 n3 c3 a4 n4 c4 a5 n5 c5 R v hs rs ys) (hb : Below W.heap.size W W') : RwM w W' a1 n1 c1 a2 n2 c2 a3 n3 c3 a4 n4 c4 a5 n5 c5 R v hs rs ys :=
  have cl : ∀ {p : Addr} {v : Value}, W.cell? p = some v → W'.cell? p = some v := fun {p v} hp => (hb.cell (World.block_lt_of_cell? W p hp)).trans hp
  ⟨cl h.k0, cl h.k1, cl h.k2, cl h.k3, cl h.k4, h.orr.keep hb h.orr.lt, let ⟨ab, cb, o, r, x⟩ := h.ob; ⟨ab, cb, o.keep hb o.lt, r.keep hb, fun h0 y hy => ⟨Nat.lt_of_lt_of_le (x h0 y hy).1 hb.size, (x h0 y hy).2⟩⟩, h.rw.keep hb, h.hm, below_then h.bel hb, h.lR⟩
theorem RwM.cells (m : RwM w W a1 n1 c1 a2 n2 c2 a3 n3 c3 a4 n4 c4 a5 n5 c5 R v hs rs ys) (q : Nat) (hq : v.ownBlock = some q ∨ q = R ∨ q = R + 1) (o : Obj) (ho : W.heap[q]? = some o) : o.isCells = true := by
  rcases hq with h | h | h
  · rcases m.rw.own.2 with ⟨rfl, _⟩ | ⟨g, cap, cur, rfl, hb, hgg, _⟩
    · cases h
    · cases h
      rw [hgg] at ho
      cases ho
      rfl
  · subst h; exact m.orr.cellsAt ho
  · subst h
    obtain ⟨ab, cb, o', _, _⟩ := m.ob
    exact o'.cellsAt ho
/-- The chargers below are stored. -/
theorem RwM.setBelow (m : RwM w W a1 n1 c1 a2 n2 c2 a3 n3 c3 a4 n4 c4 a5 n5 c5 R v hs rs ys) (ab : Option Addr) (n cb : Nat) (zs : List Int) (hn : n = zs.length) (hr : Rd 1 encI W ab zs) (hf : 0 < zs.length → ∀ x, ab = some x → x.block < W.heap.size ∧ v.ownBlock ≠ some x.block ∧ x.block ≠ R ∧ x.block ≠ R + 1) :
    RwM w (W.setCell ⟨R + 1, 0, none⟩ (.slice ab n cb)) a1 n1 c1 a2 n2 c2 a3 n3 c3 a4 n4 c4 a5 n5 c5 R v hs rs zs := by
  have hm : Mod (fun j => j = R + 1) W (W.setCell ⟨R + 1, 0, none⟩ (.slice ab n cb)) := (Mod.refl (fun j => j = R + 1) W).setCell (p := ⟨R + 1, 0, none⟩) (.inl rfl) _
  have lR := m.lR
  have cl : ∀ {p : Addr} {u : Value}, W.cell? p = some u → p.block ≠ R + 1 → (W.setCell ⟨R + 1, 0, none⟩ (.slice ab n cb)).cell? p = some u := fun {p u} hp hne => (hm.cell (World.block_lt_of_cell? W p hp) hne).trans hp
  refine ⟨cl m.k0 (by show w.heap.size ≠ R + 1; omega), cl m.k1 (by show w.heap.size ≠ R + 1; omega), cl m.k2 (by show w.heap.size ≠ R + 1; omega), cl m.k3 (by show w.heap.size ≠ R + 1; omega), cl m.k4 (by show w.heap.size ≠ R + 1; omega), m.orr.mod hm (by omega), ?_, ?_, m.hm, m.bel.trans (hm.below m.bel.size (fun j _ h => by omega)), m.lR⟩
  · subst hn
    obtain ⟨_, _, o, _, _⟩ := m.ob
    exact ⟨ab, cb, o.set1 _, hr.mod hm (fun a ha h0 => (hf h0 a ha).2.2.2), fun h0 x hx => ⟨Nat.lt_of_lt_of_le (hf h0 x hx).1 hm.size, (hf h0 x hx).2⟩⟩
  · refine m.rw.mod hm (fun k hk => by have := (m.own_ge hk).1; omega) (fun k x hx a ha => by have := m.hm k x hx a ha; omega)
/-- A row is appended and stored. -/
theorem RwM.push (m : RwM w W a1 n1 c1 a2 n2 c2 a3 n3 c3 a4 n4 c4 a5 n5 c5 R v hs rs ys) {w1 : World} {v' : Value} {x : RowH} {r : GRow} (hL : RwL w1 (R + 2) v' (hs ++ [x]) (rs ++ [r])) (hM : Mod (fun j => v.ownBlock = some j) W w1) (hne : ∀ j, j < W.heap.size → v.ownBlock ≠ some j → v'.ownBlock ≠ some j) (hx : ∀ a, x.2.1 = some a → R + 2 ≤ a.block) :
    RwM w (w1.setCell ⟨R, 0, none⟩ v') a1 n1 c1 a2 n2 c2 a3 n3 c3 a4 n4 c4 a5 n5 c5 R v' (hs ++ [x]) (rs ++ [r]) ys ∧ Mod (fun j => v.ownBlock = some j ∨ j = R) W (w1.setCell ⟨R, 0, none⟩ v') := by
  have hm : Mod (fun j => v.ownBlock = some j ∨ j = R) W (w1.setCell ⟨R, 0, none⟩ v') := (hM.mono (fun j _ h => .inl h)).setCell (p := ⟨R, 0, none⟩) (.inl (.inr rfl)) _
  have hm2 : Mod (fun j => j = R) w1 (w1.setCell ⟨R, 0, none⟩ v') := (Mod.refl (fun j => j = R) w1).setCell (p := ⟨R, 0, none⟩) (.inl rfl) _
  have lR := m.lR
  have no : ∀ {b : Nat}, b < R → ¬ (v.ownBlock = some b ∨ b = R) := fun {b} hb h => by
    rcases h with h | h
    · have := (m.own_ge h).1; omega
    · omega
  have cl : ∀ {p : Addr} {u : Value}, W.cell? p = some u → p.block < R → (w1.setCell ⟨R, 0, none⟩ v').cell? p = some u := fun {p u} hp hne => (hm.cell (World.block_lt_of_cell? W p hp) (no hne)).trans hp
  have hmx : ∀ (k : Nat) (y : RowH), (hs ++ [x])[k]? = some y → ∀ a, y.2.1 = some a → R + 2 ≤ a.block := by
    intro k y hy a ha
    rcases Nat.lt_or_ge k hs.length with hk | hk
    · rw [List.getElem?_append_left hk] at hy
      exact m.hm k y hy a ha
    · rw [List.getElem?_append_right hk] at hy
      have hk0 : k - hs.length = 0 := by
        have := (List.getElem?_eq_some_iff.1 hy).1
        simp at this
        omega
      rw [hk0] at hy
      simp at hy
      subst hy
      exact hx a ha
  refine ⟨⟨cl m.k0 lR, cl m.k1 lR, cl m.k2 lR, cl m.k3 lR, cl m.k4 lR, ?_, ?_, ?_, hmx, m.bel.trans (hm.below m.bel.size (fun j _ h => by
    rcases h with h | h
    · have := (m.own_ge h).1; omega
    · omega)), m.lR⟩, hm⟩
  · exact (m.orr.mod hM (fun h => by have := (m.own_ge h).1; omega)).set1 _
  · obtain ⟨ab, cb, o, r, f⟩ := m.ob
    refine ⟨ab, cb, o.mod hm (fun h => by
      rcases h with h | h
      · have := (m.own_ge h).1; omega
      · omega), r.mod hm (fun a ha h0 h => ?_), fun h0 y hy => ⟨Nat.lt_of_lt_of_le (f h0 y hy).1 hm.size, hne _ (f h0 y hy).1 (f h0 y hy).2.1, (f h0 y hy).2.2⟩⟩
    rcases h with h | h
    · exact (f h0 a ha).2.1 h
    · exact (f h0 a ha).2.2.1 h
  · exact hL.mod hm2 (fun k hk => by have := (World.ownsRow.lt hL.own k hk).1; omega) (fun k y hy a ha => by have := hmx k y hy a ha; omega)
end
theorem OwnR.taken {α : Type} {t : TypeId} {sz : Nat} {enc : α → List Value} {B : Nat} {W W' : World} {base : Nat} {v : Value} {xs : List α} (h : OwnR t sz enc W base v xs) (hT : Taken B W W') : OwnR t sz enc W' base v xs := by
  refine ⟨h.1, ?_⟩
  rcases h.2 with x | ⟨g, cap, cur, rfl, hb, hgg, rest⟩
  · exact .inl x
  · exact .inr ⟨g, cap, cur, rfl, hb, hT.2.2.2.2.2 g _ hgg rfl, rest⟩
theorem cell_taken {B : Nat} {W W' : World} (hT : Taken B W W') {p : Addr} {v : Value} (h : W.cell? p = some v) : W'.cell? p = some v := by
  unfold World.cell? at *
  cases hc : W.heap[p.block]? with
  | none => rw [hc] at h; simp at h
  | some o =>
    rw [hc] at h
    cases o with
    | cells cs t => rw [hT.2.2.2.2.2 _ _ hc rfl]; exact h
    | _ => simp at h
theorem Rd.takenL {α : Type} {sz : Nat} {enc : α → List Value} {A : Option Addr} {xs : List α} {B : Nat} {W W' : World} (hr : Rd sz enc W A xs) (hT : Taken B W W') : Rd sz enc W' A xs := by
  intro h0
  obtain ⟨b, off, hA, hlt, hc⟩ := hr h0
  exact ⟨b, off, hA, by rw [hT.2.2.2.1]; exact hlt, fun k x hx j v hv => cell_taken hT (hc k x hx j v hv)⟩
theorem RwL.taken {B : Nat} {W W' : World} {base : Nat} {v : Value} {hs : List RowH} {rs : List GRow} (h : RwL W base v hs rs) (hT : Taken B W W') : RwL W' base v hs rs :=
  ⟨h.own.taken hT, h.len, fun k x r hx hr => by
    obtain ⟨⟨m1, m2, m3⟩, m4⟩ := h.mem k x r hx hr
    exact ⟨⟨m1, m2, m3.takenL hT⟩, fun a ha => ⟨by rw [hT.2.2.2.1]; exact (m4 a ha).1, (m4 a ha).2⟩⟩⟩
theorem RwL.rows {W : World} {base : Nat} {v : Value} {hs : List RowH} {rs : List GRow} (h : RwL W base v hs rs) : ∃ a c, v = .slice a rs.length c ∧ RdRows W a hs rs := by
  obtain ⟨a, c, hv, hr⟩ := h.own.rd encHd_len
  exact ⟨a, c, by rw [hv, h.len], hr, h.len, fun k x r hx hr2 => (h.mem k x r hx hr2).1⟩
end Go.Proofs.Ytbalhbpaholakaa
