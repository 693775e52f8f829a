/-
Appending rows of any kind to a list of the call's own: what the append runs to, as rules of the walk.
-/
import Derived.Test.YtcnhkcbkeneobaaBase2
import Derived.Laws.OwnMore
import Derived.Maps.AppendAt
namespace Go.Proofs.Ytcnhkcbkeneobaa
open Go.RowKit

theorem flatR_len {α : Type} {sz : Nat} {enc : α → List Value} (hsz : ∀ x, (enc x).length = sz) : ∀ xs : List α, (xs.flatMap enc).length = xs.length * sz
  | [] => by simp
  | y :: ys => by
    rw [List.flatMap_cons, List.length_append, flatR_len hsz ys, List.length_cons, hsz, Nat.add_mul]
    omega
theorem flatR_at {α : Type} {sz : Nat} {enc : α → List Value} (hsz : ∀ x, (enc x).length = sz) : ∀ (xs : List α) (k j : Nat) (x : α) (v : Value), xs[k]? = some x → (enc x)[j]? = some v → (xs.flatMap enc)[k * sz + j]? = some v
  | y :: ys, 0, j, x, v, hx, hv => by
    simp at hx
    subst hx
    rw [List.flatMap_cons, List.getElem?_append_left (by rw [Nat.zero_mul, Nat.zero_add]; exact (List.getElem?_eq_some_iff.1 hv).1), Nat.zero_mul, Nat.zero_add]
    exact hv
  | y :: ys, k + 1, j, x, v, hx, hv => by
    rw [List.flatMap_cons, List.getElem?_append_right (by rw [hsz, Nat.add_mul]; omega), hsz, show (k + 1) * sz + j - sz = k * sz + j by rw [Nat.add_mul]; omega]
    exact flatR_at hsz ys k j x v (by simpa using hx) hv
/-- A place of the flat row is a place of one of the rows. -/
theorem flatR_inv {α : Type} {sz : Nat} {enc : α → List Value} (hsz : ∀ x, (enc x).length = sz) (h0 : 0 < sz) (xs : List α) (j : Nat) (v : Value) (h : (xs.flatMap enc)[j]? = some v) :
    ∃ x, xs[j / sz]? = some x ∧ (enc x)[j % sz]? = some v := by
  have hl := (List.getElem?_eq_some_iff.1 h).1
  rw [flatR_len hsz] at hl
  have hk : j / sz < xs.length := (Nat.div_lt_iff_lt_mul h0).2 hl
  have hx : xs[j / sz]? = some xs[j / sz] := List.getElem?_eq_getElem hk
  have hm : j % sz < (enc xs[j / sz]).length := by rw [hsz]; exact Nat.mod_lt _ h0
  have hv : (enc xs[j / sz])[j % sz]? = some (enc xs[j / sz])[j % sz] := List.getElem?_eq_getElem hm
  have := flatR_at hsz xs _ _ _ _ hx hv
  rw [Nat.mul_comm, Nat.div_add_mod] at this
  rw [h] at this
  exact ⟨_, hx, by rw [hv]; exact this.symm⟩
/-- The slice value v is the call's own (blocks from base on) and holds the rows xs. -/
def OwnR {α : Type} (t : TypeId) (sz : Nat) (enc : α → List Value) (w : World) (base : Nat) (v : Value) (xs : List α) : Prop := w.ownsRow base t sz v xs.length (xs.flatMap enc)
section
variable {α : Type} {t : TypeId} {sz : Nat} {enc : α → List Value} {w w' : World} {base : Nat} {v : Value} {xs : List α}
theorem OwnR.nil (w : World) (base : Nat) : OwnR t sz enc w base (.slice none 0 0) [] := World.ownsRow_nil _ _ _ _
theorem OwnR.shape (h : OwnR t sz enc w base v xs) : ∃ a c, v = .slice a xs.length c := by
  rcases h.2 with ⟨h1, h2⟩ | ⟨g, cap, cur, hv, _⟩
  · exact ⟨none, 0, by rw [h1, h2]⟩
  · exact ⟨_, cap, hv⟩
theorem OwnR.mod {M : Nat → Prop} (h : OwnR t sz enc w base v xs) (hm : Mod M w w') (hn : ∀ k, v.ownBlock = some k → ¬ M k) : OwnR t sz enc w' base v xs := by
  refine ⟨h.1, ?_⟩
  rcases h.2 with x | ⟨g, cap, cur, rfl, hb, hgg, rest⟩
  · exact .inl x
  · refine .inr ⟨g, cap, cur, rfl, hb, ?_, rest⟩
    rw [hm.block g (Array.getElem?_eq_some_iff.1 hgg).1 (hn g rfl)]
    exact hgg
theorem OwnR.keep (h : OwnR t sz enc w base v xs) (hb : Below w.heap.size w w') : OwnR t sz enc w' base v xs :=
  h.mod (Mod.of_below hb) (fun k hk => by have := (World.ownsRow.lt h k hk).2; omega)
theorem OwnR.alloc (h : OwnR t sz enc w base v xs) (o : Obj) : OwnR t sz enc (w.alloc o) base v xs := World.ownsRow.alloc h o
theorem OwnR.rd (hsz : ∀ x, (enc x).length = sz) (h : OwnR t sz enc w base v xs) : ∃ a c, v = .slice a xs.length c ∧ Rd sz enc w a xs := by
  obtain ⟨a, c, hv⟩ := h.shape
  refine ⟨a, c, hv, ?_⟩
  intro h0
  obtain ⟨g, cap, hv', _, hlt⟩ := World.ownsRow.form h h0
  rw [hv] at hv'
  injection hv' with e1 _ _
  subst e1
  refine ⟨g, 0, rfl, hlt, ?_⟩
  intro k x hx j u hu
  have := World.ownsRow.cells h (g := g) (by rw [hv]; rfl) (k * sz + j) u (flatR_at hsz xs k j x u hx hu)
  have hadd : (⟨g, 0, none⟩ : Addr).add (k * sz + j) = ⟨g, k * sz + j, none⟩ := by
    unfold Addr.add
    by_cases h : k * sz + j = 0
    · rw [if_pos h, h]
    · rw [if_neg h]
      simp
  rw [hadd] at this
  rw [Nat.zero_add]
  exact this
theorem OwnR.below {w1 : World} (h : OwnR t sz enc w base v xs) (hm : Mod (fun k => v.ownBlock = some k) w w1) (hb : base ≤ w.heap.size) : Below base w w1 :=
  hm.below hb (fun k _ hk => (World.ownsRow.lt h k hk).1)
/-- An own row of cells of a made slice with nothing in it yet. -/
theorem OwnR.made (w : World) (cur : Array Value) (cap : Nat) (hm : cap ≤ maxLen) (hs : cur.size = cap * sz) (hb : base ≤ w.heap.size) : OwnR t sz enc (w.alloc (.cells cur t)) base (.slice (some ⟨w.heap.size, 0, none⟩) 0 cap) ([] : List α) := by
  refine ⟨by simp, .inr ⟨w.heap.size, cap, cur, rfl, hb, heap_alloc_new w _, Nat.zero_le _, hm, hs, by simp⟩⟩
end
theorem app_rows {P : Program} {α : Type} {t e ty : TypeId} {sz bytes : Nat} {z : Value} {enc : α → List Value} {w : World} {base : Nat} {v : Value} {xs ys : List α} {A : Option Addr} {c m : Nat}
    (hinfo : (P.info? e).map (fun i => (i.zero, i.size, i.bytes)) = some (some z, sz, bytes)) (ht : P.underlying t = some (.slice e)) (hzs : z.cells.size = sz) (h0 : 0 < sz) (hsz : ∀ x, (enc x).length = sz) (hone : ∀ x u, u ∈ enc x → u.oneCell' = true)
    (h : OwnR e sz enc w base v xs) (hy : Rd sz enc w A ys) (hym : ys.length = m) (hA : ∃ a, A = some a) (hb : base ≤ w.heap.size) (hl : xs.length + m ≤ maxLen) (hbytes : (xs.length + m) * bytes ≤ 140737488355328) :
    Appends P w t ty v (.slice A m c) ∧
    ∃ v' w1, appV P w t ty v (.slice A m c) = v' ∧ appW P w t ty v (.slice A m c) = w1 ∧ OwnR e sz enc w1 base v' (xs ++ ys) ∧ Mod (fun k => v.ownBlock = some k) w w1 ∧ (v'.ownBlock = v.ownBlock ∨ v'.ownBlock = some w.heap.size) := by
  obtain ⟨a, rfl⟩ := hA
  obtain ⟨i0, hi0, hz0, hz1, hz2⟩ := info_parts hinfo
  obtain ⟨v', w1, hrun, hown1, hgrow, _, hat⟩ := run_append_own_at (P := P) w base t ty e i0 _ sz bytes ht hi0 hz0 hz1 hz2 hzs h0 v xs.length (xs.flatMap enc) h a m c (ys.flatMap enc) (by rw [flatR_len hsz, hym])
    (fun j u hu => by
      obtain ⟨x, hx, hv⟩ := flatR_inv hsz h0 ys j u hu
      have hpos : 0 < ys.length := Nat.lt_of_le_of_lt (Nat.zero_le _) (List.getElem?_eq_some_iff.1 hx).1
      obtain ⟨b, off, ha, _, hc⟩ := hy hpos
      have := hc _ _ hx _ _ hv
      injection ha with ha
      subst ha
      rw [← this]
      have e : off + j / sz * sz + j % sz = off + j := by rw [Nat.add_assoc, Nat.mul_comm, Nat.div_add_mod]
      rw [e]
      unfold Addr.add
      by_cases hj : j = 0 <;> simp [hj])
    (fun u hu => by
      obtain ⟨x, _, hx⟩ := List.mem_flatMap.1 hu
      exact hone x u hx) hl hbytes hb
  obtain ⟨ap1, ap2, ap3⟩ := appends_of hrun
  refine ⟨ap1, _, w1, ap2, ap3, ?_, (Mod.refl _ w).grown hgrow (fun k hk => .inl hk), hat⟩
  unfold OwnR
  rw [List.length_append, List.flatMap_append, hym]
  exact hown1
theorem app_none {P : Program} {α : Type} {t e ty : TypeId} {sz bytes : Nat} {z : Value} {enc : α → List Value} {w : World} {base : Nat} {v : Value} {xs : List α} {c : Nat}
    (hinfo : (P.info? e).map (fun i => (i.zero, i.size, i.bytes)) = some (some z, sz, bytes)) (ht : P.underlying t = some (.slice e)) (h : OwnR e sz enc w base v xs) :
    Appends P w t ty v (.slice none 0 c) ∧ appV P w t ty v (.slice none 0 c) = v ∧ appW P w t ty v (.slice none 0 c) = w := by
  obtain ⟨i0, hi0, _⟩ := info_parts hinfo
  have hrun : (Builtin.append_ #[t, t] ty #[v, .slice none 0 c]).run P w = .ok v w := by
    rcases h.2 with ⟨rfl, hn⟩ | ⟨g, cap, cur, rfl, _, _, hnc, _⟩
    · simp [Builtin.append_, run_underlying ht, sizeOf, typeInfo, hi0, Builtin.lenOf, Builtin.firstCells]
    · simp [Builtin.append_, run_underlying ht, sizeOf, typeInfo, hi0, Builtin.lenOf, Builtin.firstCells, hnc, storeCells]
  exact appends_of hrun
end Go.Proofs.Ytcnhkcbkeneobaa
