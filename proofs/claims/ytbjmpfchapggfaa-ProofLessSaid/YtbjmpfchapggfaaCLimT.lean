/-
LimitsDerating, walked.
-/
import Derived.Test.YtbjmpfchapggfaaGLLimG
import Derived.Test.YtbjmpfchapggfaaGLLimD
import Derived.Test.YtbjmpfchapggfaaGLPrP
import Derived.Test.YtbjmpfchapggfaaGLOpen
namespace Go.Proofs.Ytbjmpfchapggfaa
open Go.RowKit
set_option linter.unusedVariables false
set_option linter.unusedSimpArgs false
/-- The memory of LimitsDerating: the site, the other site in box Y, its conductors in block g, the numbers in box B. -/
structure DrM (w W : World) (X : Nat) (a1 : Option Addr) (n1 c1 : Nat) (a2 : Option Addr) (n2 c2 : Nat) (a3 : Option Addr) (n3 c3 : Nat) (a4 : Option Addr) (n4 c4 : Nat) (a5 : Option Addr) (n5 c5 : Nat) (s : GSite) (Y g cY N : Nat) (F : Nat → Value) (B : Nat) (x0 x1 x2 : Int) : Prop where
  lw : LwM w W X a1 n1 c1 a2 n2 c2 a3 n3 c3 a4 n4 c4 a5 n5 c5 s
  yy : W.cell? ⟨Y, 0, none⟩ = some (.slice (some ⟨g, 0, none⟩) n1 cY) ∧ W.cell? ⟨Y, 1, none⟩ = some (.slice a2 n2 c2) ∧ W.cell? ⟨Y, 2, none⟩ = some (.slice a3 n3 c3) ∧ W.cell? ⟨Y, 3, none⟩ = some (.slice a4 n4 c4) ∧ W.cell? ⟨Y, 4, none⟩ = some (.slice a5 n5 c5)
  ow : Own W g 65 N F
  bb : W.cell? ⟨B, 0, none⟩ = some (.int .u8 x0) ∧ W.cell? ⟨B, 1, none⟩ = some (.int .u8 x1) ∧ W.cell? ⟨B, 2, none⟩ = some (.int .u8 x2)
  ne : X ≠ g ∧ Y ≠ g ∧ B ≠ g ∧ w.heap.size ≤ g
theorem DrM.keep {w W W' : World} {X : Nat} {a1 : Option Addr} {n1 c1 : Nat} {a2 : Option Addr} {n2 c2 : Nat} {a3 : Option Addr} {n3 c3 : Nat} {a4 : Option Addr} {n4 c4 : Nat} {a5 : Option Addr} {n5 c5 : Nat} {s : GSite} {Y g cY N : Nat} {F : Nat → Value} {B : Nat} {x0 x1 x2 : Int} (h : DrM w W X a1 n1 c1 a2 n2 c2 a3 n3 c3 a4 n4 c4 a5 n5 c5 s Y g cY N F B x0 x1 x2) (hb : Below W.heap.size W W') : DrM w W' X a1 n1 c1 a2 n2 c2 a3 n3 c3 a4 n4 c4 a5 n5 c5 s Y g cY N F B x0 x1 x2 := by
  have ly := World.block_lt_of_cell? W _ h.yy.1
  have lb := World.block_lt_of_cell? W _ h.bb.1
  exact ⟨h.lw.keep hb, ⟨(hb.cell (p := ⟨Y, 0, none⟩) ly).trans h.yy.1, (hb.cell (p := ⟨Y, 1, none⟩) ly).trans h.yy.2.1, (hb.cell (p := ⟨Y, 2, none⟩) ly).trans h.yy.2.2.1, (hb.cell (p := ⟨Y, 3, none⟩) ly).trans h.yy.2.2.2.1, (hb.cell (p := ⟨Y, 4, none⟩) ly).trans h.yy.2.2.2.2⟩, h.ow.keep hb h.ow.lt, ⟨(hb.cell (p := ⟨B, 0, none⟩) lb).trans h.bb.1, (hb.cell (p := ⟨B, 1, none⟩) lb).trans h.bb.2.1, (hb.cell (p := ⟨B, 2, none⟩) lb).trans h.bb.2.2⟩, h.ne⟩
theorem DrM.set {w W : World} {X : Nat} {a1 : Option Addr} {n1 c1 : Nat} {a2 : Option Addr} {n2 c2 : Nat} {a3 : Option Addr} {n3 c3 : Nat} {a4 : Option Addr} {n4 c4 : Nat} {a5 : Option Addr} {n5 c5 : Nat} {s : GSite} {Y g cY N : Nat} {F : Nat → Value} {B : Nat} {x0 x1 x2 : Int} (h : DrM w W X a1 n1 c1 a2 n2 c2 a3 n3 c3 a4 n4 c4 a5 n5 c5 s Y g cY N F B x0 x1 x2) (hw : RdSite w a1 a2 a3 a4 a5 n1 n2 n3 n4 n5 s) (i : Nat) (u : Value) : DrM w (W.setCell ⟨g, i, none⟩ u) X a1 n1 c1 a2 n2 c2 a3 n3 c3 a4 n4 c4 a5 n5 c5 s Y g cY N (fun j => if j = i then u else F j) B x0 x1 x2 := by
  have hm : Mod (fun j => j = g) W (W.setCell ⟨g, i, none⟩ u) := (show Mod (fun j => j = g) W W from Mod.refl _ W).setCell (p := ⟨g, i, none⟩) (.inl rfl) u
  have ly := World.block_lt_of_cell? W _ h.yy.1
  have lb := World.block_lt_of_cell? W _ h.bb.1
  obtain ⟨n1, n2, n3, n4⟩ := h.ne
  exact ⟨h.lw.mod hw hm n1 (fun k hk => by omega), ⟨(hm.cell (p := ⟨Y, 0, none⟩) ly n2).trans h.yy.1, (hm.cell (p := ⟨Y, 1, none⟩) ly n2).trans h.yy.2.1, (hm.cell (p := ⟨Y, 2, none⟩) ly n2).trans h.yy.2.2.1, (hm.cell (p := ⟨Y, 3, none⟩) ly n2).trans h.yy.2.2.2.1, (hm.cell (p := ⟨Y, 4, none⟩) ly n2).trans h.yy.2.2.2.2⟩, h.ow.set i u, ⟨(hm.cell (p := ⟨B, 0, none⟩) lb n3).trans h.bb.1, (hm.cell (p := ⟨B, 1, none⟩) lb n3).trans h.bb.2.1, (hm.cell (p := ⟨B, 2, none⟩) lb n3).trans h.bb.2.2⟩, h.ne⟩
/-- What the conductors' cells hold. -/
def HoldsC (F : Nat → Value) (cs : List GCon) : Prop := ∀ k x j u, cs[k]? = some x → (encCon x)[j]? = some u → F (k * 11 + j) = u
theorem HoldsC.set {F : Nat → Value} {cs : List GCon} (h : HoldsC F cs) {k : Nat} {c c' : GCon} (hk : cs[k]? = some c) {j : Nat} (hj : j < 11) {u : Value} (hu : (encCon c')[j]? = some u) (ho : ∀ i, i ≠ j → (encCon c')[i]? = (encCon c)[i]?) : HoldsC (fun i => if i = k * 11 + j then u else F i) (cs.set k c') := by
  intro m x i v hx hv
  have hi : i < 11 := by rw [← encCon_len x]; exact (List.getElem?_eq_some_iff.1 hv).1
  have hkl := (List.getElem?_eq_some_iff.1 hk).1
  by_cases e : m = k
  · subst e
    rw [List.getElem?_set_self hkl] at hx
    injection hx with hx
    subst hx
    by_cases e2 : i = j
    · subst e2
      rw [hu] at hv
      injection hv with hv
      show (if m * 11 + i = m * 11 + i then u else F (m * 11 + i)) = v
      rw [if_pos rfl, hv]
    · show (if m * 11 + i = m * 11 + j then u else F (m * 11 + i)) = v
      rw [if_neg (by omega)]
      rw [ho i e2] at hv
      exact h m c i v hk hv
  · rw [List.getElem?_set_ne (fun x => e x.symm)] at hx
    show (if m * 11 + i = k * 11 + j then u else F (m * 11 + i)) = v
    rw [if_neg (by omega)]
    exact h m x i v hx hv
theorem HoldsC.rd {W : World} {g N : Nat} {F : Nat → Value} {cs : List GCon} (h : HoldsC F cs) (ho : Own W g 65 N F) (hn : cs.length * 11 ≤ N) : Rd 11 encCon W (some ⟨g, 0, none⟩) cs := ho.rd hn encCon_len (fun k x hx j u hu => h k x j u hx hu)
theorem HoldsC.set2 {F : Nat → Value} {cs : List GCon} {k : Nat} {c' : GCon} (h : HoldsC F (cs.set k c')) {c'' : GCon} (hk : k < cs.length) {j : Nat} (hj : j < 11) {u : Value} (hu : (encCon c'')[j]? = some u) (ho : ∀ i, i ≠ j → (encCon c'')[i]? = (encCon c')[i]?) : HoldsC (fun i => if i = k * 11 + j then u else F i) (cs.set k c'') := by
  have h1 := h.set (k := k) (c := c') (c' := c'') (List.getElem?_set_self hk) hj hu ho
  rw [List.set_set] at h1
  exact h1
theorem rdSite_set {W : World} {A a1 a2 a3 a4 a5 : Option Addr} {n1 n2 n3 n4 n5 : Nat} {s : GSite} {k : Nat} {c : GCon} (h : RdSite W a1 a2 a3 a4 a5 n1 n2 n3 n4 n5 s) (hr : Rd 11 encCon W A (s.cons.set k c)) (hn : ∀ g, s.cons[k]? = some g → c.name = g.name) : RdSite W A a2 a3 a4 a5 n1 n2 n3 n4 n5 (setS s k c) := by
  refine ⟨hr, h.r2, h.r3, h.r4, h.r5, ?_, h.l2, h.l3, h.l4, h.l5, h.m1, h.m2, h.m3, h.m4, h.m5, ?_⟩
  · show (s.cons.set k c).length = n1
    rw [List.length_set]; exact h.l1
  · intro x hx
    have e : allNames (setS s k c) = allNames s := by
      unfold allNames setS
      dsimp only
      congr 4
      apply List.ext_getElem?
      intro i
      rw [List.getElem?_map, List.getElem?_map]
      by_cases hi : i = k
      · subst hi
        by_cases hl : i < s.cons.length
        · rw [List.getElem?_set_self hl, List.getElem?_eq_getElem hl]
          show some c.name = some _
          rw [hn _ (List.getElem?_eq_getElem hl)]
        · rw [List.getElem?_eq_none (by rw [List.length_set]; omega), List.getElem?_eq_none (by omega)]
      · rw [List.getElem?_set_ne (fun x => hi x.symm)]
    rw [e] at hx
    exact h.nm x hx
end Go.Proofs.Ytbjmpfchapggfaa
