/-
Words for the laws of the tree: the site in its box.
-/
import Derived.Test.YtjlfnhfiiailgaaCLawH
namespace Go.Proofs.Ytjlfnhfiiailgaa
open Go.RowKit
set_option linter.unusedVariables false
set_option linter.unusedSimpArgs false
/-- The site that came in, and its box X. -/
structure LwM (w W : World) (X : Nat) (a1 : Option Addr) (n1 c1 : Nat) (a2 : Option Addr) (n2 c2 : Nat) (a3 : Option Addr) (n3 c3 : Nat) (a4 : Option Addr) (n4 c4 : Nat) (a5 : Option Addr) (n5 c5 : Nat) (s : GSite) : Prop where
  bel : Below w.heap.size w W
  k0 : W.cell? ⟨X, 0, none⟩ = some (.slice a1 n1 c1)
  k1 : W.cell? ⟨X, 1, none⟩ = some (.slice a2 n2 c2)
  k2 : W.cell? ⟨X, 2, none⟩ = some (.slice a3 n3 c3)
  k3 : W.cell? ⟨X, 3, none⟩ = some (.slice a4 n4 c4)
  k4 : W.cell? ⟨X, 4, none⟩ = some (.slice a5 n5 c5)
  rs : RdSite W a1 a2 a3 a4 a5 n1 n2 n3 n4 n5 s
theorem LwM.keep {w W W' : World} {X : Nat} {a1 : Option Addr} {n1 c1 : Nat} {a2 : Option Addr} {n2 c2 : Nat} {a3 : Option Addr} {n3 c3 : Nat} {a4 : Option Addr} {n4 c4 : Nat} {a5 : Option Addr} {n5 c5 : Nat} {s : GSite} (h : LwM w W X a1 n1 c1 a2 n2 c2 a3 n3 c3 a4 n4 c4 a5 n5 c5 s) (hb : Below W.heap.size W W') : LwM w W' X a1 n1 c1 a2 n2 c2 a3 n3 c3 a4 n4 c4 a5 n5 c5 s := by
  have l := World.block_lt_of_cell? W _ h.k0
  exact ⟨below_then h.bel hb, (hb.cell (p := ⟨X, 0, none⟩) l).trans h.k0, (hb.cell (p := ⟨X, 1, none⟩) l).trans h.k1, (hb.cell (p := ⟨X, 2, none⟩) l).trans h.k2, (hb.cell (p := ⟨X, 3, none⟩) l).trans h.k3, (hb.cell (p := ⟨X, 4, none⟩) l).trans h.k4, h.rs.keep hb⟩
theorem LwM.mod {w W W' : World} {X : Nat} {a1 : Option Addr} {n1 c1 : Nat} {a2 : Option Addr} {n2 c2 : Nat} {a3 : Option Addr} {n3 c3 : Nat} {a4 : Option Addr} {n4 c4 : Nat} {a5 : Option Addr} {n5 c5 : Nat} {s : GSite} (h : LwM w W X a1 n1 c1 a2 n2 c2 a3 n3 c3 a4 n4 c4 a5 n5 c5 s) (hw : RdSite w a1 a2 a3 a4 a5 n1 n2 n3 n4 n5 s) {M : Nat → Prop} (hm : Mod M W W') (hX : ¬ M X) (hM : ∀ k, M k → w.heap.size ≤ k) : LwM w W' X a1 n1 c1 a2 n2 c2 a3 n3 c3 a4 n4 c4 a5 n5 c5 s := by
  have l := World.block_lt_of_cell? W _ h.k0
  have hb : Below w.heap.size w W' := h.bel.trans (hm.below h.bel.size (fun k _ hk => hM k hk))
  exact ⟨hb, (hm.cell (p := ⟨X, 0, none⟩) l hX).trans h.k0, (hm.cell (p := ⟨X, 1, none⟩) l hX).trans h.k1, (hm.cell (p := ⟨X, 2, none⟩) l hX).trans h.k2, (hm.cell (p := ⟨X, 3, none⟩) l hX).trans h.k3, (hm.cell (p := ⟨X, 4, none⟩) l hX).trans h.k4, hw.keep hb⟩
theorem LwM.box {w : World} {a1 : Option Addr} {n1 c1 : Nat} {a2 : Option Addr} {n2 c2 : Nat} {a3 : Option Addr} {n3 c3 : Nat} {a4 : Option Addr} {n4 c4 : Nat} {a5 : Option Addr} {n5 c5 : Nat} {s : GSite} (h : RdSite w a1 a2 a3 a4 a5 n1 n2 n3 n4 n5 s) : LwM w (w.alloc (.cells #[.slice a1 n1 c1, .slice a2 n2 c2, .slice a3 n3 c3, .slice a4 n4 c4, .slice a5 n5 c5] 28)) w.heap.size a1 n1 c1 a2 n2 c2 a3 n3 c3 a4 n4 c4 a5 n5 c5 s :=
  ⟨(Below.refl _ w).alloc (Nat.le_refl _) _, by go_simp, by go_simp, by go_simp, by go_simp, by go_simp, h.keep ((Below.refl _ w).alloc (Nat.le_refl _) _)⟩
theorem pathO_len (s : GSite) (ch : Int) : (pathO s ch).length ≤ 16 := by
  unfold pathO
  by_cases h : okCh s ch = true
  · rw [if_pos h]
    unfold okCh at h
    rw [Bool.and_eq_true, decide_eq_true_eq] at h
    have hk := okSB_iff.1 h.1
    obtain ⟨i, rfl⟩ := Int.eq_ofNat_of_zero_le h.2.1
    have hi : i < s.chgs.length := by omega
    obtain ⟨p1, p2, p3⟩ := hk.place (List.getElem?_eq_getElem hi)
    rw [Int.toNat_natCast]
    have h1 := pth_len hk.ups (placeOf s i) (by omega)
    have h2 := hk.n2
    unfold pthI
    rw [List.length_map]
    omega
  · rw [if_neg h]; simp
theorem belowO_len (s : GSite) (co : Int) : (belowO s co).length ≤ 16 := by
  unfold belowO
  by_cases h : okCo s co = true
  · rw [if_pos h]
    unfold okCo at h
    rw [Bool.and_eq_true] at h
    have hk := okSB_iff.1 h.1
    have := belowL_len s co s.chgs.length
    have := hk.n5
    omega
  · rw [if_neg h]; simp
theorem loadsO_len (s : GSite) (xs : List Int) : (loadsO s xs).length ≤ 16 := by
  unfold loadsO
  by_cases h : loadB s xs = true
  · rw [if_pos h, loadsOf_len]
    unfold loadB at h
    rw [Bool.and_eq_true] at h
    exact (okSB_iff.1 h.1).n2
  · rw [if_neg h]; simp
end Go.Proofs.Ytjlfnhfiiailgaa
