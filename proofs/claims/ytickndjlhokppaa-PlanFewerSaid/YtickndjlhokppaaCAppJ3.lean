/-
'append(append(make([]api.Job, 0, n), argument...), jobs...)' in each order that a draw allows.
-/
import Derived.Test.YtickndjlhokppaaCAppJ2
import Derived.Test.YtickndjlhokppaaGBase
namespace Go.Proofs.Ytickndjlhokppaa
open Go.RowKit
set_option linter.unusedVariables false
section
variable {W : World} {A : Option Addr} {js ys : List GJob} {N c m n : Nat} {mc lit : Array Value}
theorem rd_litA (hlit : lit = (ys.flatMap encJ).toArray) (W : World) : Rd 5 encJ (W.alloc (.cells lit 38)) (some ⟨W.heap.size, 0, none⟩) ys := by
  rw [hlit]
  exact (Own.new W 38 (ys.flatMap encJ).toArray undef).rd (by rw [List.size_toArray, flatR_len encJ_len5]; exact Nat.le_refl _) encJ_len5 (fun k x hx j v hv => by
    show (ys.flatMap encJ).toArray[k * 5 + j]?.getD undef = v
    rw [List.getElem?_toArray, flatR_at encJ_len5 ys k j x v hx hv]; rfl)
theorem two_apps {W0 : World} {base L : Nat} {v0 : Value} (own : OwnJ W0 base v0 []) (hb : base ≤ W0.heap.size) (rd : Rd 5 encJ W0 A js) (hN : js.length = N) (rdl : Rd 5 encJ W0 (some ⟨L, 0, none⟩) ys) (hL : v0.ownBlock ≠ some L) (hm : ys.length = m) (hs : (N + m) * 40 ≤ 140737488355328) :
    Appends Try.prog W0 22 22 v0 (.slice A N c) ∧ ∃ v1 W1, appV Try.prog W0 22 22 v0 (.slice A N c) = v1 ∧ appW Try.prog W0 22 22 v0 (.slice A N c) = W1 ∧
      Appends Try.prog W1 22 22 v1 (.slice (some ⟨L, 0, none⟩) m m) ∧ ∃ v2 W2, appV Try.prog W1 22 22 v1 (.slice (some ⟨L, 0, none⟩) m m) = v2 ∧ appW Try.prog W1 22 22 v1 (.slice (some ⟨L, 0, none⟩) m m) = W2 ∧
        OwnJ W2 base v2 (js ++ ys) ∧ Below base W0 W1 ∧ Below base W0 W2 := by
  obtain ⟨p1, v1, W1, av1, aw1, o1, s1⟩ := app_argJ (c := c) own rd hN hb (by simp; omega)
  have rdl1 : Rd 5 encJ W1 (some ⟨L, 0, none⟩) ys := by
    intro h0
    obtain ⟨b, off, e, hlt, hc⟩ := rdl h0
    injection e with e
    injection e with e1 e2
    subst e1 e2
    exact ⟨_, _, rfl, Nat.lt_of_lt_of_le hlt s1.out.bel.size, fun k x hx j v hv => s1.out.cell (hc k x hx j v hv) hL⟩
  obtain ⟨p2, v2, W2, av2, aw2, o2, s2⟩ := app_argJ (c := m) o1.out rdl1 hm (Nat.le_trans hb s1.out.bel.size) (by rw [List.nil_append, hN]; exact hs)
  exact ⟨p1, v1, W1, av1, aw1, p2, v2, W2, av2, aw2, o2.out, s1.out.bel, s1.out.bel.trans s2.out.bel⟩
/-- The literal first. -/
theorem made_A (hown : ∀ (W : World) (base : Nat), base ≤ W.heap.size → OwnJ (W.alloc (.cells mc 38)) base (.slice (some ⟨W.heap.size, 0, none⟩) 0 n) []) (rd : Rd 5 encJ W A js) (hN : js.length = N) (hlit : lit = (ys.flatMap encJ).toArray) (hm : ys.length = m) (hs : (N + m) * 40 ≤ 140737488355328) :
    Appends Try.prog ((W.alloc (.cells lit 38)).alloc (.cells mc 38)).drew 22 22 (.slice (some ⟨W.heap.size + 1, 0, none⟩) 0 n) (.slice A N c) ∧ ∃ v1 W1, appV Try.prog ((W.alloc (.cells lit 38)).alloc (.cells mc 38)).drew 22 22 (.slice (some ⟨W.heap.size + 1, 0, none⟩) 0 n) (.slice A N c) = v1 ∧ appW Try.prog ((W.alloc (.cells lit 38)).alloc (.cells mc 38)).drew 22 22 (.slice (some ⟨W.heap.size + 1, 0, none⟩) 0 n) (.slice A N c) = W1 ∧
      Appends Try.prog W1 22 22 v1 (.slice (some ⟨W.heap.size, 0, none⟩) m m) ∧ ∃ v2 W2, appV Try.prog W1 22 22 v1 (.slice (some ⟨W.heap.size, 0, none⟩) m m) = v2 ∧ appW Try.prog W1 22 22 v1 (.slice (some ⟨W.heap.size, 0, none⟩) m m) = W2 ∧
        Hid (OwnJ W2 W.heap.size v2 (js ++ ys)) ∧ Hid (Below W.heap.size W W1) ∧ Hid (Below W.heap.size W W2) := by
  have ba : Below W.heap.size W (W.alloc (.cells lit 38)) := (Below.refl _ _).alloc (Nat.le_refl _) _
  have bb : Below W.heap.size W ((W.alloc (.cells lit 38)).alloc (.cells mc 38)).drew := (ba.alloc (by simp) _).drew
  have o := hown (W.alloc (.cells lit 38)) W.heap.size (by simp)
  rw [World.size_alloc] at o
  have rl : Rd 5 encJ ((W.alloc (.cells lit 38)).alloc (.cells mc 38)).drew (some ⟨W.heap.size, 0, none⟩) ys := (rd_litA hlit W).keep (((Below.refl _ _).alloc (Nat.le_refl _) _).drew)
  obtain ⟨p1, v1, W1, av1, aw1, p2, v2, W2, av2, aw2, o2, x1, x2⟩ := two_apps (W0 := ((W.alloc (.cells lit 38)).alloc (.cells mc 38)).drew) (c := c) o bb.size (rd.keep bb) hN rl (by simp [Value.ownBlock]) hm hs
  exact ⟨p1, v1, W1, av1, aw1, p2, v2, W2, av2, aw2, Lib.hid o2, Lib.hid (bb.trans x1), Lib.hid (bb.trans x2)⟩
/-- The literal between. -/
theorem made_B (hown : ∀ (W : World) (base : Nat), base ≤ W.heap.size → OwnJ (W.alloc (.cells mc 38)) base (.slice (some ⟨W.heap.size, 0, none⟩) 0 n) []) (rd : Rd 5 encJ W A js) (hN : js.length = N) (hlit : lit = (ys.flatMap encJ).toArray) (hm : ys.length = m) (hs : (N + m) * 40 ≤ 140737488355328) :
    Appends Try.prog ((W.alloc (.cells mc 38)).alloc (.cells lit 38)).drew 22 22 (.slice (some ⟨W.heap.size, 0, none⟩) 0 n) (.slice A N c) ∧ ∃ v1 W1, appV Try.prog ((W.alloc (.cells mc 38)).alloc (.cells lit 38)).drew 22 22 (.slice (some ⟨W.heap.size, 0, none⟩) 0 n) (.slice A N c) = v1 ∧ appW Try.prog ((W.alloc (.cells mc 38)).alloc (.cells lit 38)).drew 22 22 (.slice (some ⟨W.heap.size, 0, none⟩) 0 n) (.slice A N c) = W1 ∧
      Appends Try.prog W1 22 22 v1 (.slice (some ⟨W.heap.size + 1, 0, none⟩) m m) ∧ ∃ v2 W2, appV Try.prog W1 22 22 v1 (.slice (some ⟨W.heap.size + 1, 0, none⟩) m m) = v2 ∧ appW Try.prog W1 22 22 v1 (.slice (some ⟨W.heap.size + 1, 0, none⟩) m m) = W2 ∧
        Hid (OwnJ W2 W.heap.size v2 (js ++ ys)) ∧ Hid (Below W.heap.size W W1) ∧ Hid (Below W.heap.size W W2) := by
  have ba : Below W.heap.size W (W.alloc (.cells mc 38)) := (Below.refl _ _).alloc (Nat.le_refl _) _
  have bb : Below W.heap.size W ((W.alloc (.cells mc 38)).alloc (.cells lit 38)).drew := (ba.alloc (by simp) _).drew
  have o : OwnJ ((W.alloc (.cells mc 38)).alloc (.cells lit 38)).drew W.heap.size (.slice (some ⟨W.heap.size, 0, none⟩) 0 n) [] := (hown W W.heap.size (Nat.le_refl _)).alloc _
  have rl : Rd 5 encJ ((W.alloc (.cells mc 38)).alloc (.cells lit 38)).drew (some ⟨W.heap.size + 1, 0, none⟩) ys := by
    have h := rd_litA hlit (W.alloc (.cells mc 38))
    rw [World.size_alloc] at h
    exact h
  obtain ⟨p1, v1, W1, av1, aw1, p2, v2, W2, av2, aw2, o2, x1, x2⟩ := two_apps (W0 := ((W.alloc (.cells mc 38)).alloc (.cells lit 38)).drew) (c := c) o bb.size (rd.keep bb) hN rl (by simp [Value.ownBlock]) hm hs
  exact ⟨p1, v1, W1, av1, aw1, p2, v2, W2, av2, aw2, Lib.hid o2, Lib.hid (bb.trans x1), Lib.hid (bb.trans x2)⟩
/-- The literal last. -/
theorem made_C (hown : ∀ (W : World) (base : Nat), base ≤ W.heap.size → OwnJ (W.alloc (.cells mc 38)) base (.slice (some ⟨W.heap.size, 0, none⟩) 0 n) []) (rd : Rd 5 encJ W A js) (hN : js.length = N) (hlit : lit = (ys.flatMap encJ).toArray) (hm : ys.length = m) (hs : (N + m) * 40 ≤ 140737488355328) :
    Appends Try.prog (W.alloc (.cells mc 38)).drew 22 22 (.slice (some ⟨W.heap.size, 0, none⟩) 0 n) (.slice A N c) ∧ ∃ v1 W1, appV Try.prog (W.alloc (.cells mc 38)).drew 22 22 (.slice (some ⟨W.heap.size, 0, none⟩) 0 n) (.slice A N c) = v1 ∧ appW Try.prog (W.alloc (.cells mc 38)).drew 22 22 (.slice (some ⟨W.heap.size, 0, none⟩) 0 n) (.slice A N c) = W1 ∧
      Appends Try.prog (W1.alloc (.cells lit 38)) 22 22 v1 (.slice (some ⟨W1.heap.size, 0, none⟩) m m) ∧ ∃ v2 W2, appV Try.prog (W1.alloc (.cells lit 38)) 22 22 v1 (.slice (some ⟨W1.heap.size, 0, none⟩) m m) = v2 ∧ appW Try.prog (W1.alloc (.cells lit 38)) 22 22 v1 (.slice (some ⟨W1.heap.size, 0, none⟩) m m) = W2 ∧
        Hid (OwnJ W2 W.heap.size v2 (js ++ ys)) ∧ Hid (Below W.heap.size W W1) ∧ Hid (Below W.heap.size W W2) := by
  have bb : Below W.heap.size W (W.alloc (.cells mc 38)).drew := ((Below.refl _ _).alloc (Nat.le_refl _) _).drew
  have o : OwnJ (W.alloc (.cells mc 38)).drew W.heap.size (.slice (some ⟨W.heap.size, 0, none⟩) 0 n) [] := hown W W.heap.size (Nat.le_refl _)
  obtain ⟨p1, v1, W1, av1, aw1, o1, s1⟩ := app_argJ (w := (W.alloc (.cells mc 38)).drew) (c := c) o (rd.keep bb) hN bb.size (by simp; omega)
  have hb1 := Nat.le_trans bb.size s1.out.bel.size
  have bc : Below W1.heap.size W1 (W1.alloc (.cells lit 38)) := (Below.refl _ _).alloc (Nat.le_refl _) _
  obtain ⟨p2, v2, W2, av2, aw2, o2, s2⟩ := app_argJ (w := W1.alloc (.cells lit 38)) (c := m) (o1.out.alloc _) (rd_litA hlit W1) hm (Nat.le_trans hb1 bc.size) (by rw [List.nil_append, hN]; exact hs)
  refine ⟨p1, v1, W1, av1, aw1, p2, v2, W2, av2, aw2, Lib.hid o2.out, Lib.hid (bb.trans s1.out.bel), Lib.hid ?_⟩
  exact ((bb.trans s1.out.bel).trans (bc.mono hb1)).trans s2.out.bel
end
end Go.Proofs.Ytickndjlhokppaa
