/-
slices.insertionSortCmpFunc at []int, the comparison a closure that only reads: it sorts a segment, stably.
-/
import Derived.Test.YtahpoikbnjhkgaaRows
import Derived.Test.YtahpoikbnjhkgaaBase
import Derived.Test.YtahpoikbnjhkgaaSortMath
import Derived.Deep.QuietTactic
import Derived.BigQuiet
import Derived.BigRegion
import Derived.Deep.RegionWith
import Derived.Deep.LoopGhost
import Derived.Outline
namespace Go.Proofs.Ytahpoikbnjhkgaa
open Go.RowKit

/-- The answer of cmp.Compare. -/
def cmpV (x y : Int) : Int := if x < y then -1 else if y < x then 1 else 0
theorem cmpV_neg {x y : Int} (h : x < y) : cmpV x y < 0 := by unfold cmpV; rw [if_pos h]; decide
theorem cmpV_not {x y : Int} (h : ¬ x < y) : ¬ cmpV x y < 0 := by unfold cmpV; rw [if_neg h]; split <;> decide
/-- The comparison: it reads, whatever the sort has done to block g, and answers by the keys. -/
def CmpOk (key : Int → Int) (D : Int → Prop) (pc g : Nat) (w0 : World) : Prop := ∀ W, Mod (fun k => k = g) w0 W → ∀ x y, D x → D y →
  Calls Try.prog 35 #[.int .i64 x, .int .i64 y, .pointer (some ⟨pc, 0, none⟩)] W fun e w' => e = .returned (.int .i64 (cmpV (key y) (key x))) ∧ ∃ m, w' = W.drewN m
/-- A world of the sort: block g holds f; nothing else that was there has changed. -/
structure SortW (w0 : World) (g n : Nat) (f : Nat → Int) (w : World) : Prop where
  own : Own w g 3 n (fun i => .int .i64 (f i))
  mod : Mod (fun k => k = g) w0 w
theorem SortW.drew {w0 w : World} {g n : Nat} {f : Nat → Int} (h : SortW w0 g n f w) : SortW w0 g n f w.drew := ⟨h.own.drew, h.mod.drew⟩
theorem SortW.drewN {w0 w : World} {g n : Nat} {f : Nat → Int} (h : SortW w0 g n f w) (k : Nat) : SortW w0 g n f (w.drewN k) := ⟨h.own.drewN k, h.mod.drewN k⟩
theorem SortW.exch {w0 w : World} {g n : Nat} {f : Nat → Int} (h : SortW w0 g n f w) (i j : Nat) (x y : Int) (hx : x = f j) (hy : y = f i) (hij : i ≠ j) :
    SortW w0 g n (exch f i j) ((w.setCell ⟨g, i, none⟩ (.int .i64 x)).setCell ⟨g, j, none⟩ (.int .i64 y)).drew := by
  subst hx hy
  refine ⟨((h.own.set i _).set j _).drew.congr (fun k _ => ?_), ((h.mod.setCell (Or.inl rfl) _).setCell (Or.inl rfl) _).drew⟩
  unfold Go.Proofs.Ytahpoikbnjhkgaa.exch
  by_cases h1 : k = j
  · subst h1; rw [if_pos rfl, if_neg (fun e => hij e.symm), if_pos rfl]
  · rw [if_neg h1, if_neg h1]
    by_cases h2 : k = i
    · rw [if_pos h2, if_pos h2]
    · rw [if_neg h2, if_neg h2]
def SortPost (key : Int → Int) (a b : Nat) (f : Nat → Int) (w0 : World) (g n : Nat) (e : Ending) (w' : World) : Prop := e = .returned (.tuple #[]) ∧ ∃ f', Sorts key a b f f' ∧ SortW w0 g n f' w'

set_option maxHeartbeats 2000000 in
theorem sInsert_any (key : Int → Int) (D : Int → Prop) (pc g n cap a b : Nat) (f : Nat → Int) (w0 w : World) (HC0 : CmpOk key D pc g w0) (S0 : SortW w0 g n f w) (hab : a ≤ b) (hb : b ≤ n) (hn : n ≤ 1000000)
    (hD0 : ∀ k, k < n → D (f k)) (hasc0 : Asc f a b) :
    Calls Try.prog 39 #[.slice (some ⟨g, 0, none⟩) n cap, .int .i64 a, .int .i64 b, .func (.func 35) #[] #[.pointer (some ⟨pc, 0, none⟩)]] w (SortPost key a b f w0 g n) := by
  have HC := Lib.hid HC0
  have S := Lib.hid S0
  have hD := Lib.hid hD0
  have hasc := Lib.hid hasc0
  clear HC0 S0 hD0 hasc0
  go_enter Try.func39, Try.ntmps39
  go_wp2
  go_loopg [8] (b - a) (fun g1 vi wr => ∃ (i : Nat) (f1 : Nat → Int), vi = .int .i64 i ∧ a < i ∧ i ≤ b + 1 ∧ b + 1 - i ≤ g1 + 1 ∧ Hid (Sorts key a (min i b) f f1) ∧ Hid (SortW w0 g n f1 wr))
  case atStart => exact ⟨a + 1, f, by go_num, by omega, by omega, by omega, Lib.hid (Sorts.small (by omega)), S⟩
  case round =>
    clear S
    obtain ⟨i, f1, rfl, hai, hib, hg1, HS, S1⟩ := hrel
    by_cases hlt : i < b
    · have hltz : (i : Int) < (b : Int) := by omega
      go_wp2
      go_loopg [9] i (fun g2 vj wr2 => ∃ (j : Nat) (f2 : Nat → Int), vj = .int .i64 j ∧ a ≤ j ∧ j ≤ i ∧ j ≤ g2 ∧ Hid (InsIn key a i j f f2) ∧ Hid (SortW w0 g n f2 wr2))
      case atStart =>
        have HS' := HS.out
        rw [show min i b = i from by omega] at HS'
        exact ⟨i, f1, rfl, by omega, Nat.le_refl _, Nat.le_refl _, Lib.hid (InsIn.start (by omega) HS' (fun p h1 h2 => hasc.out p i h1 h2 hlt)), S1⟩
      case round =>
        clear S1 HS
        obtain ⟨j, f2, rfl, haj, hji, hg2, HI, SJ⟩ := hrel
        by_cases hja : j = a
        · subst hja
          have hjad : ¬ (j : Int) < (j : Int) := by omega
          have HS := Lib.hid (HI.out.stop haj hji (Or.inl rfl))
          go_wp2_with fail
          have hgd : decide ((j : Int) < (j : Int)) = false := by simp
          go_quiet (fail)
          have S2 := Lib.hid (SJ.out.drewN nq)
          clear SJ HI
          generalize wr.drewN nq = w2 at S2 ⊢
          clear nq
          go_wp2
          go_roundg (b - (i + 1))
          case measure => omega
          case rel => exact ⟨i + 1, f2, by go_num, by omega, by omega, by omega, Lib.hid (by rw [show min (i + 1) b = i + 1 from by omega]; exact HS.out), S2⟩
        · obtain ⟨jp, rfl⟩ : ∃ q, j = q + 1 := ⟨j - 1, by omega⟩
          by_cases hk : key (f2 jp) < key (f2 (jp + 1))
          · have hv : cmpV (key (f2 jp)) (key (f2 (jp + 1))) < 0 := cmpV_neg hk
            have HK := Lib.hid hk
            clear hk
            have hjad : (a : Int) < (jp : Int) + 1 := by omega
            have pa : (0 : Int) ≤ (jp : Int) + 1 := by omega
            have ba : (jp : Int) + 1 < (n : Int) := by omega
            have ra : IntKind.i64.wrap ((jp : Int) + 1) = (jp : Int) + 1 := by rw [IntKind.wrap_i64]; omega
            have pc1 : (0 : Int) ≤ (jp : Int) := by omega
            have bc1 : (jp : Int) < (n : Int) := by omega
            have rc : IntKind.i64.wrap (jp : Int) = (jp : Int) := by rw [IntKind.wrap_i64]; omega
            have la := SJ.out.own.cell (i := jp + 1) (by omega)
            have lb := SJ.out.own.cell (i := jp) (by omega)
            have hDj : ∀ k, k < n → D (f2 k) := HI.out.all (by omega) hD.out
            have HCM := Lib.hid (fun k => HC.out (wr.drewN k) (SJ.out.mod.drewN k) _ _ (hDj (jp + 1) (by omega)) (hDj jp (by omega)))
            clear hDj
            go_wp2_with fail
            go_quiet (first | (go_at_call 35; exact Calls.quiet_of (HCM.out _)))
            have S2 := SJ.out.drewN nq
            clear la lb HCM SJ
            generalize wr.drewN nq = w2 at S2 ⊢
            clear nq
            have H3 := Lib.hid (S2.exch (jp + 1) jp _ _ rfl rfl (by omega))
            have la := S2.own.cell (i := jp + 1) (by omega)
            have lb := S2.own.cell (i := jp) (by omega)
            have fa := S2.own.frozen (jp + 1)
            have fb := S2.own.frozen jp
            have lc := (S2.own.set (jp + 1) (.int .i64 (f2 jp))).cell (i := jp) (by omega)
            clear S2
            go_wp2_with fail
            go_big_region
            clear la lb lc fa fb
            generalize ((w2.setCell ⟨g, jp + 1, none⟩ (.int .i64 (f2 jp))).setCell ⟨g, jp, none⟩ (.int .i64 (f2 (jp + 1)))).drew = w3 at H3 ⊢
            go_wp2
            go_roundg jp
            case measure => omega
            case rel => exact ⟨jp, exch f2 (jp + 1) jp, by first | rfl | go_num, by omega, by omega, Nat.le_refl _, Lib.hid (HI.out.step (by omega) (by omega) HK.out), H3⟩
          · have hv : ¬ cmpV (key (f2 jp)) (key (f2 (jp + 1))) < 0 := cmpV_not hk
            have HS := Lib.hid (HI.out.stop haj hji (Or.inr (by simpa using hk)))
            clear hk
            have hjad : (a : Int) < (jp : Int) + 1 := by omega
            have pa : (0 : Int) ≤ (jp : Int) + 1 := by omega
            have ba : (jp : Int) + 1 < (n : Int) := by omega
            have ra : IntKind.i64.wrap ((jp : Int) + 1) = (jp : Int) + 1 := by rw [IntKind.wrap_i64]; omega
            have pc1 : (0 : Int) ≤ (jp : Int) := by omega
            have bc1 : (jp : Int) < (n : Int) := by omega
            have rc : IntKind.i64.wrap (jp : Int) = (jp : Int) := by rw [IntKind.wrap_i64]; omega
            have la := SJ.out.own.cell (i := jp + 1) (by omega)
            have lb := SJ.out.own.cell (i := jp) (by omega)
            have hDj : ∀ k, k < n → D (f2 k) := HI.out.all (by omega) hD.out
            have HCM := Lib.hid (fun k => HC.out (wr.drewN k) (SJ.out.mod.drewN k) _ _ (hDj (jp + 1) (by omega)) (hDj jp (by omega)))
            clear hDj
            go_wp2_with fail
            go_quiet (first | (go_at_call 35; exact Calls.quiet_of (HCM.out _)))
            have S2 := Lib.hid (SJ.out.drewN nq)
            clear la lb HCM SJ HI
            generalize wr.drewN nq = w2 at S2 ⊢
            clear nq
            go_wp2
            go_roundg (b - (i + 1))
            case measure => omega
            case rel => exact ⟨i + 1, f2, by go_num, by omega, by omega, by omega, Lib.hid (by rw [show min (i + 1) b = i + 1 from by omega]; exact HS.out), S2⟩
    · go_wp2
      go_end0
      exact ⟨rfl, f1, by have := HS.out; rwa [show min i b = b from by omega] at this, S1.out⟩
end Go.Proofs.Ytahpoikbnjhkgaa
