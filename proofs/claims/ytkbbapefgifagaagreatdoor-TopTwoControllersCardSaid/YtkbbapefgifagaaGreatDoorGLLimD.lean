/-
Several texts in one: LimD, LimE, LimF0.
-/
import Derived.Test.YtkbbapefgifagaaGreatDoorGLTreeA
import Derived.Test.YtkbbapefgifagaaGreatDoorGLLimA
import Derived.Test.YtkbbapefgifagaaGreatDoorGLTreeH
import Derived.Test.YtkbbapefgifagaaGreatDoorGLSiteH
import Derived.Test.YtkbbapefgifagaaGreatDoorGLTreeE
/-
The iterator over the phases of all conductors.
-/
namespace Go.Proofs.YtkbbapefgifagaaGreatDoor
open Go.RowKit Go.Shelf
set_option linter.unusedVariables false
set_option linter.unusedSimpArgs false
set_option maxRecDepth 100000 in
theorem limPlaces_any (a1 a2 a3 a4 a5 : Option Addr) (n1 c1 n2 c2 n3 c3 n4 c4 n5 c5 : Nat) (w : World) : Calls Tryz.prog 81 #[.agg #[.slice a1 n1 c1, .slice a2 n2 c2, .slice a3 n3 c3, .slice a4 n4 c4, .slice a5 n5 c5]] w fun e w' =>
    e = .returned (.func (.func 101) #[] #[.pointer (some ⟨w.heap.size, 0, none⟩)]) ∧ w' = w.alloc (.cells #[.slice a1 n1 c1, .slice a2 n2 c2, .slice a3 n3 c3, .slice a4 n4 c4, .slice a5 n5 c5] 39) := by
  go_enter Tryz.func81, Tryz.ntmps81
  go_wp2
  go_ret
  exact ⟨rfl, rfl⟩
/-- A phase of a conductor: number t stands for conductor t / 3, phase t % 3. -/
abbrev PlAt (n : Nat) : Type := { t : Nat // t < n * 3 }
theorem range_pre {m n : Nat} (h : m ≤ n) : List.range m <+: List.range n := by
  obtain ⟨d, rfl⟩ := Nat.le.dest h
  induction d with
  | zero => exact List.prefix_refl _
  | succ d ih =>
    refine (ih (by omega)).trans ?_
    rw [← Nat.add_assoc, List.range_succ]
    exact List.prefix_append _ _
theorem range_snoc (n : Nat) : List.range (n + 1) = List.range n ++ [n] := List.range_succ
set_option maxRecDepth 100000 in
set_option maxHeartbeats 2000000 in
theorem limPlaces1_in (n : Nat) (hn : 1 ≤ n) (l bs B : Nat) (a1 : Option Addr) (n1 c1 : Nat) (hm1 : n1 ≤ 1000000) (J Jx : List (PlAt n1) → World → Prop) (W : World)
    (hJ : AbidesFrom W.heap.size J)
    (hY : ∀ (pre : List (PlAt n1)) (x : PlAt n1) W1, J pre W1 → pre.length < n1 * 3 → YieldAt Fence.wide (n - 1) Tryz.prog l #[.agg #[.int .i64 ((x.1 / 3 : Nat) : Int), .int .i64 ((x.1 % 3 : Nat) : Int)]] W1 fun e W' =>
      (e = .returned (.bool true) ∧ J (pre ++ [x]) W' ∧ Below B W1 W') ∨ (e = .returned (.bool false) ∧ Jx (pre ++ [x]) W'))
    (hbs : W.cell? ⟨bs, 0, none⟩ = some (.slice a1 n1 c1)) (h0 : J [] W) :
    CallsIn Fence.wide n Tryz.prog 101 #[.func (.yield l) #[] #[], .pointer (some ⟨bs, 0, none⟩)] W fun e W' => (∃ v, e = .returned v) ∧
      ((∃ ys : List (PlAt n1), ys.map (·.1) = List.range (n1 * 3) ∧ J ys W') ∨ (∃ pre : List (PlAt n1), pre.map (·.1) <+: List.range (n1 * 3) ∧ Jx pre W')) := by
  have HY := Lib.hid hY
  have HJ := Lib.hid hJ
  clear hY hJ
  refine callsIn_of_wp Tryz.func101 rfl trivial ?_ rfl
  simp only [Tryz.ntmps101, List.size_toArray, List.length_cons, List.length_nil, Nat.reduceAdd, Nat.reduceSub, Array.replicate_succ, Array.replicate_zero, List.push_toArray, List.append_toArray, List.nil_append, List.cons_append]
  gi_wp2
  gi_loopw [3, 4, 8] (fun v3 v4 i wr => ∃ (c : Nat) (pre : List (PlAt n1)), i = .int .i64 (c : Nat) ∧ c ≤ n1 ∧ Hid (pre.map (·.1) = List.range (c * 3)) ∧ J pre wr) (fun _ _ i _ => (n1 - (intOf i).toNat))
  case atStart => exact ⟨0, [], by rfl, by omega, Lib.hid (by simp), h0⟩
  case round =>
    clear hbs h0
    obtain ⟨c, pre, rfl, hc, Hpre, hJp⟩ := hrel
    by_cases hlt : c < n1
    · have hltz : (c : Int) < (n1 : Int) := by omega
      gi_wp2
      gi_loopw [4, 11] (fun v4 i wr => ∃ (p : Nat) (pre : List (PlAt n1)), i = .int .i64 (p : Nat) ∧ p ≤ 3 ∧ Hid (pre.map (·.1) = List.range (c * 3 + p)) ∧ J pre wr) (fun _ i _ => (3 - (intOf i).toNat))
      case atStart => exact ⟨0, pre, by rfl, by omega, Lib.hid Hpre.out, hJp⟩
      case round =>
        clear Hpre hJp
        obtain ⟨p, pre, rfl, hp, Hpre, hJp⟩ := hrel
        by_cases hlp : p < 3
        · have hlpz : (p : Int) < (3 : Int) := by omega
          have hin : c * 3 + p < n1 * 3 := by omega
          have hpl : pre.length < n1 * 3 := by
            have := congrArg List.length Hpre.out
            simp at this
            omega
          obtain ⟨fn, tmps, assign, body, hy, hRd⟩ := HY.out pre ⟨c * 3 + p, hin⟩ wr hJp hpl
          dsimp only at hy
          rw [show (c * 3 + p) / 3 = c by omega, show (c * 3 + p) % 3 = p by omega] at hy
          have HNX : Hid ((pre ++ [(⟨c * 3 + p, hin⟩ : PlAt n1)]).map (·.1) = List.range (c * 3 + (p + 1))) := Lib.hid (by
            rw [List.map_append, Hpre.out, ← Nat.add_assoc, range_snoc]
            rfl)
          have HPF : Hid ((pre ++ [(⟨c * 3 + p, hin⟩ : PlAt n1)]).map (·.1) <+: List.range (n1 * 3)) := Lib.hid (by
            rw [HNX.out]
            exact range_pre (by omega))
          gi_wp2
          refine hRd.mono ?_
          rintro e' W3 (⟨rfl, hJ3, hk3⟩ | ⟨rfl, hJx3⟩)
          · gi_wp2
            go_roundw
            case rel => exact ⟨p + 1, _, by simp, by omega, HNX, hJ3⟩
            case measure => simp [intOf]; omega
          · gi_wp2
            refine bodyPost_ret (results_none rfl _ _ _) rfl ?_
            exact ⟨⟨_, rfl⟩, .inr ⟨_, HPF.out, hJx3⟩⟩
        · have hlpz : ¬ (p : Int) < (3 : Int) := by omega
          have hp3 : p = 3 := by omega
          subst hp3
          have Hpre2 : Hid (pre.map (·.1) = List.range ((c + 1) * 3)) := Lib.hid (by rw [Hpre.out, show c * 3 + 3 = (c + 1) * 3 by omega])
          gi_wp2
          go_roundw
          case rel => exact ⟨c + 1, pre, by simp, by omega, Hpre2, hJp⟩
          case measure => simp [intOf]; omega
    · have hltz : ¬ (c : Int) < (n1 : Int) := by omega
      have hcn : c = n1 := by omega
      subst hcn
      gi_wp2
      go_end0
      exact ⟨⟨_, rfl⟩, .inl ⟨pre, Hpre.out, hJp⟩⟩
/-- ONE RULE for every loop over the phases of all conductors. -/
theorem range_places {n1 : Nat} (hm1 : n1 ≤ 1000000) {a1 : Option Addr} {c1 : Nat} {g : Operand} {p : Tmp} {assign body : Code} {Q : Exit → Act → World → Prop} {a : Act} {w : World} (bs B : Nat)
    (hg : a.eval g = .func (.func 101) #[] #[.pointer (some ⟨bs, 0, none⟩)]) (hbs : w.cell? ⟨bs, 0, none⟩ = some (.slice a1 n1 c1)) (hB : B ≤ w.heap.size)
    (I : List (PlAt n1) → World → Prop) (Ix : Code → List (PlAt n1) → World → Prop) (hI : ∀ pre W W', I pre W → Nc w.heap.size W W' → I pre W') (hIx : ∀ c pre W W', Ix c pre W → Nc w.heap.size W W' → Ix c pre W') (h0 : I [] w) (Ax : PlAt n1 → Act → World → Prop) (hAx : ∀ x a' W W', Ax x a' W → Nc w.heap.size W W' → Ax x a' W')
    (hassign : ∀ (l : Nat) (pre : List (PlAt n1)) (x : PlAt n1) (W : World) (K : Act → World → Prop), I pre W → (∀ a' W', KeepsFrom w.heap.size W W' → Below B W W' → I pre W' → Ax x a' W' → K a' W') → assign.wpIn (Fence.wide.inRound l) 3 Tryz.prog (Exit.then K (fun _ _ _ => False)) { tmps := a.tmps.setIfInBounds p (.agg #[.int .i64 ((x.1 / 3 : Nat) : Int), .int .i64 ((x.1 % 3 : Nat) : Int)]), defers := [] } W)
    (hbody : ∀ (l : Nat) (pre : List (PlAt n1)) (x : PlAt n1) (a' : Act) (W : World), I pre W → Ax x a' W → pre.length < n1 * 3 → body.wpIn (Fence.wide.inRound l) 3 Tryz.prog (ownPostG w.heap.size (Below B) I Ix (pre ++ [x]) W) a' W)
    (hdone : ∀ (D : Nat) (ys : List (PlAt n1)) (W : World), w.heap.size ≤ D → ys.map (·.1) = List.range (n1 * 3) → I ys W → W.heap[D]? = some (.deferred (some [])) → Q .normal { a with defers := { target := .collected D, args := #[] } :: a.defers } W)
    (hstop : ∀ (D : Nat) (c : Code) (pre : List (PlAt n1)) (W : World), w.heap.size ≤ D → pre.map (·.1) <+: List.range (n1 * 3) → Ix c pre W → W.heap[D]? = some (.deferred (some [])) → c.wpIn Fence.wide 5 Tryz.prog Q { a with defers := { target := .collected D, args := #[] } :: a.defers } W) :
    (Code.rangeFunc g #[p] assign body).wp Tryz.prog Q a w := by
  have ls := World.block_lt_of_cell? w _ hbs
  dsimp only at ls
  refine (wpIn_wide (n := 5)).1 ?_
  refine wpIn_rangeFunc_ownH (F := Fence.wide) (α := PlAt n1) rfl (by omega) (gf := 101) (lb := #[.pointer (some ⟨bs, 0, none⟩)]) hg trivial (enters_of Tryz.func101 (by kernel_rfl) rfl)
    (encs := fun x => #[.agg #[.int .i64 ((x.1 / 3 : Nat) : Int), .int .i64 ((x.1 % 3 : Nat) : Int)]]) (Kp := Below B) (S := fun (ys : List (PlAt n1)) => ys.map (·.1) = List.range (n1 * 3)) (Sp := fun (ys : List (PlAt n1)) => List.IsPrefix (ys.map (fun (x : PlAt n1) => x.1)) (List.range (n1 * 3))) (N := n1 * 3) (w0 := w)
    (fun l J Jx W' hW' hJ _ hY h0 => limPlaces1_in 4 (by omega) l bs B a1 n1 c1 hm1 J Jx W' hJ hY ((hW'.cell (p := ⟨bs, 0, none⟩) ls).trans hbs) h0)
    ?hKt ?hKb (Below.refl _ _) (fun _ => rfl) I Ix ?hI ?hIx h0 Ax ?hAx ?assign ?body ?done hstop
  case hKt => exact fun h1 h2 => h1.trans h2
  case hKb =>
    intro W' l o o' hl ho _ _
    exact ⟨rfl, rfl, rfl, by simp, fun k hk => World.putObj_heap_other (by omega)⟩
  case hI => exact fun pre W1 W2 row h hg hr => hI pre W1 W2 h ⟨row, hg, hr⟩
  case hIx => exact fun c pre W1 W2 row h hg hr => hIx c pre W1 W2 h ⟨row, hg, hr⟩
  case hAx => exact fun x a' _ W1 W2 row h hg hr => hAx x a' W1 W2 h ⟨row, hg, hr⟩
  case assign =>
    intro l pre x W1 K hi hK
    have ht : (#[p].zip #[Value.agg #[.int .i64 ((x.1 / 3 : Nat) : Int), .int .i64 ((x.1 % 3 : Nat) : Int)]]).foldl (fun t (p, v) => t.setIfInBounds p v) a.tmps = a.tmps.setIfInBounds p (.agg #[.int .i64 ((x.1 / 3 : Nat) : Int), .int .i64 ((x.1 % 3 : Nat) : Int)]) := by simp
    rw [ht]
    exact hassign l pre x W1 K hi hK
  case body =>
    intro l pre x a' W1 hl hlr hi hx hlen
    exact hbody l pre x a' W1 hi hx hlen
  case done => exact fun D ys W1 hD hS hi hdf => hdone D ys W1 hD hS hi hdf
end Go.Proofs.YtkbbapefgifagaaGreatDoor
/-
limits.Limit and the reference's.
-/
namespace Go.Proofs.YtkbbapefgifagaaGreatDoor
open Go.RowKit
set_option linter.unusedVariables false
set_option linter.unusedSimpArgs false
def limAt (s : GSite) (k : Nat) : Int := ((s.cons[k]?).map limV).getD 0
end Go.Proofs.YtkbbapefgifagaaGreatDoor
/-
Check: plain words, its result's cells, what holds between two phases.
-/
namespace Go.Proofs.YtkbbapefgifagaaGreatDoor
open Go.RowKit Go.Shelf
set_option linter.unusedVariables false
set_option linter.unusedSimpArgs false
def v3F (x y z : Int) (i : Nat) : Value := if i = 0 then .int .i64 x else if i = 1 then .int .i64 y else .int .i64 z
theorem Own.three (w : World) (t : TypeId) (x y z : Int) : Own (w.alloc (.cells #[.int .i64 x, .int .i64 y, .int .i64 z] t)) w.heap.size t 3 (v3F x y z) := by
  refine (Own.new w t #[.int .i64 x, .int .i64 y, .int .i64 z] undef).congr (fun i hi => ?_)
  have hi' : i < 3 := hi
  rcases i with _ | _ | _ | i
  all_goals first | rfl | omega
theorem Rd.ncL {α : Type} {sz : Nat} {enc : α → List Value} {xs : List α} {B : Nat} {W W' : World} {A : Option Addr} (hr : Rd sz enc W A xs) (hn : Nc B W W') : Rd sz enc W' A xs := by
  intro h0
  obtain ⟨b, off, hA, hlt, hc⟩ := hr h0
  refine ⟨b, off, hA, ?_, fun k x hx j v hv => cell_nc1 (hc k x hx j v hv) hn⟩
  obtain ⟨row, hg, _⟩ := hn
  exact Nat.lt_of_lt_of_le hlt hg.size
section
variable {w W W' : World} {a1 : Option Addr} {n1 c1 : Nat} {a2 : Option Addr} {n2 c2 : Nat} {a3 : Option Addr} {n3 c3 : Nat} {a4 : Option Addr} {n4 c4 : Nat} {a5 : Option Addr} {n5 c5 : Nat} {X : Nat} {aL : Option Addr} {cL : Nat} {F : Nat → Int} {r0 r1 r2 : Int} {rb : Bool} {re : Int}
end
theorem keepsFrom_alloc (W : World) (o : Obj) (B : Nat) : KeepsFrom B W (W.alloc o) :=
  ⟨by simp, fun q o' _ ho _ => by rw [← ho]; exact ((Below.refl _ W).alloc (Nat.le_refl _) o).block q (Array.getElem?_eq_some_iff.1 ho).1⟩
theorem below_drew (W : World) : Below W.heap.size W W.drew := (Mod.refl (fun _ => False) W).drew.below (Nat.le_refl _) (fun _ _ h => h.elim)
end Go.Proofs.YtkbbapefgifagaaGreatDoor
