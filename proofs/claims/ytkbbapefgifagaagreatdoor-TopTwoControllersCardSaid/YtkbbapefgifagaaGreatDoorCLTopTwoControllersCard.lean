/-
TopTwoControllers: two controllers that share the amperes of a site never have leases alive for more of them than there are, for every four arguments. Narrower by its row's own cells: the two listed tables hold at the start what the program's text lays; the card ties that.
-/
import Derived.Test.YtkbbapefgifagaaGreatDoorCOpenR
import Derived.Test.YtkbbapefgifagaaGreatDoorCEnter
import Derived.Test.YtkbbapefgifagaaGreatDoorRows
import Derived.Test.YtkbbapefgifagaaGreatDoorChecked
import Derived.Test.YtkbbapefgifagaaGreatDoorCards
import Derived.Test.YtkbbapefgifagaaGreatDoorTie
import Derived.WalkKit
import Derived.ProofKit
import Derived.OpenShut
import Derived.ChangeOld
import Derived.Below
import Derived.Deep.DeepHandedRow
import Derived.Lib.LaidTab
namespace Go.Proofs.YtkbbapefgifagaaGreatDoor.topTwoControllersCard
open Go.ChangeShapes Go.WideShapes Go.ChangeAt Go.RowKit
set_option linter.unusedVariables false
set_option linter.unusedSimpArgs false

theorem own : ownKnob Tryz.prog.godebug = none := by kernel_rfl
theorem laidOut : laidOutB Tryz.prog = true := by kernel_rfl
theorem gA : Tryz.prog.globalNamed "chargepark/charger.afterwards" = some 0 := by kernel_rfl
theorem gH : Tryz.prog.globalNamed "chargepark/ramp.happens" = some 1 := by kernel_rfl
theorem tA : (Tryz.prog.globals[0]?).map (·.type) = some 102 := by kernel_rfl
theorem tH : (Tryz.prog.globals[1]?).map (·.type) = some 146 := by kernel_rfl
theorem c1 : Tryz.prog.cellsOf 3 = 1 := by kernel_rfl
theorem c6 : Tryz.prog.cellsOf 101 = 6 := by kernel_rfl
theorem c2 : Tryz.prog.cellsOf 144 = 2 := by kernel_rfl
theorem c4 : Tryz.prog.cellsOf 145 = 4 := by kernel_rfl

/-- An array's element, read. -/
theorem row_of {H : Type} {enc : TypeId × Value → H} {P : Program} {w : World} {base : Nat} {sp : Nat → Bool} {held : Bool} {fuel : Nat} {t e : TypeId} {n m : Nat} {cs : List Value} {Ds : List (DataW H)} {p : List MemPlace}
    (ht : P.underlying t = some (.array n e)) (hce : P.cellsOf e = m)
    (h : DataW.trod enc P w base sp held fuel t cs = some (.agg Ds, p)) (i : Nat) (D : DataW H) (hz : Ds[i]? = some D) : ∃ m1 p1, DataW.trod enc P w base sp held m1 e ((cs.drop (i * m)).take m) = some (D, p1) := by
  obtain ⟨xs, m1, _, hx, _, hxl, hel⟩ := DataW.trod_array ht h
  simp only [Prod.mk.injEq, DataW.agg.injEq] at hx
  have hxs := hx.1
  have hi : i < n := by
    rw [← hxl]
    have := congrArg List.length hxs
    rw [List.length_map] at this
    have := (List.getElem?_eq_some_iff.1 hz).1
    omega
  have h1 := hel i hi
  rw [hce] at h1
  have h2 : (xs.map (·.1))[i]? = some D := by rw [← hxs]; exact hz
  rw [List.getElem?_map] at h2
  obtain ⟨y, hy, hy1⟩ := Option.map_eq_some_iff.1 h2
  rw [hy] at h1
  obtain ⟨y0, y1⟩ := y
  dsimp only at hy1
  subst hy1
  exact ⟨m1, y1, h1⟩
/-- An array of arrays of integers: each row's cells are its numbers. -/
theorem cells2 {H : Type} {enc : TypeId × Value → H} {P : Program} {w : World} {base : Nat} {sp : Nat → Bool} {held : Bool} {fuel : Nat} {t e f : TypeId} {n m : Nat} {k : IntKind} {cs : List Value} {zss : List (List Int)} {p : List MemPlace}
    (ht : P.underlying t = some (.array n e)) (he : P.underlying e = some (.array m f)) (hf : P.underlying f = some (.int k)) (hcf : P.cellsOf f = 1) (hce : P.cellsOf e = m)
    (h : DataW.trod enc P w base sp held fuel t cs = some (.agg (zss.map (Lib.tabData k)), p)) (i : Nat) (zs : List Int) (hz : zss[i]? = some zs) : (cs.drop (i * m)).take m = zs.map fun z => Value.int k z := by
  obtain ⟨m1, p1, h1⟩ := row_of ht hce h i (Lib.tabData k zs) (by rw [List.getElem?_map, hz]; rfl)
  exact Lib.cells_of_tab he hf hcf hce h1
theorem cell_of {cs : List Value} {i m j : Nat} {ws : List Value} {v : Value} (h : (cs.drop (i * m)).take m = ws) (hj : ws[j]? = some v) : cs[i * m + j]? = some v := by
  have h1 := hj
  rw [← h] at h1
  have hjm : j < m := by
    have := (List.getElem?_eq_some_iff.1 h1).1
    rw [List.length_take] at this
    omega
  rw [List.getElem?_take_of_lt hjm, List.getElem?_drop] at h1
  exact h1

/-- What the row's list gives the walk. -/
theorem tables {W : World} (h : laidMetH Tryz.prog Rows.topTwoControllersRow.laid W) : W.cell? ⟨0, 46, none⟩ = some (.int .i64 (-2)) ∧ W.cell? ⟨0, 52, none⟩ = some (.int .i64 (-2)) ∧ hapT W := by
  have h' : laidMet Tryz.prog Rows.topTwoControllersRow.laid W := h
  obtain ⟨ps, ⟨g0, t0, cs0, f0, p0, q0, hg0, ht0, hv0, hd0, ⟨g1, t1, cs1, f1, p1, q1, hg1, ht1, hv1, hd1, _, _⟩, _⟩, _⟩ := h'
  obtain rfl := Option.some.inj (gA.symm.trans hg0)
  obtain rfl := Option.some.inj (gH.symm.trans hg1)
  obtain rfl := Option.some.inj (tA.symm.trans ht0)
  obtain rfl := Option.some.inj (tH.symm.trans ht1)
  have r7 := cells2 (zss := [[(-1), (-1), (-1), (-1), (-1), (-1)], [1, (-1), (-1), (-1), (-1), (-1)], [(-1), 0, (-1), (-1), (-1), (-3)], [(-1), 2, (-1), (-1), (-1), (-1)], [(-1), (-1), (-3), (-1), (-1), (-1)], [(-1), (-1), (-1), 4, (-1), (-1)], [(-1), (-1), (-1), (-1), (-3), (-1)], [(-2), (-2), (-2), (-2), (-2), (-2)], [(-2), (-2), (-2), (-2), (-2), (-2)], [0, 1, 1, 1, 1, (-3)]]) Tryz.underlying102 Tryz.underlying101 Tryz.underlying3 c1 c6 hd0 7 [(-2), (-2), (-2), (-2), (-2), (-2)] rfl
  have r8 := cells2 (zss := [[(-1), (-1), (-1), (-1), (-1), (-1)], [1, (-1), (-1), (-1), (-1), (-1)], [(-1), 0, (-1), (-1), (-1), (-3)], [(-1), 2, (-1), (-1), (-1), (-1)], [(-1), (-1), (-3), (-1), (-1), (-1)], [(-1), (-1), (-1), 4, (-1), (-1)], [(-1), (-1), (-1), (-1), (-3), (-1)], [(-2), (-2), (-2), (-2), (-2), (-2)], [(-2), (-2), (-2), (-2), (-2), (-2)], [0, 1, 1, 1, 1, (-3)]]) Tryz.underlying102 Tryz.underlying101 Tryz.underlying3 c1 c6 hd0 8 [(-2), (-2), (-2), (-2), (-2), (-2)] rfl
  have e46 := cell_of (j := 4) r7 rfl
  have e52 := cell_of (j := 4) r8 rfl
  obtain ⟨m0, q0', s0⟩ := row_of Tryz.underlying146 c4 hd1 0 (.agg ([[1, 1], [1, 0]].map (Lib.tabData .i64))) rfl
  obtain ⟨m1, q1', s1⟩ := row_of Tryz.underlying146 c4 hd1 1 (.agg ([[2, 2], [3, 3]].map (Lib.tabData .i64))) rfl
  have r00 := cells2 (zss := [[1, 1], [1, 0]]) Tryz.underlying145 Tryz.underlying144 Tryz.underlying3 c1 c2 s0 0 [1, 1] rfl
  have e000 : cs1.toList[0]? = some (.int .i64 1) := cell_of (i := 0) (m := 4) (j := 0) rfl (cell_of (i := 0) (m := 2) (j := 0) r00 rfl)
  have e001 : cs1.toList[1]? = some (.int .i64 1) := cell_of (i := 0) (m := 4) (j := 1) rfl (cell_of (i := 0) (m := 2) (j := 1) r00 rfl)
  have r01 := cells2 (zss := [[1, 1], [1, 0]]) Tryz.underlying145 Tryz.underlying144 Tryz.underlying3 c1 c2 s0 1 [1, 0] rfl
  have e010 : cs1.toList[2]? = some (.int .i64 1) := cell_of (i := 0) (m := 4) (j := 2) rfl (cell_of (i := 1) (m := 2) (j := 0) r01 rfl)
  have e011 : cs1.toList[3]? = some (.int .i64 0) := cell_of (i := 0) (m := 4) (j := 3) rfl (cell_of (i := 1) (m := 2) (j := 1) r01 rfl)
  have r10 := cells2 (zss := [[2, 2], [3, 3]]) Tryz.underlying145 Tryz.underlying144 Tryz.underlying3 c1 c2 s1 0 [2, 2] rfl
  have e100 : cs1.toList[4]? = some (.int .i64 2) := cell_of (i := 1) (m := 4) (j := 0) rfl (cell_of (i := 0) (m := 2) (j := 0) r10 rfl)
  have e101 : cs1.toList[5]? = some (.int .i64 2) := cell_of (i := 1) (m := 4) (j := 1) rfl (cell_of (i := 0) (m := 2) (j := 1) r10 rfl)
  have r11 := cells2 (zss := [[2, 2], [3, 3]]) Tryz.underlying145 Tryz.underlying144 Tryz.underlying3 c1 c2 s1 1 [3, 3] rfl
  have e110 : cs1.toList[6]? = some (.int .i64 3) := cell_of (i := 1) (m := 4) (j := 2) rfl (cell_of (i := 1) (m := 2) (j := 0) r11 rfl)
  have e111 : cs1.toList[7]? = some (.int .i64 3) := cell_of (i := 1) (m := 4) (j := 3) rfl (cell_of (i := 1) (m := 2) (j := 1) r11 rfl)
  refine ⟨(World.var?_cell hg0 hv0 46).trans (by rw [← Array.getElem?_toList]; exact e46), (World.var?_cell hg0 hv0 52).trans (by rw [← Array.getElem?_toList]; exact e52), ?_⟩
  intro i hi
  refine (World.var?_cell hg1 hv1 i).trans ?_
  rw [← Array.getElem?_toList]
  match i, hi with
  | 0, _ => exact e000
  | 1, _ => exact e001
  | 2, _ => exact e010
  | 3, _ => exact e011
  | 4, _ => exact e100
  | 5, _ => exact e101
  | 6, _ => exact e110
  | 7, _ => exact e111

set_option maxRecDepth 100000 in
/-- What the walk gives, for every argument and every world that holds the tables. -/
theorem contract (H : Type) (enc : TypeId × Value → H) (W : World) (base : Nat) (args : Array Value) (ds gs : List (DataW H)) (before : List MemPlace)
    (hval0 : ∀ (j : Nat) t v, Tryz.f3.params[j]? = some t → args[j]? = some v → Value.okWide Tryz.prog W .any base t v)
    (hW : DataW.Whole enc Tryz.prog Tryz.f3.params.toList Rows.topTwoControllersSpec.vars false W args.toList ds gs before) (hL : laidMetH Tryz.prog Rows.topTwoControllersRow.laid W) :
    Calls Tryz.prog 3 args W fun e W' => ∃ v, e = .returned v ∧ Rows.topTwoControllersSpec.post enc Tryz.prog Tryz.f3 false true false false W args v W' := by
  have hval : ∀ (j : Nat) t v, Tryz.f3.params[j]? = some t → args[j]? = some v → Value.okWide Tryz.prog W .any base t v := hval0
  have hW' := hW
  obtain ⟨p, q, hA0, hV, rfl, hfz, hnd⟩ := hW
  have hA : DataW.TrodAll enc Tryz.prog W 0 (fun _ => true) true Tryz.f3.params.toList args.toList ds p := hA0
  rw [Tryz.params3] at hA hval
  obtain ⟨v0, vs0, d0, ds0, p0, q0, hargs, rfl, rfl, h0, r0⟩ := trodAll_cons hA
  obtain ⟨v1, vs1, d1, ds1, p1, q1, rfl, rfl, rfl, h1, r1⟩ := trodAll_cons r0
  obtain ⟨v2, vs2, d2, ds2, p2, q2, rfl, rfl, rfl, h2, r2⟩ := trodAll_cons r1
  obtain ⟨v3, vs3, d3, ds3, p3, q3, rfl, rfl, rfl, h3, r3⟩ := trodAll_cons r2
  obtain ⟨rfl, rfl, rfl⟩ := trodAll_nil r3
  obtain rfl : args = #[v0, v1, v2, v3] := by cases args; simp_all
  obtain ⟨rfl, rfl⟩ := trodVars_none hV
  obtain ⟨a0, rfl, rfl, rfl, w0⟩ := open_int Tryz.underlying5 (hval 0 5 v0 rfl rfl) h0
  obtain ⟨a1, rfl, rfl, rfl, w1⟩ := open_int Tryz.underlying5 (hval 1 5 v1 rfl rfl) h1
  obtain ⟨a2, rfl, rfl, rfl, w2⟩ := open_int Tryz.underlying5 (hval 2 5 v2 rfl rfl) h2
  have k3 := h3
  have lt3 : ∀ x ∈ p3, x.block < W.heap.size := by obtain ⟨m, hm⟩ := k3; exact DataW.trod_lt m _ _ _ hm
  obtain ⟨a3, len3, cap3, z3, rfl, hz3, w3, wz3⟩ := turns_open (hval 3 22 v3 rfl rfl) h3
  clear hA0 hval0
  obtain ⟨t46, t52, th⟩ := tables hL
  refine (walk_TopTwoControllers a0 a1 a2 a3 len3 cap3 z3 W (bounds_u8 w0) (bounds_u8 w1) (bounds_u8 w2) (Lib.hid w3) (Lib.hid hz3) (Lib.hid wz3) (Lib.hid th) t46 t52).mono fun e W' ⟨he, bel⟩ => ?_
  subst he
  exact ⟨_, rfl, _, _, _, [], _, [], hW', trodAll_mk1 (shut_bool Tryz.underlying4 _), (trodAll_cons_mk (shut_int Tryz.underlying5 w0) (trodAll_cons_mk (shut_int Tryz.underlying5 w1) (trodAll_cons_mk (shut_int Tryz.underlying5 w2) (trodAll_cons_mk (Below.trod laidOut (by kernel_rfl) (of_decide_eq_true (by kernel_rfl)) k3 bel lt3) trodAll_mk0)))), rfl, bel.frame _, fun h => by cases h⟩

/-- A world for the witness: the settled one, both tables holding what their initialisers lay. -/
noncomputable def laidCell (cs : Array Value) : Obj → Obj
  | .cells _ t frozen => .cells cs t frozen
  | o => o
noncomputable def laidWorld (os : Os) : World :=
  { World.holding Tryz.prog os ⟨#[], #[], []⟩ with heap := ((World.holding Tryz.prog os ⟨#[], #[], []⟩).heap.modify 0 (laidCell #[.int .i64 (-1), .int .i64 (-1), .int .i64 (-1), .int .i64 (-1), .int .i64 (-1), .int .i64 (-1), .int .i64 1, .int .i64 (-1), .int .i64 (-1), .int .i64 (-1), .int .i64 (-1), .int .i64 (-1), .int .i64 (-1), .int .i64 0, .int .i64 (-1), .int .i64 (-1), .int .i64 (-1), .int .i64 (-3), .int .i64 (-1), .int .i64 2, .int .i64 (-1), .int .i64 (-1), .int .i64 (-1), .int .i64 (-1), .int .i64 (-1), .int .i64 (-1), .int .i64 (-3), .int .i64 (-1), .int .i64 (-1), .int .i64 (-1), .int .i64 (-1), .int .i64 (-1), .int .i64 (-1), .int .i64 4, .int .i64 (-1), .int .i64 (-1), .int .i64 (-1), .int .i64 (-1), .int .i64 (-1), .int .i64 (-1), .int .i64 (-3), .int .i64 (-1), .int .i64 (-2), .int .i64 (-2), .int .i64 (-2), .int .i64 (-2), .int .i64 (-2), .int .i64 (-2), .int .i64 (-2), .int .i64 (-2), .int .i64 (-2), .int .i64 (-2), .int .i64 (-2), .int .i64 (-2), .int .i64 0, .int .i64 1, .int .i64 1, .int .i64 1, .int .i64 1, .int .i64 (-3)])).modify 1 (laidCell #[.int .i64 1, .int .i64 1, .int .i64 1, .int .i64 0, .int .i64 2, .int .i64 2, .int .i64 3, .int .i64 3]) }
theorem laid_met (os : Os) : laidMet Tryz.prog Rows.topTwoControllersRow.laid ((laidWorld os).forCall (fun _ _ => 0) ⟨#[], #[.int .u8 0, .int .u8 0, .int .u8 0, .slice none 0 0], []⟩).memory :=
  laidMet_of_run' 8 (by kernel_rfl) (by kernel_rfl)
theorem reads (os : Os) {H : Type} (enc : TypeId × Value → H) : ∃ places, DataW.whole enc Tryz.prog ((laidWorld os).forCall (fun _ _ => 0) ⟨#[], #[.int .u8 0, .int .u8 0, .int .u8 0, .slice none 0 0], []⟩).memory Tryz.f3.params.toList Rows.topTwoControllersSpec.vars false #[.int .u8 0, .int .u8 0, .int .u8 0, .slice none 0 0].toList 8 = some ([.lit (.int .u8 0), .lit (.int .u8 0), .lit (.int .u8 0), .nil], [], places) :=
  ⟨[], by kernel_rfl⟩

set_option maxRecDepth 100000 in
theorem lifted (os : Os) (started : os.Started) (H : Type) (enc : TypeId × Value → H) (F : Stop.Interp) :
    ReturnsInHanded {} Tryz.checked os 3 .any ((OpenSpec.ofChange Rows.topTwoControllersSpec).preRow enc Tryz.prog Tryz.f3 Rows.topTwoControllersRow.domain false Rows.topTwoControllersRow.laid) (((OpenSpec.ofChange Rows.topTwoControllersSpec).at F).post enc Tryz.prog Tryz.f3 false true false false) := by
  obtain ⟨places, hx⟩ := reads os enc
  refine returnsInHanded_of_row (C := Tryz.checked) (s := OpenSpec.ofChange Rows.topTwoControllersSpec) own started (by kernel_rfl) Tryz.func3
    (witness_row_at (enc := enc) (C := Tryz.checked) false (laidWorld os) #[.int .u8 0, .int .u8 0, .int .u8 0, .slice none 0 0] rfl (by kernel_rfl) (by kernel_rfl) (by kernel_rfl)
      (OpenSpec.preRow_of_cond 8 hx (by kernel_rfl) (fun k hk => by cases hk) (by kernel_rfl) (laid_met os))) ?_
  intro W base args ds gs before hval hW _ _ _ hL _ _
  exact contract H enc W base args ds gs before hval hW hL

theorem facts : joinedFacts Tryz.pinned.checked.prog 3 Tryz.f3 (OpenSpec.ofChange Rows.topTwoControllersSpec).bare Rows.topTwoControllersRow = true := by
  unfold joinedFacts
  rw [enter_ok, lift_ok, make_ok]
  kernel_rfl
theorem said : Rows.TopTwoControllersSaid :=
  OpenClaim.holds_of_cond 3 Tryz.f3 rfl rfl rfl rfl rfl rfl rfl ⟨rfl, rfl, rfl, rfl, rfl⟩ rfl rfl rfl rfl rfl (by kernel_rfl) Tryz.func3 facts
    (of_decide_eq_true (by kernel_rfl)) (by unfold Func.isWrapper; first | (rw [if_pos (by decide +kernel)]; kernel_rfl) | (rw [if_neg (by decide +kernel)]; exact ⟨rfl, rfl⟩))
    (fun os started H enc _ F => by rw [OpenClaim.pre_eq_preRow]; exact lifted os started H enc F)
/-- No parameter wants a stand-in; the program's own looks are off: what the card asks. -/
theorem plain (f : FuncId) (fn : Func) (hf : Tryz.pinned.checked.prog.funcNamed "chargepark/chargeparktop.TopTwoControllers" = some f) (hfn : Tryz.pinned.checked.prog.funcs[f]? = some fn) :
    false = Tryz.pinned.checked.prog.looks [] ∧ ∀ (j : Nat) t, fn.params[j]? = some t → Tryz.pinned.checked.prog.wantsStandIn t = false := by
  obtain rfl : f = 3 := Option.some.inj ((show Tryz.prog.funcNamed "chargepark/chargeparktop.TopTwoControllers" = some 3 by kernel_rfl).symm.trans hf) |>.symm
  obtain rfl : fn = Tryz.f3 := (Option.some.inj (Tryz.func3.symm.trans hfn)).symm
  refine ⟨by kernel_rfl, fun j t ht => ?_⟩
  rw [Tryz.params3] at ht
  have ht' : t = 5 ∨ t = 22 := by
    have := Array.mem_of_getElem? ht
    simp at this
    omega
  rcases ht' with rfl | rfl
  · exact (show Tryz.prog.wantsStandIn 5 = false by kernel_rfl)
  · exact (show Tryz.prog.wantsStandIn 22 = false by kernel_rfl)
theorem proved : Rows.TopTwoControllersCardSaid :=
  Claim7.holds_tied_plain_at .later [] _ _ _ _ said (fun _ h => by cases h) (by kernel_rfl) (fun _ h => by cases h) topTwoControllers_row_tie rfl ⟨rfl, rfl⟩ (by kernel_rfl) rfl plain (by kernel_rfl)
end Go.Proofs.YtkbbapefgifagaaGreatDoor.topTwoControllersCard
