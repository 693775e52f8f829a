/-
Several texts in one: TreeA, TreeB, TreeC, TreeD.
-/
import Derived.Test.YtoekpdnpncgeeaaGreatGLSiteR
import Derived.Test.YtoekpdnpncgeeaaGreatGLSM
import Derived.Test.YtoekpdnpncgeeaaGreatGBase
import Derived.RangeFuncNested
import Derived.RangeFuncBound
import Derived.RangeFuncCalls
import Derived.RangeFuncLeaves
import Derived.Shelf.Abstract
import Derived.Shelf.RegionOpen
import Derived.OwnWalkIn
import Derived.TacticsInMore
import Derived.LoopNIn
import Derived.LoopIn
import Derived.BigRegionIn
import Derived.Deep.DeepCutAuto
import Derived.Deep.RegionLaw
import Derived.Deep.RegionHeld3
import Derived.OwnWalk
import Derived.Deep.QuietTactic
import Derived.BigQuiet
import Derived.Test.YtoekpdnpncgeeaaGreatGLApp
import Derived.Test.YtoekpdnpncgeeaaGreatGLSiteV
import Derived.StillTailTactics
/-
The iterator over the conductors from one to the feeder.
-/
namespace Go.Proofs.YtoekpdnpncgeeaaGreat
open Go.RowKit Go.Shelf
set_option linter.unusedVariables false
set_option linter.unusedSimpArgs false
/-- What a round over a way may not change. -/
structure KpW (B bs : Nat) (W W' : World) : Prop where
  bel : Below B W W'
  s1 : W'.heap[bs]? = W.heap[bs]?
abbrev WayAt (cs : List GCon) (c : Nat) : Type := { k : Nat // k ∈ pth cs (c : Int) }
theorem Rd.belowB {α : Type} {sz : Nat} {enc : α → List Value} {w w' : World} {A : Option Addr} {xs : List α} (h : Rd sz enc w A xs) {B : Nat} (hb : Below B w w') (hB : ∀ a, A = some a → a.block < B) : Rd sz enc w' A xs :=
  h.mod (Mod.of_below hb) (fun a ha _ hle => by have := hB a ha; omega)
theorem pth_one {cs : List GCon} {c : Int} (hu : OkUps cs) {k : Nat} (hk : k < cs.length) {g : GCon} (hg : cs[k]? = some g) : pth cs (k : Int) = k :: pth cs g.up := by
  rw [pth_cons hu hk]
  unfold upAt
  rw [hg]
  rfl
theorem cell_nc1 {B : Nat} {W W' : World} {p : Addr} {v : Value} (h : W.cell? p = some v) (hn : Nc B W W') : W'.cell? p = some v := by
  obtain ⟨row, hg, hr⟩ := hn
  have hl := World.block_lt_of_cell? W _ h
  rw [← h]
  refine World.cell?_of_block (hg.block p.block hl (fun e => ?_))
  obtain ⟨_, o, ho, hc⟩ := hr p.block e.symm
  unfold World.cell? at h
  rw [ho] at h
  cases o <;> first | (simp [Obj.isCells] at hc; done) | (simp at h; done)
end Go.Proofs.YtoekpdnpncgeeaaGreat
/-
tree.collect and tree.has, over a way.
-/
namespace Go.Proofs.YtoekpdnpncgeeaaGreat
open Go.RowKit Go.Shelf
attribute [local go_sem] Oper.semAt_some
set_option linter.unusedVariables false
set_option linter.unusedSimpArgs false
/-- The way as numbers. -/
def pthI (cs : List GCon) (c : Nat) : List Int := (pth cs (c : Int)).map (fun (k : Nat) => (k : Int))
def wayI {cs : List GCon} {c : Nat} (ys : List (WayAt cs c)) : List Int := ys.map (fun y => ((y.1 : Nat) : Int))
theorem wayI_all {cs : List GCon} {c : Nat} {ys : List (WayAt cs c)} (h : ys.map (·.1) = pth cs (c : Int)) : wayI ys = pthI cs c := by
  have e := congrArg (List.map (fun (k : Nat) => (k : Int))) h
  rw [List.map_map] at e
  exact e
theorem Own.one (w : World) (t : TypeId) (v : Value) : Own (w.alloc (.cells #[v] t)) w.heap.size t 1 (fun _ => v) :=
  Own.newAt w t #[v] _ rfl rfl (fun i hi => by
    have h : i = 0 := by simp at hi; omega
    subst h
    rfl)
theorem OwnL.cells {w : World} {base : Nat} {v : Value} {xs : List Int} (h : OwnL w base v xs) {k : Nat} (hk : v.ownBlock = some k) : ∃ o : Obj, w.heap[k]? = some o ∧ o.isCells = true := by
  rcases h.2 with ⟨rfl, _⟩ | ⟨g, cap, cur, rfl, hb, hgg, _⟩
  · cases hk
  · cases hk
    exact ⟨_, hgg, rfl⟩
theorem wayI_snoc {cs : List GCon} {c : Nat} (ys : List (WayAt cs c)) (y : WayAt cs c) : wayI (ys ++ [y]) = wayI ys ++ [((y.1 : Nat) : Int)] := by unfold wayI; rw [List.map_append]; rfl
theorem OwnL.nc {W W' : World} {base B : Nat} {v : Value} {xs : List Int} (h : OwnL W base v xs) (hn : Nc B W W') : OwnL W' base v xs := ownsRow_nc h hn
theorem taken_below1 {B B' : Nat} {W W' : World} (hT : Taken B W W') (hB : B' ≤ B) : Below B' W W' :=
  ⟨hT.1, hT.2.1, hT.2.2.1, Nat.le_of_eq hT.2.2.2.1.symm, fun k hk => hT.2.2.2.2.1 k (by omega)⟩
theorem OwnL.taken {B : Nat} {W W' : World} {base : Nat} {v : Value} {xs : List Int} (h : OwnL W base v xs) (hT : Taken B W W') : OwnL W' base v xs := by
  refine ⟨h.1, ?_⟩
  rcases h.2 with x | ⟨g, cap, cur, rfl, hb, hgg, rest⟩
  · exact .inl x
  · exact .inr ⟨g, cap, cur, rfl, hb, hT.2.2.2.2.2 g _ hgg rfl, rest⟩
theorem append_opIn {F : Fence} {n : Nat} {P : Program} {w : World} {t ty : TypeId} {s x : Operand} {d : Option Tmp} {pos : String} {after : Array Go.Edge} {guard : Option (Nat × Bool)} {a : Act} {K : Act → World → Prop} {Q : Exit → Act → World → Prop}
    (h : Appends P w t ty (a.eval s) (a.eval x)) : Oper.wpIn F n P ⟨d, .call { callee := .builtin .append, args := #[s, x], argTypes := #[t, t] }, ty, pos, after, guard⟩ a w K Q = K (a.put d (appV P w t ty (a.eval s) (a.eval x))) (appW P w t ty (a.eval s) (a.eval x)) := by
  unfold Oper.wpIn
  rw [Oper.semAt_eq _ _ _ (fun c e => by cases e)]
  unfold execOp
  simp only [Oper.about, resolve, invoke, builtin, Sem.run_bind, Sem.run_pure, Result.andThen_ok, List.map_toArray, List.map_cons, List.map_nil, append_pre h, Target.leads]
  exact propext ⟨fun h => h.2, fun h => ⟨fun _ e => (by cases e), h⟩⟩
attribute [go_sem ↓] append_opIn
/-- What a round of collect leaves. -/
def CoI (w : World) (xs : List Int) (W : World) : Prop := ∃ v, Own W w.heap.size 26 1 (fun _ => v) ∧ OwnL W (w.heap.size + 1) v xs ∧ Below w.heap.size w W ∧ w.heap.size < W.heap.size
theorem CoI.nc {w W W' : World} {xs : List Int} {B : Nat} (h : CoI w xs W) (hn : Nc B W W') (hB : w.heap.size ≤ B) : CoI w xs W' := by
  obtain ⟨v, a, b, c, d⟩ := h
  exact ⟨v, a.nc hn, b.nc hn, below_nc c (Nat.le_refl _) hn hB, (a.nc hn).lt⟩
def CoA (w : World) (x : Nat) (a' : Act) : Prop := ∃ u0 u1 u2 u5 u6 u7 u8 u9 u10 u11 : Value, a' = ⟨List.toArray (u0 :: u1 :: u2 :: (.pointer (some ⟨w.heap.size, 0, none⟩)) :: (.int .i64 (x : Nat)) :: u5 :: u6 :: u7 :: u8 :: u9 :: u10 :: u11 :: []), []⟩
end Go.Proofs.YtoekpdnpncgeeaaGreat
/-
tree.has, over a way.
-/
namespace Go.Proofs.YtoekpdnpncgeeaaGreat
open Go.RowKit Go.Shelf
attribute [local go_sem] Oper.semAt_some
set_option linter.unusedVariables false
set_option linter.unusedSimpArgs false
theorem results_c1 {P : Program} {fn : Func} {a : Tmp} {ty : TypeId} {tmps : Array Value} {b : Nat} {u : Value} {w : World} (h : fn.results = #[.cell a ty]) (ha : tmps.getD a undef = .pointer (some ⟨b, 0, none⟩)) (hl : (loadVar ty ⟨b, 0, none⟩).run P w = .ok u w) :
    (results fn tmps).run P w = .ok u w := by
  have ha' : tmps[a]?.getD undef = .pointer (some ⟨b, 0, none⟩) := by simpa using ha
  simp [results, h, ha', hl, asAddr]
theorem load_bool {W : World} {b : Nat} {v : Bool} (h : Own W b 4 1 (fun _ => .bool v)) : (loadVar 4 ⟨b, 0, none⟩).run Tryz.prog W = .ok (.bool v) W := by
  have c0 := h.cell (i := 0) (by omega)
  go_simp
theorem Own.set1 {w : World} {g : Nat} {t : TypeId} {v : Value} (h : Own w g t 1 (fun _ => v)) (u : Value) : Own (w.setCell ⟨g, 0, none⟩ u) g t 1 (fun _ => u) :=
  (h.set 0 u).congr (fun i hi => by
    have h0 : i = 0 := by omega
    simp [h0])
/-- What a round of has leaves: the box of the number, the result's cell. -/
structure HaI (w : World) (x : Int) (b : Bool) (W : World) : Prop where
  bx : Own W w.heap.size 3 1 (fun _ => .int .i64 x)
  rs : Own W (w.heap.size + 1) 4 1 (fun _ => .bool b)
  bel : Below w.heap.size w W
theorem HaI.nc {w W W' : World} {x : Int} {b : Bool} {B : Nat} (h : HaI w x b W) (hn : Nc B W W') (hB : w.heap.size ≤ B) : HaI w x b W' :=
  ⟨h.bx.nc hn, h.rs.nc hn, below_nc h.bel (Nat.le_refl _) hn hB⟩
def HaA (w : World) (x : Nat) (a' : Act) : Prop := ∃ u0 u1 u2 u6 u7 u8 u9 u10 : Value, a' = ⟨List.toArray (u0 :: u1 :: u2 :: (.pointer (some ⟨w.heap.size, 0, none⟩)) :: (.pointer (some ⟨w.heap.size + 1, 0, none⟩)) :: (.int .i64 (x : Nat)) :: u6 :: u7 :: u8 :: u9 :: u10 :: []), []⟩
end Go.Proofs.YtoekpdnpncgeeaaGreat
/-
tree.Path.
-/
namespace Go.Proofs.YtoekpdnpncgeeaaGreat
open Go.RowKit
set_option linter.unusedVariables false
set_option linter.unusedSimpArgs false
def placeOf (s : GSite) (i : Nat) : Nat := ((s.chgs[i]?.map GChg.place).getD 0).toNat
noncomputable def okCh (s : GSite) (ch : Int) : Bool := okSB keyL s && decide (0 ≤ ch ∧ ch < s.chgs.length)
noncomputable def pathO (s : GSite) (ch : Int) : List Int := if okCh s ch = true then pthI s.cons (placeOf s ch.toNat) else []
def errO (b : Bool) : Int := if b then 0 else 1
theorem okCh_no1 {s : GSite} {ch : Int} (h : okSB keyL s = false) : okCh s ch = false := by unfold okCh; rw [h]; rfl
theorem okCh_no2 {s : GSite} {ch : Int} (h : ¬ (0 ≤ ch ∧ ch < s.chgs.length)) : okCh s ch = false := by unfold okCh; rw [decide_eq_false h, Bool.and_false]
theorem okCh_yes {s : GSite} {ch : Int} (h : okSB keyL s = true) (h2 : 0 ≤ ch ∧ ch < s.chgs.length) : okCh s ch = true := by unfold okCh; rw [h, decide_eq_true h2]; rfl
theorem pathO_no {s : GSite} {ch : Int} (h : okCh s ch = false) : pathO s ch = [] := by unfold pathO; rw [h]; rfl
theorem pathO_yes {s : GSite} {ch : Int} (h : okCh s ch = true) : pathO s ch = pthI s.cons (placeOf s ch.toNat) := by unfold pathO; rw [if_pos h]
theorem OkSite.place {s : GSite} (h : OkSite keyL s) {i : Nat} {c : GChg} (hc : s.chgs[i]? = some c) : 0 ≤ c.place ∧ c.place < s.cons.length ∧ ((placeOf s i : Nat) : Int) = c.place := by
  have h1 := h.chg c (List.mem_of_getElem? hc)
  unfold okChg at h1
  simp only [decide_eq_true_eq] at h1
  refine ⟨h1.1.1, h1.1.2, ?_⟩
  unfold placeOf
  rw [hc]
  show ((c.place.toNat : Nat) : Int) = c.place
  omega
/-- What Path does. -/
def PaPost (w : World) (s : GSite) (ch : Int) (e : Ending) (w' : World) : Prop := ∃ a c, e = .returned (.tuple #[.slice a (pathO s ch).length c, .int .i64 (errO (okCh s ch))]) ∧ Rd 1 encI w' a (pathO s ch) ∧ Below w.heap.size w w'
end Go.Proofs.YtoekpdnpncgeeaaGreat
