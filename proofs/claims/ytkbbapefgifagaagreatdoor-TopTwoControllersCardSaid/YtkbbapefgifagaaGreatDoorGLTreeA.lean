/-
Several texts in one: TreeA, TreeB, TreeC, TreeD.
-/
import Derived.Test.YtkbbapefgifagaaGreatDoorGLSiteR
import Derived.Test.YtkbbapefgifagaaGreatDoorGLSM
import Derived.Test.YtkbbapefgifagaaGreatDoorGBase
import Derived.RangeFuncNested
import Derived.RangeFuncBound
import Derived.RangeFuncCalls
import Derived.RangeFuncLeaves
import Derived.Shelf.Abstract
import Derived.Shelf.RegionOpen
import Derived.OwnWalkIn
import Derived.TacticsInMore
import Derived.LoopNIn
import Derived.LoopIn
import Derived.BigRegionIn
import Derived.Deep.DeepCutAuto
import Derived.Deep.RegionLaw
import Derived.Deep.RegionHeld3
import Derived.OwnWalk
import Derived.Deep.QuietTactic
import Derived.BigQuiet
import Derived.Test.YtkbbapefgifagaaGreatDoorGLApp
import Derived.Test.YtkbbapefgifagaaGreatDoorGLSiteV
import Derived.StillTailTactics
/-
The iterator over the conductors from one to the feeder.
-/
namespace Go.Proofs.YtkbbapefgifagaaGreatDoor
open Go.RowKit Go.Shelf
set_option linter.unusedVariables false
set_option linter.unusedSimpArgs false
set_option maxRecDepth 100000 in
theorem trWay_any (a1 a2 a3 a4 a5 : Option Addr) (n1 c1 n2 c2 n3 c3 n4 c4 n5 c5 : Nat) (x : Int) (w : World) : Calls Tryz.prog 104 #[.agg #[.slice a1 n1 c1, .slice a2 n2 c2, .slice a3 n3 c3, .slice a4 n4 c4, .slice a5 n5 c5], .int .i64 x] w fun e w' =>
    e = .returned (.func (.func 114) #[] #[.pointer (some ⟨w.heap.size + 1, 0, none⟩), .pointer (some ⟨w.heap.size, 0, none⟩)]) ∧ w' = (w.alloc (.cells #[.slice a1 n1 c1, .slice a2 n2 c2, .slice a3 n3 c3, .slice a4 n4 c4, .slice a5 n5 c5] 39)).alloc (.cells #[.int .i64 x] 3) := by
  go_enter Tryz.func104, Tryz.ntmps104
  go_wp2
  go_ret
  refine ⟨?_, rfl⟩
  simp
/-- What a round over a way may not change. -/
structure KpW (B bs : Nat) (W W' : World) : Prop where
  bel : Below B W W'
  s1 : W'.heap[bs]? = W.heap[bs]?
abbrev WayAt (cs : List GCon) (c : Nat) : Type := { k : Nat // k ∈ pth cs (c : Int) }
theorem Rd.belowB {α : Type} {sz : Nat} {enc : α → List Value} {w w' : World} {A : Option Addr} {xs : List α} (h : Rd sz enc w A xs) {B : Nat} (hb : Below B w w') (hB : ∀ a, A = some a → a.block < B) : Rd sz enc w' A xs :=
  h.mod (Mod.of_below hb) (fun a ha _ hle => by have := hB a ha; omega)
theorem pth_one {cs : List GCon} {c : Int} (hu : OkUps cs) {k : Nat} (hk : k < cs.length) {g : GCon} (hg : cs[k]? = some g) : pth cs (k : Int) = k :: pth cs g.up := by
  rw [pth_cons hu hk]
  unfold upAt
  rw [hg]
  rfl
set_option maxRecDepth 100000 in
set_option maxHeartbeats 2000000 in
theorem trWay1_in (n : Nat) (hn : 1 ≤ n) (l bc bs B : Nat) (cs : List GCon) (hu : OkUps cs) (c0 : Nat) (hc : c0 < cs.length) (a1 : Option Addr) (n1 c1 : Nat) (hn1 : cs.length = n1) (hm1 : n1 ≤ 9223372036854775807) (hA : ∀ a, a1 = some a → a.block < B) (J Jx : List (WayAt cs c0) → World → Prop) (W : World)
    (hJ : AbidesFrom W.heap.size J)
    (hY : ∀ (pre : List (WayAt cs c0)) (x : WayAt cs c0) W1, J pre W1 → pre.length < (pth cs (c0 : Int)).length → YieldAt Fence.wide (n - 1) Tryz.prog l #[.int .i64 (x.1 : Nat)] W1 fun e W' =>
      (e = .returned (.bool true) ∧ J (pre ++ [x]) W' ∧ KpW B bs W1 W') ∨ (e = .returned (.bool false) ∧ Jx (pre ++ [x]) W'))
    (hbc : W.cell? ⟨bc, 0, none⟩ = some (.int .i64 (c0 : Nat))) (hbs : W.cell? ⟨bs, 0, none⟩ = some (.slice a1 n1 c1)) (hR : Rd 11 encCon W a1 cs) (h0 : J [] W) :
    CallsIn Fence.wide n Tryz.prog 114 #[.func (.yield l) #[] #[], .pointer (some ⟨bc, 0, none⟩), .pointer (some ⟨bs, 0, none⟩)] W fun e W' => (∃ v, e = .returned v) ∧
      ((∃ ys : List (WayAt cs c0), ys.map (·.1) = pth cs (c0 : Int) ∧ J ys W') ∨ (∃ pre : List (WayAt cs c0), pre.map (·.1) <+: pth cs (c0 : Int) ∧ Jx pre W')) := by
  have HY := Lib.hid hY
  have HJ := Lib.hid hJ
  have HU := Lib.hid hu
  have HR := Lib.hid hR
  have HA := Lib.hid hA
  have HN := Lib.hid hn1
  have hc1 : (c0 : Int) < (n1 : Int) := by omega
  clear hY hJ hu hR hA hn1
  refine callsIn_of_wp Tryz.func114 rfl trivial ?_ rfl
  simp only [Tryz.ntmps114, List.size_toArray, List.length_cons, List.length_nil, Nat.reduceAdd, Nat.reduceSub, Array.replicate_succ, Array.replicate_zero, List.push_toArray, List.append_toArray, List.nil_append, List.cons_append]
  gi_wp2
  gi_loopw [4] (fun i wr => ∃ (c : Int) (pre : List (WayAt cs c0)), i = .int .i64 c ∧ -1 ≤ c ∧ c < (n1 : Int) ∧ Hid (pre.map (·.1) ++ pth cs c = pth cs (c0 : Int)) ∧ J pre wr ∧ wr.cell? ⟨bs, 0, none⟩ = some (.slice a1 n1 c1) ∧ Hid (Rd 11 encCon wr a1 cs)) (fun i _ => (intOf i + 1).toNat)
  case atStart => exact ⟨(c0 : Int), [], rfl, by omega, hc1, Lib.hid (by simp), h0, hbs, HR⟩
  case round =>
    clear hbs hbc h0 HR
    obtain ⟨c, pre, rfl, hlo, hhi, Hpre, hJp, q0, HR⟩ := hrel
    by_cases hlt : 0 ≤ c
    · obtain ⟨k, rfl⟩ := Int.eq_ofNat_of_zero_le hlt
      have hk : k < cs.length := by rw [HN.out]; omega
      obtain ⟨b, off, g, hA1, hbl, hgx, -, hup, -⟩ := rdCon_at HR.out hk
      have HG : Hid (pth cs (k : Int) = k :: pth cs g.up) := Lib.hid (pth_one (c := 0) HU.out hk hgx)
      have hin : k ∈ pth cs (c0 : Int) := by rw [← Hpre.out, HG.out]; simp
      have hpl : pre.length < (pth cs (c0 : Int)).length := by rw [← Hpre.out, HG.out]; simp
      have hub : g.up < k ∧ -1 ≤ g.up := by
        have h := HU.out k hk
        have e : upAt cs k = g.up := by unfold upAt; rw [hgx]; rfl
        rw [e] at h
        omega
      obtain ⟨hub1, hub2⟩ := hub
      obtain ⟨fn, tmps, assign, body, hy, hRd⟩ := HY.out pre ⟨k, hin⟩ wr hJp hpl
      dsimp only at hy
      have HNX : Hid (((pre ++ [(⟨k, hin⟩ : WayAt cs c0)]).map (·.1)) ++ pth cs g.up = pth cs (c0 : Int)) := Lib.hid (by
        simp only [List.map_append, List.map_cons, List.map_nil, List.append_assoc, List.cons_append, List.nil_append]
        rw [← HG.out]
        exact Hpre.out)
      have HPF : Hid ((pre ++ [(⟨k, hin⟩ : WayAt cs c0)]).map (·.1) <+: pth cs (c0 : Int)) := Lib.hid ⟨_, HNX.out⟩
      clear hgx
      subst hA1
      generalize hgu : g.up = gu at *
      clear hgu
      gi_wp2
      refine hRd.mono ?_
      rintro e' W3 (⟨rfl, hJ3, hk3⟩ | ⟨rfl, hJx3⟩)
      · have d0 := (World.cell?_of_block (a := ⟨bs, 0, none⟩) hk3.s1).trans q0
        have HR3 : Hid (Rd 11 encCon W3 (some ⟨b, off, none⟩) cs) := Lib.hid (HR.out.belowB hk3.bel HA.out)
        have hup3 := (hk3.bel.cell (p := ⟨b, off + k * 11 + 1, none⟩) (HA.out ⟨b, off, none⟩ rfl)).trans hup
        gi_wp2
        go_roundw
        case rel => exact ⟨gu, _, rfl, hub2, by omega, HNX, hJ3, d0, HR3⟩
        case measure => simp [intOf]; omega
      · gi_wp2
        refine bodyPost_ret (results_none rfl _ _ _) rfl ?_
        exact ⟨⟨_, rfl⟩, .inr ⟨_, HPF.out, hJx3⟩⟩
    · have hltz : ¬ 0 ≤ c := hlt
      have hcn : c < 0 := by omega
      have HE : Hid (pre.map (·.1) = pth cs (c0 : Int)) := Lib.hid (by
        have := Hpre.out
        rw [pth_neg cs hcn, List.append_nil] at this
        exact this)
      gi_wp2
      go_end0
      exact ⟨⟨_, rfl⟩, .inl ⟨pre, HE.out, hJp⟩⟩
theorem cell_nc1 {B : Nat} {W W' : World} {p : Addr} {v : Value} (h : W.cell? p = some v) (hn : Nc B W W') : W'.cell? p = some v := by
  obtain ⟨row, hg, hr⟩ := hn
  have hl := World.block_lt_of_cell? W _ h
  rw [← h]
  refine World.cell?_of_block (hg.block p.block hl (fun e => ?_))
  obtain ⟨_, o, ho, hc⟩ := hr p.block e.symm
  unfold World.cell? at h
  rw [ho] at h
  cases o <;> first | (simp [Obj.isCells] at hc; done) | (simp at h; done)
/-- ONE RULE for every loop over a way; Ix tells what holds where its body leaves it. -/
theorem range_way {cs : List GCon} (hu : OkUps cs) {c0 : Nat} (hc : c0 < cs.length) {a1 : Option Addr} {n1 c1 : Nat} (hn1 : cs.length = n1) (hm1 : n1 ≤ 9223372036854775807) {g : Operand} {p : Tmp} {assign body : Code} {Q : Exit → Act → World → Prop} {a : Act} {w : World} (bc bs B : Nat)
    (hg : a.eval g = .func (.func 114) #[] #[.pointer (some ⟨bc, 0, none⟩), .pointer (some ⟨bs, 0, none⟩)]) (hbc : w.cell? ⟨bc, 0, none⟩ = some (.int .i64 (c0 : Nat))) (hbs : w.cell? ⟨bs, 0, none⟩ = some (.slice a1 n1 c1)) (hR : Rd 11 encCon w a1 cs) (hA : ∀ a, a1 = some a → a.block < B) (hB : B ≤ w.heap.size)
    (I : List (WayAt cs c0) → World → Prop) (Ix : Code → List (WayAt cs c0) → World → Prop) (hI : ∀ pre W W', I pre W → Nc w.heap.size W W' → I pre W') (hIx : ∀ c pre W W', Ix c pre W → Nc w.heap.size W W' → Ix c pre W') (h0 : I [] w) (Ax : WayAt cs c0 → Act → Prop)
    (hassign : ∀ (l : Nat) (x : WayAt cs c0) (W : World) (K : Act → World → Prop), (∀ a', Ax x a' → K a' W) → assign.wpIn (Fence.wide.inRound l) 3 Tryz.prog (Exit.then K (fun _ _ _ => False)) { tmps := a.tmps.setIfInBounds p (.int .i64 (x.1 : Nat)), defers := [] } W)
    (hbody : ∀ (l : Nat) (pre : List (WayAt cs c0)) (x : WayAt cs c0) (a' : Act) (W : World), I pre W → Ax x a' → pre.length < (pth cs (c0 : Int)).length → body.wpIn (Fence.wide.inRound l) 3 Tryz.prog (ownPostG w.heap.size (KpW B bs) I Ix (pre ++ [x]) W) a' W)
    (hdone : ∀ (D : Nat) (ys : List (WayAt cs c0)) (W : World), w.heap.size ≤ D → ys.map (·.1) = pth cs (c0 : Int) → I ys W → W.heap[D]? = some (.deferred (some [])) → Q .normal { a with defers := { target := .collected D, args := #[] } :: a.defers } W)
    (hstop : ∀ (D : Nat) (c : Code) (pre : List (WayAt cs c0)) (W : World), w.heap.size ≤ D → pre.map (·.1) <+: pth cs (c0 : Int) → Ix c pre W → W.heap[D]? = some (.deferred (some [])) → c.wpIn Fence.wide 5 Tryz.prog Q { a with defers := { target := .collected D, args := #[] } :: a.defers } W) :
    (Code.rangeFunc g #[p] assign body).wp Tryz.prog Q a w := by
  have lc := World.block_lt_of_cell? w _ hbc
  have ls := World.block_lt_of_cell? w _ hbs
  dsimp only at lc ls
  refine (wpIn_wide (n := 5)).1 ?_
  refine wpIn_rangeFunc_ownH (F := Fence.wide) (α := WayAt cs c0) rfl (by omega) (gf := 114) (lb := #[.pointer (some ⟨bc, 0, none⟩), .pointer (some ⟨bs, 0, none⟩)]) hg trivial (enters_of Tryz.func114 (by kernel_rfl) rfl)
    (encs := fun x => #[.int .i64 (x.1 : Nat)]) (Kp := KpW B bs) (S := fun (ys : List (WayAt cs c0)) => ys.map (·.1) = pth cs (c0 : Int)) (Sp := fun (ys : List (WayAt cs c0)) => List.IsPrefix (ys.map (fun (x : WayAt cs c0) => x.1)) (pth cs (c0 : Int))) (N := (pth cs (c0 : Int)).length) (w0 := w)
    (fun l J Jx W' hW' hJ _ hY h0 => trWay1_in 4 (by omega) l bc bs B cs hu c0 hc a1 n1 c1 hn1 hm1 hA J Jx W' hJ hY ((hW'.cell (p := ⟨bc, 0, none⟩) lc).trans hbc) ((hW'.cell (p := ⟨bs, 0, none⟩) ls).trans hbs) (hR.keep hW') h0)
    ?hKt ?hKb (Below.refl _ _) (fun _ => rfl) I Ix ?hI ?hIx h0 (fun x a' _ => Ax x a') (fun _ _ _ _ _ _ h _ _ => h) ?assign ?body ?done hstop
  case hKt => exact fun h1 h2 => ⟨h1.bel.trans h2.bel, h2.s1.trans h1.s1⟩
  case hKb =>
    intro W' l o o' hl ho _ _
    exact ⟨⟨rfl, rfl, rfl, by simp, fun k hk => World.putObj_heap_other (by omega)⟩, World.putObj_heap_other (by omega)⟩
  case hI => exact fun pre W1 W2 row h hg hr => hI pre W1 W2 h ⟨row, hg, hr⟩
  case hIx => exact fun c pre W1 W2 row h hg hr => hIx c pre W1 W2 h ⟨row, hg, hr⟩
  case assign =>
    intro l pre x W1 K hi hK
    have ht : (#[p].zip #[Value.int .i64 (x.1 : Nat)]).foldl (fun t (p, v) => t.setIfInBounds p v) a.tmps = a.tmps.setIfInBounds p (.int .i64 (x.1 : Nat)) := by simp
    rw [ht]
    exact hassign l x W1 K (fun a' hx => hK a' W1 (KeepsFrom.refl _ _) ⟨Below.refl _ _, rfl⟩ hi hx)
  case body =>
    intro l pre x a' W1 hl hlr hi hx hlen
    exact hbody l pre x a' W1 hi hx hlen
  case done => exact fun D ys W1 hD hS hi hdf => hdone D ys W1 hD hS hi hdf
end Go.Proofs.YtkbbapefgifagaaGreatDoor
/-
tree.collect and tree.has, over a way.
-/
namespace Go.Proofs.YtkbbapefgifagaaGreatDoor
open Go.RowKit Go.Shelf
attribute [local go_sem] Oper.semAt_some
set_option linter.unusedVariables false
set_option linter.unusedSimpArgs false
/-- The way as numbers. -/
def pthI (cs : List GCon) (c : Nat) : List Int := (pth cs (c : Int)).map (fun (k : Nat) => (k : Int))
def wayI {cs : List GCon} {c : Nat} (ys : List (WayAt cs c)) : List Int := ys.map (fun y => ((y.1 : Nat) : Int))
theorem wayI_all {cs : List GCon} {c : Nat} {ys : List (WayAt cs c)} (h : ys.map (·.1) = pth cs (c : Int)) : wayI ys = pthI cs c := by
  have e := congrArg (List.map (fun (k : Nat) => (k : Int))) h
  rw [List.map_map] at e
  exact e
theorem Own.one (w : World) (t : TypeId) (v : Value) : Own (w.alloc (.cells #[v] t)) w.heap.size t 1 (fun _ => v) :=
  Own.newAt w t #[v] _ rfl rfl (fun i hi => by
    have h : i = 0 := by simp at hi; omega
    subst h
    rfl)
theorem OwnL.cells {w : World} {base : Nat} {v : Value} {xs : List Int} (h : OwnL w base v xs) {k : Nat} (hk : v.ownBlock = some k) : ∃ o : Obj, w.heap[k]? = some o ∧ o.isCells = true := by
  rcases h.2 with ⟨rfl, _⟩ | ⟨g, cap, cur, rfl, hb, hgg, _⟩
  · cases hk
  · cases hk
    exact ⟨_, hgg, rfl⟩
theorem wayI_snoc {cs : List GCon} {c : Nat} (ys : List (WayAt cs c)) (y : WayAt cs c) : wayI (ys ++ [y]) = wayI ys ++ [((y.1 : Nat) : Int)] := by unfold wayI; rw [List.map_append]; rfl
theorem OwnL.nc {W W' : World} {base B : Nat} {v : Value} {xs : List Int} (h : OwnL W base v xs) (hn : Nc B W W') : OwnL W' base v xs := ownsRow_nc h hn
theorem taken_below1 {B B' : Nat} {W W' : World} (hT : Taken B W W') (hB : B' ≤ B) : Below B' W W' :=
  ⟨hT.1, hT.2.1, hT.2.2.1, Nat.le_of_eq hT.2.2.2.1.symm, fun k hk => hT.2.2.2.2.1 k (by omega)⟩
theorem OwnL.taken {B : Nat} {W W' : World} {base : Nat} {v : Value} {xs : List Int} (h : OwnL W base v xs) (hT : Taken B W W') : OwnL W' base v xs := by
  refine ⟨h.1, ?_⟩
  rcases h.2 with x | ⟨g, cap, cur, rfl, hb, hgg, rest⟩
  · exact .inl x
  · exact .inr ⟨g, cap, cur, rfl, hb, hT.2.2.2.2.2 g _ hgg rfl, rest⟩
theorem append_opIn {F : Fence} {n : Nat} {P : Program} {w : World} {t ty : TypeId} {s x : Operand} {d : Option Tmp} {pos : String} {after : Array Go.Edge} {guard : Option (Nat × Bool)} {a : Act} {K : Act → World → Prop} {Q : Exit → Act → World → Prop}
    (h : Appends P w t ty (a.eval s) (a.eval x)) : Oper.wpIn F n P ⟨d, .call { callee := .builtin .append, args := #[s, x], argTypes := #[t, t] }, ty, pos, after, guard⟩ a w K Q = K (a.put d (appV P w t ty (a.eval s) (a.eval x))) (appW P w t ty (a.eval s) (a.eval x)) := by
  unfold Oper.wpIn
  rw [Oper.semAt_eq _ _ _ (fun c e => by cases e)]
  unfold execOp
  simp only [Oper.about, resolve, invoke, builtin, Sem.run_bind, Sem.run_pure, Result.andThen_ok, List.map_toArray, List.map_cons, List.map_nil, append_pre h, Target.leads]
  exact propext ⟨fun h => h.2, fun h => ⟨fun _ e => (by cases e), h⟩⟩
attribute [go_sem ↓] append_opIn
/-- What a round of collect leaves. -/
def CoI (w : World) (xs : List Int) (W : World) : Prop := ∃ v, Own W w.heap.size 30 1 (fun _ => v) ∧ OwnL W (w.heap.size + 1) v xs ∧ Below w.heap.size w W ∧ w.heap.size < W.heap.size
theorem CoI.nc {w W W' : World} {xs : List Int} {B : Nat} (h : CoI w xs W) (hn : Nc B W W') (hB : w.heap.size ≤ B) : CoI w xs W' := by
  obtain ⟨v, a, b, c, d⟩ := h
  exact ⟨v, a.nc hn, b.nc hn, below_nc c (Nat.le_refl _) hn hB, (a.nc hn).lt⟩
end Go.Proofs.YtkbbapefgifagaaGreatDoor
/-
tree.has, over a way.
-/
namespace Go.Proofs.YtkbbapefgifagaaGreatDoor
open Go.RowKit Go.Shelf
attribute [local go_sem] Oper.semAt_some
set_option linter.unusedVariables false
set_option linter.unusedSimpArgs false
theorem results_c1 {P : Program} {fn : Func} {a : Tmp} {ty : TypeId} {tmps : Array Value} {b : Nat} {u : Value} {w : World} (h : fn.results = #[.cell a ty]) (ha : tmps.getD a undef = .pointer (some ⟨b, 0, none⟩)) (hl : (loadVar ty ⟨b, 0, none⟩).run P w = .ok u w) :
    (results fn tmps).run P w = .ok u w := by
  have ha' : tmps[a]?.getD undef = .pointer (some ⟨b, 0, none⟩) := by simpa using ha
  simp [results, h, ha', hl, asAddr]
theorem load_bool {W : World} {b : Nat} {v : Bool} (h : Own W b 4 1 (fun _ => .bool v)) : (loadVar 4 ⟨b, 0, none⟩).run Tryz.prog W = .ok (.bool v) W := by
  have c0 := h.cell (i := 0) (by omega)
  go_simp
theorem Own.set1 {w : World} {g : Nat} {t : TypeId} {v : Value} (h : Own w g t 1 (fun _ => v)) (u : Value) : Own (w.setCell ⟨g, 0, none⟩ u) g t 1 (fun _ => u) :=
  (h.set 0 u).congr (fun i hi => by
    have h0 : i = 0 := by omega
    simp [h0])
/-- What a round of has leaves: the box of the number, the result's cell. -/
structure HaI (w : World) (x : Int) (b : Bool) (W : World) : Prop where
  bx : Own W w.heap.size 3 1 (fun _ => .int .i64 x)
  rs : Own W (w.heap.size + 1) 4 1 (fun _ => .bool b)
  bel : Below w.heap.size w W
theorem HaI.nc {w W W' : World} {x : Int} {b : Bool} {B : Nat} (h : HaI w x b W) (hn : Nc B W W') (hB : w.heap.size ≤ B) : HaI w x b W' :=
  ⟨h.bx.nc hn, h.rs.nc hn, below_nc h.bel (Nat.le_refl _) hn hB⟩
def HaA (w : World) (x : Nat) (a' : Act) : Prop := ∃ u0 u1 u2 u6 u7 u8 u9 u10 : Value, a' = ⟨List.toArray (u0 :: u1 :: u2 :: (.pointer (some ⟨w.heap.size, 0, none⟩)) :: (.pointer (some ⟨w.heap.size + 1, 0, none⟩)) :: (.int .i64 (x : Nat)) :: u6 :: u7 :: u8 :: u9 :: u10 :: []), []⟩
set_option maxRecDepth 100000 in
set_option maxHeartbeats 4000000 in
theorem trHas_any (bc bs : Nat) (cs : List GCon) (hu : OkUps cs) (c0 : Nat) (hc : c0 < cs.length) (a1 : Option Addr) (n1 c1 : Nat) (hn1 : cs.length = n1) (hm1 : n1 ≤ 16) (one : Int) (w : World)
    (hbc : w.cell? ⟨bc, 0, none⟩ = some (.int .i64 (c0 : Nat))) (hbs : w.cell? ⟨bs, 0, none⟩ = some (.slice a1 n1 c1)) (hR : Rd 11 encCon w a1 cs) (hA : ∀ a, a1 = some a → a.block < w.heap.size) :
    Calls Tryz.prog 103 #[.func (.func 114) #[] #[.pointer (some ⟨bc, 0, none⟩), .pointer (some ⟨bs, 0, none⟩)], .int .i64 one] w fun e w' => e = .returned (.bool (decide (one ∈ pthI cs c0))) ∧ Below w.heap.size w w' := by
  have lc := World.block_lt_of_cell? w _ hbc
  have ls := World.block_lt_of_cell? w _ hbs
  dsimp only at lc ls
  refine (callsIn_wide (n := 5)).1 ?_
  refine callsIn_of_wp_marks Tryz.func103 rfl trivial ?_ rfl
  refine wpIn_wide.2 ?_
  simp only [Tryz.ntmps103, List.size_toArray, List.length_cons, List.length_nil, Nat.reduceAdd, Nat.reduceSub, Array.replicate_succ, Array.replicate_zero, List.push_toArray, List.append_toArray, List.nil_append, List.cons_append]
  go_wp2_with fail
  obtain ⟨W0, hW0⟩ : ∃ W0, W0 = (w.alloc (.cells #[.int .i64 one] 3)).alloc (.cells #[.bool false] 4) := ⟨_, rfl⟩
  have b0 : Below w.heap.size w W0 := by rw [hW0]; exact ((Below.refl _ w).alloc (Nat.le_refl _) _).alloc (by simp) _
  have hO1 : Own W0 w.heap.size 3 1 (fun _ => .int .i64 one) := by rw [hW0]; exact (Own.one _ _ _).alloc _
  have hO2 : Own W0 (w.heap.size + 1) 4 1 (fun _ => .bool false) := by
    have h := Own.one (w.alloc (.cells #[.int .i64 one] 3)) 4 (.bool false)
    rw [World.size_alloc] at h
    rw [hW0]; exact h
  have hs0 : w.heap.size + 1 < W0.heap.size := hO2.lt
  rw [← hW0]
  clear hW0
  have z0 := (b0.cell (p := ⟨bc, 0, none⟩) lc).trans hbc
  have z1 := (b0.cell (p := ⟨bs, 0, none⟩) ls).trans hbs
  refine range_way hu hc hn1 (by omega) (g := .tmp 6) (p := 7) bc bs w.heap.size rfl z0 z1 (hR.keep b0) hA b0.size (fun pre W' => Hid (¬ one ∈ wayI pre) ∧ HaI w one false W') (fun c pre W' => c = .ret ∧ Hid (one ∈ wayI pre) ∧ HaI w one true W') ?hI ?hIx ?h0 (fun x a' => HaA w x.1 a') ?assign ?body ?done ?stop
  case hI => exact fun pre W W' h hn => ⟨h.1, h.2.nc hn b0.size⟩
  case hIx => exact fun c pre W W' h hn => ⟨h.1, h.2.1, h.2.2.nc hn b0.size⟩
  case h0 => exact ⟨Lib.hid (by simp [wayI]), hO1, hO2, b0⟩
  case assign =>
    intro l x W1 K hK
    gi_wp2
    exact ⟨_, _, _, _, _, _, _, _, rfl⟩
  case body =>
    rintro l pre ⟨k, hk⟩ a' W1 ⟨hno, o1, o2, o3⟩ ⟨u0, u1, u2, u6, u7, u8, u9, u10, rfl⟩ hlen
    dsimp only at hlen ⊢
    have q0 := o1.cell (i := 0) (by omega)
    have q1 := o2.cell (i := 0) (by omega)
    have qf := o2.frozen 0
    have l2 := o2.lt
    have HW : Hid (wayI (pre ++ [(⟨k, hk⟩ : WayAt cs c0)]) = wayI pre ++ [((k : Nat) : Int)]) := Lib.hid (wayI_snoc _ _)
    by_cases e : ((k : Nat) : Int) = one
    · have hbl : Below w.heap.size W1 (W1.setCell ⟨w.heap.size + 1, 0, none⟩ (.bool true)) := ((Mod.refl (fun j => j = w.heap.size + 1) W1).setCell (p := ⟨w.heap.size + 1, 0, none⟩) (.inl rfl) _).below (by omega) (fun j _ h => by omega)
      have HP : Hid (KeepsFrom W0.heap.size W1 (W1.setCell ⟨w.heap.size + 1, 0, none⟩ (.bool true)) ∧ (Hid (one ∈ wayI (pre ++ [(⟨k, hk⟩ : WayAt cs c0)])) ∧ HaI w one true (W1.setCell ⟨w.heap.size + 1, 0, none⟩ (.bool true)))) := Lib.hid (by
        refine ⟨⟨hbl.size, fun q o hq ho hoc => ?_⟩, Lib.hid ?_, ?_⟩
        · rw [← ho]
          exact ((Mod.refl (fun j => j = w.heap.size + 1) W1).setCell (p := ⟨w.heap.size + 1, 0, none⟩) (.inl rfl) _).block q (Array.getElem?_eq_some_iff.1 ho).1 (by omega)
        · rw [HW.out, ← e]
          simp
        · exact ⟨o1.other (by show w.heap.size ≠ w.heap.size + 1; omega) _, o2.set1 _, o3.trans hbl⟩)
      clear hbl o1 o2
      have he : decide (((k : Nat) : Int) = one) = true := by simpa using e
      gi_wp2
      exact ⟨HP.out.1, rfl, HP.out.2⟩
    · have HP : Hid (KeepsFrom W0.heap.size W1 W1 ∧ KpW w.heap.size bs W1 W1 ∧ (Hid (¬ one ∈ wayI (pre ++ [(⟨k, hk⟩ : WayAt cs c0)])) ∧ HaI w one false W1)) := Lib.hid ⟨KeepsFrom.refl _ _, ⟨Below.refl _ _, rfl⟩, Lib.hid (by
        rw [HW.out]
        intro h
        rcases List.mem_append.1 h with h | h
        · exact hno.out h
        · simp at h; exact e h.symm), ⟨o1, o2, o3⟩⟩
      clear o1 o2
      gi_wp2
      exact HP.out
  case done =>
    intro D ys W1 hD hS hi hdf
    obtain ⟨hno, o1, o2, o3⟩ := hi
    have hno2 := hno.out
    rw [wayI_all hS] at hno2
    have HE : Hid (decide (one ∈ pthI cs c0) = false) := Lib.hid (by simpa using hno2)
    have q1 := o2.cell (i := 0) (by omega)
    have qf := o2.frozen 0
    have hw0 : w.heap.size + 1 < D := by omega
    have hset2 : Own (W1.setCell ⟨w.heap.size + 1, 0, none⟩ (.bool false)) (w.heap.size + 1) 4 1 (fun _ => .bool false) := o2.set1 _
    have HO := Lib.hid hset2
    have hm1 : Mod (fun j => j = w.heap.size + 1) W1 (W1.setCell ⟨w.heap.size + 1, 0, none⟩ (.bool false)) := (Mod.refl (fun j => j = w.heap.size + 1) W1).setCell (p := ⟨w.heap.size + 1, 0, none⟩) (.inl rfl) _
    have HB : Hid (Below w.heap.size w (W1.setCell ⟨w.heap.size + 1, 0, none⟩ (.bool false))) := Lib.hid (o3.trans (hm1.below o3.size (fun j _ h => by omega)))
    have hdl := (Array.getElem?_eq_some_iff.1 hdf).1
    have hmk : Marks (w.heap.size + 2) (W1.setCell ⟨w.heap.size + 1, 0, none⟩ (.bool false)) [{ target := .collected D, args := #[] }] := ⟨[D], rfl, by simp, fun D' hD' => by
      have e : D' = D := by simpa using hD'
      subst e
      exact ⟨by omega, Nat.lt_of_lt_of_le hdl hm1.size, (hm1.block D' hdl (by omega)).trans hdf⟩⟩
    have HMK := Lib.hid hmk
    clear o1 o2 hmk hdf o3 hset2 hm1
    go_wp2_with fail
    refine leaves_marks (B := w.heap.size + 2) _ _ HMK.out (fun W3 hT => ?_)
    refine ⟨_, results_c1 (a := 4) (ty := 4) (b := w.heap.size + 1) (by kernel_rfl) rfl (load_bool (hT.own HO.out)), by rw [HE.out], HB.out.trans (taken_below1 hT (by omega))⟩
  case stop =>
    intro D c pre W1 hD hS hi hdf
    obtain ⟨rfl, hin, o1, o2, o3⟩ := hi
    have HE : Hid (decide (one ∈ pthI cs c0) = true) := Lib.hid (by
      simp only [decide_eq_true_eq]
      have h := hin.out
      unfold wayI at h
      obtain ⟨y, hy, hye⟩ := List.mem_map.1 h
      unfold pthI
      exact List.mem_map.2 ⟨y.1, y.2, hye⟩)
    have hw0 : w.heap.size + 1 < D := by omega
    have HO := Lib.hid o2
    have HB := Lib.hid o3
    have hdl := (Array.getElem?_eq_some_iff.1 hdf).1
    have hmk : Marks (w.heap.size + 2) W1 [{ target := .collected D, args := #[] }] := ⟨[D], rfl, by simp, fun D' hD' => by
      have e : D' = D := by simpa using hD'
      subst e
      exact ⟨by omega, hdl, hdf⟩⟩
    have HMK := Lib.hid hmk
    clear o1 o2 hmk hdf o3
    refine wpIn_wide.2 ?_
    go_wp2_with fail
    refine leaves_marks (B := w.heap.size + 2) _ _ HMK.out (fun W3 hT => ?_)
    refine ⟨_, results_c1 (a := 4) (ty := 4) (b := w.heap.size + 1) (by kernel_rfl) rfl (load_bool (hT.own HO.out)), by rw [HE.out], HB.out.trans (taken_below1 hT (by omega))⟩
end Go.Proofs.YtkbbapefgifagaaGreatDoor
/-
tree.Path.
-/
namespace Go.Proofs.YtkbbapefgifagaaGreatDoor
open Go.RowKit
set_option linter.unusedVariables false
set_option linter.unusedSimpArgs false
def placeOf (s : GSite) (i : Nat) : Nat := ((s.chgs[i]?.map GChg.place).getD 0).toNat
def errO (b : Bool) : Int := if b then 0 else 1
theorem OkSite.place {s : GSite} (h : OkSite keyL s) {i : Nat} {c : GChg} (hc : s.chgs[i]? = some c) : 0 ≤ c.place ∧ c.place < s.cons.length ∧ ((placeOf s i : Nat) : Int) = c.place := by
  have h1 := h.chg c (List.mem_of_getElem? hc)
  unfold okChg at h1
  simp only [decide_eq_true_eq] at h1
  refine ⟨h1.1.1, h1.1.2, ?_⟩
  unfold placeOf
  rw [hc]
  show ((c.place.toNat : Nat) : Int) = c.place
  omega
end Go.Proofs.YtkbbapefgifagaaGreatDoor
