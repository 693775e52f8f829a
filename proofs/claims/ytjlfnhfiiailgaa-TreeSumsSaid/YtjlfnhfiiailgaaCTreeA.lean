/-
The iterator over the conductors from one to the feeder.
-/
import Derived.Test.YtjlfnhfiiailgaaCSiteRd
import Derived.Test.YtjlfnhfiiailgaaCTreeMath
import Derived.Test.YtjlfnhfiiailgaaGBase
import Derived.RangeFuncNested
import Derived.RangeFuncBound
import Derived.RangeFuncCalls
import Derived.RangeFuncLeaves
import Derived.Shelf.Abstract
import Derived.Shelf.RegionOpen
import Derived.OwnWalkIn
import Derived.TacticsInMore
import Derived.LoopNIn
import Derived.LoopIn
import Derived.BigRegionIn
import Derived.Deep.DeepCutAuto
import Derived.Deep.RegionLaw
import Derived.Deep.RegionHeld3
import Derived.OwnWalk
import Derived.Deep.QuietTactic
import Derived.BigQuiet
namespace Go.Proofs.Ytjlfnhfiiailgaa
open Go.RowKit Go.Shelf
set_option linter.unusedVariables false
set_option linter.unusedSimpArgs false
set_option maxRecDepth 100000 in
theorem trWay_any (a1 a2 a3 a4 a5 : Option Addr) (n1 c1 n2 c2 n3 c3 n4 c4 n5 c5 : Nat) (x : Int) (w : World) : Calls Try.prog 28 #[.agg #[.slice a1 n1 c1, .slice a2 n2 c2, .slice a3 n3 c3, .slice a4 n4 c4, .slice a5 n5 c5], .int .i64 x] w fun e w' =>
    e = .returned (.func (.func 39) #[] #[.pointer (some ⟨w.heap.size + 1, 0, none⟩), .pointer (some ⟨w.heap.size, 0, none⟩)]) ∧ w' = (w.alloc (.cells #[.slice a1 n1 c1, .slice a2 n2 c2, .slice a3 n3 c3, .slice a4 n4 c4, .slice a5 n5 c5] 28)).alloc (.cells #[.int .i64 x] 3) := by
  go_enter Try.func28, Try.ntmps28
  go_wp2
  go_ret
  refine ⟨?_, rfl⟩
  simp
/-- What a round over a way may not change. -/
structure KpW (B bs : Nat) (W W' : World) : Prop where
  bel : Below B W W'
  s1 : W'.heap[bs]? = W.heap[bs]?
abbrev WayAt (cs : List GCon) (c : Nat) : Type := { k : Nat // k ∈ pth cs (c : Int) }
theorem Rd.belowB {α : Type} {sz : Nat} {enc : α → List Value} {w w' : World} {A : Option Addr} {xs : List α} (h : Rd sz enc w A xs) {B : Nat} (hb : Below B w w') (hB : ∀ a, A = some a → a.block < B) : Rd sz enc w' A xs :=
  h.mod (Mod.of_below hb) (fun a ha _ hle => by have := hB a ha; omega)
theorem pth_one {cs : List GCon} {c : Int} (hu : OkUps cs) {k : Nat} (hk : k < cs.length) {g : GCon} (hg : cs[k]? = some g) : pth cs (k : Int) = k :: pth cs g.up := by
  rw [pth_cons hu hk]
  unfold upAt
  rw [hg]
  rfl
set_option maxRecDepth 100000 in
set_option maxHeartbeats 2000000 in
theorem trWay1_in (n : Nat) (hn : 1 ≤ n) (l bc bs B : Nat) (cs : List GCon) (hu : OkUps cs) (c0 : Nat) (hc : c0 < cs.length) (a1 : Option Addr) (n1 c1 : Nat) (hn1 : cs.length = n1) (hm1 : n1 ≤ 9223372036854775807) (hA : ∀ a, a1 = some a → a.block < B) (J Jx : List (WayAt cs c0) → World → Prop) (W : World)
    (hJ : AbidesFrom W.heap.size J)
    (hY : ∀ (pre : List (WayAt cs c0)) (x : WayAt cs c0) W1, J pre W1 → pre.length < (pth cs (c0 : Int)).length → YieldAt Fence.wide (n - 1) Try.prog l #[.int .i64 (x.1 : Nat)] W1 fun e W' =>
      (e = .returned (.bool true) ∧ J (pre ++ [x]) W' ∧ KpW B bs W1 W') ∨ (e = .returned (.bool false) ∧ Jx (pre ++ [x]) W'))
    (hbc : W.cell? ⟨bc, 0, none⟩ = some (.int .i64 (c0 : Nat))) (hbs : W.cell? ⟨bs, 0, none⟩ = some (.slice a1 n1 c1)) (hR : Rd 11 encCon W a1 cs) (h0 : J [] W) :
    CallsIn Fence.wide n Try.prog 39 #[.func (.yield l) #[] #[], .pointer (some ⟨bc, 0, none⟩), .pointer (some ⟨bs, 0, none⟩)] W fun e W' => (∃ v, e = .returned v) ∧
      ((∃ ys : List (WayAt cs c0), ys.map (·.1) = pth cs (c0 : Int) ∧ J ys W') ∨ (∃ pre : List (WayAt cs c0), pre.map (·.1) <+: pth cs (c0 : Int) ∧ Jx pre W')) := by
  have HY := Lib.hid hY
  have HJ := Lib.hid hJ
  have HU := Lib.hid hu
  have HR := Lib.hid hR
  have HA := Lib.hid hA
  have HN := Lib.hid hn1
  have hc1 : (c0 : Int) < (n1 : Int) := by omega
  clear hY hJ hu hR hA hn1
  refine callsIn_of_wp Try.func39 rfl trivial ?_ rfl
  simp only [Try.ntmps39, List.size_toArray, List.length_cons, List.length_nil, Nat.reduceAdd, Nat.reduceSub, Array.replicate_succ, Array.replicate_zero, List.push_toArray, List.append_toArray, List.nil_append, List.cons_append]
  gi_wp2
  gi_loopw [4] (fun i wr => ∃ (c : Int) (pre : List (WayAt cs c0)), i = .int .i64 c ∧ -1 ≤ c ∧ c < (n1 : Int) ∧ Hid (pre.map (·.1) ++ pth cs c = pth cs (c0 : Int)) ∧ J pre wr ∧ wr.cell? ⟨bs, 0, none⟩ = some (.slice a1 n1 c1) ∧ Hid (Rd 11 encCon wr a1 cs)) (fun i _ => (intOf i + 1).toNat)
  case atStart => exact ⟨(c0 : Int), [], rfl, by omega, hc1, Lib.hid (by simp), h0, hbs, HR⟩
  case round =>
    clear hbs hbc h0 HR
    obtain ⟨c, pre, rfl, hlo, hhi, Hpre, hJp, q0, HR⟩ := hrel
    by_cases hlt : 0 ≤ c
    · obtain ⟨k, rfl⟩ := Int.eq_ofNat_of_zero_le hlt
      have hk : k < cs.length := by rw [HN.out]; omega
      obtain ⟨b, off, g, hA1, hbl, hgx, -, hup, -⟩ := rdCon_at HR.out hk
      have HG : Hid (pth cs (k : Int) = k :: pth cs g.up) := Lib.hid (pth_one (c := 0) HU.out hk hgx)
      have hin : k ∈ pth cs (c0 : Int) := by rw [← Hpre.out, HG.out]; simp
      have hpl : pre.length < (pth cs (c0 : Int)).length := by rw [← Hpre.out, HG.out]; simp
      have hub : g.up < k ∧ -1 ≤ g.up := by
        have h := HU.out k hk
        have e : upAt cs k = g.up := by unfold upAt; rw [hgx]; rfl
        rw [e] at h
        omega
      obtain ⟨hub1, hub2⟩ := hub
      obtain ⟨fn, tmps, assign, body, hy, hRd⟩ := HY.out pre ⟨k, hin⟩ wr hJp hpl
      dsimp only at hy
      have HNX : Hid (((pre ++ [(⟨k, hin⟩ : WayAt cs c0)]).map (·.1)) ++ pth cs g.up = pth cs (c0 : Int)) := Lib.hid (by
        simp only [List.map_append, List.map_cons, List.map_nil, List.append_assoc, List.cons_append, List.nil_append]
        rw [← HG.out]
        exact Hpre.out)
      have HPF : Hid ((pre ++ [(⟨k, hin⟩ : WayAt cs c0)]).map (·.1) <+: pth cs (c0 : Int)) := Lib.hid ⟨_, HNX.out⟩
      clear hgx
      subst hA1
      generalize hgu : g.up = gu at *
      clear hgu
      gi_wp2
      refine hRd.mono ?_
      rintro e' W3 (⟨rfl, hJ3, hk3⟩ | ⟨rfl, hJx3⟩)
      · have d0 := (World.cell?_of_block (a := ⟨bs, 0, none⟩) hk3.s1).trans q0
        have HR3 : Hid (Rd 11 encCon W3 (some ⟨b, off, none⟩) cs) := Lib.hid (HR.out.belowB hk3.bel HA.out)
        have hup3 := (hk3.bel.cell (p := ⟨b, off + k * 11 + 1, none⟩) (HA.out ⟨b, off, none⟩ rfl)).trans hup
        gi_wp2
        go_roundw
        case rel => exact ⟨gu, _, rfl, hub2, by omega, HNX, hJ3, d0, HR3⟩
        case measure => simp [intOf]; omega
      · gi_wp2
        refine bodyPost_ret (results_none rfl _ _ _) rfl ?_
        exact ⟨⟨_, rfl⟩, .inr ⟨_, HPF.out, hJx3⟩⟩
    · have hltz : ¬ 0 ≤ c := hlt
      have hcn : c < 0 := by omega
      have HE : Hid (pre.map (·.1) = pth cs (c0 : Int)) := Lib.hid (by
        have := Hpre.out
        rw [pth_neg cs hcn, List.append_nil] at this
        exact this)
      gi_wp2
      go_end0
      exact ⟨⟨_, rfl⟩, .inl ⟨pre, HE.out, hJp⟩⟩
theorem cell_nc1 {B : Nat} {W W' : World} {p : Addr} {v : Value} (h : W.cell? p = some v) (hn : Nc B W W') : W'.cell? p = some v := by
  obtain ⟨row, hg, hr⟩ := hn
  have hl := World.block_lt_of_cell? W _ h
  rw [← h]
  refine World.cell?_of_block (hg.block p.block hl (fun e => ?_))
  obtain ⟨_, o, ho, hc⟩ := hr p.block e.symm
  unfold World.cell? at h
  rw [ho] at h
  cases o <;> first | (simp [Obj.isCells] at hc; done) | (simp at h; done)
/-- ONE RULE for every loop over a way; Ix tells what holds where its body leaves it. -/
theorem range_way {cs : List GCon} (hu : OkUps cs) {c0 : Nat} (hc : c0 < cs.length) {a1 : Option Addr} {n1 c1 : Nat} (hn1 : cs.length = n1) (hm1 : n1 ≤ 9223372036854775807) {g : Operand} {p : Tmp} {assign body : Code} {Q : Exit → Act → World → Prop} {a : Act} {w : World} (bc bs B : Nat)
    (hg : a.eval g = .func (.func 39) #[] #[.pointer (some ⟨bc, 0, none⟩), .pointer (some ⟨bs, 0, none⟩)]) (hbc : w.cell? ⟨bc, 0, none⟩ = some (.int .i64 (c0 : Nat))) (hbs : w.cell? ⟨bs, 0, none⟩ = some (.slice a1 n1 c1)) (hR : Rd 11 encCon w a1 cs) (hA : ∀ a, a1 = some a → a.block < B) (hB : B ≤ w.heap.size)
    (I : List (WayAt cs c0) → World → Prop) (Ix : Code → List (WayAt cs c0) → World → Prop) (hI : ∀ pre W W', I pre W → Nc w.heap.size W W' → I pre W') (hIx : ∀ c pre W W', Ix c pre W → Nc w.heap.size W W' → Ix c pre W') (h0 : I [] w) (Ax : WayAt cs c0 → Act → Prop)
    (hassign : ∀ (l : Nat) (x : WayAt cs c0) (W : World) (K : Act → World → Prop), (∀ a', Ax x a' → K a' W) → assign.wpIn (Fence.wide.inRound l) 3 Try.prog (Exit.then K (fun _ _ _ => False)) { tmps := a.tmps.setIfInBounds p (.int .i64 (x.1 : Nat)), defers := [] } W)
    (hbody : ∀ (l : Nat) (pre : List (WayAt cs c0)) (x : WayAt cs c0) (a' : Act) (W : World), I pre W → Ax x a' → pre.length < (pth cs (c0 : Int)).length → body.wpIn (Fence.wide.inRound l) 3 Try.prog (ownPostG w.heap.size (KpW B bs) I Ix (pre ++ [x]) W) a' W)
    (hdone : ∀ (D : Nat) (ys : List (WayAt cs c0)) (W : World), w.heap.size ≤ D → ys.map (·.1) = pth cs (c0 : Int) → I ys W → W.heap[D]? = some (.deferred (some [])) → Q .normal { a with defers := { target := .collected D, args := #[] } :: a.defers } W)
    (hstop : ∀ (D : Nat) (c : Code) (pre : List (WayAt cs c0)) (W : World), w.heap.size ≤ D → pre.map (·.1) <+: pth cs (c0 : Int) → Ix c pre W → W.heap[D]? = some (.deferred (some [])) → c.wpIn Fence.wide 5 Try.prog Q { a with defers := { target := .collected D, args := #[] } :: a.defers } W) :
    (Code.rangeFunc g #[p] assign body).wp Try.prog Q a w := by
  have lc := World.block_lt_of_cell? w _ hbc
  have ls := World.block_lt_of_cell? w _ hbs
  dsimp only at lc ls
  refine (wpIn_wide (n := 5)).1 ?_
  refine wpIn_rangeFunc_ownH (F := Fence.wide) (α := WayAt cs c0) rfl (by omega) (gf := 39) (lb := #[.pointer (some ⟨bc, 0, none⟩), .pointer (some ⟨bs, 0, none⟩)]) hg trivial (enters_of Try.func39 (by kernel_rfl) rfl)
    (encs := fun x => #[.int .i64 (x.1 : Nat)]) (Kp := KpW B bs) (S := fun (ys : List (WayAt cs c0)) => ys.map (·.1) = pth cs (c0 : Int)) (Sp := fun (ys : List (WayAt cs c0)) => List.IsPrefix (ys.map (fun (x : WayAt cs c0) => x.1)) (pth cs (c0 : Int))) (N := (pth cs (c0 : Int)).length) (w0 := w)
    (fun l J Jx W' hW' hJ _ hY h0 => trWay1_in 4 (by omega) l bc bs B cs hu c0 hc a1 n1 c1 hn1 hm1 hA J Jx W' hJ hY ((hW'.cell (p := ⟨bc, 0, none⟩) lc).trans hbc) ((hW'.cell (p := ⟨bs, 0, none⟩) ls).trans hbs) (hR.keep hW') h0)
    ?hKt ?hKb (Below.refl _ _) (fun _ => rfl) I Ix ?hI ?hIx h0 (fun x a' _ => Ax x a') (fun _ _ _ _ _ _ h _ _ => h) ?assign ?body ?done hstop
  case hKt => exact fun h1 h2 => ⟨h1.bel.trans h2.bel, h2.s1.trans h1.s1⟩
  case hKb =>
    intro W' l o o' hl ho _ _
    exact ⟨⟨rfl, rfl, rfl, by simp, fun k hk => World.putObj_heap_other (by omega)⟩, World.putObj_heap_other (by omega)⟩
  case hI => exact fun pre W1 W2 row h hg hr => hI pre W1 W2 h ⟨row, hg, hr⟩
  case hIx => exact fun c pre W1 W2 row h hg hr => hIx c pre W1 W2 h ⟨row, hg, hr⟩
  case assign =>
    intro l pre x W1 K hi hK
    have ht : (#[p].zip #[Value.int .i64 (x.1 : Nat)]).foldl (fun t (p, v) => t.setIfInBounds p v) a.tmps = a.tmps.setIfInBounds p (.int .i64 (x.1 : Nat)) := by simp
    rw [ht]
    exact hassign l x W1 K (fun a' hx => hK a' W1 (KeepsFrom.refl _ _) ⟨Below.refl _ _, rfl⟩ hi hx)
  case body =>
    intro l pre x a' W1 hl hlr hi hx hlen
    exact hbody l pre x a' W1 hi hx hlen
  case done => exact fun D ys W1 hD hS hi hdf => hdone D ys W1 hD hS hi hdf
end Go.Proofs.Ytjlfnhfiiailgaa
