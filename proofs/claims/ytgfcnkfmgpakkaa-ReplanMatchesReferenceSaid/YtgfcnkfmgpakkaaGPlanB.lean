/-
Several texts in one: PlanB, PlanD0, PlanF, PlanG.
-/
import Derived.Test.YtgfcnkfmgpakkaaCPlanA
import Derived.Test.YtgfcnkfmgpakkaaCFlowK
import Derived.Test.YtgfcnkfmgpakkaaGPlanC
import Derived.Test.YtgfcnkfmgpakkaaCFlowL
import Derived.Test.YtgfcnkfmgpakkaaGBase
import Derived.Deep.RegionWith
import Derived.Test.YtgfcnkfmgpakkaaCFlowS
/-
The iterator over the slots of a job.
-/
namespace Go.Proofs.Ytgfcnkfmgpakkaa
open Go.RowKit Go.Shelf
set_option linter.unusedVariables false
set_option maxRecDepth 100000 in
theorem plSlots_any (j : GJob) (w : World) : Calls Try.prog 54 #[aggJ j] w fun e w' => e = .returned (.func (.func 82) #[] #[.pointer (some ⟨w.heap.size, 0, none⟩)]) ∧ w' = w.alloc (.cells #[.int .i64 j.frm, .int .i64 j.till, .int .i64 j.energy, .int .i64 j.rate, .int .i64 j.rank] 25) := by
  unfold aggJ
  go_enter Try.func54, Try.ntmps54
  go_wp2
  go_ret
  exact ⟨rfl, rfl⟩
/-- What a round over the slots may not change. -/
structure KpJ (B b1 : Nat) (W W' : World) : Prop where
  bel : Below B W W'
  s1 : W'.heap[b1]? = W.heap[b1]?
abbrev SlotAt (j : GJob) : Type := { t : Nat // inJ j t }
/-- The slots of a job, in order. -/
def slotsTo (j : GJob) (k : Nat) : List Nat := mk k (fun i => j.frm.toNat + i)
theorem slotsTo_pre (j : GJob) {k m : Nat} (h : k ≤ m) : slotsTo j k <+: slotsTo j m := by
  obtain ⟨d, rfl⟩ := Nat.le.dest h
  induction d with
  | zero => exact List.prefix_refl _
  | succ d ih =>
    refine (ih (by omega)).trans ?_
    rw [← Nat.add_assoc]
    unfold slotsTo
    rw [mk_succ]
    exact List.prefix_append _ _
set_option maxRecDepth 100000 in
set_option maxHeartbeats 2000000 in
theorem plSlots1_in (n : Nat) (hn : 1 ≤ n) (l b1 B : Nat) (j : GJob) (q0 : 0 ≤ j.frm) (q1 : j.frm ≤ j.till) (q2 : j.till ≤ 24) (J Jx : List (SlotAt j) → World → Prop) (W : World)
    (hJ : AbidesFrom W.heap.size J)
    (hY : ∀ (pre : List (SlotAt j)) (x : SlotAt j) W1, J pre W1 → pre.length < lenJ j → YieldAt Fence.wide (n - 1) Try.prog l #[.int .i64 (x.1 : Nat)] W1 fun e W' =>
      (e = .returned (.bool true) ∧ J (pre ++ [x]) W' ∧ KpJ B b1 W1 W') ∨ (e = .returned (.bool false) ∧ Jx (pre ++ [x]) W'))
    (hb0 : W.cell? ⟨b1, 0, none⟩ = some (.int .i64 j.frm)) (hb1 : W.cell? ⟨b1, 1, none⟩ = some (.int .i64 j.till)) (h0 : J [] W) :
    CallsIn Fence.wide n Try.prog 82 #[.func (.yield l) #[] #[], .pointer (some ⟨b1, 0, none⟩)] W fun e W' => (∃ v, e = .returned v) ∧
      ((∃ ys : List (SlotAt j), ys.map (·.1) = slotsTo j (lenJ j) ∧ J ys W') ∨ (∃ pre : List (SlotAt j), pre.map (·.1) <+: slotsTo j (lenJ j) ∧ Jx pre W')) := by
  have HY := Lib.hid hY
  have HJ := Lib.hid hJ
  clear hY hJ
  refine callsIn_of_wp Try.func82 rfl trivial ?_ rfl
  simp only [Try.ntmps82, List.size_toArray, List.length_cons, List.length_nil, Nat.reduceAdd, Nat.reduceSub, Array.replicate_succ, Array.replicate_zero, List.push_toArray, List.append_toArray, List.nil_append, List.cons_append]
  gi_wp2
  gi_loopw [3] (fun i wr => ∃ (k : Nat) (pre : List (SlotAt j)), k ≤ lenJ j ∧ i = .int .i64 (j.frm + k) ∧ pre.map (·.1) = slotsTo j k ∧ J pre wr ∧ wr.cell? ⟨b1, 0, none⟩ = some (.int .i64 j.frm) ∧ wr.cell? ⟨b1, 1, none⟩ = some (.int .i64 j.till)) (fun i _ => (j.till - intOf i).toNat)
  case atStart => exact ⟨0, [], Nat.zero_le _, by simp, rfl, h0, hb0, hb1⟩
  case round =>
    clear hb0 hb1 h0
    obtain ⟨k, pre, hk, rfl, hpre, hJp, c0, c1⟩ := hrel
    have Hpre := Lib.hid hpre
    clear hpre
    have hlj : (lenJ j : Int) = j.till - j.frm := by unfold lenJ; omega
    by_cases hlt : k < lenJ j
    · have hltz : j.frm + (k : Int) < j.till := by omega
      have hin : inJ j (j.frm.toNat + k) := by unfold inJ; omega
      have hpl : pre.length < lenJ j := by
        have := congrArg List.length Hpre.out
        simp [slotsTo, mk_len] at this
        omega
      obtain ⟨fn, tmps, assign, body, hy, hR⟩ := HY.out pre ⟨j.frm.toNat + k, hin⟩ wr hJp hpl
      have he : ((j.frm.toNat + k : Nat) : Int) = j.frm + (k : Int) := by omega
      dsimp only at hy
      rw [he] at hy
      have Hsn : Hid ((pre ++ [(⟨j.frm.toNat + k, hin⟩ : SlotAt j)]).map (·.1) = slotsTo j (k + 1)) := Lib.hid (by rw [List.map_append, Hpre.out]; unfold slotsTo; rw [mk_succ]; rfl)
      gi_wp2
      refine hR.mono ?_
      rintro e' W3 (⟨rfl, hJ3, hk3⟩ | ⟨rfl, hJx3⟩)
      · have d0 := (World.cell?_of_block (a := ⟨b1, 0, none⟩) hk3.s1).trans c0
        have d1 := (World.cell?_of_block (a := ⟨b1, 1, none⟩) hk3.s1).trans c1
        gi_wp2
        go_roundw
        case rel => exact ⟨k + 1, _, hlt, by rw [show j.frm + (k : Int) + 1 = j.frm + ((k + 1 : Nat) : Int) by omega], Hsn.out, hJ3, d0, d1⟩
        case measure => simp [intOf]; omega
      · gi_wp2
        refine bodyPost_ret (results_none rfl _ _ _) rfl ?_
        refine ⟨⟨_, rfl⟩, .inr ⟨_, ?_, hJx3⟩⟩
        rw [Hsn.out]
        exact slotsTo_pre j hlt
    · have hltz : ¬ j.frm + (k : Int) < j.till := by omega
      have hkk : Hid (k = lenJ j) := Lib.hid (by omega)
      clear hlj
      gi_wp2
      go_end0
      exact ⟨⟨_, rfl⟩, .inl ⟨pre, (by rw [← hkk.out]; exact Hpre.out), hJp⟩⟩
end Go.Proofs.Ytgfcnkfmgpakkaa
/-
The memory of plan.CheckCut.
-/
namespace Go.Proofs.Ytgfcnkfmgpakkaa
open Go.RowKit Go.Shelf
set_option linter.unusedVariables false
theorem plMarks_one (A : Option Addr) (c N T : Nat) (xs : List Int) (w : World) (hR : Rd 1 encI w A xs) (HN : Hid (xs.length = N)) (hl : N ≤ 9223372036854775807) (hT : T ≤ 24) :
    Calls Try.prog 70 #[.slice A N c, .int .i64 T] w fun e w' => ∃ v, e = .returned (.tuple #[v, .bool (marksB xs T)]) ∧ Below w.heap.size w w' ∧ (∃ a l k, v = .slice a l k) ∧ (marksB xs T = true → ∃ g, v = .slice (some ⟨g, 0, none⟩) T T ∧ Own w' g 4 T (fun t => .bool (inL xs t)) ∧ w.heap.size ≤ g) := by
  refine (plMarks_any A c N T xs w hR HN hl hT).mono ?_
  rintro e w' (⟨h, rfl, hb⟩ | ⟨h, g, rfl, ho, hg, hb⟩)
  · exact ⟨_, by rw [h], hb, ⟨_, _, _, rfl⟩, fun h2 => by rw [h] at h2; cases h2⟩
  · exact ⟨_, by rw [h], hb, ⟨_, _, _, rfl⟩, fun _ => ⟨g, rfl, ho, hg⟩⟩
theorem one_cellI (v : Value) : ∀ i, i < 1 → (#[v] : Array Value)[i]? = some v := by
  intro i hi
  have : i = 0 := by omega
  subst this
  rfl
/-- The memory of CheckCut. -/
structure CCm (w W : World) (A A3 A4 : Option Addr) (c N c3 N3 c4 N4 T bi br gi : Nat) (cs : List Int) (room : Int) : Prop where
  k0 : W.cell? ⟨w.heap.size, 0, none⟩ = some (.slice A N c)
  k1 : W.cell? ⟨w.heap.size + 1, 0, none⟩ = some (.slice A3 N3 c3)
  k2 : W.cell? ⟨w.heap.size + 1, 1, none⟩ = some (.slice A4 N4 c4)
  ki : W.cell? ⟨bi, 0, none⟩ = some (.slice (some ⟨gi, 0, none⟩) T T)
  ro : Own W br 3 1 (fun _ => .int .i64 room)
  og : Own W gi 4 T (fun t => .bool (inL cs t))
  bel : Below w.heap.size w W
  gl : gi < bi
  bb : w.heap.size + 1 < bi
theorem CCm.set {w W : World} {A A3 A4 : Option Addr} {c N c3 N3 c4 N4 T bi gi : Nat} {cs : List Int} {room : Int} (h : CCm w W A A3 A4 c N c3 N3 c4 N4 T bi (bi + 1) gi cs room) (r : Int) (o : Obj) : CCm w (((W.setCell ⟨bi + 1, 0, none⟩ (.int .i64 r)).alloc o).drew) A A3 A4 c N c3 N3 c4 N4 T bi (bi + 1) gi cs r := by
  have b := h.bb
  have g := h.gl
  have hs : (W.setCell ⟨bi + 1, 0, none⟩ (.int .i64 r)).heap.size = W.heap.size := by simp [World.setCell]
  have far : ∀ (p : Addr) (v : Value), W.cell? p = some v → p.block ≠ bi + 1 → ((W.setCell ⟨bi + 1, 0, none⟩ (.int .i64 r)).alloc o).drew.cell? p = some v := fun p v hp hne => by
    have l := World.block_lt_of_cell? W _ hp
    show ((W.setCell ⟨bi + 1, 0, none⟩ (.int .i64 r)).alloc o).cell? p = some v
    rw [World.cell?_alloc_lt _ _ p (by rw [hs]; exact l), World.cell?_setCell_far _ _ _ _ (fun e => hne e.symm)]
    exact hp
  exact ⟨far _ _ h.k0 (by dsimp only; omega), far _ _ h.k1 (by dsimp only; omega), far _ _ h.k2 (by dsimp only; omega), far _ _ h.ki (by dsimp only; omega), (((h.ro.set 0 (.int .i64 r)).alloc o).drew).congr (fun i hi => by simp [show i = 0 by omega]), ((h.og.other (p := ⟨bi + 1, 0, none⟩) (by dsimp only; omega) _).alloc o).drew, Below.drew ((h.bel.setCell (p := ⟨bi + 1, 0, none⟩) (by dsimp only; omega) _).alloc (by rw [hs]; exact h.bel.size) _), g, b⟩
theorem CCm.keep {w W W' : World} {A A3 A4 : Option Addr} {c N c3 N3 c4 N4 T bi br gi : Nat} {cs : List Int} {room : Int} (h : CCm w W A A3 A4 c N c3 N3 c4 N4 T bi br gi cs room) (hb : Below W.heap.size W W') : CCm w W' A A3 A4 c N c3 N3 c4 N4 T bi br gi cs room :=
  have cl : ∀ {p : Addr} {v : Value}, W.cell? p = some v → W'.cell? p = some v := fun {p v} hp => (hb.cell (World.block_lt_of_cell? W p hp)).trans hp
  ⟨cl h.k0, cl h.k1, cl h.k2, cl h.ki, h.ro.keep hb h.ro.lt, h.og.keep hb h.og.lt, below_then h.bel hb, h.gl, h.bb⟩
theorem taken_below {B B0 : Nat} {W W' : World} (h : Taken B W W') (hB : B0 ≤ B) : Below B0 W W' := ⟨h.1, h.2.1, h.2.2.1, Nat.le_of_eq h.2.2.2.1.symm, fun k hk => h.2.2.2.2.1 k (by omega)⟩
end Go.Proofs.Ytgfcnkfmgpakkaa
/-
The drawn region of plan.CheckCut that adds the supply of a slot.
-/
namespace Go.Proofs.Ytgfcnkfmgpakkaa
open Go.RowKit
set_option linter.unusedVariables false
set_option linter.unusedSimpArgs false
noncomputable def ccReg11 : Code := ((Try.f34.body.bind (findRegion 11)).getD .skip)
set_option maxHeartbeats 4000000 in
set_option maxRecDepth 100000 in
theorem cc11 (W : World) (br b2 o2 d T c2 : Nat) (room s : Int) (K : Act → World → Prop) (hd : (d : Int) < (T : Int)) (hr : -1000000 ≤ room ∧ room ≤ 1000000) (hs : -1000000 ≤ s ∧ s ≤ 1000000) (lr : br < W.heap.size) (l2 : b2 < W.heap.size)
  (cr : W.cell? ⟨br, 0, none⟩ = some (.int .i64 room)) (fz : W.frozen? ⟨br, 0, none⟩ = false) (cs : W.cell? ⟨b2, o2 + d, none⟩ = some (.int .i64 s))
  (u0 u2 u3 u4 u5 u6 u7 u8 u9 u10 u11 u13 u15 u16 u17 u18 u19 u20 u21 u22 u23 u24 u25 u26 u27 u28 u29 u30 u31 u32 u33 u34 u35 u36 u37 u38 u39 u40 u41 u42 u43 u44 u45 u46 u47 u48 u49 u50 u51 u52 u53 u54 u55 u56 u57 u58 u59 u60 u61 u62 u63 u64 u65 u66 u67 u68 u69 u70 u71 u72 u73 u74 u75 u76 u77 u78 u79 u80 u81 u82 u83 u84 u85 u86 u87 u88 u89 u90 u91 u92 u93 u94 u95 u96 : Value)
  (HK : Hid (∀ (v51 v52 v53 v54 v55 v56 v57 : Value), K ⟨List.toArray (u0 :: (.slice (some ⟨b2, o2, none⟩) T c2) :: u2 :: u3 :: u4 :: u5 :: u6 :: u7 :: u8 :: u9 :: u10 :: u11 :: (.pointer (some ⟨br, 0, none⟩)) :: u13 :: (.int .i64 d) :: u15 :: u16 :: u17 :: u18 :: u19 :: u20 :: u21 :: u22 :: u23 :: u24 :: u25 :: u26 :: u27 :: u28 :: u29 :: u30 :: u31 :: u32 :: u33 :: u34 :: u35 :: u36 :: u37 :: u38 :: u39 :: u40 :: u41 :: u42 :: u43 :: u44 :: u45 :: u46 :: u47 :: u48 :: u49 :: u50 :: v51 :: v52 :: v53 :: v54 :: v55 :: v56 :: v57 :: u58 :: u59 :: u60 :: u61 :: u62 :: u63 :: u64 :: u65 :: u66 :: u67 :: u68 :: u69 :: u70 :: u71 :: u72 :: u73 :: u74 :: u75 :: u76 :: u77 :: u78 :: u79 :: u80 :: u81 :: u82 :: u83 :: u84 :: u85 :: u86 :: u87 :: u88 :: u89 :: u90 :: u91 :: u92 :: u93 :: u94 :: u95 :: u96 :: []), []⟩ ((W.setCell ⟨br, 0, none⟩ (.int .i64 (room + s))).alloc (.cells #[.int .i64 room, .int .i64 s] 3)).drew)) :
  Code.wp Try.prog ccReg11 (Exit.then K fun _ _ _ => False) ⟨List.toArray (u0 :: (.slice (some ⟨b2, o2, none⟩) T c2) :: u2 :: u3 :: u4 :: u5 :: u6 :: u7 :: u8 :: u9 :: u10 :: u11 :: (.pointer (some ⟨br, 0, none⟩)) :: u13 :: (.int .i64 d) :: u15 :: u16 :: u17 :: u18 :: u19 :: u20 :: u21 :: u22 :: u23 :: u24 :: u25 :: u26 :: u27 :: u28 :: u29 :: u30 :: u31 :: u32 :: u33 :: u34 :: u35 :: u36 :: u37 :: u38 :: u39 :: u40 :: u41 :: u42 :: u43 :: u44 :: u45 :: u46 :: u47 :: u48 :: u49 :: u50 :: u51 :: u52 :: u53 :: u54 :: u55 :: u56 :: u57 :: u58 :: u59 :: u60 :: u61 :: u62 :: u63 :: u64 :: u65 :: u66 :: u67 :: u68 :: u69 :: u70 :: u71 :: u72 :: u73 :: u74 :: u75 :: u76 :: u77 :: u78 :: u79 :: u80 :: u81 :: u82 :: u83 :: u84 :: u85 :: u86 :: u87 :: u88 :: u89 :: u90 :: u91 :: u92 :: u93 :: u94 :: u95 :: u96 :: []), []⟩ W := by
  have hs2 := plSum_two room s W.drew hr hs
  have hs3 : Calls Try.prog 53 #[.slice (some ⟨W.heap.size, 0, none⟩) 2 2] (W.alloc (.cells #[.int .i64 room, .int .i64 s] 3)).drew fun e w' => e = .returned (.int .i64 (room + s)) ∧ w' = (W.alloc (.cells #[.int .i64 room, .int .i64 s] 3)).drew := hs2
  have HS := Lib.hid hs3
  clear hs2 hs3
  conv => arg 2; whnf
  go_region_with (refine (HS.out).mono ?_; rintro e w' ⟨rfl, rfl⟩)
  all_goals
    simp only [Exit.then, List.setIfInBounds_toArray, List.set_cons_zero, List.set_cons_succ]
    exact HK.out _ _ _ _ _ _ _
end Go.Proofs.Ytgfcnkfmgpakkaa
/-
A loop over the slots of a job whose body never leaves it.
-/
namespace Go.Proofs.Ytgfcnkfmgpakkaa
open Go.RowKit Go.Shelf
set_option linter.unusedVariables false
theorem cell_nc {B : Nat} {W W' : World} {p : Addr} {v : Value} (h : W.cell? p = some v) (hn : Nc B W W') : W'.cell? p = some v := by
  obtain ⟨row, hg, hr⟩ := hn
  have hl := World.block_lt_of_cell? W _ h
  rw [← h]
  refine World.cell?_of_block (hg.block p.block hl (fun e => ?_))
  obtain ⟨_, o, ho, hc⟩ := hr p.block e.symm
  unfold World.cell? at h
  rw [ho] at h
  cases o <;> first | (simp [Obj.isCells] at hc; done) | (simp at h; done)
theorem range_slots {j : GJob} (q0 : 0 ≤ j.frm) (q1 : j.frm ≤ j.till) (q2 : j.till ≤ 24) {g : Operand} {p : Tmp} {assign body : Code} {Q : Exit → Act → World → Prop} {a : Act} {w : World} (b1 B : Nat)
    (hg : a.eval g = .func (.func 82) #[] #[.pointer (some ⟨b1, 0, none⟩)]) (hb0 : w.cell? ⟨b1, 0, none⟩ = some (.int .i64 j.frm)) (hb1 : w.cell? ⟨b1, 1, none⟩ = some (.int .i64 j.till)) (hB : B ≤ w.heap.size)
    (I : List (SlotAt j) → World → Prop) (hI : ∀ pre W W', I pre W → Nc w.heap.size W W' → I pre W') (h0 : I [] w) (Ax : SlotAt j → Act → Prop)
    (hassign : ∀ (l : Nat) (x : SlotAt j) (W : World) (K : Act → World → Prop), (∀ a', Ax x a' → K a' W) → assign.wpIn (Fence.wide.inRound l) 3 Try.prog (Exit.then K (fun _ _ _ => False)) { tmps := a.tmps.setIfInBounds p (.int .i64 (x.1 : Nat)), defers := [] } W)
    (hbody : ∀ (l : Nat) (pre : List (SlotAt j)) (x : SlotAt j) (a' : Act) (W : World), I pre W → Ax x a' → pre.length < lenJ j → body.wpIn (Fence.wide.inRound l) 3 Try.prog (fun e _ W' => e = .normal ∧ KeepsFrom w.heap.size W W' ∧ KpJ B b1 W W' ∧ I (pre ++ [x]) W') a' W)
    (hdone : ∀ (D : Nat) (ys : List (SlotAt j)) (W : World), w.heap.size ≤ D → ys.map (·.1) = slotsTo j (lenJ j) → I ys W → W.heap[D]? = some (.deferred (some [])) → Q .normal { a with defers := { target := .collected D, args := #[] } :: a.defers } W) :
    (Code.rangeFunc g #[p] assign body).wp Try.prog Q a w := by
  have lb := World.block_lt_of_cell? w _ hb0
  dsimp only at lb
  refine (wpIn_wide (n := 5)).1 ?_
  refine wpIn_rangeFunc_ownH (F := Fence.wide) (α := SlotAt j) rfl (by omega) (gf := 82) (lb := #[.pointer (some ⟨b1, 0, none⟩)]) hg trivial (enters_of Try.func82 (by kernel_rfl) rfl)
    (encs := fun x => #[.int .i64 (x.1 : Nat)]) (Kp := KpJ B b1) (S := fun (ys : List (SlotAt j)) => ys.map (·.1) = slotsTo j (lenJ j)) (Sp := fun (ys : List (SlotAt j)) => List.IsPrefix (ys.map (fun (x : SlotAt j) => x.1)) (slotsTo j (lenJ j))) (N := lenJ j) (w0 := w)
    (fun l J Jx W' hW' hJ _ hY h0 => plSlots1_in 4 (by omega) l b1 B j q0 q1 q2 J Jx W' hJ hY ((hW'.cell (p := ⟨b1, 0, none⟩) lb).trans hb0) ((hW'.cell (p := ⟨b1, 1, none⟩) lb).trans hb1) h0)
    ?hKt ?hKb (Below.refl _ _) (fun _ => rfl) I (fun _ _ _ => False) ?hI (fun _ _ _ _ _ h _ _ => h) h0 (fun x a' _ => Ax x a') (fun _ _ _ _ _ _ h _ _ => h) ?assign ?body ?done (fun _ _ _ _ _ _ h _ => h.elim)
  case hKt => exact fun h1 h2 => ⟨h1.bel.trans h2.bel, h2.s1.trans h1.s1⟩
  case hKb =>
    intro W' l o o' hl ho _ _
    exact ⟨⟨rfl, rfl, rfl, by simp, fun k hk => World.putObj_heap_other (by omega)⟩, World.putObj_heap_other (by omega)⟩
  case hI => exact fun pre W1 W2 row h hg hr => hI pre W1 W2 h ⟨row, hg, hr⟩
  case assign =>
    intro l pre x W1 K hi hK
    have ht : (#[p].zip #[Value.int .i64 (x.1 : Nat)]).foldl (fun t (p, v) => t.setIfInBounds p v) a.tmps = a.tmps.setIfInBounds p (.int .i64 (x.1 : Nat)) := by simp
    rw [ht]
    exact hassign l x W1 K (fun a' hx => hK a' W1 (KeepsFrom.refl _ _) ⟨Below.refl _ _, rfl⟩ hi hx)
  case body =>
    intro l pre x a' W1 hl hlr hi hx hlen
    refine wpIn_mono (hbody l pre x a' W1 hi hx hlen) ?_
    rintro e a2 W2 ⟨rfl, k1, k2, k3⟩
    exact ⟨k1, k2, k3⟩
  case done => exact fun D ys W1 hD hS hi hdf => hdone D ys W1 hD hS hi hdf
end Go.Proofs.Ytgfcnkfmgpakkaa
