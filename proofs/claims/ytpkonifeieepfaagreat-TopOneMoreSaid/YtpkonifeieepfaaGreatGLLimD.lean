/-
Several texts in one: LimD, LimE, LimF0, LimF.
-/
import Derived.Test.YtpkonifeieepfaaGreatGLTreeA
import Derived.Test.YtpkonifeieepfaaGreatGLLimA
import Derived.Test.YtpkonifeieepfaaGreatGLTreeH
import Derived.Test.YtpkonifeieepfaaGreatGLSiteH
import Derived.Test.YtpkonifeieepfaaGreatGLTreeE
import Derived.Laws.EntriesVeiled
/-
The iterator over the phases of all conductors.
-/
namespace Go.Proofs.YtpkonifeieepfaaGreat
open Go.RowKit Go.Shelf
set_option linter.unusedVariables false
set_option linter.unusedSimpArgs false
set_option maxRecDepth 100000 in
theorem limPlaces_any (a1 a2 a3 a4 a5 : Option Addr) (n1 c1 n2 c2 n3 c3 n4 c4 n5 c5 : Nat) (w : World) : Calls Tryz.prog 34 #[.agg #[.slice a1 n1 c1, .slice a2 n2 c2, .slice a3 n3 c3, .slice a4 n4 c4, .slice a5 n5 c5]] w fun e w' =>
    e = .returned (.func (.func 79) #[] #[.pointer (some ⟨w.heap.size, 0, none⟩)]) ∧ w' = w.alloc (.cells #[.slice a1 n1 c1, .slice a2 n2 c2, .slice a3 n3 c3, .slice a4 n4 c4, .slice a5 n5 c5] 28) := by
  go_enter Tryz.func34, Tryz.ntmps34
  go_wp2
  go_ret
  exact ⟨rfl, rfl⟩
/-- A phase of a conductor: number t stands for conductor t / 3, phase t % 3. -/
abbrev PlAt (n : Nat) : Type := { t : Nat // t < n * 3 }
theorem range_pre {m n : Nat} (h : m ≤ n) : List.range m <+: List.range n := by
  obtain ⟨d, rfl⟩ := Nat.le.dest h
  induction d with
  | zero => exact List.prefix_refl _
  | succ d ih =>
    refine (ih (by omega)).trans ?_
    rw [← Nat.add_assoc, List.range_succ]
    exact List.prefix_append _ _
theorem range_snoc (n : Nat) : List.range (n + 1) = List.range n ++ [n] := List.range_succ
set_option maxRecDepth 100000 in
set_option maxHeartbeats 2000000 in
theorem limPlaces1_in (n : Nat) (hn : 1 ≤ n) (l bs B : Nat) (a1 : Option Addr) (n1 c1 : Nat) (hm1 : n1 ≤ 1000000) (J Jx : List (PlAt n1) → World → Prop) (W : World)
    (hJ : AbidesFrom W.heap.size J)
    (hY : ∀ (pre : List (PlAt n1)) (x : PlAt n1) W1, J pre W1 → pre.length < n1 * 3 → YieldAt Fence.wide (n - 1) Tryz.prog l #[.agg #[.int .i64 ((x.1 / 3 : Nat) : Int), .int .i64 ((x.1 % 3 : Nat) : Int)]] W1 fun e W' =>
      (e = .returned (.bool true) ∧ J (pre ++ [x]) W' ∧ Below B W1 W') ∨ (e = .returned (.bool false) ∧ Jx (pre ++ [x]) W'))
    (hbs : W.cell? ⟨bs, 0, none⟩ = some (.slice a1 n1 c1)) (h0 : J [] W) :
    CallsIn Fence.wide n Tryz.prog 79 #[.func (.yield l) #[] #[], .pointer (some ⟨bs, 0, none⟩)] W fun e W' => (∃ v, e = .returned v) ∧
      ((∃ ys : List (PlAt n1), ys.map (·.1) = List.range (n1 * 3) ∧ J ys W') ∨ (∃ pre : List (PlAt n1), pre.map (·.1) <+: List.range (n1 * 3) ∧ Jx pre W')) := by
  have HY := Lib.hid hY
  have HJ := Lib.hid hJ
  clear hY hJ
  refine callsIn_of_wp Tryz.func79 rfl trivial ?_ rfl
  simp only [Tryz.ntmps79, List.size_toArray, List.length_cons, List.length_nil, Nat.reduceAdd, Nat.reduceSub, Array.replicate_succ, Array.replicate_zero, List.push_toArray, List.append_toArray, List.nil_append, List.cons_append]
  gi_wp2
  gi_loopw [3, 4, 8] (fun v3 v4 i wr => ∃ (c : Nat) (pre : List (PlAt n1)), i = .int .i64 (c : Nat) ∧ c ≤ n1 ∧ Hid (pre.map (·.1) = List.range (c * 3)) ∧ J pre wr) (fun _ _ i _ => (n1 - (intOf i).toNat))
  case atStart => exact ⟨0, [], by rfl, by omega, Lib.hid (by simp), h0⟩
  case round =>
    clear hbs h0
    obtain ⟨c, pre, rfl, hc, Hpre, hJp⟩ := hrel
    by_cases hlt : c < n1
    · have hltz : (c : Int) < (n1 : Int) := by omega
      gi_wp2
      gi_loopw [4, 11] (fun v4 i wr => ∃ (p : Nat) (pre : List (PlAt n1)), i = .int .i64 (p : Nat) ∧ p ≤ 3 ∧ Hid (pre.map (·.1) = List.range (c * 3 + p)) ∧ J pre wr) (fun _ i _ => (3 - (intOf i).toNat))
      case atStart => exact ⟨0, pre, by rfl, by omega, Lib.hid Hpre.out, hJp⟩
      case round =>
        clear Hpre hJp
        obtain ⟨p, pre, rfl, hp, Hpre, hJp⟩ := hrel
        by_cases hlp : p < 3
        · have hlpz : (p : Int) < (3 : Int) := by omega
          have hin : c * 3 + p < n1 * 3 := by omega
          have hpl : pre.length < n1 * 3 := by
            have := congrArg List.length Hpre.out
            simp at this
            omega
          obtain ⟨fn, tmps, assign, body, hy, hRd⟩ := HY.out pre ⟨c * 3 + p, hin⟩ wr hJp hpl
          dsimp only at hy
          rw [show (c * 3 + p) / 3 = c by omega, show (c * 3 + p) % 3 = p by omega] at hy
          have HNX : Hid ((pre ++ [(⟨c * 3 + p, hin⟩ : PlAt n1)]).map (·.1) = List.range (c * 3 + (p + 1))) := Lib.hid (by
            rw [List.map_append, Hpre.out, ← Nat.add_assoc, range_snoc]
            rfl)
          have HPF : Hid ((pre ++ [(⟨c * 3 + p, hin⟩ : PlAt n1)]).map (·.1) <+: List.range (n1 * 3)) := Lib.hid (by
            rw [HNX.out]
            exact range_pre (by omega))
          gi_wp2
          refine hRd.mono ?_
          rintro e' W3 (⟨rfl, hJ3, hk3⟩ | ⟨rfl, hJx3⟩)
          · gi_wp2
            go_roundw
            case rel => exact ⟨p + 1, _, by simp, by omega, HNX, hJ3⟩
            case measure => simp [intOf]; omega
          · gi_wp2
            refine bodyPost_ret (results_none rfl _ _ _) rfl ?_
            exact ⟨⟨_, rfl⟩, .inr ⟨_, HPF.out, hJx3⟩⟩
        · have hlpz : ¬ (p : Int) < (3 : Int) := by omega
          have hp3 : p = 3 := by omega
          subst hp3
          have Hpre2 : Hid (pre.map (·.1) = List.range ((c + 1) * 3)) := Lib.hid (by rw [Hpre.out, show c * 3 + 3 = (c + 1) * 3 by omega])
          gi_wp2
          go_roundw
          case rel => exact ⟨c + 1, pre, by simp, by omega, Hpre2, hJp⟩
          case measure => simp [intOf]; omega
    · have hltz : ¬ (c : Int) < (n1 : Int) := by omega
      have hcn : c = n1 := by omega
      subst hcn
      gi_wp2
      go_end0
      exact ⟨⟨_, rfl⟩, .inl ⟨pre, Hpre.out, hJp⟩⟩
/-- ONE RULE for every loop over the phases of all conductors. -/
theorem range_places {n1 : Nat} (hm1 : n1 ≤ 1000000) {a1 : Option Addr} {c1 : Nat} {g : Operand} {p : Tmp} {assign body : Code} {Q : Exit → Act → World → Prop} {a : Act} {w : World} (bs B : Nat)
    (hg : a.eval g = .func (.func 79) #[] #[.pointer (some ⟨bs, 0, none⟩)]) (hbs : w.cell? ⟨bs, 0, none⟩ = some (.slice a1 n1 c1)) (hB : B ≤ w.heap.size)
    (I : List (PlAt n1) → World → Prop) (Ix : Code → List (PlAt n1) → World → Prop) (hI : ∀ pre W W', I pre W → Nc w.heap.size W W' → I pre W') (hIx : ∀ c pre W W', Ix c pre W → Nc w.heap.size W W' → Ix c pre W') (h0 : I [] w) (Ax : PlAt n1 → Act → World → Prop) (hAx : ∀ x a' W W', Ax x a' W → Nc w.heap.size W W' → Ax x a' W')
    (hassign : ∀ (l : Nat) (pre : List (PlAt n1)) (x : PlAt n1) (W : World) (K : Act → World → Prop), I pre W → (∀ a' W', KeepsFrom w.heap.size W W' → Below B W W' → I pre W' → Ax x a' W' → K a' W') → assign.wpIn (Fence.wide.inRound l) 3 Tryz.prog (Exit.then K (fun _ _ _ => False)) { tmps := a.tmps.setIfInBounds p (.agg #[.int .i64 ((x.1 / 3 : Nat) : Int), .int .i64 ((x.1 % 3 : Nat) : Int)]), defers := [] } W)
    (hbody : ∀ (l : Nat) (pre : List (PlAt n1)) (x : PlAt n1) (a' : Act) (W : World), I pre W → Ax x a' W → pre.length < n1 * 3 → body.wpIn (Fence.wide.inRound l) 3 Tryz.prog (ownPostG w.heap.size (Below B) I Ix (pre ++ [x]) W) a' W)
    (hdone : ∀ (D : Nat) (ys : List (PlAt n1)) (W : World), w.heap.size ≤ D → ys.map (·.1) = List.range (n1 * 3) → I ys W → W.heap[D]? = some (.deferred (some [])) → Q .normal { a with defers := { target := .collected D, args := #[] } :: a.defers } W)
    (hstop : ∀ (D : Nat) (c : Code) (pre : List (PlAt n1)) (W : World), w.heap.size ≤ D → pre.map (·.1) <+: List.range (n1 * 3) → Ix c pre W → W.heap[D]? = some (.deferred (some [])) → c.wpIn Fence.wide 5 Tryz.prog Q { a with defers := { target := .collected D, args := #[] } :: a.defers } W) :
    (Code.rangeFunc g #[p] assign body).wp Tryz.prog Q a w := by
  have ls := World.block_lt_of_cell? w _ hbs
  dsimp only at ls
  refine (wpIn_wide (n := 5)).1 ?_
  refine wpIn_rangeFunc_ownH (F := Fence.wide) (α := PlAt n1) rfl (by omega) (gf := 79) (lb := #[.pointer (some ⟨bs, 0, none⟩)]) hg trivial (enters_of Tryz.func79 (by kernel_rfl) rfl)
    (encs := fun x => #[.agg #[.int .i64 ((x.1 / 3 : Nat) : Int), .int .i64 ((x.1 % 3 : Nat) : Int)]]) (Kp := Below B) (S := fun (ys : List (PlAt n1)) => ys.map (·.1) = List.range (n1 * 3)) (Sp := fun (ys : List (PlAt n1)) => List.IsPrefix (ys.map (fun (x : PlAt n1) => x.1)) (List.range (n1 * 3))) (N := n1 * 3) (w0 := w)
    (fun l J Jx W' hW' hJ _ hY h0 => limPlaces1_in 4 (by omega) l bs B a1 n1 c1 hm1 J Jx W' hJ hY ((hW'.cell (p := ⟨bs, 0, none⟩) ls).trans hbs) h0)
    ?hKt ?hKb (Below.refl _ _) (fun _ => rfl) I Ix ?hI ?hIx h0 Ax ?hAx ?assign ?body ?done hstop
  case hKt => exact fun h1 h2 => h1.trans h2
  case hKb =>
    intro W' l o o' hl ho _ _
    exact ⟨rfl, rfl, rfl, by simp, fun k hk => World.putObj_heap_other (by omega)⟩
  case hI => exact fun pre W1 W2 row h hg hr => hI pre W1 W2 h ⟨row, hg, hr⟩
  case hIx => exact fun c pre W1 W2 row h hg hr => hIx c pre W1 W2 h ⟨row, hg, hr⟩
  case hAx => exact fun x a' _ W1 W2 row h hg hr => hAx x a' W1 W2 h ⟨row, hg, hr⟩
  case assign =>
    intro l pre x W1 K hi hK
    have ht : (#[p].zip #[Value.agg #[.int .i64 ((x.1 / 3 : Nat) : Int), .int .i64 ((x.1 % 3 : Nat) : Int)]]).foldl (fun t (p, v) => t.setIfInBounds p v) a.tmps = a.tmps.setIfInBounds p (.agg #[.int .i64 ((x.1 / 3 : Nat) : Int), .int .i64 ((x.1 % 3 : Nat) : Int)]) := by simp
    rw [ht]
    exact hassign l pre x W1 K hi hK
  case body =>
    intro l pre x a' W1 hl hlr hi hx hlen
    exact hbody l pre x a' W1 hi hx hlen
  case done => exact fun D ys W1 hD hS hi hdf => hdone D ys W1 hD hS hi hdf
end Go.Proofs.YtpkonifeieepfaaGreat
/-
limits.Limit and the reference's.
-/
namespace Go.Proofs.YtpkonifeieepfaaGreat
open Go.RowKit
set_option linter.unusedVariables false
set_option linter.unusedSimpArgs false
def limAt (s : GSite) (k : Nat) : Int := ((s.cons[k]?).map limV).getD 0
noncomputable def limO (s : GSite) (co : Int) : Int := if okCo s co = true then limAt s co.toNat else 0
/-- What Limit does. -/
def LiPost (w : World) (s : GSite) (co : Int) (e : Ending) (w' : World) : Prop := e = .returned (.tuple #[.int .i64 (limO s co), .int .i64 (errO (okCo s co))]) ∧ Below w.heap.size w w'
theorem limO_no {s : GSite} {co : Int} (h : okCo s co = false) : limO s co = 0 := by unfold limO; rw [h]; rfl
theorem limO_yes {s : GSite} {co : Int} (h : okCo s co = true) : limO s co = limAt s co.toNat := by unfold limO; rw [if_pos h]
set_option maxRecDepth 100000 in
set_option maxHeartbeats 4000000 in
theorem limLimit_any (a1 a2 a3 a4 a5 : Option Addr) (n1 c1 n2 c2 n3 c3 n4 c4 n5 c5 : Nat) (s : GSite) (co : Int) (w : World) (HS : Hid (RdSite w a1 a2 a3 a4 a5 n1 n2 n3 n4 n5 s)) :
    Calls Tryz.prog 9 #[.agg #[.slice a1 n1 c1, .slice a2 n2 c2, .slice a3 n3 c3, .slice a4 n4 c4, .slice a5 n5 c5], .int .i64 co] w fun e w' => LiPost w s co e w' := by
  obtain ⟨m1, m2, m3, m4, m5⟩ : n1 ≤ 9223372036854775807 ∧ n2 ≤ 9223372036854775807 ∧ n3 ≤ 9223372036854775807 ∧ n4 ≤ 9223372036854775807 ∧ n5 ≤ 9223372036854775807 := ⟨HS.out.m1, HS.out.m2, HS.out.m3, HS.out.m4, HS.out.m5⟩
  have hW0 : Below w.heap.size w (w.alloc (.cells #[.slice a1 n1 c1, .slice a2 n2 c2, .slice a3 n3 c3, .slice a4 n4 c4, .slice a5 n5 c5] 28)) := (Below.refl _ w).alloc (Nat.le_refl _) _
  have HV := Lib.hid (stValid_any a1 a2 a3 a4 a5 n1 c1 n2 c2 n3 c3 n4 c4 n5 c5 s (w.alloc (.cells #[.slice a1 n1 c1, .slice a2 n2 c2, .slice a3 n3 c3, .slice a4 n4 c4, .slice a5 n5 c5] 28)) (Lib.hid (HS.out.keep hW0)))
  go_enter Tryz.func9, Tryz.ntmps9
  go_wp2_with fail
  refine HV.out.mono ?_
  rintro e w1 ⟨rfl, hb1⟩
  have hb : Below w.heap.size w w1 := below_then hW0 hb1
  have hs1 : w.heap.size + 1 ≤ w1.heap.size := by have := hb1.size; rw [World.size_alloc] at this; exact this
  have q0 : w1.cell? ⟨w.heap.size, 0, none⟩ = some (.slice a1 n1 c1) := (hb1.cell (p := ⟨w.heap.size, 0, none⟩) (by simp)).trans (by go_simp)
  have q1 : w1.cell? ⟨w.heap.size, 1, none⟩ = some (.slice a2 n2 c2) := (hb1.cell (p := ⟨w.heap.size, 1, none⟩) (by simp)).trans (by go_simp)
  have q2 : w1.cell? ⟨w.heap.size, 2, none⟩ = some (.slice a3 n3 c3) := (hb1.cell (p := ⟨w.heap.size, 2, none⟩) (by simp)).trans (by go_simp)
  have q3 : w1.cell? ⟨w.heap.size, 3, none⟩ = some (.slice a4 n4 c4) := (hb1.cell (p := ⟨w.heap.size, 3, none⟩) (by simp)).trans (by go_simp)
  have q4 : w1.cell? ⟨w.heap.size, 4, none⟩ = some (.slice a5 n5 c5) := (hb1.cell (p := ⟨w.heap.size, 4, none⟩) (by simp)).trans (by go_simp)
  have HB := Lib.hid hb
  have HS1 := Lib.hid (HS.out.keep hb)
  have HR1 := Lib.hid HS.out.r1
  clear hb hb1 HV hW0 HS
  have hs1b : w.heap.size < w1.heap.size := by omega
  cases hok : okSB keyL s
  · have HN : Hid (okCo s co = false) := Lib.hid (okCo_no1 hok)
    go_wp2_with fail
    refine bodyPost_ret (results_tmp2 rfl _ _ _) rfl ?_
    exact ⟨by rw [HN.out, limO_no HN.out]; rfl, HB.out⟩
  by_cases hlo : 0 ≤ co
  case neg =>
    have HN : Hid (okCo s co = false) := Lib.hid (okCo_no2 (fun h => hlo h.1))
    have hlt : co < 0 := by omega
    clear hok hlo
    go_wp2_with fail
    refine bodyPost_ret (results_tmp2 rfl _ _ _) rfl ?_
    exact ⟨by rw [HN.out, limO_no HN.out]; rfl, HB.out⟩
  have hlt : ¬ co < 0 := by omega
  by_cases hhi : co < (n1 : Int)
  case neg =>
    have HN : Hid (okCo s co = false) := Lib.hid (okCo_no2 (fun h => hhi (by rw [← HS1.out.l1]; exact h.2)))
    clear hok hlo
    go_wp2_with fail
    refine bodyPost_ret (results_tmp2 rfl _ _ _) rfl ?_
    exact ⟨by rw [HN.out, limO_no HN.out]; rfl, HB.out⟩
  have HY : Hid (okCo s co = true) := Lib.hid (okCo_yes hok ⟨hlo, by rw [HS1.out.l1]; exact hhi⟩)
  have HOK := Lib.hid (okSB_iff.1 hok)
  obtain ⟨k, rfl⟩ := Int.eq_ofNat_of_zero_le hlo
  have hk : k < s.cons.length := by rw [HS1.out.l1]; omega
  obtain ⟨b, off, g, hA, hbl, hgx, x0, x1, x2, x3, x4, x5, x6, x7, x8, x9, x10⟩ := rdCon_at HS1.out.r1 hk
  have HG : Hid (limV g = limO s (k : Int)) := Lib.hid (by rw [limO_yes HY.out, Int.toNat_natCast]; unfold limAt; rw [hgx]; rfl)
  have HC := Lib.hid (limOf_ok g (HOK.out.okC hgx) w1)
  subst hA
  clear hok hlo hgx
  go_wp2_with fail
  refine HC.out.mono ?_
  rintro e w2 ⟨rfl, hb2⟩
  have HB2 := Lib.hid (below_then HB.out hb2)
  clear hb2
  go_wp2_with fail
  refine bodyPost_ret (results_tmp2 rfl _ _ _) rfl ?_
  exact ⟨by rw [HY.out, ← HG.out]; rfl, HB2.out⟩
end Go.Proofs.YtpkonifeieepfaaGreat
/-
Check: plain words, its result's cells, what holds between two phases.
-/
namespace Go.Proofs.YtpkonifeieepfaaGreat
open Go.RowKit Go.Shelf
set_option linter.unusedVariables false
set_option linter.unusedSimpArgs false
/-- Phase t % 3 of conductor t / 3 carries too much. -/
def chkL (s : GSite) (xs : List Int) (t : Nat) : Bool := decide (limAt s (t / 3) < loadS s (fI xs) s.chgs.length t)
noncomputable def vioO (s : GSite) (xs : List Int) : Option Nat := if loadB s xs = true then (List.range (s.cons.length * 3)).find? (chkL s xs) else none
def vioV (s : GSite) (xs : List Int) : Option Nat → Value
  | none => .agg #[.int .i64 0, .int .i64 0, .int .i64 0]
  | some t => .agg #[.int .i64 ((t / 3 : Nat) : Int), .int .i64 ((t % 3 : Nat) : Int), .int .i64 (loadS s (fI xs) s.chgs.length t)]
/-- What Check does. -/
def ChPost (w : World) (s : GSite) (xs : List Int) (e : Ending) (w' : World) : Prop := e = .returned (.tuple #[vioV s xs (vioO s xs), .bool (vioO s xs).isSome, .int .i64 (errO (loadB s xs))]) ∧ Below w.heap.size w w'
theorem vioO_no {s : GSite} {xs : List Int} (h : loadB s xs = false) : vioO s xs = none := by unfold vioO; rw [h]; rfl
theorem vioO_all {s : GSite} {xs : List Int} (h : loadB s xs = true) (ha : ∀ t, t < s.cons.length * 3 → chkL s xs t = false) : vioO s xs = none := by
  unfold vioO
  rw [if_pos h, List.find?_eq_none]
  intro t ht
  rw [ha t (List.mem_range.1 ht)]
  simp
theorem vioO_at {s : GSite} {xs : List Int} (h : loadB s xs = true) {t : Nat} (ht : t < s.cons.length * 3) (ha : ∀ i, i < t → chkL s xs i = false) (hc : chkL s xs t = true) : vioO s xs = some t := by
  unfold vioO
  rw [if_pos h]
  obtain ⟨d, hd⟩ := Nat.le.dest (Nat.succ_le_of_lt ht)
  have e1 : List.find? (chkL s xs) (List.range t) = none := by
    rw [List.find?_eq_none]
    intro i hi
    rw [ha i (List.mem_range.1 hi)]
    simp
  have e2 : List.find? (chkL s xs) (List.range (t + 1)) = some t := by
    rw [List.range_succ, List.find?_append, e1]
    simp [hc]
  obtain ⟨rest, hr⟩ := range_pre (m := t + 1) (n := s.cons.length * 3) ht
  rw [← hr, List.find?_append, e2]
  rfl
theorem results_c3 {P : Program} {fn : Func} {a b c : Tmp} {ta tb tc : TypeId} {tmps : Array Value} {ba bb bc : Nat} {u v x : Value} {w : World} (h : fn.results = #[.cell a ta, .cell b tb, .cell c tc]) (ha : tmps.getD a undef = .pointer (some ⟨ba, 0, none⟩)) (hb : tmps.getD b undef = .pointer (some ⟨bb, 0, none⟩)) (hc : tmps.getD c undef = .pointer (some ⟨bc, 0, none⟩))
    (hla : (loadVar ta ⟨ba, 0, none⟩).run P w = .ok u w) (hlb : (loadVar tb ⟨bb, 0, none⟩).run P w = .ok v w) (hlc : (loadVar tc ⟨bc, 0, none⟩).run P w = .ok x w) :
    (results fn tmps).run P w = .ok (.tuple #[u, v, x]) w := by
  have ha' : tmps[a]?.getD undef = .pointer (some ⟨ba, 0, none⟩) := by simpa using ha
  have hb' : tmps[b]?.getD undef = .pointer (some ⟨bb, 0, none⟩) := by simpa using hb
  have hc' : tmps[c]?.getD undef = .pointer (some ⟨bc, 0, none⟩) := by simpa using hc
  simp [results, h, ha', hb', hc', hla, hlb, hlc, asAddr]
def v3F (x y z : Int) (i : Nat) : Value := if i = 0 then .int .i64 x else if i = 1 then .int .i64 y else .int .i64 z
theorem load_viol {W : World} {b : Nat} {x y z : Int} (h : Own W b 58 3 (v3F x y z)) : (loadVar 58 ⟨b, 0, none⟩).run Tryz.prog W = .ok (.agg #[.int .i64 x, .int .i64 y, .int .i64 z]) W := by
  have c0 : W.cell? ⟨b, 0, none⟩ = some (.int .i64 x) := h.cell (i := 0) (by omega)
  have c1 : W.cell? ⟨b, 1, none⟩ = some (.int .i64 y) := h.cell (i := 1) (by omega)
  have c2 : W.cell? ⟨b, 2, none⟩ = some (.int .i64 z) := h.cell (i := 2) (by omega)
  go_simp
theorem load_errno {W : World} {b : Nat} {v : Int} (h : Own W b 35 1 (fun _ => .int .i64 v)) : (loadVar 35 ⟨b, 0, none⟩).run Tryz.prog W = .ok (.int .i64 v) W := by
  have c0 := h.cell (i := 0) (by omega)
  go_simp
theorem Own.set3 {w : World} {g : Nat} {t : TypeId} {a b c : Int} (h : Own w g t 3 (v3F a b c)) (x y z : Int) : Own (((w.setCell ⟨g, 0, none⟩ (.int .i64 x)).setCell ⟨g, 1, none⟩ (.int .i64 y)).setCell ⟨g, 2, none⟩ (.int .i64 z)) g t 3 (v3F x y z) :=
  (((h.set 0 _).set 1 _).set 2 _).congr (fun i hi => by
    rcases i with _ | _ | _ | i
    · simp [v3F]
    · simp [v3F]
    · simp [v3F]
    · omega)
theorem Own.three (w : World) (t : TypeId) (x y z : Int) : Own (w.alloc (.cells #[.int .i64 x, .int .i64 y, .int .i64 z] t)) w.heap.size t 3 (v3F x y z) := by
  refine (Own.new w t #[.int .i64 x, .int .i64 y, .int .i64 z] undef).congr (fun i hi => ?_)
  have hi' : i < 3 := hi
  rcases i with _ | _ | _ | i
  all_goals first | rfl | omega
theorem Rd.ncL {α : Type} {sz : Nat} {enc : α → List Value} {xs : List α} {B : Nat} {W W' : World} {A : Option Addr} (hr : Rd sz enc W A xs) (hn : Nc B W W') : Rd sz enc W' A xs := by
  intro h0
  obtain ⟨b, off, hA, hlt, hc⟩ := hr h0
  refine ⟨b, off, hA, ?_, fun k x hx j v hv => cell_nc1 (hc k x hx j v hv) hn⟩
  obtain ⟨row, hg, _⟩ := hn
  exact Nat.lt_of_lt_of_le hlt hg.size
/-- One load, read. -/
theorem load_at {w : World} {A : Option Addr} {n : Nat} {F : Nat → Int} (h : Rd 3 enc3 w A ((List.range n).map (row3 F))) {k p : Nat} (hk : k < n) (hp : p < 3) : ∃ b off, A = some ⟨b, off, none⟩ ∧ b < w.heap.size ∧ w.cell? ⟨b, off + k * 3 + p, none⟩ = some (.int .i64 (F (k * 3 + p))) := by
  obtain ⟨b, off, e, hA, hb, hx, hc⟩ := h.at_ (k := k) (by simpa using hk)
  rw [List.getElem?_map, List.getElem?_range hk] at hx
  injection hx with hx
  subst hx
  refine ⟨b, off, hA, hb, ?_⟩
  match p, hp with
  | 0, _ => exact hc 0 _ rfl
  | 1, _ => exact hc 1 _ rfl
  | 2, _ => exact hc 2 _ rfl
/-- What holds between two phases: the site's box, the three result cells, the loads. -/
structure ChM (w W : World) (a1 : Option Addr) (n1 c1 : Nat) (a2 : Option Addr) (n2 c2 : Nat) (a3 : Option Addr) (n3 c3 : Nat) (a4 : Option Addr) (n4 c4 : Nat) (a5 : Option Addr) (n5 c5 : Nat) (X : Nat) (aL : Option Addr) (cL : Nat) (F : Nat → Int) (r0 r1 r2 : Int) (rb : Bool) (re : Int) : Prop where
  k0 : W.cell? ⟨w.heap.size, 0, none⟩ = some (.slice a1 n1 c1)
  k1 : W.cell? ⟨w.heap.size, 1, none⟩ = some (.slice a2 n2 c2)
  k2 : W.cell? ⟨w.heap.size, 2, none⟩ = some (.slice a3 n3 c3)
  k3 : W.cell? ⟨w.heap.size, 3, none⟩ = some (.slice a4 n4 c4)
  k4 : W.cell? ⟨w.heap.size, 4, none⟩ = some (.slice a5 n5 c5)
  o1 : Own W (w.heap.size + 1) 58 3 (v3F r0 r1 r2)
  o2 : Own W (w.heap.size + 2) 4 1 (fun _ => .bool rb)
  o3 : Own W (w.heap.size + 3) 35 1 (fun _ => .int .i64 re)
  kl : W.cell? ⟨X, 0, none⟩ = some (.slice aL n1 cL)
  rl : Rd 3 enc3 W aL ((List.range n1).map (row3 F))
  bel : Below w.heap.size w W
section
variable {w W W' : World} {a1 : Option Addr} {n1 c1 : Nat} {a2 : Option Addr} {n2 c2 : Nat} {a3 : Option Addr} {n3 c3 : Nat} {a4 : Option Addr} {n4 c4 : Nat} {a5 : Option Addr} {n5 c5 : Nat} {X : Nat} {aL : Option Addr} {cL : Nat} {F : Nat → Int} {r0 r1 r2 : Int} {rb : Bool} {re : Int}
theorem ChM.nc (h : ChM w W a1 n1 c1 a2 n2 c2 a3 n3 c3 a4 n4 c4 a5 n5 c5 X aL cL F r0 r1 r2 rb re) {B : Nat} (hn : Nc B W W') (hB : w.heap.size ≤ B) : ChM w W' a1 n1 c1 a2 n2 c2 a3 n3 c3 a4 n4 c4 a5 n5 c5 X aL cL F r0 r1 r2 rb re :=
  ⟨cell_nc1 h.k0 hn, cell_nc1 h.k1 hn, cell_nc1 h.k2 hn, cell_nc1 h.k3 hn, cell_nc1 h.k4 hn, h.o1.nc hn, h.o2.nc hn, h.o3.nc hn, cell_nc1 h.kl hn, h.rl.ncL hn, below_nc h.bel (Nat.le_refl _) hn hB⟩
theorem ChM.keep (h : ChM w W a1 n1 c1 a2 n2 c2 a3 n3 c3 a4 n4 c4 a5 n5 c5 X aL cL F r0 r1 r2 rb re) (hb : Below W.heap.size W W') : ChM w W' a1 n1 c1 a2 n2 c2 a3 n3 c3 a4 n4 c4 a5 n5 c5 X aL cL F r0 r1 r2 rb re :=
  have cl : ∀ {p : Addr} {v : Value}, W.cell? p = some v → W'.cell? p = some v := fun {p v} hp => (hb.cell (World.block_lt_of_cell? W p hp)).trans hp
  ⟨cl h.k0, cl h.k1, cl h.k2, cl h.k3, cl h.k4, h.o1.keep hb h.o1.lt, h.o2.keep hb h.o2.lt, h.o3.keep hb h.o3.lt, cl h.kl, h.rl.keep hb, below_then h.bel hb⟩
end
/-- What is left once the result is written. -/
structure ChR (w W : World) (r0 r1 r2 : Int) (rb : Bool) (re : Int) : Prop where
  o1 : Own W (w.heap.size + 1) 58 3 (v3F r0 r1 r2)
  o2 : Own W (w.heap.size + 2) 4 1 (fun _ => .bool rb)
  o3 : Own W (w.heap.size + 3) 35 1 (fun _ => .int .i64 re)
  bel : Below w.heap.size w W
theorem ChR.nc {w W W' : World} {r0 r1 r2 : Int} {rb : Bool} {re : Int} (h : ChR w W r0 r1 r2 rb re) {B : Nat} (hn : Nc B W W') (hB : w.heap.size ≤ B) : ChR w W' r0 r1 r2 rb re :=
  ⟨h.o1.nc hn, h.o2.nc hn, h.o3.nc hn, below_nc h.bel (Nat.le_refl _) hn hB⟩
theorem ChR.alloc {w W : World} {r0 r1 r2 : Int} {rb : Bool} {re : Int} (h : ChR w W r0 r1 r2 rb re) (o : Obj) : ChR w (W.alloc o) r0 r1 r2 rb re :=
  ⟨h.o1.alloc o, h.o2.alloc o, h.o3.alloc o, h.bel.alloc h.bel.size o⟩
/-- The result is read at the end. -/
theorem ChR.leave {w W W3 : World} {r0 r1 r2 : Int} {rb : Bool} {re : Int} {B : Nat} (h : ChR w W r0 r1 r2 rb re) (hT : Taken B W W3) (hB : w.heap.size ≤ B) : ChR w W3 r0 r1 r2 rb re :=
  ⟨hT.own h.o1, hT.own h.o2, hT.own h.o3, h.bel.trans (taken_below1 hT hB)⟩
/-- The world in which the result is written. -/
abbrev chW (w W : World) (r0 r1 r2 : Int) (rb : Bool) (re : Int) : World := ((((W.setCell ⟨w.heap.size + 1, 0, none⟩ (.int .i64 r0)).setCell ⟨w.heap.size + 1, 1, none⟩ (.int .i64 r1)).setCell ⟨w.heap.size + 1, 2, none⟩ (.int .i64 r2)).setCell ⟨w.heap.size + 2, 0, none⟩ (.bool rb)).setCell ⟨w.heap.size + 3, 0, none⟩ (.int .i64 re)
theorem chW_mod (w W : World) (r0 r1 r2 : Int) (rb : Bool) (re : Int) : Mod (fun j => w.heap.size + 1 ≤ j ∧ j ≤ w.heap.size + 3) W (chW w W r0 r1 r2 rb re) := by
  have h1 : w.heap.size + 1 ≤ w.heap.size + 1 ∧ w.heap.size + 1 ≤ w.heap.size + 3 := by omega
  have h2 : w.heap.size + 1 ≤ w.heap.size + 2 ∧ w.heap.size + 2 ≤ w.heap.size + 3 := by omega
  have h3 : w.heap.size + 1 ≤ w.heap.size + 3 ∧ w.heap.size + 3 ≤ w.heap.size + 3 := by omega
  exact (((((Mod.refl _ W).setCell (p := ⟨w.heap.size + 1, 0, none⟩) (.inl h1) _).setCell (p := ⟨w.heap.size + 1, 1, none⟩) (.inl h1) _).setCell (p := ⟨w.heap.size + 1, 2, none⟩) (.inl h1) _).setCell (p := ⟨w.heap.size + 2, 0, none⟩) (.inl h2) _).setCell (p := ⟨w.heap.size + 3, 0, none⟩) (.inl h3) _
theorem chR_write {w W : World} {q0 q1 q2 : Int} {qb : Bool} {qe : Int} (h1 : Own W (w.heap.size + 1) 58 3 (v3F q0 q1 q2)) (h2 : Own W (w.heap.size + 2) 4 1 (fun _ => .bool qb)) (h3 : Own W (w.heap.size + 3) 35 1 (fun _ => .int .i64 qe)) (hb : Below w.heap.size w W) (r0 r1 r2 : Int) (rb : Bool) (re : Int) : ChR w (chW w W r0 r1 r2 rb re) r0 r1 r2 rb re := by
  have z : w.heap.size + 3 < W.heap.size := h3.lt
  refine ⟨?_, ?_, ?_, hb.trans ((chW_mod w W r0 r1 r2 rb re).below hb.size (fun j hj h => by omega))⟩
  · exact ((h1.set3 r0 r1 r2).other (by show w.heap.size + 1 ≠ w.heap.size + 2; omega) _).other (by show w.heap.size + 1 ≠ w.heap.size + 3; omega) _
  · refine ((((h2.other (by show w.heap.size + 2 ≠ w.heap.size + 1; omega) _).other (by show w.heap.size + 2 ≠ w.heap.size + 1; omega) _).other (by show w.heap.size + 2 ≠ w.heap.size + 1; omega) _).set1 _).other (by show w.heap.size + 2 ≠ w.heap.size + 3; omega) _
  · exact ((((h3.other (by show w.heap.size + 3 ≠ w.heap.size + 1; omega) _).other (by show w.heap.size + 3 ≠ w.heap.size + 1; omega) _).other (by show w.heap.size + 3 ≠ w.heap.size + 1; omega) _).other (by show w.heap.size + 3 ≠ w.heap.size + 2; omega) _).set1 _
theorem keepsFrom_alloc (W : World) (o : Obj) (B : Nat) : KeepsFrom B W (W.alloc o) :=
  ⟨by simp, fun q o' _ ho _ => by rw [← ho]; exact ((Below.refl _ W).alloc (Nat.le_refl _) o).block q (Array.getElem?_eq_some_iff.1 ho).1⟩
theorem keepsFrom_below {W W' : World} (h : Below W.heap.size W W') {B : Nat} : KeepsFrom B W W' :=
  ⟨h.size, fun q o _ ho _ => by rw [← ho]; exact h.block q (Array.getElem?_eq_some_iff.1 ho).1⟩
theorem below_drew (W : World) : Below W.heap.size W W.drew := (Mod.refl (fun _ => False) W).drew.below (Nat.le_refl _) (fun _ _ h => h.elim)
theorem pre_range {n : Nat} {l : List Nat} (h : l <+: List.range n) : l = List.range l.length := by
  rw [List.prefix_iff_eq_take.1 h, List.take_range]
  simp
theorem pre_len {n : Nat} {l : List Nat} (h : l <+: List.range n) : l.length ≤ n := by
  have := h.length_le
  simpa using this
theorem keepsFrom_ch {w W : World} {qe : Int} (h3 : Own W (w.heap.size + 3) 35 1 (fun _ => .int .i64 qe)) (B : Nat) (hB : w.heap.size + 4 ≤ B) (r0 r1 r2 : Int) (rb : Bool) (re : Int) : KeepsFrom B W (chW w W r0 r1 r2 rb re) := by
  have hm := chW_mod w W r0 r1 r2 rb re
  refine ⟨hm.size, fun q o hq ho hoc => ?_⟩
  rw [← ho]
  exact hm.block q (Array.getElem?_eq_some_iff.1 ho).1 (by omega)
end Go.Proofs.YtpkonifeieepfaaGreat
/-
limits.Check, walked.
-/
namespace Go.Proofs.YtpkonifeieepfaaGreat
open Go.RowKit Go.Shelf
attribute [local go_sem] Oper.semAt_some
set_option linter.unusedVariables false
set_option linter.unusedSimpArgs false
/-- The frame in which the body begins. -/
def LcA (w : World) (M : Nat) (n1 : Nat) (x : PlAt n1) (a' : Act) (W : World) : Prop := ∃ X u0 u1 u3 u8 u10 u11 u12 u13 u14 u15 u16 u17 u18 u19 u20 u21 u22 u23 u24 u25 u26 u27 u28 u29 u30 u31 u32 u33 u34 u35 u36 u37 u38 u39 u40 u41 u42 u43 u44 u45 u46, a' = ⟨List.toArray (u0 :: u1 :: (.pointer (some ⟨w.heap.size, 0, none⟩)) :: u3 :: (.pointer (some ⟨w.heap.size + 1, 0, none⟩)) :: (.pointer (some ⟨w.heap.size + 2, 0, none⟩)) :: (.pointer (some ⟨w.heap.size + 3, 0, none⟩)) :: (.pointer (some ⟨M, 0, none⟩)) :: u8 :: (.pointer (some ⟨X, 0, none⟩)) :: u10 :: u11 :: u12 :: u13 :: u14 :: u15 :: u16 :: u17 :: u18 :: u19 :: u20 :: u21 :: u22 :: u23 :: u24 :: u25 :: u26 :: u27 :: u28 :: u29 :: u30 :: u31 :: u32 :: u33 :: u34 :: u35 :: u36 :: u37 :: u38 :: u39 :: u40 :: u41 :: u42 :: u43 :: u44 :: u45 :: u46 :: []), []⟩ ∧ W.cell? ⟨X, 0, none⟩ = some (.int .i64 ((x.1 / 3 : Nat) : Int)) ∧ W.cell? ⟨X, 1, none⟩ = some (.int .i64 ((x.1 % 3 : Nat) : Int))
set_option maxRecDepth 100000 in
set_option maxHeartbeats 8000000 in
theorem limCheck_any (a1 a2 a3 a4 a5 : Option Addr) (n1 c1 n2 c2 n3 c3 n4 c4 n5 c5 : Nat) (aA : Option Addr) (nA cA : Nat) (s : GSite) (xs : List Int) (w : World) (HS : Hid (RdSite w a1 a2 a3 a4 a5 n1 n2 n3 n4 n5 s)) (HX : Hid (Rd 1 encI w aA xs)) (HNA : Hid (xs.length = nA)) (hnA : nA ≤ 9223372036854775807) :
    Calls Tryz.prog 16 #[.agg #[.slice a1 n1 c1, .slice a2 n2 c2, .slice a3 n3 c3, .slice a4 n4 c4, .slice a5 n5 c5], .slice aA nA cA] w fun e w' => ChPost w s xs e w' := by
  obtain ⟨m1, m2, m3, m4, m5⟩ : n1 ≤ 9223372036854775807 ∧ n2 ≤ 9223372036854775807 ∧ n3 ≤ 9223372036854775807 ∧ n4 ≤ 9223372036854775807 ∧ n5 ≤ 9223372036854775807 := ⟨HS.out.m1, HS.out.m2, HS.out.m3, HS.out.m4, HS.out.m5⟩
  obtain ⟨W0, hW0⟩ : ∃ W0, W0 = ((((w.alloc (.cells #[.slice a1 n1 c1, .slice a2 n2 c2, .slice a3 n3 c3, .slice a4 n4 c4, .slice a5 n5 c5] 28)).alloc (.cells #[.int .i64 0, .int .i64 0, .int .i64 0] 58)).alloc (.cells #[.bool false] 4)).alloc (.cells #[.int .i64 0] 35)) := ⟨_, rfl⟩
  have b0 : Below w.heap.size w W0 := by rw [hW0]; exact ((((Below.refl _ w).alloc (Nat.le_refl _) _).alloc (by simp) _).alloc (by simp; omega) _).alloc (by simp; omega) _
  have q0 : W0.cell? ⟨w.heap.size, 0, none⟩ = some (.slice a1 n1 c1) := by rw [hW0]; go_simp
  have q1 : W0.cell? ⟨w.heap.size, 1, none⟩ = some (.slice a2 n2 c2) := by rw [hW0]; go_simp
  have q2 : W0.cell? ⟨w.heap.size, 2, none⟩ = some (.slice a3 n3 c3) := by rw [hW0]; go_simp
  have q3 : W0.cell? ⟨w.heap.size, 3, none⟩ = some (.slice a4 n4 c4) := by rw [hW0]; go_simp
  have q4 : W0.cell? ⟨w.heap.size, 4, none⟩ = some (.slice a5 n5 c5) := by rw [hW0]; go_simp
  have o1 : Own W0 (w.heap.size + 1) 58 3 (v3F 0 0 0) := by
    have h := Own.three (w.alloc (.cells #[.slice a1 n1 c1, .slice a2 n2 c2, .slice a3 n3 c3, .slice a4 n4 c4, .slice a5 n5 c5] 28)) 58 0 0 0
    rw [World.size_alloc] at h
    rw [hW0]; exact (h.alloc _).alloc _
  have o2 : Own W0 (w.heap.size + 2) 4 1 (fun _ => .bool false) := by
    have h := Own.one ((w.alloc (.cells #[.slice a1 n1 c1, .slice a2 n2 c2, .slice a3 n3 c3, .slice a4 n4 c4, .slice a5 n5 c5] 28)).alloc (.cells #[.int .i64 0, .int .i64 0, .int .i64 0] 58)) 4 (.bool false)
    rw [World.size_alloc, World.size_alloc] at h
    rw [hW0]; exact h.alloc _
  have o3 : Own W0 (w.heap.size + 3) 35 1 (fun _ => .int .i64 0) := by
    have h := Own.one (((w.alloc (.cells #[.slice a1 n1 c1, .slice a2 n2 c2, .slice a3 n3 c3, .slice a4 n4 c4, .slice a5 n5 c5] 28)).alloc (.cells #[.int .i64 0, .int .i64 0, .int .i64 0] 58)).alloc (.cells #[.bool false] 4)) 35 (.int .i64 0)
    rw [World.size_alloc, World.size_alloc, World.size_alloc] at h
    rw [hW0]; exact h
  have z0 : W0.heap.size = w.heap.size + 4 := by rw [hW0]; simp
  have HV := Lib.hid (trLoads_any a1 n1 c1 a2 n2 c2 a3 n3 c3 a4 n4 c4 a5 n5 c5 aA nA cA s xs W0 (Lib.hid (HS.out.keep b0)) (Lib.hid (HX.out.keep b0)) HNA hnA)
  have HW0 := Lib.hid hW0
  have HZ0 := Lib.hid z0
  clear hW0 z0
  refine (callsIn_wide (n := 5)).1 ?_
  refine callsIn_of_wp_marks Tryz.func16 rfl trivial ?_ rfl
  refine wpIn_wide.2 ?_
  simp only [Tryz.ntmps16, List.size_toArray, List.length_cons, List.length_nil, Nat.reduceAdd, Nat.reduceSub, Array.replicate_succ, Array.replicate_zero, List.push_toArray, List.append_toArray, List.nil_append, List.cons_append]
  rw [HW0.out] at HV
  go_wp2_with fail
  refine HV.out.mono ?_
  rw [← HW0.out]
  rintro e w1 ⟨aL, cL, rfl, hrl, hb1⟩
  have bb1 : Below w.heap.size w w1 := below_then b0 hb1
  have HB1 := Lib.hid hb1
  have HBB := Lib.hid bb1
  have HZ1 : Hid (w.heap.size + 4 ≤ w1.heap.size) := Lib.hid (by have := hb1.size; have := HZ0.out; omega)
  have HO1 := Lib.hid (o1.keep hb1 o1.lt)
  have HO2 := Lib.hid (o2.keep hb1 o2.lt)
  have HO3 := Lib.hid (o3.keep hb1 o3.lt)
  have p0 := (hb1.cell (p := ⟨w.heap.size, 0, none⟩) (World.block_lt_of_cell? _ _ q0)).trans q0
  have p1 := (hb1.cell (p := ⟨w.heap.size, 1, none⟩) (World.block_lt_of_cell? _ _ q1)).trans q1
  have p2 := (hb1.cell (p := ⟨w.heap.size, 2, none⟩) (World.block_lt_of_cell? _ _ q2)).trans q2
  have p3 := (hb1.cell (p := ⟨w.heap.size, 3, none⟩) (World.block_lt_of_cell? _ _ q3)).trans q3
  have p4 := (hb1.cell (p := ⟨w.heap.size, 4, none⟩) (World.block_lt_of_cell? _ _ q4)).trans q4
  have HRL := Lib.hid hrl
  clear hrl HV b0 hb1 bb1 o1 o2 o3 q0 q1 q2 q3 q4 HW0
  have c10 : w1.cell? ⟨w.heap.size + 1, 0, none⟩ = some (.int .i64 0) := HO1.out.cell (i := 0) (by omega)
  have c11 : w1.cell? ⟨w.heap.size + 1, 1, none⟩ = some (.int .i64 0) := HO1.out.cell (i := 1) (by omega)
  have c12 : w1.cell? ⟨w.heap.size + 1, 2, none⟩ = some (.int .i64 0) := HO1.out.cell (i := 2) (by omega)
  have c20 := HO2.out.cell (i := 0) (by omega)
  have c30 := HO3.out.cell (i := 0) (by omega)
  have f10 := HO1.out.frozen 0
  have f11 := HO1.out.frozen 1
  have f12 := HO1.out.frozen 2
  have f2 := HO2.out.frozen 0
  have f3 := HO3.out.frozen 0
  have l1 := HO1.out.lt
  have l2 := HO2.out.lt
  have l3 := HO3.out.lt
  cases hlb : loadB s xs
  · have HN : Hid (vioO s xs = none) := Lib.hid (vioO_no hlb)
    generalize (loadsO s xs).length = L
    have he : errO false = 1 := rfl
    have HR := Lib.hid ((chR_write HO1.out HO2.out HO3.out HBB.out 0 0 0 false 1).alloc (.cells #[.slice aL L cL] 32))
    go_wp2_with fail
    refine leaves_marks (B := w.heap.size + 4) [] _ (Marks.nil _ _) (fun W3 hT => ?_)
    have hr := HR.out.leave hT (by omega)
    refine ⟨_, results_c3 (a := 4) (b := 5) (c := 6) (ta := 58) (tb := 4) (tc := 35) (ba := w.heap.size + 1) (bb := w.heap.size + 2) (bc := w.heap.size + 3) (by kernel_rfl) rfl rfl rfl (load_viol hr.o1) (load_bool hr.o2) (load_errno hr.o3), by rw [HN.out, hlb]; rfl, hr.bel⟩
  have HLB := Lib.hid hlb
  have hok : okSB keyL s = true := by
    cases h : okSB keyL s
    · rw [loadB_no1 h] at hlb; cases hlb
    · rfl
  have HOK := Lib.hid (okSB_iff.1 hok)
  have hcl : s.cons.length = n1 := HS.out.l1
  have hn16 : n1 ≤ 16 := by have := HOK.out.n2; omega
  have HRL2 : Hid (Rd 3 enc3 w1 aL ((List.range n1).map (row3 (loadS s (fI xs) s.chgs.length)))) := Lib.hid (by
    have h := HRL.out
    rw [loadsO_yes hlb] at h
    unfold loadsOf at h
    rw [hcl] at h
    exact h)
  have hL : (loadsO s xs).length = n1 := by rw [loadsO_yes hlb, loadsOf_len, hcl]
  have HCL := Lib.hid hcl
  rw [hL]
  have he : errO true = 0 := rfl
  clear HRL hok hcl hL hlb c10 c11 c12 c20 c30 f10 f11 f12 f2 f3 l1 l2 l3
  have l0 : w.heap.size < w1.heap.size := by have := HZ1.out; omega
  go_wp2_with fail
  obtain ⟨w2, hw2⟩ : ∃ w2, w2 = w1.alloc (.cells #[.slice aL n1 cL] 32) := ⟨_, rfl⟩
  have b2 : Below w1.heap.size w1 w2 := by rw [hw2]; exact (Below.refl _ w1).alloc (Nat.le_refl _) _
  have hz2 : w2.heap.size = w1.heap.size + 1 := by rw [hw2]; simp
  have kl2 : w2.cell? ⟨w1.heap.size, 0, none⟩ = some (.slice aL n1 cL) := by rw [hw2]; go_simp
  have HM2 : Hid (ChM w w2 a1 n1 c1 a2 n2 c2 a3 n3 c3 a4 n4 c4 a5 n5 c5 w1.heap.size aL cL (loadS s (fI xs) s.chgs.length) 0 0 0 false 0) := Lib.hid
    ⟨(b2.cell (p := ⟨w.heap.size, 0, none⟩) (by dsimp only; omega)).trans p0, (b2.cell (p := ⟨w.heap.size, 1, none⟩) (by dsimp only; omega)).trans p1, (b2.cell (p := ⟨w.heap.size, 2, none⟩) (by dsimp only; omega)).trans p2, (b2.cell (p := ⟨w.heap.size, 3, none⟩) (by dsimp only; omega)).trans p3, (b2.cell (p := ⟨w.heap.size, 4, none⟩) (by dsimp only; omega)).trans p4, HO1.out.keep b2 HO1.out.lt, HO2.out.keep b2 HO2.out.lt, HO3.out.keep b2 HO3.out.lt, kl2, HRL2.out.keep b2, below_then HBB.out b2⟩
  rw [← hw2]
  clear hw2
  refine (limPlaces_any a1 a2 a3 a4 a5 n1 c1 n2 c2 n3 c3 n4 c4 n5 c5 w2).mono ?_
  rintro e w3 ⟨rfl, hw3⟩
  have b3 : Below w2.heap.size w2 w3 := by rw [hw3]; exact (Below.refl _ w2).alloc (Nat.le_refl _) _
  have z1 : w3.cell? ⟨w2.heap.size, 0, none⟩ = some (.slice a1 n1 c1) := by rw [hw3]; go_simp
  have HM3 := Lib.hid (HM2.out.keep b3)
  have HZ3 : Hid (w.heap.size + 4 ≤ w3.heap.size) := Lib.hid (by have := HZ1.out; have := b3.size; omega)
  have hws : w.heap.size ≤ w3.heap.size := by have := HZ3.out; omega
  obtain ⟨M, hM⟩ : ∃ M, M = w1.heap.size := ⟨_, rfl⟩
  rw [← hM] at HM3 ⊢
  clear hw3 b2 b3 kl2 HM2 p0 p1 p2 p3 p4 HO1 HO2 HO3 HRL2 hM l0 hz2 HB1 HBB HZ1 he
  go_wp2_with fail
  refine range_places (by omega) (g := .tmp 21) (p := 22) w2.heap.size w.heap.size rfl z1 hws (fun pre W' => Hid (∀ i, i ∈ pre.map (fun (y : PlAt n1) => y.1) → chkL s xs i = false) ∧ ChM w W' a1 n1 c1 a2 n2 c2 a3 n3 c3 a4 n4 c4 a5 n5 c5 M aL cL (loadS s (fI xs) s.chgs.length) 0 0 0 false 0) (fun c pre W' => c = .ret ∧ ∃ t, Hid (t ∈ pre.map (fun (y : PlAt n1) => y.1) ∧ (∀ i, i ∈ pre.map (fun (y : PlAt n1) => y.1) → chkL s xs i = true → i = t) ∧ chkL s xs t = true) ∧ ChR w W' ((t / 3 : Nat) : Int) ((t % 3 : Nat) : Int) (loadS s (fI xs) s.chgs.length t) true 0) ?hI ?hIx ?h0 (fun x a' W' => LcA w M n1 x a' W') ?hAx ?assign ?body ?done ?stop
  case hI => exact fun pre W W' h hn => ⟨h.1, h.2.nc hn hws⟩
  case hIx =>
    rintro c pre W W' ⟨rfl, t, h1, h2⟩ hn
    exact ⟨rfl, t, h1, h2.nc hn hws⟩
  case h0 => exact ⟨Lib.hid (by simp), HM3.out⟩
  case hAx =>
    rintro x a' W W' ⟨X, u0, u1, u3, u8, u10, u11, u12, u13, u14, u15, u16, u17, u18, u19, u20, u21, u22, u23, u24, u25, u26, u27, u28, u29, u30, u31, u32, u33, u34, u35, u36, u37, u38, u39, u40, u41, u42, u43, u44, u45, u46, rfl, x0, x1⟩ hn
    exact ⟨X, _, _, _, _, _, _, _, _, _, _, _, _, _, _, _, _, _, _, _, _, _, _, _, _, _, _, _, _, _, _, _, _, _, _, _, _, _, _, _, _, _, rfl, cell_nc1 x0 hn, cell_nc1 x1 hn⟩
  case assign =>
    intro l pre x W1 K hi hK
    have HI := Lib.hid hi
    have HKK := Lib.hid hK
    clear hi hK
    gi_wp2
    have hw1 : w.heap.size ≤ W1.heap.size := HI.out.2.bel.size
    refine HKK.out _ _ (keepsFrom_alloc _ _ _) ((Below.refl _ W1).alloc hw1 _) ⟨HI.out.1, HI.out.2.keep ((Below.refl _ W1).alloc (Nat.le_refl _) _)⟩ ?_
    exact ⟨_, _, _, _, _, _, _, _, _, _, _, _, _, _, _, _, _, _, _, _, _, _, _, _, _, _, _, _, _, _, _, _, _, _, _, _, _, _, _, _, _, _, rfl, by go_simp, by go_simp⟩
  case body =>
    rintro l pre ⟨t, ht⟩ a' W1 ⟨Hno, m⟩ ⟨X, u0, u1, u3, u8, u10, u11, u12, u13, u14, u15, u16, u17, u18, u19, u20, u21, u22, u23, u24, u25, u26, u27, u28, u29, u30, u31, u32, u33, u34, u35, u36, u37, u38, u39, u40, u41, u42, u43, u44, u45, u46, rfl, x0, x1⟩ hlen
    dsimp only at x0 x1 hlen ⊢
    have hcl : s.cons.length = n1 := HCL.out
    have ht' : t < n1 * 3 := ht
    have hcb : t / 3 < n1 := by omega
    have hpb : t % 3 < 3 := by omega
    have het : t / 3 * 3 + t % 3 = t := by omega
    obtain ⟨bL, oL, hAL, hbL, hld⟩ := load_at m.rl hcb hpb
    rw [het] at hld
    obtain ⟨b, off, g, hA, hbl, hgx, d0, d1, d2, d3, d4, d5, d6, d7, d8, d9, d10⟩ := rdCon_at HS.out.r1 (k := t / 3) (by rw [hcl]; exact hcb)
    have HCH : Hid (chkL s xs t = decide (limV g < loadS s (fI xs) s.chgs.length t)) := Lib.hid (by unfold chkL limAt; rw [hgx]; rfl)
    have hb := m.bel
    have e0 := (hb.cell (p := ⟨b, off + t / 3 * 11, none⟩) hbl).trans d0
    have e1 := (hb.cell (p := ⟨b, off + t / 3 * 11 + 1, none⟩) hbl).trans d1
    have e2 := (hb.cell (p := ⟨b, off + t / 3 * 11 + 2, none⟩) hbl).trans d2
    have e3 := (hb.cell (p := ⟨b, off + t / 3 * 11 + 3, none⟩) hbl).trans d3
    have e4 := (hb.cell (p := ⟨b, off + t / 3 * 11 + 4, none⟩) hbl).trans d4
    have e5 := (hb.cell (p := ⟨b, off + t / 3 * 11 + 5, none⟩) hbl).trans d5
    have e6 := (hb.cell (p := ⟨b, off + t / 3 * 11 + 6, none⟩) hbl).trans d6
    have e7 := (hb.cell (p := ⟨b, off + t / 3 * 11 + 7, none⟩) hbl).trans d7
    have e8 := (hb.cell (p := ⟨b, off + t / 3 * 11 + 8, none⟩) hbl).trans d8
    have e9 := (hb.cell (p := ⟨b, off + t / 3 * 11 + 9, none⟩) hbl).trans d9
    have e10 := (hb.cell (p := ⟨b, off + t / 3 * 11 + 10, none⟩) hbl).trans d10
    have HOC := Lib.hid (HOK.out.okC hgx)
    have kl := m.kl
    have k0 := m.k0
    have HMM := Lib.hid m
    have HNO := Lib.hid Hno.out
    have HSN : Hid ((pre ++ [(⟨t, ht⟩ : PlAt n1)]).map (fun (y : PlAt n1) => y.1) = pre.map (fun (y : PlAt n1) => y.1) ++ [t]) := Lib.hid (by rw [List.map_append]; rfl)
    clear d0 d1 d2 d3 d4 d5 d6 d7 d8 d9 d10 hgx m Hno hbl hb
    subst hA hAL
    obtain ⟨c, hc⟩ : ∃ c, c = t / 3 := ⟨_, rfl⟩
    obtain ⟨p, hp⟩ : ∃ p, p = t % 3 := ⟨_, rfl⟩
    rw [← hc] at x0 hcb hld e0 e1 e2 e3 e4 e5 e6 e7 e8 e9 e10
    rw [← hp] at x1 hpb hld
    have HC := Lib.hid hc
    have HP := Lib.hid hp
    have hcz : (c : Int) < (n1 : Int) := by omega
    have hpz : (p : Int) < 3 := by omega
    obtain ⟨ld, hldv⟩ : ∃ ld, ld = loadS s (fI xs) s.chgs.length t := ⟨_, rfl⟩
    rw [← hldv] at hld HCH
    have HLD := Lib.hid hldv
    clear hc hp het hldv ht'
    gi_wp2
    refine wpIn_region_still_tail 8 (by kernel_rfl) (by kernel_rfl) (by kernel_rfl) ?_
    simp only [List.take_succ_cons, List.take_zero, List.drop_succ_cons, List.drop_zero]
    repeat still_step
    try refine wpStill_nil ?_
    change wpList _ _ _ _ _ W1.drew
    go_wp2_with fail
    gi_wp2
    refine ⟨trivial, CallsIn.inRound l (callsIn_wide.2 ((limOf_ok g HOC.out W1.drew).mono ?_))⟩
    rintro e w' ⟨rfl, hb0⟩
    have hbl : Below W1.heap.size W1 w' := (below_drew W1).trans hb0
    have hbw : Below w.heap.size W1 w' := hbl.mono HMM.out.bel.size
    have hm' := HMM.out.keep hbl
    have hx0 := (hbl.cell (p := ⟨X, 0, none⟩) (World.block_lt_of_cell? _ _ x0)).trans x0
    have hx1 := (hbl.cell (p := ⟨X, 1, none⟩) (World.block_lt_of_cell? _ _ x1)).trans x1
    have HM' := Lib.hid hm'
    have HBL := Lib.hid hbl
    have HBW := Lib.hid hbw
    clear hm' hbl hbw hb0 x0 x1 e0 e1 e2 e3 e4 e5 e6 e7 e8 e9 e10 kl k0 hld
    generalize limV g = lv at *
    by_cases hv : lv < ld
    · have HY : Hid (chkL s xs t = true) := Lib.hid (by rw [HCH.out]; exact decide_eq_true hv)
      have c10 : w'.cell? ⟨w.heap.size + 1, 0, none⟩ = some (.int .i64 0) := HM'.out.o1.cell (i := 0) (by omega)
      have c11 : w'.cell? ⟨w.heap.size + 1, 1, none⟩ = some (.int .i64 0) := HM'.out.o1.cell (i := 1) (by omega)
      have c12 : w'.cell? ⟨w.heap.size + 1, 2, none⟩ = some (.int .i64 0) := HM'.out.o1.cell (i := 2) (by omega)
      have c20 := HM'.out.o2.cell (i := 0) (by omega)
      have c30 := HM'.out.o3.cell (i := 0) (by omega)
      have f10 := HM'.out.o1.frozen 0
      have f11 := HM'.out.o1.frozen 1
      have f12 := HM'.out.o1.frozen 2
      have f2 := HM'.out.o2.frozen 0
      have f3 := HM'.out.o3.frozen 0
      have HP2 : Hid (KeepsFrom w3.heap.size W1 (chW w w' (c : Int) (p : Int) ld true 0) ∧ ∃ t', Hid (t' ∈ (pre ++ [(⟨t, ht⟩ : PlAt n1)]).map (fun (y : PlAt n1) => y.1) ∧ (∀ i, i ∈ (pre ++ [(⟨t, ht⟩ : PlAt n1)]).map (fun (y : PlAt n1) => y.1) → chkL s xs i = true → i = t') ∧ chkL s xs t' = true) ∧ ChR w (chW w w' (c : Int) (p : Int) ld true 0) ((t' / 3 : Nat) : Int) ((t' % 3 : Nat) : Int) (loadS s (fI xs) s.chgs.length t') true 0) := Lib.hid (by
        refine ⟨(keepsFrom_below HBL.out).trans (keepsFrom_ch HM'.out.o3 _ HZ3.out _ _ _ _ _), t, Lib.hid ⟨?_, ?_, HY.out⟩, ?_⟩
        · rw [HSN.out]; simp
        · intro i hi hci
          rw [HSN.out] at hi
          rcases List.mem_append.1 hi with h | h
          · rw [HNO.out i h] at hci; cases hci
          · simpa using h
        · rw [← HC.out, ← HP.out, ← HLD.out]
          exact chR_write HM'.out.o1 HM'.out.o2 HM'.out.o3 HM'.out.bel _ _ _ _ _)
      gi_wp2
      exact ⟨HP2.out.1, rfl, HP2.out.2⟩
    · have HNV : Hid (chkL s xs t = false) := Lib.hid (by rw [HCH.out]; exact decide_eq_false hv)
      have HP2 : Hid (KeepsFrom w3.heap.size W1 w' ∧ Below w.heap.size W1 w' ∧ (Hid (∀ i, i ∈ (pre ++ [(⟨t, ht⟩ : PlAt n1)]).map (fun (y : PlAt n1) => y.1) → chkL s xs i = false) ∧ ChM w w' (some ⟨b, off, none⟩) n1 c1 a2 n2 c2 a3 n3 c3 a4 n4 c4 a5 n5 c5 M (some ⟨bL, oL, none⟩) cL (loadS s (fI xs) s.chgs.length) 0 0 0 false 0)) := Lib.hid (by
        refine ⟨keepsFrom_below HBL.out, HBW.out, Lib.hid (fun i hi => ?_), ?_⟩
        · rw [HSN.out] at hi
          rcases List.mem_append.1 hi with h | h
          · exact HNO.out i h
          · have h2 : i = t := by simpa using h
            rw [h2]; exact HNV.out
        · exact HM'.out)
      gi_wp2
      exact HP2.out
  case done =>
    intro D ys W1 hD hS hi hdf
    obtain ⟨Hno, m⟩ := hi
    have HV : Hid (vioO s xs = none) := Lib.hid (vioO_all HLB.out (fun t ht => Hno.out t (by rw [hS]; exact List.mem_range.2 (by rw [← HCL.out]; exact ht))))
    have c10 : W1.cell? ⟨w.heap.size + 1, 0, none⟩ = some (.int .i64 0) := m.o1.cell (i := 0) (by omega)
    have c11 : W1.cell? ⟨w.heap.size + 1, 1, none⟩ = some (.int .i64 0) := m.o1.cell (i := 1) (by omega)
    have c12 : W1.cell? ⟨w.heap.size + 1, 2, none⟩ = some (.int .i64 0) := m.o1.cell (i := 2) (by omega)
    have c20 := m.o2.cell (i := 0) (by omega)
    have c30 := m.o3.cell (i := 0) (by omega)
    have f10 := m.o1.frozen 0
    have f11 := m.o1.frozen 1
    have f12 := m.o1.frozen 2
    have f2 := m.o2.frozen 0
    have f3 := m.o3.frozen 0
    have HR := Lib.hid (chR_write m.o1 m.o2 m.o3 m.bel 0 0 0 false 0)
    have HMK : Hid (Marks (w.heap.size + 4) (chW w W1 0 0 0 false 0) [{ target := .collected D, args := #[] }]) := Lib.hid ⟨[D], rfl, by simp, fun D' hD' => by
      have e : D' = D := by simpa using hD'
      subst e
      have hdl := (Array.getElem?_eq_some_iff.1 hdf).1
      have hmd := chW_mod w W1 0 0 0 false 0
      have hz := HZ3.out
      exact ⟨by omega, Nat.lt_of_lt_of_le hdl hmd.size, (hmd.block D' hdl (by omega)).trans hdf⟩⟩
    clear m Hno hS hdf
    go_wp2_with fail
    refine leaves_marks (B := w.heap.size + 4) _ _ HMK.out (fun W3 hT => ?_)
    have hr := HR.out.leave hT (by omega)
    refine ⟨_, results_c3 (a := 4) (b := 5) (c := 6) (ta := 58) (tb := 4) (tc := 35) (ba := w.heap.size + 1) (bb := w.heap.size + 2) (bc := w.heap.size + 3) (by kernel_rfl) rfl rfl rfl (load_viol hr.o1) (load_bool hr.o2) (load_errno hr.o3), by rw [HV.out, HLB.out]; rfl, hr.bel⟩
  case stop =>
    intro D c pre W1 hD hS hi hdf
    obtain ⟨rfl, t, Ht, hr0⟩ := hi
    have HV : Hid (vioO s xs = some t) := Lib.hid (by
      obtain ⟨h1, h2, h3⟩ := Ht.out
      have hp := pre_range hS
      rw [hp] at h1 h2
      have hlt := pre_len hS
      have h1' := List.mem_range.1 h1
      refine vioO_at HLB.out (by rw [HCL.out]; omega) (fun i hi => ?_) h3
      cases hc : chkL s xs i
      · rfl
      · have := h2 i (List.mem_range.2 (by omega)) hc; omega)
    have HR := Lib.hid hr0
    have HMK : Hid (Marks (w.heap.size + 4) W1 [{ target := .collected D, args := #[] }]) := Lib.hid ⟨[D], rfl, by simp, fun D' hD' => by
      have e : D' = D := by simpa using hD'
      subst e
      have hz := HZ3.out
      exact ⟨by omega, (Array.getElem?_eq_some_iff.1 hdf).1, hdf⟩⟩
    clear hr0 hS hdf Ht
    refine wpIn_wide.2 ?_
    go_wp2_with fail
    refine leaves_marks (B := w.heap.size + 4) _ _ HMK.out (fun W3 hT => ?_)
    have hr := HR.out.leave hT (by omega)
    refine ⟨_, results_c3 (a := 4) (b := 5) (c := 6) (ta := 58) (tb := 4) (tc := 35) (ba := w.heap.size + 1) (bb := w.heap.size + 2) (bc := w.heap.size + 3) (by kernel_rfl) rfl rfl rfl (load_viol hr.o1) (load_bool hr.o2) (load_errno hr.o3), by rw [HV.out, HLB.out]; rfl, hr.bel⟩
end Go.Proofs.YtpkonifeieepfaaGreat
