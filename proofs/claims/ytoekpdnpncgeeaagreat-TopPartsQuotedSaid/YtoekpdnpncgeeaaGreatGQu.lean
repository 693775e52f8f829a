/-
Several texts in one: QuA, QuB, QuC.
-/
import Derived.Test.YtoekpdnpncgeeaaGreatGLp
/-
quote: the iterator over minutes, and the prices of articles that apply in one.
-/
namespace Go.Proofs.YtoekpdnpncgeeaaGreat
open Go.Shelf
open Go.RowKit
set_option linter.unusedVariables false
set_option linter.unusedSimpArgs false
attribute [local go_sem] Oper.semAt_some
/-- The prices of the articles of a kind that apply in a minute. -/
def inQ (k : Int) (c : Cal) (m : Int) : List Art → Int
  | [] => 0
  | a :: l => (if a.kind = k ∧ appB a c m = true then a.price else 0) + inQ k c m l
theorem range_preQ {k n : Nat} (h : k ≤ n) : List.range k <+: List.range n := by
  obtain ⟨d, rfl⟩ : ∃ d, n = k + d := ⟨n - k, by omega⟩
  rw [List.range_add]
  exact List.prefix_append _ _
/-- What a round over the minutes may not change. -/
structure KpQ (B bf bt : Nat) (W W' : World) : Prop where
  bel : Below B W W'
  s1 : W'.heap[bf]? = W.heap[bf]?
  s2 : W'.heap[bt]? = W.heap[bt]?
/-- A tariff in the minutes of limits, in its block. -/
structure QuM (W : World) (q : Nat) (nm : ByteArray) (aT : Option Addr) (nT cT : Nat) (ar : List Art) (aC : Option Addr) (nC cC : Nat) (aH : Option Addr) (nH cH : Nat) (c : Cal) (f t : Int) : Prop where
  p0 : W.cell? ⟨q, 0, none⟩ = some (.string nm)
  p1 : W.cell? ⟨q, 1, none⟩ = some (.slice aT nT cT)
  p2 : W.cell? ⟨q, 2, none⟩ = some (.int .i64 c.off)
  p3 : W.cell? ⟨q, 3, none⟩ = some (.slice aC nC cC)
  p4 : W.cell? ⟨q, 4, none⟩ = some (.slice aH nH cH)
  p5 : W.cell? ⟨q, 5, none⟩ = some (.int .i64 f)
  p6 : W.cell? ⟨q, 6, none⟩ = some (.int .i64 t)
  rt : RdTrf W nm aT nT ar
  rc : RdCal W aC nC aH nH c
theorem QuM.keep {W W' : World} {q : Nat} {nm : ByteArray} {aT : Option Addr} {nT cT : Nat} {ar : List Art} {aC : Option Addr} {nC cC : Nat} {aH : Option Addr} {nH cH : Nat} {c : Cal} {f t : Int} (h : QuM W q nm aT nT cT ar aC nC cC aH nH cH c f t) (hb : Below W.heap.size W W') : QuM W' q nm aT nT cT ar aC nC cC aH nH cH c f t :=
  ⟨(hb.cell (p := ⟨q, 0, none⟩) (World.block_lt_of_cell? _ _ h.p0)).trans h.p0, (hb.cell (p := ⟨q, 1, none⟩) (World.block_lt_of_cell? _ _ h.p1)).trans h.p1, (hb.cell (p := ⟨q, 2, none⟩) (World.block_lt_of_cell? _ _ h.p2)).trans h.p2, (hb.cell (p := ⟨q, 3, none⟩) (World.block_lt_of_cell? _ _ h.p3)).trans h.p3, (hb.cell (p := ⟨q, 4, none⟩) (World.block_lt_of_cell? _ _ h.p4)).trans h.p4, (hb.cell (p := ⟨q, 5, none⟩) (World.block_lt_of_cell? _ _ h.p5)).trans h.p5, (hb.cell (p := ⟨q, 6, none⟩) (World.block_lt_of_cell? _ _ h.p6)).trans h.p6, h.rt.keep hb, h.rc.keep hb⟩
theorem qMinutes_any (f t : Int) (w : World) : Calls Tryz.prog 45 #[.int .i64 f, .int .i64 t] w fun e w' => e = .returned (.func (.func 78) #[] #[.pointer (some ⟨w.heap.size, 0, none⟩), .pointer (some ⟨w.heap.size + 1, 0, none⟩)]) ∧ w' = (w.alloc (.cells #[.int .i64 f] 3)).alloc (.cells #[.int .i64 t] 3) := by
  go_enter Tryz.func45, Tryz.ntmps45
  go_wp2_with fail
  go_ret
  refine ⟨?_, rfl⟩
  simp
theorem qIn_any (q : Nat) (k : Int) (w : World) : Calls Tryz.prog 46 #[.pointer (some ⟨q, 0, none⟩), .int .i64 k] w fun e w' => e = .returned (.func (.func 79) #[] #[.pointer (some ⟨w.heap.size, 0, none⟩), .pointer (some ⟨w.heap.size + 1, 0, none⟩)]) ∧ w' = (w.alloc (.cells #[.pointer (some ⟨q, 0, none⟩)] 75)).alloc (.cells #[.int .i64 k] 3) := by
  go_enter Tryz.func46, Tryz.ntmps46
  go_wp2_with fail
  go_ret
  refine ⟨?_, rfl⟩
  simp
set_option maxRecDepth 100000 in
set_option maxHeartbeats 8000000 in
theorem qMinutes1_in (m : Nat) (hm : 1 ≤ m) (l bf bt B : Nat) (f t : Int) (hf : 0 ≤ f) (ht : t ≤ 1000000000) (J Jx : List Nat → World → Prop) (W : World)
    (hJ : AbidesFrom W.heap.size J)
    (hY : ∀ (pre : List Nat) (x : Nat) W1, J pre W1 → pre.length < (t - f).toNat → YieldAt Fence.wide (m - 1) Tryz.prog l #[.int .i64 (f + x)] W1 fun e W' =>
      (e = .returned (.bool true) ∧ J (pre ++ [x]) W' ∧ KpQ B bf bt W1 W') ∨ (e = .returned (.bool false) ∧ Jx (pre ++ [x]) W'))
    (hbf : W.cell? ⟨bf, 0, none⟩ = some (.int .i64 f)) (hbt : W.cell? ⟨bt, 0, none⟩ = some (.int .i64 t)) (h0 : J [] W) :
    CallsIn Fence.wide m Tryz.prog 78 #[.func (.yield l) #[] #[], .pointer (some ⟨bf, 0, none⟩), .pointer (some ⟨bt, 0, none⟩)] W fun e W' => (∃ v, e = .returned v) ∧
      ((∃ ys : List Nat, ys = List.range (t - f).toNat ∧ J ys W') ∨ (∃ pre : List Nat, pre <+: List.range (t - f).toNat ∧ Jx pre W')) := by
  have HY := Lib.hid hY
  have HJ := Lib.hid hJ
  obtain ⟨n, hn⟩ : ∃ n, n = (t - f).toNat := ⟨_, rfl⟩
  rw [← hn] at HY ⊢
  have hnt : ∀ k : Nat, f + k < t ↔ k < n := fun k => by omega
  have HN := Lib.hid hnt
  have hnb : n ≤ 1000000000 := by omega
  clear hY hJ hn hnt
  refine callsIn_of_wp Tryz.func78 rfl trivial ?_ rfl
  simp only [Tryz.ntmps78, List.size_toArray, List.length_cons, List.length_nil, Nat.reduceAdd, Nat.reduceSub, Array.replicate_succ, Array.replicate_zero, List.push_toArray, List.append_toArray, List.nil_append, List.cons_append]
  have lf : bf < W.heap.size := World.block_lt_of_cell? _ _ hbf
  gi_wp2
  gi_loopw [4] (fun i wr => ∃ (k : Nat) (pre : List Nat), i = .int .i64 (f + k) ∧ k ≤ n ∧ Hid (pre = List.range k) ∧ Hid (J pre wr) ∧ wr.cell? ⟨bf, 0, none⟩ = some (.int .i64 f) ∧ wr.cell? ⟨bt, 0, none⟩ = some (.int .i64 t)) (fun i _ => (n - (intOf i - f).toNat))
  case atStart => exact ⟨0, [], by simp, by omega, Lib.hid rfl, Lib.hid h0, hbf, hbt⟩
  case round =>
    clear hbf hbt h0 lf
    obtain ⟨k, pre, rfl, hk, Hpre, HJp, hbf, hbt⟩ := hrel
    have lt : bt < wr.heap.size := World.block_lt_of_cell? _ _ hbt
    by_cases hlt : k < n
    · have hltz : f + (k : Int) < t := (HN.out k).2 hlt
      have hpl : pre.length < n := by rw [Hpre.out, List.length_range]; exact hlt
      have HNX : Hid (pre ++ [k] = List.range (k + 1)) := Lib.hid (by rw [Hpre.out, List.range_succ])
      have HPF : Hid (pre ++ [k] <+: List.range n) := Lib.hid (by rw [HNX.out]; exact range_preQ (by omega))
      obtain ⟨fn, tmps, assign, body, hy, hRd⟩ := HY.out pre k wr HJp.out hpl
      try dsimp only at hy
      gi_wp2
      refine hRd.mono ?_
      rintro e' W3 (⟨rfl, hJ3, hk3⟩ | ⟨rfl, hJx3⟩)
      · have HJ3 := Lib.hid hJ3
        have hbf3 : W3.cell? ⟨bf, 0, none⟩ = some (.int .i64 f) := (World.cell?_of_block (w := wr) (a := ⟨bf, 0, none⟩) hk3.s1).trans hbf
        have hbt3 : W3.cell? ⟨bt, 0, none⟩ = some (.int .i64 t) := (World.cell?_of_block (w := wr) (a := ⟨bt, 0, none⟩) hk3.s2).trans hbt
        clear hJ3 hbf hbt hk3
        gi_wp2
        go_roundw
        case rel => exact ⟨k + 1, _, by simp; omega, by omega, HNX, HJ3, hbf3, hbt3⟩
        case measure => simp [intOf]; omega
      · gi_wp2
        refine bodyPost_ret (results_none rfl _ _ _) rfl ?_
        exact ⟨⟨_, rfl⟩, .inr ⟨_, HPF.out, hJx3⟩⟩
    · have hltz : ¬ f + (k : Int) < t := fun h => hlt ((HN.out k).1 h)
      have hkn : k = n := by omega
      subst hkn
      gi_wp2
      go_end0
      refine ⟨⟨_, rfl⟩, .inl ?_⟩
      have h := HJp.out
      rw [Hpre.out] at h
      first | exact h | exact ⟨_, rfl, h⟩
/-- The loop over all minutes. -/
theorem range_all {f t : Int} (hf : 0 ≤ f) (ht : t ≤ 1000000000) {g : Operand} {p : Tmp} {assign body : Code} {Q : Exit → Act → World → Prop} {ac : Act} {w : World} (bf bt B : Nat) (hB : B ≤ w.heap.size)
    (hg : ac.eval g = .func (.func 78) #[] #[.pointer (some ⟨bf, 0, none⟩), .pointer (some ⟨bt, 0, none⟩)])
    (hbf : w.cell? ⟨bf, 0, none⟩ = some (.int .i64 f)) (hbt : w.cell? ⟨bt, 0, none⟩ = some (.int .i64 t))
    (I : List Nat → World → Prop) (hI : ∀ pre W W', I pre W → Nc w.heap.size W W' → I pre W') (h0 : I [] w) (Ax : Nat → Act → Prop)
    (hassign : ∀ (l : Nat) (x : Nat) (W : World) (K : Act → World → Prop), (∀ a', Ax x a' → K a' W) → assign.wpIn (Fence.wide.inRound l) 3 Tryz.prog (Exit.then K (fun _ _ _ => False)) { tmps := ac.tmps.setIfInBounds p (.int .i64 (f + x)), defers := [] } W)
    (hbody : ∀ (l : Nat) (pre : List Nat) (x : Nat) (a' : Act) (W : World), I pre W → Ax x a' → pre.length < (t - f).toNat → body.wpIn (Fence.wide.inRound l) 3 Tryz.prog (ownPostG w.heap.size (KpQ B bf bt) I (fun _ _ _ => False) (pre ++ [x]) W) a' W)
    (hdone : ∀ (D : Nat) (ys : List Nat) (W : World), w.heap.size ≤ D → ys = List.range (t - f).toNat → I ys W → W.heap[D]? = some (.deferred (some [])) → Q .normal { ac with defers := { target := .collected D, args := #[] } :: ac.defers } W) :
    (Code.rangeFunc g #[p] assign body).wp Tryz.prog Q ac w := by
  have lf := World.block_lt_of_cell? w _ hbf
  have lt := World.block_lt_of_cell? w _ hbt
  dsimp only at lf lt
  refine (wpIn_wide (n := 5)).1 ?_
  refine wpIn_rangeFunc_ownH (F := Fence.wide) (α := Nat) rfl (by omega) (gf := 78) (lb := #[.pointer (some ⟨bf, 0, none⟩), .pointer (some ⟨bt, 0, none⟩)]) hg trivial (enters_of Tryz.func78 (by kernel_rfl) rfl)
    (encs := fun x => #[.int .i64 (f + x)]) (Kp := KpQ B bf bt) (S := fun (ys : List Nat) => ys = List.range (t - f).toNat) (Sp := fun (ys : List Nat) => List.IsPrefix ys (List.range (t - f).toNat)) (N := (t - f).toNat) (w0 := w)
    (fun l J Jx W' hW' hJ _ hY h0 => qMinutes1_in 4 (by omega) l bf bt B f t hf ht J Jx W' hJ hY ((hW'.cell (p := ⟨bf, 0, none⟩) lf).trans hbf) ((hW'.cell (p := ⟨bt, 0, none⟩) lt).trans hbt) h0)
    ?hKt ?hKb (Below.refl _ _) (fun _ => rfl) I (fun _ _ _ => False) ?hI (fun _ _ _ _ _ h _ _ => h) h0 (fun x a' _ => Ax x a') (fun _ _ _ _ _ _ h _ _ => h) ?assign ?body ?done (fun _ _ _ _ _ _ h _ => h.elim)
  case hKt => exact fun h1 h2 => ⟨h1.bel.trans h2.bel, h2.s1.trans h1.s1, h2.s2.trans h1.s2⟩
  case hKb =>
    intro W' l o o' hl ho' _ _
    exact ⟨⟨rfl, rfl, rfl, by simp, fun k hk => World.putObj_heap_other (by omega)⟩, World.putObj_heap_other (by omega), World.putObj_heap_other (by omega)⟩
  case hI => exact fun pre W1 W2 row h hg hr => hI pre W1 W2 h ⟨row, hg, hr⟩
  case assign =>
    intro l pre x W1 K hi hK
    have ht : (#[p].zip #[Value.int .i64 (f + x)]).foldl (fun t (p, v) => t.setIfInBounds p v) ac.tmps = ac.tmps.setIfInBounds p (.int .i64 (f + x)) := by simp
    rw [ht]
    exact hassign l x W1 K (fun a' hx => hK a' W1 (KeepsFrom.refl _ _) ⟨Below.refl _ _, rfl, rfl⟩ hi hx)
  case body =>
    intro l pre x a' W1 hl hlr hi hx hlen
    exact hbody l pre x a' W1 hi hx hlen
  case done => exact fun D ys W1 hD hS hi hdf => hdone D ys W1 hD hS hi hdf
set_option maxRecDepth 100000 in
set_option maxHeartbeats 16000000 in
theorem qIn1_any (q PQ PK : Nat) (nm : ByteArray) (aT : Option Addr) (nT cT : Nat) (ar : List Art) (aC : Option Addr) (nC cC : Nat) (aH : Option Addr) (nH cH : Nat) (c : Cal) (f t : Int) (k m : Int) (w : World) (HQ : Hid (QuM w q nm aT nT cT ar aC nC cC aH nH cH c f t)) (ht : ar.length ≤ 12 ∧ (∀ a ∈ ar, artB a = true) ∧ taxN ar ≤ 1) (hq : w.cell? ⟨PQ, 0, none⟩ = some (.pointer (some ⟨q, 0, none⟩))) (hk : w.cell? ⟨PK, 0, none⟩ = some (.int .i64 k)) :
    Calls Tryz.prog 79 #[.int .i64 m, .pointer (some ⟨PQ, 0, none⟩), .pointer (some ⟨PK, 0, none⟩)] w fun e w' => e = .returned (.int .i64 (inQ k c m ar)) ∧ Below w.heap.size w w' := by
  have HTV := Lib.hid ht
  have hn12 : nT ≤ 12 := by rw [← HQ.out.rt.la]; exact ht.1
  have HPQ : Hid (w.cell? ⟨PQ, 0, none⟩ = some (.pointer (some ⟨q, 0, none⟩)) ∧ PQ < w.heap.size) := Lib.hid ⟨hq, World.block_lt_of_cell? _ _ hq⟩
  have HPK : Hid (w.cell? ⟨PK, 0, none⟩ = some (.int .i64 k) ∧ PK < w.heap.size) := Lib.hid ⟨hk, World.block_lt_of_cell? _ _ hk⟩
  have p1 : w.cell? ⟨q, 1, none⟩ = some (.slice aT nT cT) := HQ.out.p1
  have hlq : q < w.heap.size := World.block_lt_of_cell? w _ p1
  have hlpq := HPQ.out.2
  clear ht hk
  go_enter Tryz.func79, Tryz.ntmps79
  go_wp2_with fail
  have HB0 : Hid (Below w.heap.size w w) := Lib.hid (Below.refl _ _)
  have HS0 : Hid (inQ k c m ar = 0 + inQ k c m (ar.drop 0)) := Lib.hid (by simp)
  clear p1 hlq hq hlpq
  go_loopg [5, 14] nT (fun g1 v5 v14 wr => ∃ (i : Nat) (z : Int), v5 = .int .i64 z ∧ v14 = .int .i64 i ∧ i ≤ nT ∧ nT - i ≤ g1 ∧ 0 ≤ z ∧ z ≤ 1000000 * (i : Int) ∧ Hid (inQ k c m ar = z + inQ k c m (ar.drop i)) ∧ Hid (Below w.heap.size w wr))
  case atStart => exact ⟨0, 0, rfl, by go_num, by omega, by omega, by omega, by omega, HS0, HB0⟩
  case round =>
    clear HB0 HS0
    obtain ⟨i, z, rfl, rfl, hi, hg1, hz0, hz1, HR, HW⟩ := hrel
    by_cases hlt : i < nT
    · have hltz : (i : Int) < (nT : Int) := by omega
      have HQR := Lib.hid (HQ.out.keep HW.out)
      obtain ⟨bb, off, a, hA, hbl, hgx, c0, c1, c2, c3, c4, c5, c6⟩ := rdArt_at HQR.out.rt.ra (show i < ar.length by rw [HQR.out.rt.la]; exact hlt)
      have HAB : Hid (artB a = true) := Lib.hid (HTV.out.2.1 a (List.mem_of_getElem? hgx))
      have hap := art_price HAB.out
      obtain ⟨hp0, hp1⟩ := hap
      have HRR : Hid (inQ k c m ar = z + ((if a.kind = k ∧ appB a c m = true then a.price else 0) + inQ k c m (ar.drop (i + 1)))) := Lib.hid (by rw [HR.out, drop_at hgx]; rfl)
      clear HR hgx
      obtain ⟨W1, hW1⟩ : ∃ W, W = wr.alloc (.cells #[.int .i64 a.kind, .int .i64 a.days, .int .i64 a.frm, .int .i64 a.till, .int .i64 a.price, .int .i64 a.unit, .int .i64 a.free] 49) := ⟨_, rfl⟩
      obtain ⟨Y, hY⟩ : ∃ Y, Y = wr.heap.size := ⟨_, rfl⟩
      have HA : Hid (ArtM wr W1 Y a) := Lib.hid (by rw [hW1, hY]; exact ArtM.box (Below.refl _ _))
      have HQ1 := Lib.hid (HQR.out.keep HA.out.bel)
      have HW1 := Lib.hid (below_then HW.out HA.out.bel)
      subst hA
      have HWY := Lib.hid (And.intro hW1.symm hY.symm)
      clear hW1 hY HQR
      go_upto_region 5 with (fail)
      rw [HWY.out.1, HWY.out.2]
      clear HWY c0 c1 c2 c3 c4 c5 c6
      have y0 : W1.cell? ⟨Y, 0, none⟩ = some (.int .i64 a.kind) := HA.out.k0
      have hlY : Y < W1.heap.size := World.block_lt_of_cell? W1 _ y0
      have xk : W1.cell? ⟨PK, 0, none⟩ = some (.int .i64 k) := (HW1.out.cell (p := ⟨PK, 0, none⟩) HPK.out.2).trans HPK.out.1
      have lpk : PK < W1.heap.size := World.block_lt_of_cell? W1 _ xk
      have xq : W1.cell? ⟨PQ, 0, none⟩ = some (.pointer (some ⟨q, 0, none⟩)) := (HW1.out.cell (p := ⟨PQ, 0, none⟩) HPQ.out.2).trans HPQ.out.1
      have lpq : PQ < W1.heap.size := World.block_lt_of_cell? W1 _ xq
      obtain ⟨zk, hzk⟩ : ∃ zk, (a.kind == k) = zk := ⟨_, rfl⟩
      have HZK := Lib.hid hzk
      cases zk
      · have HR2 : Hid (inQ k c m ar = z + inQ k c m (ar.drop (i + 1))) := Lib.hid (by rw [HRR.out, if_neg (fun h => by have := HZK.out; simp [h.1] at this)]; omega)
        refine region_z (S := fun w' => Below W1.heap.size W1 w') [] (by kernel_rfl) (below_drewG' (Below.refl _ _)) (fun hHeld => ?_)
        refine wpAnyZ_take (i := 0) (v := .pointer (some ⟨Y, 0, none⟩)) [1, 3, 4, 5, 6, 7, 8, 9, 10, 11, 12] rfl (by kernel_rfl) (by kernel_rfl) (by kernel_rfl) (by kernel_rfl) (fun _ _ _ h => h) (Or.inl ⟨by kernel_rfl, fun w' hSw => ?_⟩) hHeld ?_
        · clear hHeld hSw
          go_simp
        simp only [Act.put, List.getElem_toArray, List.getElem_cons_zero, List.getElem_cons_succ, List.setIfInBounds_toArray, List.set_cons_zero, List.set_cons_succ]
        refine wpAnyZ_take (i := 1) (v := .int .i64 a.kind) [3, 4, 5, 6, 7, 8, 9, 10, 11, 12] rfl (by kernel_rfl) (by kernel_rfl) (by kernel_rfl) (by kernel_rfl) (fun _ _ _ h => h) (Or.inl ⟨by kernel_rfl, fun w' hSw => ?_⟩) hHeld ?_
        · have e0 := (hSw.cell (p := ⟨Y, 0, none⟩) hlY).trans y0
          clear hHeld hSw
          go_simp
        simp only [Act.put, List.getElem_toArray, List.getElem_cons_zero, List.getElem_cons_succ, List.setIfInBounds_toArray, List.set_cons_zero, List.set_cons_succ]
        refine wpAnyZ_take (i := 2) (v := .int .i64 k) [3, 4, 5, 6, 7, 8, 9, 10, 11, 12] rfl (by kernel_rfl) (by kernel_rfl) (by kernel_rfl) (by kernel_rfl) (fun _ _ _ h => h) (Or.inl ⟨by kernel_rfl, fun w' hSw => ?_⟩) hHeld ?_
        · have e0 := (hSw.cell (p := ⟨PK, 0, none⟩) lpk).trans xk
          clear hHeld hSw
          go_simp
        simp only [Act.put, List.getElem_toArray, List.getElem_cons_zero, List.getElem_cons_succ, List.setIfInBounds_toArray, List.set_cons_zero, List.set_cons_succ]
        refine wpAnyZ_take (i := 3) (v := .bool false) [4, 5, 6, 7, 8, 9, 10, 11, 12] rfl (by kernel_rfl) (by kernel_rfl) (by kernel_rfl) (by kernel_rfl) (fun _ _ _ h => h) (Or.inl ⟨by kernel_rfl, fun w' hSw => ?_⟩) hHeld ?_
        · clear hHeld hSw
          go_simp
        simp only [Act.put, List.getElem_toArray, List.getElem_cons_zero, List.getElem_cons_succ, List.setIfInBounds_toArray, List.set_cons_zero, List.set_cons_succ]
        refine wpAnyZ_take (i := 4) (v := .bool false) [5, 6, 7, 8, 9, 10, 11, 12] rfl (by kernel_rfl) (by kernel_rfl) (by kernel_rfl) (by kernel_rfl) (fun _ _ _ h => h) (Or.inl ⟨by kernel_rfl, fun w' hSw => ?_⟩) hHeld ?_
        · clear hHeld hSw
          go_simp
        simp only [Act.put, List.getElem_toArray, List.getElem_cons_zero, List.getElem_cons_succ, List.setIfInBounds_toArray, List.set_cons_zero, List.set_cons_succ]
        refine wpAnyZ_take (i := 5) (v := undef) [11, 12] rfl (by kernel_rfl) (by kernel_rfl) (by kernel_rfl) (by kernel_rfl) (fun _ _ _ h => h) (Or.inr ⟨by kernel_rfl, rfl⟩) hHeld ?_
        simp only [Act.put, List.getElem_toArray, List.getElem_cons_zero, List.getElem_cons_succ, List.setIfInBounds_toArray, List.set_cons_zero, List.set_cons_succ]
        refine wpAnyZ_take (i := 6) (v := undef) [7, 8, 9, 11, 12] rfl (by kernel_rfl) (by kernel_rfl) (by kernel_rfl) (by kernel_rfl) (fun _ _ _ h => h) (Or.inr ⟨by kernel_rfl, rfl⟩) hHeld ?_
        simp only [Act.put, List.getElem_toArray, List.getElem_cons_zero, List.getElem_cons_succ, List.setIfInBounds_toArray, List.set_cons_zero, List.set_cons_succ]
        refine wpAnyZ_take (i := 7) (v := undef) [8, 9, 11, 12] rfl (by kernel_rfl) (by kernel_rfl) (by kernel_rfl) (by kernel_rfl) (fun _ _ _ h => h) (Or.inr ⟨by kernel_rfl, rfl⟩) hHeld ?_
        simp only [Act.put, List.getElem_toArray, List.getElem_cons_zero, List.getElem_cons_succ, List.setIfInBounds_toArray, List.set_cons_zero, List.set_cons_succ]
        refine wpAnyZ_take (i := 8) (v := undef) [9, 11, 12] rfl (by kernel_rfl) (by kernel_rfl) (by kernel_rfl) (by kernel_rfl) (fun _ _ _ h => h) (Or.inr ⟨by kernel_rfl, rfl⟩) hHeld ?_
        simp only [Act.put, List.getElem_toArray, List.getElem_cons_zero, List.getElem_cons_succ, List.setIfInBounds_toArray, List.set_cons_zero, List.set_cons_succ]
        refine wpAnyZ_take (i := 9) (v := undef) [11, 12] rfl (by kernel_rfl) (by kernel_rfl) (by kernel_rfl) (by kernel_rfl) (fun _ _ _ h => h) (Or.inr ⟨by kernel_rfl, rfl⟩) hHeld ?_
        simp only [Act.put, List.getElem_toArray, List.getElem_cons_zero, List.getElem_cons_succ, List.setIfInBounds_toArray, List.set_cons_zero, List.set_cons_succ]
        refine wpAnyZ_take (i := 10) (v := undef) [11, 12] rfl (by kernel_rfl) (by kernel_rfl) (by kernel_rfl) (by kernel_rfl) (fun _ _ _ h => h) (Or.inr ⟨by kernel_rfl, rfl⟩) hHeld ?_
        simp only [Act.put, List.getElem_toArray, List.getElem_cons_zero, List.getElem_cons_succ, List.setIfInBounds_toArray, List.set_cons_zero, List.set_cons_succ]
        refine wpAnyZ_take (i := 11) (v := undef) [12] rfl (by kernel_rfl) (by kernel_rfl) (by kernel_rfl) (by kernel_rfl) (fun _ _ _ h => h) (Or.inr ⟨by kernel_rfl, rfl⟩) hHeld ?_
        simp only [Act.put, List.getElem_toArray, List.getElem_cons_zero, List.getElem_cons_succ, List.setIfInBounds_toArray, List.set_cons_zero, List.set_cons_succ]
        refine wpAnyZ_take (i := 12) (v := .bool false) [] rfl (by kernel_rfl) (by kernel_rfl) (by kernel_rfl) (by kernel_rfl) (fun _ _ _ h => h) (Or.inl ⟨by kernel_rfl, fun w' hSw => ?_⟩) hHeld ?_
        · clear hHeld hSw
          go_simp
        simp only [Act.put, List.getElem_toArray, List.getElem_cons_zero, List.getElem_cons_succ, List.setIfInBounds_toArray, List.set_cons_zero, List.set_cons_succ]
        refine wpAnyZ_done (by kernel_rfl) ?_ _
        go_step
        go_step
        have HW2 := Lib.hid (below_then HW1.out hHeld)
        clear hHeld y0 hlY xk lpk xq lpq
        go_wp2_with fail
        go_roundg (nT - (i + 1))
        case measure => omega
        case rel => exact ⟨i + 1, z, rfl, by go_num, by omega, by omega, by omega, by omega, HR2, HW2⟩
      · obtain ⟨qa, hqa⟩ : ∃ qa, qa = appB a c m := ⟨_, rfl⟩
        have HQA := Lib.hid hqa
        have HKK : Hid (a.kind = k) := Lib.hid (by simpa using HZK.out)
        refine region_z (S := fun w' => Below W1.heap.size W1 w') [] (by kernel_rfl) (below_drewG' (Below.refl _ _)) (fun hHeld => ?_)
        refine wpAnyZ_take (i := 0) (v := .pointer (some ⟨Y, 0, none⟩)) [1, 3, 4, 5, 6, 7, 8, 9, 10, 11, 12] rfl (by kernel_rfl) (by kernel_rfl) (by kernel_rfl) (by kernel_rfl) (fun _ _ _ h => h) (Or.inl ⟨by kernel_rfl, fun w' hSw => ?_⟩) hHeld ?_
        · clear hHeld hSw
          go_simp
        simp only [Act.put, List.getElem_toArray, List.getElem_cons_zero, List.getElem_cons_succ, List.setIfInBounds_toArray, List.set_cons_zero, List.set_cons_succ]
        refine wpAnyZ_take (i := 1) (v := .int .i64 a.kind) [3, 4, 5, 6, 7, 8, 9, 10, 11, 12] rfl (by kernel_rfl) (by kernel_rfl) (by kernel_rfl) (by kernel_rfl) (fun _ _ _ h => h) (Or.inl ⟨by kernel_rfl, fun w' hSw => ?_⟩) hHeld ?_
        · have e0 := (hSw.cell (p := ⟨Y, 0, none⟩) hlY).trans y0
          clear hHeld hSw
          go_simp
        simp only [Act.put, List.getElem_toArray, List.getElem_cons_zero, List.getElem_cons_succ, List.setIfInBounds_toArray, List.set_cons_zero, List.set_cons_succ]
        refine wpAnyZ_take (i := 2) (v := .int .i64 k) [3, 4, 5, 6, 7, 8, 9, 10, 11, 12] rfl (by kernel_rfl) (by kernel_rfl) (by kernel_rfl) (by kernel_rfl) (fun _ _ _ h => h) (Or.inl ⟨by kernel_rfl, fun w' hSw => ?_⟩) hHeld ?_
        · have e0 := (hSw.cell (p := ⟨PK, 0, none⟩) lpk).trans xk
          clear hHeld hSw
          go_simp
        simp only [Act.put, List.getElem_toArray, List.getElem_cons_zero, List.getElem_cons_succ, List.setIfInBounds_toArray, List.set_cons_zero, List.set_cons_succ]
        refine wpAnyZ_take (i := 3) (v := .bool true) [4, 5, 6, 7, 8, 9, 10, 11, 12] rfl (by kernel_rfl) (by kernel_rfl) (by kernel_rfl) (by kernel_rfl) (fun _ _ _ h => h) (Or.inl ⟨by kernel_rfl, fun w' hSw => ?_⟩) hHeld ?_
        · clear hHeld hSw
          go_simp
        simp only [Act.put, List.getElem_toArray, List.getElem_cons_zero, List.getElem_cons_succ, List.setIfInBounds_toArray, List.set_cons_zero, List.set_cons_succ]
        refine wpAnyZ_take (i := 4) (v := .bool true) [5, 6, 7, 8, 9, 10, 11, 12] rfl (by kernel_rfl) (by kernel_rfl) (by kernel_rfl) (by kernel_rfl) (fun _ _ _ h => h) (Or.inl ⟨by kernel_rfl, fun w' hSw => ?_⟩) hHeld ?_
        · clear hHeld hSw
          go_simp
        simp only [Act.put, List.getElem_toArray, List.getElem_cons_zero, List.getElem_cons_succ, List.setIfInBounds_toArray, List.set_cons_zero, List.set_cons_succ]
        refine wpAnyZ_take (i := 5) (v := .agg #[.int .i64 a.kind, .int .i64 a.days, .int .i64 a.frm, .int .i64 a.till, .int .i64 a.price, .int .i64 a.unit, .int .i64 a.free]) [11, 12] rfl (by kernel_rfl) (by kernel_rfl) (by kernel_rfl) (by kernel_rfl) (fun _ _ _ h => h) (Or.inl ⟨by kernel_rfl, fun w' hSw => ?_⟩) hHeld ?_
        · have HA' := HA.out.keep hSw
          obtain ⟨e0, e1, e2, e3, e4, e5, e6⟩ := (show w'.cell? ⟨Y, 0, none⟩ = some (.int .i64 a.kind) ∧ w'.cell? ⟨Y, 1, none⟩ = some (.int .i64 a.days) ∧ w'.cell? ⟨Y, 2, none⟩ = some (.int .i64 a.frm) ∧ w'.cell? ⟨Y, 3, none⟩ = some (.int .i64 a.till) ∧ w'.cell? ⟨Y, 4, none⟩ = some (.int .i64 a.price) ∧ w'.cell? ⟨Y, 5, none⟩ = some (.int .i64 a.unit) ∧ w'.cell? ⟨Y, 6, none⟩ = some (.int .i64 a.free) from ⟨HA'.k0, HA'.k1, HA'.k2, HA'.k3, HA'.k4, HA'.k5, HA'.k6⟩)
          clear HA'
          clear hHeld hSw
          go_simp
        simp only [Act.put, List.getElem_toArray, List.getElem_cons_zero, List.getElem_cons_succ, List.setIfInBounds_toArray, List.set_cons_zero, List.set_cons_succ]
        refine wpAnyZ_take (i := 6) (v := .pointer (some ⟨q, 0, none⟩)) [7, 8, 9, 11, 12] rfl (by kernel_rfl) (by kernel_rfl) (by kernel_rfl) (by kernel_rfl) (fun _ _ _ h => h) (Or.inl ⟨by kernel_rfl, fun w' hSw => ?_⟩) hHeld ?_
        · have e0 := (hSw.cell (p := ⟨PQ, 0, none⟩) lpq).trans xq
          clear hHeld hSw
          go_simp
        simp only [Act.put, List.getElem_toArray, List.getElem_cons_zero, List.getElem_cons_succ, List.setIfInBounds_toArray, List.set_cons_zero, List.set_cons_succ]
        refine wpAnyZ_take (i := 7) (v := .pointer (some ⟨q, 0, none⟩)) [8, 9, 11, 12] rfl (by kernel_rfl) (by kernel_rfl) (by kernel_rfl) (by kernel_rfl) (fun _ _ _ h => h) (Or.inl ⟨by kernel_rfl, fun w' hSw => ?_⟩) hHeld ?_
        · clear hHeld hSw
          go_simp
        simp only [Act.put, List.getElem_toArray, List.getElem_cons_zero, List.getElem_cons_succ, List.setIfInBounds_toArray, List.set_cons_zero, List.set_cons_succ]
        refine wpAnyZ_take (i := 8) (v := .pointer (some ⟨q, 2, none⟩)) [9, 11, 12] rfl (by kernel_rfl) (by kernel_rfl) (by kernel_rfl) (by kernel_rfl) (fun _ _ _ h => h) (Or.inl ⟨by kernel_rfl, fun w' hSw => ?_⟩) hHeld ?_
        · clear hHeld hSw
          go_simp
        simp only [Act.put, List.getElem_toArray, List.getElem_cons_zero, List.getElem_cons_succ, List.setIfInBounds_toArray, List.set_cons_zero, List.set_cons_succ]
        refine wpAnyZ_take (i := 9) (v := .agg #[.int .i64 c.off, .slice aC nC cC, .slice aH nH cH]) [11, 12] rfl (by kernel_rfl) (by kernel_rfl) (by kernel_rfl) (by kernel_rfl) (fun _ _ _ h => h) (Or.inl ⟨by kernel_rfl, fun w' hSw => ?_⟩) hHeld ?_
        · obtain ⟨e0, e1, e2⟩ : w'.cell? ⟨q, 2, none⟩ = some (.int .i64 c.off) ∧ w'.cell? ⟨q, 3, none⟩ = some (.slice aC nC cC) ∧ w'.cell? ⟨q, 4, none⟩ = some (.slice aH nH cH) := ⟨(HQ1.out.keep hSw).p2, (HQ1.out.keep hSw).p3, (HQ1.out.keep hSw).p4⟩
          clear hHeld hSw
          go_simp
        simp only [Act.put, List.getElem_toArray, List.getElem_cons_zero, List.getElem_cons_succ, List.setIfInBounds_toArray, List.set_cons_zero, List.set_cons_succ]
        refine wpAnyZ_take (i := 10) (v := .int .i64 m) [11, 12] rfl (by kernel_rfl) (by kernel_rfl) (by kernel_rfl) (by kernel_rfl) (fun _ _ _ h => h) (Or.inl ⟨by kernel_rfl, fun w' hSw => ?_⟩) hHeld ?_
        · clear hHeld hSw
          go_simp
        simp only [Act.put, List.getElem_toArray, List.getElem_cons_zero, List.getElem_cons_succ, List.setIfInBounds_toArray, List.set_cons_zero, List.set_cons_succ]
        refine wpAnyZ_one (i := 11) (by kernel_rfl) rfl (fun K' hK => ?_)
        go_simp
        refine (tfApplies_any a aC nC cC aH nH cH c m _ (Lib.hid (HQ1.out.keep hHeld).rc)).mono ?_
        rintro e w4 ⟨rfl, hb4⟩
        refine hK.out _ _ ?_ (fun hHeld' => ?_)
        · exact hHeld.trans (hb4.mono hHeld.size)
        clear hK K' hHeld hb4
        have hHeld := hHeld'
        clear hHeld'
        try simp only [Act.put, List.getElem_toArray, List.getElem_cons_zero, List.getElem_cons_succ, List.setIfInBounds_toArray, List.set_cons_zero, List.set_cons_succ]
        refine wpAnyZ_take (i := 12) (v := .bool (appB a c m)) [] rfl (by kernel_rfl) (by kernel_rfl) (by kernel_rfl) (by kernel_rfl) (fun _ _ _ h => h) (Or.inl ⟨by kernel_rfl, fun w' hSw => ?_⟩) hHeld ?_
        · clear hHeld hSw
          go_simp
        simp only [Act.put, List.getElem_toArray, List.getElem_cons_zero, List.getElem_cons_succ, List.setIfInBounds_toArray, List.set_cons_zero, List.set_cons_succ]
        refine wpAnyZ_done (by kernel_rfl) ?_ _
        go_step
        go_step
        have HW2 := Lib.hid (below_then HW1.out hHeld)
        have y4 := (hHeld.cell (p := ⟨Y, 4, none⟩) hlY).trans HA.out.k4
        have hlY4 : Y < w4.heap.size := World.block_lt_of_cell? w4 _ y4
        clear hHeld y0 hlY xk lpk xq lpq
        rw [← hqa]
        clear hqa
        cases qa
        · have HR2 : Hid (inQ k c m ar = z + inQ k c m (ar.drop (i + 1))) := Lib.hid (by rw [HRR.out, if_neg (fun h => by have := HQA.out; rw [h.2] at this; cases this)]; omega)
          go_wp2_with fail
          go_roundg (nT - (i + 1))
          case measure => omega
          case rel => exact ⟨i + 1, z, rfl, by go_num, by omega, by omega, by omega, by omega, HR2, HW2⟩
        · have HR2 : Hid (inQ k c m ar = (z + a.price) + inQ k c m (ar.drop (i + 1))) := Lib.hid (by rw [HRR.out, if_pos ⟨HKK.out, HQA.out.symm⟩]; omega)
          have hwi : IntKind.i64.wrap (z + a.price) = z + a.price := IntWalk.i64_in _ (by omega)
          go_wp2_with fail
          go_roundg (nT - (i + 1))
          case measure => omega
          case rel => exact ⟨i + 1, z + a.price, rfl, by go_num, by omega, by omega, by omega, by omega, HR2, HW2⟩
    · have hltz : ¬ (i : Int) < (nT : Int) := by omega
      have HE : Hid (inQ k c m ar = z) := Lib.hid (by rw [HR.out, List.drop_eq_nil_of_le (by rw [HQ.out.rt.la]; omega)]; simp [inQ])
      go_wp2_with fail
      go_ret
      exact ⟨by rw [HE.out]; rfl, HW.out⟩
end Go.Proofs.YtoekpdnpncgeeaaGreat
/-
quote: in how many minutes an article applies, and the greatest value.
-/
namespace Go.Proofs.YtoekpdnpncgeeaaGreat
open Go.Shelf
open Go.RowKit
set_option linter.unusedVariables false
set_option linter.unusedSimpArgs false
attribute [local go_sem] Oper.semAt_some
def cntL (a : Art) (c : Cal) (f : Int) (l : List Nat) : Nat := (l.filter (fun i => appB a c (f + (i : Nat)))).length
theorem cntL_le (a : Art) (c : Cal) (f : Int) (l : List Nat) : cntL a c f l ≤ l.length := List.length_filter_le _ _
theorem cntL_snoc (a : Art) (c : Cal) (f : Int) (l : List Nat) (x : Nat) : cntL a c f (l ++ [x]) = if appB a c (f + (x : Nat)) = true then cntL a c f l + 1 else cntL a c f l := by
  unfold cntL
  rw [List.filter_append, List.length_append]
  by_cases h : appB a c (f + (x : Nat)) = true
  · rw [if_pos h]; simp [h]
  · rw [if_neg h]; simp [h]
theorem cntL_range (a : Art) (c : Cal) (f : Int) : ∀ n, cntL a c f (List.range n) = cntN a c f n
  | 0 => rfl
  | n + 1 => by
    rw [List.range_succ, cntL_snoc, cntL_range a c f n, cntN]
    split <;> simp
def CtA (PQ AY C : Nat) (f : Int) (x : Nat) (a' : Act) : Prop := ∃ u0 u1 u4 u7 u8 u9 u10 u11 u12 u13 u14 u15 u16 u17 u18 u19 u20 u21 u22 u23 u24 u25 u26, a' = ⟨List.toArray (u0 :: u1 :: (.pointer (some ⟨PQ, 0, none⟩)) :: (.pointer (some ⟨AY, 0, none⟩)) :: u4 :: (.pointer (some ⟨C, 0, none⟩)) :: (.int .i64 (f + (x : Nat))) :: u7 :: u8 :: u9 :: u10 :: u11 :: u12 :: u13 :: u14 :: u15 :: u16 :: u17 :: u18 :: u19 :: u20 :: u21 :: u22 :: u23 :: u24 :: u25 :: u26 :: []), []⟩
theorem keepsFrom_belowQ {W W' : World} (h : Below W.heap.size W W') {B : Nat} : KeepsFrom B W W' :=
  ⟨h.size, fun q o _ ho _ => by rw [h.block q (Array.getElem?_eq_some_iff.1 ho).1]; exact ho⟩
theorem cell_ncQ {B : Nat} {W W' : World} {p : Addr} {v : Value} (h : W.cell? p = some v) (hn : Nc B W W') : W'.cell? p = some v := by
  obtain ⟨row, hg, hr⟩ := hn
  have hl := World.block_lt_of_cell? W _ h
  rw [← h]
  refine World.cell?_of_block (hg.block p.block hl (fun e => ?_))
  obtain ⟨_, o, ho, hc⟩ := hr p.block e.symm
  unfold World.cell? at h
  rw [ho] at h
  cases o <;> first | (simp [Obj.isCells] at hc; done) | (simp at h; done)
theorem ArtM.nc {w W W' : World} {Y : Nat} {a : Art} {B : Nat} (h : ArtM w W Y a) (hn : Nc B W W') (hB : w.heap.size ≤ B) : ArtM w W' Y a :=
  ⟨below_nc h.bel (Nat.le_refl _) hn hB, cell_ncQ h.k0 hn, cell_ncQ h.k1 hn, cell_ncQ h.k2 hn, cell_ncQ h.k3 hn, cell_ncQ h.k4 hn, cell_ncQ h.k5 hn, cell_ncQ h.k6 hn⟩
theorem ArtM.mod {w W W' : World} {Y : Nat} {a : Art} {g : Nat} (h : ArtM w W Y a) (hm : Mod (fun j => j = g) W W') (hg : Y ≠ g) (hw : w.heap.size ≤ g) : ArtM w W' Y a :=
  ⟨h.bel.trans (hm.below h.bel.size (fun j _ e => by omega)), (hm.cell (World.block_lt_of_cell? _ _ h.k0) hg).trans h.k0, (hm.cell (World.block_lt_of_cell? _ _ h.k1) hg).trans h.k1, (hm.cell (World.block_lt_of_cell? _ _ h.k2) hg).trans h.k2, (hm.cell (World.block_lt_of_cell? _ _ h.k3) hg).trans h.k3, (hm.cell (World.block_lt_of_cell? _ _ h.k4) hg).trans h.k4, (hm.cell (World.block_lt_of_cell? _ _ h.k5) hg).trans h.k5, (hm.cell (World.block_lt_of_cell? _ _ h.k6) hg).trans h.k6⟩
set_option maxRecDepth 100000 in
set_option maxHeartbeats 16000000 in
theorem qCount_any (q : Nat) (nm : ByteArray) (aT : Option Addr) (nT cT : Nat) (ar : List Art) (aC : Option Addr) (nC cC : Nat) (aH : Option Addr) (nH cH : Nat) (c : Cal) (f t : Int) (a : Art) (w : World) (HQ : Hid (QuM w q nm aT nT cT ar aC nC cC aH nH cH c f t)) (hf : 0 ≤ f) (ht : t ≤ 1000000000) : Calls Tryz.prog 48 #[.pointer (some ⟨q, 0, none⟩), .agg #[.int .i64 a.kind, .int .i64 a.days, .int .i64 a.frm, .int .i64 a.till, .int .i64 a.price, .int .i64 a.unit, .int .i64 a.free]] w fun e w' => e = .returned (.int .i64 (cntN a c f (t - f).toNat : Nat)) ∧ Below w.heap.size w w' := by
  have HFT : Hid (0 ≤ f ∧ t ≤ 1000000000) := Lib.hid ⟨hf, ht⟩
  obtain ⟨W1, hW1⟩ : ∃ W, W = ((w.alloc (.cells #[.pointer (some ⟨q, 0, none⟩)] 75)).alloc (.cells #[.int .i64 a.kind, .int .i64 a.days, .int .i64 a.frm, .int .i64 a.till, .int .i64 a.price, .int .i64 a.unit, .int .i64 a.free] 49)).alloc (.cells #[.int .i64 0] 3) := ⟨_, rfl⟩
  obtain ⟨PQ, hPQ⟩ : ∃ B, B = w.heap.size := ⟨_, rfl⟩
  have hb0 : Below w.heap.size w (w.alloc (.cells #[.pointer (some ⟨q, 0, none⟩)] 75)) := (Below.refl _ _).alloc (Nat.le_refl _) _
  have HA0 : Hid (ArtM w W1 (PQ + 1) a) := Lib.hid (by
    rw [hW1, hPQ, show w.heap.size + 1 = (w.alloc (.cells #[.pointer (some ⟨q, 0, none⟩)] 75)).heap.size by simp]
    exact (ArtM.box hb0).keep ((Below.refl _ _).alloc (Nat.le_refl _) _))
  have HOC : Hid (Own W1 (PQ + 1 + 1) 3 1 (fun _ => .int .i64 0)) := Lib.hid (by rw [hW1, hPQ]; exact Own.newAt _ 3 _ _ (by simp) (n := 1) rfl (fun i hi => by match i, hi with | 0, _ => rfl))
  have xq0 : W1.cell? ⟨PQ, 0, none⟩ = some (.pointer (some ⟨q, 0, none⟩)) := by rw [hW1, hPQ]; go_simp
  have XQ0 := Lib.hid xq0
  have HW1 := Lib.hid hW1
  have HP0 := Lib.hid hPQ
  clear hW1 hPQ hb0 xq0 hf ht
  refine (callsIn_wide (n := 5)).1 ?_
  refine callsIn_of_wp_marks Tryz.func48 rfl trivial ?_ rfl
  refine wpIn_wide.2 ?_
  simp only [Tryz.ntmps48, List.size_toArray, List.length_cons, List.length_nil, Nat.reduceAdd, Nat.reduceSub, Array.replicate_succ, Array.replicate_zero, List.push_toArray, List.append_toArray, List.nil_append, List.cons_append]
  go_upto_region 2 with (fail)
  rw [← HW1.out, ← HP0.out]
  clear HW1
  obtain ⟨C, hC⟩ : ∃ B, B = PQ + 1 + 1 := ⟨_, rfl⟩
  obtain ⟨AY, hAY⟩ : ∃ B, B = PQ + 1 := ⟨_, rfl⟩
  rw [← hC] at HOC ⊢
  rw [← hAY] at HA0 ⊢
  have HLAY : Hid (PQ < AY ∧ AY < C ∧ w.heap.size ≤ PQ) := Lib.hid (by have := HP0.out; omega)
  clear hC hAY HP0
  have HQ1 := Lib.hid (HQ.out.keep HA0.out.bel)
  have xq : W1.cell? ⟨PQ, 0, none⟩ = some (.pointer (some ⟨q, 0, none⟩)) := XQ0.out
  have hlP : PQ < W1.heap.size := World.block_lt_of_cell? W1 _ xq
  refine wp_normal (fun K hK => ?_)
  have HKK := Lib.hid hK
  clear hK
  refine region_z (S := fun w' => Below W1.heap.size W1 w') [] (by kernel_rfl) (below_drewG' (Below.refl _ _)) (fun hHeld => ?_)
  refine wpAnyZ_take (i := 0) (v := .pointer (some ⟨q, 0, none⟩)) [1, 2, 3, 8] rfl (by kernel_rfl) (by kernel_rfl) (by kernel_rfl) (by kernel_rfl) (fun _ _ _ h => h) (Or.inl ⟨by kernel_rfl, fun w' hSw => ?_⟩) hHeld ?_
  · have e0 := (hSw.cell (p := ⟨PQ, 0, none⟩) hlP).trans xq
    clear hHeld hSw
    go_simp
  simp only [Act.put, List.getElem_toArray, List.getElem_cons_zero, List.getElem_cons_succ, List.setIfInBounds_toArray, List.set_cons_zero, List.set_cons_succ]
  refine wpAnyZ_take (i := 1) (v := .pointer (some ⟨q, 0, none⟩)) [2, 3, 8] rfl (by kernel_rfl) (by kernel_rfl) (by kernel_rfl) (by kernel_rfl) (fun _ _ _ h => h) (Or.inl ⟨by kernel_rfl, fun w' hSw => ?_⟩) hHeld ?_
  · clear hHeld hSw
    go_simp
  simp only [Act.put, List.getElem_toArray, List.getElem_cons_zero, List.getElem_cons_succ, List.setIfInBounds_toArray, List.set_cons_zero, List.set_cons_succ]
  refine wpAnyZ_take (i := 2) (v := .pointer (some ⟨q, 5, none⟩)) [3, 8] rfl (by kernel_rfl) (by kernel_rfl) (by kernel_rfl) (by kernel_rfl) (fun _ _ _ h => h) (Or.inl ⟨by kernel_rfl, fun w' hSw => ?_⟩) hHeld ?_
  · clear hHeld hSw
    go_simp
  simp only [Act.put, List.getElem_toArray, List.getElem_cons_zero, List.getElem_cons_succ, List.setIfInBounds_toArray, List.set_cons_zero, List.set_cons_succ]
  refine wpAnyZ_take (i := 3) (v := .int .i64 f) [8] rfl (by kernel_rfl) (by kernel_rfl) (by kernel_rfl) (by kernel_rfl) (fun _ _ _ h => h) (Or.inl ⟨by kernel_rfl, fun w' hSw => ?_⟩) hHeld ?_
  · have e0 := (HQ1.out.keep hSw).p5
    clear hHeld hSw
    go_simp
  simp only [Act.put, List.getElem_toArray, List.getElem_cons_zero, List.getElem_cons_succ, List.setIfInBounds_toArray, List.set_cons_zero, List.set_cons_succ]
  refine wpAnyZ_take (i := 4) (v := .pointer (some ⟨q, 0, none⟩)) [5, 6, 7, 8] rfl (by kernel_rfl) (by kernel_rfl) (by kernel_rfl) (by kernel_rfl) (fun _ _ _ h => h) (Or.inl ⟨by kernel_rfl, fun w' hSw => ?_⟩) hHeld ?_
  · have e0 := (hSw.cell (p := ⟨PQ, 0, none⟩) hlP).trans xq
    clear hHeld hSw
    go_simp
  simp only [Act.put, List.getElem_toArray, List.getElem_cons_zero, List.getElem_cons_succ, List.setIfInBounds_toArray, List.set_cons_zero, List.set_cons_succ]
  refine wpAnyZ_take (i := 5) (v := .pointer (some ⟨q, 0, none⟩)) [6, 7, 8] rfl (by kernel_rfl) (by kernel_rfl) (by kernel_rfl) (by kernel_rfl) (fun _ _ _ h => h) (Or.inl ⟨by kernel_rfl, fun w' hSw => ?_⟩) hHeld ?_
  · clear hHeld hSw
    go_simp
  simp only [Act.put, List.getElem_toArray, List.getElem_cons_zero, List.getElem_cons_succ, List.setIfInBounds_toArray, List.set_cons_zero, List.set_cons_succ]
  refine wpAnyZ_take (i := 6) (v := .pointer (some ⟨q, 6, none⟩)) [7, 8] rfl (by kernel_rfl) (by kernel_rfl) (by kernel_rfl) (by kernel_rfl) (fun _ _ _ h => h) (Or.inl ⟨by kernel_rfl, fun w' hSw => ?_⟩) hHeld ?_
  · clear hHeld hSw
    go_simp
  simp only [Act.put, List.getElem_toArray, List.getElem_cons_zero, List.getElem_cons_succ, List.setIfInBounds_toArray, List.set_cons_zero, List.set_cons_succ]
  refine wpAnyZ_take (i := 7) (v := .int .i64 t) [8] rfl (by kernel_rfl) (by kernel_rfl) (by kernel_rfl) (by kernel_rfl) (fun _ _ _ h => h) (Or.inl ⟨by kernel_rfl, fun w' hSw => ?_⟩) hHeld ?_
  · have e0 := (HQ1.out.keep hSw).p6
    clear hHeld hSw
    go_simp
  simp only [Act.put, List.getElem_toArray, List.getElem_cons_zero, List.getElem_cons_succ, List.setIfInBounds_toArray, List.set_cons_zero, List.set_cons_succ]
  refine wpAnyZ_one (i := 8) (by kernel_rfl) rfl (fun K' hK => ?_)
  go_simp
  refine (qMinutes_any f t _).mono ?_
  rintro e w3 ⟨rfl, hw3⟩
  obtain ⟨wd, hwd⟩ : ∃ W, W = W1.drew := ⟨_, rfl⟩
  try rw [show W1.drew.heap.size = W1.heap.size from rfl]
  rw [← hwd] at hw3
  have hbd : Below W1.heap.size W1 wd := by rw [hwd]; exact below_drewG' (Below.refl _ _)
  have hsd : wd.heap.size = W1.heap.size := by rw [hwd]; rfl
  have b3 : Below W1.heap.size W1 w3 := by rw [hw3]; exact (hbd.alloc (by omega) _).alloc (by simp; omega) _
  obtain ⟨N, hN⟩ : ∃ N, N = W1.heap.size := ⟨_, rfl⟩
  have z1 : w3.cell? ⟨N, 0, none⟩ = some (.int .i64 f) := by rw [hw3, hN, ← hsd]; go_simp
  have z2 : w3.cell? ⟨N + 1, 0, none⟩ = some (.int .i64 t) := by rw [hw3, hN, ← hsd]; go_simp
  have hs3 : w3.heap.size = N + 2 := by rw [hw3, hN, ← hsd]; simp
  rw [← hN]
  have HB3 := Lib.hid b3
  have HNW := Lib.hid hN
  clear hw3 hwd hbd hsd hN
  refine hK.out _ _ ?_ (fun hHeld' => ?_)
  · exact b3
  clear hK K' hHeld b3
  have hHeld := hHeld'
  clear hHeld'
  try simp only [Act.put, List.getElem_toArray, List.getElem_cons_zero, List.getElem_cons_succ, List.setIfInBounds_toArray, List.set_cons_zero, List.set_cons_succ]
  refine wpAnyZ_done (by kernel_rfl) ?_ _
  refine HKK.out _ _ ?_
  clear hHeld
  go_step
  have HBW3 : Hid (Below w.heap.size w w3) := Lib.hid (HA0.out.bel.trans (HB3.out.mono HA0.out.bel.size))
  have HOC3 := Lib.hid (HOC.out.keep HB3.out HOC.out.lt)
  have HA3 := Lib.hid (HA0.out.keep HB3.out)
  have XQ3 : Hid (w3.cell? ⟨PQ, 0, none⟩ = some (.pointer (some ⟨q, 0, none⟩))) := Lib.hid ((HB3.out.cell (p := ⟨PQ, 0, none⟩) hlP).trans xq)
  have HS3 : Hid (w3.heap.size = N + 2 ∧ C < N ∧ w.heap.size ≤ w3.heap.size) := Lib.hid ⟨hs3, by rw [HNW.out]; exact HOC.out.lt, HBW3.out.size⟩
  clear xq hlP hs3
  go_step
  go_step
  refine range_all HFT.out.1 HFT.out.2 (g := .tmp 15) (p := 16) N (N + 1) w.heap.size HS3.out.2.2 rfl z1 z2 (fun pre W' => Own W' C 3 1 (fun _ => .int .i64 (cntL a c f pre : Nat)) ∧ ArtM w W' AY a ∧ W'.cell? ⟨PQ, 0, none⟩ = some (.pointer (some ⟨q, 0, none⟩)) ∧ w3.heap.size ≤ W'.heap.size) ?hI ⟨HOC3.out, HA3.out, XQ3.out, Nat.le_refl _⟩ (fun x a' => CtA PQ AY C f x a') ?assign ?body ?done
  case hI => exact fun pre W W' h hn => ⟨h.1.nc hn, h.2.1.nc hn HBW3.out.size, cell_ncQ h.2.2.1 hn, Nat.le_trans h.2.2.2 (by obtain ⟨row, hg, _⟩ := hn; exact hg.size)⟩
  case assign =>
    intro l x W1 K hK
    gi_wp2
    exact ⟨_, _, _, _, _, _, _, _, _, _, _, _, _, _, _, _, _, _, _, _, _, _, _, rfl⟩
  case body =>
    rintro l pre x a' W2 ⟨ho, hax, hxq, hsz⟩ ⟨u0, u1, u4, u7, u8, u9, u10, u11, u12, u13, u14, u15, u16, u17, u18, u19, u20, u21, u22, u23, u24, u25, u26, rfl⟩ hlen
    have HO := Lib.hid ho
    have HAx := Lib.hid hax
    have xqx := hxq
    have hlPx : PQ < W2.heap.size := World.block_lt_of_cell? W2 _ xqx
    have HQx := Lib.hid (HQ.out.keep hax.bel)
    have hpn : cntL a c f pre ≤ pre.length := cntL_le a c f pre
    have hpl : cntL a c f pre ≤ 1000000000 := by have := HFT.out; omega
    have HPL := Lib.hid hpl
    have HBL2 : Hid (N + 1 < W2.heap.size ∧ w3.heap.size ≤ W2.heap.size) := Lib.hid ⟨by have := HS3.out; omega, hsz⟩
    clear ho hax hxq hpn hlen hpl hsz
    gi_wp2
    refine region_round_z (S := fun w' => Below W2.heap.size W2 w') [] (by kernel_rfl) (by kernel_rfl) (below_drewG' (Below.refl _ _)) (fun hHeld => ?_)
    refine wpAnyZ_take (i := 0) (v := .agg #[.int .i64 a.kind, .int .i64 a.days, .int .i64 a.frm, .int .i64 a.till, .int .i64 a.price, .int .i64 a.unit, .int .i64 a.free]) [6] rfl (by kernel_rfl) (by kernel_rfl) (by kernel_rfl) (by kernel_rfl) (fun _ _ _ h => absurd h.1 (by simp)) (Or.inl ⟨by rfl, fun w' hSw => ?_⟩) hHeld ?_
    · have HA' := HAx.out.keep hSw
      obtain ⟨e0, e1, e2, e3, e4, e5, e6⟩ := (show w'.cell? ⟨AY, 0, none⟩ = some (.int .i64 a.kind) ∧ w'.cell? ⟨AY, 1, none⟩ = some (.int .i64 a.days) ∧ w'.cell? ⟨AY, 2, none⟩ = some (.int .i64 a.frm) ∧ w'.cell? ⟨AY, 3, none⟩ = some (.int .i64 a.till) ∧ w'.cell? ⟨AY, 4, none⟩ = some (.int .i64 a.price) ∧ w'.cell? ⟨AY, 5, none⟩ = some (.int .i64 a.unit) ∧ w'.cell? ⟨AY, 6, none⟩ = some (.int .i64 a.free) from ⟨HA'.k0, HA'.k1, HA'.k2, HA'.k3, HA'.k4, HA'.k5, HA'.k6⟩)
      clear HA'
      clear hHeld hSw
      go_simp
    simp only [Act.put, List.getElem_toArray, List.getElem_cons_zero, List.getElem_cons_succ, List.setIfInBounds_toArray, List.set_cons_zero, List.set_cons_succ]
    refine wpAnyZ_take (i := 1) (v := .pointer (some ⟨q, 0, none⟩)) [2, 3, 4, 6] rfl (by kernel_rfl) (by kernel_rfl) (by kernel_rfl) (by kernel_rfl) (fun _ _ _ h => absurd h.1 (by simp)) (Or.inl ⟨by rfl, fun w' hSw => ?_⟩) hHeld ?_
    · have e0 := (hSw.cell (p := ⟨PQ, 0, none⟩) hlPx).trans xqx
      clear hHeld hSw
      go_simp
    simp only [Act.put, List.getElem_toArray, List.getElem_cons_zero, List.getElem_cons_succ, List.setIfInBounds_toArray, List.set_cons_zero, List.set_cons_succ]
    refine wpAnyZ_take (i := 2) (v := .pointer (some ⟨q, 0, none⟩)) [3, 4, 6] rfl (by kernel_rfl) (by kernel_rfl) (by kernel_rfl) (by kernel_rfl) (fun _ _ _ h => absurd h.1 (by simp)) (Or.inl ⟨by rfl, fun w' hSw => ?_⟩) hHeld ?_
    · clear hHeld hSw
      go_simp
    simp only [Act.put, List.getElem_toArray, List.getElem_cons_zero, List.getElem_cons_succ, List.setIfInBounds_toArray, List.set_cons_zero, List.set_cons_succ]
    refine wpAnyZ_take (i := 3) (v := .pointer (some ⟨q, 2, none⟩)) [4, 6] rfl (by kernel_rfl) (by kernel_rfl) (by kernel_rfl) (by kernel_rfl) (fun _ _ _ h => absurd h.1 (by simp)) (Or.inl ⟨by rfl, fun w' hSw => ?_⟩) hHeld ?_
    · clear hHeld hSw
      go_simp
    simp only [Act.put, List.getElem_toArray, List.getElem_cons_zero, List.getElem_cons_succ, List.setIfInBounds_toArray, List.set_cons_zero, List.set_cons_succ]
    refine wpAnyZ_take (i := 4) (v := .agg #[.int .i64 c.off, .slice aC nC cC, .slice aH nH cH]) [6] rfl (by kernel_rfl) (by kernel_rfl) (by kernel_rfl) (by kernel_rfl) (fun _ _ _ h => absurd h.1 (by simp)) (Or.inl ⟨by rfl, fun w' hSw => ?_⟩) hHeld ?_
    · obtain ⟨e0, e1, e2⟩ : w'.cell? ⟨q, 2, none⟩ = some (.int .i64 c.off) ∧ w'.cell? ⟨q, 3, none⟩ = some (.slice aC nC cC) ∧ w'.cell? ⟨q, 4, none⟩ = some (.slice aH nH cH) := ⟨(HQx.out.keep hSw).p2, (HQx.out.keep hSw).p3, (HQx.out.keep hSw).p4⟩
      clear hHeld hSw
      go_simp
    simp only [Act.put, List.getElem_toArray, List.getElem_cons_zero, List.getElem_cons_succ, List.setIfInBounds_toArray, List.set_cons_zero, List.set_cons_succ]
    refine wpAnyZ_take (i := 5) (v := .int .i64 (f + (x : Nat))) [6] rfl (by kernel_rfl) (by kernel_rfl) (by kernel_rfl) (by kernel_rfl) (fun _ _ _ h => absurd h.1 (by simp)) (Or.inl ⟨by rfl, fun w' hSw => ?_⟩) hHeld ?_
    · clear hHeld hSw
      go_simp
    simp only [Act.put, List.getElem_toArray, List.getElem_cons_zero, List.getElem_cons_succ, List.setIfInBounds_toArray, List.set_cons_zero, List.set_cons_succ]
    refine wpAnyZ_one (i := 6) (by kernel_rfl) rfl (fun K' hK => ?_)
    go_simp
    refine (tfApplies_any a aC nC cC aH nH cH c (f + (x : Nat)) _ (Lib.hid (HQx.out.keep hHeld).rc)).mono ?_
    rintro e w5 ⟨rfl, hb5⟩
    refine hK.out _ _ ?_ (fun hHeld' => ?_)
    · exact hHeld.trans (hb5.mono hHeld.size)
    clear hK K' hHeld hb5
    have hHeld := hHeld'
    clear hHeld'
    try simp only [Act.put, List.getElem_toArray, List.getElem_cons_zero, List.getElem_cons_succ, List.setIfInBounds_toArray, List.set_cons_zero, List.set_cons_succ]
    refine wpAnyZ_done (by kernel_rfl) ⟨rfl, ?_⟩ _
    have HB5 : Hid (Below W2.heap.size W2 w5) := Lib.hid hHeld
    have HO5 := Lib.hid (HO.out.keep HB5.out HO.out.lt)
    have HA5 := Lib.hid (HAx.out.keep HB5.out)
    have XQ5 : Hid (w5.cell? ⟨PQ, 0, none⟩ = some (.pointer (some ⟨q, 0, none⟩))) := Lib.hid ((HB5.out.cell (p := ⟨PQ, 0, none⟩) hlPx).trans xqx)
    have HKp : Hid (KeepsFrom w3.heap.size W2 w5 ∧ KpQ w.heap.size N (N + 1) W2 w5) := Lib.hid ⟨keepsFrom_belowQ HB5.out, ⟨HB5.out.mono HAx.out.bel.size, HB5.out.block _ (by have := HBL2.out; omega), HB5.out.block _ (by have := HBL2.out; omega)⟩⟩
    clear hHeld xqx hlPx
    obtain ⟨qa, hqa⟩ : ∃ qa, qa = appB a c (f + (x : Nat)) := ⟨_, rfl⟩
    rw [← hqa]
    have HQA := Lib.hid hqa
    clear hqa
    cases qa
    · have HCL : Hid (cntL a c f (pre ++ [x]) = cntL a c f pre) := Lib.hid (by rw [cntL_snoc, if_neg (by rw [← HQA.out]; simp)])
      have HP : Hid (KeepsFrom w3.heap.size W2 w5 ∧ KpQ w.heap.size N (N + 1) W2 w5 ∧ (Own w5 C 3 1 (fun _ => .int .i64 (cntL a c f (pre ++ [x]) : Nat)) ∧ ArtM w w5 AY a ∧ w5.cell? ⟨PQ, 0, none⟩ = some (.pointer (some ⟨q, 0, none⟩)) ∧ w3.heap.size ≤ w5.heap.size)) := Lib.hid ⟨HKp.out.1, HKp.out.2, by rw [HCL.out]; exact HO5.out, HA5.out, XQ5.out, Nat.le_trans HBL2.out.2 HB5.out.size⟩
      gi_wp2
      exact HP.out
    · have HCL : Hid (cntL a c f (pre ++ [x]) = cntL a c f pre + 1) := Lib.hid (by rw [cntL_snoc, if_pos HQA.out.symm])
      obtain ⟨k, hk⟩ : ∃ k, k = cntL a c f pre := ⟨_, rfl⟩
      rw [← hk] at HO5 HCL HPL
      have hk9 := HPL.out
      have q0 := HO5.out.cell (i := 0) (by omega)
      have qf := HO5.out.frozen 0
      have hCl : C < w5.heap.size := HO5.out.lt
      have hm : Mod (fun j => j = C) w5 (w5.setCell ⟨C, 0, none⟩ (.int .i64 ((k : Int) + 1))) := (Mod.refl (fun j => j = C) w5).setCell (p := ⟨C, 0, none⟩) (.inl rfl) _
      have HP : Hid (KeepsFrom w3.heap.size W2 (w5.setCell ⟨C, 0, none⟩ (.int .i64 ((k : Int) + 1))) ∧ KpQ w.heap.size N (N + 1) W2 (w5.setCell ⟨C, 0, none⟩ (.int .i64 ((k : Int) + 1))) ∧ (Own (w5.setCell ⟨C, 0, none⟩ (.int .i64 ((k : Int) + 1))) C 3 1 (fun _ => .int .i64 (cntL a c f (pre ++ [x]) : Nat)) ∧ ArtM w (w5.setCell ⟨C, 0, none⟩ (.int .i64 ((k : Int) + 1))) AY a ∧ (w5.setCell ⟨C, 0, none⟩ (.int .i64 ((k : Int) + 1))).cell? ⟨PQ, 0, none⟩ = some (.pointer (some ⟨q, 0, none⟩)) ∧ w3.heap.size ≤ (w5.setCell ⟨C, 0, none⟩ (.int .i64 ((k : Int) + 1))).heap.size)) := Lib.hid (by
        have hz := HS3.out
        have hl := HLAY.out
        have hb := hm.below (B := w.heap.size) HA5.out.bel.size (fun j _ e => by omega)
        refine ⟨HKp.out.1.trans (keepsFrom_lowQ hm _ (fun k e => by omega)), ⟨HKp.out.2.bel.trans hb, (Below.heap_setCell _ _ _ _ (by show N ≠ C; omega)).trans HKp.out.2.s1, (Below.heap_setCell _ _ _ _ (by show N + 1 ≠ C; omega)).trans HKp.out.2.s2⟩, ?_, HA5.out.mod hm (by omega) (by omega), (hm.cell (World.block_lt_of_cell? _ _ XQ5.out) (by show PQ ≠ C; omega)).trans XQ5.out, Nat.le_trans HBL2.out.2 (Nat.le_trans HB5.out.size hm.size)⟩
        have h1 := HO5.out.set1 (.int .i64 ((k : Int) + 1))
        rw [HCL.out]
        simpa using h1)
      clear hm hk
      gi_wp2
      exact HP.out
  case done =>
    intro D ys W4 hD hS hm hdf
    obtain ⟨ho, hax, _, _⟩ := hm
    have HRES : Hid (cntL a c f ys = cntN a c f (t - f).toNat) := Lib.hid (by rw [hS, cntL_range])
    rw [HRES.out] at ho
    have q0 := ho.cell (i := 0) (by omega)
    have hCl : C < W4.heap.size := ho.lt
    have HB4 := Lib.hid hax.bel
    have HDF : Hid (W4.heap[D]? = some (.deferred (some [])) ∧ N + 2 ≤ D) := Lib.hid ⟨hdf, by have := HS3.out; omega⟩
    clear ho hax hdf hS hD z1 z2
    go_wp2_with fail
    refine leaves_marks (B := w.heap.size + 1) _ _ ⟨[D], rfl, by simp, fun D' hD' => ?_⟩ (fun W3 hT => ?_)
    · have e : D' = D := by simpa using hD'
      subst e
      exact ⟨by have := HDF.out.2; have := HS3.out; have := HLAY.out; omega, (Array.getElem?_eq_some_iff.1 HDF.out.1).1, HDF.out.1⟩
    · refine ⟨_, results_tmp (t := 4) (by kernel_rfl) _ _ _, ?_⟩
      exact ⟨rfl, HB4.out.trans (taken_belowQ hT (by omega))⟩
end Go.Proofs.YtoekpdnpncgeeaaGreat
/-
quote.greatest of what the articles of a kind cost.
-/
namespace Go.Proofs.YtoekpdnpncgeeaaGreat
open Go.Shelf
open Go.RowKit
set_option linter.unusedVariables false
set_option linter.unusedSimpArgs false
attribute [local go_sem] Oper.semAt_some
def grL (g : Nat → Int) (l : List Nat) : Int := l.foldl (fun z i => max z (g i)) 0
theorem grL_snoc (g : Nat → Int) (l : List Nat) (x : Nat) : grL g (l ++ [x]) = max (grL g l) (g x) := by
  unfold grL
  rw [List.foldl_append]
  rfl
def gq (k : Int) (c : Cal) (f t : Int) (ar : List Art) : Int := grL (fun i => inQ k c (f + (i : Nat)) ar) (List.range (t - f).toNat)
def GrA (FB C : Nat) (f : Int) (x : Nat) (a' : Act) : Prop := ∃ u0 u1 u2 u4 u7 u8 u9 u10 u11 u12 u13 u14, a' = ⟨List.toArray (u0 :: u1 :: u2 :: (.pointer (some ⟨FB, 0, none⟩)) :: u4 :: (.pointer (some ⟨C, 0, none⟩)) :: (.int .i64 (f + (x : Nat))) :: u7 :: u8 :: u9 :: u10 :: u11 :: u12 :: u13 :: u14 :: []), []⟩
set_option maxRecDepth 100000 in
set_option maxHeartbeats 16000000 in
theorem qGreat_any (q pf pt PQ PK : Nat) (nm : ByteArray) (aT : Option Addr) (nT cT : Nat) (ar : List Art) (aC : Option Addr) (nC cC : Nat) (aH : Option Addr) (nH cH : Nat) (c : Cal) (f t : Int) (k : Int) (w : World) (HQ : Hid (QuM w q nm aT nT cT ar aC nC cC aH nH cH c f t)) (htl : ar.length ≤ 12 ∧ (∀ a ∈ ar, artB a = true) ∧ taxN ar ≤ 1) (hf : 0 ≤ f) (ht : t ≤ 1000000000) (hq : w.cell? ⟨PQ, 0, none⟩ = some (.pointer (some ⟨q, 0, none⟩))) (hk : w.cell? ⟨PK, 0, none⟩ = some (.int .i64 k)) (hpf : w.cell? ⟨pf, 0, none⟩ = some (.int .i64 f)) (hpt : w.cell? ⟨pt, 0, none⟩ = some (.int .i64 t)) :
    Calls Tryz.prog 44 #[.func (.func 78) #[] #[.pointer (some ⟨pf, 0, none⟩), .pointer (some ⟨pt, 0, none⟩)], .func (.func 79) #[] #[.pointer (some ⟨PQ, 0, none⟩), .pointer (some ⟨PK, 0, none⟩)]] w fun e w' => e = .returned (.int .i64 (gq k c f t ar)) ∧ Below w.heap.size w w' := by
  have HFT : Hid (0 ≤ f ∧ t ≤ 1000000000) := Lib.hid ⟨hf, ht⟩
  have HTL := Lib.hid htl
  have HX0 : Hid (w.cell? ⟨PQ, 0, none⟩ = some (.pointer (some ⟨q, 0, none⟩)) ∧ PQ < w.heap.size ∧ w.cell? ⟨PK, 0, none⟩ = some (.int .i64 k) ∧ PK < w.heap.size) := Lib.hid ⟨hq, World.block_lt_of_cell? _ _ hq, hk, World.block_lt_of_cell? _ _ hk⟩
  have HF0 : Hid (w.cell? ⟨pf, 0, none⟩ = some (.int .i64 f) ∧ pf < w.heap.size ∧ w.cell? ⟨pt, 0, none⟩ = some (.int .i64 t) ∧ pt < w.heap.size) := Lib.hid ⟨hpf, World.block_lt_of_cell? _ _ hpf, hpt, World.block_lt_of_cell? _ _ hpt⟩
  obtain ⟨w3, hw3⟩ : ∃ W, W = (w.alloc (.cells #[.func (.func 79) #[] #[.pointer (some ⟨PQ, 0, none⟩), .pointer (some ⟨PK, 0, none⟩)]] 102)).alloc (.cells #[.int .i64 0] 3) := ⟨_, rfl⟩
  obtain ⟨FB, hFB⟩ : ∃ B, B = w.heap.size := ⟨_, rfl⟩
  have hb3 : Below w.heap.size w w3 := by rw [hw3]; exact ((Below.refl _ _).alloc (Nat.le_refl _) _).alloc (by simp) _
  have xf0 : w3.cell? ⟨FB, 0, none⟩ = some (.func (.func 79) #[] #[.pointer (some ⟨PQ, 0, none⟩), .pointer (some ⟨PK, 0, none⟩)]) := by rw [hw3, hFB]; go_simp
  have HOC : Hid (Own w3 (FB + 1) 3 1 (fun _ => .int .i64 0)) := Lib.hid (by rw [hw3, hFB]; exact Own.newAt _ 3 _ _ (by simp) (n := 1) rfl (fun i hi => by match i, hi with | 0, _ => rfl))
  have HB3 := Lib.hid hb3
  have XF0 := Lib.hid xf0
  have HW3 := Lib.hid hw3
  have HP0 := Lib.hid hFB
  clear hw3 hFB hb3 xf0 hf ht htl hq hk hpf hpt
  refine (callsIn_wide (n := 5)).1 ?_
  refine callsIn_of_wp_marks Tryz.func44 rfl trivial ?_ rfl
  refine wpIn_wide.2 ?_
  simp only [Tryz.ntmps44, List.size_toArray, List.length_cons, List.length_nil, Nat.reduceAdd, Nat.reduceSub, Array.replicate_succ, Array.replicate_zero, List.push_toArray, List.append_toArray, List.nil_append, List.cons_append]
  go_upto_region 2 with (fail)
  rw [← HW3.out, ← HP0.out]
  clear HW3
  obtain ⟨C, hC⟩ : ∃ B, B = FB + 1 := ⟨_, rfl⟩
  rw [← hC] at HOC ⊢
  have HLAY : Hid (FB < C ∧ w.heap.size ≤ FB ∧ w3.heap.size ≤ w3.heap.size) := Lib.hid (by have := HP0.out; omega)
  clear hC HP0
  have z1 : w3.cell? ⟨pf, 0, none⟩ = some (.int .i64 f) := (HB3.out.cell (p := ⟨pf, 0, none⟩) HF0.out.2.1).trans HF0.out.1
  have z2 : w3.cell? ⟨pt, 0, none⟩ = some (.int .i64 t) := (HB3.out.cell (p := ⟨pt, 0, none⟩) HF0.out.2.2.2).trans HF0.out.2.2.1
  go_wp2_with fail
  refine range_all HFT.out.1 HFT.out.2 (g := .tmp 7) (p := 8) pf pt w.heap.size HB3.out.size rfl z1 z2 (fun pre W' => Own W' C 3 1 (fun _ => .int .i64 (grL (fun i => inQ k c (f + (i : Nat)) ar) pre)) ∧ W'.cell? ⟨FB, 0, none⟩ = some (.func (.func 79) #[] #[.pointer (some ⟨PQ, 0, none⟩), .pointer (some ⟨PK, 0, none⟩)]) ∧ Below w.heap.size w W') ?hI ⟨HOC.out, XF0.out, HB3.out⟩ (fun x a' => GrA FB C f x a') ?assign ?body ?done
  case hI => exact fun pre W W' h hn => ⟨h.1.nc hn, cell_ncQ h.2.1 hn, below_nc h.2.2 (Nat.le_refl _) hn HB3.out.size⟩
  case assign =>
    intro l x W1 K hK
    gi_wp2
    exact ⟨_, _, _, _, _, _, _, _, _, _, _, _, rfl⟩
  case body =>
    rintro l pre x a' W2 ⟨ho, xf, hbw⟩ ⟨u0, u1, u2, u4, u7, u8, u9, u10, u11, u12, u13, u14, rfl⟩ hlen
    have HO := Lib.hid ho
    have HBW := Lib.hid hbw
    have HQx := Lib.hid (HQ.out.keep hbw)
    have HXX : Hid (W2.cell? ⟨PQ, 0, none⟩ = some (.pointer (some ⟨q, 0, none⟩)) ∧ PQ < W2.heap.size ∧ W2.cell? ⟨PK, 0, none⟩ = some (.int .i64 k) ∧ PK < W2.heap.size) := Lib.hid ⟨(hbw.cell (p := ⟨PQ, 0, none⟩) HX0.out.2.1).trans HX0.out.1, Nat.lt_of_lt_of_le HX0.out.2.1 hbw.size, (hbw.cell (p := ⟨PK, 0, none⟩) HX0.out.2.2.2).trans HX0.out.2.2.1, Nat.lt_of_lt_of_le HX0.out.2.2.2 hbw.size⟩
    obtain ⟨z, hz⟩ : ∃ z, z = grL (fun i => inQ k c (f + (i : Nat)) ar) pre := ⟨_, rfl⟩
    rw [← hz] at HO
    have HSN : Hid (grL (fun i => inQ k c (f + (i : Nat)) ar) (pre ++ [x]) = max z (inQ k c (f + (x : Nat)) ar)) := Lib.hid (by rw [hz]; exact grL_snoc _ _ _)
    have q0 : W2.cell? ⟨C, 0, none⟩ = some (.int .i64 z) := HO.out.cell (i := 0) (by omega)
    have hlC : C < W2.heap.size := HO.out.lt
    have hlF : FB < W2.heap.size := World.block_lt_of_cell? W2 _ xf
    clear hz ho hbw hlen
    gi_wp2
    refine region_round_z (S := fun w' => Below W2.heap.size W2 w') [5] (by kernel_rfl) (by kernel_rfl) (below_drewG' (Below.refl _ _)) (fun hHeld => ?_)
    refine wpAnyZ_take (i := 0) (v := .int .i64 z) [4, 5] rfl (by kernel_rfl) (by kernel_rfl) (by kernel_rfl) (by kernel_rfl) (fun _ _ _ h => absurd h.1 (by simp)) (Or.inl ⟨by rfl, fun w' hSw => ?_⟩) hHeld ?_
    · have e0 := (hSw.cell (p := ⟨C, 0, none⟩) hlC).trans q0
      clear hHeld hSw
      go_simp
    simp only [Act.put, List.getElem_toArray, List.getElem_cons_zero, List.getElem_cons_succ, List.setIfInBounds_toArray, List.set_cons_zero, List.set_cons_succ]
    refine wpAnyZ_take (i := 1) (v := .func (.func 79) #[] #[.pointer (some ⟨PQ, 0, none⟩), .pointer (some ⟨PK, 0, none⟩)]) [3, 4, 5] rfl (by kernel_rfl) (by kernel_rfl) (by kernel_rfl) (by kernel_rfl) (fun _ _ _ h => absurd h.1 (by simp)) (Or.inl ⟨by rfl, fun w' hSw => ?_⟩) hHeld ?_
    · have e0 := (hSw.cell (p := ⟨FB, 0, none⟩) hlF).trans xf
      clear hHeld hSw
      go_simp
    simp only [Act.put, List.getElem_toArray, List.getElem_cons_zero, List.getElem_cons_succ, List.setIfInBounds_toArray, List.set_cons_zero, List.set_cons_succ]
    refine wpAnyZ_take (i := 2) (v := .int .i64 (f + (x : Nat))) [3, 4, 5] rfl (by kernel_rfl) (by kernel_rfl) (by kernel_rfl) (by kernel_rfl) (fun _ _ _ h => absurd h.1 (by simp)) (Or.inl ⟨by rfl, fun w' hSw => ?_⟩) hHeld ?_
    · clear hHeld hSw
      go_simp
    simp only [Act.put, List.getElem_toArray, List.getElem_cons_zero, List.getElem_cons_succ, List.setIfInBounds_toArray, List.set_cons_zero, List.set_cons_succ]
    refine wpAnyZ_one (i := 3) (by kernel_rfl) rfl (fun K' hK => ?_)
    go_simp
    refine (qIn1_any q PQ PK nm aT nT cT ar aC nC cC aH nH cH c f t k (f + (x : Nat)) _ (Lib.hid (HQx.out.keep hHeld)) HTL.out ((hHeld.cell (p := ⟨PQ, 0, none⟩) HXX.out.2.1).trans HXX.out.1) ((hHeld.cell (p := ⟨PK, 0, none⟩) HXX.out.2.2.2).trans HXX.out.2.2.1)).mono ?_
    rintro e w5 ⟨rfl, hb5⟩
    have HB5 : Hid (Below W2.heap.size W2 w5) := Lib.hid (hHeld.trans (hb5.mono hHeld.size))
    refine hK.out _ _ ?_ (fun hHeld' => ?_)
    · exact HB5.out
    clear hK K' hHeld hb5
    have hHeld := hHeld'
    clear hHeld'
    try simp only [Act.put, List.getElem_toArray, List.getElem_cons_zero, List.getElem_cons_succ, List.setIfInBounds_toArray, List.set_cons_zero, List.set_cons_succ]
    refine wpAnyZ_take (i := 4) (v := .int .i64 (max z (inQ k c (f + (x : Nat)) ar))) [5] rfl (by kernel_rfl) (by kernel_rfl) (by kernel_rfl) (by kernel_rfl) (fun _ _ _ h => absurd h.1 (by simp)) (Or.inl ⟨by rfl, fun w' hSw => ?_⟩) hHeld ?_
    · clear hHeld hSw
      go_simp
      split <;> omega
    simp only [Act.put, List.getElem_toArray, List.getElem_cons_zero, List.getElem_cons_succ, List.setIfInBounds_toArray, List.set_cons_zero, List.set_cons_succ]
    refine wpAnyZ_last (i := 5) (by kernel_rfl) rfl (by kernel_rfl) (fun K' hK => ?_)
    have q5 := (hHeld.cell (p := ⟨C, 0, none⟩) hlC).trans q0
    have f5 := (hHeld.frozen (p := ⟨C, 0, none⟩) hlC).trans (HO.out.frozen 0)
    go_simp
    refine hK.out _ _ ?_
    clear hK K' q5 f5
    try simp only [Act.put, List.getElem_toArray, List.getElem_cons_zero, List.getElem_cons_succ, List.setIfInBounds_toArray, List.set_cons_zero, List.set_cons_succ]
    refine wpAnyZ_done (by kernel_rfl) ⟨rfl, ?_⟩ _
    have hl := HLAY.out
    have hm : Mod (fun j => j = C) w5 (w5.setCell ⟨C, 0, none⟩ (.int .i64 (max z (inQ k c (f + (x : Nat)) ar)))) := (Mod.refl (fun j => j = C) w5).setCell (p := ⟨C, 0, none⟩) (.inl rfl) _
    have hb5 : Below w.heap.size w w5 := HBW.out.trans (HB5.out.mono HBW.out.size)
    have hb := hm.below (B := w.heap.size) hb5.size (fun j _ e => by omega)
    refine ⟨(keepsFrom_belowQ HB5.out).trans (keepsFrom_lowQ hm _ (fun k e => by have := HOC.out.lt; omega)), ⟨(HB5.out.mono HBW.out.size).trans hb, (Below.heap_setCell _ _ _ _ (by show pf ≠ C; have := HF0.out; omega)).trans (HB5.out.block _ (by have := HF0.out; have := HBW.out.size; omega)), (Below.heap_setCell _ _ _ _ (by show pt ≠ C; have := HF0.out; omega)).trans (HB5.out.block _ (by have := HF0.out; have := HBW.out.size; omega))⟩, ?_, ?_, hb5.trans hb⟩
    · rw [HSN.out]
      exact (HO.out.keep HB5.out HO.out.lt).set1 _
    · exact (hm.cell (p := ⟨FB, 0, none⟩) (Nat.lt_of_lt_of_le hlF HB5.out.size) (by show FB ≠ C; omega)).trans ((HB5.out.cell (p := ⟨FB, 0, none⟩) hlF).trans xf)
  case done =>
    intro D ys W4 hD hS hm hdf
    obtain ⟨ho, _, hbw⟩ := hm
    rw [hS] at ho
    have q0 := ho.cell (i := 0) (by omega)
    have hCl : C < W4.heap.size := ho.lt
    have HB4 := Lib.hid hbw
    have HDF : Hid (W4.heap[D]? = some (.deferred (some [])) ∧ w3.heap.size ≤ D) := Lib.hid ⟨hdf, hD⟩
    clear ho hbw hdf hS hD z1 z2
    go_wp2_with fail
    refine leaves_marks (B := w.heap.size) _ _ ⟨[D], rfl, by simp, fun D' hD' => ?_⟩ (fun W3 hT => ?_)
    · have e : D' = D := by simpa using hD'
      subst e
      exact ⟨by have := HDF.out.2; have := HB3.out.size; omega, (Array.getElem?_eq_some_iff.1 HDF.out.1).1, HDF.out.1⟩
    · refine ⟨_, results_tmp (t := 4) (by kernel_rfl) _ _ _, ?_⟩
      exact ⟨rfl, HB4.out.trans (taken_belowQ hT (Nat.le_refl _))⟩
end Go.Proofs.YtoekpdnpncgeeaaGreat
