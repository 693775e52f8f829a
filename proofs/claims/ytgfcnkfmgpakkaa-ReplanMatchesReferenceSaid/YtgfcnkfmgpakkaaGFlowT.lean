/-
Several texts in one: FlowR6, FlowR8.
-/
import Derived.Test.YtgfcnkfmgpakkaaGFlowR
/-
The reference's Most, walked.
-/
namespace Go.Proofs.Ytgfcnkfmgpakkaa
open Go.RowKit
set_option linter.unusedVariables false
theorem cut_most2 {nn N s t : Nat} {es : List GEdge} {fl : List Int} {seen : List Bool} (hok : okG nn es = true) (hN : es.length = N) (hs : s < nn) (ht : t < nn) (hst : s ≠ t) (hf : IsFlow nn es s t fl) (lS : seen.length = nn) (src : bAt seen s = true) (notT : bAt seen t = false)
    (hd : ∀ u, u < nn → bAt seen u = true → DoneAt es fl N seen u) : IsCut nn s t seen ∧ capac es seen = net es fl s := by
  have hse : ∀ u : Nat, sAt seen (u : Int) = bAt seen u := fun u => rfl
  have hc : IsCut nn s t seen := ⟨by rw [lS], by rw [hse]; exact src, by rw [hse]; exact notT⟩
  have hE : okEnds nn es s t = true := okEnds_iff.2 ⟨hok, by omega, by omega, by omega, by omega, by omega⟩
  refine ⟨hc, (tight hE hf hc (fun i hi => ?_)).symm⟩
  obtain ⟨a0, a1, b0, b1, _⟩ := okG_at hok hi
  obtain ⟨u, hu⟩ : ∃ u : Nat, (eAt es i).frm = u := ⟨(eAt es i).frm.toNat, by omega⟩
  obtain ⟨v, hv⟩ : ∃ v : Nat, (eAt es i).to = v := ⟨(eAt es i).to.toNat, by omega⟩
  rw [hu, hv, hse, hse]
  refine ⟨fun h1 h2 => ?_, fun h1 h2 => ?_⟩
  · have := (hd u (by omega) h1 i (by omega)).1 hu h2
    rw [hv] at this
    exact this
  · have := (hd v (by omega) h1 i (by omega)).2 hv h2
    rw [hu] at this
    exact this
theorem flow_more2 {nn N s t : Nat} {es : List GEdge} {fl : List Int} {st : List GStep} {p : Nat → Nat} {K : Nat} {r : Int} (hok : okG nn es = true) (hN : es.length = N) (hf : IsFlow nn es s t fl) (W : Way es fl nn N s t st p K) (hst : s ≠ t) (hr : 0 < r) (hroom : ∀ j, j < K → r ≤ (stAt st (p j)).room) :
    IsFlow nn es s t (flTo fl st p r K) ∧ net es (flTo fl st p r K) s = net es fl s + r := by
  have P := part_all (r := r) hok hN (hf.len.trans hN) hf.fits W hr hroom K (Nat.le_refl _)
  have hn := P.nets
  rw [W.pK] at hn
  refine ⟨⟨(flTo_length _ _ _ _ _).trans hf.len, P.fits, fun u u0 u1 us ut => ?_⟩, ?_⟩
  · rw [hn u, hf.kept u u0 u1 us ut, if_neg us, if_neg ut]
    omega
  · rw [hn s, if_pos rfl, if_neg (by omega)]
    omega
/-- The memory of Most: the flow, the graph's box. -/
structure FW (nn N c gF : Nat) (A : Option Addr) (fl : List Int) (w W : World) : Prop where
  fo : Own W gF 3 N (fun i => .int .i64 (fAt fl i))
  c0 : W.cell? ⟨w.heap.size, 0, none⟩ = some (.int .i64 nn)
  c1 : W.cell? ⟨w.heap.size, 1, none⟩ = some (.slice A N c)
  bel : Below w.heap.size w W
  gt : w.heap.size < gF
theorem FW.keep {nn N c gF : Nat} {A : Option Addr} {fl : List Int} {w W W' : World} (h : FW nn N c gF A fl w W) (hb : Below W.heap.size W W') : FW nn N c gF A fl w W' :=
  ⟨h.fo.keep hb h.fo.lt, (hb.cell (p := ⟨w.heap.size, 0, none⟩) (World.block_lt_of_cell? W _ h.c0)).trans h.c0, (hb.cell (p := ⟨w.heap.size, 1, none⟩) (World.block_lt_of_cell? W _ h.c1)).trans h.c1, below_then h.bel hb, h.gt⟩
theorem FW.store {nn N c gF : Nat} {A : Option Addr} {fl : List Int} {w W : World} (h : FW nn N c gF A fl w W) (hl : fl.length = N) (i : Nat) (hi : i < N) (x : Int) : FW nn N c gF A (fl.set i x) w (W.setCell ⟨gF, i, none⟩ (.int .i64 x)).drew := by
  have hg := h.gt
  refine ⟨((h.fo.set i (.int .i64 x)).congr (fun j hj => ?_)).drew, ?_, ?_, Below.drew (h.bel.setCell (p := ⟨gF, i, none⟩) (Nat.le_of_lt hg) _), hg⟩
  · rw [fAt_set _ _ _ _ (by omega)]
    by_cases e : j = i <;> simp [e]
  · show (W.setCell ⟨gF, i, none⟩ (.int .i64 x)).cell? ⟨w.heap.size, 0, none⟩ = _
    rw [World.cell?_setCell_far _ _ _ _ (by dsimp only; omega)]; exact h.c0
  · show (W.setCell ⟨gF, i, none⟩ (.int .i64 x)).cell? ⟨w.heap.size, 1, none⟩ = _
    rw [World.cell?_setCell_far _ _ _ _ (by dsimp only; omega)]; exact h.c1
theorem FW.rd {nn N c gF : Nat} {A : Option Addr} {fl : List Int} {w W : World} (h : FW nn N c gF A fl w W) (hl : fl.length = N) : Rd 1 encI W (some ⟨gF, 0, none⟩) fl :=
  h.fo.rd (by omega) (fun _ => rfl) (fun k x hx j v hv => by
    have hj : j = 0 := by have := (List.getElem?_eq_some_iff.1 hv).1; simp [encI] at this; exact this
    subst hj
    simp only [encI, List.getElem?_cons_zero, Option.some.injEq] at hv
    rw [← hv, Nat.mul_one, Nat.add_zero]
    unfold fAt
    rw [hx]
    rfl)
/-- And the way back: by which edge each node was found. -/
structure MW (nn N c gF gb : Nat) (A : Option Addr) (fl : List Int) (st : List GStep) (w W : World) : Prop where
  f : FW nn N c gF A fl w W
  bo : Own W gb 3 nn (fun i => .int .i64 (byOf N (stAt st i)))
  ne : gF ≠ gb
theorem MW.drewN {nn N c gF gb : Nat} {A : Option Addr} {fl : List Int} {st : List GStep} {w W : World} (h : MW nn N c gF gb A fl st w W) (q : Nat) : MW nn N c gF gb A fl st w (W.drewN q) :=
  ⟨⟨h.f.fo, h.f.c0, h.f.c1, below_drewN h.f.bel q, h.f.gt⟩, h.bo, h.ne⟩
theorem MW.store {nn N c gF gb : Nat} {A : Option Addr} {fl : List Int} {st : List GStep} {w W : World} (h : MW nn N c gF gb A fl st w W) (hl : fl.length = N) (i : Nat) (hi : i < N) (x : Int) : MW nn N c gF gb A (fl.set i x) st w (W.setCell ⟨gF, i, none⟩ (.int .i64 x)).drew :=
  ⟨h.f.store hl i hi x, (h.bo.other (p := ⟨gF, i, none⟩) (Ne.symm h.ne) _).drew, h.ne⟩
/-- What a step of the way reads. -/
theorem way_step {nn N c gF gb s t : Nat} {A : Option Addr} {es : List GEdge} {fl fl2 : List Int} {st : List GStep} {p : Nat → Nat} {K k : Nat} {w W : World} (h : MW nn N c gF gb A fl2 st w W) (hR : Rd 3 encE w A es) (hN : es.length = N) (hok : okG nn es = true) (WY : Way es fl nn N s t st p K) (hk : k < K) :
    ∃ (i be oe : Nat) (cap : Int), i < N ∧ A = some ⟨be, oe, none⟩ ∧ W.cell? ⟨be, oe + i * 3 + 2, none⟩ = some (.int .i64 cap) ∧ 0 ≤ cap ∧ cap ≤ 1000000 ∧ (eAt es i).cap = cap ∧ W.cell? ⟨gF, i, none⟩ = some (.int .i64 (fAt fl2 i)) ∧ W.frozen? ⟨gF, i, none⟩ = false ∧
      (((stAt st (p k)).fwd = true ∧ (stAt st (p k)).edge.toNat = i ∧ (stAt st (p k)).room = cap - fAt fl i ∧ W.cell? ⟨gb, p k, none⟩ = some (.int .i64 (i : Int)) ∧ W.cell? ⟨be, oe + i * 3 + 0, none⟩ = some (.int .i64 (p (k + 1) : Nat))) ∨
       ((stAt st (p k)).fwd = false ∧ (stAt st (p k)).edge.toNat = i ∧ (stAt st (p k)).room = fAt fl i ∧ W.cell? ⟨gb, p k, none⟩ = some (.int .i64 ((i : Int) + (N : Int))) ∧ W.cell? ⟨be, oe + i * 3 + 1, none⟩ = some (.int .i64 (p (k + 1) : Nat)))) := by
  obtain ⟨i, hi, ei, hroom, hor⟩ := WY.good k hk
  obtain ⟨be, oe, e, hA, hble, he, g0, g1, g2⟩ := rdE_at (hR.keep h.f.bel) (k := i) (by rw [hN]; exact hi)
  have ee : eAt es i = e := by unfold eAt; rw [he]; rfl
  have ok := okG_at hok (i := i) (by rw [hN]; exact hi)
  rw [ee] at ok
  have cb := h.bo.cell (i := p k) (WY.lt k (Nat.le_of_lt hk))
  refine ⟨i, be, oe, e.cap, hi, hA, g2, ok.2.2.2.2.1, ok.2.2.2.2.2, by rw [ee], h.f.fo.cell hi, h.f.fo.frozen i, ?_⟩
  by_cases cc : (eAt es i).frm = (p (k + 1) : Nat)
  · left
    have hm : stAt st (p k) = ⟨i, (eAt es i).to, (eAt es i).cap - fAt fl i, true⟩ := by rw [ei]; unfold mkStep; rw [if_pos cc]
    rw [hm] at cb ⊢
    refine ⟨rfl, by simp, by rw [ee], cb, ?_⟩
    rw [ee] at cc
    rw [Nat.add_zero, g0, cc]
  · right
    have hm : stAt st (p k) = ⟨i, (eAt es i).frm, fAt fl i, false⟩ := by rw [ei]; unfold mkStep; rw [if_neg cc]
    have hto : (eAt es i).to = (p (k + 1) : Nat) := by
      rcases hor with h | h
      · exact absurd h cc
      · exact h
    rw [hm] at cb ⊢
    refine ⟨rfl, by simp, rfl, cb, ?_⟩
    rw [ee] at hto
    rw [g1, hto]
set_option maxRecDepth 100000 in
set_option maxHeartbeats 8000000 in
theorem rfMost_ok (nn c N s t : Nat) (A : Option Addr) (es : List GEdge) (w : World) (hR : Rd 3 encE w A es) (HN : Hid (es.length = N)) (HE : Hid (okEnds nn es s t = true)) :
    Calls Try.prog 87 #[.agg #[.int .i64 nn, .slice A N c], .int .i64 s, .int .i64 t] w (MostPost w nn N s t es (.int .i64 0)) := by
  obtain ⟨hok, e1, e2, e3, e4, e5⟩ := okEnds_iff.1 HE.out
  obtain ⟨n1, n2, hl⟩ := (okG_iff.1 hok).1
  rw [HN.out] at hl
  have HG := Lib.hid hok
  have HRR := Lib.hid hR
  obtain ⟨mi, hmk, hmi⟩ := mk_opq (P := Try.prog) 23 3 (.int .i64 0) 8 Try.underlying23 infoInt rfl N (by omega) (by omega)
  have Hmi := Lib.hid hmi
  clear hmi
  go_enter Try.func87, Try.ntmps87
  go_wp2_with fail
  refine (rfEnds_any nn s t A c N es _ (hR.keep ((Below.refl _ w).alloc (Nat.le_refl _) _)) HN.out (by omega)).mono ?_
  rintro e w1 ⟨rfl, hb1⟩
  rw [HE.out]
  have k0 : w1.cell? ⟨w.heap.size, 0, none⟩ = some (.int .i64 nn) := (hb1.cell (p := ⟨w.heap.size, 0, none⟩) (by simp)).trans (by go_simp)
  have k1 : w1.cell? ⟨w.heap.size, 1, none⟩ = some (.slice A N c) := (hb1.cell (p := ⟨w.heap.size, 1, none⟩) (by simp)).trans (by go_simp)
  have b1 : Below w.heap.size w w1 := below_then ((Below.refl _ w).alloc (Nat.le_refl _) _) hb1
  have l1 : w.heap.size < w1.heap.size := World.block_lt_of_cell? w1 _ k0
  have HFW : Hid (FW nn N c w1.heap.size A (List.replicate N 0) w (w1.alloc (.cells mi 3))) := Lib.hid ⟨(Hmi.out w1 _ rfl).congr (fun i hi => by rw [fAt_rep]), by rw [World.cell?_alloc_lt w1 _ ⟨w.heap.size, 0, none⟩ l1]; exact k0, by rw [World.cell?_alloc_lt w1 _ ⟨w.heap.size, 1, none⟩ l1]; exact k1, b1.alloc b1.size _, l1⟩
  have HS0 : Hid (net es (List.replicate N 0) s = 0) := Lib.hid (net_rep es N s)
  have HF0 : Hid (IsFlow nn es s t (List.replicate N 0)) := Lib.hid (flow_zero hok HN.out)
  obtain ⟨gF, hgF⟩ : ∃ gF, gF = w1.heap.size := ⟨_, rfl⟩
  rw [← hgF] at HFW
  clear hb1 Hmi hR
  go_wp2
  rw [← hgF]
  clear hgF hmk k0 k1 l1 b1
  have hss : s < nn := by omega
  have htt : t < nn := by omega
  have hst : s ≠ t := by omega
  go_loopg [15] 512000001 (fun g1 v15 wr => ∃ fl : List Int, (512000000 - net es fl s).toNat + 1 ≤ g1 ∧ Hid (IsFlow nn es s t fl) ∧ Hid (FW nn N c gF A fl w wr))
  case atStart => exact ⟨_, by rw [HS0.out]; omega, HF0, HFW⟩
  case round =>
    clear HFW HS0 HF0
    obtain ⟨fl, hg1, HF, HW⟩ := hrel
    have hlen := HF.out.len
    rw [HN.out] at hlen
    have c0 := HW.out.c0
    have c1 := HW.out.c1
    go_wp2_with fail
    refine (rfReached_any nn c N s N A _ es fl wr (HRR.out.keep HW.out.bel) HN HG hss (HW.out.rd hlen) (Lib.hid hlen)).mono ?_
    rintro e w2 ⟨gs, gb, seen, st, rfl, os, ob, hb2, z1, z2, z3, lS, lB, hsrc, ⟨rk, tree⟩, done⟩
    have HW2 := Lib.hid (HW.out.keep hb2)
    have hgw : gF < wr.heap.size := HW.out.fo.lt
    have hws := HW.out.bel.size
    have sd := os.cell htt
    have htz : (t : Int) < (nn : Int) := by omega
    have d0 := HW2.out.c0
    have d1 := HW2.out.c1
    clear c0 c1 HW
    cases h : bAt seen t
    · rw [h] at sd
      have cm := cut_most2 HG.out HN.out hss htt hst HF.out lS hsrc h done
      have fits : ∀ i, i < N → 0 ≤ fAt fl i ∧ fAt fl i ≤ 1000000 := by
        intro i hi
        have h1 := HF.out.fits i (by rw [HN.out]; exact hi)
        have h2 := okG_at HG.out (i := i) (by rw [HN.out]; exact hi)
        omega
      have CM := Lib.hid cm
      have OS := Lib.hid os
      clear ob tree done cm os
      go_wp2_with fail
      refine (rfAmount_any nn s A _ c N N es fl w2 (HRR.out.keep HW2.out.bel) HN.out hl (HW2.out.rd hlen) hlen fits).mono ?_
      rintro e w3 ⟨rfl, hb3⟩
      have HW3 := Lib.hid (HW2.out.keep hb3)
      have OS3 := Lib.hid (OS.out.keep hb3 OS.out.lt)
      have gs0 : w.heap.size ≤ gs := Nat.le_trans hws z1
      clear d0 d1 sd hb3
      go_wp2_with fail
      (try simp only [Exit.inBlock, Exit.then])
      refine bodyPost_ret (results_tmp4 rfl _ _ _) rfl ?_
      exact ⟨gF, gs, fl, seen, rfl, HW3.out.fo, OS3.out, HF.out, CM.out.1, CM.out.2, HW3.out.bel, Nat.le_of_lt HW3.out.gt, gs0⟩
    · rw [h] at sd
      obtain ⟨p, K, WY⟩ := way_of hss htt ⟨lS, lB, hsrc, h, rk, tree⟩
      have HWY := Lib.hid WY
      have HM : Hid (MW nn N c gF gb A fl st w w2) := Lib.hid ⟨HW2.out, ob, by omega⟩
      have hp0 := WY.p0
      clear WY tree done os ob HW2 d0 d1 h
      go_wp2
      go_loopg [15, 16] K (fun g2 v15 v16 wr => ∃ (k : Nat) (r : Int), v15 = .int .i64 r ∧ v16 = .int .i64 (p k : Nat) ∧ k ≤ K ∧ K - k ≤ g2 ∧ 0 < r ∧ r ≤ 1000000 ∧ Hid (∀ j, j < k → r ≤ (stAt st (p j)).room) ∧ Hid (MW nn N c gF gb A fl st w wr))
      case atStart => exact ⟨0, 1000000, rfl, by rw [HWY.out.p0], by omega, by omega, by omega, by omega, Lib.hid (fun j hj => absurd hj (Nat.not_lt_zero _)), HM⟩
      case round =>
        clear HM sd
        obtain ⟨k, r, rfl, rfl, hk, hg2, hr0, hr1, HRM, HM⟩ := hrel
        have hvz : ((p k : Nat) : Int) < (nn : Int) := by have := HWY.out.lt k hk; omega
        by_cases hkK : k < K
        · have hne : p k ≠ s := HWY.out.ne k hkK
          have hnb : (((p k : Nat) : Int) != (s : Int)) = true := by rw [bne_iff_ne]; omega
          obtain ⟨i, be, oe, cap, hi, hA, q2, q0, q1, hcap, cf, cz, hor⟩ := way_step HM.out HRR.out HN.out HG.out HWY.out hkK
          have hiz : (i : Int) < (N : Int) := by omega
          have hsub : (i : Int) + (N : Int) - (N : Int) = (i : Int) := by omega
          have ff := HF.out.fits i (by rw [HN.out]; exact hi)
          rw [hcap] at ff
          have f0 := ff.1
          have f1 : fAt fl i ≤ 1000000 := by omega
          have rm0 : 0 < (stAt st (p k)).room := by
            obtain ⟨_, _, _, h, _⟩ := HWY.out.good k hkK
            exact h
          have g1 := HM.out.f.c1
          subst hA
          obtain ⟨x, hx⟩ : ∃ x, x = p (k + 1) := ⟨_, rfl⟩
          rw [← hx] at hor
          have Hx := Lib.hid hx
          clear hx hcap ff
          rcases hor with ⟨w1', w2', w3', cb, ce⟩ | ⟨w1', w2', w3', cb, ce⟩
          · have hlt : ((i : Int) < (N : Int)) := hiz
            have HR2 : Hid (∀ j, j < k + 1 → (if cap - fAt fl i < r then cap - fAt fl i else r) ≤ (stAt st (p j)).room) := Lib.hid (fun j hj => by
              by_cases e : j = k
              · subst e; rw [w3']; split <;> omega
              · have := HRM.out j (by omega); split <;> omega)
            have rr0 : 0 < (if cap - fAt fl i < r then cap - fAt fl i else r) := by split <;> omega
            have rr1 : (if cap - fAt fl i < r then cap - fAt fl i else r) ≤ 1000000 := by split <;> omega
            go_upto_region 13 with (fail)
            refine wp_normal (fun K' hK => ?_)
            refine rm13 wr w.heap.size gF gb nn N c _ _ _ _ x r (fAt fl i) _ K' hvz hiz hl hsub f0 f1 q0 q1 (by omega) (by omega) g1 cb q2 cf cz _ _ _ _ _ _ _ _ _ _ _ _ _ _ _ _ _ _ _ _ _ _ _ _ _ _ _ _ _ _ _ _ _ _ _ _ _ _ _ _ _ _ _ _ _ _ _ _ _ _ _ _ _ _ _ _ _ _ _ _ _ _ _ _ _ _ _ _ _ _ _ _ _ _ _ _ _ _ _ _ _ _ _ _ _ _ _ _ _ _ _ _ _ _ _ _ _ _ _ _ _ _ _ _ _ _ _ _ _ _ _ _ _ _ _ _ _ _ _ _ _ _ _ _ _ _ _ _ _ _ _ _ _ _ _ _ _ _ _ _ _ _ _ _ _ _ _ _ _ _ _ _ _ _ _ _ _ _ _ _ _ _ _ _ _ _ ?_
            refine Lib.hid ?_
            intro nq v58 v59 v60 v61 v62 v63 v64 v65 v66 v67 v68 v69 v70 v71 v72 v73 v74 v75 v76
            refine hK _ _ ?_
            clear hK K'
            generalize (if cap - fAt fl i < r then cap - fAt fl i else r) = rr at *
            have HM2 := Lib.hid (HM.out.drewN nq)
            have g1' : (wr.drewN nq).cell? ⟨w.heap.size, 1, none⟩ = some (.slice (some ⟨be, oe, none⟩) N c) := g1
            have cb' : (wr.drewN nq).cell? ⟨gb, p k, none⟩ = some (.int .i64 (i : Int)) := cb
            have ce' : (wr.drewN nq).cell? ⟨be, oe + i * 3 + 0, none⟩ = some (.int .i64 (x : Nat)) := ce
            have cf' : (wr.drewN nq).cell? ⟨gF, i, none⟩ = some (.int .i64 (fAt fl i)) := cf
            have cz' : (wr.drewN nq).frozen? ⟨gF, i, none⟩ = false := cz
            clear HM g1 cb ce cf cz q2
            generalize wr.drewN nq = W at HM2 g1' cb' ce' cf' cz' ⊢
            have g1 := g1'
            have cb := cb'
            have cf := cf'
            have cz := cz'
            clear g1' cb' cf' cz'
            go_step
            go_upto_region 14 with (fail)
            refine wp_normal (fun K' hK => ?_)
            refine rm14 W w.heap.size gF gb nn N c _ _ _ _ x rr (fAt fl i) _ K' hvz hiz hl hsub f0 f1 q0 q1 (by omega) (by omega) g1 cb ce' cf cz _ _ _ _ _ _ _ _ _ _ _ _ _ _ _ _ _ _ _ _ _ _ _ _ _ _ _ _ _ _ _ _ _ _ _ _ _ _ _ _ _ _ _ _ _ _ _ _ _ _ _ _ _ _ _ _ _ _ _ _ _ _ _ _ _ _ _ _ _ _ _ _ _ _ _ _ _ _ _ _ _ _ _ _ _ _ _ _ _ _ _ _ _ _ _ _ _ _ _ _ _ _ _ _ _ _ _ _ _ _ _ _ _ _ _ _ _ _ _ _ _ _ _ _ _ _ _ _ _ _ _ _ _ _ _ _ _ _ _ _ _ _ _ _ _ _ _ _ _ _ _ _ _ _ _ _ _ _ _ _ _ _ _ _ _ _ ?_
            refine Lib.hid ?_
            intro nq v77 v78 v79 v80 v81 v82 v83 v84 v85
            refine hK _ _ ?_
            clear hK K'
            have HM3 := Lib.hid (HM2.out.drewN nq)
            go_wp2
            go_roundg (K - (k + 1))
            case measure => omega
            case rel => exact ⟨k + 1, rr, rfl, by rw [← Hx.out], by omega, by omega, rr0, rr1, HR2, HM3⟩
          · have hlt' : ¬ ((i : Int) + (N : Int) < (N : Int)) := by omega
            have HR2 : Hid (∀ j, j < k + 1 → (if fAt fl i < r then fAt fl i else r) ≤ (stAt st (p j)).room) := Lib.hid (fun j hj => by
              by_cases e : j = k
              · subst e; rw [w3']; split <;> omega
              · have := HRM.out j (by omega); split <;> omega)
            have rr0 : 0 < (if fAt fl i < r then fAt fl i else r) := by split <;> omega
            have rr1 : (if fAt fl i < r then fAt fl i else r) ≤ 1000000 := by split <;> omega
            go_upto_region 16 with (fail)
            generalize (if fAt fl i < r then fAt fl i else r) = rr at *
            refine wp_normal (fun K' hK => ?_)
            refine rm16 wr w.heap.size gF gb nn N c _ _ _ _ x rr (fAt fl i) _ K' hvz hiz hl hsub f0 f1 q0 q1 (by omega) (by omega) g1 cb ce cf cz _ _ _ _ _ _ _ _ _ _ _ _ _ _ _ _ _ _ _ _ _ _ _ _ _ _ _ _ _ _ _ _ _ _ _ _ _ _ _ _ _ _ _ _ _ _ _ _ _ _ _ _ _ _ _ _ _ _ _ _ _ _ _ _ _ _ _ _ _ _ _ _ _ _ _ _ _ _ _ _ _ _ _ _ _ _ _ _ _ _ _ _ _ _ _ _ _ _ _ _ _ _ _ _ _ _ _ _ _ _ _ _ _ _ _ _ _ _ _ _ _ _ _ _ _ _ _ _ _ _ _ _ _ _ _ _ _ _ _ _ _ _ _ _ _ _ _ _ _ _ _ _ _ _ _ _ _ _ _ _ _ _ _ _ _ _ ?_
            refine Lib.hid ?_
            intro nq v97 v98 v99 v100 v101 v102 v103 v104 v105 v106 v107
            refine hK _ _ ?_
            clear hK K'
            have HM3 := Lib.hid (HM.out.drewN nq)
            go_wp2
            go_roundg (K - (k + 1))
            case measure => omega
            case rel => exact ⟨k + 1, rr, rfl, by rw [← Hx.out], by omega, by omega, rr0, rr1, HR2, HM3⟩
        · have hkk : k = K := by omega
          subst hkk
          have hps : p k = s := HWY.out.pK
          have hnb : (((p k : Nat) : Int) != (s : Int)) = false := by rw [hps]; simp
          have HRM' := HRM
          have Hps := Lib.hid hps
          clear hg2 HRM hps
          go_wp2
          go_loopg [16] k (fun g3 v16 wr => ∃ (m : Nat), v16 = .int .i64 (p m : Nat) ∧ m ≤ k ∧ k - m ≤ g3 ∧ Hid (MW nn N c gF gb A (flTo fl st p r m) st w wr))
          case atStart => exact ⟨0, by rw [HWY.out.p0], by omega, by omega, HM⟩
          case round =>
            clear HM hvz hnb
            obtain ⟨m, rfl, hm, hg3, HM⟩ := hrel
            have hvz : ((p m : Nat) : Int) < (nn : Int) := by have := HWY.out.lt m hm; omega
            by_cases hmk : m < k
            · have hne : p m ≠ s := HWY.out.ne m hmk
              have hnb : (((p m : Nat) : Int) != (s : Int)) = true := by rw [bne_iff_ne]; omega
              obtain ⟨i, be, oe, cap, hi, hA, q2, q0, q1, hcap, cf, cz, hor⟩ := way_step HM.out HRR.out HN.out HG.out HWY.out hmk
              have hiz : (i : Int) < (N : Int) := by omega
              have hsub : (i : Int) + (N : Int) - (N : Int) = (i : Int) := by omega
              have PA := part_all HG.out HN.out hlen HF.out.fits HWY.out hr0 HRM'.out m hm
              have ff := PA.fits i (by rw [HN.out]; exact hi)
              rw [hcap] at ff
              have f0 := ff.1
              have f1 : fAt (flTo fl st p r m) i ≤ 1000000 := by omega
              have g1 := HM.out.f.c1
              have hlm : (flTo fl st p r m).length = N := (flTo_length _ _ _ _ _).trans hlen
              subst hA
              obtain ⟨x, hx⟩ : ∃ x, x = p (m + 1) := ⟨_, rfl⟩
              rw [← hx] at hor
              have Hx := Lib.hid hx
              clear hx hcap ff PA
              rcases hor with ⟨w1', w2', w3', cb, ce⟩ | ⟨w1', w2', w3', cb, ce⟩
              · have hfk : flTo fl st p r (m + 1) = (flTo fl st p r m).set i (fAt (flTo fl st p r m) i + r) := by simp only [flTo]; rw [w1', w2']; rfl
                have HM2 : Hid (MW nn N c gF gb (some ⟨be, oe, none⟩) (flTo fl st p r (m + 1)) st w (wr.setCell ⟨gF, i, none⟩ (.int .i64 (fAt (flTo fl st p r m) i + r))).drew) := Lib.hid (by rw [hfk]; exact HM.out.store hlm i hi _)
                go_upto_region 20 with (fail)
                refine wp_normal (fun K' hK => ?_)
                refine rm20 wr w.heap.size gF gb nn N c _ _ _ _ x r (fAt (flTo fl st p r m) i) _ K' hvz hiz hl hsub f0 f1 q0 q1 (by omega) (by omega) g1 cb q2 cf cz _ _ _ _ _ _ _ _ _ _ _ _ _ _ _ _ _ _ _ _ _ _ _ _ _ _ _ _ _ _ _ _ _ _ _ _ _ _ _ _ _ _ _ _ _ _ _ _ _ _ _ _ _ _ _ _ _ _ _ _ _ _ _ _ _ _ _ _ _ _ _ _ _ _ _ _ _ _ _ _ _ _ _ _ _ _ _ _ _ _ _ _ _ _ _ _ _ _ _ _ _ _ _ _ _ _ _ _ _ _ _ _ _ _ _ _ _ _ _ _ _ _ _ _ _ _ _ _ _ _ _ _ _ _ _ _ _ _ _ _ _ _ _ _ _ _ _ _ _ _ _ _ _ _ _ _ _ _ _ _ _ _ _ _ _ _ ?_
                refine Lib.hid ?_
                intro v118 v119 v120 v121 v122 v123 v124 v125 v126 v127 v128 v129 v130 v131 v132
                refine hK _ _ ?_
                clear hK K'
                generalize (wr.setCell ⟨gF, i, none⟩ (.int .i64 (fAt (flTo fl st p r m) i + r))).drew = W at HM2 ⊢
                clear HM g1 cb ce cf cz q2 q0 q1 f0 f1
                obtain ⟨i2, be2, oe2, cap2, hi2, hA2, q2, q0, q1, hcap, cf, cz, hor⟩ := way_step HM2.out HRR.out HN.out HG.out HWY.out hmk
                rcases hor with ⟨y1, y2, y3, cb, ce⟩ | ⟨y1, _⟩
                case inr => rw [w1'] at y1; cases y1
                have hii : i2 = i := y2.symm.trans w2'
                subst hii
                injection hA2 with hA2
                injection hA2 with ea eb
                subst ea eb
                have PA := part_all HG.out HN.out hlen HF.out.fits HWY.out hr0 HRM'.out (m + 1) hmk
                have ff := PA.fits i2 (by rw [HN.out]; exact hi2)
                rw [hcap] at ff
                have f0 := ff.1
                have f1 : fAt (flTo fl st p r (m + 1)) i2 ≤ 1000000 := by omega
                have g1 := HM2.out.f.c1
                rw [← Hx.out] at ce
                clear hcap ff PA
                go_step
                go_upto_region 21 with (fail)
                refine wp_normal (fun K' hK => ?_)
                refine rm21 W w.heap.size gF gb nn N c _ _ _ _ x r (fAt (flTo fl st p r (m + 1)) i2) _ K' hvz hiz hl hsub f0 f1 q0 q1 (by omega) (by omega) g1 cb ce cf cz _ _ _ _ _ _ _ _ _ _ _ _ _ _ _ _ _ _ _ _ _ _ _ _ _ _ _ _ _ _ _ _ _ _ _ _ _ _ _ _ _ _ _ _ _ _ _ _ _ _ _ _ _ _ _ _ _ _ _ _ _ _ _ _ _ _ _ _ _ _ _ _ _ _ _ _ _ _ _ _ _ _ _ _ _ _ _ _ _ _ _ _ _ _ _ _ _ _ _ _ _ _ _ _ _ _ _ _ _ _ _ _ _ _ _ _ _ _ _ _ _ _ _ _ _ _ _ _ _ _ _ _ _ _ _ _ _ _ _ _ _ _ _ _ _ _ _ _ _ _ _ _ _ _ _ _ _ _ _ _ _ _ _ _ _ _ ?_
                refine Lib.hid ?_
                intro nq v133 v134 v135 v136 v137 v138 v139 v140 v141
                refine hK _ _ ?_
                clear hK K'
                have HM3 := Lib.hid (HM2.out.drewN nq)
                go_wp2
                go_roundg (k - (m + 1))
                case measure => omega
                case rel => exact ⟨m + 1, by rw [← Hx.out], by omega, by omega, HM3⟩
              · have hlt' : ¬ ((i : Int) + (N : Int) < (N : Int)) := by omega
                have hfk : flTo fl st p r (m + 1) = (flTo fl st p r m).set i (fAt (flTo fl st p r m) i - r) := by simp only [flTo]; rw [w1', w2']; rfl
                have HM2 : Hid (MW nn N c gF gb (some ⟨be, oe, none⟩) (flTo fl st p r (m + 1)) st w (wr.setCell ⟨gF, i, none⟩ (.int .i64 (fAt (flTo fl st p r m) i - r))).drew) := Lib.hid (by rw [hfk]; exact HM.out.store hlm i hi _)
                go_upto_region 22 with (fail)
                refine wp_normal (fun K' hK => ?_)
                refine rm22 wr w.heap.size gF gb nn N c _ _ _ _ x r (fAt (flTo fl st p r m) i) _ K' hvz hiz hl hsub f0 f1 q0 q1 (by omega) (by omega) g1 cb q2 cf cz _ _ _ _ _ _ _ _ _ _ _ _ _ _ _ _ _ _ _ _ _ _ _ _ _ _ _ _ _ _ _ _ _ _ _ _ _ _ _ _ _ _ _ _ _ _ _ _ _ _ _ _ _ _ _ _ _ _ _ _ _ _ _ _ _ _ _ _ _ _ _ _ _ _ _ _ _ _ _ _ _ _ _ _ _ _ _ _ _ _ _ _ _ _ _ _ _ _ _ _ _ _ _ _ _ _ _ _ _ _ _ _ _ _ _ _ _ _ _ _ _ _ _ _ _ _ _ _ _ _ _ _ _ _ _ _ _ _ _ _ _ _ _ _ _ _ _ _ _ _ _ _ _ _ _ _ _ _ _ _ _ _ _ _ _ _ ?_
                refine Lib.hid ?_
                intro v142 v143 v144 v145 v146 v147 v148 v149 v150 v151 v152 v153 v154 v155 v156 v157 v158 v159 v160
                refine hK _ _ ?_
                clear hK K'
                generalize (wr.setCell ⟨gF, i, none⟩ (.int .i64 (fAt (flTo fl st p r m) i - r))).drew = W at HM2 ⊢
                clear HM g1 cb ce cf cz q2 q0 q1 f0 f1
                obtain ⟨i2, be2, oe2, cap2, hi2, hA2, q2, q0, q1, hcap, cf, cz, hor⟩ := way_step HM2.out HRR.out HN.out HG.out HWY.out hmk
                rcases hor with ⟨y1, _⟩ | ⟨y1, y2, y3, cb, ce⟩
                case inl => rw [w1'] at y1; cases y1
                have hii : i2 = i := y2.symm.trans w2'
                subst hii
                injection hA2 with hA2
                injection hA2 with ea eb
                subst ea eb
                have PA := part_all HG.out HN.out hlen HF.out.fits HWY.out hr0 HRM'.out (m + 1) hmk
                have ff := PA.fits i2 (by rw [HN.out]; exact hi2)
                rw [hcap] at ff
                have f0 := ff.1
                have f1 : fAt (flTo fl st p r (m + 1)) i2 ≤ 1000000 := by omega
                have g1 := HM2.out.f.c1
                rw [← Hx.out] at ce
                clear hcap ff PA
                go_step
                go_upto_region 23 with (fail)
                refine wp_normal (fun K' hK => ?_)
                refine rm23 W w.heap.size gF gb nn N c _ _ _ _ x r (fAt (flTo fl st p r (m + 1)) i2) _ K' hvz hiz hl hsub f0 f1 q0 q1 (by omega) (by omega) g1 cb ce cf cz _ _ _ _ _ _ _ _ _ _ _ _ _ _ _ _ _ _ _ _ _ _ _ _ _ _ _ _ _ _ _ _ _ _ _ _ _ _ _ _ _ _ _ _ _ _ _ _ _ _ _ _ _ _ _ _ _ _ _ _ _ _ _ _ _ _ _ _ _ _ _ _ _ _ _ _ _ _ _ _ _ _ _ _ _ _ _ _ _ _ _ _ _ _ _ _ _ _ _ _ _ _ _ _ _ _ _ _ _ _ _ _ _ _ _ _ _ _ _ _ _ _ _ _ _ _ _ _ _ _ _ _ _ _ _ _ _ _ _ _ _ _ _ _ _ _ _ _ _ _ _ _ _ _ _ _ _ _ _ _ _ _ _ _ _ _ ?_
                refine Lib.hid ?_
                intro nq v161 v162 v163 v164 v165 v166 v167 v168 v169 v170 v171
                refine hK _ _ ?_
                clear hK K'
                have HM3 := Lib.hid (HM2.out.drewN nq)
                go_wp2
                go_roundg (k - (m + 1))
                case measure => omega
                case rel => exact ⟨m + 1, by rw [← Hx.out], by omega, by omega, HM3⟩
            · have hmk' : m = k := by omega
              subst hmk'
              have hnb : (((p m : Nat) : Int) != (s : Int)) = false := by rw [Hps.out]; simp
              obtain ⟨fm1, fm2⟩ := flow_more2 HG.out HN.out HF.out HWY.out hst hr0 HRM'.out
              have nb1 := net_le_bound HG.out HF.out (s : Int)
              have nb2 := net_le_bound HG.out fm1 (s : Int)
              have HF2 := Lib.hid fm1
              have HFF := Lib.hid HM.out.f
              have Hnet := Lib.hid fm2
              clear fm1 HM HRM' hg3
              go_wp2
              go_roundg ((512000000 - net es (flTo fl st p r m) s).toNat + 1)
              case measure => omega
              case rel => exact ⟨_, Nat.le_refl _, HF2, HFF⟩
end Go.Proofs.Ytgfcnkfmgpakkaa
/-
The reference's Most, at any ends.
-/
namespace Go.Proofs.Ytgfcnkfmgpakkaa
open Go.RowKit
set_option maxRecDepth 100000 in
set_option maxHeartbeats 2000000 in
theorem rfMost_bad (nodes s t : Int) (c N : Nat) (A : Option Addr) (es : List GEdge) (w : World) (hR : Rd 3 encE w A es) (HN : Hid (es.length = N)) (hl : N ≤ 9223372036854775807) (HE : Hid (okEnds nodes es s t = false)) :
    Calls Try.prog 87 #[.agg #[.int .i64 nodes, .slice A N c], .int .i64 s, .int .i64 t] w fun e w' => e = .returned (.tuple #[.int .i64 0, .slice none 0 0, .slice none 0 0, .int .i64 1]) ∧ Below w.heap.size w w' := by
  go_enter Try.func87, Try.ntmps87
  go_wp2_with fail
  refine (rfEnds_any nodes s t A c N es _ (hR.keep ((Below.refl _ w).alloc (Nat.le_refl _) _)) HN.out hl).mono ?_
  rintro e w1 ⟨rfl, hb1⟩
  rw [HE.out]
  have hb1' : Below w.heap.size w w1 := below_then ((Below.refl _ w).alloc (Nat.le_refl _) _) hb1
  clear hb1
  go_wp2_with fail
  (try simp only [Exit.inBlock, Exit.then])
  refine bodyPost_ret (results_tmp4 rfl _ _ _) rfl ?_
  exact ⟨rfl, hb1'⟩
theorem rfMost_any (nodes s t : Int) (c N : Nat) (A : Option Addr) (es : List GEdge) (w : World) (hR : Rd 3 encE w A es) (HN : Hid (es.length = N)) (hl : N ≤ 9223372036854775807) :
    Calls Try.prog 87 #[.agg #[.int .i64 nodes, .slice A N c], .int .i64 s, .int .i64 t] w fun e w' => ∃ n A1 l1 c1 A2 l2 c2 er, e = .returned (.tuple #[.int .i64 n, .slice A1 l1 c1, .slice A2 l2 c2, .int .i64 er]) ∧
      ((er = 0 ∧ okEnds nodes es s t = true ∧ IsMost nodes es s t n ∧ -512000000 ≤ n ∧ n ≤ 512000000) ∨ (er = 1 ∧ okEnds nodes es s t = false ∧ n = 0)) ∧ Below w.heap.size w w' := by
  cases hE : okEnds nodes es s t
  · refine (rfMost_bad nodes s t c N A es w hR HN hl (Lib.hid hE)).mono ?_
    rintro e w1 ⟨rfl, hb⟩
    exact ⟨_, _, _, _, _, _, _, _, rfl, .inr ⟨rfl, rfl, rfl⟩, hb⟩
  · obtain ⟨hok, e1, e2, e3, e4, e5⟩ := okEnds_iff.1 hE
    obtain ⟨n1, n2, _⟩ := (okG_iff.1 hok).1
    obtain ⟨nn, rfl⟩ : ∃ nn : Nat, nodes = nn := ⟨nodes.toNat, by omega⟩
    obtain ⟨s', rfl⟩ : ∃ nn : Nat, s = nn := ⟨s.toNat, by omega⟩
    obtain ⟨t', rfl⟩ : ∃ nn : Nat, t = nn := ⟨t.toNat, by omega⟩
    refine (rfMost_ok nn c N s' t' A es w hR HN (Lib.hid hE)).mono ?_
    rintro e w1 ⟨gF, gs, fl, side, rfl, _, _, hf, hc, hcap, hb, _, _⟩
    have hn := net_le_bound hok hf s'
    exact ⟨_, _, _, _, _, _, _, _, rfl, .inl ⟨rfl, rfl, ⟨fl, side, hf, hc, rfl, hcap⟩, hn.1, hn.2⟩, hb⟩
end Go.Proofs.Ytgfcnkfmgpakkaa
