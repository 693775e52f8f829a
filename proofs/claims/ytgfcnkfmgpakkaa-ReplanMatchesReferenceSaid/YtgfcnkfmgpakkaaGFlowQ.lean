/-
Several texts in one: FlowQ, FlowQ2, FlowG1.
-/
import Derived.Test.YtgfcnkfmgpakkaaCFlowL
import Derived.Test.YtgfcnkfmgpakkaaGFlowA
import Derived.Test.YtgfcnkfmgpakkaaGFlowN
import Derived.Test.YtgfcnkfmgpakkaaGWay
/-
Most, walked: at valid ends it gives a flow and a cut of its amount.
-/
namespace Go.Proofs.Ytgfcnkfmgpakkaa
open Go.RowKit Go.Shelf

def MostPost (w : World) (nn N s t : Nat) (es : List GEdge) (er : Value) (e : Ending) (w' : World) : Prop :=
  ∃ gF gs fl side, e = .returned (.tuple #[.int .i64 (net es fl s), .slice (some ⟨gF, 0, none⟩) N N, .slice (some ⟨gs, 0, none⟩) nn nn, er]) ∧ Own w' gF 3 N (fun i => .int .i64 (fAt fl i)) ∧ Own w' gs 4 nn (fun i => .bool (side[i]?.getD false)) ∧ IsFlow nn es s t fl ∧ IsCut nn s t side ∧ capac es side = net es fl s ∧ Below w.heap.size w w' ∧ w.heap.size ≤ gF ∧ w.heap.size ≤ gs
theorem fAt_rep (N i : Nat) : fAt (List.replicate N 0) i = 0 := by
  show (List.replicate N (0 : Int))[i]?.getD 0 = 0
  rw [List.getElem?_replicate]
  split <;> rfl
theorem net_rep (es : List GEdge) (N : Nat) (u : Int) : net es (List.replicate N 0) u = 0 := by
  unfold net
  rw [S_congr (h := fun _ => 0) (fun i _ => by unfold term; rw [fAt_rep]; simp [pick]), S_zero]
theorem flow_zero {nn N s t : Nat} {es : List GEdge} (hok : okG nn es = true) (hN : es.length = N) : IsFlow nn es s t (List.replicate N 0) :=
  ⟨by simp [hN], fun i hi => by
    obtain ⟨_, _, _, _, h, _⟩ := okG_at hok hi
    rw [fAt_rep]; omega, fun u _ _ _ _ => net_rep es N u⟩
theorem results_tmp4 {fn : Func} {t u v x : Tmp} (h : fn.results = #[.tmp t, .tmp u, .tmp v, .tmp x]) (tmps : Array Value) (P : Program) (w : World) :
    (results fn tmps).run P w = .ok (.tuple #[tmps.getD t undef, tmps.getD u undef, tmps.getD v undef, tmps.getD x undef]) w := by
  simp [results, h]
set_option maxRecDepth 100000 in
set_option maxHeartbeats 2000000 in
theorem fMost_ok (nn c N s t : Nat) (A : Option Addr) (es : List GEdge) (w : World) (hR : Rd 3 encE w A es) (HN : Hid (es.length = N)) (HE : Hid (okEnds nn es s t = true)) :
    Calls Try.prog 55 #[.agg #[.int .i64 nn, .slice A N c], .int .i64 s, .int .i64 t] w (MostPost w nn N s t es (.int .i64 0)) := by
  obtain ⟨hok, e1, e2, e3, e4, e5⟩ := okEnds_iff.1 HE.out
  obtain ⟨n1, n2, hl⟩ := (okG_iff.1 hok).1
  rw [HN.out] at hl
  have HG := Lib.hid hok
  go_enter Try.func55, Try.ntmps55
  go_wp2_with fail
  refine (fEnds_any nn s t A c N es _ (hR.keep ((Below.refl _ w).alloc (Nat.le_refl _) _)) HN.out (by omega)).mono ?_
  rintro e w1 ⟨rfl, hb1⟩
  rw [HE.out]
  have hb1' : Below w.heap.size w w1 := below_then ((Below.refl _ w).alloc (Nat.le_refl _) _) hb1
  have c0 : w1.cell? ⟨w.heap.size, 0, none⟩ = some (.int .i64 nn) := (hb1.cell (p := ⟨w.heap.size, 0, none⟩) (by simp)).trans (by go_simp)
  have c1 : w1.cell? ⟨w.heap.size, 1, none⟩ = some (.slice A N c) := (hb1.cell (p := ⟨w.heap.size, 1, none⟩) (by simp)).trans (by go_simp)
  clear hb1
  go_wp2_with fail
  refine (fNew_any nn A c N es _ (hR.keep hb1') HN HG).mono ?_
  rintro e w2 ⟨gN, gF, gA, base, rfl, hnet, z1, z2, z3, hb2⟩
  have zs := hb1'.size
  have HB2 := Lib.hid (below_then hb1' hb2)
  have HNet := Lib.hid hnet
  clear hb2 hb1' c0 c1 hnet
  go_wp2_with fail
  go_loopg [11] 512000001 (fun g1 v11 wr => ∃ (fl : List Int) (am : Int), v11 = .int .i64 am ∧ 0 ≤ am ∧ am ≤ 512000000 ∧ 512000001 - am ≤ g1 ∧ Hid (am = net es fl s) ∧ Hid (Net wr gN gF gA base nn A N c es fl) ∧ Hid (IsFlow nn es s t fl) ∧ Hid (Below w.heap.size w wr))
  case atStart => exact ⟨List.replicate N 0, 0, by go_num, by omega, by omega, by omega, Lib.hid (net_rep es N s).symm, HNet, Lib.hid (flow_zero HG.out HN.out), HB2⟩
  case round =>
    clear HNet HB2
    obtain ⟨fl, am, rfl, a1, a2, a3, HA, HNet, HF, HB⟩ := hrel
    go_wp2_with fail
    have hs : s < nn := by omega
    have ht : t < nn := by omega
    have hst : s ≠ t := by omega
    have hRd := HNet.out.rd (hR.keep HB.out) HN.out HG.out (fun i hi => HF.out.fits i (by rw [HN.out]; exact hi))
    refine (fSearch_t gN gF gA nn N c s t A es fl wr hRd hs ht hst).mono ?_
    clear hRd
    rintro e w3 ⟨gs, gb, seen, st, rfl, hgs, hgb, hD, hb3, y1, y2⟩
    have hN3 := HNet.out.below hb3
    have hB3 := below_then HB.out hb3
    have yr := HB.out.size
    have ct := hgs.cell ht
    have c1 : w3.cell? ⟨gN, 1, none⟩ = some (.slice A N c) := hN3.hd.cell (i := 1) (by omega)
    have c2 : w3.cell? ⟨gN, 2, none⟩ = some (.slice (some ⟨gF, 0, none⟩) N N) := hN3.hd.cell (i := 2) (by omega)
    have HN3 := Lib.hid hN3
    have HB3 := Lib.hid hB3
    have Hgs := Lib.hid hgs
    have Hgb := Lib.hid hgb
    have tz : (t : Int) < (nn : Int) := by omega
    clear hN3 hB3 hgs hgb hb3
    rcases hD with hD | ⟨xs, hD, hall⟩
    · obtain ⟨p, K, W⟩ := way_of hs ht hD
      have hct : seen[t]?.getD false = true := hD.2.2.2.1
      rw [hct] at ct
      obtain ⟨r1, r2, r3⟩ := flow_more HG.out HN.out HF.out W hst
      have hcap := (net_le_bound HG.out r2 s).2
      have hNpos : 0 < N := by
        rcases Nat.eq_zero_or_pos K with h0 | h0
        · exact absurd (by rw [← W.pK, h0, W.p0]) hst
        · obtain ⟨i, hi, _⟩ := W.good 0 h0
          omega
      go_wp2_with fail
      refine (fAugment_any gN gF gb nn N c s t A es st fl p K w3 HG.out HN.out (HF.out.len.trans HN.out) HF.out.fits c1 c2 (hR.keep HB3.out) Hgb.out HN3.out.flow ⟨?_, ?_, ?_, ?_⟩ W hs ht hst).mono ?_
      · have := HN3.out.flow.lt; omega
      · exact HN3.out.hd.ne HN3.out.flow (by decide)
      · exact Hgb.out.ne HN3.out.flow (by decide)
      · intro a ha
        obtain ⟨b, off, ha', hb', _⟩ := hR (by rw [HN.out]; exact hNpos)
        rw [ha] at ha'
        injection ha' with ha'
        rw [ha']
        show b ≠ gF
        omega
      rintro e w4 ⟨rfl, hF4, hm4⟩
      have HN4 := Lib.hid (HN3.out.mod hm4 (fun k _ x => x) hF4 (r2.len.trans HN.out))
      have HB4 := Lib.hid (HB3.out.trans (hm4.below HB3.out.size (fun k _ x => by omega)))
      have HF4 := Lib.hid r2
      have HA4 := Lib.hid r3
      rw [r3] at hcap
      have hA := HA.out
      generalize roomTo st p (stAt st t).room K = r at *
      have hw1 : am + r ≤ 512000000 := by omega
      clear hF4 hm4 r2 r3 hcap hA
      go_wp2_with fail
      go_roundg ((512000001 - (am + r)).toNat)
      case measure => omega
      case rel => exact ⟨_, am + r, rfl, by omega, by omega, by omega, Lib.hid (by rw [HA4.out, HA.out]), HN4, HF4, HB4⟩
    · obtain ⟨hc, hcap⟩ := cut_most HG.out HN.out hs ht hst HF.out hD hall
      have hct : seen[t]?.getD false = false := hD.notT
      rw [hct] at ct
      go_wp2_with fail
      go_region_held3 (fun w' => w'.cell? ⟨gN, 2, none⟩ = some (.slice (some ⟨gF, 0, none⟩) N N)) (exact c2) (fail)
      go_wp2_with fail
      (try simp only [Exit.inBlock, Exit.then])
      refine bodyPost_ret (results_tmp4 rfl _ _ _) rfl ?_
      exact ⟨gF, gs, fl, seen, by rw [← HA.out]; rfl, HN3.out.flow, Hgs.out, HF.out, hc, hcap, HB3.out.drew, by omega, by omega⟩
end Go.Proofs.Ytgfcnkfmgpakkaa
/-
Most at bad ends.
-/
namespace Go.Proofs.Ytgfcnkfmgpakkaa
open Go.RowKit Go.Shelf
set_option maxRecDepth 100000 in
set_option maxHeartbeats 2000000 in
theorem fMost_bad (nodes s t : Int) (c N : Nat) (A : Option Addr) (es : List GEdge) (w : World) (hR : Rd 3 encE w A es) (HN : Hid (es.length = N)) (hl : N ≤ 9223372036854775807) (HE : Hid (okEnds nodes es s t = false)) :
    Calls Try.prog 55 #[.agg #[.int .i64 nodes, .slice A N c], .int .i64 s, .int .i64 t] w fun e w' => e = .returned (.tuple #[.int .i64 0, .slice none 0 0, .slice none 0 0, .int .i64 1]) ∧ Below w.heap.size w w' := by
  go_enter Try.func55, Try.ntmps55
  go_wp2_with fail
  refine (fEnds_any nodes s t A c N es _ (hR.keep ((Below.refl _ w).alloc (Nat.le_refl _) _)) HN.out hl).mono ?_
  rintro e w1 ⟨rfl, hb1⟩
  rw [HE.out]
  have hb1' : Below w.heap.size w w1 := below_then ((Below.refl _ w).alloc (Nat.le_refl _) _) hb1
  clear hb1
  go_wp2_with fail
  (try simp only [Exit.inBlock, Exit.then])
  refine bodyPost_ret (results_tmp4 rfl _ _ _) rfl ?_
  exact ⟨rfl, hb1'⟩
end Go.Proofs.Ytgfcnkfmgpakkaa
/-
Most, at any ends.
-/
namespace Go.Proofs.Ytgfcnkfmgpakkaa
open Go.RowKit
theorem fMost_cases (nodes s t : Int) (c N : Nat) (A : Option Addr) (es : List GEdge) (w : World) (hR : Rd 3 encE w A es) (HN : Hid (es.length = N)) (HE : Hid (okEnds nodes es s t = true)) :
    Calls Try.prog 55 #[.agg #[.int .i64 nodes, .slice A N c], .int .i64 s, .int .i64 t] w fun e w' => ∃ gF gs fl side, e = .returned (.tuple #[.int .i64 (net es fl s), .slice (some ⟨gF, 0, none⟩) N N, .slice (some ⟨gs, 0, none⟩) nodes.toNat nodes.toNat, .int .i64 0]) ∧
      Rd 1 encI w' (some ⟨gF, 0, none⟩) fl ∧ Rd 1 encB w' (some ⟨gs, 0, none⟩) side ∧ IsFlow nodes es s t fl ∧ IsCut nodes s t side ∧ capac es side = net es fl s ∧ Below w.heap.size w w' := by
  obtain ⟨hok, e1, e2, e3, e4, e5⟩ := okEnds_iff.1 HE.out
  obtain ⟨n1, n2, hl⟩ := (okG_iff.1 hok).1
  obtain ⟨nn, rfl⟩ : ∃ nn : Nat, nodes = nn := ⟨nodes.toNat, by omega⟩
  obtain ⟨s', rfl⟩ : ∃ nn : Nat, s = nn := ⟨s.toNat, by omega⟩
  obtain ⟨t', rfl⟩ : ∃ nn : Nat, t = nn := ⟨t.toNat, by omega⟩
  refine (fMost_ok nn c N s' t' A es w hR HN HE).mono ?_
  rintro e w1 ⟨gF, gs, fl, side, rfl, o1, o2, hf, hc, hcap, hb, _, _⟩
  refine ⟨gF, gs, fl, side, rfl, o1.rd (by rw [Nat.mul_one, hf.len, HN.out]; exact Nat.le_refl _) (fun _ => rfl) ?_, o2.rd (by have := hc.len; omega) (fun _ => rfl) ?_, hf, hc, hcap, hb⟩
  · intro k x hx j v hv
    have hj : j = 0 := by have := (List.getElem?_eq_some_iff.1 hv).1; simp [encI] at this; exact this
    subst hj
    simp only [encI, List.getElem?_cons_zero, Option.some.injEq] at hv
    rw [← hv, Nat.mul_one, Nat.add_zero]
    unfold fAt
    rw [hx]
    rfl
  · intro k x hx j v hv
    have hj : j = 0 := by have := (List.getElem?_eq_some_iff.1 hv).1; simp [encB] at this; exact this
    subst hj
    simp only [encB, List.getElem?_cons_zero, Option.some.injEq] at hv
    rw [← hv, Nat.mul_one, Nat.add_zero, hx]
    rfl
theorem fMost_any (nodes s t : Int) (c N : Nat) (A : Option Addr) (es : List GEdge) (w : World) (hR : Rd 3 encE w A es) (HN : Hid (es.length = N)) (hl : N ≤ 9223372036854775807) :
    Calls Try.prog 55 #[.agg #[.int .i64 nodes, .slice A N c], .int .i64 s, .int .i64 t] w fun e w' => ∃ n A1 l1 c1 A2 l2 c2 er, e = .returned (.tuple #[.int .i64 n, .slice A1 l1 c1, .slice A2 l2 c2, .int .i64 er]) ∧
      ((er = 0 ∧ okEnds nodes es s t = true ∧ IsMost nodes es s t n ∧ -512000000 ≤ n ∧ n ≤ 512000000) ∨ (er = 1 ∧ okEnds nodes es s t = false ∧ n = 0)) ∧ Below w.heap.size w w' := by
  cases hE : okEnds nodes es s t
  · refine (fMost_bad nodes s t c N A es w hR HN hl (Lib.hid hE)).mono ?_
    rintro e w1 ⟨rfl, hb⟩
    exact ⟨_, _, _, _, _, _, _, _, rfl, .inr ⟨rfl, rfl, rfl⟩, hb⟩
  · refine (fMost_cases nodes s t c N A es w hR HN (Lib.hid hE)).mono ?_
    rintro e w1 ⟨gF, gs, fl, side, rfl, _, _, hf, hc, hcap, hb⟩
    have hn := net_le_bound (okEnds_iff.1 hE).1 hf s
    exact ⟨_, _, _, _, _, _, _, _, rfl, .inl ⟨rfl, rfl, ⟨fl, side, hf, hc, rfl, hcap⟩, hn.1, hn.2⟩, hb⟩
/-- The same at ends that are right. -/
theorem fMost_fine (nodes s t : Int) (c N : Nat) (A : Option Addr) (es : List GEdge) (w : World) (hR : Rd 3 encE w A es) (HN : Hid (es.length = N)) (HE : Hid (okEnds nodes es s t = true)) :
    Calls Try.prog 55 #[.agg #[.int .i64 nodes, .slice A N c], .int .i64 s, .int .i64 t] w fun e w' => ∃ n A1 l1 c1 A2 l2 c2, e = .returned (.tuple #[.int .i64 n, .slice A1 l1 c1, .slice A2 l2 c2, .int .i64 0]) ∧
      Hid (IsMost nodes es s t n) ∧ -512000000 ≤ n ∧ n ≤ 512000000 ∧ Below w.heap.size w w' := by
  refine (fMost_cases nodes s t c N A es w hR HN HE).mono ?_
  rintro e w1 ⟨gF, gs, fl, side, rfl, _, _, hf, hc, hcap, hb⟩
  have hn := net_le_bound (okEnds_iff.1 HE.out).1 hf s
  exact ⟨_, _, _, _, _, _, _, rfl, Lib.hid ⟨fl, side, hf, hc, rfl, hcap⟩, hn.1, hn.2, hb⟩
end Go.Proofs.Ytgfcnkfmgpakkaa
