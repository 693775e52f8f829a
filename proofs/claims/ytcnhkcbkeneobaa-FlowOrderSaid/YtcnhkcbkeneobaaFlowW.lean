/-
The law FlowOrder, walked.
-/
import Derived.Test.YtcnhkcbkeneobaaFlowT2
import Derived.Test.YtcnhkcbkeneobaaAppE2
namespace Go.Proofs.Ytcnhkcbkeneobaa
open Go.RowKit
set_option linter.unusedVariables false
set_option maxRecDepth 100000 in
set_option maxHeartbeats 8000000 in
theorem walk_FlowOrder (nodes : Int) (_wn : wf64 nodes) (A : Option Addr) (c N : Nat) (es : List GEdge) {w : World} (hR : Rd 3 encE w A es) (HN : Hid (es.length = N)) (hl : N ≤ 9223372036854775807) (_wz : ∀ e, e ∈ es → wfE e) (s : Int) (_ws : wf64 s) (t : Int) (_wt : wf64 t) (x : Int) (wx : wf64 x) :
    Calls Try.prog 6 #[.agg #[.int .i64 nodes, .slice A N c], .int .i64 s, .int .i64 t, .int .i64 x] w fun e w' => e = .returned (.bool true) ∧ Below w.heap.size w w' := by
  have xb := wf_bd wx
  clear wx
  have a0 : Below w.heap.size w (w.alloc (.cells #[.int .i64 nodes, .slice A N c] 24)) := (Below.refl _ w).alloc (Nat.le_refl _) _
  go_enter Try.func6, Try.ntmps6
  go_wp2_with fail
  refine (lfHead_any _).mono ?_
  rintro e w1 ⟨rfl, hb1⟩
  have k01 : w1.cell? ⟨w.heap.size, 0, none⟩ = some (.int .i64 nodes) := (hb1.cell (p := ⟨w.heap.size, 0, none⟩) (by simp)).trans (by go_simp)
  have k11 : w1.cell? ⟨w.heap.size, 1, none⟩ = some (.slice A N c) := (hb1.cell (p := ⟨w.heap.size, 1, none⟩) (by simp)).trans (by go_simp)
  have b1 : Below w.heap.size w w1 := below_then a0 hb1
  have l1 : w.heap.size < w1.heap.size := World.block_lt_of_cell? w1 _ k01
  have r1 := hR.keep b1
  clear hb1 a0
  go_wp2_with fail
  refine (rfEnds_any nodes s t A c N es w1 r1 HN.out hl).mono ?_
  rintro e w2 ⟨rfl, hb2⟩
  have k02 : w2.cell? ⟨w.heap.size, 0, none⟩ = some (.int .i64 nodes) := (hb2.cell (p := ⟨w.heap.size, 0, none⟩) l1).trans k01
  have k12 : w2.cell? ⟨w.heap.size, 1, none⟩ = some (.slice A N c) := (hb2.cell (p := ⟨w.heap.size, 1, none⟩) l1).trans k11
  have l2 : w.heap.size < w2.heap.size := World.block_lt_of_cell? w2 _ k02
  have b2 : Below w.heap.size w w2 := below_then b1 hb2
  have r2 := r1.keep hb2
  clear hb2 b1 k01 k11 l1 r1 
  cases hE : okEnds nodes es s t
  · go_wp2_with fail
    go_ret
    exact ⟨rfl, b2⟩
  have HE := Lib.hid hE
  obtain ⟨hok, e1', e2', e3', e4', e5'⟩ := okEnds_iff.1 hE
  obtain ⟨n1, n2, hl2⟩ := (okG_iff.1 hok).1
  rw [HN.out] at hl2
  clear hE
  by_cases x0 : x < 0
  · go_wp2_with fail
    go_ret
    exact ⟨rfl, b2⟩
  obtain ⟨q, hq⟩ : ∃ q : Nat, q = x.toNat % N := ⟨_, rfl⟩
  have hqz : (N : Int) ≠ 0 → x.tmod N = q := fun _ => by
    rw [Int.tmod_eq_emod_of_nonneg (by omega), hq, Int.natCast_emod, Int.toNat_of_nonneg (by omega)]
  have hqN : N = 0 ∨ q < N := by
    rcases Nat.eq_zero_or_pos N with h | h
    · exact .inl h
    · exact .inr (by rw [hq]; exact Nat.mod_lt _ h)
  have HQ := Lib.hid hqz
  have HQN := Lib.hid hqN
  clear hq hqz hqN
  go_wp2
  go_loopg [11, 12, 13] N (fun g1 v11 v12 v13 wr => ∃ k : Nat, v13 = .int .i64 k ∧ k ≤ N ∧ N - k ≤ g1 ∧ Hid (OwnE wr w2.heap.size v11 (mk k (fun i => eAt es ((i + q) % N)))) ∧ Hid (OwnE wr w2.heap.size v12 (mk k (fun i => flipE (eAt es ((i + q) % N))))) ∧ Hid (ApartV v11 v12) ∧ Hid (Below w2.heap.size w2 wr))
  case atStart => exact ⟨0, by go_num, by omega, by omega, Lib.hid (OwnR.nil _ _), Lib.hid (OwnR.nil _ _), Lib.hid (.inl ⟨rfl, rfl⟩), Lib.hid (Below.refl _ _)⟩
  case round =>
    obtain ⟨k, rfl, hk, hg1, HO, HO', HD, HB⟩ := hrel
    have c0 : wr.cell? ⟨w.heap.size, 0, none⟩ = some (.int .i64 nodes) := (HB.out.cell (p := ⟨w.heap.size, 0, none⟩) l2).trans k02
    have c1 : wr.cell? ⟨w.heap.size, 1, none⟩ = some (.slice A N c) := (HB.out.cell (p := ⟨w.heap.size, 1, none⟩) l2).trans k12
    have rr := r2.keep HB.out
    have br : Below w.heap.size w wr := below_then b2 HB.out
    have lr : w.heap.size < wr.heap.size := World.block_lt_of_cell? wr _ c0
    by_cases hlt : k < N
    · have hltz : (k : Int) < (N : Int) := by omega
      have hN0 : ¬ (N : Int) = 0 := by omega
      have hNb : ((N : Int) == 0) = false := by rw [beq_eq_false_iff_ne]; exact hN0
      have hm1 : x.tmod (N : Int) = (q : Int) := HQ.out hN0
      have hqN : q < N := by have := HQN.out; omega
      obtain ⟨j, hj⟩ : ∃ j, j = (k + q) % N := ⟨_, rfl⟩
      have hm2 : ((k : Int) + (q : Int)).tmod (N : Int) = (j : Int) := by
        rw [Int.tmod_eq_emod_of_nonneg (by omega), hj, Int.natCast_emod, Int.natCast_add]
      have hjN : j < N := by rw [hj]; exact Nat.mod_lt _ (by omega)
      obtain ⟨b, off, e, rfl, hbl, he, g0, g1, g2⟩ := rdE_at rr (k := j) (by rw [HN.out]; exact hjN)
      have ee : eAt es ((k + q) % N) = e := by rw [← hj]; unfold eAt; rw [he]; rfl
      obtain ⟨wb, hwb⟩ : ∃ wb, wb = (wr.alloc (.cells #[.int .i64 e.frm, .int .i64 e.to, .int .i64 e.cap] 39)).drew := ⟨_, rfl⟩
      have q0 : wb.cell? ⟨wr.heap.size, 0, none⟩ = some (.int .i64 e.frm) := by rw [hwb]; go_simp
      have q1 : wb.cell? ⟨wr.heap.size, 1, none⟩ = some (.int .i64 e.to) := by rw [hwb]; go_simp
      have q2 : wb.cell? ⟨wr.heap.size, 2, none⟩ = some (.int .i64 e.cap) := by rw [hwb]; go_simp
      have hsb : w2.heap.size ≤ wb.heap.size := by rw [hwb]; exact Nat.le_trans HB.out.size (by simp)
      have hbb : Below w2.heap.size wr wb := by rw [hwb]; exact Below.drew ((Below.refl _ wr).alloc HB.out.size _)
      obtain ⟨ap, v', w4, av, aw, ap2, u', w5, av2, aw2, ho1, ho2, hap, hbel, z0, z1, z2⟩ := app_two (wb := wb) (B := wr.heap.size) e.frm e.to e.cap (by rw [hwb]; exact HO.out.alloc _) (by rw [hwb]; exact HO'.out.alloc _) HD.out rfl hsb (by rw [mk_len]; omega) (by rw [mk_len]; omega) q0 q1 q2 (fun h => by have := (World.ownsRow.lt HO.out _ h).2; omega)
      have HO2 : Hid (OwnE w5 w2.heap.size v' (mk (k + 1) (fun i => eAt es ((i + q) % N)))) := Lib.hid (by rw [mk_succ, ee]; exact ho1.out)
      have HO3 : Hid (OwnE w5 w2.heap.size u' (mk (k + 1) (fun i => flipE (eAt es ((i + q) % N))))) := Lib.hid (by rw [mk_succ, ee]; exact ho2.out)
      have HB2 : Hid (Below w2.heap.size w2 w5) := Lib.hid (HB.out.trans (hbb.trans hbel.out))
      have HWB := Lib.hid hwb
      clear HO HO' HD HB br rr ho1 ho2 hbel he ee hj HQ HQN hwb hbb hsb
      go_wp2
      go_big_region
      rw [← HWB.out]
      clear HWB
      go_wp2
      go_roundg (N - (k + 1))
      case measure => omega
      case rel => exact ⟨k + 1, by go_num, by omega, by omega, HO2, HO3, hap, HB2⟩
    · have hltz : ¬ (k : Int) < (N : Int) := by omega
      have hkN : k = N := by omega
      subst hkN
      have e1 : turn es q = mk k (fun i => eAt es ((i + q) % k)) := by unfold turn; rw [HN.out]
      have e2 : flipG (turn es q) = mk k (fun i => flipE (eAt es ((i + q) % k))) := by rw [e1]; unfold flipG mk; rw [List.map_map]; rfl
      rw [← e1] at HO
      rw [← e2] at HO'
      obtain ⟨ua, uc, rfl, ru⟩ := HO.out.rd encE_len
      obtain ⟨va, vc, rfl, rv⟩ := HO'.out.rd encE_len
      have hs1 := (turn_len es q).trans HN.out
      have hs2 := (flip_len (turn es q)).trans hs1
      rw [hs1, hs2]
      have HE1 : Hid (okEnds nodes (turn es q) s t = true) := Lib.hid (okEnds_iff.2 ⟨turn_ok q hok, e1', e2', e3', e4', e5'⟩)
      have HE2 : Hid (okEnds nodes (flipG (turn es q)) t s = true) := Lib.hid (okEnds_iff.2 ⟨flip_ok (turn_ok q hok), e3', e4', e1', e2', fun h => e5' h.symm⟩)
      clear HO HO' HB HD l2 k02 k12 r2 b2 e1 e2
      go_wp2_with fail
      refine (fMost_fine nodes s t c k A es wr rr HN HE).mono ?_
      rintro e w4 ⟨n, B1, m1, d1, B2, m2, d2, rfl, h1, n1l, n1h, hb4⟩
      have c04 : w4.cell? ⟨w.heap.size, 0, none⟩ = some (.int .i64 nodes) := (hb4.cell (p := ⟨w.heap.size, 0, none⟩) lr).trans c0
      have b4 : Below w.heap.size w w4 := below_then br hb4
      have ru4 := ru.keep hb4
      have rv4 := rv.keep hb4
      have l4 : w.heap.size < w4.heap.size := World.block_lt_of_cell? w4 _ c04
      clear c0 c1 hb4 rr br ru rv lr
      go_wp2_with fail
      refine (fMost_fine nodes s t uc k ua (turn es q) _ ru4 (Lib.hid hs1) HE1).mono ?_
      rintro e w5 ⟨m, B3, m3, d3, B4, m4, d4, rfl, h2, n2l, n2h, hb5⟩
      have c05 : w5.cell? ⟨w.heap.size, 0, none⟩ = some (.int .i64 nodes) := (hb5.cell (p := ⟨w.heap.size, 0, none⟩) l4).trans c04
      have b5 : Below w.heap.size w w5 := below_then b4 hb5
      have rv5 := rv4.keep hb5
      clear c04 b4 ru4 rv4 hb5
      go_wp2_with fail
      refine (fMost_fine nodes t s vc k va (flipG (turn es q)) _ rv5 (Lib.hid hs2) HE2).mono ?_
      rintro e w6 ⟨m', B5, m5, d5, B6, m6, d6, rfl, h3, n3l, n3h, hb6⟩
      have b6 : Below w.heap.size w w6 := below_then b5 hb6
      have ht := turn_most (k := q) (by rw [HN.out]; exact HQN.out) h1.out
      obtain rfl : m = n := IsMost.eq HE1.out h2.out ht
      obtain rfl : m' = m := IsMost.eq HE2.out h3.out (flip_most HE1.out ht)
      clear h1 h2 h3 ht HE HE1 HE2
      go_wp2_with fail
      go_ret
      exact ⟨rfl, b6⟩
end Go.Proofs.Ytcnhkcbkeneobaa
