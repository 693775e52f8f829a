/-
Contract of the reference's CheckCut.
-/
import Derived.Test.YtgfcnkfmgpakkaaGRefA
namespace Go.Proofs.Ytgfcnkfmgpakkaa
open Go.RowKit
set_option linter.unusedVariables false
theorem free_bound {j : GJob} {cs : Nat → Bool} {m : Nat} (h0 : 0 ≤ j.rate) (h1 : j.rate ≤ 1000) (hm : m ≤ 24) : 0 ≤ freeTo j cs m ∧ freeTo j cs m ≤ 24000 := by
  have a := S_nonneg (n := m) (g := fun q => pick (cs (j.frm.toNat + q) = false) j.rate) (fun i _ => by unfold pick; split <;> omega)
  have b := S_bound (n := m) (g := fun q => pick (cs (j.frm.toNat + q) = false) j.rate) (c := 1000) (fun i _ => by show pick _ _ ≤ _; unfold pick; split <;> omega)
  unfold freeTo
  omega
set_option maxRecDepth 100000 in
set_option maxHeartbeats 4000000 in
theorem rpCheckCut_any (A A2 A3 A4 : Option Addr) (c N c2 T c3 N3 c4 N4 : Nat) (js : List GJob) (sup cj cs : List Int) (w : World) (hR : Rd 5 encJ w A js) (HN : Hid (js.length = N)) (hl : N ≤ 9223372036854775807) (hR2 : Rd 1 encI w A2 sup) (HN2 : Hid (sup.length = T)) (hl2 : T ≤ 9223372036854775807)
    (hR3 : Rd 1 encI w A3 cj) (HN3 : Hid (cj.length = N3)) (hl3 : N3 ≤ 9223372036854775807) (hR4 : Rd 1 encI w A4 cs) (HN4 : Hid (cs.length = N4)) (hl4 : N4 ≤ 9223372036854775807) :
    Calls Try.prog 24 #[.slice A N c, .slice A2 T c2, .agg #[.slice A3 N3 c3, .slice A4 N4 c4]] w fun e w' => e = .returned (.bool (cutPB js sup cj cs)) ∧ Below w.heap.size w w' := by
  have a1 : Below w.heap.size w (w.alloc (.cells #[.slice A3 N3 c3, .slice A4 N4 c4] 30)) := (Below.refl _ w).alloc (Nat.le_refl _) _
  go_enter Try.func24, Try.ntmps24
  go_wp2_with fail
  refine (rpValid_any A A2 c N c2 T js sup _ (hR.keep a1) HN hl (hR2.keep a1) HN2 hl2).mono ?_
  rintro e w1 ⟨rfl, hb1⟩
  have k1 : w1.cell? ⟨w.heap.size, 0, none⟩ = some (.slice A3 N3 c3) := (hb1.cell (p := ⟨w.heap.size, 0, none⟩) (by simp)).trans (by go_simp)
  have k2 : w1.cell? ⟨w.heap.size, 1, none⟩ = some (.slice A4 N4 c4) := (hb1.cell (p := ⟨w.heap.size, 1, none⟩) (by simp)).trans (by go_simp)
  have l1 := World.block_lt_of_cell? w1 _ k1
  dsimp only at l1
  have b1 : Below w.heap.size w w1 := below_then a1 hb1
  clear hb1 a1
  go_wp2_with fail
  refine (rpChoice_any A3 c3 N3 N cj w1 (hR3.keep b1) HN3 hl3).mono ?_
  rintro e w2 ⟨rfl, hb2⟩
  have k12 := (hb2.cell (p := ⟨w.heap.size, 0, none⟩) l1).trans k1
  have k22 := (hb2.cell (p := ⟨w.heap.size, 1, none⟩) l1).trans k2
  have b2 : Below w.heap.size w w2 := below_then b1 hb2
  have l2 := World.block_lt_of_cell? w2 _ k12
  dsimp only at l2
  clear hb2 k1 k2 l1
  go_wp2_with fail
  refine (rpChoice_any A4 c4 N4 T cs w2 (hR4.keep b2) HN4 hl4).mono ?_
  rintro e w3 ⟨rfl, hb3⟩
  have k13 := (hb3.cell (p := ⟨w.heap.size, 0, none⟩) l2).trans k12
  have k23 := (hb3.cell (p := ⟨w.heap.size, 1, none⟩) l2).trans k22
  have b3 : Below w.heap.size w w3 := below_then b2 hb3
  clear hb3 k12 k22 l2 b1 b2
  have HC : Hid (cutPB js sup cj cs = (okP js sup && (marksB cj N && marksB cs T && decide (roomC js sup (inL cj) (inL cs) < needC js (inL cj))))) := Lib.hid (by unfold cutPB; rw [HN.out, HN2.out])
  cases hok : okP js sup
  · have HF : Hid (cutPB js sup cj cs = false) := Lib.hid (by rw [HC.out, hok]; rfl)
    go_wp2
    go_ret
    exact ⟨ret_bool HF.out.symm, b3⟩
  cases g1 : marksB cj N
  · have HF : Hid (cutPB js sup cj cs = false) := Lib.hid (by rw [HC.out, hok, g1]; rfl)
    go_wp2
    go_ret
    exact ⟨ret_bool HF.out.symm, b3⟩
  cases g2 : marksB cs T
  · have HF : Hid (cutPB js sup cj cs = false) := Lib.hid (by rw [HC.out, hok, g1, g2]; rfl)
    go_wp2
    go_ret
    exact ⟨ret_bool HF.out.symm, b3⟩
  have HC2 : Hid (cutPB js sup cj cs = decide (roomC js sup (inL cj) (inL cs) < needC js (inL cj))) := Lib.hid (by rw [HC.out, hok, g1, g2]; rfl)
  have HG1 : Hid (goodTo cj N cj.length) := Lib.hid (marksB_iff.1 g1)
  have HG2 : Hid (goodTo cs T cs.length) := Lib.hid (marksB_iff.1 g2)
  have HOK := Lib.hid hok
  obtain ⟨⟨t1, t2⟩, _, _⟩ := okP_iff.1 hok
  rw [HN.out] at t1
  rw [HN2.out] at t2
  have HR := Lib.hid (hR.keep b3)
  have HR2 := Lib.hid (hR2.keep b3)
  have HR3 := Lib.hid (hR3.keep b3)
  have HR4 := Lib.hid (hR4.keep b3)
  have HB3 := Lib.hid b3
  have hn4 : N4 ≤ 24 := by have := good_len HG2.out; have := HN4.out; omega
  have hn3 : N3 ≤ 12 := by have := good_len HG1.out; have := HN3.out; omega
  clear hR hR2 hR3 hR4 b3 HC hok g1 g2
  go_wp2
  go_loopg [10, 11] N4 (fun g1 v10 v11 wr => ∃ k : Nat, v11 = .int .i64 k ∧ k ≤ N4 ∧ N4 - k ≤ g1 ∧ v10 = .int .i64 (- S k (fun i => fAt sup (fAt cs i).toNat)) ∧ Hid (0 ≤ S k (fun i => fAt sup (fAt cs i).toNat) ∧ S k (fun i => fAt sup (fAt cs i).toNat) ≤ 1000 * k) ∧ w3 = wr)
  case atStart => exact ⟨0, by go_num, by omega, by omega, by go_num, Lib.hid (by simp [S]), rfl⟩
  case round =>
    obtain ⟨k, rfl, hk, hg, rfl, HS, rfl⟩ := hrel
    by_cases hlt : k < N4
    · have hltz : (k : Int) < (N4 : Int) := by omega
      obtain ⟨b4, o4, hA4, hbl4, hc4⟩ := HR4.out.int (k := k) (by rw [HN4.out]; exact hlt)
      have hgd := good_ge HG2.out (i := k) (by rw [HN4.out]; exact hlt)
      obtain ⟨d, hd⟩ : ∃ d : Nat, fAt cs k = d := ⟨(fAt cs k).toNat, by omega⟩
      have hdT : d < T := by omega
      have hdz : (d : Int) < (T : Int) := by omega
      have hc4' : w3.cell? ⟨b4, o4 + k, none⟩ = some (.int .i64 d) := by rw [hc4]; exact congrArg (fun x => some (Value.int .i64 x)) hd
      obtain ⟨b2, o2, hA2, hbl2, hc2⟩ := HR2.out.int (k := d) (by rw [HN2.out]; exact hdT)
      have hc2' : w3.cell? ⟨b2, o2 + d, none⟩ = some (.int .i64 (fAt sup d)) := hc2
      have hsd := okP_sup HOK.out (t := d) (by rw [HN2.out]; exact hdT)
      have Hs : Hid (S (k + 1) (fun i => fAt sup (fAt cs i).toNat) = S k (fun i => fAt sup (fAt cs i).toNat) + fAt sup d) := Lib.hid (by rw [S_succ, hd]; rfl)
      have bk := HS.out
      subst hA4 hA2
      clear hc4 hc2 hgd hd HS
      generalize S k (fun i => fAt sup (fAt cs i).toNat) = room at *
      generalize fAt sup d = sd at *
      go_wp2
      go_roundg (N4 - (k + 1))
      case measure => omega
      case rel => exact ⟨k + 1, by go_num, by omega, by omega, by rw [Hs.out]; exact val_int (by omega), Lib.hid (by rw [Hs.out]; omega), rfl⟩
    · have hltz : ¬ (k : Int) < (N4 : Int) := by omega
      have hkN : k = cs.length := by rw [HN4.out]; omega
      subst hkN
      obtain ⟨R1, hR1⟩ : ∃ R1, R1 = S cs.length (fun i => fAt sup (fAt cs i).toNat) := ⟨_, rfl⟩
      rw [← hR1] at HS ⊢
      have HR1 := Lib.hid hR1
      have bR : 0 ≤ R1 ∧ R1 ≤ 24000 := by have := HS.out; omega
      clear hR1 hk hg HS
      go_wp2
      go_loopg [10, 12] N3 (fun g1 v10 v12 wr => ∃ k : Nat, v12 = .int .i64 k ∧ k ≤ N3 ∧ N3 - k ≤ g1 ∧ v10 = .int .i64 (S k (fun i => (jAt js (fAt cj i).toNat).energy) - (R1 + S k (fun i => freeJ js T (inL cs) (fAt cj i).toNat))) ∧ Hid (0 ≤ S k (fun i => (jAt js (fAt cj i).toNat).energy) ∧ S k (fun i => (jAt js (fAt cj i).toNat).energy) ≤ 1000 * k ∧ 0 ≤ S k (fun i => freeJ js T (inL cs) (fAt cj i).toNat) ∧ S k (fun i => freeJ js T (inL cs) (fAt cj i).toNat) ≤ 24000 * k) ∧ Hid (Below w3.heap.size w3 wr))
      case atStart => exact ⟨0, by go_num, by omega, by omega, by simp [S], Lib.hid (by simp [S]), Lib.hid (Below.refl _ _)⟩
      case round =>
        obtain ⟨k, rfl, hk, hg, rfl, HS, HB⟩ := hrel
        have q1 := (HB.out.cell (p := ⟨w.heap.size, 0, none⟩) (World.block_lt_of_cell? w3 _ k13)).trans k13
        have q2 := (HB.out.cell (p := ⟨w.heap.size, 1, none⟩) (World.block_lt_of_cell? w3 _ k23)).trans k23
        by_cases hlt : k < N3
        · have hltz : (k : Int) < (N3 : Int) := by omega
          obtain ⟨b4, o4, hA4, hbl4, hc4⟩ := (HR3.out.keep HB.out).int (k := k) (by rw [HN3.out]; exact hlt)
          have hgd := good_ge HG1.out (i := k) (by rw [HN3.out]; exact hlt)
          obtain ⟨d, hd⟩ : ∃ d : Nat, fAt cj k = d := ⟨(fAt cj k).toNat, by omega⟩
          have hdN : d < N := by omega
          have hdz : (d : Int) < (N : Int) := by omega
          have hc4' : wr.cell? ⟨b4, o4 + k, none⟩ = some (.int .i64 d) := by rw [hc4]; exact congrArg (fun x => some (Value.int .i64 x)) hd
          have hdj : d < js.length := by rw [HN.out]; exact hdN
          obtain ⟨b, off, j, hA, hbl, hj, g0, g1, g2, g3, g4⟩ := rdJ_at (HR.out.keep HB.out) (k := d) hdj
          have hjk : jAt js d = j := by simp [jAt, hj]
          have HJ := Lib.hid hjk
          have hjo := okP_job HOK.out hdj
          rw [hjk, HN2.out] at hjo
          obtain ⟨f0, f1, f2, f3, f4, f5, f6, _, _⟩ := hjo
          have Hs1 : Hid (S (k + 1) (fun i => (jAt js (fAt cj i).toNat).energy) = S k (fun i => (jAt js (fAt cj i).toNat).energy) + j.energy) := Lib.hid (by rw [S_succ, hd, Int.toNat_natCast, hjk])
          have Hs2 : Hid (S (k + 1) (fun i => freeJ js T (inL cs) (fAt cj i).toNat) = S k (fun i => freeJ js T (inL cs) (fAt cj i).toNat) + freeTo j (inL cs) (lenJ j)) := Lib.hid (by
            have := freeTo_all HOK.out (inL cs) hdj
            rw [hjk, HN2.out] at this
            rw [S_succ, hd, Int.toNat_natCast, this])
          have bk := HS.out
          subst hA4 hA
          have cbb : Hid (Below w3.heap.size w3 (wr.alloc (.cells #[.int .i64 j.frm, .int .i64 j.till, .int .i64 j.energy, .int .i64 j.rate, .int .i64 j.rank] 25))) := Lib.hid (HB.out.alloc HB.out.size _)
          have Hq : Hid (q1 = q1) := Lib.hid rfl
          clear hc4 hgd hd HS hj hjk Hq
          generalize S k (fun i => (jAt js (fAt cj i).toNat).energy) = en at *
          generalize S k (fun i => freeJ js T (inL cs) (fAt cj i).toNat) = fr at *
          have hlen : (lenJ j : Int) = j.till - j.frm := by unfold lenJ; omega
          have hlen24 : lenJ j ≤ 24 := by omega
          go_wp2
          generalize hbj : wr.heap.size = bj
          have HBJ := Lib.hid hbj
          have n1 : (wr.alloc (.cells #[.int .i64 j.frm, .int .i64 j.till, .int .i64 j.energy, .int .i64 j.rate, .int .i64 j.rank] 25)).cell? ⟨bj, 1, none⟩ = some (.int .i64 j.till) := by rw [← hbj]; go_simp
          have n3 : (wr.alloc (.cells #[.int .i64 j.frm, .int .i64 j.till, .int .i64 j.energy, .int .i64 j.rate, .int .i64 j.rank] 25)).cell? ⟨bj, 3, none⟩ = some (.int .i64 j.rate) := by rw [← hbj]; go_simp
          have n5 : (wr.alloc (.cells #[.int .i64 j.frm, .int .i64 j.till, .int .i64 j.energy, .int .i64 j.rate, .int .i64 j.rank] 25)).cell? ⟨w.heap.size, 1, none⟩ = some (.slice A4 N4 c4) := (((Below.refl _ wr).alloc (Nat.le_refl _) _).cell (p := ⟨w.heap.size, 1, none⟩) (World.block_lt_of_cell? wr _ q2)).trans q2
          clear hbj HBJ HB g0 g1 g2 g3 g4 hc4' q1 q2 hbl hbl4
          generalize wr.alloc (.cells #[.int .i64 j.frm, .int .i64 j.till, .int .i64 j.energy, .int .i64 j.rate, .int .i64 j.rank] 25) = W at *
          go_loopg [10, 14] (lenJ j) (fun g1 v10 v14 wr => ∃ m : Nat, v14 = .int .i64 (j.frm + m) ∧ m ≤ lenJ j ∧ lenJ j - m ≤ g1 ∧ v10 = .int .i64 (en - (R1 + fr) + j.energy - freeTo j (inL cs) m) ∧ W = wr)
          case atStart => exact ⟨0, by simp, by omega, by omega, by simp [freeTo, S], rfl⟩
          case round =>
            obtain ⟨m, rfl, hm, hg2, rfl, rfl⟩ := hrel
            have fb := free_bound (cs := inL cs) f5 f6 (m := m) (by omega)
            by_cases hmT : m < lenJ j
            · have hmz : j.frm + (m : Int) < j.till := by omega
              have hH := rpHas_any A4 c4 N4 cs (j.frm.toNat + m) W (HR4.out.keep cbb.out) HN4 (by omega)
              have he : ((j.frm.toNat + m : Nat) : Int) = j.frm + (m : Int) := by omega
              rw [he] at hH
              have Hs : Hid (freeTo j (inL cs) (m + 1) = freeTo j (inL cs) m + pick (inL cs (j.frm.toNat + m) = false) j.rate) := Lib.hid (S_succ _ _)
              have HH := Lib.hid hH
              clear hH he
              go_wp2_with fail
              refine HH.out.mono ?_
              rintro e w' ⟨rfl, rfl⟩
              cases hi : inL cs (j.frm.toNat + m)
              · have Hp : Hid (freeTo j (inL cs) (m + 1) = freeTo j (inL cs) m + j.rate) := Lib.hid (by rw [Hs.out, pick_pos hi])
                clear Hs hi HH
                generalize freeTo j (inL cs) m = ff at *
                go_wp2
                go_roundg (lenJ j - (m + 1))
                case measure => omega
                case rel => exact ⟨m + 1, val_int (by omega), by omega, by omega, by rw [Hp.out]; exact val_int (by omega), rfl⟩
              · have Hp : Hid (freeTo j (inL cs) (m + 1) = freeTo j (inL cs) m) := Lib.hid (by rw [Hs.out, pick_neg (by rw [hi]; simp)]; omega)
                clear Hs hi HH
                generalize freeTo j (inL cs) m = ff at *
                go_wp2
                go_roundg (lenJ j - (m + 1))
                case measure => omega
                case rel => exact ⟨m + 1, val_int (by omega), by omega, by omega, by rw [Hp.out], rfl⟩
            · have hmz : ¬ j.frm + (m : Int) < j.till := by omega
              have Hmm : Hid (freeTo j (inL cs) m = freeTo j (inL cs) (lenJ j)) := Lib.hid (by rw [show m = lenJ j by omega])
              have fb2 := free_bound (cs := inL cs) f5 f6 (m := lenJ j) (by omega)
              generalize freeTo j (inL cs) m = ff at *
              generalize freeTo j (inL cs) (lenJ j) = fa at *
              go_wp2
              go_roundg (N3 - (k + 1))
              case measure => omega
              case rel => exact ⟨k + 1, by go_num, by omega, by omega, by rw [Hs1.out, Hs2.out]; exact val_int (by have := Hmm.out; omega), Lib.hid (by rw [Hs1.out, Hs2.out]; omega), cbb⟩
        · have hltz : ¬ (k : Int) < (N3 : Int) := by omega
          have hkN : k = cj.length := by rw [HN3.out]; omega
          have hG1' : goodTo cj js.length cj.length := by rw [HN.out]; exact HG1.out
          have hG2' : goodTo cs sup.length cs.length := by rw [HN2.out]; exact HG2.out
          have e1 := cut_need hG1'
          have e2 := cut_room hG1' hG2'
          rw [← hkN] at e1
          rw [← HR1.out, ← hkN, HN2.out] at e2
          have bk := HS.out
          have HV : Hid (cutPB js sup cj cs = decide (0 < S k (fun i => (jAt js (fAt cj i).toNat).energy) - (R1 + S k (fun i => freeJ js T (inL cs) (fAt cj i).toNat)))) := Lib.hid (by
            rw [HC2.out, e1, e2]
            exact decide_eq_decide.2 (by omega))
          clear e1 e2 hG1' hG2' hkN HS
          generalize S k (fun i => (jAt js (fAt cj i).toNat).energy) = en at *
          generalize S k (fun i => freeJ js T (inL cs) (fAt cj i).toNat) = fr at *
          go_wp2
          go_ret
          exact ⟨ret_bool (by rw [HV.out]; exact decide_eq_decide.2 (by omega)), below_then HB3.out HB.out⟩
end Go.Proofs.Ytgfcnkfmgpakkaa
