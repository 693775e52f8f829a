/-
The law AdmitProof, walked.
-/
import Derived.Test.YtgfcnkfmgpakkaaGAdmN
import Derived.Test.YtgfcnkfmgpakkaaGPlanP
namespace Go.Proofs.Ytgfcnkfmgpakkaa
open Go.RowKit
set_option linter.unusedVariables false
set_option linter.unusedSimpArgs false
theorem rd_rows (w : World) (rs : List RowV) : Rd 1 encRow (w.alloc (.cells (rs.map (fun r => Value.slice r.a r.n r.c)).toArray 23)) (some ⟨w.heap.size, 0, none⟩) rs :=
  Own.rd (sz := 1) (enc := encRow) (xs := rs) (Own.new w 23 (rs.map (fun r => Value.slice r.a r.n r.c)).toArray undef) (by simp) (fun _ => rfl) (fun k x hx j v hv => by
    have hj : j = 0 := by have := (List.getElem?_eq_some_iff.1 hv).1; simp [encRow] at this; exact this
    subst hj
    simp only [encRow, List.getElem?_cons_zero, Option.some.injEq] at hv
    show (rs.map (fun r => Value.slice r.a r.n r.c)).toArray[k * 1 + 0]?.getD undef = v
    rw [List.getElem?_toArray, Nat.mul_one, Nat.add_zero, List.getElem?_map, hx, ← hv]; rfl)
set_option maxRecDepth 100000 in
set_option maxHeartbeats 8000000 in
theorem walk_AdmitProof (A : Option Addr) (c N : Nat) (js : List GJob) {w : World} (hR : Rd 5 encJ w A js) (HN : Hid (js.length = N)) (hl : N ≤ 9223372036854775807) (_ : ∀ x, x ∈ js → wfJ x)
    (A2 : Option Addr) (c2 T : Nat) (sup : List Int) (hR2 : Rd 1 encI w A2 sup) (HN2 : Hid (sup.length = T)) (hl2 : T ≤ 9223372036854775807) (_ : ∀ x, x ∈ sup → wf64 x) (x : GJob) (_ : wfJ x) :
    Calls Try.prog 3 #[.slice A N c, .slice A2 T c2, .agg #[.int .i64 x.frm, .int .i64 x.till, .int .i64 x.energy, .int .i64 x.rate, .int .i64 x.rank]] w fun e w' => e = .returned (.bool true) ∧ Below w.heap.size w w' := by
  have a0 : Below w.heap.size w (w.alloc (.cells #[.int .i64 x.frm, .int .i64 x.till, .int .i64 x.energy, .int .i64 x.rate, .int .i64 x.rank] 25)) := ((Below.refl _ w).alloc (Nat.le_refl _) _)
  have j0 := JobAt.new w x
  go_enter Try.func3, Try.ntmps3
  go_wp2_with fail
  refine (laHead_any _).mono ?_
  rintro e w1 ⟨rfl, hb1⟩
  have b1 := below_then a0 hb1
  have j0 := j0.keep hb1
  have af : Below w1.heap.size w1 (w1.alloc (.cells #[.slice A2 T c2] 23)) := (Below.refl _ _).alloc (Nat.le_refl _) _
  have rf : Rd 1 encRow (w1.alloc (.cells #[.slice A2 T c2] 23)) (some ⟨w1.heap.size, 0, none⟩) [⟨A2, T, c2⟩] := rd_rows w1 [⟨A2, T, c2⟩]
  have b2 := below_then b1 af
  have HJ0 := Lib.hid (j0.keep af)
  clear hb1 b1 a0 j0
  go_wp2_with fail
  refine (laFew_any A _ c N 1 1 [⟨A2, T, c2⟩] _ rf (Lib.hid rfl) (by omega) hl (fun r hr => by simp at hr; subst hr; exact hl2)).mono ?_
  rintro e w2 ⟨rfl, hw2⟩
  have hb2w : Below w.heap.size w w2 := by rw [hw2]; exact b2
  have HJ0 := Lib.hid (show JobAt w2 w.heap.size x from by rw [hw2]; exact HJ0.out)
  clear af rf b2 hw2
  have B2 := Lib.hid hb2w
  clear hb2w
  cases hfew : fewL [⟨A2, T, c2⟩] N
  · go_wp2_with fail
    go_ret
    exact ⟨rfl, B2.out⟩
  have hN := fewL_N hfew
  have hT : T ≤ 40 := fewL_r hfew (r := ⟨A2, T, c2⟩) (by simp)
  clear hfew
  obtain ⟨k0, k1, k2, k3, k4⟩ := HJ0.out
  go_wp2_with fail
  refine (aAdmit_any A A2 c N c2 T js sup x w2 (hR.keep B2.out) HN hl (hR2.keep B2.out) HN2 hl2).mono ?_
  rintro e w3 ⟨hb3, hp⟩
  clear k0 k1 k2 k3 k4
  rcases hp with ⟨er, rfl, h1, h2⟩ | ⟨hz, gt, rs, ps, rfl, rp, hlp, hpl⟩ | ⟨hz, a3, c3, a4, c4, cj, cs, rfl, r3, r4, hc1, hc2, hcut⟩
  · have a3 : Below w3.heap.size w3 (w3.alloc (.cells #[.slice none 0 0, .slice none 0 0] 30)) := (Below.refl _ _).alloc (Nat.le_refl _) _
    have k3w := below_then hb3 a3
    have b3 := below_then B2.out k3w
    obtain ⟨k0, k1, k2, k3, k4⟩ := HJ0.out.keep k3w
    have h10 : ¬ er = 10 := by have := chkE_range js sup x; rw [← h1] at this; omega
    have h0 : ¬ er = 0 := h2
    clear hb3 a3 k3w h1 h2
    go_wp2_with fail
    refine (raWith_any A c N js x _ (hR.keep b3) HN (by omega)).mono ?_
    rintro e w4 ⟨a, d, rfl, hRa, hb4⟩
    have b4 := below_then b3 hb4
    clear hRa hb4 k0 k1 k2 k3 k4
    go_wp2_with fail
    go_ret
    exact ⟨rfl, b4⟩
  · have a3 : Below w3.heap.size w3 (w3.alloc (.cells #[.slice none 0 0, .slice none 0 0] 30)) := (Below.refl _ _).alloc (Nat.le_refl _) _
    have k3w := below_then hb3 a3
    have b3 := below_then B2.out k3w
    obtain ⟨k0, k1, k2, k3, k4⟩ := HJ0.out.keep k3w
    have rp3 := rp.keep a3
    clear hb3 a3 k3w hz rp
    go_wp2_with fail
    refine (raWith_any A c N js x _ (hR.keep b3) HN (by omega)).mono ?_
    rintro e w4 ⟨a, d, rfl, hRa, hb4⟩
    have b4 := below_then b3 hb4
    have rp4 := rp3.keep hb4
    have HL : Hid ((js ++ [x]).length = N + 1) := Lib.hid (by rw [List.length_append, HN.out]; rfl)
    clear hb4 k0 k1 k2 k3 k4 rp3 b3
    go_wp2_with fail
    refine (rpCheckPlan_any a A2 (some ⟨gt, 0, none⟩) d (N + 1) c2 T (N + 1) (N + 1) (js ++ [x]) sup rs ps w4 hRa HL (by omega) (hR2.keep b4) HN2 hl2 rp4 (Lib.hid hlp) (by omega)).mono ?_
    rintro e w5 ⟨rfl, hb5⟩
    rw [hpl]
    have b5 := below_then b4 hb5
    go_wp2_with fail
    go_ret
    exact ⟨rfl, b5⟩
  · obtain ⟨n3, hn3⟩ : ∃ n3, n3 = cj.length := ⟨_, rfl⟩
    obtain ⟨n4, hn4⟩ : ∃ n4, n4 = cs.length := ⟨_, rfl⟩
    rw [← hn3] at hc1
    rw [← hn4] at hc2
    rw [← hn3, ← hn4]
    have HN3 : Hid (cj.length = n3) := Lib.hid hn3.symm
    have HN4 : Hid (cs.length = n4) := Lib.hid hn4.symm
    obtain ⟨z1, z2, z3, z4⟩ := chkE_zero hz
    have HZ : Hid (Met js sup) := Lib.hid z4
    have HIN : Hid ((N : Int) ∈ cj) := Lib.hid (by
      refine Classical.byContradiction fun hn => ?_
      have hc := cut_butlast (js := js) (x := x) (sup := sup) (cj := inL cj) (cs := inL cs) (by unfold inL; rw [HN.out]; simpa using hn) (cutPB_cutA hcut).2
      obtain ⟨P, hP⟩ := z4
      have := not_both z1 hP (inL cj) (inL cs)
      omega)
    have a3' : Below w3.heap.size w3 (w3.alloc (.cells #[.slice a3 n3 c3, .slice a4 n4 c4] 30)) := (Below.refl _ _).alloc (Nat.le_refl _) _
    have k3w := below_then hb3 a3'
    have b3 := below_then B2.out k3w
    obtain ⟨k0, k1, k2, k3, k4⟩ := HJ0.out.keep k3w
    have r3' := r3.keep a3'
    have r4' := r4.keep a3'
    have o9 : Own (w3.alloc (.cells #[.slice a3 n3 c3, .slice a4 n4 c4] 30)) w3.heap.size 30 2 (fun i => if i = 0 then .slice a3 n3 c3 else .slice a4 n4 c4) := (Own.new w3 30 #[.slice a3 n3 c3, .slice a4 n4 c4] undef).congr (fun i hi => by
      have hi' : i < 2 := hi
      rcases i with _ | _ | i
      all_goals first | rfl | omega)
    clear hb3 a3' k3w hz r3 r4 hn3 hn4 z1 z2 z3 z4
    go_wp2_with fail
    refine (raWith_any A c N js x _ (hR.keep b3) HN (by omega)).mono ?_
    rintro e w4 ⟨a, d, rfl, hRa, hb4⟩
    have b4 := below_then b3 hb4
    have o9 := o9.keep hb4 o9.lt
    have HL : Hid ((js ++ [x]).length = N + 1) := Lib.hid (by rw [List.length_append, HN.out]; rfl)
    have H3 := Lib.hid (r3'.keep hb4)
    have H4 := Lib.hid (r4'.keep hb4)
    have p0 := o9.cell (i := 0) (by omega)
    simp only [if_true] at p0
    have HO9 := Lib.hid o9
    have HRA := Lib.hid hRa
    have B4 := Lib.hid b4
    clear hb4 k0 k1 k2 k3 k4 b3 r3' r4' o9 hRa b4
    go_wp2
    go_loopg [12, 14, 51] n3 (fun g1 v12 v14 v51 wr => ∃ k : Nat, v51 = .int .i64 k ∧ v12 = .bool (decide ((N : Int) ∈ cj.take k)) ∧ k ≤ n3 ∧ n3 - k ≤ g1 ∧ w4 = wr)
    case atStart => exact ⟨0, by go_num, by simp, by omega, by omega, rfl⟩
    case round =>
      obtain ⟨k, rfl, rfl, hk, hg1, rfl⟩ := hrel
      obtain ⟨am, ham⟩ : ∃ am, am = decide ((N : Int) ∈ cj.take k) := ⟨_, rfl⟩
      rw [← ham]
      by_cases hlt : k < n3
      · have hltz : (k : Int) < (n3 : Int) := by omega
        obtain ⟨b, off, y, rfl, hbl, hy, hcy⟩ := H3.out.at_ (k := k) (by rw [HN3.out]; exact hlt)
        have hc0 : w4.cell? ⟨b, off + k, none⟩ = some (.int .i64 y) := by have := hcy 0 _ rfl; simpa using this
        have hs : decide ((N : Int) ∈ cj.take (k + 1)) = (am || (y == (N : Int))) := by
          rw [take_snoc hy, ham, Bool.eq_iff_iff]
          simp only [List.mem_append, List.mem_singleton, Bool.or_eq_true, decide_eq_true_eq, beq_iff_eq]
          constructor
          · rintro (h | h)
            · exact .inl h
            · exact .inr h.symm
          · rintro (h | h)
            · exact .inl h
            · exact .inr h.symm
        have HS := Lib.hid hs
        clear hcy hy ham hs
        cases am
        · cases hyn : (y == (N : Int))
          · rw [hyn] at HS
            go_wp2
            go_roundg (n3 - (k + 1))
            case measure => omega
            case rel => exact ⟨k + 1, by go_num, by rw [HS.out]; rfl, by omega, by omega, rfl⟩
          · rw [hyn] at HS
            go_wp2
            go_roundg (n3 - (k + 1))
            case measure => omega
            case rel => exact ⟨k + 1, by go_num, by rw [HS.out]; rfl, by omega, by omega, rfl⟩
        · go_wp2
          go_roundg (n3 - (k + 1))
          case measure => omega
          case rel => exact ⟨k + 1, by go_num, by rw [HS.out]; rfl, by omega, by omega, rfl⟩
      · have hltz : ¬ (k : Int) < (n3 : Int) := by omega
        have ham2 : am = true := by
          rw [ham, List.take_of_length_le (by rw [HN3.out]; omega)]
          exact decide_eq_true HIN.out
        subst ham2
        clear ham
        go_wp2_with fail
        refine (plSchedule_any A A2 c N c2 T js sup w4 (hR.keep B4.out) HN hl (hR2.keep B4.out) HN2 hl2).mono ?_
        rintro e w5 ⟨hb5, hp⟩
        obtain ⟨l5, d5, a5, rfl⟩ : ∃ a l d, e = .returned (.tuple #[.slice a l d, .agg #[.slice none 0 0, .slice none 0 0], .int .i64 0]) := by
          rcases hp with ⟨h, _⟩ | ⟨gt, rs, ps, h, _⟩ | ⟨_, _, _, _, _, _, _, _, _, _, _, h⟩
          · rw [okP_snoc.1 (cutPB_cutA hcut).1 |>.1] at h; cases h
          · exact ⟨_, _, _, h⟩
          · exact absurd HZ.out (cutPB_notA h)
        clear hp
        have a5' : Below w5.heap.size w5 (w5.alloc (.cells #[.slice none 0 0, .slice none 0 0] 30)) := (Below.refl _ _).alloc (Nat.le_refl _) _
        have k5 := below_then hb5 a5'
        have b5 := below_then B4.out k5
        have o9 := HO9.out.keep k5 HO9.out.lt
        have q0 := o9.cell (i := 0) (by omega)
        have q1 := o9.cell (i := 1) (by omega)
        simp only [if_true] at q0
        simp only [Nat.one_ne_zero, if_false] at q1
        have HRA5 := Lib.hid (HRA.out.keep k5)
        have H35 := Lib.hid (H3.out.keep k5)
        have H45 := Lib.hid (H4.out.keep k5)
        clear hb5 a5' k5 o9 p0
        go_wp2_with fail
        refine (rpCheckCut_any a A2 a3 a4 d (N + 1) c2 T c3 n3 c4 n4 (js ++ [x]) sup cj cs _ HRA5.out HL (by omega) (hR2.keep b5) HN2 hl2 H35.out HN3 (by omega) H45.out HN4 (by omega)).mono ?_
        rintro e w6 ⟨rfl, hb6⟩
        rw [hcut]
        have b6 := below_then b5 hb6
        go_wp2_with fail
        go_ret
        exact ⟨rfl, b6⟩
end Go.Proofs.Ytgfcnkfmgpakkaa
