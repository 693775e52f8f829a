/-
The law PlanFewer, walked.
-/
import Derived.Test.YtickndjlhokppaaCPlanW7
namespace Go.Proofs.Ytickndjlhokppaa
open Go.RowKit
set_option linter.unusedVariables false
set_option maxRecDepth 100000 in
set_option maxHeartbeats 8000000 in
theorem walk_PlanFewer (A : Option Addr) (c N : Nat) (js : List GJob) {w : World} (hR : Rd 5 encJ w A js) (HN : Hid (js.length = N)) (hl : N ≤ 9223372036854775807) (_ : ∀ x, x ∈ js → wfJ x) (hcap : N ≤ c ∧ c ≤ 9223372036854775807)
    (A2 : Option Addr) (c2 T : Nat) (sup : List Int) (hR2 : Rd 1 encI w A2 sup) (HN2 : Hid (sup.length = T)) (hl2 : T ≤ 9223372036854775807) (_ : ∀ x, x ∈ sup → wf64 x)
    (x : Int) (wx : wf64 x) (le : Int) (wle : wf64 le) (rt : Int) (wrt : wf64 rt) (lo : Int) (wlo : wf64 lo) (mo : Int) (wmo : wf64 mo) :
    Calls Try.prog 6 #[.slice A N c, .slice A2 T c2, .int .i64 x, .int .i64 le, .int .i64 rt, .int .i64 lo, .int .i64 mo] w fun e w' => e = .returned (.bool true) ∧ Below w.heap.size w w' := by
  go_enter Try.func6, Try.ntmps6
  go_wp2_with fail
  refine (lpHead_any w).mono ?_
  rintro e w1 ⟨rfl, b1⟩
  go_wp2_with fail
  refine (rpFew_any A A2 none none none c N c2 T 0 0 0 0 0 0 js sup [] [] [] [] w1 HN HN2 RdP.nil (Lib.hid rfl) (by omega) (Lib.hid rfl) (Lib.hid rfl)).mono ?_
  rintro e w2 ⟨rfl, hb2⟩
  have b2 := below_then b1 hb2
  cases hfew : fewB js sup [] [] []
  · go_wp2_with fail
    go_ret
    exact ⟨rfl, b2⟩
  · go_wp2_with fail
    refine (rpValid_any A A2 c N c2 T js sup w2 (hR.keep b2) HN hl (hR2.keep b2) HN2 hl2).mono ?_
    rintro e w3 ⟨rfl, hb3⟩
    have b3 := below_then b2 hb3
    clear b1 b2 hb2 hb3 hfew
    cases hok : okP js sup
    · go_wp2_with fail
      go_ret
      exact ⟨rfl, b3⟩
    by_cases h0 : N = 0
    · have h0z : (N : Int) = 0 := by omega
      go_wp2_with fail
      go_ret
      exact ⟨rfl, b3⟩
    have h0z : ¬ (N : Int) = 0 := by omega
    have hNb : ((N : Int) == 0) = false := by rw [beq_eq_false_iff_ne]; exact h0z
    by_cases h1 : x < 0
    · go_wp2_with fail
      go_ret
      exact ⟨rfl, b3⟩
    by_cases h2 : le < 0
    · go_wp2_with fail
      go_ret
      exact ⟨rfl, b3⟩
    by_cases h3 : rt < 0
    · go_wp2_with fail
      go_ret
      exact ⟨rfl, b3⟩
    by_cases h4 : lo < 0
    · go_wp2_with fail
      go_ret
      exact ⟨rfl, b3⟩
    by_cases h5 : mo < 0
    · go_wp2_with fail
      go_ret
      exact ⟨rfl, b3⟩
    by_cases h6 : 1000 < mo
    · go_wp2_with fail
      go_ret
      exact ⟨rfl, b3⟩
    by_cases h7 : 1000 < rt
    · go_wp2_with fail
      go_ret
      exact ⟨rfl, b3⟩
    have HOK := Lib.hid hok
    obtain ⟨⟨t1, t2⟩, _, _⟩ := okP_iff.1 hok
    rw [HN.out] at t1
    rw [HN2.out] at t2
    clear hok
    go_wp2_with fail
    refine (lpMet_any A A2 c N c2 T js sup w3 (hR.keep b3) HN hl (hR2.keep b3) HN2 hl2).mono ?_
    rintro e w4 ⟨m0, rfl, hm0, _, hb4⟩
    have P0 := Lib.hid (hm0 HOK.out)
    rw [HOK.out]
    have b4 := below_then b3 hb4
    clear hm0 b3 hb4
    obtain ⟨b, off, hA, _⟩ := hR (by rw [HN.out]; omega)
    subst hA
    obtain ⟨mc, hmk, hown⟩ := mk_roomJ N (by omega)
    have HOwn := Lib.hid hown
    have HMK := Lib.hid hmk
    clear hown hmk
    obtain ⟨q, hq⟩ : ∃ q : Nat, q = x.toNat % N := ⟨_, rfl⟩
    have hqm : x.tmod (N : Int) = (q : Int) := by
      rw [Int.tmod_eq_emod_of_nonneg (by omega), hq, Int.natCast_emod, Int.toNat_of_nonneg (by omega)]
    have hqN : q < N := by rw [hq]; exact Nat.mod_lt _ (by omega)
    have Hqx := Lib.hid hq
    clear hq
    go_upto_region 8 with (fail)
    refine wp_normal (fun K hK => ?_)
    refine pf8 w4 b off c N q js mc K HMK.out HOwn (hR.keep b4) HN t1 hqN hcap.1 hcap.2 _ _ _ _ _ _ _ _ _ _ _ _ _ _ _ _ _ _ _ _ _ _ _ _ _ _ _ _ _ _ _ _ _ _ _ _ _ _ _ _ _ _ _ _ _ _ _ _ _ _ _ _ _ _ _ _ _ _ _ _ _ _ _ _ _ _ _ _ _ _ _ _ _ _ _ _ _ _ _ _ _ _ _ _ _ _ _ _ _ _ _ _ _ _ _ _ _ _ _ _ _ _ _ _ _ _ _ _ _ _ _ _ _ _ _ _ _ _ _ _ _ _ _ _ _ _ _ _ _ _ _ _ _ _ _ _ _ _ _ _ _ _ _ _ _ _ _ _ _ _ _ _ _ _ _ _ _ _ _ _ _ _ _ _ _ _ _ _ _ _ _ _ _ _ _ _ _ _ _ _ _ _ _ _ _ _ _ _ _ _ _ _ _ _ _ _ _ _ _ _ _ _ _ _ (Lib.hid ?_)
    intro W5 v21
    intros
    rename_i ho1 hb5
    refine hK _ _ ?_
    clear hK K
    have b5 := below_then b4 hb5.out
    go_step
    -- easier := append(make(0, len), jobs...)
    have bm : Below W5.heap.size W5 (W5.alloc (.cells mc 38)) := (Below.refl _ _).alloc (Nat.le_refl _) _
    obtain ⟨g1, v22, W6, g2, g3, ho2, hs2⟩ := app_argJ (w := W5.alloc (.cells mc 38)) (c := c) (HOwn.out W5 W5.heap.size (Nat.le_refl _)) ((hR.keep b5).keep bm) HN.out bm.size (by simp; omega)
    have hb6 : Below W5.heap.size W5 W6 := bm.trans hs2.out.bel
    have ho2' := ho2.out
    rw [List.nil_append] at ho2'
    obtain ⟨g, cap, f, hv22, hgb, hcap2, hO, hF⟩ := ho2'.own encJ_len5 (by rw [HN.out]; omega)
    rw [HN.out] at hv22 hcap2
    subst hv22
    have hmk5 := HMK.out
    have b6 := below_then b5 hb6
    have HB5w := Lib.hid b5
    have Hb5 := Lib.hid hb6
    have Ho1 := ho1
    clear ho2 ho2' hs2 bm hb6 ho1 hb5 b4 b5
    have Hgb := Lib.hid hgb
    go_upto_region 10 with (fail)
    clear g1 g2 g3 hmk5
    have hjq : js[q]? = some (jAt js q) := by rw [jAt_lt (by rw [HN.out]; exact hqN)]; exact List.getElem?_eq_getElem (by rw [HN.out]; exact hqN)
    obtain ⟨p1, p2, p3, p4, p5, p6, p7, _, _⟩ := okP_job HOK.out (i := q) (by rw [HN.out]; exact hqN)
    rw [HN2.out] at p3
    have f0 := hF q _ hjq 0 _ rfl
    have f1 := hF q _ hjq 1 _ rfl
    have f2 := hF q _ hjq 2 _ rfl
    have f3 := hF q _ hjq 3 _ rfl
    rw [Nat.add_zero] at f0
    have hq5 : q * 5 + 4 < cap * 5 := by omega
    have c0 := hO.cell (i := q * 5) (by omega)
    have c1 := hO.cell (i := q * 5 + 1) (by omega)
    have c2' := hO.cell (i := q * 5 + 2) (by omega)
    have c3 := hO.cell (i := q * 5 + 3) (by omega)
    rw [f0] at c0
    rw [f1] at c1
    rw [f2] at c2'
    rw [f3] at c3
    have z0 := hO.frozen (q * 5)
    have z1 := hO.frozen (q * 5 + 1)
    have z2 := hO.frozen (q * 5 + 2)
    have z3 := hO.frozen (q * 5 + 3)
    have hqz : (q : Int) < (N : Int) := by omega
    obtain ⟨jf, hjf⟩ : ∃ jf, jf = (jAt js q).frm := ⟨_, rfl⟩
    obtain ⟨jt, hjt⟩ : ∃ jt, jt = (jAt js q).till := ⟨_, rfl⟩
    obtain ⟨je, hje⟩ : ∃ je, je = (jAt js q).energy := ⟨_, rfl⟩
    obtain ⟨jr, hjr⟩ : ∃ jr, jr = (jAt js q).rate := ⟨_, rfl⟩
    rw [← hjf] at c0 p1 p2
    rw [← hjt] at c1 p2 p3
    rw [← hje] at c2' p4 p5
    rw [← hjr] at c3 p6 p7
    obtain ⟨l30, h30⟩ : ∃ l30, l30 = lo.tmod 30 := ⟨_, rfl⟩
    obtain ⟨l7, h7'⟩ : ∃ l7, l7 = lo.tmod 7 := ⟨_, rfl⟩
    have hl30 : 0 ≤ l30 ∧ l30 < 30 := by rw [h30, Int.tmod_eq_emod_of_nonneg (by omega)]; omega
    have hl7 : 0 ≤ l7 ∧ l7 < 7 := by rw [h7', Int.tmod_eq_emod_of_nonneg (by omega)]; omega
    obtain ⟨ne, hne⟩ : ∃ ne, ne = max 0 (je - le) := ⟨_, rfl⟩
    obtain ⟨nr, hnr⟩ : ∃ nr, nr = min 1000 (jr + rt) := ⟨_, rfl⟩
    obtain ⟨nf, hnf⟩ : ∃ nf, nf = max 0 (jf - l30) := ⟨_, rfl⟩
    obtain ⟨nt, hnt⟩ : ∃ nt, nt = min (T : Int) (jt + l7) := ⟨_, rfl⟩
    have Hjj := Lib.hid (And.intro hjf (And.intro hjt (And.intro hje hjr)))
    have Hll := Lib.hid (And.intro h30 h7')
    have Hnn := Lib.hid (And.intro hne (And.intro hnr (And.intro hnf hnt)))
    have hle2 := wf_bd wle
    have hlo2 := wf_bd wlo
    have h30' : lo.tmod 30 = l30 := h30.symm
    have h7'' : lo.tmod 7 = l7 := h7'.symm
    have hcn : g ≠ b ∨ True := .inr trivial
    clear hjf hjt hje hjr h30 h7' hne hnr hnf hnt f0 f1 f2 f3 hcn
    have HO := Lib.hid hO
    have HF := Lib.hid hF
    have Hhjq := Lib.hid hjq
    clear hO hF hjq
    go_cut [103] (fun _ wx => Hid (W6.setCell ⟨g, q * 5 + 2, none⟩ (.int .i64 ne) = wx))
    case first =>
      go_wp2_with fail
      all_goals
        go_meet
        exact Lib.hid (by congr 2; have := Hnn.out.1; omega)
    case rest =>
      have d0 : wc.cell? ⟨g, q * 5, none⟩ = some (.int .i64 jf) := by rw [← hcut.out]; go_simp
      have d1 : wc.cell? ⟨g, q * 5 + 1, none⟩ = some (.int .i64 jt) := by rw [← hcut.out]; go_simp
      have d3 : wc.cell? ⟨g, q * 5 + 3, none⟩ = some (.int .i64 jr) := by rw [← hcut.out]; go_simp
      have y0 : wc.frozen? ⟨g, q * 5, none⟩ = false := by rw [← hcut.out]; go_simp
      have y1 : wc.frozen? ⟨g, q * 5 + 1, none⟩ = false := by rw [← hcut.out]; go_simp
      have y3 : wc.frozen? ⟨g, q * 5 + 3, none⟩ = false := by rw [← hcut.out]; go_simp
      have Hwc := hcut
      clear hcut c0 c1 c2' c3 z0 z1 z2 z3
      generalize wc = X1 at *
      go_upto_region 11 with (fail)
      go_cut [115] (fun _ wx => Hid (X1.setCell ⟨g, q * 5 + 3, none⟩ (.int .i64 nr) = wx))
      case first =>
        go_wp2_with fail
        all_goals
          go_meet
          exact Lib.hid (by congr 2; have := Hnn.out.2.1; omega)
      case rest =>
        have e0 : wc.cell? ⟨g, q * 5, none⟩ = some (.int .i64 jf) := by rw [← hcut.out]; go_simp
        have e1 : wc.cell? ⟨g, q * 5 + 1, none⟩ = some (.int .i64 jt) := by rw [← hcut.out]; go_simp
        have x0 : wc.frozen? ⟨g, q * 5, none⟩ = false := by rw [← hcut.out]; go_simp
        have x1 : wc.frozen? ⟨g, q * 5 + 1, none⟩ = false := by rw [← hcut.out]; go_simp
        have Hwc2 := hcut
        clear hcut d0 d1 d3 y0 y1 y3
        generalize wc = X2 at *
        go_upto_region 12 with (fail)
        go_cut [127] (fun _ wx => Hid (X2.setCell ⟨g, q * 5, none⟩ (.int .i64 nf) = wx))
        case first =>
          go_wp2_with fail
          all_goals
            go_meet
            exact Lib.hid (by congr 2; have := Hnn.out.2.2.1; omega)
        case rest =>
          have i1 : wc.cell? ⟨g, q * 5 + 1, none⟩ = some (.int .i64 jt) := by rw [← hcut.out]; go_simp
          have r1 : wc.frozen? ⟨g, q * 5 + 1, none⟩ = false := by rw [← hcut.out]; go_simp
          have Hwc3 := hcut
          clear hcut e0 e1 x0 x1
          generalize wc = X3 at *
          go_upto_region 13 with (fail)
          go_cut [140] (fun _ wx => Hid (X3.setCell ⟨g, q * 5 + 1, none⟩ (.int .i64 nt) = wx))
          case first =>
            go_wp2_with fail
            all_goals
              go_meet
              exact Lib.hid (by congr 2; have := Hnn.out.2.2.2; omega)
          case rest =>
            clear i1 r1
            have RE : Rd 5 encJ wc (some ⟨g, 0, none⟩) (js.set q (chJ (jAt js q) nf nt ne nr)) := by
              have := changed_rd HO.out HF.out (by rw [HN.out]; exact hcap2) (by rw [HN.out]; exact hqN) nf nt ne nr
              rw [Hwc.out, Hwc2.out, Hwc3.out, hcut.out] at this
              exact this
            have bX : Below W5.heap.size W5 wc := by
              rw [← hcut.out, ← Hwc3.out, ← Hwc2.out, ← Hwc.out]
              exact (((Hb5.out.setCell (p := ⟨g, q * 5 + 2, none⟩) Hgb.out _).setCell (p := ⟨g, q * 5 + 3, none⟩) Hgb.out _).setCell (p := ⟨g, q * 5, none⟩) Hgb.out _).setCell (p := ⟨g, q * 5 + 1, none⟩) Hgb.out _
            have b8 : Below w.heap.size w wc := below_then HB5w.out bX
            obtain ⟨a1, d1, e1, r1⟩ := (Ho1.out.keepB bX).rd encJ_len5
            have L1 : Hid ((js.take q ++ js.drop (q + 1)).length = N - 1) := Lib.hid (by rw [List.length_append, List.length_take, List.length_drop, HN.out]; omega)
            rw [L1.out] at e1
            subst e1
            have L2 : Hid ((js.set q (chJ (jAt js q) nf nt ne nr)).length = N) := Lib.hid (by rw [List.length_set]; exact HN.out)
            obtain ⟨hjf, hjt, hje, hjr⟩ := Hjj.out
            obtain ⟨hne, hnr, hnf, hnt⟩ := Hnn.out
            have K1 : Hid (okP (js.take q ++ js.drop (q + 1)) sup = true) := Lib.hid (okP_without HOK.out q)
            have K2 : Hid (∀ sup' : List Int, sup'.length = sup.length → (∀ t, t < sup.length → 0 ≤ fAt sup' t ∧ fAt sup' t ≤ 1000) → okP (js.set q (chJ (jAt js q) nf nt ne nr)) sup' = true) := Lib.hid (fun sup' hs hsup => okP_easier HOK.out (by rw [HN.out]; exact hqN) hs hsup (by omega) (by omega) (by rw [HN2.out]; omega) (by omega) (by omega))
            have E1 : Hid (Met js sup → Met (js.take q ++ js.drop (q + 1)) sup) := Lib.hid (fun h => h.without (by rw [HN.out]; exact hqN))
            have E2 : Hid (∀ sup' : List Int, sup'.length = sup.length → (∀ t, t < sup.length → fAt sup t ≤ fAt sup' t) → Met js sup → Met (js.set q (chJ (jAt js q) nf nt ne nr)) sup') := Lib.hid (fun sup' hs hsup h => met_easier (by rw [HN.out]; exact hqN) hs hsup HOK.out (by rw [← hjf]; omega) (by rw [← hjt]; omega) (by rw [← hje]; omega) (by rw [← hjr]; omega) h)
            have HSU := Lib.hid (fun (t : Nat) (ht : t < T) => okP_sup HOK.out (t := t) (by rw [HN2.out]; exact ht))
            have HRS := Lib.hid (hR2.keep b8)
            have HB8 := Lib.hid b8
            have HRE := Lib.hid (And.intro RE r1)
            clear hcut Hwc Hwc2 Hwc3 RE bX b8 r1 Ho1 HO HF Hb5 Hgb hR hR2 HB5w hjf hjt hje hjr hne hnr hnf hnt Hjj Hnn Hll HMK HOwn hle2 hlo2 h30' h7'' hl30 hl7
            generalize wc = w8 at *
            go_step
            go_wp2
            go_loopg [23, 24] T (fun g1 v23 v24 wr => ∃ k : Nat, v24 = .int .i64 k ∧ k ≤ T ∧ T - k ≤ g1 ∧ Hid (OwnN wr w8.heap.size v23 (mk k (fun i => min 1000 (fAt sup i + mo * ((i % 2 : Nat) : Int))))) ∧ Hid (Below w8.heap.size w8 wr))
            case atStart => exact ⟨0, by go_num, by omega, by omega, Lib.hid (OwnR.nil _ _), Lib.hid (Below.refl _ _)⟩
            case round =>
              obtain ⟨k, rfl, hk, hg1, HT, HB⟩ := hrel
              by_cases hlt : k < T
              · have hltz : (k : Int) < (T : Int) := by omega
                obtain ⟨b', off', hA', hbl', hc0⟩ := (HRS.out.keep HB.out).int (k := k) (by rw [HN2.out]; exact hlt)
                have hck : wr.cell? ⟨b', off' + k, none⟩ = some (.int .i64 (fAt sup k)) := hc0
                have hsk := HSU.out k hlt
                subst hA'
                obtain ⟨r2, hr2⟩ : ∃ r2 : Nat, r2 = k % 2 := ⟨_, rfl⟩
                have hr2b : r2 = 0 ∨ r2 = 1 := by omega
                have hk2 : (k : Int).tmod 2 = (r2 : Int) := by rw [Int.tmod_eq_emod_of_nonneg (by omega), hr2]; omega
                obtain ⟨pr, hpr⟩ : ∃ pr, pr = mo * (r2 : Int) := ⟨_, rfl⟩
                have hprb : 0 ≤ pr ∧ pr ≤ 1000 := by rcases hr2b with h | h <;> (rw [hpr, h]; first | (simp; done) | (simp; omega))
                have hpr' : mo * (r2 : Int) = pr := hpr.symm
                have Hnx : Hid (mk (k + 1) (fun i => min 1000 (fAt sup i + mo * ((i % 2 : Nat) : Int))) = mk k (fun i => min 1000 (fAt sup i + mo * ((i % 2 : Nat) : Int))) ++ [min 1000 (fAt sup k + pr)]) := Lib.hid (by rw [mk_succ, hpr, hr2])
                have hsz := HB.out.size
                clear hc0 hpr hr2 hr2b
                generalize fAt sup k = sk at *
                by_cases hle : sk + pr < 1000
                · obtain ⟨ap1, v1', W2, av1, aw1, HO1, HA1⟩ := app_num (sk + pr) HT.out hsz (by rw [mk_len]; omega)
                  have HT4 : Hid (OwnN W2 w8.heap.size v1' (mk (k + 1) (fun i => min 1000 (fAt sup i + mo * ((i % 2 : Nat) : Int))))) := Lib.hid (by rw [Hnx.out, show min 1000 (sk + pr) = sk + pr by omega]; exact HO1.out)
                  have HB5 : Hid (Below w8.heap.size w8 W2) := Lib.hid (HB.out.trans HA1.out.bel)
                  clear HT HB HO1 HA1 Hnx
                  go_wp2
                  go_roundg (T - (k + 1))
                  case measure => omega
                  case rel => exact ⟨k + 1, by go_num, by omega, by omega, HT4, HB5⟩
                · obtain ⟨ap1, v1', W2, av1, aw1, HO1, HA1⟩ := app_num 1000 HT.out hsz (by rw [mk_len]; omega)
                  have HT4 : Hid (OwnN W2 w8.heap.size v1' (mk (k + 1) (fun i => min 1000 (fAt sup i + mo * ((i % 2 : Nat) : Int))))) := Lib.hid (by rw [Hnx.out, show min 1000 (sk + pr) = 1000 by omega]; exact HO1.out)
                  have HB5 : Hid (Below w8.heap.size w8 W2) := Lib.hid (HB.out.trans HA1.out.bel)
                  clear HT HB HO1 HA1 Hnx
                  go_wp2
                  go_roundg (T - (k + 1))
                  case measure => omega
                  case rel => exact ⟨k + 1, by go_num, by omega, by omega, HT4, HB5⟩
              · have hltz : ¬ (k : Int) < (T : Int) := by omega
                have hkT : T = k := by omega
                subst hkT
                obtain ⟨a5, d5, e5, r5⟩ := HT.out.rd encI_len1
                rw [mk_len] at e5
                subst e5
                have hwd : ∀ t, t < sup.length → fAt (mk T (fun i => min 1000 (fAt sup i + mo * ((i % 2 : Nat) : Int)))) t = min 1000 (fAt sup t + mo * ((t % 2 : Nat) : Int)) ∧ 0 ≤ mo * ((t % 2 : Nat) : Int) := fun t ht => by
                  rw [HN2.out] at ht
                  exact ⟨mk_f _ ht, Int.mul_nonneg (by omega) (by omega)⟩
                have L5 : Hid ((mk T (fun i => min 1000 (fAt sup i + mo * ((i % 2 : Nat) : Int)))).length = T) := Lib.hid (mk_len _ _)
                have K3 : Hid (okP (js.set q (chJ (jAt js q) nf nt ne nr)) (mk T (fun i => min 1000 (fAt sup i + mo * ((i % 2 : Nat) : Int)))) = true) := Lib.hid (K2.out _ (by rw [mk_len, HN2.out]) (fun t ht => by
                  have h1 := hwd t ht
                  have h2 := HSU.out t (by rw [← HN2.out]; exact ht)
                  rw [h1.1]
                  omega))
                have E3 : Hid (Met js sup → Met (js.set q (chJ (jAt js q) nf nt ne nr)) (mk T (fun i => min 1000 (fAt sup i + mo * ((i % 2 : Nat) : Int))))) := Lib.hid (E2.out _ (by rw [mk_len, HN2.out]) (fun t ht => by
                  have h1 := hwd t ht
                  have h2 := HSU.out t (by rw [← HN2.out]; exact ht)
                  rw [h1.1]
                  omega))
                obtain ⟨RE, r1⟩ := HRE.out
                have RE := RE.keep HB.out
                have r1 := r1.keep HB.out
                have hS := HRS.out.keep HB.out
                have b9 := below_then HB8.out HB.out
                generalize mk T (fun i => min 1000 (fAt sup i + mo * ((i % 2 : Nat) : Int))) = wd at *
                clear HT HB K2 E2 HSU HRS HB8 HRE hwd hk hg1 hlt hltz
                go_wp2_with fail
                refine (lpMet_any a1 A2 d1 (N - 1) c2 T _ sup wr r1 L1 (by omega) hS HN2 hl2).mono ?_
                rintro e w5 ⟨m1, rfl, hm1, _, hb5⟩
                have P1 := Lib.hid (hm1 K1.out)
                rw [K1.out]
                clear hm1
                go_wp2_with fail
                refine (lpMet_any (some ⟨g, 0, none⟩) a5 cap N d5 T _ wd w5 (RE.keep hb5) L2 (by omega) (r5.keep hb5) L5 hl2).mono ?_
                rintro e w6 ⟨m2, rfl, hm2, _, hb6⟩
                have P2 := Lib.hid (hm2 K3.out)
                rw [K3.out]
                clear hm2
                have Hend := Lib.hid (below_then b9 (below_then hb5 hb6))
                cases m0
                · go_wp2_with fail
                  go_ret
                  exact ⟨rfl, Hend.out⟩
                · have q1 : m1 = true := P1.out.1.2 (E1.out (P0.out.1.1 rfl))
                  have q2 : m2 = true := P2.out.1.2 (E3.out (P0.out.1.1 rfl))
                  subst q1 q2
                  go_wp2_with fail
                  go_ret
                  exact ⟨rfl, Hend.out⟩
end Go.Proofs.Ytickndjlhokppaa
