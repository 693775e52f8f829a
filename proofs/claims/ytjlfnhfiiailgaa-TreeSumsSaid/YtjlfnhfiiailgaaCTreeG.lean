/-
tree.Loads, the whole.
-/
import Derived.Test.YtjlfnhfiiailgaaCTreeF
namespace Go.Proofs.Ytjlfnhfiiailgaa
open Go.RowKit Go.Shelf
attribute [local go_sem] Oper.semAt_some
set_option linter.unusedVariables false
set_option linter.unusedSimpArgs false
/-- What holds at the head of each round. -/
def LdInv (w : World) (a1 : Option Addr) (n1 c1 : Nat) (a2 : Option Addr) (n2 c2 : Nat) (a3 : Option Addr) (n3 c3 : Nat) (a4 : Option Addr) (n4 c4 : Nat) (a5 : Option Addr) (n5 c5 : Nat) (aA : Option Addr) (nA cA : Nat) (g0 B : Nat) (s : GSite) (xs : List Int) (a : Act) (W : World) : Prop :=
  ∃ (i : Nat) (ds : List Deferred) (u0 u1 u4 u5 u6 u7 u9 u10 u11 u12 u13 u14 u15 u16 u17 u18 u19 u20 u21 u22 u23 u24 u25 u26 u27 u28 u29 u30 u31 u32 u33 u34 u35 u36 u37 u38 u39 u40 u44 u45 u46 u47 u48 u49 u50 u51 u52 u53 u54 u55 u56 u57 u58 u59 u60 u61 u62 u63 u64 : Value), i ≤ n4 ∧ LdM w W a1 n1 c1 a2 n2 c2 a3 n3 c3 a4 n4 c4 a5 n5 c5 aA nA cA g0 (loadS s (fI xs) i) ∧ Marks B W ds ∧ B ≤ W.heap.size ∧ a = ⟨List.toArray (u0 :: u1 :: (.pointer (some ⟨w.heap.size, 0, none⟩)) :: (.pointer (some ⟨w.heap.size + 1, 0, none⟩)) :: u4 :: u5 :: u6 :: u7 :: (.pointer (some ⟨g0 + 1, 0, none⟩)) :: u9 :: u10 :: u11 :: u12 :: u13 :: u14 :: u15 :: u16 :: u17 :: u18 :: u19 :: u20 :: u21 :: u22 :: u23 :: u24 :: u25 :: u26 :: u27 :: u28 :: u29 :: u30 :: u31 :: u32 :: u33 :: u34 :: u35 :: u36 :: u37 :: u38 :: u39 :: u40 :: (.slice a4 n4 c4) :: (.int .i64 (n4 : Nat)) :: (.int .i64 (i : Nat)) :: u44 :: u45 :: u46 :: u47 :: u48 :: u49 :: u50 :: u51 :: u52 :: u53 :: u54 :: u55 :: u56 :: u57 :: u58 :: u59 :: u60 :: u61 :: u62 :: u63 :: u64 :: []), ds⟩
def LdMu (n4 : Nat) (a : Act) (_ : World) : Nat := n4 - (intOf (a.tmps.getD 43 undef)).toNat
/-- What Loads does. -/
def LdPost (w : World) (s : GSite) (xs : List Int) (e : Ending) (w' : World) : Prop := ∃ a c, e = .returned (.tuple #[.slice a (loadsO s xs).length c, .int .i64 (errO (loadB s xs))]) ∧ Rd 3 enc3 w' a (loadsO s xs) ∧ Below w.heap.size w w'
theorem row3Info : (Try.prog.info? 55).map (fun i => (i.zero, i.size, i.bytes)) = some (some (.agg #[.int .i64 0, .int .i64 0, .int .i64 0]), 3, 24) := by kernel_rfl
theorem mk_rows3 (n : Nat) (h : n ≤ 1000000) (W : World) : ∃ W', (Instr.makeSlice 35 (.int .i64 n) (.int .i64 n)).run Try.prog W = .ok (.slice (some ⟨W.heap.size, 0, none⟩) n n) W' ∧ Own W' W.heap.size 55 (n * 3) (fun _ => .int .i64 0) ∧ Below W.heap.size W W' ∧ W'.heap.size = W.heap.size + 1 := by
  refine ⟨_, mk_row 35 55 _ 3 24 Try.underlying35 row3Info (n : Int) (by omega) (by omega) (by omega) W, ?_, (Below.refl _ W).alloc (Nat.le_refl _) _, by simp⟩
  have h := Own.made W 55 #[.int .i64 0, .int .i64 0, .int .i64 0] (n * 3)
  refine h.congr (fun i _ => ?_)
  have h3 : i % 3 = 0 ∨ i % 3 = 1 ∨ i % 3 = 2 := by omega
  rcases h3 with e | e | e <;> simp [e]
set_option maxRecDepth 100000 in
set_option maxHeartbeats 8000000 in
theorem trLoads_any (a1 : Option Addr) (n1 c1 : Nat) (a2 : Option Addr) (n2 c2 : Nat) (a3 : Option Addr) (n3 c3 : Nat) (a4 : Option Addr) (n4 c4 : Nat) (a5 : Option Addr) (n5 c5 : Nat) (aA : Option Addr) (nA cA : Nat) (s : GSite) (xs : List Int) (w : World) (HS : Hid (RdSite w a1 a2 a3 a4 a5 n1 n2 n3 n4 n5 s)) (HX : Hid (Rd 1 encI w aA xs)) (HNA : Hid (xs.length = nA)) (hnA : nA ≤ 9223372036854775807) :
    Calls Try.prog 14 #[.agg #[.slice a1 n1 c1, .slice a2 n2 c2, .slice a3 n3 c3, .slice a4 n4 c4, .slice a5 n5 c5], .slice aA nA cA] w fun e w' => LdPost w s xs e w' := by
  obtain ⟨m1, m2, m3, m4, m5⟩ : n1 ≤ 9223372036854775807 ∧ n2 ≤ 9223372036854775807 ∧ n3 ≤ 9223372036854775807 ∧ n4 ≤ 9223372036854775807 ∧ n5 ≤ 9223372036854775807 := ⟨HS.out.m1, HS.out.m2, HS.out.m3, HS.out.m4, HS.out.m5⟩
  have hW0 : Below w.heap.size w ((w.alloc (.cells #[.slice a1 n1 c1, .slice a2 n2 c2, .slice a3 n3 c3, .slice a4 n4 c4, .slice a5 n5 c5] 28)).alloc (.cells #[.slice aA nA cA] 29)) := ((Below.refl _ w).alloc (Nat.le_refl _) _).alloc (by simp) _
  have HV := Lib.hid (stValid_any a1 a2 a3 a4 a5 n1 c1 n2 c2 n3 c3 n4 c4 n5 c5 s ((w.alloc (.cells #[.slice a1 n1 c1, .slice a2 n2 c2, .slice a3 n3 c3, .slice a4 n4 c4, .slice a5 n5 c5] 28)).alloc (.cells #[.slice aA nA cA] 29)) (Lib.hid (HS.out.keep hW0)))
  refine (callsIn_wide (n := 5)).1 ?_
  refine callsIn_of_wp_marks Try.func14 rfl trivial ?_ rfl
  refine wpIn_wide.2 ?_
  simp only [Try.ntmps14, List.size_toArray, List.length_cons, List.length_nil, Nat.reduceAdd, Nat.reduceSub, Array.replicate_succ, Array.replicate_zero, List.push_toArray, List.append_toArray, List.nil_append, List.cons_append]
  go_wp2_with fail
  refine HV.out.mono ?_
  rintro e w1 ⟨rfl, hb1⟩
  have hb : Below w.heap.size w w1 := below_then hW0 hb1
  have hs1 : w.heap.size + 2 ≤ w1.heap.size := by have := hb1.size; rw [World.size_alloc, World.size_alloc] at this; exact this
  have q0 : w1.cell? ⟨w.heap.size, 0, none⟩ = some (.slice a1 n1 c1) := (hb1.cell (p := ⟨w.heap.size, 0, none⟩) (by simp; omega)).trans (by go_simp)
  have q1 : w1.cell? ⟨w.heap.size, 1, none⟩ = some (.slice a2 n2 c2) := (hb1.cell (p := ⟨w.heap.size, 1, none⟩) (by simp; omega)).trans (by go_simp)
  have q2 : w1.cell? ⟨w.heap.size, 2, none⟩ = some (.slice a3 n3 c3) := (hb1.cell (p := ⟨w.heap.size, 2, none⟩) (by simp; omega)).trans (by go_simp)
  have q3 : w1.cell? ⟨w.heap.size, 3, none⟩ = some (.slice a4 n4 c4) := (hb1.cell (p := ⟨w.heap.size, 3, none⟩) (by simp; omega)).trans (by go_simp)
  have q4 : w1.cell? ⟨w.heap.size, 4, none⟩ = some (.slice a5 n5 c5) := (hb1.cell (p := ⟨w.heap.size, 4, none⟩) (by simp; omega)).trans (by go_simp)
  have qa : w1.cell? ⟨w.heap.size + 1, 0, none⟩ = some (.slice aA nA cA) := (hb1.cell (p := ⟨w.heap.size + 1, 0, none⟩) (by simp)).trans (by go_simp)
  have HB := Lib.hid hb
  clear hb hb1 HV hW0
  cases hok : okSB keyL s
  · have HN : Hid (loadB s xs = false) := Lib.hid (loadB_no1 hok)
    go_wp2_with fail
    refine leaves_marks (B := w.heap.size) [] _ (Marks.nil _ _) (fun W3 hT => ⟨_, results_tmp2 (t := 4) (u := 5) (by kernel_rfl) _ _ _, none, 0, by rw [HN.out, loadsO_no HN.out]; rfl, by rw [loadsO_no HN.out]; exact Rd.nil, HB.out.trans (taken_below1 hT (Nat.le_refl _))⟩)
  have HOK := Lib.hid (okSB_iff.1 hok)
  by_cases hlen : nA = n4
  case neg =>
    have HN : Hid (loadB s xs = false) := Lib.hid (loadB_no2 (curB_no1 (by rw [HNA.out, HS.out.l4]; exact hlen)))
    have hlz : ¬ (nA : Int) = (n4 : Int) := by omega
    clear hok
    go_wp2_with fail
    refine leaves_marks (B := w.heap.size) [] _ (Marks.nil _ _) (fun W3 hT => ⟨_, results_tmp2 (t := 4) (u := 5) (by kernel_rfl) _ _ _, none, 0, by rw [HN.out, loadsO_no HN.out]; rfl, by rw [loadsO_no HN.out]; exact Rd.nil, HB.out.trans (taken_below1 hT (Nat.le_refl _))⟩)
  subst hlen
  have hn16 : n1 ≤ 16 := by have := HOK.out.n2; have := HS.out.l1; omega
  have HOKB := Lib.hid hok
  clear hok
  go_wp2_with fail
  go_loopg [7, 25] nA (fun g1 v7 v25 wr => ∃ k : Nat, v25 = .int .i64 k ∧ k ≤ nA ∧ nA - k ≤ g1 ∧ Hid (∀ i, i < k → 0 ≤ fI xs i ∧ fI xs i ≤ 80) ∧ w1 = wr)
  case atStart => exact ⟨0, by go_num, by omega, by omega, Lib.hid (fun i hi => absurd hi (by omega)), rfl⟩
  case round =>
    obtain ⟨k, rfl, hk, hg1, HA, rfl⟩ := hrel
    by_cases hlt : k < nA
    · have hltz : (k : Int) < (nA : Int) := by omega
      obtain ⟨ba, oa, hAA, hba, hax⟩ := HX.out.int (k := k) (by rw [HNA.out]; exact hlt)
      have hx1 : w1.cell? ⟨ba, oa + k, none⟩ = some (.int .i64 (fI xs k)) := (HB.out.cell (p := ⟨ba, oa + k, none⟩) hba).trans hax
      have HXK : Hid (¬ (0 ≤ fI xs k ∧ fI xs k ≤ 80) → loadB s xs = false) := Lib.hid (fun h => loadB_no2 (curB_no2 (by rw [HNA.out]; exact hlt) h))
      have HX2 : Hid (0 ≤ fI xs k ∧ fI xs k ≤ 80 → ∀ i, i < k + 1 → 0 ≤ fI xs i ∧ fI xs i ≤ 80) := Lib.hid (fun h i hi => by
        rcases Nat.lt_succ_iff_lt_or_eq.1 hi with h1 | h1
        · exact HA.out i h1
        · rw [h1]; exact h)
      subst hAA
      clear hax HA
      generalize fI xs k = x at *
      by_cases h0 : x < 0
      · have HN : Hid (loadB s xs = false) := Lib.hid (HXK.out (by omega))
        clear HXK HX2
        go_wp2_with fail
        refine leaves_marks (B := w.heap.size) [] _ (Marks.nil _ _) (fun W3 hT => ⟨_, results_tmp2 (t := 4) (u := 5) (by kernel_rfl) _ _ _, none, 0, by rw [HN.out, loadsO_no HN.out]; rfl, by rw [loadsO_no HN.out]; exact Rd.nil, HB.out.trans (taken_below1 hT (Nat.le_refl _))⟩)
      · by_cases h1 : 80 < x
        · have HN : Hid (loadB s xs = false) := Lib.hid (HXK.out (by omega))
          clear HXK HX2
          go_wp2_with fail
          refine leaves_marks (B := w.heap.size) [] _ (Marks.nil _ _) (fun W3 hT => ⟨_, results_tmp2 (t := 4) (u := 5) (by kernel_rfl) _ _ _, none, 0, by rw [HN.out, loadsO_no HN.out]; rfl, by rw [loadsO_no HN.out]; exact Rd.nil, HB.out.trans (taken_below1 hT (Nat.le_refl _))⟩)
        · have HA2 := Lib.hid (HX2.out (by omega))
          clear HXK HX2
          go_wp2_with fail
          go_roundg (nA - (k + 1))
          case measure => omega
          case rel => exact ⟨k + 1, by go_num, by omega, by omega, HA2, rfl⟩
    · have hltz : ¬ (k : Int) < (nA : Int) := by omega
      have hkn : k = nA := by omega
      subst hkn
      have HCU : Hid (xs.length = s.chgs.length ∧ ∀ i, i < xs.length → 0 ≤ fI xs i ∧ fI xs i ≤ 80) := Lib.hid ⟨by rw [HNA.out, HS.out.l4], fun i hi => HA.out i (by rw [HNA.out] at hi; exact hi)⟩
      have HY : Hid (loadB s xs = true) := Lib.hid (loadB_yes HOKB.out (curB_iff.2 HCU.out))
      obtain ⟨W2, hmk, ho2, bw2, hsz2⟩ := mk_rows3 n1 (by omega) w1
      have HO2 := Lib.hid ho2
      have HBW2 := Lib.hid bw2
      obtain ⟨g0, hg0⟩ : ∃ g0, g0 = w1.heap.size := ⟨_, rfl⟩
      have HG0 := Lib.hid hg0
      have HSZ2 := Lib.hid hsz2
      have hlt2 : w.heap.size + 1 < W2.heap.size := by omega
      have hlt3 : w.heap.size < W2.heap.size := by omega
      have HBL : Hid (Below W2.heap.size W2 (W2.alloc (.cells #[.slice (some ⟨w1.heap.size, 0, none⟩) n1 n1] 35))) := Lib.hid ((Below.refl _ W2).alloc (Nat.le_refl _) _)
      have HOL : Hid (Own (W2.alloc (.cells #[.slice (some ⟨w1.heap.size, 0, none⟩) n1 n1] 35)) (w1.heap.size + 1) 35 1 (fun _ => .slice (some ⟨w1.heap.size, 0, none⟩) n1 n1)) := Lib.hid (by
        have h := Own.one W2 35 (.slice (some ⟨w1.heap.size, 0, none⟩) n1 n1)
        rw [hsz2] at h
        exact h)
      have HMM : Hid (LdM w (W2.alloc (.cells #[.slice (some ⟨w1.heap.size, 0, none⟩) n1 n1] 35)) a1 n1 c1 a2 n2 c2 a3 n3 c3 a4 k c4 a5 n5 c5 aA k cA w1.heap.size (loadS s (fI xs) 0)) := Lib.hid (by
        have hbb := bw2.trans (HBL.out.mono (by omega))
        exact ⟨(hbb.cell (p := ⟨w.heap.size, 0, none⟩) (by dsimp only; omega)).trans q0, (hbb.cell (p := ⟨w.heap.size, 1, none⟩) (by dsimp only; omega)).trans q1, (hbb.cell (p := ⟨w.heap.size, 2, none⟩) (by dsimp only; omega)).trans q2, (hbb.cell (p := ⟨w.heap.size, 3, none⟩) (by dsimp only; omega)).trans q3, (hbb.cell (p := ⟨w.heap.size, 4, none⟩) (by dsimp only; omega)).trans q4, (hbb.cell (p := ⟨w.heap.size + 1, 0, none⟩) (by dsimp only; omega)).trans qa, HOL.out, (HO2.out.keep HBL.out HO2.out.lt).congr (fun i _ => rfl), below_then HB.out hbb, by omega⟩)
      clear ho2 bw2 HA hsz2
      have r3 := (HBW2.out.cell (p := ⟨w.heap.size, 3, none⟩) (by dsimp only; omega)).trans q3
      go_wp2_with fail
      rw [HSZ2.out]
      generalize hWW : W2.alloc (.cells #[.slice (some ⟨w1.heap.size, 0, none⟩) n1 n1] 35) = W3 at *
      have hbs : w.heap.size ≤ W3.heap.size := HMM.out.bel.size
      have hn1m : n1 ≤ 9223372036854775807 := m1
      refine wp_loop (LdInv w a1 n1 c1 a2 n2 c2 a3 n3 c3 a4 k c4 a5 n5 c5 aA k cA w1.heap.size W3.heap.size s xs) (LdMu k) ?_ ?_
      · exact ⟨0, [], _, _, _, _, _, _, _, _, _, _, _, _, _, _, _, _, _, _, _, _, _, _, _, _, _, _, _, _, _, _, _, _, _, _, _, _, _, _, _, _, _, _, _, _, _, _, _, _, _, _, _, _, _, _, _, _, _, _, _, by omega, HMM.out, Marks.nil _ _, Nat.le_refl _, rfl⟩
      · rintro a W ⟨i, ds, u0, u1, u4, u5, u6, u7, u9, u10, u11, u12, u13, u14, u15, u16, u17, u18, u19, u20, u21, u22, u23, u24, u25, u26, u27, u28, u29, u30, u31, u32, u33, u34, u35, u36, u37, u38, u39, u40, u44, u45, u46, u47, u48, u49, u50, u51, u52, u53, u54, u55, u56, u57, u58, u59, u60, u61, u62, u63, u64, hi, m, hmk, hBW, rfl⟩
        by_cases hlt : i < k
        · refine ld_round w W a1 n1 c1 a2 n2 c2 a3 n3 c3 a4 k c4 a5 n5 c5 aA k cA w1.heap.size W3.heap.size i s xs ds _ _ HS HOK HX HCU HNA hlt (Lib.hid m) hmk hbs hBW _ _ _ _ _ _ _ _ _ _ _ _ _ _ _ _ _ _ _ _ _ _ _ _ _ _ _ _ _ _ _ _ _ _ _ _ _ _ _ _ _ _ _ _ _ _ _ _ _ _ _ _ _ _ _ _ _ _ _ (Lib.hid ?_)
          intro W' D y0 y1 y4 y5 y6 y7 y9 y10 y11 y12 y13 y14 y15 y16 y17 y18 y19 y20 y21 y22 y23 y24 y25 y26 y27 y28 y29 y30 y31 y32 y33 y34 y35 y36 y37 y38 y39 y40 y44 y45 y46 y47 y48 y49 y50 y51 y52 y53 y54 y55 y56 y57 y58 y59 y60 y61 y62 y63 y64 m' hmk' hBW'
          refine ⟨⟨i + 1, _, _, _, _, _, _, _, _, _, _, _, _, _, _, _, _, _, _, _, _, _, _, _, _, _, _, _, _, _, _, _, _, _, _, _, _, _, _, _, _, _, _, _, _, _, _, _, _, _, _, _, _, _, _, _, _, _, _, _, _, by omega, m', hmk', hBW', rfl⟩, ?_⟩
          show k - (intOf (.int .i64 ((i : Int) + 1))).toNat < k - (intOf (.int .i64 (i : Int))).toNat
          simp [intOf]
          omega
        · have hik : i = k := by omega
          have hltz : ¬ (i : Int) < (k : Int) := by omega
          subst hik
          have ql := m.kl.cell (i := 0) (by omega)
          have HMo := Lib.hid m
          clear m
          go_wp2_with fail
          refine leaves_marks (B := W3.heap.size) ds _ hmk (fun W4 hT => ⟨_, results_tmp2 (t := 4) (u := 5) (by kernel_rfl) _ _ _, ?_⟩)
          have hog := hT.own HMo.out.og
          have hl : s.cons.length = n1 := HS.out.l1
          have hcl : s.chgs.length = i := HS.out.l4
          refine ⟨some ⟨w1.heap.size, 0, none⟩, n1, ?_, ?_, HMo.out.bel.trans (taken_below1 hT hbs)⟩
          · rw [HY.out, loadsO_yes HY.out, loadsOf_len, hl]
            rfl
          · rw [loadsO_yes HY.out]
            unfold loadsOf
            rw [hl, hcl]
            exact hog.rd3
end Go.Proofs.Ytjlfnhfiiailgaa
