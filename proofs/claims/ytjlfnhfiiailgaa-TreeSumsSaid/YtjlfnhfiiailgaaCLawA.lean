/-
The law's own functions: cable, charger, usable, in, currents, loads.
-/
import Derived.Test.YtjlfnhfiiailgaaCRefD
import Derived.Test.YtjlfnhfiiailgaaCOpenS
namespace Go.Proofs.Ytjlfnhfiiailgaa
open Go.RowKit
set_option linter.unusedVariables false
set_option linter.unusedSimpArgs false
set_option maxRecDepth 100000 in
set_option maxHeartbeats 4000000 in
theorem ltCable_any (nm : ByteArray) (up : Int) (w : World) : Calls Try.prog 24 #[.string nm, .int .i64 up] w fun e w' => e = .returned (.agg #[.string nm, .int .i64 up, .int .i64 100, .int .i64 100, .int .i64 0, .int .i64 0, .int .i64 0, .int .i64 0, .int .i64 0, .int .i64 0, .int .i64 0]) ∧ Below w.heap.size w w' := by
  have HB : Hid (Below w.heap.size w (w.alloc (.cells #[.string nm, .int .i64 up, .int .i64 100, .int .i64 100, .int .i64 0, .int .i64 0, .int .i64 0, .int .i64 0, .int .i64 0, .int .i64 0, .int .i64 0] 48))) := Lib.hid ((Below.refl _ w).alloc (Nat.le_refl _) _)
  go_enter Try.func24, Try.ntmps24
  go_wp2_with fail
  refine bodyPost_ret (results_c1 (a := 4) (b := w.heap.size) (u := .agg #[.string nm, .int .i64 up, .int .i64 100, .int .i64 100, .int .i64 0, .int .i64 0, .int .i64 0, .int .i64 0, .int .i64 0, .int .i64 0, .int .i64 0]) rfl rfl (by go_simp)) rfl ?_
  exact ⟨rfl, HB.out⟩
set_option maxRecDepth 100000 in
set_option maxHeartbeats 4000000 in
theorem ltCharger_any (nm : ByteArray) (pl ph : Int) (w : World) : Calls Try.prog 25 #[.string nm, .int .i64 pl, .int .i64 ph] w fun e w' => e = .returned (.agg #[.string nm, .int .i64 pl, .int .i64 ph, .int .i64 6, .int .i64 32, .int .i64 1, .int .i64 0, .int .i64 0]) ∧ Below w.heap.size w w' := by
  have HB : Hid (Below w.heap.size w (w.alloc (.cells #[.string nm, .int .i64 pl, .int .i64 ph, .int .i64 6, .int .i64 32, .int .i64 1, .int .i64 0, .int .i64 0] 42))) := Lib.hid ((Below.refl _ w).alloc (Nat.le_refl _) _)
  go_enter Try.func25, Try.ntmps25
  go_wp2_with fail
  refine bodyPost_ret (results_c1 (a := 6) (b := w.heap.size) (u := .agg #[.string nm, .int .i64 pl, .int .i64 ph, .int .i64 6, .int .i64 32, .int .i64 1, .int .i64 0, .int .i64 0]) rfl rfl (by go_simp)) rfl ?_
  exact ⟨rfl, HB.out⟩
noncomputable def usableB (s : GSite) : Bool := fewS s && okSB keyL s
set_option maxRecDepth 100000 in
set_option maxHeartbeats 4000000 in
theorem ltUsable_any (a1 a2 a3 a4 a5 : Option Addr) (n1 c1 n2 c2 n3 c3 n4 c4 n5 c5 : Nat) (s : GSite) (w : World) (HS : Hid (RdSite w a1 a2 a3 a4 a5 n1 n2 n3 n4 n5 s)) :
    Calls Try.prog 20 #[.agg #[.slice a1 n1 c1, .slice a2 n2 c2, .slice a3 n3 c3, .slice a4 n4 c4, .slice a5 n5 c5]] w fun e w' => e = .returned (.bool (usableB s)) ∧ Below w.heap.size w w' := by
  have hW0 : Below w.heap.size w (w.alloc (.cells #[.slice a1 n1 c1, .slice a2 n2 c2, .slice a3 n3 c3, .slice a4 n4 c4, .slice a5 n5 c5] 28)) := (Below.refl _ w).alloc (Nat.le_refl _) _
  have HF := Lib.hid (r4Few_any a1 a2 a3 a4 a5 n1 c1 n2 c2 n3 c3 n4 c4 n5 c5 s (w.alloc (.cells #[.slice a1 n1 c1, .slice a2 n2 c2, .slice a3 n3 c3, .slice a4 n4 c4, .slice a5 n5 c5] 28)) (Lib.hid (HS.out.keep hW0)))
  go_enter Try.func20, Try.ntmps20
  go_wp2_with fail
  refine HF.out.mono ?_
  rintro e w1 ⟨rfl, hb1⟩
  have hb : Below w.heap.size w w1 := below_then hW0 hb1
  have q0 : w1.cell? ⟨w.heap.size, 0, none⟩ = some (.slice a1 n1 c1) := (hb1.cell (p := ⟨w.heap.size, 0, none⟩) (by simp)).trans (by go_simp)
  have q1 : w1.cell? ⟨w.heap.size, 1, none⟩ = some (.slice a2 n2 c2) := (hb1.cell (p := ⟨w.heap.size, 1, none⟩) (by simp)).trans (by go_simp)
  have q2 : w1.cell? ⟨w.heap.size, 2, none⟩ = some (.slice a3 n3 c3) := (hb1.cell (p := ⟨w.heap.size, 2, none⟩) (by simp)).trans (by go_simp)
  have q3 : w1.cell? ⟨w.heap.size, 3, none⟩ = some (.slice a4 n4 c4) := (hb1.cell (p := ⟨w.heap.size, 3, none⟩) (by simp)).trans (by go_simp)
  have q4 : w1.cell? ⟨w.heap.size, 4, none⟩ = some (.slice a5 n5 c5) := (hb1.cell (p := ⟨w.heap.size, 4, none⟩) (by simp)).trans (by go_simp)
  have HB := Lib.hid hb
  have HV := Lib.hid (r4Valid_any a1 a2 a3 a4 a5 n1 c1 n2 c2 n3 c3 n4 c4 n5 c5 s w1 (Lib.hid (HS.out.keep hb)))
  clear hb hb1 hW0 HF
  cases hf : fewS s
  · have HE : Hid (false = usableB s) := Lib.hid (by unfold usableB; rw [hf]; rfl)
    go_wp2_with fail
    go_ret
    exact ⟨ret_bool HE.out, HB.out⟩
  · have HE : Hid (okSB keyL s = usableB s) := Lib.hid (by unfold usableB; rw [hf]; rfl)
    go_wp2_with fail
    refine HV.out.mono ?_
    rintro e w2 ⟨rfl, hb2⟩
    have HB2 := Lib.hid (below_then HB.out hb2)
    clear hb2
    go_wp2_with fail
    go_ret
    exact ⟨ret_bool HE.out, HB2.out⟩
set_option maxRecDepth 100000 in
set_option maxHeartbeats 4000000 in
theorem ltIn_any (A : Option Addr) (n c : Nat) (xs : List Int) (x : Int) (w : World) (HX : Hid (Rd 1 encI w A xs)) (HN : Hid (xs.length = n)) (hn : n ≤ 1000000) :
    Calls Try.prog 21 #[.slice A n c, .int .i64 x] w fun e w' => e = .returned (.bool (decide (x ∈ xs))) ∧ w' = w := by
  go_enter Try.func21, Try.ntmps21
  go_wp2_with fail
  go_loopg [6, 9] n (fun g1 v6 v9 wr => ∃ k : Nat, v9 = .int .i64 k ∧ k ≤ n ∧ n - k ≤ g1 ∧ Hid (∀ i, i < k → fI xs i ≠ x) ∧ w = wr)
  case atStart => exact ⟨0, by go_num, by omega, by omega, Lib.hid (fun i hi => absurd hi (by omega)), rfl⟩
  case round =>
    obtain ⟨k, rfl, hk, hg1, HA, rfl⟩ := hrel
    by_cases hlt : k < n
    · have hltz : (k : Int) < (n : Int) := by omega
      have hkl : k < xs.length := by rw [HN.out]; exact hlt
      obtain ⟨ba, oa, hAA, hba, hax⟩ := HX.out.int (k := k) hkl
      have hx1 : w.cell? ⟨ba, oa + k, none⟩ = some (.int .i64 (fI xs k)) := hax
      have HIN : Hid (fI xs k ∈ xs) := Lib.hid (by unfold fI; rw [List.getElem?_eq_getElem hkl]; exact List.getElem_mem hkl)
      have HX2 : Hid (fI xs k ≠ x → ∀ i, i < k + 1 → fI xs i ≠ x) := Lib.hid (fun h i hi => by
        rcases Nat.lt_succ_iff_lt_or_eq.1 hi with h1 | h1
        · exact HA.out i h1
        · rw [h1]; exact h)
      subst hAA
      clear hax HA
      generalize fI xs k = y at *
      by_cases e : y = x
      · have HE : Hid (true = decide (x ∈ xs)) := Lib.hid (by
          have h := HIN.out
          rw [e] at h
          simp [h])
        subst e
        go_wp2_with fail
        go_ret
        exact ⟨ret_bool HE.out, rfl⟩
      · have HA2 := Lib.hid (HX2.out e)
        go_wp2_with fail
        go_roundg (n - (k + 1))
        case measure => omega
        case rel => exact ⟨k + 1, by go_num, by omega, by omega, HA2, rfl⟩
    · have hltz : ¬ (k : Int) < (n : Int) := by omega
      have HE : Hid (false = decide (x ∈ xs)) := Lib.hid (by
        symm
        simp only [decide_eq_false_iff_not]
        intro h
        obtain ⟨i, hi, e⟩ := List.getElem_of_mem h
        refine HA.out i (by rw [HN.out] at hi; omega) ?_
        unfold fI
        rw [List.getElem?_eq_getElem hi]
        exact e)
      go_wp2_with fail
      go_ret
      exact ⟨ret_bool HE.out, rfl⟩
/-- The currents of the law: a byte for each charger, or none. -/
def curF (bs : List Int) (i : Nat) : Int := if i < bs.length then fI bs i % 81 else 0
theorem mk_intsT (n : Nat) (h : n ≤ 1000000) (W : World) : ∃ W', (Instr.makeSlice 29 (.int .i64 n) (.int .i64 n)).run Try.prog W = .ok (.slice (some ⟨W.heap.size, 0, none⟩) n n) W' ∧ Own W' W.heap.size 3 n (fun _ => .int .i64 0) ∧ Below W.heap.size W W' ∧ W'.heap.size = W.heap.size + 1 :=
  ⟨_, mk_row 29 3 _ 1 8 Try.underlying29 appInfoInt (n : Int) (by omega) (by omega) (by omega) W, Own.made1 W 3 (.int .i64 0) n, (Below.refl _ W).alloc (Nat.le_refl _) _, by simp⟩
/-- What the law's currents does. -/
def CuPost (w : World) (bs : List Int) (n4 : Nat) (e : Ending) (w' : World) : Prop := ∃ g, w.heap.size ≤ g ∧ e = .returned (.slice (some ⟨g, 0, none⟩) n4 n4) ∧ Own w' g 3 n4 (fun i => .int .i64 (curF bs i)) ∧ Below w.heap.size w w'
theorem Rd.u8 {w : World} {A : Option Addr} {xs : List Int} (h : Rd 1 encU8 w A xs) {k : Nat} (hk : k < xs.length) : ∃ b off, A = some ⟨b, off, none⟩ ∧ b < w.heap.size ∧ w.cell? ⟨b, off + k, none⟩ = some (.int .u8 (fI xs k)) := by
  obtain ⟨b, off, hA, hb, hc⟩ := h (by omega)
  refine ⟨b, off, hA, hb, ?_⟩
  have := hc k xs[k] (List.getElem?_eq_getElem hk) 0 _ rfl
  unfold fI
  rw [List.getElem?_eq_getElem hk]
  simpa using this
set_option maxRecDepth 100000 in
set_option maxHeartbeats 4000000 in
theorem ltCurr_any (a1 a2 a3 a4 a5 : Option Addr) (n1 c1 n2 c2 n3 c3 n4 c4 n5 c5 : Nat) (hn4 : n4 ≤ 1000) (B : Option Addr) (m d : Nat) (bs : List Int) (w : World) (HX : Hid (Rd 1 encU8 w B bs)) (HN : Hid (bs.length = m)) (hm : m ≤ 9223372036854775807) (HB8 : Hid (∀ i, 0 ≤ fI bs i ∧ fI bs i ≤ 255)) :
    Calls Try.prog 22 #[.agg #[.slice a1 n1 c1, .slice a2 n2 c2, .slice a3 n3 c3, .slice a4 n4 c4, .slice a5 n5 c5], .slice B m d] w fun e w' => CuPost w bs n4 e w' := by
  have b0 : Below w.heap.size w (w.alloc (.cells #[.slice a1 n1 c1, .slice a2 n2 c2, .slice a3 n3 c3, .slice a4 n4 c4, .slice a5 n5 c5] 28)) := (Below.refl _ w).alloc (Nat.le_refl _) _
  obtain ⟨W2, hmk, ho2, bw2, hsz2⟩ := mk_intsT n4 (by omega) (w.alloc (.cells #[.slice a1 n1 c1, .slice a2 n2 c2, .slice a3 n3 c3, .slice a4 n4 c4, .slice a5 n5 c5] 28))
  have HB2 := Lib.hid (below_then b0 bw2)
  rw [World.size_alloc] at hmk ho2
  have HO2 := Lib.hid ho2
  clear b0 ho2 bw2 hsz2
  go_enter Try.func22, Try.ntmps22
  go_wp2_with fail
  obtain ⟨g0, hg0⟩ : ∃ g0, g0 = w.heap.size + 1 := ⟨_, rfl⟩
  rw [← hg0] at HO2 ⊢
  have HG0 := Lib.hid hg0
  have hgl : w.heap.size ≤ g0 := by omega
  clear hg0
  go_loopg [6, 13] n4 (fun g1 v6 v13 wr => ∃ k : Nat, v13 = .int .i64 k ∧ k ≤ n4 ∧ n4 - k ≤ g1 ∧ Hid (Own wr g0 3 n4 (fun i => .int .i64 (if i < k then curF bs i else 0))) ∧ Hid (Below w.heap.size w wr))
  case atStart => exact ⟨0, by go_num, by omega, by omega, Lib.hid (HO2.out.congr (fun i _ => by rw [if_neg (by omega)])), HB2⟩
  case round =>
    obtain ⟨k, rfl, hk, hg1, HO, HB⟩ := hrel
    clear HO2 HB2
    by_cases hlt : k < n4
    · have hltz : (k : Int) < (n4 : Int) := by omega
      by_cases hkm : k < m
      · have hkmz : (k : Int) < (m : Int) := by omega
        obtain ⟨b, off, hBB, hbl, hc⟩ := HX.out.u8 (k := k) (by rw [HN.out]; exact hkm)
        have hc1 := (HB.out.cell (p := ⟨b, off + k, none⟩) hbl).trans hc
        have hfr := HO.out.frozen k
        have hck := HO.out.cell (i := k) hlt
        have hbd := HB8.out k
        have hlg := HO.out.lt
        have HC : Hid (curF bs k = fI bs k % 81) := Lib.hid (by unfold curF; rw [if_pos (by rw [HN.out]; exact hkm)])
        have HS := Lib.hid (fun u => HO.out.set k u)
        have HM := Lib.hid (fun u => HB.out.setCell (p := ⟨g0, k, none⟩) (by dsimp only; omega) u)
        subst hBB
        clear hc
        generalize fI bs k = y at *
        have hmod : y.tmod 81 = y % 81 := Int.tmod_eq_emod_of_nonneg (by omega)
        go_wp2_with fail
        go_roundg (n4 - (k + 1))
        case measure => omega
        case rel => exact ⟨k + 1, by go_num, by omega, by omega, Lib.hid ((HS.out (.int .i64 (y % 81))).congr (fun i _ => by
            by_cases e : i = k
            · rw [if_pos e, if_pos (by omega), e, HC.out]
            · rw [if_neg e]
              by_cases e2 : i < k
              · rw [if_pos e2, if_pos (by omega)]
              · rw [if_neg e2, if_neg (by omega)])), Lib.hid (HM.out (.int .i64 (y % 81)))⟩
      · have hkmz : ¬ (k : Int) < (m : Int) := by omega
        have HO' : Hid (Own wr g0 3 n4 (fun i => .int .i64 (if i < k + 1 then curF bs i else 0))) := Lib.hid (HO.out.congr (fun i _ => by
          by_cases e : i = k
          · rw [if_neg (by omega), if_pos (by omega), e]
            unfold curF
            rw [if_neg (by rw [HN.out]; exact hkm)]
          · by_cases e2 : i < k
            · rw [if_pos e2, if_pos (by omega)]
            · rw [if_neg e2, if_neg (by omega)]))
        clear HO
        go_wp2_with fail
        go_roundg (n4 - (k + 1))
        case measure => omega
        case rel => exact ⟨k + 1, by go_num, by omega, by omega, HO', HB⟩
    · have hltz : ¬ (k : Int) < (n4 : Int) := by omega
      have HO' : Hid (Own wr g0 3 n4 (fun i => .int .i64 (curF bs i))) := Lib.hid (HO.out.congr (fun i hi => by rw [if_pos (by omega)]))
      go_wp2_with fail
      go_ret
      exact ⟨g0, hgl, rfl, HO'.out, HB.out⟩
/-- What the law's loads does. -/
def LoPost (w : World) (s : GSite) (xs : List Int) (e : Ending) (w' : World) : Prop := ∃ a c, e = .returned (.tuple #[.slice a (loadsO s xs).length c, .bool (loadB s xs)]) ∧ Rd 3 enc3 w' a (loadsO s xs) ∧ Below w.heap.size w w'
set_option maxRecDepth 100000 in
set_option maxHeartbeats 4000000 in
theorem ltLoads_any (a1 a2 a3 a4 a5 : Option Addr) (n1 c1 n2 c2 n3 c3 n4 c4 n5 c5 : Nat) (aA : Option Addr) (nA cA : Nat) (s : GSite) (xs : List Int) (w : World) (HS : Hid (RdSite w a1 a2 a3 a4 a5 n1 n2 n3 n4 n5 s)) (HX : Hid (Rd 1 encI w aA xs)) (HNA : Hid (xs.length = nA)) (hnA : nA ≤ 9223372036854775807) :
    Calls Try.prog 23 #[.agg #[.slice a1 n1 c1, .slice a2 n2 c2, .slice a3 n3 c3, .slice a4 n4 c4, .slice a5 n5 c5], .slice aA nA cA] w fun e w' => LoPost w s xs e w' := by
  obtain ⟨m1, m2, m3, m4, m5⟩ : n1 ≤ 9223372036854775807 ∧ n2 ≤ 9223372036854775807 ∧ n3 ≤ 9223372036854775807 ∧ n4 ≤ 9223372036854775807 ∧ n5 ≤ 9223372036854775807 := ⟨HS.out.m1, HS.out.m2, HS.out.m3, HS.out.m4, HS.out.m5⟩
  have hW0 : Below w.heap.size w (w.alloc (.cells #[.slice a1 n1 c1, .slice a2 n2 c2, .slice a3 n3 c3, .slice a4 n4 c4, .slice a5 n5 c5] 28)) := (Below.refl _ w).alloc (Nat.le_refl _) _
  have HV := Lib.hid (trLoads_any a1 n1 c1 a2 n2 c2 a3 n3 c3 a4 n4 c4 a5 n5 c5 aA nA cA s xs (w.alloc (.cells #[.slice a1 n1 c1, .slice a2 n2 c2, .slice a3 n3 c3, .slice a4 n4 c4, .slice a5 n5 c5] 28)) (Lib.hid (HS.out.keep hW0)) (Lib.hid (HX.out.keep hW0)) HNA hnA)
  go_enter Try.func23, Try.ntmps23
  go_wp2_with fail
  refine HV.out.mono ?_
  rintro e w1 ⟨a, c, rfl, hr1, hb1⟩
  have hb : Below w.heap.size w w1 := below_then hW0 hb1
  have q0 : w1.cell? ⟨w.heap.size, 0, none⟩ = some (.slice a1 n1 c1) := (hb1.cell (p := ⟨w.heap.size, 0, none⟩) (by simp)).trans (by go_simp)
  have HB := Lib.hid hb
  have HR := Lib.hid hr1
  clear hb hb1 hr1 hW0 HV
  cases hl : loadB s xs
  · have HE : Hid (false = loadB s xs) := Lib.hid hl.symm
    simp only [errO, Bool.false_eq_true, if_false]
    generalize hL : (loadsO s xs).length = L
    have HL := Lib.hid hL
    clear hL hl
    go_wp2_with fail
    go_quiet (fail)
    go_wp2_with fail
    refine bodyPost_ret (results_tmp2 rfl _ _ _) rfl ?_
    exact ⟨a, c, by rw [HL.out, ← HE.out]; rfl, HR.out, below_drewG _ HB.out⟩
  · have HE : Hid (true = loadB s xs) := Lib.hid hl.symm
    have hLn : (loadsO s xs).length = n1 := by rw [loadsO_yes hl, loadsOf_len]; exact HS.out.l1
    rw [hLn]
    have HL := Lib.hid hLn
    simp only [errO, if_true]
    clear hl hLn
    go_wp2_with fail
    go_quiet (fail)
    go_wp2_with fail
    refine bodyPost_ret (results_tmp2 rfl _ _ _) rfl ?_
    exact ⟨a, c, by rw [HL.out, ← HE.out]; rfl, HR.out, below_drewG _ HB.out⟩
end Go.Proofs.Ytjlfnhfiiailgaa
