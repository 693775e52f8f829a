/-
The law PlanTurned, walked.
-/
import Derived.Test.YtickndjlhokppaaCPlanW1
import Derived.Test.YtickndjlhokppaaCAppJ
namespace Go.Proofs.Ytickndjlhokppaa
open Go.RowKit
set_option linter.unusedVariables false
theorem okP_of {js : List GJob} {sup : List Int} (h1 : js.length ≤ 12) (h2 : sup.length ≤ 24) (h3 : ∀ t, t < sup.length → 0 ≤ fAt sup t ∧ fAt sup t ≤ 1000) (h4 : ∀ i, i < js.length → okJ sup.length (jAt js i) = true) : okP js sup = true := by
  refine okP_iff.2 ⟨⟨h1, h2⟩, fun x hx => ?_, fun j hj => ?_⟩
  · obtain ⟨t, ht, e⟩ := List.getElem_of_mem hx
    have := h3 t ht
    simp [fAt, List.getElem?_eq_getElem ht, e] at this
    exact okU_iff.2 this
  · obtain ⟨i, hi, e⟩ := List.getElem_of_mem hj
    have := h4 i hi
    rw [jAt_lt hi, e] at this
    exact this
theorem okJ_at {js : List GJob} {sup : List Int} (h : okP js sup = true) {i : Nat} (hi : i < js.length) : okJ sup.length (jAt js i) = true := by
  rw [jAt_lt hi]
  exact (okP_iff.1 h).2.2 _ (List.getElem_mem hi)
theorem okP_turn {js : List GJob} {sup : List Int} (h : okP js sup = true) (k : Nat) : okP (turnJ js k) sup = true := by
  have hl : (turnJ js k).length = js.length := mk_len _ _
  refine okP_of (by rw [hl]; exact (okP_iff.1 h).1.1) (okP_iff.1 h).1.2 (fun t ht => okP_sup h ht) (fun i hi => ?_)
  unfold turnJ
  rw [mk_j _ (by omega)]
  exact okJ_at h (Nat.mod_lt _ (by omega))
theorem okP_back {js : List GJob} {sup : List Int} (h : okP js sup = true) : okP (js.map (backJ sup.length)) (backS sup) = true := by
  have hl : (js.map (backJ sup.length)).length = js.length := List.length_map _
  have hs : (backS sup).length = sup.length := mk_len _ _
  refine okP_of (by rw [hl]; exact (okP_iff.1 h).1.1) (by rw [hs]; exact (okP_iff.1 h).1.2) (fun t ht => ?_) (fun i hi => ?_)
  · unfold backS
    rw [mk_f _ (by omega)]
    exact okP_sup h (by omega)
  · rw [map_j _ (by omega), hs]
    have := okJ_iff.1 (okJ_at h (i := i) (by omega))
    refine okJ_iff.2 ?_
    unfold backJ
    dsimp only
    omega
theorem mk_mapJ (js : List GJob) (f : GJob → GJob) {N : Nat} (hN : js.length = N) : mk N (fun i => f (jAt js i)) = js.map f := by
  subst hN
  refine ext_j (by rw [mk_len, List.length_map]) (fun i hi => ?_)
  rw [mk_len] at hi
  rw [mk_j _ hi, map_j _ hi]
theorem mk_mapI (xs : List Int) (f : Int → Int) {N : Nat} (hN : xs.length = N) : mk N (fun i => f (fAt xs i)) = xs.map f := by
  subst hN
  refine ext_f (by rw [mk_len, List.length_map]) (fun i hi => ?_)
  rw [mk_len] at hi
  rw [mk_f _ hi]
  unfold fAt
  rw [List.getElem?_map, List.getElem?_eq_getElem hi]
  rfl
theorem metPost_eq {js js' : List GJob} {sup sup' : List Int} {m m' : Bool} (h : MetPost js sup m) (h' : MetPost js' sup' m') (e : Met js' sup' ↔ Met js sup) : m' = m := by
  rw [Bool.eq_iff_iff, h.1, h'.1]
  exact e
theorem metPost_times {js : List GJob} {sup : List Int} {m m' : Bool} {x : Int} (hx : 1 ≤ x) (hok : okP (js.map (timesJ x)) (sup.map (· * x)) = true) (h : MetPost js sup m) (h' : MetPost (js.map (timesJ x)) (sup.map (· * x)) m') : m' = m := by
  cases m
  · obtain ⟨cj, cs, hc⟩ := h.2 rfl
    cases m'
    · rfl
    · obtain ⟨P, hP⟩ := h'.1.1 rfl
      have h1 := cut_times (x := x) (by omega) cj cs hc
      have h2 := not_both hok hP cj cs
      omega
  · exact h'.1.2 ((h.1.1 rfl).times (by omega))
structure Tri (W : World) (base : Nat) (v1 : Value) (x1 : List GJob) (v2 : Value) (x2 : List GJob) (v3 : Value) (x3 : List GJob) : Prop where
  o1 : OwnJ W base v1 x1
  o2 : OwnJ W base v2 x2
  o3 : OwnJ W base v3 x3
  a12 : ApartV v1 v2
  a13 : ApartV v1 v3
  a23 : ApartV v2 v3
theorem Tri.keep {W W' : World} {base : Nat} {v1 v2 v3 : Value} {x1 x2 x3 : List GJob} (h : Tri W base v1 x1 v2 x2 v3 x3) (hb : Below W.heap.size W W') : Tri W' base v1 x1 v2 x2 v3 x3 :=
  ⟨h.o1.keepB hb, h.o2.keepB hb, h.o3.keepB hb, h.a12, h.a13, h.a23⟩
set_option maxRecDepth 100000 in
set_option maxHeartbeats 8000000 in
theorem walk_PlanTurned (A : Option Addr) (c N : Nat) (js : List GJob) {w : World} (hR : Rd 5 encJ w A js) (HN : Hid (js.length = N)) (hl : N ≤ 9223372036854775807) (_ : ∀ x, x ∈ js → wfJ x)
    (A2 : Option Addr) (c2 T : Nat) (sup : List Int) (hR2 : Rd 1 encI w A2 sup) (HN2 : Hid (sup.length = T)) (hl2 : T ≤ 9223372036854775807) (_ : ∀ x, x ∈ sup → wf64 x) (x : Int) (wx : wf64 x) (y : Int) (wy : wf64 y) :
    Calls Try.prog 8 #[.slice A N c, .slice A2 T c2, .int .i64 x, .int .i64 y] w fun e w' => e = .returned (.bool true) ∧ Below w.heap.size w w' := by
  go_enter Try.func8, Try.ntmps8
  go_wp2_with fail
  refine (lpHead_any w).mono ?_
  rintro e w1 ⟨rfl, b1⟩
  go_wp2_with fail
  refine (rpFew_any A A2 none none none c N c2 T 0 0 0 0 0 0 js sup [] [] [] [] w1 HN HN2 RdP.nil (Lib.hid rfl) (by omega) (Lib.hid rfl) (Lib.hid rfl)).mono ?_
  rintro e w2 ⟨rfl, hb2⟩
  have b2 := below_then b1 hb2
  cases hfew : fewB js sup [] [] []
  · go_wp2_with fail
    go_ret
    exact ⟨rfl, b2⟩
  · go_wp2_with fail
    refine (rpValid_any A A2 c N c2 T js sup w2 (hR.keep b2) HN hl (hR2.keep b2) HN2 hl2).mono ?_
    rintro e w3 ⟨rfl, hb3⟩
    have b3 := below_then b2 hb3
    clear b1 b2 hb2 hb3 hfew
    cases hok : okP js sup
    · go_wp2_with fail
      go_ret
      exact ⟨rfl, b3⟩
    by_cases hx0 : x < 0
    · go_wp2_with fail
      go_ret
      exact ⟨rfl, b3⟩
    by_cases hy1 : y < 1
    · go_wp2_with fail
      go_ret
      exact ⟨rfl, b3⟩
    by_cases hy2 : 1000 < y
    · go_wp2_with fail
      go_ret
      exact ⟨rfl, b3⟩
    have HOK := Lib.hid hok
    obtain ⟨⟨t1, t2⟩, _, _⟩ := okP_iff.1 hok
    rw [HN.out] at t1
    rw [HN2.out] at t2
    have HRS := Lib.hid (And.intro (hR.keep b3) (hR2.keep b3))
    have HB3 := Lib.hid b3
    clear hok hR hR2 b3
    obtain ⟨q, hq⟩ : ∃ q : Nat, q = x.toNat % N := ⟨_, rfl⟩
    have HQ : Hid (N ≠ 0 → x.tmod N = q ∧ q < N) := Lib.hid (fun h => ⟨by rw [Int.tmod_eq_emod_of_nonneg (by omega), hq, Int.natCast_emod, Int.toNat_of_nonneg (by omega)], by rw [hq]; exact Nat.mod_lt _ (by omega)⟩)
    have HJ := Lib.hid (fun (k : Nat) (hk : k < N) => okP_job HOK.out (i := k) (by rw [HN.out]; exact hk))
    have HSU := Lib.hid (fun (t : Nat) (ht : t < T) => okP_sup HOK.out (t := t) (by rw [HN2.out]; exact ht))
    clear hq
    go_wp2
    go_loopg [12, 13, 14, 17] N (fun g1 v12 v13 v14 v17 wr => ∃ k : Nat, v17 = .int .i64 k ∧ k ≤ N ∧ N - k ≤ g1 ∧ Hid (Tri wr w3.heap.size v12 (mk k (fun i => jAt js ((i + q) % N))) v13 (mk k (fun i => backJ T (jAt js i))) v14 (mk k (fun i => timesJ y (jAt js i)))) ∧ Hid (Below w3.heap.size w3 wr))
    case atStart => exact ⟨0, by go_num, by omega, by omega, Lib.hid ⟨OwnR.nil _ _, OwnR.nil _ _, OwnR.nil _ _, ApartV.nil _, ApartV.nil _, ApartV.nil _⟩, Lib.hid (Below.refl _ _)⟩
    case round =>
      obtain ⟨k, rfl, hk, hg1, HT, HB⟩ := hrel
      by_cases hlt : k < N
      · have hltz : (k : Int) < (N : Int) := by omega
        obtain ⟨hm1, hqN⟩ := HQ.out (by omega)
        obtain ⟨r, hr⟩ : ∃ r, r = (k + q) % N := ⟨_, rfl⟩
        have hrN : r < N := by rw [hr]; exact Nat.mod_lt _ (by omega)
        have hrz : (r : Int) < (N : Int) := by omega
        have hN0 : (N : Int) ≠ 0 := by omega
        have hm2 : ((k : Int) + (q : Int)).tmod (N : Int) = (r : Int) := by
          rw [Int.tmod_eq_emod_of_nonneg (by omega), hr, Int.natCast_emod, Int.natCast_add]
        have rj := HRS.out.1.keep HB.out
        obtain ⟨b, off, j, hA, hbl, hj, g0, g1, g2, g3, g4⟩ := rdJ_at rj (k := k) (by rw [HN.out]; exact hlt)
        obtain ⟨b', off', jr, hA', hbl', hjr, u0, u1, u2, u3, u4⟩ := rdJ_at rj (k := r) (by rw [HN.out]; exact hrN)
        subst hA
        injection hA' with hA'
        injection hA' with ea eb
        subst ea eb
        have ej : jAt js k = j := by unfold jAt; rw [hj]; rfl
        have ejr : jAt js ((k + q) % N) = jr := by rw [← hr]; unfold jAt; rw [hjr]; rfl
        have hjk := HJ.out k hlt
        rw [ej, HN2.out] at hjk
        obtain ⟨p1, p2, p3, p4, p5, p6, p7, _, _⟩ := hjk
        have hey : 0 ≤ j.energy * y ∧ j.energy * y ≤ 1000000 := ⟨Int.mul_nonneg p4 (by omega), Int.le_trans (Int.mul_le_mul p5 (show y ≤ 1000 by omega) (by omega) (by omega)) (by omega)⟩
        have hry : 0 ≤ j.rate * y ∧ j.rate * y ≤ 1000000 := ⟨Int.mul_nonneg p6 (by omega), Int.le_trans (Int.mul_le_mul p7 (show y ≤ 1000 by omega) (by omega) (by omega)) (by omega)⟩
        have hsz := HB.out.size
        have hv1 : ∀ v xs, OwnJ wr w3.heap.size v xs → v.ownBlock ≠ some wr.heap.size := fun v xs h e => by have := (World.ownsRow.lt h _ e).2; omega
        obtain ⟨W1, hW1⟩ : ∃ W1, W1 = wr.alloc (.cells #[.int .i64 j.frm, .int .i64 j.till, .int .i64 j.energy, .int .i64 j.rate, .int .i64 j.rank] 38) := ⟨_, rfl⟩
        have ba : Below wr.heap.size wr W1 := by rw [hW1]; exact (Below.refl _ _).alloc (Nat.le_refl _) _
        have hs1 : wr.heap.size + 1 ≤ W1.heap.size := by rw [hW1]; simp
        have T1 := HT.out.keep ba
        have n1 := hv1 _ _ HT.out.o1
        have n2 := hv1 _ _ HT.out.o2
        have n3 := hv1 _ _ HT.out.o3
        have z0 := (ba.cell (p := ⟨b, off + r * 5, none⟩) hbl).trans u0
        have z1 := (ba.cell (p := ⟨b, off + r * 5 + 1, none⟩) hbl).trans u1
        have z2 := (ba.cell (p := ⟨b, off + r * 5 + 2, none⟩) hbl).trans u2
        have z3 := (ba.cell (p := ⟨b, off + r * 5 + 3, none⟩) hbl).trans u3
        have z4 := (ba.cell (p := ⟨b, off + r * 5 + 4, none⟩) hbl).trans u4
        have c0 : W1.cell? ⟨wr.heap.size, 0, none⟩ = some (.int .i64 j.frm) := by rw [hW1]; go_simp
        have c1 : W1.cell? ⟨wr.heap.size, 1, none⟩ = some (.int .i64 j.till) := by rw [hW1]; go_simp
        have c2' : W1.cell? ⟨wr.heap.size, 2, none⟩ = some (.int .i64 j.energy) := by rw [hW1]; go_simp
        have c3 : W1.cell? ⟨wr.heap.size, 3, none⟩ = some (.int .i64 j.rate) := by rw [hW1]; go_simp
        have c4 : W1.cell? ⟨wr.heap.size, 4, none⟩ = some (.int .i64 j.rank) := by rw [hW1]; go_simp
        obtain ⟨ap1, v1', W2, av1, aw1, HO1, HA1⟩ := app_job jr.frm jr.till jr.energy jr.rate jr.rank T1.o1 (by omega) (by rw [mk_len]; omega)
        obtain ⟨o22, a22⟩ := HA1.out.row T1.o2 T1.a12
        obtain ⟨o32, a32⟩ := HA1.out.row T1.o3 T1.a13
        have hs2 := HA1.out.bel.size
        have d0 := HA1.out.cell c0 n1
        have d1 := HA1.out.cell c1 n1
        have d2 := HA1.out.cell c2' n1
        have d3 := HA1.out.cell c3 n1
        have d4 := HA1.out.cell c4 n1
        obtain ⟨ap2, v2', W3, av2, aw2, HO2, HA2⟩ := app_job ((T : Int) - j.till) ((T : Int) - j.frm) j.energy j.rate j.rank o22 (by omega) (by rw [mk_len]; omega)
        obtain ⟨o33, a33⟩ := HA2.out.row o32 T1.a23
        obtain ⟨o13, a13⟩ := HA2.out.row HO1.out a22.symm
        have hs3 := HA2.out.bel.size
        have f0 := HA2.out.cell d0 n2
        have f1 := HA2.out.cell d1 n2
        have f2 := HA2.out.cell d2 n2
        have f3 := HA2.out.cell d3 n2
        have f4 := HA2.out.cell d4 n2
        obtain ⟨ap3, v3', W4, av3, aw3, HO3, HA3⟩ := app_job j.frm j.till (j.energy * y) (j.rate * y) j.rank o33 (by omega) (by rw [mk_len]; omega)
        obtain ⟨o14, a14⟩ := HA3.out.row o13 a32.symm
        obtain ⟨o24, a24⟩ := HA3.out.row HO2.out a33.symm
        have HT4 : Hid (Tri W4 w3.heap.size v1' (mk (k + 1) (fun i => jAt js ((i + q) % N))) v2' (mk (k + 1) (fun i => backJ T (jAt js i))) v3' (mk (k + 1) (fun i => timesJ y (jAt js i)))) := Lib.hid (by
          rw [mk_succ, mk_succ, mk_succ, ejr, ej]
          exact ⟨o14, o24, HO3.out, a13.symm, a14.symm, a24.symm⟩)
        have HB4 : Hid (Below w3.heap.size w3 W4) := Lib.hid ((((HB.out.trans (ba.mono hsz)).trans HA1.out.bel).trans HA2.out.bel).trans HA3.out.bel)
        have l1 := World.block_lt_of_cell? W1 _ c0
        have l2 := World.block_lt_of_cell? W2 _ d0
        have l3 := World.block_lt_of_cell? W3 _ f0
        dsimp only at l1 l2 l3
        have HW1 := Lib.hid hW1.symm
        clear HT HB T1 o22 a22 o32 a32 o33 a33 o13 a13 o14 a14 o24 a24 HO1 HO2 HO3 HA1 HA2 HA3 hv1 hj hjr ej ejr hr rj u0 u1 u2 u3 u4 ba n1 n2 n3 hW1
        go_upto_region 12 with (fail)
        rw [HW1.out]
        go_wp2
        go_roundg (N - (k + 1))
        case measure => omega
        case rel => exact ⟨k + 1, by go_num, by omega, by omega, HT4, HB4⟩
      · have hltz : ¬ (k : Int) < (N : Int) := by omega
        have hkN : N = k := by omega
        subst hkN
        have Hq0 : Hid (N ≠ 0 → q < N) := Lib.hid (fun h => (HQ.out h).2)
        clear hk hg1 hlt hltz HQ HJ
        obtain ⟨a1, d1, e1, r1⟩ := HT.out.o1.rd encJ_len5
        obtain ⟨a2, d2, e2, r2⟩ := HT.out.o2.rd encJ_len5
        obtain ⟨a3, d3, e3, r3⟩ := HT.out.o3.rd encJ_len5
        rw [mk_len] at e1 e2 e3
        subst e1 e2 e3
        have hq2 : mk N (fun i => jAt js ((i + q) % N)) = turnJ js q := by unfold turnJ; rw [HN.out]
        have hq3 : mk N (fun i => backJ T (jAt js i)) = js.map (backJ T) := mk_mapJ js _ HN.out
        have hq4 : mk N (fun i => timesJ y (jAt js i)) = js.map (timesJ y) := mk_mapJ js _ HN.out
        rw [hq2] at r1
        rw [hq3] at r2
        rw [hq4] at r3
        have HRJ := Lib.hid (And.intro r1 (And.intro r2 r3))
        have HRS4 := Lib.hid (And.intro (HRS.out.1.keep HB.out) (HRS.out.2.keep HB.out))
        have HB4 := Lib.hid (below_then HB3.out HB.out)
        clear HT HB HRS HB3 r1 r2 r3 hq2 hq3 hq4
        generalize wr = w4 at *
        go_wp2
        go_loopg [15, 16, 19] T (fun g1 v15 v16 v19 W => ∃ k : Nat, v19 = .int .i64 k ∧ k ≤ T ∧ T - k ≤ g1 ∧ Hid (OwnN W w4.heap.size v15 (mk k (fun i => fAt sup (T - 1 - i))) ∧ OwnN W w4.heap.size v16 (mk k (fun i => fAt sup i * y)) ∧ ApartV v15 v16) ∧ Hid (Below w4.heap.size w4 W))
        case atStart => exact ⟨0, by go_num, by omega, by omega, Lib.hid ⟨OwnR.nil _ _, OwnR.nil _ _, ApartV.nil _⟩, Lib.hid (Below.refl _ _)⟩
        case round =>
          obtain ⟨k, rfl, hk, hg1, HT, HB⟩ := hrel
          by_cases hlt : k < T
          · have hltz : (k : Int) < (T : Int) := by omega
            obtain ⟨p, hp⟩ : ∃ p, p = T - 1 - k := ⟨_, rfl⟩
            have hpT : p < T := by omega
            have hpz : (p : Int) < (T : Int) := by omega
            have hpe : (T : Int) - 1 - (k : Int) = (p : Int) := by omega
            have rs := HRS4.out.2.keep HB.out
            obtain ⟨b, off, hA, hbl, hc0⟩ := rs.int (k := k) (by rw [HN2.out]; exact hlt)
            obtain ⟨b', off', hA', hbl', hd0⟩ := rs.int (k := p) (by rw [HN2.out]; exact hpT)
            subst hA
            injection hA' with hA'
            injection hA' with ea eb
            subst ea eb
            have hsz := HB.out.size
            have hck : wr.cell? ⟨b, off + k, none⟩ = some (.int .i64 (fAt sup k)) := hc0
            have hcp : wr.cell? ⟨b, off + p, none⟩ = some (.int .i64 (fAt sup p)) := hd0
            have hsk := HSU.out k hlt
            have hyy : 0 ≤ fAt sup k * y ∧ fAt sup k * y ≤ 1000000 := ⟨Int.mul_nonneg hsk.1 (by omega), Int.le_trans (Int.mul_le_mul hsk.2 (show y ≤ 1000 by omega) (by omega) (by omega)) (by omega)⟩
            obtain ⟨o1, o2, ap⟩ := HT.out
            obtain ⟨ap1, v1', W2, av1, aw1, HO1, HA1⟩ := app_num (fAt sup p) o1 hsz (by rw [mk_len]; omega)
            obtain ⟨o22, a22⟩ := HA1.out.row o2 ap
            have nb : ∀ v (xs : List Int), OwnN wr w4.heap.size v xs → v.ownBlock ≠ some b := fun v xs h e => by
              have h1 := (World.ownsRow.lt h _ e).1
              obtain ⟨b9, o9, e9, l9, _⟩ := HRS4.out.2 (by rw [HN2.out]; omega)
              injection e9 with e9
              injection e9 with e9 _
              omega
            have hck2 := HA1.out.cell hck (nb _ _ o1)
            have hs2 := HA1.out.bel.size
            obtain ⟨ap2, v2', W3, av2, aw2, HO2, HA2⟩ := app_num (fAt sup k * y) o22 (Nat.le_trans hsz hs2) (by rw [mk_len]; omega)
            obtain ⟨o13, a13⟩ := HA2.out.row HO1.out a22.symm
            have HT4 : Hid (OwnN W3 w4.heap.size v1' (mk (k + 1) (fun i => fAt sup (T - 1 - i))) ∧ OwnN W3 w4.heap.size v2' (mk (k + 1) (fun i => fAt sup i * y)) ∧ ApartV v1' v2') := Lib.hid (by
              rw [mk_succ, mk_succ, ← hp]
              exact ⟨o13, HO2.out, a13.symm⟩)
            have HB5 : Hid (Below w4.heap.size w4 W3) := Lib.hid ((HB.out.trans HA1.out.bel).trans HA2.out.bel)
            clear HT HB o1 o2 ap HO1 HO2 HA1 HA2 o22 a22 o13 a13 nb hp rs hc0 hd0 hsk
            generalize fAt sup k = sk at *
            generalize fAt sup p = sp at *
            go_wp2
            go_roundg (T - (k + 1))
            case measure => omega
            case rel => exact ⟨k + 1, by go_num, by omega, by omega, HT4, HB5⟩
          · have hltz : ¬ (k : Int) < (T : Int) := by omega
            have hkT : T = k := by omega
            subst hkT
            obtain ⟨o1, o2, _⟩ := HT.out
            obtain ⟨a4, d4, e4, r4⟩ := o1.rd encI_len1
            obtain ⟨a5, d5, e5, r5⟩ := o2.rd encI_len1
            rw [mk_len] at e4 e5
            subst e4 e5
            have hq5 : mk T (fun i => fAt sup (T - 1 - i)) = backS sup := by unfold backS; rw [HN2.out]
            have hq6 : mk T (fun i => fAt sup i * y) = sup.map (· * y) := mk_mapI sup (· * y) HN2.out
            rw [hq5] at r4
            rw [hq6] at r5
            obtain ⟨r1, r2, r3⟩ := HRJ.out
            have r1 := r1.keep HB.out
            have r2 := r2.keep HB.out
            have r3 := r3.keep HB.out
            have hJ := HRS4.out.1.keep HB.out
            have hS := HRS4.out.2.keep HB.out
            have b5 := below_then HB4.out HB.out
            have L1 : Hid ((turnJ js q).length = N) := Lib.hid (by unfold turnJ; rw [mk_len]; exact HN.out)
            have L2 : Hid ((js.map (backJ T)).length = N) := Lib.hid (by rw [List.length_map]; exact HN.out)
            have L3 : Hid ((js.map (timesJ y)).length = N) := Lib.hid (by rw [List.length_map]; exact HN.out)
            have L4 : Hid ((backS sup).length = T) := Lib.hid (by unfold backS; rw [mk_len]; exact HN2.out)
            have L5 : Hid ((sup.map (· * y)).length = T) := Lib.hid (by rw [List.length_map]; exact HN2.out)
            have K1 : Hid (okP (turnJ js q) sup = true) := Lib.hid (okP_turn HOK.out q)
            have K2 : Hid (okP (js.map (backJ T)) (backS sup) = true) := Lib.hid (by have := okP_back HOK.out; rwa [HN2.out] at this)
            have E1 : Hid (Met (turnJ js q) sup ↔ Met js sup) := Lib.hid (by
              by_cases h0 : N = 0
              · have hn : js = [] := List.eq_nil_of_length_eq_zero (by rw [HN.out]; exact h0)
                rw [hn]
                exact Iff.rfl
              · exact met_turn (by rw [HN.out]; exact Hq0.out h0))
            have E2 : Hid (Met (js.map (backJ T)) (backS sup) ↔ Met js sup) := Lib.hid (by have := met_back (js := js) (sup := sup); rwa [HN2.out] at this)
            clear HT HB o1 o2 hq5 hq6 HRJ HRS4 HB4 hk hg1 hlt hltz HSU
            go_wp2_with fail
            refine (lpMet_any A A2 c N c2 T js sup wr hJ HN hl hS HN2 hl2).mono ?_
            rintro e w5 ⟨m0, rfl, hm0, _, hb5⟩
            have P0 := Lib.hid (hm0 HOK.out)
            rw [HOK.out]
            have b6 := below_then b5 hb5
            clear hm0
            go_wp2_with fail
            refine (lpMet_any a1 A2 d1 N c2 T (turnJ js q) sup w5 (r1.keep hb5) L1 hl (hS.keep hb5) HN2 hl2).mono ?_
            rintro e w6 ⟨m1, rfl, hm1, _, hb6⟩
            obtain rfl : m1 = m0 := metPost_eq P0.out (hm1 K1.out) E1.out
            rw [K1.out]
            have hb56 := below_then hb5 hb6
            clear hm1
            go_wp2_with fail
            refine (lpMet_any a2 a4 d2 N d4 T (js.map (backJ T)) (backS sup) w6 (r2.keep hb56) L2 hl (r4.keep hb56) L4 hl2).mono ?_
            rintro e w7 ⟨m2, rfl, hm2, _, hb7⟩
            obtain rfl : m2 = m1 := metPost_eq P0.out (hm2 K2.out) E2.out
            rw [K2.out]
            have hb57 := below_then hb56 hb7
            clear hm2
            go_wp2_with fail
            refine (lpMet_any a3 a5 d3 N d5 T (js.map (timesJ y)) (sup.map (· * y)) w7 (r3.keep hb57) L3 hl (r5.keep hb57) L5 hl2).mono ?_
            rintro e w8 ⟨m3, rfl, hm3, _, hb8⟩
            have hb58 := below_then hb57 hb8
            go_wp2_with fail
            refine (rpValid_any a3 a5 d3 N d5 T (js.map (timesJ y)) (sup.map (· * y)) w8 (r3.keep hb58) L3 hl (r5.keep hb58) L5 hl2).mono ?_
            rintro e w9 ⟨rfl, hb9⟩
            have Hend := Lib.hid (below_then b5 (below_then hb58 hb9))
            cases hbig : okP (js.map (timesJ y)) (sup.map (· * y))
            · cases m2 <;> (go_wp2_with fail; go_ret; exact ⟨rfl, Hend.out⟩)
            · obtain rfl : m3 = m2 := metPost_times (by omega) hbig P0.out (hm3 hbig)
              clear hm3
              cases m3 <;> (go_wp2_with fail; go_ret; exact ⟨rfl, Hend.out⟩)
end Go.Proofs.Ytickndjlhokppaa
