/-
limits.Check, walked.
-/
import Derived.Test.YtbalhbpaholakaaCLimF0
import Derived.Laws.EntriesVeiled
namespace Go.Proofs.Ytbalhbpaholakaa
open Go.RowKit Go.Shelf
attribute [local go_sem] Oper.semAt_some
set_option linter.unusedVariables false
set_option linter.unusedSimpArgs false
/-- The frame in which the body begins. -/
def LcA (w : World) (M : Nat) (n1 : Nat) (x : PlAt n1) (a' : Act) (W : World) : Prop := ∃ X u0 u1 u3 u8 u10 u11 u12 u13 u14 u15 u16 u17 u18 u19 u20 u21 u22 u23 u24 u25 u26 u27 u28 u29 u30 u31 u32 u33 u34 u35 u36 u37 u38 u39 u40 u41 u42 u43 u44 u45 u46, a' = ⟨List.toArray (u0 :: u1 :: (.pointer (some ⟨w.heap.size, 0, none⟩)) :: u3 :: (.pointer (some ⟨w.heap.size + 1, 0, none⟩)) :: (.pointer (some ⟨w.heap.size + 2, 0, none⟩)) :: (.pointer (some ⟨w.heap.size + 3, 0, none⟩)) :: (.pointer (some ⟨M, 0, none⟩)) :: u8 :: (.pointer (some ⟨X, 0, none⟩)) :: u10 :: u11 :: u12 :: u13 :: u14 :: u15 :: u16 :: u17 :: u18 :: u19 :: u20 :: u21 :: u22 :: u23 :: u24 :: u25 :: u26 :: u27 :: u28 :: u29 :: u30 :: u31 :: u32 :: u33 :: u34 :: u35 :: u36 :: u37 :: u38 :: u39 :: u40 :: u41 :: u42 :: u43 :: u44 :: u45 :: u46 :: []), []⟩ ∧ W.cell? ⟨X, 0, none⟩ = some (.int .i64 ((x.1 / 3 : Nat) : Int)) ∧ W.cell? ⟨X, 1, none⟩ = some (.int .i64 ((x.1 % 3 : Nat) : Int))
set_option maxRecDepth 100000 in
set_option maxHeartbeats 8000000 in
theorem limCheck_any (a1 a2 a3 a4 a5 : Option Addr) (n1 c1 n2 c2 n3 c3 n4 c4 n5 c5 : Nat) (aA : Option Addr) (nA cA : Nat) (s : GSite) (xs : List Int) (w : World) (HS : Hid (RdSite w a1 a2 a3 a4 a5 n1 n2 n3 n4 n5 s)) (HX : Hid (Rd 1 encI w aA xs)) (HNA : Hid (xs.length = nA)) (hnA : nA ≤ 9223372036854775807) :
    Calls Try.prog 19 #[.agg #[.slice a1 n1 c1, .slice a2 n2 c2, .slice a3 n3 c3, .slice a4 n4 c4, .slice a5 n5 c5], .slice aA nA cA] w fun e w' => ChPost w s xs e w' := by
  obtain ⟨m1, m2, m3, m4, m5⟩ : n1 ≤ 9223372036854775807 ∧ n2 ≤ 9223372036854775807 ∧ n3 ≤ 9223372036854775807 ∧ n4 ≤ 9223372036854775807 ∧ n5 ≤ 9223372036854775807 := ⟨HS.out.m1, HS.out.m2, HS.out.m3, HS.out.m4, HS.out.m5⟩
  obtain ⟨W0, hW0⟩ : ∃ W0, W0 = ((((w.alloc (.cells #[.slice a1 n1 c1, .slice a2 n2 c2, .slice a3 n3 c3, .slice a4 n4 c4, .slice a5 n5 c5] 28)).alloc (.cells #[.int .i64 0, .int .i64 0, .int .i64 0] 39)).alloc (.cells #[.bool false] 4)).alloc (.cells #[.int .i64 0] 32)) := ⟨_, rfl⟩
  have b0 : Below w.heap.size w W0 := by rw [hW0]; exact ((((Below.refl _ w).alloc (Nat.le_refl _) _).alloc (by simp) _).alloc (by simp; omega) _).alloc (by simp; omega) _
  have q0 : W0.cell? ⟨w.heap.size, 0, none⟩ = some (.slice a1 n1 c1) := by rw [hW0]; go_simp
  have q1 : W0.cell? ⟨w.heap.size, 1, none⟩ = some (.slice a2 n2 c2) := by rw [hW0]; go_simp
  have q2 : W0.cell? ⟨w.heap.size, 2, none⟩ = some (.slice a3 n3 c3) := by rw [hW0]; go_simp
  have q3 : W0.cell? ⟨w.heap.size, 3, none⟩ = some (.slice a4 n4 c4) := by rw [hW0]; go_simp
  have q4 : W0.cell? ⟨w.heap.size, 4, none⟩ = some (.slice a5 n5 c5) := by rw [hW0]; go_simp
  have o1 : Own W0 (w.heap.size + 1) 39 3 (v3F 0 0 0) := by
    have h := Own.three (w.alloc (.cells #[.slice a1 n1 c1, .slice a2 n2 c2, .slice a3 n3 c3, .slice a4 n4 c4, .slice a5 n5 c5] 28)) 39 0 0 0
    rw [World.size_alloc] at h
    rw [hW0]; exact (h.alloc _).alloc _
  have o2 : Own W0 (w.heap.size + 2) 4 1 (fun _ => .bool false) := by
    have h := Own.one ((w.alloc (.cells #[.slice a1 n1 c1, .slice a2 n2 c2, .slice a3 n3 c3, .slice a4 n4 c4, .slice a5 n5 c5] 28)).alloc (.cells #[.int .i64 0, .int .i64 0, .int .i64 0] 39)) 4 (.bool false)
    rw [World.size_alloc, World.size_alloc] at h
    rw [hW0]; exact h.alloc _
  have o3 : Own W0 (w.heap.size + 3) 32 1 (fun _ => .int .i64 0) := by
    have h := Own.one (((w.alloc (.cells #[.slice a1 n1 c1, .slice a2 n2 c2, .slice a3 n3 c3, .slice a4 n4 c4, .slice a5 n5 c5] 28)).alloc (.cells #[.int .i64 0, .int .i64 0, .int .i64 0] 39)).alloc (.cells #[.bool false] 4)) 32 (.int .i64 0)
    rw [World.size_alloc, World.size_alloc, World.size_alloc] at h
    rw [hW0]; exact h
  have z0 : W0.heap.size = w.heap.size + 4 := by rw [hW0]; simp
  have HV := Lib.hid (trLoads_any a1 n1 c1 a2 n2 c2 a3 n3 c3 a4 n4 c4 a5 n5 c5 aA nA cA s xs W0 (Lib.hid (HS.out.keep b0)) (Lib.hid (HX.out.keep b0)) HNA hnA)
  have HW0 := Lib.hid hW0
  have HZ0 := Lib.hid z0
  clear hW0 z0
  refine (callsIn_wide (n := 5)).1 ?_
  refine callsIn_of_wp_marks Try.func19 rfl trivial ?_ rfl
  refine wpIn_wide.2 ?_
  simp only [Try.ntmps19, List.size_toArray, List.length_cons, List.length_nil, Nat.reduceAdd, Nat.reduceSub, Array.replicate_succ, Array.replicate_zero, List.push_toArray, List.append_toArray, List.nil_append, List.cons_append]
  rw [HW0.out] at HV
  go_wp2_with fail
  refine HV.out.mono ?_
  rw [← HW0.out]
  rintro e w1 ⟨aL, cL, rfl, hrl, hb1⟩
  have bb1 : Below w.heap.size w w1 := below_then b0 hb1
  have HB1 := Lib.hid hb1
  have HBB := Lib.hid bb1
  have HZ1 : Hid (w.heap.size + 4 ≤ w1.heap.size) := Lib.hid (by have := hb1.size; have := HZ0.out; omega)
  have HO1 := Lib.hid (o1.keep hb1 o1.lt)
  have HO2 := Lib.hid (o2.keep hb1 o2.lt)
  have HO3 := Lib.hid (o3.keep hb1 o3.lt)
  have p0 := (hb1.cell (p := ⟨w.heap.size, 0, none⟩) (World.block_lt_of_cell? _ _ q0)).trans q0
  have p1 := (hb1.cell (p := ⟨w.heap.size, 1, none⟩) (World.block_lt_of_cell? _ _ q1)).trans q1
  have p2 := (hb1.cell (p := ⟨w.heap.size, 2, none⟩) (World.block_lt_of_cell? _ _ q2)).trans q2
  have p3 := (hb1.cell (p := ⟨w.heap.size, 3, none⟩) (World.block_lt_of_cell? _ _ q3)).trans q3
  have p4 := (hb1.cell (p := ⟨w.heap.size, 4, none⟩) (World.block_lt_of_cell? _ _ q4)).trans q4
  have HRL := Lib.hid hrl
  clear hrl HV b0 hb1 bb1 o1 o2 o3 q0 q1 q2 q3 q4 HW0
  have c10 : w1.cell? ⟨w.heap.size + 1, 0, none⟩ = some (.int .i64 0) := HO1.out.cell (i := 0) (by omega)
  have c11 : w1.cell? ⟨w.heap.size + 1, 1, none⟩ = some (.int .i64 0) := HO1.out.cell (i := 1) (by omega)
  have c12 : w1.cell? ⟨w.heap.size + 1, 2, none⟩ = some (.int .i64 0) := HO1.out.cell (i := 2) (by omega)
  have c20 := HO2.out.cell (i := 0) (by omega)
  have c30 := HO3.out.cell (i := 0) (by omega)
  have f10 := HO1.out.frozen 0
  have f11 := HO1.out.frozen 1
  have f12 := HO1.out.frozen 2
  have f2 := HO2.out.frozen 0
  have f3 := HO3.out.frozen 0
  have l1 := HO1.out.lt
  have l2 := HO2.out.lt
  have l3 := HO3.out.lt
  cases hlb : loadB s xs
  · have HN : Hid (vioO s xs = none) := Lib.hid (vioO_no hlb)
    generalize (loadsO s xs).length = L
    have he : errO false = 1 := rfl
    have HR := Lib.hid ((chR_write HO1.out HO2.out HO3.out HBB.out 0 0 0 false 1).alloc (.cells #[.slice aL L cL] 66))
    go_wp2_with fail
    refine leaves_marks (B := w.heap.size + 4) [] _ (Marks.nil _ _) (fun W3 hT => ?_)
    have hr := HR.out.leave hT (by omega)
    refine ⟨_, results_c3 (a := 4) (b := 5) (c := 6) (ta := 39) (tb := 4) (tc := 32) (ba := w.heap.size + 1) (bb := w.heap.size + 2) (bc := w.heap.size + 3) (by kernel_rfl) rfl rfl rfl (load_viol hr.o1) (load_bool hr.o2) (load_errno hr.o3), by rw [HN.out, hlb]; rfl, hr.bel⟩
  have HLB := Lib.hid hlb
  have hok : okSB keyL s = true := by
    cases h : okSB keyL s
    · rw [loadB_no1 h] at hlb; cases hlb
    · rfl
  have HOK := Lib.hid (okSB_iff.1 hok)
  have hcl : s.cons.length = n1 := HS.out.l1
  have hn16 : n1 ≤ 16 := by have := HOK.out.n2; omega
  have HRL2 : Hid (Rd 3 enc3 w1 aL ((List.range n1).map (row3 (loadS s (fI xs) s.chgs.length)))) := Lib.hid (by
    have h := HRL.out
    rw [loadsO_yes hlb] at h
    unfold loadsOf at h
    rw [hcl] at h
    exact h)
  have hL : (loadsO s xs).length = n1 := by rw [loadsO_yes hlb, loadsOf_len, hcl]
  have HCL := Lib.hid hcl
  rw [hL]
  have he : errO true = 0 := rfl
  clear HRL hok hcl hL hlb c10 c11 c12 c20 c30 f10 f11 f12 f2 f3 l1 l2 l3
  have l0 : w.heap.size < w1.heap.size := by have := HZ1.out; omega
  go_wp2_with fail
  obtain ⟨w2, hw2⟩ : ∃ w2, w2 = w1.alloc (.cells #[.slice aL n1 cL] 66) := ⟨_, rfl⟩
  have b2 : Below w1.heap.size w1 w2 := by rw [hw2]; exact (Below.refl _ w1).alloc (Nat.le_refl _) _
  have hz2 : w2.heap.size = w1.heap.size + 1 := by rw [hw2]; simp
  have kl2 : w2.cell? ⟨w1.heap.size, 0, none⟩ = some (.slice aL n1 cL) := by rw [hw2]; go_simp
  have HM2 : Hid (ChM w w2 a1 n1 c1 a2 n2 c2 a3 n3 c3 a4 n4 c4 a5 n5 c5 w1.heap.size aL cL (loadS s (fI xs) s.chgs.length) 0 0 0 false 0) := Lib.hid
    ⟨(b2.cell (p := ⟨w.heap.size, 0, none⟩) (by dsimp only; omega)).trans p0, (b2.cell (p := ⟨w.heap.size, 1, none⟩) (by dsimp only; omega)).trans p1, (b2.cell (p := ⟨w.heap.size, 2, none⟩) (by dsimp only; omega)).trans p2, (b2.cell (p := ⟨w.heap.size, 3, none⟩) (by dsimp only; omega)).trans p3, (b2.cell (p := ⟨w.heap.size, 4, none⟩) (by dsimp only; omega)).trans p4, HO1.out.keep b2 HO1.out.lt, HO2.out.keep b2 HO2.out.lt, HO3.out.keep b2 HO3.out.lt, kl2, HRL2.out.keep b2, below_then HBB.out b2⟩
  rw [← hw2]
  clear hw2
  refine (limPlaces_any a1 a2 a3 a4 a5 n1 c1 n2 c2 n3 c3 n4 c4 n5 c5 w2).mono ?_
  rintro e w3 ⟨rfl, hw3⟩
  have b3 : Below w2.heap.size w2 w3 := by rw [hw3]; exact (Below.refl _ w2).alloc (Nat.le_refl _) _
  have z1 : w3.cell? ⟨w2.heap.size, 0, none⟩ = some (.slice a1 n1 c1) := by rw [hw3]; go_simp
  have HM3 := Lib.hid (HM2.out.keep b3)
  have HZ3 : Hid (w.heap.size + 4 ≤ w3.heap.size) := Lib.hid (by have := HZ1.out; have := b3.size; omega)
  have hws : w.heap.size ≤ w3.heap.size := by have := HZ3.out; omega
  obtain ⟨M, hM⟩ : ∃ M, M = w1.heap.size := ⟨_, rfl⟩
  rw [← hM] at HM3 ⊢
  clear hw3 b2 b3 kl2 HM2 p0 p1 p2 p3 p4 HO1 HO2 HO3 HRL2 hM l0 hz2 HB1 HBB HZ1 he
  go_wp2_with fail
  refine range_places (by omega) (g := .tmp 21) (p := 22) w2.heap.size w.heap.size rfl z1 hws (fun pre W' => Hid (∀ i, i ∈ pre.map (fun (y : PlAt n1) => y.1) → chkL s xs i = false) ∧ ChM w W' a1 n1 c1 a2 n2 c2 a3 n3 c3 a4 n4 c4 a5 n5 c5 M aL cL (loadS s (fI xs) s.chgs.length) 0 0 0 false 0) (fun c pre W' => c = .ret ∧ ∃ t, Hid (t ∈ pre.map (fun (y : PlAt n1) => y.1) ∧ (∀ i, i ∈ pre.map (fun (y : PlAt n1) => y.1) → chkL s xs i = true → i = t) ∧ chkL s xs t = true) ∧ ChR w W' ((t / 3 : Nat) : Int) ((t % 3 : Nat) : Int) (loadS s (fI xs) s.chgs.length t) true 0) ?hI ?hIx ?h0 (fun x a' W' => LcA w M n1 x a' W') ?hAx ?assign ?body ?done ?stop
  case hI => exact fun pre W W' h hn => ⟨h.1, h.2.nc hn hws⟩
  case hIx =>
    rintro c pre W W' ⟨rfl, t, h1, h2⟩ hn
    exact ⟨rfl, t, h1, h2.nc hn hws⟩
  case h0 => exact ⟨Lib.hid (by simp), HM3.out⟩
  case hAx =>
    rintro x a' W W' ⟨X, u0, u1, u3, u8, u10, u11, u12, u13, u14, u15, u16, u17, u18, u19, u20, u21, u22, u23, u24, u25, u26, u27, u28, u29, u30, u31, u32, u33, u34, u35, u36, u37, u38, u39, u40, u41, u42, u43, u44, u45, u46, rfl, x0, x1⟩ hn
    exact ⟨X, _, _, _, _, _, _, _, _, _, _, _, _, _, _, _, _, _, _, _, _, _, _, _, _, _, _, _, _, _, _, _, _, _, _, _, _, _, _, _, _, _, rfl, cell_nc1 x0 hn, cell_nc1 x1 hn⟩
  case assign =>
    intro l pre x W1 K hi hK
    have HI := Lib.hid hi
    have HKK := Lib.hid hK
    clear hi hK
    gi_wp2
    have hw1 : w.heap.size ≤ W1.heap.size := HI.out.2.bel.size
    refine HKK.out _ _ (keepsFrom_alloc _ _ _) ((Below.refl _ W1).alloc hw1 _) ⟨HI.out.1, HI.out.2.keep ((Below.refl _ W1).alloc (Nat.le_refl _) _)⟩ ?_
    exact ⟨_, _, _, _, _, _, _, _, _, _, _, _, _, _, _, _, _, _, _, _, _, _, _, _, _, _, _, _, _, _, _, _, _, _, _, _, _, _, _, _, _, _, rfl, by go_simp, by go_simp⟩
  case body =>
    rintro l pre ⟨t, ht⟩ a' W1 ⟨Hno, m⟩ ⟨X, u0, u1, u3, u8, u10, u11, u12, u13, u14, u15, u16, u17, u18, u19, u20, u21, u22, u23, u24, u25, u26, u27, u28, u29, u30, u31, u32, u33, u34, u35, u36, u37, u38, u39, u40, u41, u42, u43, u44, u45, u46, rfl, x0, x1⟩ hlen
    dsimp only at x0 x1 hlen ⊢
    have hcl : s.cons.length = n1 := HCL.out
    have ht' : t < n1 * 3 := ht
    have hcb : t / 3 < n1 := by omega
    have hpb : t % 3 < 3 := by omega
    have het : t / 3 * 3 + t % 3 = t := by omega
    obtain ⟨bL, oL, hAL, hbL, hld⟩ := load_at m.rl hcb hpb
    rw [het] at hld
    obtain ⟨b, off, g, hA, hbl, hgx, d0, d1, d2, d3, d4, d5, d6, d7, d8, d9, d10⟩ := rdCon_at HS.out.r1 (k := t / 3) (by rw [hcl]; exact hcb)
    have HCH : Hid (chkL s xs t = decide (limV g < loadS s (fI xs) s.chgs.length t)) := Lib.hid (by unfold chkL limAt; rw [hgx]; rfl)
    have hb := m.bel
    have e0 := (hb.cell (p := ⟨b, off + t / 3 * 11, none⟩) hbl).trans d0
    have e1 := (hb.cell (p := ⟨b, off + t / 3 * 11 + 1, none⟩) hbl).trans d1
    have e2 := (hb.cell (p := ⟨b, off + t / 3 * 11 + 2, none⟩) hbl).trans d2
    have e3 := (hb.cell (p := ⟨b, off + t / 3 * 11 + 3, none⟩) hbl).trans d3
    have e4 := (hb.cell (p := ⟨b, off + t / 3 * 11 + 4, none⟩) hbl).trans d4
    have e5 := (hb.cell (p := ⟨b, off + t / 3 * 11 + 5, none⟩) hbl).trans d5
    have e6 := (hb.cell (p := ⟨b, off + t / 3 * 11 + 6, none⟩) hbl).trans d6
    have e7 := (hb.cell (p := ⟨b, off + t / 3 * 11 + 7, none⟩) hbl).trans d7
    have e8 := (hb.cell (p := ⟨b, off + t / 3 * 11 + 8, none⟩) hbl).trans d8
    have e9 := (hb.cell (p := ⟨b, off + t / 3 * 11 + 9, none⟩) hbl).trans d9
    have e10 := (hb.cell (p := ⟨b, off + t / 3 * 11 + 10, none⟩) hbl).trans d10
    have HOC := Lib.hid (HOK.out.okC hgx)
    have kl := m.kl
    have k0 := m.k0
    have HMM := Lib.hid m
    have HNO := Lib.hid Hno.out
    have HSN : Hid ((pre ++ [(⟨t, ht⟩ : PlAt n1)]).map (fun (y : PlAt n1) => y.1) = pre.map (fun (y : PlAt n1) => y.1) ++ [t]) := Lib.hid (by rw [List.map_append]; rfl)
    clear d0 d1 d2 d3 d4 d5 d6 d7 d8 d9 d10 hgx m Hno hbl hb
    subst hA hAL
    obtain ⟨c, hc⟩ : ∃ c, c = t / 3 := ⟨_, rfl⟩
    obtain ⟨p, hp⟩ : ∃ p, p = t % 3 := ⟨_, rfl⟩
    rw [← hc] at x0 hcb hld e0 e1 e2 e3 e4 e5 e6 e7 e8 e9 e10
    rw [← hp] at x1 hpb hld
    have HC := Lib.hid hc
    have HP := Lib.hid hp
    have hcz : (c : Int) < (n1 : Int) := by omega
    have hpz : (p : Int) < 3 := by omega
    obtain ⟨ld, hldv⟩ : ∃ ld, ld = loadS s (fI xs) s.chgs.length t := ⟨_, rfl⟩
    rw [← hldv] at hld HCH
    have HLD := Lib.hid hldv
    clear hc hp het hldv ht'
    gi_wp2
    refine wpIn_region_still_tail 8 (by kernel_rfl) (by kernel_rfl) (by kernel_rfl) ?_
    simp only [List.take_succ_cons, List.take_zero, List.drop_succ_cons, List.drop_zero]
    repeat still_step
    try refine wpStill_nil ?_
    change wpList _ _ _ _ _ W1.drew
    go_wp2_with fail
    gi_wp2
    refine ⟨trivial, CallsIn.inRound l (callsIn_wide.2 ((limOf_ok g HOC.out W1.drew).mono ?_))⟩
    rintro e w' ⟨rfl, hb0⟩
    have hbl : Below W1.heap.size W1 w' := (below_drew W1).trans hb0
    have hbw : Below w.heap.size W1 w' := hbl.mono HMM.out.bel.size
    have hm' := HMM.out.keep hbl
    have hx0 := (hbl.cell (p := ⟨X, 0, none⟩) (World.block_lt_of_cell? _ _ x0)).trans x0
    have hx1 := (hbl.cell (p := ⟨X, 1, none⟩) (World.block_lt_of_cell? _ _ x1)).trans x1
    have HM' := Lib.hid hm'
    have HBL := Lib.hid hbl
    have HBW := Lib.hid hbw
    clear hm' hbl hbw hb0 x0 x1 e0 e1 e2 e3 e4 e5 e6 e7 e8 e9 e10 kl k0 hld
    generalize limV g = lv at *
    by_cases hv : lv < ld
    · have HY : Hid (chkL s xs t = true) := Lib.hid (by rw [HCH.out]; exact decide_eq_true hv)
      have c10 : w'.cell? ⟨w.heap.size + 1, 0, none⟩ = some (.int .i64 0) := HM'.out.o1.cell (i := 0) (by omega)
      have c11 : w'.cell? ⟨w.heap.size + 1, 1, none⟩ = some (.int .i64 0) := HM'.out.o1.cell (i := 1) (by omega)
      have c12 : w'.cell? ⟨w.heap.size + 1, 2, none⟩ = some (.int .i64 0) := HM'.out.o1.cell (i := 2) (by omega)
      have c20 := HM'.out.o2.cell (i := 0) (by omega)
      have c30 := HM'.out.o3.cell (i := 0) (by omega)
      have f10 := HM'.out.o1.frozen 0
      have f11 := HM'.out.o1.frozen 1
      have f12 := HM'.out.o1.frozen 2
      have f2 := HM'.out.o2.frozen 0
      have f3 := HM'.out.o3.frozen 0
      have HP2 : Hid (KeepsFrom w3.heap.size W1 (chW w w' (c : Int) (p : Int) ld true 0) ∧ ∃ t', Hid (t' ∈ (pre ++ [(⟨t, ht⟩ : PlAt n1)]).map (fun (y : PlAt n1) => y.1) ∧ (∀ i, i ∈ (pre ++ [(⟨t, ht⟩ : PlAt n1)]).map (fun (y : PlAt n1) => y.1) → chkL s xs i = true → i = t') ∧ chkL s xs t' = true) ∧ ChR w (chW w w' (c : Int) (p : Int) ld true 0) ((t' / 3 : Nat) : Int) ((t' % 3 : Nat) : Int) (loadS s (fI xs) s.chgs.length t') true 0) := Lib.hid (by
        refine ⟨(keepsFrom_below HBL.out).trans (keepsFrom_ch HM'.out.o3 _ HZ3.out _ _ _ _ _), t, Lib.hid ⟨?_, ?_, HY.out⟩, ?_⟩
        · rw [HSN.out]; simp
        · intro i hi hci
          rw [HSN.out] at hi
          rcases List.mem_append.1 hi with h | h
          · rw [HNO.out i h] at hci; cases hci
          · simpa using h
        · rw [← HC.out, ← HP.out, ← HLD.out]
          exact chR_write HM'.out.o1 HM'.out.o2 HM'.out.o3 HM'.out.bel _ _ _ _ _)
      gi_wp2
      exact ⟨HP2.out.1, rfl, HP2.out.2⟩
    · have HNV : Hid (chkL s xs t = false) := Lib.hid (by rw [HCH.out]; exact decide_eq_false hv)
      have HP2 : Hid (KeepsFrom w3.heap.size W1 w' ∧ Below w.heap.size W1 w' ∧ (Hid (∀ i, i ∈ (pre ++ [(⟨t, ht⟩ : PlAt n1)]).map (fun (y : PlAt n1) => y.1) → chkL s xs i = false) ∧ ChM w w' (some ⟨b, off, none⟩) n1 c1 a2 n2 c2 a3 n3 c3 a4 n4 c4 a5 n5 c5 M (some ⟨bL, oL, none⟩) cL (loadS s (fI xs) s.chgs.length) 0 0 0 false 0)) := Lib.hid (by
        refine ⟨keepsFrom_below HBL.out, HBW.out, Lib.hid (fun i hi => ?_), ?_⟩
        · rw [HSN.out] at hi
          rcases List.mem_append.1 hi with h | h
          · exact HNO.out i h
          · have h2 : i = t := by simpa using h
            rw [h2]; exact HNV.out
        · exact HM'.out)
      gi_wp2
      exact HP2.out
  case done =>
    intro D ys W1 hD hS hi hdf
    obtain ⟨Hno, m⟩ := hi
    have HV : Hid (vioO s xs = none) := Lib.hid (vioO_all HLB.out (fun t ht => Hno.out t (by rw [hS]; exact List.mem_range.2 (by rw [← HCL.out]; exact ht))))
    have c10 : W1.cell? ⟨w.heap.size + 1, 0, none⟩ = some (.int .i64 0) := m.o1.cell (i := 0) (by omega)
    have c11 : W1.cell? ⟨w.heap.size + 1, 1, none⟩ = some (.int .i64 0) := m.o1.cell (i := 1) (by omega)
    have c12 : W1.cell? ⟨w.heap.size + 1, 2, none⟩ = some (.int .i64 0) := m.o1.cell (i := 2) (by omega)
    have c20 := m.o2.cell (i := 0) (by omega)
    have c30 := m.o3.cell (i := 0) (by omega)
    have f10 := m.o1.frozen 0
    have f11 := m.o1.frozen 1
    have f12 := m.o1.frozen 2
    have f2 := m.o2.frozen 0
    have f3 := m.o3.frozen 0
    have HR := Lib.hid (chR_write m.o1 m.o2 m.o3 m.bel 0 0 0 false 0)
    have HMK : Hid (Marks (w.heap.size + 4) (chW w W1 0 0 0 false 0) [{ target := .collected D, args := #[] }]) := Lib.hid ⟨[D], rfl, by simp, fun D' hD' => by
      have e : D' = D := by simpa using hD'
      subst e
      have hdl := (Array.getElem?_eq_some_iff.1 hdf).1
      have hmd := chW_mod w W1 0 0 0 false 0
      have hz := HZ3.out
      exact ⟨by omega, Nat.lt_of_lt_of_le hdl hmd.size, (hmd.block D' hdl (by omega)).trans hdf⟩⟩
    clear m Hno hS hdf
    go_wp2_with fail
    refine leaves_marks (B := w.heap.size + 4) _ _ HMK.out (fun W3 hT => ?_)
    have hr := HR.out.leave hT (by omega)
    refine ⟨_, results_c3 (a := 4) (b := 5) (c := 6) (ta := 39) (tb := 4) (tc := 32) (ba := w.heap.size + 1) (bb := w.heap.size + 2) (bc := w.heap.size + 3) (by kernel_rfl) rfl rfl rfl (load_viol hr.o1) (load_bool hr.o2) (load_errno hr.o3), by rw [HV.out, HLB.out]; rfl, hr.bel⟩
  case stop =>
    intro D c pre W1 hD hS hi hdf
    obtain ⟨rfl, t, Ht, hr0⟩ := hi
    have HV : Hid (vioO s xs = some t) := Lib.hid (by
      obtain ⟨h1, h2, h3⟩ := Ht.out
      have hp := pre_range hS
      rw [hp] at h1 h2
      have hlt := pre_len hS
      have h1' := List.mem_range.1 h1
      refine vioO_at HLB.out (by rw [HCL.out]; omega) (fun i hi => ?_) h3
      cases hc : chkL s xs i
      · rfl
      · have := h2 i (List.mem_range.2 (by omega)) hc; omega)
    have HR := Lib.hid hr0
    have HMK : Hid (Marks (w.heap.size + 4) W1 [{ target := .collected D, args := #[] }]) := Lib.hid ⟨[D], rfl, by simp, fun D' hD' => by
      have e : D' = D := by simpa using hD'
      subst e
      have hz := HZ3.out
      exact ⟨by omega, (Array.getElem?_eq_some_iff.1 hdf).1, hdf⟩⟩
    clear hr0 hS hdf Ht
    refine wpIn_wide.2 ?_
    go_wp2_with fail
    refine leaves_marks (B := w.heap.size + 4) _ _ HMK.out (fun W3 hT => ?_)
    have hr := HR.out.leave hT (by omega)
    refine ⟨_, results_c3 (a := 4) (b := 5) (c := 6) (ta := 39) (tb := 4) (tc := 32) (ba := w.heap.size + 1) (bb := w.heap.size + 2) (bc := w.heap.size + 3) (by kernel_rfl) rfl rfl rfl (load_viol hr.o1) (load_bool hr.o2) (load_errno hr.o3), by rw [HV.out, HLB.out]; rfl, hr.bel⟩
end Go.Proofs.Ytbalhbpaholakaa
