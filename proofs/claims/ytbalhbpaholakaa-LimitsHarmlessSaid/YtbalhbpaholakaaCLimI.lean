/-
limits.Rows, walked.
-/
import Derived.Test.YtbalhbpaholakaaCLimI0
import Derived.Laws.EntriesVeiled
namespace Go.Proofs.Ytbalhbpaholakaa
open Go.RowKit Go.Shelf
attribute [local go_sem] Oper.semAt_some
set_option linter.unusedVariables false
set_option linter.unusedSimpArgs false
theorem belowL_bd (s : GSite) (co : Int) (m i : Nat) (hi : i < (belowL s co m).length) : 0 ≤ fI (belowL s co m) i ∧ fI (belowL s co m) i < m := by
  have h := List.getElem_mem hi
  unfold fI
  rw [List.getElem?_eq_getElem hi]
  generalize (belowL s co m)[i] = y at *
  unfold belowL at h
  obtain ⟨k, hk, rfl⟩ := List.mem_map.1 h
  have := List.mem_range.1 (List.mem_filter.1 hk).1
  simp
  omega
theorem snoc_range {n : Nat} {pre : List (PlAt n)} {q : List Nat} {t : Nat} (h : q = pre.map (fun (y : PlAt n) => y.1) ++ [t]) (ho : q = List.range (pre.length + 1)) : pre.map (fun (y : PlAt n) => y.1) = List.range pre.length ∧ t = pre.length := by
  rw [h, List.range_succ] at ho
  obtain ⟨h1, h2⟩ := List.append_inj ho (by simp)
  exact ⟨h1, by simpa using h2⟩
theorem mod_then {M : Nat → Prop} {W1 W W' : World} (h : Mod M W1 W) (hb : Below W.heap.size W W') : Mod M W1 W' :=
  ⟨hb.os.trans h.os, hb.tape.trans h.tape, hb.output.trans h.output, Nat.le_trans h.size hb.size, fun i hi hn => (hb.block i (Nat.lt_of_lt_of_le hi h.size)).trans (h.block i hi hn)⟩
theorem ownL_fresh {w : World} {base : Nat} {a : Option Addr} {n c : Nat} {xs : List Int} (h : OwnL w base (.slice a n c) xs) : ∀ x, a = some x → base ≤ x.block ∧ x.block < w.heap.size := by
  intro x hx
  rcases h.2 with ⟨h1, _⟩ | ⟨g, cap, cur, h1, hb, hg, _⟩
  · rw [hx] at h1; cases h1
  · rw [hx] at h1
    injection h1 with h1
    injection h1 with h1
    rw [h1]
    exact ⟨hb, (Array.getElem?_eq_some_iff.1 hg).1⟩
theorem cells14 {W W' : World} (hb : Below W.heap.size W W') {p0 p1 p2 p3 p4 p5 p6 p7 p8 p9 p10 p11 p12 p13 : Addr} {v0 v1 v2 v3 v4 v5 v6 v7 v8 v9 v10 v11 v12 v13 : Value} (h : W.cell? p0 = some v0 ∧ W.cell? p1 = some v1 ∧ W.cell? p2 = some v2 ∧ W.cell? p3 = some v3 ∧ W.cell? p4 = some v4 ∧ W.cell? p5 = some v5 ∧ W.cell? p6 = some v6 ∧ W.cell? p7 = some v7 ∧ W.cell? p8 = some v8 ∧ W.cell? p9 = some v9 ∧ W.cell? p10 = some v10 ∧ W.cell? p11 = some v11 ∧ W.cell? p12 = some v12 ∧ W.cell? p13 = some v13) : W'.cell? p0 = some v0 ∧ W'.cell? p1 = some v1 ∧ W'.cell? p2 = some v2 ∧ W'.cell? p3 = some v3 ∧ W'.cell? p4 = some v4 ∧ W'.cell? p5 = some v5 ∧ W'.cell? p6 = some v6 ∧ W'.cell? p7 = some v7 ∧ W'.cell? p8 = some v8 ∧ W'.cell? p9 = some v9 ∧ W'.cell? p10 = some v10 ∧ W'.cell? p11 = some v11 ∧ W'.cell? p12 = some v12 ∧ W'.cell? p13 = some v13 := by
  have cl : ∀ {p : Addr} {v : Value}, W.cell? p = some v → W'.cell? p = some v := fun {p v} hp => (hb.cell (World.block_lt_of_cell? W p hp)).trans hp
  obtain ⟨h0, h1, h2, h3, h4, h5, h6, h7, h8, h9, h10, h11, h12, h13⟩ := h
  exact ⟨cl h0, cl h1, cl h2, cl h3, cl h4, cl h5, cl h6, cl h7, cl h8, cl h9, cl h10, cl h11, cl h12, cl h13⟩
def plF (c p : Int) (i : Nat) : Value := if i = 0 then .int .i64 c else .int .i64 p
theorem Own.place (w : World) (c p : Int) : Own (w.alloc (.cells #[.int .i64 c, .int .i64 p] 90)) w.heap.size 90 2 (plF c p) := by
  refine (Own.new w 90 #[.int .i64 c, .int .i64 p] undef).congr (fun i hi => ?_)
  have hi' : i < 2 := hi
  rcases i with _ | _ | i
  all_goals first | rfl | omega
theorem row_place {W : World} {base X : Nat} {v : Value} {hs : List RowH} {f : Nat → Value} (h : OwnR 47 2 encHd W base v hs) (ho : Own W X 90 2 f) : v.ownBlock ≠ some X := by
  intro e
  rcases h.2 with ⟨rfl, _⟩ | ⟨g, cap, cur, rfl, hb, hgg, _⟩
  · cases e
  · cases e
    obtain ⟨cs, hg2, _⟩ := ho
    rw [hgg] at hg2
    injection hg2 with hg2
    injection hg2 with _ h2
    exact absurd h2 (by decide)
/-- The frame in which the body begins. -/
def LrA (w : World) (R : Nat) (n1 : Nat) (x : PlAt n1) (a' : Act) (W : World) : Prop := ∃ X u0 u2 u3 u7 u8 u9 u10 u11 u12 u13 u14 u15 u16 u17 u18 u19 u20 u21 u22 u23 u24 u25 u26 u27 u28 u29 u30 u31 u32 u33 u34 u35 u36 u37 u38 u39 u40 u41 u42, a' = ⟨List.toArray (u0 :: (.pointer (some ⟨w.heap.size, 0, none⟩)) :: u2 :: u3 :: (.pointer (some ⟨R, 0, none⟩)) :: (.pointer (some ⟨R + 1, 0, none⟩)) :: (.pointer (some ⟨X, 0, none⟩)) :: u7 :: u8 :: u9 :: u10 :: u11 :: u12 :: u13 :: u14 :: u15 :: u16 :: u17 :: u18 :: u19 :: u20 :: u21 :: u22 :: u23 :: u24 :: u25 :: u26 :: u27 :: u28 :: u29 :: u30 :: u31 :: u32 :: u33 :: u34 :: u35 :: u36 :: u37 :: u38 :: u39 :: u40 :: u41 :: u42 :: []), []⟩ ∧ Own W X 90 2 (plF ((x.1 / 3 : Nat) : Int) ((x.1 % 3 : Nat) : Int)) ∧ R + 1 < X
/-- What holds between two rounds. -/
def RwI (w : World) (a1 : Option Addr) (n1 c1 : Nat) (a2 : Option Addr) (n2 c2 : Nat) (a3 : Option Addr) (n3 c3 : Nat) (a4 : Option Addr) (n4 c4 : Nat) (a5 : Option Addr) (n5 c5 : Nat) (R : Nat) (s : GSite) (pre : List (PlAt n1)) (W : World) : Prop :=
  ∃ v hs rs ys, Hid (rs.length ≤ pre.length ∧ ys.length ≤ 16 ∧ ∀ i, i < ys.length → 0 ≤ fI ys i ∧ fI ys i < (n4 : Nat)) ∧ Hid (pre.map (fun (y : PlAt n1) => y.1) = List.range pre.length → rs = rowsL s pre.length ∧ (pre.length % 3 ≠ 0 → ys = belowL s ((pre.length / 3 : Nat) : Int) s.chgs.length)) ∧ RwM w W a1 n1 c1 a2 n2 c2 a3 n3 c3 a4 n4 c4 a5 n5 c5 R v hs rs ys
set_option maxRecDepth 100000 in
set_option maxHeartbeats 16000000 in
theorem limRows_any (a1 a2 a3 a4 a5 : Option Addr) (n1 c1 n2 c2 n3 c3 n4 c4 n5 c5 : Nat) (s : GSite) (w : World) (HS : Hid (RdSite w a1 a2 a3 a4 a5 n1 n2 n3 n4 n5 s)) :
    Calls Try.prog 17 #[.agg #[.slice a1 n1 c1, .slice a2 n2 c2, .slice a3 n3 c3, .slice a4 n4 c4, .slice a5 n5 c5]] w fun e w' => RwPost w s e w' := by
  obtain ⟨m1, m2, m3, m4, m5⟩ : n1 ≤ 9223372036854775807 ∧ n2 ≤ 9223372036854775807 ∧ n3 ≤ 9223372036854775807 ∧ n4 ≤ 9223372036854775807 ∧ n5 ≤ 9223372036854775807 := ⟨HS.out.m1, HS.out.m2, HS.out.m3, HS.out.m4, HS.out.m5⟩
  have hW0 : Below w.heap.size w (w.alloc (.cells #[.slice a1 n1 c1, .slice a2 n2 c2, .slice a3 n3 c3, .slice a4 n4 c4, .slice a5 n5 c5] 28)) := (Below.refl _ w).alloc (Nat.le_refl _) _
  have HV := Lib.hid (stValid_any a1 a2 a3 a4 a5 n1 c1 n2 c2 n3 c3 n4 c4 n5 c5 s (w.alloc (.cells #[.slice a1 n1 c1, .slice a2 n2 c2, .slice a3 n3 c3, .slice a4 n4 c4, .slice a5 n5 c5] 28)) (Lib.hid (HS.out.keep hW0)))
  refine (callsIn_wide (n := 5)).1 ?_
  refine callsIn_of_wp_marks Try.func17 rfl trivial ?_ rfl
  refine wpIn_wide.2 ?_
  simp only [Try.ntmps17, List.size_toArray, List.length_cons, List.length_nil, Nat.reduceAdd, Nat.reduceSub, Array.replicate_succ, Array.replicate_zero, List.push_toArray, List.append_toArray, List.nil_append, List.cons_append]
  go_wp2_with fail
  refine HV.out.mono ?_
  rintro e w1 ⟨rfl, hb1⟩
  have hb : Below w.heap.size w w1 := below_then hW0 hb1
  have hs1 : w.heap.size + 1 ≤ w1.heap.size := by have := hb1.size; rw [World.size_alloc] at this; exact this
  have q0 : w1.cell? ⟨w.heap.size, 0, none⟩ = some (.slice a1 n1 c1) := (hb1.cell (p := ⟨w.heap.size, 0, none⟩) (by simp)).trans (by go_simp)
  have q1 : w1.cell? ⟨w.heap.size, 1, none⟩ = some (.slice a2 n2 c2) := (hb1.cell (p := ⟨w.heap.size, 1, none⟩) (by simp)).trans (by go_simp)
  have q2 : w1.cell? ⟨w.heap.size, 2, none⟩ = some (.slice a3 n3 c3) := (hb1.cell (p := ⟨w.heap.size, 2, none⟩) (by simp)).trans (by go_simp)
  have q3 : w1.cell? ⟨w.heap.size, 3, none⟩ = some (.slice a4 n4 c4) := (hb1.cell (p := ⟨w.heap.size, 3, none⟩) (by simp)).trans (by go_simp)
  have q4 : w1.cell? ⟨w.heap.size, 4, none⟩ = some (.slice a5 n5 c5) := (hb1.cell (p := ⟨w.heap.size, 4, none⟩) (by simp)).trans (by go_simp)
  have HB := Lib.hid hb
  clear hb hb1 HV hW0
  cases hok : okSB keyL s
  · have HN : Hid (okSB keyL s = false) := Lib.hid hok
    go_wp2_with fail
    refine leaves_marks (B := w.heap.size) [] _ (Marks.nil _ _) (fun W3 hT => ⟨_, results_tmp2 (t := 2) (u := 3) (by kernel_rfl) _ _ _, none, 0, [], by rw [HN.out, rowsO_no HN.out]; rfl, by rw [rowsO_no HN.out]; exact RdRows.nil _, HB.out.trans (taken_below1 hT (Nat.le_refl _))⟩)
  have HY : Hid (okSB keyL s = true) := Lib.hid hok
  have HOK := Lib.hid (okSB_iff.1 hok)
  have hcl : s.cons.length = n1 := HS.out.l1
  have hn16 : n1 ≤ 16 := by have := HOK.out.n2; omega
  have hn4m : n4 ≤ 1000000 := by have := HOK.out.n5; have := HS.out.l4; omega
  have HCL := Lib.hid hcl
  have HL4 : Hid (s.chgs.length = n4) := Lib.hid HS.out.l4
  have HR4 := Lib.hid HS.out.r4
  have HPH : Hid (∀ g, g ∈ s.chgs → 0 ≤ g.ph ∧ g.ph ≤ 7) := Lib.hid (fun g hg => by
    have h1 := HOK.out.chg g hg
    unfold okChg at h1
    simp only [decide_eq_true_eq] at h1
    have := h1.2.2.1
    omega)
  clear hok hcl
  have l0 : w.heap.size < w1.heap.size := by omega
  go_wp2_with fail
  obtain ⟨w2, hw2⟩ : ∃ w2, w2 = (w1.alloc (.cells #[.slice none 0 0] 35)).alloc (.cells #[.slice none 0 0] 29) := ⟨_, rfl⟩
  have b2 : Below w1.heap.size w1 w2 := by rw [hw2]; exact ((Below.refl _ w1).alloc (Nat.le_refl _) _).alloc (by simp) _
  have hz2 : w2.heap.size = w1.heap.size + 2 := by rw [hw2]; simp
  have o1 : Own w2 w1.heap.size 35 1 (fun _ => .slice none 0 0) := by rw [hw2]; exact (Own.one _ _ _).alloc _
  have o2 : Own w2 (w1.heap.size + 1) 29 1 (fun _ => .slice none 0 0) := by
    have h := Own.one (w1.alloc (.cells #[.slice none 0 0] 35)) 29 (.slice none 0 0)
    rw [World.size_alloc] at h
    rw [hw2]; exact h
  have HM2 : Hid (RwM w w2 a1 n1 c1 a2 n2 c2 a3 n3 c3 a4 n4 c4 a5 n5 c5 w1.heap.size (.slice none 0 0) [] [] []) := Lib.hid
    ⟨(b2.cell (p := ⟨w.heap.size, 0, none⟩) (by dsimp only; omega)).trans q0, (b2.cell (p := ⟨w.heap.size, 1, none⟩) (by dsimp only; omega)).trans q1, (b2.cell (p := ⟨w.heap.size, 2, none⟩) (by dsimp only; omega)).trans q2, (b2.cell (p := ⟨w.heap.size, 3, none⟩) (by dsimp only; omega)).trans q3, (b2.cell (p := ⟨w.heap.size, 4, none⟩) (by dsimp only; omega)).trans q4, o1, ⟨none, 0, o2, Rd.nil, fun h => absurd h (by simp)⟩, RwL.nil _ _, fun k x hx => by simp at hx, below_then HB.out b2, l0⟩
  rw [← hw2]
  clear hw2
  refine (limPlaces_any a1 a2 a3 a4 a5 n1 c1 n2 c2 n3 c3 n4 c4 n5 c5 w2).mono ?_
  rintro e w3 ⟨rfl, hw3⟩
  have b3 : Below w2.heap.size w2 w3 := by rw [hw3]; exact (Below.refl _ w2).alloc (Nat.le_refl _) _
  have z1 : w3.cell? ⟨w2.heap.size, 0, none⟩ = some (.slice a1 n1 c1) := by rw [hw3]; go_simp
  have HM3 := Lib.hid (HM2.out.keep b3)
  have hws : w.heap.size ≤ w3.heap.size := HM3.out.bel.size
  obtain ⟨R, hR⟩ : ∃ R, R = w1.heap.size := ⟨_, rfl⟩
  rw [← hR] at HM3 ⊢
  have HRR : Hid (w.heap.size < R ∧ R + 2 ≤ w3.heap.size) := Lib.hid ⟨by omega, by have := b3.size; omega⟩
  clear hw3 b2 b3 HM2 q0 q1 q2 q3 q4 o1 o2 hR l0 hz2 hs1
  go_wp2_with fail
  refine range_places (by omega) (g := .tmp 12) (p := 13) w2.heap.size w.heap.size rfl z1 hws (fun pre W' => RwI w a1 n1 c1 a2 n2 c2 a3 n3 c3 a4 n4 c4 a5 n5 c5 R s pre W') (fun _ _ _ => False) ?hI (fun _ _ _ _ h _ => h) ?h0 (fun x a' W' => LrA w R n1 x a' W') ?hAx ?assign ?body ?done (fun _ _ _ _ _ _ h _ => h.elim)
  case hI =>
    rintro pre W W' ⟨v, hs, rs, ys, h1, h2, h3⟩ hn
    exact ⟨v, hs, rs, ys, h1, h2, h3.nc hn hws⟩
  case h0 => exact ⟨_, [], [], [], Lib.hid ⟨by simp, by simp, fun i hi => absurd hi (by simp)⟩, Lib.hid (fun _ => ⟨rfl, fun h => absurd rfl h⟩), HM3.out⟩
  case hAx =>
    rintro x a' W W' ⟨X, u0, u2, u3, u7, u8, u9, u10, u11, u12, u13, u14, u15, u16, u17, u18, u19, u20, u21, u22, u23, u24, u25, u26, u27, u28, u29, u30, u31, u32, u33, u34, u35, u36, u37, u38, u39, u40, u41, u42, rfl, x0, x2⟩ hn
    exact ⟨X, _, _, _, _, _, _, _, _, _, _, _, _, _, _, _, _, _, _, _, _, _, _, _, _, _, _, _, _, _, _, _, _, _, _, _, _, _, _, _, rfl, x0.nc hn, x2⟩
  case assign =>
    intro l pre x W1 K hi hK
    have HI := Lib.hid hi
    have HKK := Lib.hid hK
    clear hi hK
    gi_wp2
    obtain ⟨v, hs, rs, ys, h1, h2, h3⟩ := HI.out
    have hlR : R + 1 < W1.heap.size := by obtain ⟨_, _, o, _, _⟩ := h3.ob; exact o.lt
    refine HKK.out _ _ (keepsFrom_alloc _ _ _) ((Below.refl _ W1).alloc h3.bel.size _) ⟨v, hs, rs, ys, h1, h2, h3.keep ((Below.refl _ W1).alloc (Nat.le_refl _) _)⟩ ?_
    exact ⟨_, _, _, _, _, _, _, _, _, _, _, _, _, _, _, _, _, _, _, _, _, _, _, _, _, _, _, _, _, _, _, _, _, _, _, _, _, _, _, _, rfl, Own.place _ _ _, hlR⟩
  case body =>
    rintro l pre ⟨t, ht⟩ a' W1 ⟨v, hs, rs, ys, Hbd, Hord, m⟩ ⟨X, u0, u2, u3, u7, u8, u9, u10, u11, u12, u13, u14, u15, u16, u17, u18, u19, u20, u21, u22, u23, u24, u25, u26, u27, u28, u29, u30, u31, u32, u33, u34, u35, u36, u37, u38, u39, u40, u41, u42, rfl, ox, hX⟩ hlen
    have x0 : W1.cell? ⟨X, 0, none⟩ = some (.int .i64 ((t / 3 : Nat) : Int)) := ox.cell (i := 0) (by omega)
    have x1 : W1.cell? ⟨X, 1, none⟩ = some (.int .i64 ((t % 3 : Nat) : Int)) := ox.cell (i := 1) (by omega)
    have HXN : Hid (¬ (v.ownBlock = some X ∨ X = R ∨ X = R + 1)) := Lib.hid (fun h => by
      rcases h with h | h | h
      · exact row_place m.rw.own ox h
      · omega
      · omega)
    clear ox
    try dsimp only at hlen ⊢
    have hcl : s.cons.length = n1 := HCL.out
    have hcb : t / 3 < n1 := by have : t < n1 * 3 := ht; omega
    have hpb : t % 3 < 3 := by omega
    obtain ⟨b, off, g, hA, hbl, hgx, d0, d1, d2, d3, d4, d5, d6, d7, d8, d9, d10⟩ := rdCon_at HS.out.r1 (k := t / 3) (by rw [hcl]; exact hcb)
    have HLIM : Hid (limAt s (t / 3) = limV g) := Lib.hid (by unfold limAt; rw [hgx]; rfl)
    have HOC := Lib.hid (HOK.out.okC hgx)
    have HBD := Lib.hid Hbd.out.1
    have HYB := Lib.hid Hbd.out.2
    have HORD := Lib.hid Hord.out
    have HPL : Hid (pre.length ≤ 48) := Lib.hid (by omega)
    have HSN : Hid ((pre ++ [(⟨t, ht⟩ : PlAt n1)]).map (fun (y : PlAt n1) => y.1) = pre.map (fun (y : PlAt n1) => y.1) ++ [t]) := Lib.hid (by rw [List.map_append]; rfl)
    have HM := Lib.hid m
    have HSW := Lib.hid m.bel.size
    have HCE := Lib.hid m.cells
    have HGE : Hid (∀ j, (v.ownBlock = some j ∨ j = R ∨ j = R + 1) → w.heap.size ≤ j) := Lib.hid (fun j h => by
      have hr := HRR.out.1
      rcases h with h | h | h
      · have := (HM.out.own_ge h).1; omega
      · omega
      · omega)
    have k0 := m.k0
    have k1 := m.k1
    have k2 := m.k2
    have k3 := m.k3
    have k4 := m.k4
    clear m Hbd Hord hgx hcl
    subst hA
    obtain ⟨c, hc⟩ : ∃ c, c = t / 3 := ⟨_, rfl⟩
    obtain ⟨p, hp⟩ : ∃ p, p = t % 3 := ⟨_, rfl⟩
    rw [← hc] at x0 hcb d0 d1 d2 d3 d4 d5 d6 d7 d8 d9 d10
    rw [← hp] at x1 hpb
    have HC := Lib.hid hc
    have HP := Lib.hid hp
    have hcz : (c : Int) < (n1 : Int) := by omega
    clear hc hp
    have lX := World.block_lt_of_cell? _ _ x0
    dsimp only at lX
    by_cases hp0 : p = 0
    · have hpd : decide ((p : Int) = 0) = true := by rw [hp0]; rfl
      have hpe : ((p : Int) == 0) = true := by rw [hp0]; rfl
      clear hp0
      gi_wp2
      have HBE := Lib.hid (trBelow_fresh (some ⟨b, off, none⟩) a2 a3 a4 a5 n1 c1 n2 c2 n3 c3 n4 c4 n5 c5 s (c : Int) W1 (Lib.hid (HS.out.keep HM.out.bel)))
      refine ⟨trivial, CallsIn.inRound l (callsIn_wide.2 (HBE.out.mono ?_))⟩
      rintro e w' ⟨abz, cbz, rfl, hrb, hbb, hfr⟩
      have HMw := Lib.hid (HM.out.keep hbb)
      obtain ⟨zs, hzs⟩ : ∃ zs, zs = belowO s (c : Int) := ⟨_, rfl⟩
      rw [← hzs] at hrb
      have hokc : okCo s (c : Int) = true := okCo_yes HY.out ⟨by omega, by rw [HCL.out]; omega⟩
      have HZE : Hid (zs = belowL s ((t / 3 : Nat) : Int) s.chgs.length) := Lib.hid (by rw [hzs, belowO_yes hokc, HC.out])
      have HZB : Hid (zs.length ≤ 16 ∧ ∀ i, i < zs.length → 0 ≤ fI zs i ∧ fI zs i < (n4 : Nat)) := Lib.hid (by
        rw [HZE.out]
        refine ⟨?_, fun i hi => ?_⟩
        · have h1 := belowL_len s ((t / 3 : Nat) : Int) s.chgs.length
          have h2 := HOK.out.n5
          omega
        · have h1 := belowL_bd s ((t / 3 : Nat) : Int) s.chgs.length i hi
          exact ⟨h1.1, by rw [← HL4.out]; exact h1.2⟩)
      have HZ : Hid (pre.map (fun (y : PlAt n1) => y.1) = List.range pre.length → t = pre.length → zs = belowL s ((t / 3 : Nat) : Int) s.chgs.length) := Lib.hid (fun _ _ => HZE.out)
      rw [hokc]
      obtain ⟨nb, hnb⟩ : ∃ nb, nb = zs.length := ⟨_, rfl⟩
      have HNB : Hid (zs.length = nb) := Lib.hid hnb.symm
      rw [← hzs, ← hnb]
      obtain ⟨ab0, cb0, oc0, _, _⟩ := HMw.out.ob
      have c50 := oc0.cell (i := 0) (by omega)
      have f50 := oc0.frozen 0
      have HMc := Lib.hid (HMw.out.setBelow abz nb cbz zs hnb hrb (fun h0 x hx => by
        obtain ⟨b', off', hA', hlt', _⟩ := hrb h0
        have h1 : W1.heap.size ≤ b' := hfr ⟨b', off', none⟩ hA'
        rw [hA'] at hx
        cases hx
        have h2 := HRR.out
        obtain ⟨_, _, o', _, _⟩ := HM.out.ob
        have h3 := o'.lt
        refine ⟨hlt', fun e => ?_, ?_, ?_⟩
        · have := (HM.out.own_ge e).2
          dsimp only at this
          omega
        · dsimp only; omega
        · dsimp only; omega))
      have hd0 : Mod (fun j => v.ownBlock = some j ∨ j = R ∨ j = R + 1) W1 (w'.setCell ⟨R + 1, 0, none⟩ (.slice abz nb cbz)) := (mod_then (Mod.refl _ W1) hbb).setCell (p := ⟨R + 1, 0, none⟩) (.inl (.inr (.inr rfl))) _
      have HD := Lib.hid hd0
      have HRZ : Hid (Rd 1 encI (w'.setCell ⟨R + 1, 0, none⟩ (.slice abz nb cbz)) abz zs) := Lib.hid (by
        obtain ⟨ab1, cb1, o1, r1, _⟩ := HMc.out.ob
        have h1 := o1.cell (i := 0) (by omega)
        have h2 := World.cell?_setCell_same w' ⟨R + 1, 0, none⟩ (.slice abz nb cbz) c50
        rw [h2] at h1
        injection h1 with h1
        injection h1 with h1 _ _
        subst h1
        exact r1)
      have HVCc : Hid (∀ q, v.ownBlock = some q → q < (w'.setCell ⟨R + 1, 0, none⟩ (.slice abz nb cbz)).heap.size) := Lib.hid (fun q hq => (HMc.out.own_ge hq).2)
      have HOBc : Hid (R + 2 ≤ (w'.setCell ⟨R + 1, 0, none⟩ (.slice abz nb cbz)).heap.size) := Lib.hid (by obtain ⟨_, _, o, _, _⟩ := HMc.out.ob; have := o.lt; omega)
      have xc0 : (w'.setCell ⟨R + 1, 0, none⟩ (.slice abz nb cbz)).cell? ⟨X, 0, none⟩ = some (.int .i64 (c : Nat)) := (hd0.cell (p := ⟨X, 0, none⟩) lX (by have := HXN.out; exact this)).trans x0
      have xc1 : (w'.setCell ⟨R + 1, 0, none⟩ (.slice abz nb cbz)).cell? ⟨X, 1, none⟩ = some (.int .i64 (p : Nat)) := (hd0.cell (p := ⟨X, 1, none⟩) lX (by have := HXN.out; exact this)).trans x1
      clear hrb hbb hfr hzs hokc hnb oc0 hd0 HMw HBE x0 x1 k0 k1 k2 k3 k4
      gi_wp2
      generalize w'.setCell ⟨R + 1, 0, none⟩ (.slice abz nb cbz) = Wc at *
      clear c50 f50 hpd hpe
      have kk3 := HMc.out.k3
      refine ⟨trivial, CallsIn.inRound l (callsIn_wide.2 ((limChoose_any w.heap.size X a4 n4 c4 s p hpb HL4.out hn4m HPH abz nb cbz zs Wc HRZ HNB (by have := HZB.out.1; have := HNB.out; omega) (Lib.hid (fun i hi => HZB.out.2 i (by rw [HNB.out]; exact hi))) kk3 xc1 (Lib.hid (HR4.out.keep HMc.out.bel))).mono ?_))⟩
      rintro e W2 ⟨v7, rfl, hL7, hb2⟩
      obtain ⟨a7, c7, hv7⟩ := hL7.shape
      obtain ⟨ms, hms⟩ : ∃ ms, ms = zs.filter (usesB s p) := ⟨_, rfl⟩
      rw [← hms] at hv7 hL7
      have HMS := Lib.hid hms
      obtain ⟨n7, hn7⟩ : ∃ n7, n7 = ms.length := ⟨_, rfl⟩
      rw [← hn7] at hv7
      have HN7 := Lib.hid hn7
      subst hv7
      have HL7 := Lib.hid hL7
      have HM2 := Lib.hid (HMc.out.keep hb2)
      have HD2 := Lib.hid (mod_then HD.out hb2)
      have xd0 := (hb2.cell (p := ⟨X, 0, none⟩) (World.block_lt_of_cell? _ _ xc0)).trans xc0
      have HWc := Lib.hid hb2.size
      clear kk3 xc0 xc1 hL7 hb2 hms hn7 HMc HD
      by_cases hz7 : n7 = 0
      · have hz7z : ¬ (0 : Int) < (n7 : Int) := by omega
        have HP2 : Hid (KeepsFrom w3.heap.size W1 W2 ∧ Below w.heap.size W1 W2 ∧ RwI w (some ⟨b, off, none⟩) n1 c1 a2 n2 c2 a3 n3 c3 a4 n4 c4 a5 n5 c5 R s (pre ++ [(⟨t, ht⟩ : PlAt n1)]) W2) := Lib.hid (by
          refine ⟨keepsFrom_mod1 HD2.out _ HCE.out, HD2.out.below HSW.out (fun j _ h => HGE.out j h), v, hs, rs, zs, Lib.hid ⟨?_, HZB.out⟩, Lib.hid (fun ho => ?_), HM2.out⟩
          · have := HBD.out; rw [List.length_append]; exact Nat.le_trans this (by omega)
          · rw [List.length_append] at ho
            obtain ⟨h1, h2⟩ := snoc_range HSN.out ho
            have h3 := (HORD.out h1).1
            have h4 := HZ.out h1 h2
            have h5 : (memL s t).length = 0 := by
              unfold memL
              rw [← HC.out, ← HP.out, HC.out, ← h4, ← HMS.out, ← HN7.out]
              exact hz7
            rw [List.length_append, List.length_singleton, ← h2, rowsL_no h5, h3, ← h2]
            refine ⟨rfl, fun h6 => ?_⟩
            rw [h4]
            congr 2
            omega)
        clear hz7
        gi_wp2
        exact HP2.out
      · have hz7z : (0 : Int) < (n7 : Int) := by omega
        have HFR := Lib.hid (ownL_fresh HL7.out)
        have HPU := Lib.hid (HM2.out.rw)
        have kr := HM2.out.orr.cell (i := 0) (by omega)
        have kz0 := HM2.out.k0
        have hb := HM2.out.bel
        have e0 := (hb.cell (p := ⟨b, off + c * 11, none⟩) hbl).trans d0
        have e1 := (hb.cell (p := ⟨b, off + c * 11 + 1, none⟩) hbl).trans d1
        have e2 := (hb.cell (p := ⟨b, off + c * 11 + 2, none⟩) hbl).trans d2
        have e3 := (hb.cell (p := ⟨b, off + c * 11 + 3, none⟩) hbl).trans d3
        have e4 := (hb.cell (p := ⟨b, off + c * 11 + 4, none⟩) hbl).trans d4
        have e5 := (hb.cell (p := ⟨b, off + c * 11 + 5, none⟩) hbl).trans d5
        have e6 := (hb.cell (p := ⟨b, off + c * 11 + 6, none⟩) hbl).trans d6
        have e7 := (hb.cell (p := ⟨b, off + c * 11 + 7, none⟩) hbl).trans d7
        have e8 := (hb.cell (p := ⟨b, off + c * 11 + 8, none⟩) hbl).trans d8
        have e9 := (hb.cell (p := ⟨b, off + c * 11 + 9, none⟩) hbl).trans d9
        have e10 := (hb.cell (p := ⟨b, off + c * 11 + 10, none⟩) hbl).trans d10
        have HRD7 : Hid (Rd 1 encI W2 a7 ms) := Lib.hid (by
          obtain ⟨a, c', hv, hr⟩ := HL7.out.rd
          injection hv with h1 _ _
          rw [h1]; exact hr)
        have HOB2 : Hid (R + 2 ≤ W2.heap.size) := Lib.hid (by obtain ⟨_, _, o, _, _⟩ := HM2.out.ob; have := o.lt; omega)
        have HVC : Hid (∀ q, v.ownBlock = some q → q < Wc.heap.size) := HVCc
        clear hb d0 d1 d2 d3 d4 d5 d6 d7 d8 d9 d10 hz7 hbl
        gi_wp2
        refine region_round_z (S := fun w' => w'.cell? ⟨R, 0, none⟩ = some v ∧ w'.cell? ⟨w.heap.size, 0, none⟩ = some (.slice (some ⟨b, off, none⟩) n1 c1) ∧ w'.cell? ⟨X, 0, none⟩ = some (.int .i64 (c : Nat)) ∧ w'.cell? ⟨b, off + c * 11, none⟩ = some (.string g.name) ∧ w'.cell? ⟨b, off + c * 11 + 1, none⟩ = some (.int .i64 g.up) ∧ w'.cell? ⟨b, off + c * 11 + 2, none⟩ = some (.int .i64 g.limit) ∧ w'.cell? ⟨b, off + c * 11 + 3, none⟩ = some (.int .i64 g.neutral) ∧ w'.cell? ⟨b, off + c * 11 + 4, none⟩ = some (.int .i64 g.rated) ∧ w'.cell? ⟨b, off + c * 11 + 5, none⟩ = some (.int .i64 g.heat) ∧ w'.cell? ⟨b, off + c * 11 + 6, none⟩ = some (.int .i64 g.amb) ∧ w'.cell? ⟨b, off + c * 11 + 7, none⟩ = some (.int .i64 g.most) ∧ w'.cell? ⟨b, off + c * 11 + 8, none⟩ = some (.int .i64 g.gain) ∧ w'.cell? ⟨b, off + c * 11 + 9, none⟩ = some (.int .i64 g.loss) ∧ w'.cell? ⟨b, off + c * 11 + 10, none⟩ = some (.int .i64 g.den)) [11, 12] (by kernel_rfl) (by kernel_rfl) ⟨kr, kz0, xd0, e0, e1, e2, e3, e4, e5, e6, e7, e8, e9, e10⟩ (fun hHeld => ?_)
        · clear kr kz0 xd0 e0 e1 e2 e3 e4 e5 e6 e7 e8 e9 e10
          refine wpAnyZ_take (i := 0) (v := v) [11, 12] rfl (by kernel_rfl) (by kernel_rfl) (by kernel_rfl) (by kernel_rfl) (fun _ _ _ h => absurd h.1 (by simp)) (Or.inl ⟨by rfl, fun w' hSw => ?_⟩) hHeld ?_
          · obtain ⟨s0, s1, s2, t0, t1, t2, t3, t4, t5, t6, t7, t8, t9, t10⟩ := hSw
            clear hHeld
            go_simp
          simp only [Act.put, List.getElem_toArray, List.getElem_cons_zero, List.getElem_cons_succ, List.setIfInBounds_toArray, List.set_cons_zero, List.set_cons_succ]
          refine wpAnyZ_take (i := 1) (v := .pointer (some ⟨w.heap.size, 0, none⟩)) [2, 5, 6, 7, 9, 10, 11, 12] rfl (by kernel_rfl) (by kernel_rfl) (by kernel_rfl) (by kernel_rfl) (fun _ _ _ h => absurd h.1 (by simp)) (Or.inl ⟨by rfl, fun w' hSw => ?_⟩) hHeld ?_
          · obtain ⟨s0, s1, s2, t0, t1, t2, t3, t4, t5, t6, t7, t8, t9, t10⟩ := hSw
            clear hHeld
            go_simp
          simp only [Act.put, List.getElem_toArray, List.getElem_cons_zero, List.getElem_cons_succ, List.setIfInBounds_toArray, List.set_cons_zero, List.set_cons_succ]
          refine wpAnyZ_take (i := 2) (v := .slice (some ⟨b, off, none⟩) n1 c1) [5, 6, 7, 9, 10, 11, 12] rfl (by kernel_rfl) (by kernel_rfl) (by kernel_rfl) (by kernel_rfl) (fun _ _ _ h => absurd h.1 (by simp)) (Or.inl ⟨by rfl, fun w' hSw => ?_⟩) hHeld ?_
          · obtain ⟨s0, s1, s2, t0, t1, t2, t3, t4, t5, t6, t7, t8, t9, t10⟩ := hSw
            clear hHeld
            go_simp
          simp only [Act.put, List.getElem_toArray, List.getElem_cons_zero, List.getElem_cons_succ, List.setIfInBounds_toArray, List.set_cons_zero, List.set_cons_succ]
          refine wpAnyZ_take (i := 3) (v := .pointer (some ⟨X, 0, none⟩)) [4, 5, 6, 7, 9, 10, 11, 12] rfl (by kernel_rfl) (by kernel_rfl) (by kernel_rfl) (by kernel_rfl) (fun _ _ _ h => absurd h.1 (by simp)) (Or.inl ⟨by rfl, fun w' hSw => ?_⟩) hHeld ?_
          · obtain ⟨s0, s1, s2, t0, t1, t2, t3, t4, t5, t6, t7, t8, t9, t10⟩ := hSw
            clear hHeld
            go_simp
          simp only [Act.put, List.getElem_toArray, List.getElem_cons_zero, List.getElem_cons_succ, List.setIfInBounds_toArray, List.set_cons_zero, List.set_cons_succ]
          refine wpAnyZ_take (i := 4) (v := .int .i64 (c : Nat)) [5, 6, 7, 9, 10, 11, 12] rfl (by kernel_rfl) (by kernel_rfl) (by kernel_rfl) (by kernel_rfl) (fun _ _ _ h => absurd h.1 (by simp)) (Or.inl ⟨by rfl, fun w' hSw => ?_⟩) hHeld ?_
          · obtain ⟨s0, s1, s2, t0, t1, t2, t3, t4, t5, t6, t7, t8, t9, t10⟩ := hSw
            clear hHeld
            go_simp
          simp only [Act.put, List.getElem_toArray, List.getElem_cons_zero, List.getElem_cons_succ, List.setIfInBounds_toArray, List.set_cons_zero, List.set_cons_succ]
          refine wpAnyZ_take (i := 5) (v := .pointer (some ⟨b, off + c * 11, none⟩)) [6, 7, 9, 10, 11, 12] rfl (by kernel_rfl) (by kernel_rfl) (by kernel_rfl) (by kernel_rfl) (fun _ _ _ h => absurd h.1 (by simp)) (Or.inl ⟨by rfl, fun w' hSw => ?_⟩) hHeld ?_
          · obtain ⟨s0, s1, s2, t0, t1, t2, t3, t4, t5, t6, t7, t8, t9, t10⟩ := hSw
            clear hHeld
            go_simp
          simp only [Act.put, List.getElem_toArray, List.getElem_cons_zero, List.getElem_cons_succ, List.setIfInBounds_toArray, List.set_cons_zero, List.set_cons_succ]
          refine wpAnyZ_take (i := 6) (v := .agg #[.string g.name, .int .i64 g.up, .int .i64 g.limit, .int .i64 g.neutral, .int .i64 g.rated, .int .i64 g.heat, .int .i64 g.amb, .int .i64 g.most, .int .i64 g.gain, .int .i64 g.loss, .int .i64 g.den]) [7, 9, 10, 11, 12] rfl (by kernel_rfl) (by kernel_rfl) (by kernel_rfl) (by kernel_rfl) (fun _ _ _ h => absurd h.1 (by simp)) (Or.inl ⟨by rfl, fun w' hSw => ?_⟩) hHeld ?_
          · obtain ⟨s0, s1, s2, t0, t1, t2, t3, t4, t5, t6, t7, t8, t9, t10⟩ := hSw
            clear hHeld
            go_simp
          simp only [Act.put, List.getElem_toArray, List.getElem_cons_zero, List.getElem_cons_succ, List.setIfInBounds_toArray, List.set_cons_zero, List.set_cons_succ]
          refine wpAnyZ_take (i := 8) (v := .slice a7 n7 c7) [9, 10, 11, 12] rfl (by kernel_rfl) (by kernel_rfl) (by kernel_rfl) (by kernel_rfl) (fun _ _ _ h => absurd h.1 (by simp)) (Or.inl ⟨by rfl, fun w' hSw => ?_⟩) hHeld ?_
          · obtain ⟨s0, s1, s2, t0, t1, t2, t3, t4, t5, t6, t7, t8, t9, t10⟩ := hSw
            clear hHeld
            go_simp
          simp only [Act.put, List.getElem_toArray, List.getElem_cons_zero, List.getElem_cons_succ, List.setIfInBounds_toArray, List.set_cons_zero, List.set_cons_succ]
          refine wpAnyZ_one (i := 7) (by kernel_rfl) rfl (fun K' hK => ?_)
          go_simp
          refine (limOf_ok g HOC.out W2.drew).mono ?_
          rintro e w4 ⟨rfl, hb4⟩
          have HB4 := Lib.hid ((below_drew W2).trans hb4)
          have hS4 := cells14 hb4 hHeld
          clear hb4
          refine hK.out _ _ ?_ (fun hHeld' => ?_)
          · exact hS4
          clear hK K' hHeld
          have hHeld := hHeld'
          clear hHeld'
          try simp only [Act.put, List.getElem_toArray, List.getElem_cons_zero, List.getElem_cons_succ, List.setIfInBounds_toArray, List.set_cons_zero, List.set_cons_succ]
          clear hS4
          have HRW := Lib.hid (HPU.out.keep HB4.out)
          obtain ⟨ap, v', w5, av, aw, HL5, HM5, HSH, HGE5, HNE⟩ := app_row HRW.out (by have h1 := HB4.out.size; have h3 := HOB2.out; omega) (by have h1 := HRW.out.len; have h2 := HBD.out; have h3 := HPL.out; omega) (limV g) a7 n7 c7 ms HN7.out (HRD7.out.keep HB4.out) (fun x hx => ⟨Nat.lt_of_lt_of_le (HFR.out x hx).2 HB4.out.size, fun e => by
            have h1 := HFR.out x hx
            have h2 := HVC.out _ e
            omega⟩)
          refine wpAnyZ_one (i := 9) (by kernel_rfl) rfl (fun K' hK => ?_)
          go_simp
          refine hK.out _ _ ?_ (fun hHeld' => ?_)
          · exact hHeld
          clear hK K' hHeld
          have hHeld := hHeld'
          clear hHeld'
          try simp only [Act.put, List.getElem_toArray, List.getElem_cons_zero, List.getElem_cons_succ, List.setIfInBounds_toArray, List.set_cons_zero, List.set_cons_succ]
          refine wpAnyZ_one (i := 10) (by kernel_rfl) rfl (fun K' hK => ?_)
          go_simp
          refine hK.out _ _ ?_ (fun hHeld' => ?_)
          · exact cells14 ((Below.refl _ _).alloc (Nat.le_refl _) _) hHeld
          clear hK K' hHeld
          have hHeld := hHeld'
          clear hHeld'
          try simp only [Act.put, List.getElem_toArray, List.getElem_cons_zero, List.getElem_cons_succ, List.setIfInBounds_toArray, List.set_cons_zero, List.set_cons_succ]
          clear hHeld
          refine wpAnyZ_last (i := 11) (by kernel_rfl) rfl (by kernel_rfl) (fun K' hK => ?_)
          rw [if_pos (by rfl)]
          refine append_go rfl rfl ap av aw ?_
          refine hK.out _ _ ?_
          clear hK K'
          try simp only [Act.put, List.getElem_toArray, List.getElem_cons_zero, List.getElem_cons_succ, List.setIfInBounds_toArray, List.set_cons_zero, List.set_cons_succ]
          have HO5 := Lib.hid (((HM2.out.orr.keep HB4.out HM2.out.orr.lt)).mod HM5.out (fun h => by have := (HM2.out.own_ge h).1; omega))
          have cr5 := HO5.out.cell (i := 0) (by omega)
          have fr5 := HO5.out.frozen 0
          obtain ⟨a5', c5', hv5⟩ := HSH.out
          have HPP := Lib.hid ((HM2.out.keep HB4.out).push HL5.out HM5.out HNE.out (fun a ha => by have h1 := (HFR.out a ha).1; have h2 := HOBc.out; omega))
          clear ap av aw
          subst hv5
          refine wpAnyZ_last (i := 12) (by kernel_rfl) rfl (by kernel_rfl) (fun K' hK => ?_)
          go_simp
          refine hK.out _ _ ?_
          clear hK K'
          try simp only [Act.put, List.getElem_toArray, List.getElem_cons_zero, List.getElem_cons_succ, List.setIfInBounds_toArray, List.set_cons_zero, List.set_cons_succ]
          refine wpAnyZ_done (by kernel_rfl) ⟨rfl, ?_⟩ _
          have HMF := Lib.hid ((mod_then HD2.out HB4.out).trans (HPP.out.2.mono (fun j _ h => h.elim .inl (fun h => .inr (.inl h)))))
          refine ⟨keepsFrom_mod1 HMF.out _ HCE.out, HMF.out.below HSW.out (fun j _ h => HGE.out j h), _, _, _, zs, Lib.hid ⟨?_, HZB.out⟩, Lib.hid (fun ho => ?_), HPP.out.1⟩
          · have := HBD.out; rw [List.length_append, List.length_append]; exact Nat.add_le_add_right this _
          · rw [List.length_append] at ho
            obtain ⟨h1, h2⟩ := snoc_range HSN.out ho
            have h3 := (HORD.out h1).1
            have h4 := HZ.out h1 h2
            have h7 : memL s t = ms := by
              unfold memL
              rw [HMS.out, h4, HP.out]
            have h5 : ¬ (memL s t).length = 0 := by
              rw [h7, ← HN7.out]
              omega
            rw [List.length_append, List.length_singleton, ← h2, rowsL_yes h5, h3, ← h2, h7, HLIM.out]
            refine ⟨rfl, fun h6 => ?_⟩
            rw [h4]
            congr 2
            omega

    · have hpd : decide ((p : Int) = 0) = false := by simpa using hp0
      have hpe : ((p : Int) == 0) = false := by simpa using hp0
      have HZ : Hid (pre.map (fun (y : PlAt n1) => y.1) = List.range pre.length → t = pre.length → ys = belowL s ((t / 3 : Nat) : Int) s.chgs.length) := Lib.hid (fun h1 h2 => by
        have h3 := (HORD.out h1).2
        rw [← h2] at h3
        exact h3 (by rw [← HP.out]; exact hp0))
      obtain ⟨abz, cbz, oc0, rz, _⟩ := HM.out.ob
      have HZB := HYB
      obtain ⟨nb, hnb⟩ : ∃ nb, nb = ys.length := ⟨_, rfl⟩
      have HNB : Hid (ys.length = nb) := Lib.hid hnb.symm
      rw [← hnb] at oc0
      have c50 := oc0.cell (i := 0) (by omega)
      have f50 := oc0.frozen 0
      have HMc := HM
      have HD : Hid (Mod (fun j => v.ownBlock = some j ∨ j = R ∨ j = R + 1) W1 W1) := Lib.hid (Mod.refl _ W1)
      have HRZ := Lib.hid rz
      have HVCc : Hid (∀ q, v.ownBlock = some q → q < W1.heap.size) := Lib.hid (fun q hq => (HM.out.own_ge hq).2)
      have HOBc : Hid (R + 2 ≤ W1.heap.size) := Lib.hid (by have := oc0.lt; omega)
      have xc0 := x0
      have xc1 := x1
      clear rz hnb oc0 x0 x1 k0 k1 k2 k3 k4 hp0
      gi_wp2
      clear c50 f50 hpd hpe
      have kk3 := HMc.out.k3
      refine ⟨trivial, CallsIn.inRound l (callsIn_wide.2 ((limChoose_any w.heap.size X a4 n4 c4 s p hpb HL4.out hn4m HPH abz nb cbz ys W1 HRZ HNB (by have := HZB.out.1; have := HNB.out; omega) (Lib.hid (fun i hi => HZB.out.2 i (by rw [HNB.out]; exact hi))) kk3 xc1 (Lib.hid (HR4.out.keep HMc.out.bel))).mono ?_))⟩
      rintro e W2 ⟨v7, rfl, hL7, hb2⟩
      obtain ⟨a7, c7, hv7⟩ := hL7.shape
      obtain ⟨ms, hms⟩ : ∃ ms, ms = ys.filter (usesB s p) := ⟨_, rfl⟩
      rw [← hms] at hv7 hL7
      have HMS := Lib.hid hms
      obtain ⟨n7, hn7⟩ : ∃ n7, n7 = ms.length := ⟨_, rfl⟩
      rw [← hn7] at hv7
      have HN7 := Lib.hid hn7
      subst hv7
      have HL7 := Lib.hid hL7
      have HM2 := Lib.hid (HMc.out.keep hb2)
      have HD2 := Lib.hid (mod_then HD.out hb2)
      have xd0 := (hb2.cell (p := ⟨X, 0, none⟩) (World.block_lt_of_cell? _ _ xc0)).trans xc0
      have HWc := Lib.hid hb2.size
      clear kk3 xc0 xc1 hL7 hb2 hms hn7 HMc HD
      by_cases hz7 : n7 = 0
      · have hz7z : ¬ (0 : Int) < (n7 : Int) := by omega
        have HP2 : Hid (KeepsFrom w3.heap.size W1 W2 ∧ Below w.heap.size W1 W2 ∧ RwI w (some ⟨b, off, none⟩) n1 c1 a2 n2 c2 a3 n3 c3 a4 n4 c4 a5 n5 c5 R s (pre ++ [(⟨t, ht⟩ : PlAt n1)]) W2) := Lib.hid (by
          refine ⟨keepsFrom_mod1 HD2.out _ HCE.out, HD2.out.below HSW.out (fun j _ h => HGE.out j h), v, hs, rs, ys, Lib.hid ⟨?_, HZB.out⟩, Lib.hid (fun ho => ?_), HM2.out⟩
          · have := HBD.out; rw [List.length_append]; exact Nat.le_trans this (by omega)
          · rw [List.length_append] at ho
            obtain ⟨h1, h2⟩ := snoc_range HSN.out ho
            have h3 := (HORD.out h1).1
            have h4 := HZ.out h1 h2
            have h5 : (memL s t).length = 0 := by
              unfold memL
              rw [← HC.out, ← HP.out, HC.out, ← h4, ← HMS.out, ← HN7.out]
              exact hz7
            rw [List.length_append, List.length_singleton, ← h2, rowsL_no h5, h3, ← h2]
            refine ⟨rfl, fun h6 => ?_⟩
            rw [h4]
            congr 2
            omega)
        clear hz7
        gi_wp2
        exact HP2.out
      · have hz7z : (0 : Int) < (n7 : Int) := by omega
        have HFR := Lib.hid (ownL_fresh HL7.out)
        have HPU := Lib.hid (HM2.out.rw)
        have kr := HM2.out.orr.cell (i := 0) (by omega)
        have kz0 := HM2.out.k0
        have hb := HM2.out.bel
        have e0 := (hb.cell (p := ⟨b, off + c * 11, none⟩) hbl).trans d0
        have e1 := (hb.cell (p := ⟨b, off + c * 11 + 1, none⟩) hbl).trans d1
        have e2 := (hb.cell (p := ⟨b, off + c * 11 + 2, none⟩) hbl).trans d2
        have e3 := (hb.cell (p := ⟨b, off + c * 11 + 3, none⟩) hbl).trans d3
        have e4 := (hb.cell (p := ⟨b, off + c * 11 + 4, none⟩) hbl).trans d4
        have e5 := (hb.cell (p := ⟨b, off + c * 11 + 5, none⟩) hbl).trans d5
        have e6 := (hb.cell (p := ⟨b, off + c * 11 + 6, none⟩) hbl).trans d6
        have e7 := (hb.cell (p := ⟨b, off + c * 11 + 7, none⟩) hbl).trans d7
        have e8 := (hb.cell (p := ⟨b, off + c * 11 + 8, none⟩) hbl).trans d8
        have e9 := (hb.cell (p := ⟨b, off + c * 11 + 9, none⟩) hbl).trans d9
        have e10 := (hb.cell (p := ⟨b, off + c * 11 + 10, none⟩) hbl).trans d10
        have HRD7 : Hid (Rd 1 encI W2 a7 ms) := Lib.hid (by
          obtain ⟨a, c', hv, hr⟩ := HL7.out.rd
          injection hv with h1 _ _
          rw [h1]; exact hr)
        have HOB2 : Hid (R + 2 ≤ W2.heap.size) := Lib.hid (by obtain ⟨_, _, o, _, _⟩ := HM2.out.ob; have := o.lt; omega)
        have HVC : Hid (∀ q, v.ownBlock = some q → q < W1.heap.size) := HVCc
        clear hb d0 d1 d2 d3 d4 d5 d6 d7 d8 d9 d10 hz7 hbl
        gi_wp2
        refine region_round_z (S := fun w' => w'.cell? ⟨R, 0, none⟩ = some v ∧ w'.cell? ⟨w.heap.size, 0, none⟩ = some (.slice (some ⟨b, off, none⟩) n1 c1) ∧ w'.cell? ⟨X, 0, none⟩ = some (.int .i64 (c : Nat)) ∧ w'.cell? ⟨b, off + c * 11, none⟩ = some (.string g.name) ∧ w'.cell? ⟨b, off + c * 11 + 1, none⟩ = some (.int .i64 g.up) ∧ w'.cell? ⟨b, off + c * 11 + 2, none⟩ = some (.int .i64 g.limit) ∧ w'.cell? ⟨b, off + c * 11 + 3, none⟩ = some (.int .i64 g.neutral) ∧ w'.cell? ⟨b, off + c * 11 + 4, none⟩ = some (.int .i64 g.rated) ∧ w'.cell? ⟨b, off + c * 11 + 5, none⟩ = some (.int .i64 g.heat) ∧ w'.cell? ⟨b, off + c * 11 + 6, none⟩ = some (.int .i64 g.amb) ∧ w'.cell? ⟨b, off + c * 11 + 7, none⟩ = some (.int .i64 g.most) ∧ w'.cell? ⟨b, off + c * 11 + 8, none⟩ = some (.int .i64 g.gain) ∧ w'.cell? ⟨b, off + c * 11 + 9, none⟩ = some (.int .i64 g.loss) ∧ w'.cell? ⟨b, off + c * 11 + 10, none⟩ = some (.int .i64 g.den)) [11, 12] (by kernel_rfl) (by kernel_rfl) ⟨kr, kz0, xd0, e0, e1, e2, e3, e4, e5, e6, e7, e8, e9, e10⟩ (fun hHeld => ?_)
        · clear kr kz0 xd0 e0 e1 e2 e3 e4 e5 e6 e7 e8 e9 e10
          refine wpAnyZ_take (i := 0) (v := v) [11, 12] rfl (by kernel_rfl) (by kernel_rfl) (by kernel_rfl) (by kernel_rfl) (fun _ _ _ h => absurd h.1 (by simp)) (Or.inl ⟨by rfl, fun w' hSw => ?_⟩) hHeld ?_
          · obtain ⟨s0, s1, s2, t0, t1, t2, t3, t4, t5, t6, t7, t8, t9, t10⟩ := hSw
            clear hHeld
            go_simp
          simp only [Act.put, List.getElem_toArray, List.getElem_cons_zero, List.getElem_cons_succ, List.setIfInBounds_toArray, List.set_cons_zero, List.set_cons_succ]
          refine wpAnyZ_take (i := 1) (v := .pointer (some ⟨w.heap.size, 0, none⟩)) [2, 5, 6, 7, 9, 10, 11, 12] rfl (by kernel_rfl) (by kernel_rfl) (by kernel_rfl) (by kernel_rfl) (fun _ _ _ h => absurd h.1 (by simp)) (Or.inl ⟨by rfl, fun w' hSw => ?_⟩) hHeld ?_
          · obtain ⟨s0, s1, s2, t0, t1, t2, t3, t4, t5, t6, t7, t8, t9, t10⟩ := hSw
            clear hHeld
            go_simp
          simp only [Act.put, List.getElem_toArray, List.getElem_cons_zero, List.getElem_cons_succ, List.setIfInBounds_toArray, List.set_cons_zero, List.set_cons_succ]
          refine wpAnyZ_take (i := 2) (v := .slice (some ⟨b, off, none⟩) n1 c1) [5, 6, 7, 9, 10, 11, 12] rfl (by kernel_rfl) (by kernel_rfl) (by kernel_rfl) (by kernel_rfl) (fun _ _ _ h => absurd h.1 (by simp)) (Or.inl ⟨by rfl, fun w' hSw => ?_⟩) hHeld ?_
          · obtain ⟨s0, s1, s2, t0, t1, t2, t3, t4, t5, t6, t7, t8, t9, t10⟩ := hSw
            clear hHeld
            go_simp
          simp only [Act.put, List.getElem_toArray, List.getElem_cons_zero, List.getElem_cons_succ, List.setIfInBounds_toArray, List.set_cons_zero, List.set_cons_succ]
          refine wpAnyZ_take (i := 3) (v := .pointer (some ⟨X, 0, none⟩)) [4, 5, 6, 7, 9, 10, 11, 12] rfl (by kernel_rfl) (by kernel_rfl) (by kernel_rfl) (by kernel_rfl) (fun _ _ _ h => absurd h.1 (by simp)) (Or.inl ⟨by rfl, fun w' hSw => ?_⟩) hHeld ?_
          · obtain ⟨s0, s1, s2, t0, t1, t2, t3, t4, t5, t6, t7, t8, t9, t10⟩ := hSw
            clear hHeld
            go_simp
          simp only [Act.put, List.getElem_toArray, List.getElem_cons_zero, List.getElem_cons_succ, List.setIfInBounds_toArray, List.set_cons_zero, List.set_cons_succ]
          refine wpAnyZ_take (i := 4) (v := .int .i64 (c : Nat)) [5, 6, 7, 9, 10, 11, 12] rfl (by kernel_rfl) (by kernel_rfl) (by kernel_rfl) (by kernel_rfl) (fun _ _ _ h => absurd h.1 (by simp)) (Or.inl ⟨by rfl, fun w' hSw => ?_⟩) hHeld ?_
          · obtain ⟨s0, s1, s2, t0, t1, t2, t3, t4, t5, t6, t7, t8, t9, t10⟩ := hSw
            clear hHeld
            go_simp
          simp only [Act.put, List.getElem_toArray, List.getElem_cons_zero, List.getElem_cons_succ, List.setIfInBounds_toArray, List.set_cons_zero, List.set_cons_succ]
          refine wpAnyZ_take (i := 5) (v := .pointer (some ⟨b, off + c * 11, none⟩)) [6, 7, 9, 10, 11, 12] rfl (by kernel_rfl) (by kernel_rfl) (by kernel_rfl) (by kernel_rfl) (fun _ _ _ h => absurd h.1 (by simp)) (Or.inl ⟨by rfl, fun w' hSw => ?_⟩) hHeld ?_
          · obtain ⟨s0, s1, s2, t0, t1, t2, t3, t4, t5, t6, t7, t8, t9, t10⟩ := hSw
            clear hHeld
            go_simp
          simp only [Act.put, List.getElem_toArray, List.getElem_cons_zero, List.getElem_cons_succ, List.setIfInBounds_toArray, List.set_cons_zero, List.set_cons_succ]
          refine wpAnyZ_take (i := 6) (v := .agg #[.string g.name, .int .i64 g.up, .int .i64 g.limit, .int .i64 g.neutral, .int .i64 g.rated, .int .i64 g.heat, .int .i64 g.amb, .int .i64 g.most, .int .i64 g.gain, .int .i64 g.loss, .int .i64 g.den]) [7, 9, 10, 11, 12] rfl (by kernel_rfl) (by kernel_rfl) (by kernel_rfl) (by kernel_rfl) (fun _ _ _ h => absurd h.1 (by simp)) (Or.inl ⟨by rfl, fun w' hSw => ?_⟩) hHeld ?_
          · obtain ⟨s0, s1, s2, t0, t1, t2, t3, t4, t5, t6, t7, t8, t9, t10⟩ := hSw
            clear hHeld
            go_simp
          simp only [Act.put, List.getElem_toArray, List.getElem_cons_zero, List.getElem_cons_succ, List.setIfInBounds_toArray, List.set_cons_zero, List.set_cons_succ]
          refine wpAnyZ_take (i := 8) (v := .slice a7 n7 c7) [9, 10, 11, 12] rfl (by kernel_rfl) (by kernel_rfl) (by kernel_rfl) (by kernel_rfl) (fun _ _ _ h => absurd h.1 (by simp)) (Or.inl ⟨by rfl, fun w' hSw => ?_⟩) hHeld ?_
          · obtain ⟨s0, s1, s2, t0, t1, t2, t3, t4, t5, t6, t7, t8, t9, t10⟩ := hSw
            clear hHeld
            go_simp
          simp only [Act.put, List.getElem_toArray, List.getElem_cons_zero, List.getElem_cons_succ, List.setIfInBounds_toArray, List.set_cons_zero, List.set_cons_succ]
          refine wpAnyZ_one (i := 7) (by kernel_rfl) rfl (fun K' hK => ?_)
          go_simp
          refine (limOf_ok g HOC.out W2.drew).mono ?_
          rintro e w4 ⟨rfl, hb4⟩
          have HB4 := Lib.hid ((below_drew W2).trans hb4)
          have hS4 := cells14 hb4 hHeld
          clear hb4
          refine hK.out _ _ ?_ (fun hHeld' => ?_)
          · exact hS4
          clear hK K' hHeld
          have hHeld := hHeld'
          clear hHeld'
          try simp only [Act.put, List.getElem_toArray, List.getElem_cons_zero, List.getElem_cons_succ, List.setIfInBounds_toArray, List.set_cons_zero, List.set_cons_succ]
          clear hS4
          have HRW := Lib.hid (HPU.out.keep HB4.out)
          obtain ⟨ap, v', w5, av, aw, HL5, HM5, HSH, HGE5, HNE⟩ := app_row HRW.out (by have h1 := HB4.out.size; have h3 := HOB2.out; omega) (by have h1 := HRW.out.len; have h2 := HBD.out; have h3 := HPL.out; omega) (limV g) a7 n7 c7 ms HN7.out (HRD7.out.keep HB4.out) (fun x hx => ⟨Nat.lt_of_lt_of_le (HFR.out x hx).2 HB4.out.size, fun e => by
            have h1 := HFR.out x hx
            have h2 := HVC.out _ e
            omega⟩)
          refine wpAnyZ_one (i := 9) (by kernel_rfl) rfl (fun K' hK => ?_)
          go_simp
          refine hK.out _ _ ?_ (fun hHeld' => ?_)
          · exact hHeld
          clear hK K' hHeld
          have hHeld := hHeld'
          clear hHeld'
          try simp only [Act.put, List.getElem_toArray, List.getElem_cons_zero, List.getElem_cons_succ, List.setIfInBounds_toArray, List.set_cons_zero, List.set_cons_succ]
          refine wpAnyZ_one (i := 10) (by kernel_rfl) rfl (fun K' hK => ?_)
          go_simp
          refine hK.out _ _ ?_ (fun hHeld' => ?_)
          · exact cells14 ((Below.refl _ _).alloc (Nat.le_refl _) _) hHeld
          clear hK K' hHeld
          have hHeld := hHeld'
          clear hHeld'
          try simp only [Act.put, List.getElem_toArray, List.getElem_cons_zero, List.getElem_cons_succ, List.setIfInBounds_toArray, List.set_cons_zero, List.set_cons_succ]
          clear hHeld
          refine wpAnyZ_last (i := 11) (by kernel_rfl) rfl (by kernel_rfl) (fun K' hK => ?_)
          rw [if_pos (by rfl)]
          refine append_go rfl rfl ap av aw ?_
          refine hK.out _ _ ?_
          clear hK K'
          try simp only [Act.put, List.getElem_toArray, List.getElem_cons_zero, List.getElem_cons_succ, List.setIfInBounds_toArray, List.set_cons_zero, List.set_cons_succ]
          have HO5 := Lib.hid (((HM2.out.orr.keep HB4.out HM2.out.orr.lt)).mod HM5.out (fun h => by have := (HM2.out.own_ge h).1; omega))
          have cr5 := HO5.out.cell (i := 0) (by omega)
          have fr5 := HO5.out.frozen 0
          obtain ⟨a5', c5', hv5⟩ := HSH.out
          have HPP := Lib.hid ((HM2.out.keep HB4.out).push HL5.out HM5.out HNE.out (fun a ha => by have h1 := (HFR.out a ha).1; have h2 := HOBc.out; omega))
          clear ap av aw
          subst hv5
          refine wpAnyZ_last (i := 12) (by kernel_rfl) rfl (by kernel_rfl) (fun K' hK => ?_)
          go_simp
          refine hK.out _ _ ?_
          clear hK K'
          try simp only [Act.put, List.getElem_toArray, List.getElem_cons_zero, List.getElem_cons_succ, List.setIfInBounds_toArray, List.set_cons_zero, List.set_cons_succ]
          refine wpAnyZ_done (by kernel_rfl) ⟨rfl, ?_⟩ _
          have HMF := Lib.hid ((mod_then HD2.out HB4.out).trans (HPP.out.2.mono (fun j _ h => h.elim .inl (fun h => .inr (.inl h)))))
          refine ⟨keepsFrom_mod1 HMF.out _ HCE.out, HMF.out.below HSW.out (fun j _ h => HGE.out j h), _, _, _, ys, Lib.hid ⟨?_, HZB.out⟩, Lib.hid (fun ho => ?_), HPP.out.1⟩
          · have := HBD.out; rw [List.length_append, List.length_append]; exact Nat.add_le_add_right this _
          · rw [List.length_append] at ho
            obtain ⟨h1, h2⟩ := snoc_range HSN.out ho
            have h3 := (HORD.out h1).1
            have h4 := HZ.out h1 h2
            have h7 : memL s t = ms := by
              unfold memL
              rw [HMS.out, h4, HP.out]
            have h5 : ¬ (memL s t).length = 0 := by
              rw [h7, ← HN7.out]
              omega
            rw [List.length_append, List.length_singleton, ← h2, rowsL_yes h5, h3, ← h2, h7, HLIM.out]
            refine ⟨rfl, fun h6 => ?_⟩
            rw [h4]
            congr 2
            omega

  case done =>
    intro D ys0 W1 hD hS hi hdf
    obtain ⟨v, hs, rs, ys, Hbd, Hord, m⟩ := hi
    have hlen : ys0.length = n1 * 3 := by have := congrArg List.length hS; simpa using this
    have hrs : rs = rowsL s (n1 * 3) := by
      have h := (Hord.out (by rw [hS, hlen])).1
      rw [hlen] at h
      exact h
    have cr := m.orr.cell (i := 0) (by omega)
    have HMM := Lib.hid m
    have HRS : Hid (rowsO s = rs) := Lib.hid (by rw [rowsO_yes HY.out, HCL.out, hrs])
    have HMK : Hid (Marks w3.heap.size W1 [{ target := .collected D, args := #[] }]) := Lib.hid ⟨[D], rfl, by simp, fun D' hD' => by
      have e : D' = D := by simpa using hD'
      subst e
      exact ⟨by omega, (Array.getElem?_eq_some_iff.1 hdf).1, hdf⟩⟩
    obtain ⟨av, cv, hv, _⟩ := m.rw.rows
    obtain ⟨L, hL⟩ : ∃ L, L = rs.length := ⟨_, rfl⟩
    rw [← hL] at hv
    have HLL := Lib.hid hL
    clear m Hbd Hord hrs hlen hdf hS hL
    subst hv
    go_wp2_with fail
    refine leaves_marks (B := w3.heap.size) _ _ HMK.out (fun W3 hT => ?_)
    obtain ⟨a, c, hv, hr⟩ := (HMM.out.rw.taken hT).rows
    refine ⟨_, results_tmp2 (t := 2) (u := 3) (by kernel_rfl) _ _ _, a, c, hs, ?_, ?_, HMM.out.bel.trans (taken_below1 hT hws)⟩
    · rw [HRS.out, HY.out, ← hv]
      rfl
    · rw [HRS.out]
      exact hr
end Go.Proofs.Ytbalhbpaholakaa
