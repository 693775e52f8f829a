/-
Several texts in one: PlanH, PlanI, PlanD.
-/
import Derived.Test.YtgfcnkfmgpakkaaGPlanB
import Derived.Test.YtgfcnkfmgpakkaaGPlanC
import Derived.Test.YtgfcnkfmgpakkaaCFlowL
/-
A round of the second loop of plan.CheckCut: one job of the cut.
-/
namespace Go.Proofs.Ytgfcnkfmgpakkaa
open Go.RowKit Go.Shelf
attribute [local go_sem] Oper.semAt_some
set_option linter.unusedVariables false
set_option linter.unusedSimpArgs false
def findLoop (n : Nat) : Code → Option Code
  | .loop c => if (findRegion n c).isSome then some c else none
  | .seq a b => match findLoop n a with
    | some c => some c
    | none => findLoop n b
  | .block _ c => findLoop n c
  | .scope c => findLoop n c
  | .cond _ a b => match findLoop n a with
    | some c => some c
    | none => findLoop n b
  | _ => none
noncomputable def ccBody : Code := ((Try.f34.body.bind (findLoop 14)).getD .skip)
def lfN (cs : List Int) (r : Int) : List Nat → Int
  | [] => 0
  | x :: xs => pick (inL cs x = false) r + lfN cs r xs
theorem lfN_snoc (cs : List Int) (r : Int) (l : List Nat) (x : Nat) : lfN cs r (l ++ [x]) = lfN cs r l + pick (inL cs x = false) r := by
  induction l with
  | nil => simp [lfN]
  | cons y l ih => simp only [List.cons_append, lfN, ih]; omega
theorem lfN_all (cs : List Int) (j : GJob) (m : Nat) : lfN cs j.rate (slotsTo j m) = freeTo j (inL cs) m := by
  induction m with
  | zero => rfl
  | succ m ih =>
    unfold slotsTo at *
    rw [mk_succ, lfN_snoc, ih]
    rfl
theorem lfN_bd (cs : List Int) {r : Int} (h0 : 0 ≤ r) (h1 : r ≤ 1000) (l : List Nat) : 0 ≤ lfN cs r l ∧ lfN cs r l ≤ 1000 * l.length := by
  induction l with
  | nil => simp [lfN]
  | cons y l ih =>
    simp only [lfN, List.length_cons]
    unfold pick
    split <;> omega
/-- The frame in which the body begins. -/
def CAx (w : World) (bi bx : Nat) (t : Nat) (a' : Act) : Prop := ∃ u0 u1 u2 u4 u5 u6 u7 u8 u10 u11 u13 u14 u15 u18 u19 u20 u21 u22 u23 u24 u25 u26 u27 u28 u29 u30 u31 u32 u33 u34 u35 u36 u37 u38 u39 u40 u41 u42 u43 u44 u45 u46 u47 u48 u49 u50 u51 u52 u53 u54 u55 u56 u57 u58 u59 u60 u61 u62 u63 u64 u65 u66 u67 u68 u69 u70 u71 u72 u73 u74 u75 u76 u77 u78 u79 u80 u81 u82 u83 u84 u85 u86 u87 u88 u89 u90 u91 u92 u93 u94 u95 u96 : Value, a' = ⟨List.toArray (u0 :: u1 :: u2 :: (.pointer (some ⟨w.heap.size, 0, none⟩)) :: u4 :: u5 :: u6 :: u7 :: u8 :: (.pointer (some ⟨bi, 0, none⟩)) :: u10 :: u11 :: (.pointer (some ⟨bi + 1, 0, none⟩)) :: u13 :: u14 :: u15 :: (.pointer (some ⟨bx, 0, none⟩)) :: (.int .i64 (t : Nat)) :: u18 :: u19 :: u20 :: u21 :: u22 :: u23 :: u24 :: u25 :: u26 :: u27 :: u28 :: u29 :: u30 :: u31 :: u32 :: u33 :: u34 :: u35 :: u36 :: u37 :: u38 :: u39 :: u40 :: u41 :: u42 :: u43 :: u44 :: u45 :: u46 :: u47 :: u48 :: u49 :: u50 :: u51 :: u52 :: u53 :: u54 :: u55 :: u56 :: u57 :: u58 :: u59 :: u60 :: u61 :: u62 :: u63 :: u64 :: u65 :: u66 :: u67 :: u68 :: u69 :: u70 :: u71 :: u72 :: u73 :: u74 :: u75 :: u76 :: u77 :: u78 :: u79 :: u80 :: u81 :: u82 :: u83 :: u84 :: u85 :: u86 :: u87 :: u88 :: u89 :: u90 :: u91 :: u92 :: u93 :: u94 :: u95 :: u96 :: []), []⟩
/-- What holds between two slots. -/
def CMid (w : World) (A A3 A4 : Option Addr) (c N c3 N3 c4 N4 T bi gi bx d m0 B : Nat) (cs : List Int) (room : Int) (ds : List Deferred) (W : World) : Prop :=
  CCm w W A A3 A4 c N c3 N3 c4 N4 T bi (bi + 1) gi cs room ∧ W.cell? ⟨bx, 0, none⟩ = some (.int .i64 d) ∧ MarksLt B m0 W ds ∧ m0 ≤ W.heap.size
theorem CMid.nc {w : World} {A A3 A4 : Option Addr} {c N c3 N3 c4 N4 T bi gi bx d m0 B : Nat} {cs : List Int} {room : Int} {ds : List Deferred} {W W' : World} (h : CMid w A A3 A4 c N c3 N3 c4 N4 T bi gi bx d m0 B cs room ds W) (hn : Nc m0 W W') (hw : w.heap.size ≤ m0) : CMid w A A3 A4 c N c3 N3 c4 N4 T bi gi bx d m0 B cs room ds W' := by
  obtain ⟨m, c0, mk, hs⟩ := h
  refine ⟨⟨cell_nc m.k0 hn, cell_nc m.k1 hn, cell_nc m.k2 hn, cell_nc m.ki hn, m.ro.nc hn, m.og.nc hn, below_nc m.bel (Nat.le_refl _) hn hw, m.gl, m.bb⟩, cell_nc c0 hn, mk.nc hn, ?_⟩
  obtain ⟨row, hg, _⟩ := hn
  exact Nat.le_trans hs hg.size
set_option maxRecDepth 100000 in
set_option maxHeartbeats 4000000 in
theorem cc_round (w W : World) (A2 A4 : Option Addr) (bj oj b3 o3 c N c2 T c3 N3 c4 N4 bi gi B k d : Nat) (js : List GJob) (sup cj cs : List Int) (need room : Int) (ds : List Deferred) (R : Act → World → Prop) (Q0 : Exit → Act → World → Prop)
  (HR : Hid (Rd 5 encJ w (some ⟨bj, oj, none⟩) js)) (HN : Hid (js.length = N)) (HOK : Hid (okP js sup = true)) (HN2 : Hid (sup.length = T))
  (hk : k < N3) (hN3 : N3 ≤ 24) (c3k : W.cell? ⟨b3, o3 + k, none⟩ = some (.int .i64 d)) (hd : d < N) (hneed : 0 ≤ need ∧ need ≤ 100000) (hroom : 0 ≤ room ∧ room ≤ 400000)
  (HM : Hid (CCm w W (some ⟨bj, oj, none⟩) (some ⟨b3, o3, none⟩) A4 c N c3 N3 c4 N4 T bi (bi + 1) gi cs room)) (hmk : Marks B W ds) (hB : w.heap.size ≤ B) (hBW : B ≤ W.heap.size)
  (u2 u4 u6 u7 u8 u10 u13 u14 u15 u16 u17 u18 u19 u20 u21 u22 u23 u24 u25 u26 u27 u28 u29 u30 u31 u32 u33 u34 u35 u36 u37 u38 u39 u40 u41 u42 u43 u44 u45 u46 u47 u48 u49 u50 u51 u52 u53 u54 u55 u56 u57 u58 u59 u63 u64 u65 u66 u67 u68 u69 u70 u71 u72 u73 u74 u75 u76 u77 u78 u79 u80 u81 u82 u83 u84 u85 u86 u87 u88 u89 u90 u91 u92 u93 u94 u95 u96 : Value)
  (HK : Hid (∀ (W' : World) (D : Nat) (u2 u4 u6 u7 u8 u10 u13 u14 u15 u16 u17 u18 u19 u20 u21 u22 u23 u24 u25 u26 u27 u28 u29 u30 u31 u32 u33 u34 u35 u36 u37 u38 u39 u40 u41 u42 u43 u44 u45 u46 u47 u48 u49 u50 u51 u52 u53 u54 u55 u56 u57 u58 u59 u63 u64 u65 u66 u67 u68 u69 u70 u71 u72 u73 u74 u75 u76 u77 u78 u79 u80 u81 u82 u83 u84 u85 u86 u87 u88 u89 u90 u91 u92 u93 u94 u95 u96 : Value), CCm w W' (some ⟨bj, oj, none⟩) (some ⟨b3, o3, none⟩) A4 c N c3 N3 c4 N4 T bi (bi + 1) gi cs (room + freeTo (jAt js d) (inL cs) (lenJ (jAt js d))) → Marks B W' ({ target := .collected D, args := #[] } :: ds) → B ≤ W'.heap.size → R ⟨List.toArray ((.slice (some ⟨bj, oj, none⟩) N c) :: (.slice A2 T c2) :: u2 :: (.pointer (some ⟨w.heap.size, 0, none⟩)) :: u4 :: (.pointer (some ⟨w.heap.size + 1, 0, none⟩)) :: u6 :: u7 :: u8 :: (.pointer (some ⟨bi, 0, none⟩)) :: u10 :: (.int .i64 (need + (jAt js d).energy)) :: (.pointer (some ⟨bi + 1, 0, none⟩)) :: u13 :: u14 :: u15 :: u16 :: u17 :: u18 :: u19 :: u20 :: u21 :: u22 :: u23 :: u24 :: u25 :: u26 :: u27 :: u28 :: u29 :: u30 :: u31 :: u32 :: u33 :: u34 :: u35 :: u36 :: u37 :: u38 :: u39 :: u40 :: u41 :: u42 :: u43 :: u44 :: u45 :: u46 :: u47 :: u48 :: u49 :: u50 :: u51 :: u52 :: u53 :: u54 :: u55 :: u56 :: u57 :: u58 :: u59 :: (.slice (some ⟨b3, o3, none⟩) N3 c3) :: (.int .i64 N3) :: (.int .i64 ((k : Int) + 1)) :: u63 :: u64 :: u65 :: u66 :: u67 :: u68 :: u69 :: u70 :: u71 :: u72 :: u73 :: u74 :: u75 :: u76 :: u77 :: u78 :: u79 :: u80 :: u81 :: u82 :: u83 :: u84 :: u85 :: u86 :: u87 :: u88 :: u89 :: u90 :: u91 :: u92 :: u93 :: u94 :: u95 :: u96 :: []), { target := .collected D, args := #[] } :: ds⟩ W')) :
  Code.wp Try.prog ccBody (Exit.then R Q0) ⟨List.toArray ((.slice (some ⟨bj, oj, none⟩) N c) :: (.slice A2 T c2) :: u2 :: (.pointer (some ⟨w.heap.size, 0, none⟩)) :: u4 :: (.pointer (some ⟨w.heap.size + 1, 0, none⟩)) :: u6 :: u7 :: u8 :: (.pointer (some ⟨bi, 0, none⟩)) :: u10 :: (.int .i64 need) :: (.pointer (some ⟨bi + 1, 0, none⟩)) :: u13 :: u14 :: u15 :: u16 :: u17 :: u18 :: u19 :: u20 :: u21 :: u22 :: u23 :: u24 :: u25 :: u26 :: u27 :: u28 :: u29 :: u30 :: u31 :: u32 :: u33 :: u34 :: u35 :: u36 :: u37 :: u38 :: u39 :: u40 :: u41 :: u42 :: u43 :: u44 :: u45 :: u46 :: u47 :: u48 :: u49 :: u50 :: u51 :: u52 :: u53 :: u54 :: u55 :: u56 :: u57 :: u58 :: u59 :: (.slice (some ⟨b3, o3, none⟩) N3 c3) :: (.int .i64 N3) :: (.int .i64 k) :: u63 :: u64 :: u65 :: u66 :: u67 :: u68 :: u69 :: u70 :: u71 :: u72 :: u73 :: u74 :: u75 :: u76 :: u77 :: u78 :: u79 :: u80 :: u81 :: u82 :: u83 :: u84 :: u85 :: u86 :: u87 :: u88 :: u89 :: u90 :: u91 :: u92 :: u93 :: u94 :: u95 :: u96 :: []), ds⟩ W := by
  have HRoom := Lib.hid hroom
  have okj := okP_job HOK.out (i := d) (by rw [HN.out]; exact hd)
  obtain ⟨p1, p2, p3, p4, p5, p6, p7, _, _⟩ := okj
  have hT : T ≤ 24 := by have := (okP_iff.1 HOK.out).1.2; rw [HN2.out] at this; exact this
  rw [HN2.out] at p3
  obtain ⟨b, off, j, hA, hbl, hj, g0, g1, g2, g3, g4⟩ := rdJ_at (HR.out.keep HM.out.bel) (k := d) (by rw [HN.out]; exact hd)
  injection hA with hA
  injection hA with ea eb
  subst ea eb
  have ej : jAt js d = j := by unfold jAt; rw [hj]; rfl
  rw [ej] at p1 p2 p3 p4 p5 p6 p7 HK
  have k0 := HM.out.k0
  have Lbr := Lib.hid HM.out.ro.lt
  have l0 := World.block_lt_of_cell? W _ k0
  have hkz : (k : Int) < (N3 : Int) := by omega
  have hdz : (d : Int) < (N : Int) := by omega
  dsimp only at l0
  have Hj := Lib.hid ej
  clear hj ej
  conv => arg 2; whnf
  have hs2 := plSum_two need j.energy (W.alloc (.cells #[.int .i64 d] 3)) (by omega) (by omega)
  rw [World.size_alloc] at hs2
  have HS := Lib.hid hs2
  clear hs2
  go_wp2_with fail
  refine HS.out.mono ?_
  rintro e w' ⟨rfl, rfl⟩
  clear HS
  obtain ⟨W2, hW2⟩ : ∃ W2, W2 = (W.alloc (.cells #[.int .i64 d] 3)).alloc (.cells #[.int .i64 need, .int .i64 j.energy] 3) := ⟨_, rfl⟩
  have bw : Below W.heap.size W W2 := by rw [hW2]; exact ((Below.refl _ W).alloc (Nat.le_refl _) _).alloc (by simp) _
  have cx : W2.cell? ⟨W.heap.size, 0, none⟩ = some (.int .i64 d) := by rw [hW2]; go_simp
  have hsz : W2.heap.size = W.heap.size + 2 := by rw [hW2]; simp
  rw [← hW2]
  have HM2 := Lib.hid (HM.out.keep bw)
  have mk2 := hmk.below bw
  have r0 := (bw.cell (p := ⟨w.heap.size, 0, none⟩) l0).trans k0
  have rj := HR.out.keep HM2.out.bel
  obtain ⟨b', off', j', hA', hbl', hj', y0, y1, y2, y3, y4⟩ := rdJ_at rj (k := d) (by rw [HN.out]; exact hd)
  injection hA' with hA'
  injection hA' with ea' eb'
  subst ea' eb'
  have ej' : j' = j := by rw [← Hj.out]; unfold jAt; rw [hj']; rfl
  subst ej'
  obtain ⟨bx, hbx⟩ : ∃ bx, bx = W.heap.size := ⟨_, rfl⟩
  rw [← hbx] at cx hsz ⊢
  have hbxW : bx < W2.heap.size := by omega
  have Hszx := Lib.hid (And.intro hsz hbx)
  clear hW2 HM k0 g0 g1 g2 g3 g4 c3k hmk hj' hbl hbl' rj hsz hbx bw
  go_wp2_with fail
  refine (plSlots_any j' W2).mono ?_
  rintro e w' ⟨rfl, rfl⟩
  obtain ⟨W3, hW3⟩ : ∃ W3, W3 = W2.alloc (.cells #[.int .i64 j'.frm, .int .i64 j'.till, .int .i64 j'.energy, .int .i64 j'.rate, .int .i64 j'.rank] 25) := ⟨_, rfl⟩
  have bw3 : Below W2.heap.size W2 W3 := by rw [hW3]; exact (Below.refl _ W2).alloc (Nat.le_refl _) _
  have z0 : W3.cell? ⟨W2.heap.size, 0, none⟩ = some (.int .i64 j'.frm) := by rw [hW3]; go_simp
  have z1 : W3.cell? ⟨W2.heap.size, 1, none⟩ = some (.int .i64 j'.till) := by rw [hW3]; go_simp
  have hs3 : W3.heap.size = W2.heap.size + 1 := by rw [hW3]; simp
  rw [← hW3]
  have HM3 := Lib.hid (HM2.out.keep bw3)
  have mk3 := mk2.below bw3
  have cx3 := (bw3.cell (p := ⟨bx, 0, none⟩) hbxW).trans cx
  have hB3 : B ≤ W3.heap.size := by have := Hszx.out; omega
  have Hs3 := Lib.hid hs3
  clear hs3
  clear hW3 HM2 mk2 y0 y1 y2 y3 y4 r0 cx
  go_wp2_with fail
  have hw3 : w.heap.size ≤ W3.heap.size := HM3.out.bel.size
  refine range_slots (j := j') p1 p2 (by omega) (g := .tmp 78) (p := 79) W2.heap.size w.heap.size rfl z0 z1 hw3 (fun pre W' => CMid w (some ⟨bj, oj, none⟩) (some ⟨b3, o3, none⟩) A4 c N c3 N3 c4 N4 T bi gi bx d W3.heap.size B cs (room + lfN cs j'.rate (pre.map (fun (y : SlotAt j') => y.1))) ds W') ?hI ?h0 (fun x a' => CAx w bi bx x.1 a') ?assign ?body ?done
  case hI => exact fun pre W' W'' h hn => h.nc hn hw3
  case h0 =>
    refine ⟨by simpa [lfN] using HM3.out, cx3, ⟨mk3, ?_⟩, Nat.le_refl _⟩
    obtain ⟨Ds, e, _, hD⟩ := mk3
    intro x hx
    rw [e] at hx
    obtain ⟨D, hm, rfl⟩ := List.mem_map.1 hx
    exact ⟨D, rfl, (hD D hm).2.1⟩
  case assign =>
    intro l x W1 K hK
    gi_wp2
    exact ⟨_, _, _, _, _, _, _, _, _, _, _, _, _, _, _, _, _, _, _, _, _, _, _, _, _, _, _, _, _, _, _, _, _, _, _, _, _, _, _, _, _, _, _, _, _, _, _, _, _, _, _, _, _, _, _, _, _, _, _, _, _, _, _, _, _, _, _, _, _, _, _, _, _, _, _, _, _, _, _, _, _, _, _, _, _, _, _, _, _, _, _, _, rfl⟩
  case body =>
    rintro l pre ⟨t, ht⟩ a' W1 ⟨m, x0, mk, hs⟩ ⟨y_0, y_1, y_2, y_4, y_5, y_6, y_7, y_8, y_10, y_11, y_13, y_14, y_15, y_18, y_19, y_20, y_21, y_22, y_23, y_24, y_25, y_26, y_27, y_28, y_29, y_30, y_31, y_32, y_33, y_34, y_35, y_36, y_37, y_38, y_39, y_40, y_41, y_42, y_43, y_44, y_45, y_46, y_47, y_48, y_49, y_50, y_51, y_52, y_53, y_54, y_55, y_56, y_57, y_58, y_59, y_60, y_61, y_62, y_63, y_64, y_65, y_66, y_67, y_68, y_69, y_70, y_71, y_72, y_73, y_74, y_75, y_76, y_77, y_78, y_79, y_80, y_81, y_82, y_83, y_84, y_85, y_86, y_87, y_88, y_89, y_90, y_91, y_92, y_93, y_94, y_95, y_96, rfl⟩ hlen
    have hin := ht
    unfold inJ at hin
    have htT : t < T := by omega
    have htz : (t : Int) < (T : Int) := by omega
    have ci := m.ki
    have cg := m.og.cell htT
    have bd := lfN_bd cs p6 p7 (pre.map (fun (y : SlotAt j') => y.1))
    rw [List.length_map] at bd
    have hl24 : lenJ j' ≤ 24 := by unfold lenJ; omega
    have Hsn : Hid (lfN cs j'.rate ((pre ++ [(⟨t, ht⟩ : SlotAt j')]).map (fun (y : SlotAt j') => y.1)) = lfN cs j'.rate (pre.map (fun (y : SlotAt j') => y.1)) + pick (inL cs t = false) j'.rate) := Lib.hid (by rw [List.map_append]; exact lfN_snoc _ _ _ _)
    have Hsn2 : Hid (lfN cs j'.rate (pre.unattach ++ [t]) = lfN cs j'.rate (pre.map (fun (y : SlotAt j') => y.1)) + pick (inL cs t = false) j'.rate) := Lib.hid (lfN_snoc cs j'.rate (pre.map (fun (y : SlotAt j') => y.1)) t)
    generalize lfN cs j'.rate (pre.map (fun (y : SlotAt j') => y.1)) = lf at *
    cases hit : inL cs t
    case true =>
      rw [hit] at cg
      have Hm : Hid (CMid w (some ⟨bj, oj, none⟩) (some ⟨b3, o3, none⟩) A4 c N c3 N3 c4 N4 T bi gi bx d W3.heap.size B cs (room + lf) ds W1) := Lib.hid ⟨m, x0, mk, hs⟩
      have Hp : Hid (pick (inL cs t = false) j'.rate = 0) := Lib.hid (pick_neg (by rw [hit]; simp) _)
      clear m mk
      gi_wp2
      refine ⟨KeepsFrom.refl _ _, ⟨Below.refl _ _, rfl⟩, ?_⟩
      rw [Hsn2.out, Hp.out, Int.add_zero]
      exact Hm.out
    case false =>
      rw [hit] at cg
      have Hp : Hid (pick (inL cs t = false) j'.rate = j'.rate) := Lib.hid (pick_pos hit _)
      have rc := m.ro.cell (i := 0) (by omega)
      have rf := m.ro.frozen 0
      have jb := m.k0
      obtain ⟨b4, o4, j4, hA4, hbl4, hj4, v0, v1, v2, v3, v4⟩ := rdJ_at (HR.out.keep m.bel) (k := d) (by rw [HN.out]; exact hd)
      injection hA4 with hA4
      injection hA4 with ea4 eb4
      subst ea4 eb4
      have ej4 : j4 = j' := by rw [← Hj.out]; unfold jAt; rw [hj4]; rfl
      subst ej4
      have HSet := Lib.hid (fun o => m.set (room + lf + j4.rate) o)
      have Hkeep : Hid (MarksLt B W3.heap.size W1 ds) := Lib.hid mk
      have ls := World.block_lt_of_cell? W1 _ x0
      have lr := m.ro.lt
      have lj := World.block_lt_of_cell? W1 _ jb
      have lbj := World.block_lt_of_cell? W1 _ v3
      have hro := m.ro
      have hbb := m.bb
      have hbl : pre.length ≤ 24 := by omega
      have hrm := HRoom.out
      have hsum := plSum_two (room + lf) j4.rate W1.drew (by omega) (by omega)
      have hsum2 : Calls Try.prog 53 #[.slice (some ⟨W1.heap.size, 0, none⟩) 2 2] (W1.alloc (.cells #[.int .i64 (room + lf), .int .i64 j4.rate] 3)).drew fun e w' => e = .returned (.int .i64 (room + lf + j4.rate)) ∧ w' = (W1.alloc (.cells #[.int .i64 (room + lf), .int .i64 j4.rate] 3)).drew := hsum
      have HSum := Lib.hid hsum2
      clear hsum hsum2 m mk hj4 v0 v1 v2 v4 hbl4
      dsimp only at ls lj lbj
      have n1 : bx ≠ bi + 1 := by have := Hszx.out; have := Lbr.out; omega
      have n2 : w.heap.size ≠ bi + 1 := by omega
      have n3 : bj ≠ bi + 1 := by
        obtain ⟨_, _, e, hlt, _⟩ := HR.out (by rw [HN.out]; omega)
        injection e with e
        injection e with e
        omega
      gi_wp2
      refine region_round (S := fun w' => w'.cell? ⟨w.heap.size, 0, none⟩ = some (.slice (some ⟨bj, oj, none⟩) N c) ∧ w'.cell? ⟨bx, 0, none⟩ = some (.int .i64 d) ∧ w'.cell? ⟨bj, oj + d * 5 + 3, none⟩ = some (.int .i64 j4.rate)) (by kernel_rfl) (by kernel_rfl) ⟨jb, x0, v3⟩ (fun hHeld => ?_)
      refine wpAnyH_take (i := 1) (v := .slice (some ⟨bj, oj, none⟩) N c) rfl (by kernel_rfl) (by kernel_rfl) (by kernel_rfl) (fun _ _ _ h => absurd h.1 (by simp)) (Or.inl ⟨by rfl, fun w' hSw => ?_⟩) hHeld ?_
      · obtain ⟨s0, s1, s2⟩ := hSw
        go_simp
      simp only [Act.put, List.setIfInBounds_toArray, List.set_cons_zero, List.set_cons_succ]
      refine wpAnyH_take (i := 2) (v := .int .i64 d) rfl (by kernel_rfl) (by kernel_rfl) (by kernel_rfl) (fun _ _ _ h => absurd h.1 (by simp)) (Or.inl ⟨by rfl, fun w' hSw => ?_⟩) hHeld ?_
      · obtain ⟨s0, s1, s2⟩ := hSw
        go_simp
      simp only [Act.put, List.setIfInBounds_toArray, List.set_cons_zero, List.set_cons_succ]
      refine wpAnyH_take (i := 3) (v := .pointer (some ⟨bj, oj + d * 5, none⟩)) rfl (by kernel_rfl) (by kernel_rfl) (by kernel_rfl) (fun _ _ _ h => absurd h.1 (by simp)) (Or.inl ⟨by rfl, fun w' hSw => ?_⟩) hHeld ?_
      · obtain ⟨s0, s1, s2⟩ := hSw
        go_simp
      simp only [Act.put, List.setIfInBounds_toArray, List.set_cons_zero, List.set_cons_succ]
      refine wpAnyH_take (i := 4) (v := .pointer (some ⟨bj, oj + d * 5 + 3, none⟩)) rfl (by kernel_rfl) (by kernel_rfl) (by kernel_rfl) (fun _ _ _ h => absurd h.1 (by simp)) (Or.inl ⟨by rfl, fun w' hSw => ?_⟩) hHeld ?_
      · obtain ⟨s0, s1, s2⟩ := hSw
        go_simp
      simp only [Act.put, List.setIfInBounds_toArray, List.set_cons_zero, List.set_cons_succ]
      refine wpAnyH_take (i := 5) (v := .int .i64 j4.rate) rfl (by kernel_rfl) (by kernel_rfl) (by kernel_rfl) (fun _ _ _ h => absurd h.1 (by simp)) (Or.inl ⟨by rfl, fun w' hSw => ?_⟩) hHeld ?_
      · obtain ⟨s0, s1, s2⟩ := hSw
        go_simp
      simp only [Act.put, List.setIfInBounds_toArray, List.set_cons_zero, List.set_cons_succ]
      refine wpAnyH_ready (rs := [0]) (by kernel_rfl) (by simp) (AllReadyH.cons rfl (fun K hK => ?_) AllReadyH.nil)
      go_simp
      refine hK.out _ _ ?_ (fun hHeld => ?_)
      · refine ⟨?_, ?_, ?_⟩ <;> go_simp
      clear hK K
      try simp only [Act.put, List.setIfInBounds_toArray, List.set_cons_zero, List.set_cons_succ]
      refine wpAnyH_ready (rs := [6]) (by kernel_rfl) (by simp) (AllReadyH.cons rfl (fun K hK => ?_) AllReadyH.nil)
      go_simp
      refine hK.out _ _ ?_ (fun hHeld => ?_)
      · refine ⟨?_, ?_, ?_⟩ <;> go_simp
      clear hK K
      try simp only [Act.put, List.setIfInBounds_toArray, List.set_cons_zero, List.set_cons_succ]
      refine wpAnyH_ready (rs := [7]) (by kernel_rfl) (by simp) (AllReadyH.cons rfl (fun K hK => ?_) AllReadyH.nil)
      go_simp
      refine HSum.out.mono ?_
      rintro e w' ⟨rfl, rfl⟩
      refine hK.out _ _ ?_ (fun hHeld => ?_)
      · refine ⟨?_, ?_, ?_⟩ <;> go_simp
      clear hK K
      try simp only [Act.put, List.setIfInBounds_toArray, List.set_cons_zero, List.set_cons_succ]
      refine wpAnyH_ready (rs := [8]) (by kernel_rfl) (by simp) (AllReadyH.cons rfl (fun K hK => ?_) AllReadyH.nil)
      go_simp
      refine hK.out _ _ ?_ (fun hHeld => ?_)
      · refine ⟨?_, ?_, ?_⟩ <;> go_simp
      clear hK K
      try simp only [Act.put, List.setIfInBounds_toArray, List.set_cons_zero, List.set_cons_succ]
      refine wpAnyH_done (by kernel_rfl) ⟨rfl, ?_⟩ _
      clear hHeld
      have HM5 := HSet.out (.cells #[.int .i64 (room + lf), .int .i64 j4.rate] 3)
      have hsz5 : (((W1.setCell ⟨bi + 1, 0, none⟩ (.int .i64 (room + lf + j4.rate))).alloc (.cells #[.int .i64 (room + lf), .int .i64 j4.rate] 3)).drew).heap.size = W1.heap.size + 1 := by show ((W1.setCell _ _).heap.push _).size = _; simp [World.setCell]
      have hM5 : Mod (fun q => q = bi + 1) W1 (((W1.setCell ⟨bi + 1, 0, none⟩ (.int .i64 (room + lf + j4.rate))).alloc (.cells #[.int .i64 (room + lf), .int .i64 j4.rate] 3)).drew) := (((Mod.refl (fun q => q = bi + 1) W1).setCell (p := ⟨bi + 1, 0, none⟩) (.inl rfl) _).alloc _).drew
      generalize ((W1.setCell ⟨bi + 1, 0, none⟩ (.int .i64 (room + lf + j4.rate))).alloc (.cells #[.int .i64 (room + lf), .int .i64 j4.rate] 3)).drew = W5 at *
      have hkf : ∀ B', KeepsFrom B' W1 W5 := fun B' => keepsFrom_mod hM5 _ (fun q hq o ho => by subst hq; exact hro.cells ho)
      have hz := Hszx.out
      have hz3 := Hs3.out
      have hlb := Lbr.out
      refine And.intro (a := Exit.normal = Exit.normal) rfl ⟨hkf _, ⟨hM5.below (Nat.le_trans hw3 hs) (fun q _ hq => by omega), hM5.block _ (by omega) (by omega)⟩, ?_⟩
      show CMid w (some ⟨bj, oj, none⟩) (some ⟨b3, o3, none⟩) A4 c N c3 N3 c4 N4 T bi gi bx d W3.heap.size B cs (room + lfN cs j4.rate ((pre ++ [(⟨t, ht⟩ : SlotAt j4)]).map (fun (y : SlotAt j4) => y.1))) ds W5
      rw [Hsn.out, Hp.out, ← Int.add_assoc]
      exact ⟨HM5, (hM5.cell (p := ⟨bx, 0, none⟩) ls n1).trans x0, ⟨Hkeep.out.1.keeps (hkf _), Hkeep.out.2⟩, Nat.le_trans hs hM5.size⟩
  case done =>
    intro D ys W1 hD hS hm hdf
    obtain ⟨m, x0, mk, hs⟩ := hm
    rw [hS, lfN_all] at m
    have Hm := Lib.hid m
    have Hmk : Hid (Marks B W1 ({ target := .collected D, args := #[] } :: ds)) := Lib.hid (marks_more mk hD hB3 hdf)
    have hBW1 : B ≤ W1.heap.size := Nat.le_trans hB3 hs
    clear m mk
    go_wp2_with fail
    exact HK.out W1 D _ _ _ _ _ _ _ _ _ _ _ _ _ _ _ _ _ _ _ _ _ _ _ _ _ _ _ _ _ _ _ _ _ _ _ _ _ _ _ _ _ _ _ _ _ _ _ _ _ _ _ _ _ _ _ _ _ _ _ _ _ _ _ _ _ _ _ _ _ _ _ _ _ _ _ _ _ _ _ _ _ _ _ _ _ _ _ Hm.out Hmk.out hBW1
end Go.Proofs.Ytgfcnkfmgpakkaa
/-
The second loop of plan.CheckCut: what holds at the head of each round.
-/
namespace Go.Proofs.Ytgfcnkfmgpakkaa
open Go.RowKit Go.Shelf
set_option linter.unusedVariables false
def CInv (w : World) (A A2 A3 A4 : Option Addr) (c N c2 T c3 N3 c4 N4 bi gi B : Nat) (js : List GJob) (cj cs : List Int) (R1 : Int) (a : Act) (W : World) : Prop :=
  ∃ (k : Nat) (need : Int) (ds : List Deferred) (u2 u4 u6 u7 u8 u10 u13 u14 u15 u16 u17 u18 u19 u20 u21 u22 u23 u24 u25 u26 u27 u28 u29 u30 u31 u32 u33 u34 u35 u36 u37 u38 u39 u40 u41 u42 u43 u44 u45 u46 u47 u48 u49 u50 u51 u52 u53 u54 u55 u56 u57 u58 u59 u63 u64 u65 u66 u67 u68 u69 u70 u71 u72 u73 u74 u75 u76 u77 u78 u79 u80 u81 u82 u83 u84 u85 u86 u87 u88 u89 u90 u91 u92 u93 u94 u95 u96 : Value), k ≤ N3 ∧ need = S k (fun i => (jAt js (fAt cj i).toNat).energy) ∧ CCm w W A A3 A4 c N c3 N3 c4 N4 T bi (bi + 1) gi cs (R1 + S k (fun i => freeJ js T (inL cs) (fAt cj i).toNat)) ∧ Marks B W ds ∧ B ≤ W.heap.size ∧ a = ⟨List.toArray ((.slice A N c) :: (.slice A2 T c2) :: u2 :: (.pointer (some ⟨w.heap.size, 0, none⟩)) :: u4 :: (.pointer (some ⟨w.heap.size + 1, 0, none⟩)) :: u6 :: u7 :: u8 :: (.pointer (some ⟨bi, 0, none⟩)) :: u10 :: (.int .i64 need) :: (.pointer (some ⟨bi + 1, 0, none⟩)) :: u13 :: u14 :: u15 :: u16 :: u17 :: u18 :: u19 :: u20 :: u21 :: u22 :: u23 :: u24 :: u25 :: u26 :: u27 :: u28 :: u29 :: u30 :: u31 :: u32 :: u33 :: u34 :: u35 :: u36 :: u37 :: u38 :: u39 :: u40 :: u41 :: u42 :: u43 :: u44 :: u45 :: u46 :: u47 :: u48 :: u49 :: u50 :: u51 :: u52 :: u53 :: u54 :: u55 :: u56 :: u57 :: u58 :: u59 :: (.slice A3 N3 c3) :: (.int .i64 N3) :: (.int .i64 (k : Nat)) :: u63 :: u64 :: u65 :: u66 :: u67 :: u68 :: u69 :: u70 :: u71 :: u72 :: u73 :: u74 :: u75 :: u76 :: u77 :: u78 :: u79 :: u80 :: u81 :: u82 :: u83 :: u84 :: u85 :: u86 :: u87 :: u88 :: u89 :: u90 :: u91 :: u92 :: u93 :: u94 :: u95 :: u96 :: []), ds⟩
def CMu (N3 : Nat) (a : Act) (_ : World) : Nat := N3 - (intOf (a.tmps.getD 62 undef)).toNat
theorem freeJ_bd {js : List GJob} {sup : List Int} (hok : okP js sup = true) (cs : Nat → Bool) {i : Nat} (hi : i < js.length) : 0 ≤ freeJ js sup.length cs i ∧ freeJ js sup.length cs i ≤ 24000 := by
  obtain ⟨_, _, _, _, _, a, b, _⟩ := okP_job hok hi
  have hT := (okP_iff.1 hok).1.2
  unfold freeJ
  have h1 := S_nonneg (n := sup.length) (g := fun t => pick (inJ (jAt js i) t ∧ cs t = false) (jAt js i).rate) (fun t _ => by unfold pick; split <;> omega)
  have h2 := S_bound (n := sup.length) (g := fun t => pick (inJ (jAt js i) t ∧ cs t = false) (jAt js i).rate) (c := 1000) (fun t _ => by unfold pick; split <;> omega)
  omega
set_option maxRecDepth 100000 in
set_option maxHeartbeats 2000000 in
theorem cc_some (w W : World) (A A2 A3 A4 : Option Addr) (c N c2 T c3 N3 c4 N4 bi gi B k : Nat) (js : List GJob) (sup cj cs : List Int) (need R1 : Int) (ds : List Deferred) (Q0 : Exit → Act → World → Prop)
  (HR : Hid (Rd 5 encJ w A js)) (HN : Hid (js.length = N)) (HOK : Hid (okP js sup = true)) (HN2 : Hid (sup.length = T)) (HR3 : Hid (Rd 1 encI w A3 cj)) (HN3 : Hid (cj.length = N3)) (HG : Hid (goodTo cj N cj.length)) (hR1 : 0 ≤ R1 ∧ R1 ≤ 24000)
  (hk : k < N3) (hneed : need = S k (fun i => (jAt js (fAt cj i).toNat).energy)) (m : CCm w W A A3 A4 c N c3 N3 c4 N4 T bi (bi + 1) gi cs (R1 + S k (fun i => freeJ js T (inL cs) (fAt cj i).toNat))) (hmk : Marks B W ds) (hB : w.heap.size ≤ B) (hBW : B ≤ W.heap.size) (u2 u4 u6 u7 u8 u10 u13 u14 u15 u16 u17 u18 u19 u20 u21 u22 u23 u24 u25 u26 u27 u28 u29 u30 u31 u32 u33 u34 u35 u36 u37 u38 u39 u40 u41 u42 u43 u44 u45 u46 u47 u48 u49 u50 u51 u52 u53 u54 u55 u56 u57 u58 u59 u63 u64 u65 u66 u67 u68 u69 u70 u71 u72 u73 u74 u75 u76 u77 u78 u79 u80 u81 u82 u83 u84 u85 u86 u87 u88 u89 u90 u91 u92 u93 u94 u95 u96 : Value) :
  Code.wp Try.prog ccBody (Exit.then (fun a' W' => CInv w A A2 A3 A4 c N c2 T c3 N3 c4 N4 bi gi B js cj cs R1 a' W' ∧ CMu N3 a' W' < CMu N3 ⟨List.toArray ((.slice A N c) :: (.slice A2 T c2) :: u2 :: (.pointer (some ⟨w.heap.size, 0, none⟩)) :: u4 :: (.pointer (some ⟨w.heap.size + 1, 0, none⟩)) :: u6 :: u7 :: u8 :: (.pointer (some ⟨bi, 0, none⟩)) :: u10 :: (.int .i64 need) :: (.pointer (some ⟨bi + 1, 0, none⟩)) :: u13 :: u14 :: u15 :: u16 :: u17 :: u18 :: u19 :: u20 :: u21 :: u22 :: u23 :: u24 :: u25 :: u26 :: u27 :: u28 :: u29 :: u30 :: u31 :: u32 :: u33 :: u34 :: u35 :: u36 :: u37 :: u38 :: u39 :: u40 :: u41 :: u42 :: u43 :: u44 :: u45 :: u46 :: u47 :: u48 :: u49 :: u50 :: u51 :: u52 :: u53 :: u54 :: u55 :: u56 :: u57 :: u58 :: u59 :: (.slice A3 N3 c3) :: (.int .i64 N3) :: (.int .i64 (k : Nat)) :: u63 :: u64 :: u65 :: u66 :: u67 :: u68 :: u69 :: u70 :: u71 :: u72 :: u73 :: u74 :: u75 :: u76 :: u77 :: u78 :: u79 :: u80 :: u81 :: u82 :: u83 :: u84 :: u85 :: u86 :: u87 :: u88 :: u89 :: u90 :: u91 :: u92 :: u93 :: u94 :: u95 :: u96 :: []), ds⟩ W) Q0) ⟨List.toArray ((.slice A N c) :: (.slice A2 T c2) :: u2 :: (.pointer (some ⟨w.heap.size, 0, none⟩)) :: u4 :: (.pointer (some ⟨w.heap.size + 1, 0, none⟩)) :: u6 :: u7 :: u8 :: (.pointer (some ⟨bi, 0, none⟩)) :: u10 :: (.int .i64 need) :: (.pointer (some ⟨bi + 1, 0, none⟩)) :: u13 :: u14 :: u15 :: u16 :: u17 :: u18 :: u19 :: u20 :: u21 :: u22 :: u23 :: u24 :: u25 :: u26 :: u27 :: u28 :: u29 :: u30 :: u31 :: u32 :: u33 :: u34 :: u35 :: u36 :: u37 :: u38 :: u39 :: u40 :: u41 :: u42 :: u43 :: u44 :: u45 :: u46 :: u47 :: u48 :: u49 :: u50 :: u51 :: u52 :: u53 :: u54 :: u55 :: u56 :: u57 :: u58 :: u59 :: (.slice A3 N3 c3) :: (.int .i64 N3) :: (.int .i64 (k : Nat)) :: u63 :: u64 :: u65 :: u66 :: u67 :: u68 :: u69 :: u70 :: u71 :: u72 :: u73 :: u74 :: u75 :: u76 :: u77 :: u78 :: u79 :: u80 :: u81 :: u82 :: u83 :: u84 :: u85 :: u86 :: u87 :: u88 :: u89 :: u90 :: u91 :: u92 :: u93 :: u94 :: u95 :: u96 :: []), ds⟩ W := by
  have hN12 : N ≤ 12 := by have := (okP_iff.1 HOK.out).1.1; rw [HN.out] at this; exact this
  have hl3 : N3 ≤ N := by have := good_len HG.out; rw [HN3.out] at this; exact this
  have hgk := good_ge HG.out (i := k) (by rw [HN3.out]; exact hk)
  obtain ⟨d, hd⟩ : ∃ d : Nat, fAt cj k = d := ⟨(fAt cj k).toNat, by omega⟩
  have hdN : d < N := by omega
  obtain ⟨b3, o3, rfl, hb3, c3k⟩ := (HR3.out.keep m.bel).int (k := k) (by rw [HN3.out]; exact hk)
  have c3k' : W.cell? ⟨b3, o3 + k, none⟩ = some (.int .i64 d) := by rw [c3k]; exact congrArg (fun x => some (Value.int .i64 x)) hd
  obtain ⟨bj, oj, e, _⟩ := HR.out (by rw [HN.out]; omega)
  subst e
  have idx : ∀ i, i < k → (fAt cj i).toNat < js.length := fun i hi => by
    have := good_ge HG.out (i := i) (by rw [HN3.out]; omega)
    rw [HN.out]; omega
  have bn : 0 ≤ need ∧ need ≤ 100000 := by
    rw [hneed]
    have h1 := S_nonneg (n := k) (g := fun i => (jAt js (fAt cj i).toNat).energy) (fun i hi => (okP_job HOK.out (idx i hi)).2.2.2.1)
    have h2 := S_bound (n := k) (g := fun i => (jAt js (fAt cj i).toNat).energy) (c := 1000) (fun i hi => (okP_job HOK.out (idx i hi)).2.2.2.2.1)
    omega
  have br : 0 ≤ R1 + S k (fun i => freeJ js T (inL cs) (fAt cj i).toNat) ∧ R1 + S k (fun i => freeJ js T (inL cs) (fAt cj i).toNat) ≤ 400000 := by
    have h1 := S_nonneg (n := k) (g := fun i => freeJ js T (inL cs) (fAt cj i).toNat) (fun i hi => by rw [← HN2.out]; exact (freeJ_bd HOK.out (inL cs) (idx i hi)).1)
    have h2 := S_bound (n := k) (g := fun i => freeJ js T (inL cs) (fAt cj i).toNat) (c := 24000) (fun i hi => by rw [← HN2.out]; exact (freeJ_bd HOK.out (inL cs) (idx i hi)).2)
    omega
  refine cc_round w W A2 A4 bj oj b3 o3 c N c2 T c3 N3 c4 N4 bi gi B k d js sup cj cs need _ ds _ Q0 HR HN HOK HN2 hk (by omega) c3k' hdN bn br (Lib.hid m) hmk hB hBW _ _ _ _ _ _ _ _ _ _ _ _ _ _ _ _ _ _ _ _ _ _ _ _ _ _ _ _ _ _ _ _ _ _ _ _ _ _ _ _ _ _ _ _ _ _ _ _ _ _ _ _ _ _ _ _ _ _ _ _ _ _ _ _ _ _ _ _ _ _ _ _ _ _ _ _ _ _ _ _ _ _ _ _ _ _ _ (Lib.hid ?_)
  intro W' D v2 v4 v6 v7 v8 v10 v13 v14 v15 v16 v17 v18 v19 v20 v21 v22 v23 v24 v25 v26 v27 v28 v29 v30 v31 v32 v33 v34 v35 v36 v37 v38 v39 v40 v41 v42 v43 v44 v45 v46 v47 v48 v49 v50 v51 v52 v53 v54 v55 v56 v57 v58 v59 v63 v64 v65 v66 v67 v68 v69 v70 v71 v72 v73 v74 v75 v76 v77 v78 v79 v80 v81 v82 v83 v84 v85 v86 v87 v88 v89 v90 v91 v92 v93 v94 v95 v96 m' mk' hb'
  refine ⟨⟨k + 1, need + (jAt js d).energy, _, _, _, _, _, _, _, _, _, _, _, _, _, _, _, _, _, _, _, _, _, _, _, _, _, _, _, _, _, _, _, _, _, _, _, _, _, _, _, _, _, _, _, _, _, _, _, _, _, _, _, _, _, _, _, _, _, _, _, _, _, _, _, _, _, _, _, _, _, _, _, _, _, _, _, _, _, _, _, _, _, _, _, _, _, _, _, _, hk, ?_, ?_, mk', hb', rfl⟩, ?_⟩
  · rw [S_succ, hneed, hd]; rfl
  · rw [S_succ, hd, ← Int.add_assoc]
    have e := freeTo_all HOK.out (inL cs) (i := d) (by rw [HN.out]; exact hdN)
    rw [HN2.out] at e
    rw [e] at m'
    exact m'
  · show N3 - (intOf (.int .i64 ((k : Int) + 1))).toNat < N3 - (intOf (.int .i64 (k : Int))).toNat
    simp [intOf]
    omega
end Go.Proofs.Ytgfcnkfmgpakkaa
/-
plan.CheckCut, walked.
-/
namespace Go.Proofs.Ytgfcnkfmgpakkaa
open Go.RowKit Go.Shelf
set_option linter.unusedVariables false
set_option maxRecDepth 100000 in
set_option maxHeartbeats 8000000 in
theorem plCheckCut_any (A A2 A3 A4 : Option Addr) (c N c2 T c3 N3 c4 N4 : Nat) (js : List GJob) (sup cj cs : List Int) (w : World) (hR : Rd 5 encJ w A js) (HN : Hid (js.length = N)) (hl : N ≤ 9223372036854775807) (hR2 : Rd 1 encI w A2 sup) (HN2 : Hid (sup.length = T)) (hl2 : T ≤ 9223372036854775807)
    (hR3 : Rd 1 encI w A3 cj) (HN3 : Hid (cj.length = N3)) (hl3 : N3 ≤ 9223372036854775807) (hR4 : Rd 1 encI w A4 cs) (HN4 : Hid (cs.length = N4)) (hl4 : N4 ≤ 9223372036854775807) :
    Calls Try.prog 34 #[.slice A N c, .slice A2 T c2, .agg #[.slice A3 N3 c3, .slice A4 N4 c4]] w fun e w' => e = .returned (.bool (cutPB js sup cj cs)) ∧ Below w.heap.size w w' := by
  refine (callsIn_wide (n := 5)).1 ?_
  refine callsIn_of_wp_marks Try.func34 rfl trivial ?_ rfl
  refine wpIn_wide.2 ?_
  simp only [Try.ntmps34, List.size_toArray, List.length_cons, List.length_nil, Nat.reduceAdd, Nat.reduceSub, Array.replicate_succ, Array.replicate_zero, List.push_toArray, List.append_toArray, List.nil_append, List.cons_append]
  have a1 : Below w.heap.size w ((w.alloc (.cells #[.slice A N c] 22)).alloc (.cells #[.slice A3 N3 c3, .slice A4 N4 c4] 30)) := ((Below.refl _ w).alloc (Nat.le_refl _) _).alloc (by simp) _
  go_wp2_with fail
  refine (plValid_any A A2 c N c2 T js sup _ (hR.keep a1) HN hl (hR2.keep a1) HN2 hl2).mono ?_
  rintro e w1 ⟨rfl, hb1⟩
  have k0 : w1.cell? ⟨w.heap.size, 0, none⟩ = some (.slice A N c) := (hb1.cell (p := ⟨w.heap.size, 0, none⟩) (by simp; omega)).trans (by go_simp)
  have k1 : w1.cell? ⟨w.heap.size + 1, 0, none⟩ = some (.slice A3 N3 c3) := (hb1.cell (p := ⟨w.heap.size + 1, 0, none⟩) (by simp)).trans (by go_simp)
  have k2 : w1.cell? ⟨w.heap.size + 1, 1, none⟩ = some (.slice A4 N4 c4) := (hb1.cell (p := ⟨w.heap.size + 1, 1, none⟩) (by simp)).trans (by go_simp)
  have b1 : Below w.heap.size w w1 := below_then a1 hb1
  clear hb1 a1
  cases hok : okP js sup
  · have HC : Hid (cutPB js sup cj cs = false) := Lib.hid (by unfold cutPB; rw [hok]; rfl)
    go_wp2_with fail
    refine leaves_marks (B := w.heap.size) [] _ (Marks.nil _ _) (fun W3 hT => ⟨.bool false, results_tmp (t := 6) (by kernel_rfl) _ _ _, ?_, ?_⟩)
    · rw [HC.out]
    · exact b1.trans (taken_below hT (Nat.le_refl _))
  · obtain ⟨⟨t1, t2⟩, _, _⟩ := okP_iff.1 hok
    rw [HN.out] at t1
    rw [HN2.out] at t2
    have HOK := Lib.hid hok
    have l1 := World.block_lt_of_cell? w1 _ k1
    dsimp only at l1
    go_wp2_with fail
    refine (plMarks_one A3 c3 N3 N cj w1 (hR3.keep b1) HN3 hl3 (by omega)).mono ?_
    rintro e w2 ⟨vm, rfl, hb2, ⟨a7, l7, c7, rfl⟩, hm⟩
    have k02 := (hb2.cell (p := ⟨w.heap.size, 0, none⟩) (by dsimp only; omega)).trans k0
    have k12 := (hb2.cell (p := ⟨w.heap.size + 1, 0, none⟩) l1).trans k1
    have k22 := (hb2.cell (p := ⟨w.heap.size + 1, 1, none⟩) l1).trans k2
    have b2 : Below w.heap.size w w2 := below_then b1 hb2
    have l2 : w.heap.size + 1 < w2.heap.size := World.block_lt_of_cell? w2 _ k12
    clear k0 k1 k2 hb2 b1 l1 hm
    go_wp2_with fail
    refine (plMarks_one A4 c4 N4 T cs w2 (hR4.keep b2) HN4 hl4 (by omega)).mono ?_
    rintro e w3 ⟨vm2, rfl, hb3, hsh, hm2⟩
    have k03 := (hb3.cell (p := ⟨w.heap.size, 0, none⟩) (by dsimp only; omega)).trans k02
    have k13 := (hb3.cell (p := ⟨w.heap.size + 1, 0, none⟩) l2).trans k12
    have k23 := (hb3.cell (p := ⟨w.heap.size + 1, 1, none⟩) l2).trans k22
    have b3 : Below w.heap.size w w3 := below_then b2 hb3
    have l3 : w.heap.size + 1 < w3.heap.size := World.block_lt_of_cell? w3 _ k13
    have hgs : w2.heap.size ≤ w3.heap.size := hb3.size
    have Hm2 := Lib.hid hm2
    clear k02 k12 k22 hb3 hm2
    have hcut : marksB cj N = true ∧ marksB cs T = true ∨ (marksB cj N = false ∨ marksB cj N = true ∧ marksB cs T = false) := by
      cases marksB cj N <;> cases marksB cs T <;> simp
    rcases hcut with ⟨g1, g2⟩ | hbad
    · obtain ⟨gi, rfl, own9, hg9⟩ := Hm2.out g2
      clear hsh Hm2
      rw [g1, g2]
      have HG1 : Hid (goodTo cj N cj.length) := Lib.hid (marksB_iff.1 g1)
      have HG2 : Hid (goodTo cs T cs.length) := Lib.hid (marksB_iff.1 g2)
      have HC : Hid (cutPB js sup cj cs = decide (roomC js sup (inL cj) (inL cs) < needC js (inL cj))) := Lib.hid (by unfold cutPB; rw [HOK.out, HN.out, HN2.out, g1, g2]; simp)
      have CM0 : Hid (CCm w ((w3.alloc (.cells #[.slice (some ⟨gi, 0, none⟩) T T] 75)).alloc (.cells #[.int .i64 0] 3)) A A3 A4 c N c3 N3 c4 N4 T w3.heap.size (w3.heap.size + 1) gi cs 0) := by
        refine Lib.hid ⟨?_, ?_, ?_, ?_, ?_, ?_, ?_, ?_, ?_⟩
        · exact (((Below.refl _ w3).alloc (Nat.le_refl _) _).alloc (by simp) _).cell (p := ⟨w.heap.size, 0, none⟩) (by dsimp only; omega) |>.trans k03
        · exact (((Below.refl _ w3).alloc (Nat.le_refl _) _).alloc (by simp) _).cell (p := ⟨w.heap.size + 1, 0, none⟩) l3 |>.trans k13
        · exact (((Below.refl _ w3).alloc (Nat.le_refl _) _).alloc (by simp) _).cell (p := ⟨w.heap.size + 1, 1, none⟩) l3 |>.trans k23
        · go_simp
        · exact Own.newAt _ _ _ _ (by simp) rfl (one_cellI _)
        · exact (own9.alloc _).alloc _
        · exact (b3.alloc b3.size _).alloc (Nat.le_trans b3.size (by simp)) _
        · have := own9.lt; omega
        · omega
      clear g1 g2 own9 k03 k13 k23 b3 hgs l3 hg9
      go_upto_region 8 with (fail)
      obtain ⟨bi, hbi⟩ : ∃ bi, bi = w3.heap.size := ⟨_, rfl⟩
      rw [← hbi] at CM0 ⊢
      clear hbi
      refine wp_world (fun W => CCm w W A A3 A4 c N c3 N3 c4 N4 T bi (bi + 1) gi cs 0) CM0.out ?_
      intro W0 M0
      clear CM0
      have q2 := M0.k2
      have HM0 := Lib.hid M0
      clear M0
      go_wp2
      have HRS := Lib.hid (And.intro hR (And.intro hR2 (And.intro hR3 hR4)))
      clear hR hR2 hR3 hR4 l2 b2
      have hsup := fun (t : Nat) (h : t < T) => okP_sup HOK.out (t := t) (by rw [HN2.out]; exact h)
      have HSUP := Lib.hid hsup
      clear hsup
      go_loopg [47] N4 (fun g1 v47 wr => ∃ k : Nat, v47 = .int .i64 k ∧ k ≤ N4 ∧ N4 - k ≤ g1 ∧ Hid (CCm w wr A A3 A4 c N c3 N3 c4 N4 T bi (bi + 1) gi cs (S k (fun i => fAt sup (fAt cs i).toNat))))
      case atStart => exact ⟨0, by go_num, by omega, by omega, HM0⟩
      case round =>
        clear HM0 q2
        obtain ⟨k, rfl, hk, hg1, HM⟩ := hrel
        have hk4 : k ≤ cs.length := by rw [HN4.out]; exact hk
        have hn4 : cs.length ≤ 24 := by
          have := good_len HG2.out
          omega
        have bk : 0 ≤ S k (fun i => fAt sup (fAt cs i).toNat) ∧ S k (fun i => fAt sup (fAt cs i).toNat) ≤ 24000 := by
          have h1 := S_nonneg (n := k) (g := fun i => fAt sup (fAt cs i).toNat) (fun i hi => by
            have := good_ge HG2.out (i := i) (by omega)
            exact (HSUP.out _ (by omega)).1)
          have h2 := S_bound (n := k) (g := fun i => fAt sup (fAt cs i).toNat) (c := 1000) (fun i hi => by
            have := good_ge HG2.out (i := i) (by omega)
            exact (HSUP.out _ (by omega)).2)
          omega
        by_cases hlt : k < N4
        · have hltz : (k : Int) < (N4 : Int) := by omega
          obtain ⟨b4, o4, hA4, hbl4, hc4⟩ := (HRS.out.2.2.2.keep HM.out.bel).int (k := k) (by rw [HN4.out]; exact hlt)
          have hgd := good_ge HG2.out (i := k) (by rw [HN4.out]; exact hlt)
          obtain ⟨d, hd⟩ : ∃ d : Nat, fAt cs k = d := ⟨(fAt cs k).toNat, by omega⟩
          have hdT : d < T := by omega
          have hdz : (d : Int) < (T : Int) := by omega
          have hc4' : wr.cell? ⟨b4, o4 + k, none⟩ = some (.int .i64 d) := by rw [hc4]; exact congrArg (fun x => some (Value.int .i64 x)) hd
          obtain ⟨b2, o2, hA2, hbl2, hc2⟩ := (HRS.out.2.1.keep HM.out.bel).int (k := d) (by rw [HN2.out]; exact hdT)
          have hc2' : wr.cell? ⟨b2, o2 + d, none⟩ = some (.int .i64 (fAt sup d)) := hc2
          have hsd := HSUP.out d hdT
          have Hs : Hid (S (k + 1) (fun i => fAt sup (fAt cs i).toNat) = S k (fun i => fAt sup (fAt cs i).toNat) + fAt sup d) := Lib.hid (by rw [S_succ, hd]; rfl)
          have rc := HM.out.ro.cell (i := 0) (by omega)
          have rf := HM.out.ro.frozen 0
          have rl := HM.out.ro.lt
          have HM2 := Lib.hid (fun o => HM.out.set (S k (fun i => fAt sup (fAt cs i).toNat) + fAt sup d) o)
          subst hA4 hA2
          clear hc4 hc2 hgd hd HM
          generalize S k (fun i => fAt sup (fAt cs i).toNat) = room at *
          generalize fAt sup d = sd at *
          go_upto_region 11 with (fail)
          refine wp_normal (fun K hK => ?_)
          refine cc11 wr (bi + 1) b2 o2 d T c2 room sd K hdz (by omega) (by omega) rl hbl2 rc rf hc2' _ _ _ _ _ _ _ _ _ _ _ _ _ _ _ _ _ _ _ _ _ _ _ _ _ _ _ _ _ _ _ _ _ _ _ _ _ _ _ _ _ _ _ _ _ _ _ _ _ _ _ _ _ _ _ _ _ _ _ _ _ _ _ _ _ _ _ _ _ _ _ _ _ _ _ _ _ _ _ _ _ _ _ _ _ _ _ _ _ _ _ _ _ _ ?_
          refine Lib.hid ?_
          intro v51 v52 v53 v54 v55 v56 v57
          refine hK _ _ ?_
          clear hK K
          have HM3 := Lib.hid (HM2.out (.cells #[.int .i64 room, .int .i64 sd] 3))
          clear HM2
          go_step
          go_wp2
          go_roundg (N4 - (k + 1))
          case measure => omega
          case rel => exact ⟨k + 1, by go_num, by omega, by omega, by rw [Hs.out]; exact HM3⟩
        · have hltz : ¬ (k : Int) < (N4 : Int) := by omega
          have hkN : k = cs.length := by rw [HN4.out]; omega
          subst hkN
          obtain ⟨R1, hR1⟩ : ∃ R1, R1 = S cs.length (fun i => fAt sup (fAt cs i).toNat) := ⟨_, rfl⟩
          rw [← hR1] at HM bk
          have HR1 := Lib.hid hR1
          have q1 := HM.out.k1
          clear hR1 hk hg1 hk4
          go_wp2
          have hws : w.heap.size ≤ wr.heap.size := HM.out.bel.size
          refine wp_loop (CInv w A A2 A3 A4 c N c2 T c3 N3 c4 N4 bi gi wr.heap.size js cj cs R1) (CMu N3) ?_ ?_
          · exact ⟨0, 0, [], _, _, _, _, _, _, _, _, _, _, _, _, _, _, _, _, _, _, _, _, _, _, _, _, _, _, _, _, _, _, _, _, _, _, _, _, _, _, _, _, _, _, _, _, _, _, _, _, _, _, _, _, _, _, _, _, _, _, _, _, _, _, _, _, _, _, _, _, _, _, _, _, _, _, _, _, _, _, _, _, _, _, _, _, _, _, _, by omega, rfl, by simpa [S] using HM.out, Marks.nil _ _, Nat.le_refl _, rfl⟩
          · rintro a W ⟨k, need, ds, u2, u4, u6, u7, u8, u10, u13, u14, u15, u16, u17, u18, u19, u20, u21, u22, u23, u24, u25, u26, u27, u28, u29, u30, u31, u32, u33, u34, u35, u36, u37, u38, u39, u40, u41, u42, u43, u44, u45, u46, u47, u48, u49, u50, u51, u52, u53, u54, u55, u56, u57, u58, u59, u63, u64, u65, u66, u67, u68, u69, u70, u71, u72, u73, u74, u75, u76, u77, u78, u79, u80, u81, u82, u83, u84, u85, u86, u87, u88, u89, u90, u91, u92, u93, u94, u95, u96, hk, hneed, m, hmk, hBW, rfl⟩
            by_cases hlt : k < N3
            · exact cc_some w W A A2 A3 A4 c N c2 T c3 N3 c4 N4 bi gi wr.heap.size k js sup cj cs need R1 ds _ (Lib.hid HRS.out.1) HN HOK HN2 (Lib.hid HRS.out.2.2.1) HN3 HG1 (by omega) hlt hneed m hmk hws hBW _ _ _ _ _ _ _ _ _ _ _ _ _ _ _ _ _ _ _ _ _ _ _ _ _ _ _ _ _ _ _ _ _ _ _ _ _ _ _ _ _ _ _ _ _ _ _ _ _ _ _ _ _ _ _ _ _ _ _ _ _ _ _ _ _ _ _ _ _ _ _ _ _ _ _ _ _ _ _ _ _ _ _ _ _ _ _
            · have hltz : ¬ (k : Int) < (N3 : Int) := by omega
              have hkN : k = cj.length := by rw [HN3.out]; omega
              have rc := m.ro.cell (i := 0) (by omega)
              have hG1' : goodTo cj js.length cj.length := by rw [HN.out]; exact HG1.out
              have hG2' : goodTo cs sup.length cs.length := by rw [HN2.out]; exact HG2.out
              have e1 := cut_need hG1'
              have e2 := cut_room hG1' hG2'
              rw [← hkN, ← hneed] at e1
              rw [← HR1.out, ← hkN, HN2.out] at e2
              have Hb := Lib.hid m.bel
              have HV : Hid (cutPB js sup cj cs = decide (R1 + S k (fun i => freeJ js T (inL cs) (fAt cj i).toNat) < need)) := Lib.hid (by rw [HC.out, e2, e1])
              clear m e1 e2 hG1' hG2' hneed hkN hlt
              generalize R1 + S k (fun i => freeJ js T (inL cs) (fAt cj i).toNat) = rm at *
              go_wp2_with fail
              refine leaves_marks (B := wr.heap.size) ds _ hmk (fun W3 hT => ⟨.bool (decide (rm < need)), results_tmp (t := 6) (by kernel_rfl) _ _ _, ?_, ?_⟩)
              · rw [HV.out]
              · exact Hb.out.trans (taken_below hT hws)
    · obtain ⟨a9, l9, c9, rfl⟩ := hsh
      have HC : Hid (cutPB js sup cj cs = false) := Lib.hid (by
        unfold cutPB
        rw [HN.out, HN2.out]
        rcases hbad with h | ⟨_, h⟩ <;> rw [h] <;> simp)
      rcases hbad with h | ⟨h, h'⟩
      · rw [h]
        go_wp2_with fail
        refine leaves_marks (B := w.heap.size) [] _ (Marks.nil _ _) (fun W3 hT => ⟨.bool false, results_tmp (t := 6) (by kernel_rfl) _ _ _, ?_, ?_⟩)
        · rw [HC.out]
        · exact (b3.alloc b3.size _).trans (taken_below hT (Nat.le_refl _))
      · rw [h, h']
        go_wp2_with fail
        refine leaves_marks (B := w.heap.size) [] _ (Marks.nil _ _) (fun W3 hT => ⟨.bool false, results_tmp (t := 6) (by kernel_rfl) _ _ _, ?_, ?_⟩)
        · rw [HC.out]
        · exact (b3.alloc b3.size _).trans (taken_below hT (Nat.le_refl _))
end Go.Proofs.Ytgfcnkfmgpakkaa
