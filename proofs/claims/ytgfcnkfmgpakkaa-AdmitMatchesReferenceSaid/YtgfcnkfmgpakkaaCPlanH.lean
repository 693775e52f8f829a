/-
A round of the second loop of plan.CheckCut: one job of the cut.
-/
import Derived.Test.YtgfcnkfmgpakkaaCPlanG
import Derived.Test.YtgfcnkfmgpakkaaGPlanC
import Derived.Test.YtgfcnkfmgpakkaaCPlanD0
namespace Go.Proofs.Ytgfcnkfmgpakkaa
open Go.RowKit Go.Shelf
attribute [local go_sem] Oper.semAt_some
set_option linter.unusedVariables false
set_option linter.unusedSimpArgs false
def findLoop (n : Nat) : Code → Option Code
  | .loop c => if (findRegion n c).isSome then some c else none
  | .seq a b => match findLoop n a with
    | some c => some c
    | none => findLoop n b
  | .block _ c => findLoop n c
  | .scope c => findLoop n c
  | .cond _ a b => match findLoop n a with
    | some c => some c
    | none => findLoop n b
  | _ => none
noncomputable def ccBody : Code := ((Try.f34.body.bind (findLoop 14)).getD .skip)
def lfN (cs : List Int) (r : Int) : List Nat → Int
  | [] => 0
  | x :: xs => pick (inL cs x = false) r + lfN cs r xs
theorem lfN_snoc (cs : List Int) (r : Int) (l : List Nat) (x : Nat) : lfN cs r (l ++ [x]) = lfN cs r l + pick (inL cs x = false) r := by
  induction l with
  | nil => simp [lfN]
  | cons y l ih => simp only [List.cons_append, lfN, ih]; omega
theorem lfN_all (cs : List Int) (j : GJob) (m : Nat) : lfN cs j.rate (slotsTo j m) = freeTo j (inL cs) m := by
  induction m with
  | zero => rfl
  | succ m ih =>
    unfold slotsTo at *
    rw [mk_succ, lfN_snoc, ih]
    rfl
theorem lfN_bd (cs : List Int) {r : Int} (h0 : 0 ≤ r) (h1 : r ≤ 1000) (l : List Nat) : 0 ≤ lfN cs r l ∧ lfN cs r l ≤ 1000 * l.length := by
  induction l with
  | nil => simp [lfN]
  | cons y l ih =>
    simp only [lfN, List.length_cons]
    unfold pick
    split <;> omega
/-- The frame in which the body begins. -/
def CAx (w : World) (bi bx : Nat) (t : Nat) (a' : Act) : Prop := ∃ u0 u1 u2 u4 u5 u6 u7 u8 u10 u11 u13 u14 u15 u18 u19 u20 u21 u22 u23 u24 u25 u26 u27 u28 u29 u30 u31 u32 u33 u34 u35 u36 u37 u38 u39 u40 u41 u42 u43 u44 u45 u46 u47 u48 u49 u50 u51 u52 u53 u54 u55 u56 u57 u58 u59 u60 u61 u62 u63 u64 u65 u66 u67 u68 u69 u70 u71 u72 u73 u74 u75 u76 u77 u78 u79 u80 u81 u82 u83 u84 u85 u86 u87 u88 u89 u90 u91 u92 u93 u94 u95 u96 : Value, a' = ⟨List.toArray (u0 :: u1 :: u2 :: (.pointer (some ⟨w.heap.size, 0, none⟩)) :: u4 :: u5 :: u6 :: u7 :: u8 :: (.pointer (some ⟨bi, 0, none⟩)) :: u10 :: u11 :: (.pointer (some ⟨bi + 1, 0, none⟩)) :: u13 :: u14 :: u15 :: (.pointer (some ⟨bx, 0, none⟩)) :: (.int .i64 (t : Nat)) :: u18 :: u19 :: u20 :: u21 :: u22 :: u23 :: u24 :: u25 :: u26 :: u27 :: u28 :: u29 :: u30 :: u31 :: u32 :: u33 :: u34 :: u35 :: u36 :: u37 :: u38 :: u39 :: u40 :: u41 :: u42 :: u43 :: u44 :: u45 :: u46 :: u47 :: u48 :: u49 :: u50 :: u51 :: u52 :: u53 :: u54 :: u55 :: u56 :: u57 :: u58 :: u59 :: u60 :: u61 :: u62 :: u63 :: u64 :: u65 :: u66 :: u67 :: u68 :: u69 :: u70 :: u71 :: u72 :: u73 :: u74 :: u75 :: u76 :: u77 :: u78 :: u79 :: u80 :: u81 :: u82 :: u83 :: u84 :: u85 :: u86 :: u87 :: u88 :: u89 :: u90 :: u91 :: u92 :: u93 :: u94 :: u95 :: u96 :: []), []⟩
/-- What holds between two slots. -/
def CMid (w : World) (A A3 A4 : Option Addr) (c N c3 N3 c4 N4 T bi gi bx d m0 B : Nat) (cs : List Int) (room : Int) (ds : List Deferred) (W : World) : Prop :=
  CCm w W A A3 A4 c N c3 N3 c4 N4 T bi (bi + 1) gi cs room ∧ W.cell? ⟨bx, 0, none⟩ = some (.int .i64 d) ∧ MarksLt B m0 W ds ∧ m0 ≤ W.heap.size
theorem CMid.nc {w : World} {A A3 A4 : Option Addr} {c N c3 N3 c4 N4 T bi gi bx d m0 B : Nat} {cs : List Int} {room : Int} {ds : List Deferred} {W W' : World} (h : CMid w A A3 A4 c N c3 N3 c4 N4 T bi gi bx d m0 B cs room ds W) (hn : Nc m0 W W') (hw : w.heap.size ≤ m0) : CMid w A A3 A4 c N c3 N3 c4 N4 T bi gi bx d m0 B cs room ds W' := by
  obtain ⟨m, c0, mk, hs⟩ := h
  refine ⟨⟨cell_nc m.k0 hn, cell_nc m.k1 hn, cell_nc m.k2 hn, cell_nc m.ki hn, m.ro.nc hn, m.og.nc hn, below_nc m.bel (Nat.le_refl _) hn hw, m.gl, m.bb⟩, cell_nc c0 hn, mk.nc hn, ?_⟩
  obtain ⟨row, hg, _⟩ := hn
  exact Nat.le_trans hs hg.size
set_option maxRecDepth 100000 in
set_option maxHeartbeats 4000000 in
theorem cc_round (w W : World) (A2 A4 : Option Addr) (bj oj b3 o3 c N c2 T c3 N3 c4 N4 bi gi B k d : Nat) (js : List GJob) (sup cj cs : List Int) (need room : Int) (ds : List Deferred) (R : Act → World → Prop) (Q0 : Exit → Act → World → Prop)
  (HR : Hid (Rd 5 encJ w (some ⟨bj, oj, none⟩) js)) (HN : Hid (js.length = N)) (HOK : Hid (okP js sup = true)) (HN2 : Hid (sup.length = T))
  (hk : k < N3) (hN3 : N3 ≤ 24) (c3k : W.cell? ⟨b3, o3 + k, none⟩ = some (.int .i64 d)) (hd : d < N) (hneed : 0 ≤ need ∧ need ≤ 100000) (hroom : 0 ≤ room ∧ room ≤ 400000)
  (HM : Hid (CCm w W (some ⟨bj, oj, none⟩) (some ⟨b3, o3, none⟩) A4 c N c3 N3 c4 N4 T bi (bi + 1) gi cs room)) (hmk : Marks B W ds) (hB : w.heap.size ≤ B) (hBW : B ≤ W.heap.size)
  (u2 u4 u6 u7 u8 u10 u13 u14 u15 u16 u17 u18 u19 u20 u21 u22 u23 u24 u25 u26 u27 u28 u29 u30 u31 u32 u33 u34 u35 u36 u37 u38 u39 u40 u41 u42 u43 u44 u45 u46 u47 u48 u49 u50 u51 u52 u53 u54 u55 u56 u57 u58 u59 u63 u64 u65 u66 u67 u68 u69 u70 u71 u72 u73 u74 u75 u76 u77 u78 u79 u80 u81 u82 u83 u84 u85 u86 u87 u88 u89 u90 u91 u92 u93 u94 u95 u96 : Value)
  (HK : Hid (∀ (W' : World) (D : Nat) (u2 u4 u6 u7 u8 u10 u13 u14 u15 u16 u17 u18 u19 u20 u21 u22 u23 u24 u25 u26 u27 u28 u29 u30 u31 u32 u33 u34 u35 u36 u37 u38 u39 u40 u41 u42 u43 u44 u45 u46 u47 u48 u49 u50 u51 u52 u53 u54 u55 u56 u57 u58 u59 u63 u64 u65 u66 u67 u68 u69 u70 u71 u72 u73 u74 u75 u76 u77 u78 u79 u80 u81 u82 u83 u84 u85 u86 u87 u88 u89 u90 u91 u92 u93 u94 u95 u96 : Value), CCm w W' (some ⟨bj, oj, none⟩) (some ⟨b3, o3, none⟩) A4 c N c3 N3 c4 N4 T bi (bi + 1) gi cs (room + freeTo (jAt js d) (inL cs) (lenJ (jAt js d))) → Marks B W' ({ target := .collected D, args := #[] } :: ds) → B ≤ W'.heap.size → R ⟨List.toArray ((.slice (some ⟨bj, oj, none⟩) N c) :: (.slice A2 T c2) :: u2 :: (.pointer (some ⟨w.heap.size, 0, none⟩)) :: u4 :: (.pointer (some ⟨w.heap.size + 1, 0, none⟩)) :: u6 :: u7 :: u8 :: (.pointer (some ⟨bi, 0, none⟩)) :: u10 :: (.int .i64 (need + (jAt js d).energy)) :: (.pointer (some ⟨bi + 1, 0, none⟩)) :: u13 :: u14 :: u15 :: u16 :: u17 :: u18 :: u19 :: u20 :: u21 :: u22 :: u23 :: u24 :: u25 :: u26 :: u27 :: u28 :: u29 :: u30 :: u31 :: u32 :: u33 :: u34 :: u35 :: u36 :: u37 :: u38 :: u39 :: u40 :: u41 :: u42 :: u43 :: u44 :: u45 :: u46 :: u47 :: u48 :: u49 :: u50 :: u51 :: u52 :: u53 :: u54 :: u55 :: u56 :: u57 :: u58 :: u59 :: (.slice (some ⟨b3, o3, none⟩) N3 c3) :: (.int .i64 N3) :: (.int .i64 ((k : Int) + 1)) :: u63 :: u64 :: u65 :: u66 :: u67 :: u68 :: u69 :: u70 :: u71 :: u72 :: u73 :: u74 :: u75 :: u76 :: u77 :: u78 :: u79 :: u80 :: u81 :: u82 :: u83 :: u84 :: u85 :: u86 :: u87 :: u88 :: u89 :: u90 :: u91 :: u92 :: u93 :: u94 :: u95 :: u96 :: []), { target := .collected D, args := #[] } :: ds⟩ W')) :
  Code.wp Try.prog ccBody (Exit.then R Q0) ⟨List.toArray ((.slice (some ⟨bj, oj, none⟩) N c) :: (.slice A2 T c2) :: u2 :: (.pointer (some ⟨w.heap.size, 0, none⟩)) :: u4 :: (.pointer (some ⟨w.heap.size + 1, 0, none⟩)) :: u6 :: u7 :: u8 :: (.pointer (some ⟨bi, 0, none⟩)) :: u10 :: (.int .i64 need) :: (.pointer (some ⟨bi + 1, 0, none⟩)) :: u13 :: u14 :: u15 :: u16 :: u17 :: u18 :: u19 :: u20 :: u21 :: u22 :: u23 :: u24 :: u25 :: u26 :: u27 :: u28 :: u29 :: u30 :: u31 :: u32 :: u33 :: u34 :: u35 :: u36 :: u37 :: u38 :: u39 :: u40 :: u41 :: u42 :: u43 :: u44 :: u45 :: u46 :: u47 :: u48 :: u49 :: u50 :: u51 :: u52 :: u53 :: u54 :: u55 :: u56 :: u57 :: u58 :: u59 :: (.slice (some ⟨b3, o3, none⟩) N3 c3) :: (.int .i64 N3) :: (.int .i64 k) :: u63 :: u64 :: u65 :: u66 :: u67 :: u68 :: u69 :: u70 :: u71 :: u72 :: u73 :: u74 :: u75 :: u76 :: u77 :: u78 :: u79 :: u80 :: u81 :: u82 :: u83 :: u84 :: u85 :: u86 :: u87 :: u88 :: u89 :: u90 :: u91 :: u92 :: u93 :: u94 :: u95 :: u96 :: []), ds⟩ W := by
  have HRoom := Lib.hid hroom
  have okj := okP_job HOK.out (i := d) (by rw [HN.out]; exact hd)
  obtain ⟨p1, p2, p3, p4, p5, p6, p7, _, _⟩ := okj
  have hT : T ≤ 24 := by have := (okP_iff.1 HOK.out).1.2; rw [HN2.out] at this; exact this
  rw [HN2.out] at p3
  obtain ⟨b, off, j, hA, hbl, hj, g0, g1, g2, g3, g4⟩ := rdJ_at (HR.out.keep HM.out.bel) (k := d) (by rw [HN.out]; exact hd)
  injection hA with hA
  injection hA with ea eb
  subst ea eb
  have ej : jAt js d = j := by unfold jAt; rw [hj]; rfl
  rw [ej] at p1 p2 p3 p4 p5 p6 p7 HK
  have k0 := HM.out.k0
  have Lbr := Lib.hid HM.out.ro.lt
  have l0 := World.block_lt_of_cell? W _ k0
  have hkz : (k : Int) < (N3 : Int) := by omega
  have hdz : (d : Int) < (N : Int) := by omega
  dsimp only at l0
  have Hj := Lib.hid ej
  clear hj ej
  conv => arg 2; whnf
  have hs2 := plSum_two need j.energy (W.alloc (.cells #[.int .i64 d] 3)) (by omega) (by omega)
  rw [World.size_alloc] at hs2
  have HS := Lib.hid hs2
  clear hs2
  go_wp2_with fail
  refine HS.out.mono ?_
  rintro e w' ⟨rfl, rfl⟩
  clear HS
  obtain ⟨W2, hW2⟩ : ∃ W2, W2 = (W.alloc (.cells #[.int .i64 d] 3)).alloc (.cells #[.int .i64 need, .int .i64 j.energy] 3) := ⟨_, rfl⟩
  have bw : Below W.heap.size W W2 := by rw [hW2]; exact ((Below.refl _ W).alloc (Nat.le_refl _) _).alloc (by simp) _
  have cx : W2.cell? ⟨W.heap.size, 0, none⟩ = some (.int .i64 d) := by rw [hW2]; go_simp
  have hsz : W2.heap.size = W.heap.size + 2 := by rw [hW2]; simp
  rw [← hW2]
  have HM2 := Lib.hid (HM.out.keep bw)
  have mk2 := hmk.below bw
  have r0 := (bw.cell (p := ⟨w.heap.size, 0, none⟩) l0).trans k0
  have rj := HR.out.keep HM2.out.bel
  obtain ⟨b', off', j', hA', hbl', hj', y0, y1, y2, y3, y4⟩ := rdJ_at rj (k := d) (by rw [HN.out]; exact hd)
  injection hA' with hA'
  injection hA' with ea' eb'
  subst ea' eb'
  have ej' : j' = j := by rw [← Hj.out]; unfold jAt; rw [hj']; rfl
  subst ej'
  obtain ⟨bx, hbx⟩ : ∃ bx, bx = W.heap.size := ⟨_, rfl⟩
  rw [← hbx] at cx hsz ⊢
  have hbxW : bx < W2.heap.size := by omega
  have Hszx := Lib.hid (And.intro hsz hbx)
  clear hW2 HM k0 g0 g1 g2 g3 g4 c3k hmk hj' hbl hbl' rj hsz hbx bw
  go_wp2_with fail
  refine (plSlots_any j' W2).mono ?_
  rintro e w' ⟨rfl, rfl⟩
  obtain ⟨W3, hW3⟩ : ∃ W3, W3 = W2.alloc (.cells #[.int .i64 j'.frm, .int .i64 j'.till, .int .i64 j'.energy, .int .i64 j'.rate, .int .i64 j'.rank] 25) := ⟨_, rfl⟩
  have bw3 : Below W2.heap.size W2 W3 := by rw [hW3]; exact (Below.refl _ W2).alloc (Nat.le_refl _) _
  have z0 : W3.cell? ⟨W2.heap.size, 0, none⟩ = some (.int .i64 j'.frm) := by rw [hW3]; go_simp
  have z1 : W3.cell? ⟨W2.heap.size, 1, none⟩ = some (.int .i64 j'.till) := by rw [hW3]; go_simp
  have hs3 : W3.heap.size = W2.heap.size + 1 := by rw [hW3]; simp
  rw [← hW3]
  have HM3 := Lib.hid (HM2.out.keep bw3)
  have mk3 := mk2.below bw3
  have cx3 := (bw3.cell (p := ⟨bx, 0, none⟩) hbxW).trans cx
  have hB3 : B ≤ W3.heap.size := by have := Hszx.out; omega
  have Hs3 := Lib.hid hs3
  clear hs3
  clear hW3 HM2 mk2 y0 y1 y2 y3 y4 r0 cx
  go_wp2_with fail
  have hw3 : w.heap.size ≤ W3.heap.size := HM3.out.bel.size
  refine range_slots (j := j') p1 p2 (by omega) (g := .tmp 78) (p := 79) W2.heap.size w.heap.size rfl z0 z1 hw3 (fun pre W' => CMid w (some ⟨bj, oj, none⟩) (some ⟨b3, o3, none⟩) A4 c N c3 N3 c4 N4 T bi gi bx d W3.heap.size B cs (room + lfN cs j'.rate (pre.map (fun (y : SlotAt j') => y.1))) ds W') ?hI ?h0 (fun x a' => CAx w bi bx x.1 a') ?assign ?body ?done
  case hI => exact fun pre W' W'' h hn => h.nc hn hw3
  case h0 =>
    refine ⟨by simpa [lfN] using HM3.out, cx3, ⟨mk3, ?_⟩, Nat.le_refl _⟩
    obtain ⟨Ds, e, _, hD⟩ := mk3
    intro x hx
    rw [e] at hx
    obtain ⟨D, hm, rfl⟩ := List.mem_map.1 hx
    exact ⟨D, rfl, (hD D hm).2.1⟩
  case assign =>
    intro l x W1 K hK
    gi_wp2
    exact ⟨_, _, _, _, _, _, _, _, _, _, _, _, _, _, _, _, _, _, _, _, _, _, _, _, _, _, _, _, _, _, _, _, _, _, _, _, _, _, _, _, _, _, _, _, _, _, _, _, _, _, _, _, _, _, _, _, _, _, _, _, _, _, _, _, _, _, _, _, _, _, _, _, _, _, _, _, _, _, _, _, _, _, _, _, _, _, _, _, _, _, _, _, rfl⟩
  case body =>
    rintro l pre ⟨t, ht⟩ a' W1 ⟨m, x0, mk, hs⟩ ⟨y_0, y_1, y_2, y_4, y_5, y_6, y_7, y_8, y_10, y_11, y_13, y_14, y_15, y_18, y_19, y_20, y_21, y_22, y_23, y_24, y_25, y_26, y_27, y_28, y_29, y_30, y_31, y_32, y_33, y_34, y_35, y_36, y_37, y_38, y_39, y_40, y_41, y_42, y_43, y_44, y_45, y_46, y_47, y_48, y_49, y_50, y_51, y_52, y_53, y_54, y_55, y_56, y_57, y_58, y_59, y_60, y_61, y_62, y_63, y_64, y_65, y_66, y_67, y_68, y_69, y_70, y_71, y_72, y_73, y_74, y_75, y_76, y_77, y_78, y_79, y_80, y_81, y_82, y_83, y_84, y_85, y_86, y_87, y_88, y_89, y_90, y_91, y_92, y_93, y_94, y_95, y_96, rfl⟩ hlen
    have hin := ht
    unfold inJ at hin
    have htT : t < T := by omega
    have htz : (t : Int) < (T : Int) := by omega
    have ci := m.ki
    have cg := m.og.cell htT
    have bd := lfN_bd cs p6 p7 (pre.map (fun (y : SlotAt j') => y.1))
    rw [List.length_map] at bd
    have hl24 : lenJ j' ≤ 24 := by unfold lenJ; omega
    have Hsn : Hid (lfN cs j'.rate ((pre ++ [(⟨t, ht⟩ : SlotAt j')]).map (fun (y : SlotAt j') => y.1)) = lfN cs j'.rate (pre.map (fun (y : SlotAt j') => y.1)) + pick (inL cs t = false) j'.rate) := Lib.hid (by rw [List.map_append]; exact lfN_snoc _ _ _ _)
    have Hsn2 : Hid (lfN cs j'.rate (pre.unattach ++ [t]) = lfN cs j'.rate (pre.map (fun (y : SlotAt j') => y.1)) + pick (inL cs t = false) j'.rate) := Lib.hid (lfN_snoc cs j'.rate (pre.map (fun (y : SlotAt j') => y.1)) t)
    generalize lfN cs j'.rate (pre.map (fun (y : SlotAt j') => y.1)) = lf at *
    cases hit : inL cs t
    case true =>
      rw [hit] at cg
      have Hm : Hid (CMid w (some ⟨bj, oj, none⟩) (some ⟨b3, o3, none⟩) A4 c N c3 N3 c4 N4 T bi gi bx d W3.heap.size B cs (room + lf) ds W1) := Lib.hid ⟨m, x0, mk, hs⟩
      have Hp : Hid (pick (inL cs t = false) j'.rate = 0) := Lib.hid (pick_neg (by rw [hit]; simp) _)
      clear m mk
      gi_wp2
      refine ⟨KeepsFrom.refl _ _, ⟨Below.refl _ _, rfl⟩, ?_⟩
      rw [Hsn2.out, Hp.out, Int.add_zero]
      exact Hm.out
    case false =>
      rw [hit] at cg
      have Hp : Hid (pick (inL cs t = false) j'.rate = j'.rate) := Lib.hid (pick_pos hit _)
      have rc := m.ro.cell (i := 0) (by omega)
      have rf := m.ro.frozen 0
      have jb := m.k0
      obtain ⟨b4, o4, j4, hA4, hbl4, hj4, v0, v1, v2, v3, v4⟩ := rdJ_at (HR.out.keep m.bel) (k := d) (by rw [HN.out]; exact hd)
      injection hA4 with hA4
      injection hA4 with ea4 eb4
      subst ea4 eb4
      have ej4 : j4 = j' := by rw [← Hj.out]; unfold jAt; rw [hj4]; rfl
      subst ej4
      have HSet := Lib.hid (fun o => m.set (room + lf + j4.rate) o)
      have Hkeep : Hid (MarksLt B W3.heap.size W1 ds) := Lib.hid mk
      have ls := World.block_lt_of_cell? W1 _ x0
      have lr := m.ro.lt
      have lj := World.block_lt_of_cell? W1 _ jb
      have lbj := World.block_lt_of_cell? W1 _ v3
      have hro := m.ro
      have hbb := m.bb
      have hbl : pre.length ≤ 24 := by omega
      have hrm := HRoom.out
      have hsum := plSum_two (room + lf) j4.rate W1.drew (by omega) (by omega)
      have hsum2 : Calls Try.prog 53 #[.slice (some ⟨W1.heap.size, 0, none⟩) 2 2] (W1.alloc (.cells #[.int .i64 (room + lf), .int .i64 j4.rate] 3)).drew fun e w' => e = .returned (.int .i64 (room + lf + j4.rate)) ∧ w' = (W1.alloc (.cells #[.int .i64 (room + lf), .int .i64 j4.rate] 3)).drew := hsum
      have HSum := Lib.hid hsum2
      clear hsum hsum2 m mk hj4 v0 v1 v2 v4 hbl4
      dsimp only at ls lj lbj
      have n1 : bx ≠ bi + 1 := by have := Hszx.out; have := Lbr.out; omega
      have n2 : w.heap.size ≠ bi + 1 := by omega
      have n3 : bj ≠ bi + 1 := by
        obtain ⟨_, _, e, hlt, _⟩ := HR.out (by rw [HN.out]; omega)
        injection e with e
        injection e with e
        omega
      gi_wp2
      refine region_round (S := fun w' => w'.cell? ⟨w.heap.size, 0, none⟩ = some (.slice (some ⟨bj, oj, none⟩) N c) ∧ w'.cell? ⟨bx, 0, none⟩ = some (.int .i64 d) ∧ w'.cell? ⟨bj, oj + d * 5 + 3, none⟩ = some (.int .i64 j4.rate)) (by kernel_rfl) (by kernel_rfl) ⟨jb, x0, v3⟩ (fun hHeld => ?_)
      refine wpAnyH_take (i := 1) (v := .slice (some ⟨bj, oj, none⟩) N c) rfl (by kernel_rfl) (by kernel_rfl) (by kernel_rfl) (fun _ _ _ h => absurd h.1 (by simp)) (Or.inl ⟨by rfl, fun w' hSw => ?_⟩) hHeld ?_
      · obtain ⟨s0, s1, s2⟩ := hSw
        go_simp
      simp only [Act.put, List.setIfInBounds_toArray, List.set_cons_zero, List.set_cons_succ]
      refine wpAnyH_take (i := 2) (v := .int .i64 d) rfl (by kernel_rfl) (by kernel_rfl) (by kernel_rfl) (fun _ _ _ h => absurd h.1 (by simp)) (Or.inl ⟨by rfl, fun w' hSw => ?_⟩) hHeld ?_
      · obtain ⟨s0, s1, s2⟩ := hSw
        go_simp
      simp only [Act.put, List.setIfInBounds_toArray, List.set_cons_zero, List.set_cons_succ]
      refine wpAnyH_take (i := 3) (v := .pointer (some ⟨bj, oj + d * 5, none⟩)) rfl (by kernel_rfl) (by kernel_rfl) (by kernel_rfl) (fun _ _ _ h => absurd h.1 (by simp)) (Or.inl ⟨by rfl, fun w' hSw => ?_⟩) hHeld ?_
      · obtain ⟨s0, s1, s2⟩ := hSw
        go_simp
      simp only [Act.put, List.setIfInBounds_toArray, List.set_cons_zero, List.set_cons_succ]
      refine wpAnyH_take (i := 4) (v := .pointer (some ⟨bj, oj + d * 5 + 3, none⟩)) rfl (by kernel_rfl) (by kernel_rfl) (by kernel_rfl) (fun _ _ _ h => absurd h.1 (by simp)) (Or.inl ⟨by rfl, fun w' hSw => ?_⟩) hHeld ?_
      · obtain ⟨s0, s1, s2⟩ := hSw
        go_simp
      simp only [Act.put, List.setIfInBounds_toArray, List.set_cons_zero, List.set_cons_succ]
      refine wpAnyH_take (i := 5) (v := .int .i64 j4.rate) rfl (by kernel_rfl) (by kernel_rfl) (by kernel_rfl) (fun _ _ _ h => absurd h.1 (by simp)) (Or.inl ⟨by rfl, fun w' hSw => ?_⟩) hHeld ?_
      · obtain ⟨s0, s1, s2⟩ := hSw
        go_simp
      simp only [Act.put, List.setIfInBounds_toArray, List.set_cons_zero, List.set_cons_succ]
      refine wpAnyH_ready (rs := [0]) (by kernel_rfl) (by simp) (AllReadyH.cons rfl (fun K hK => ?_) AllReadyH.nil)
      go_simp
      refine hK.out _ _ ?_ (fun hHeld => ?_)
      · refine ⟨?_, ?_, ?_⟩ <;> go_simp
      clear hK K
      try simp only [Act.put, List.setIfInBounds_toArray, List.set_cons_zero, List.set_cons_succ]
      refine wpAnyH_ready (rs := [6]) (by kernel_rfl) (by simp) (AllReadyH.cons rfl (fun K hK => ?_) AllReadyH.nil)
      go_simp
      refine hK.out _ _ ?_ (fun hHeld => ?_)
      · refine ⟨?_, ?_, ?_⟩ <;> go_simp
      clear hK K
      try simp only [Act.put, List.setIfInBounds_toArray, List.set_cons_zero, List.set_cons_succ]
      refine wpAnyH_ready (rs := [7]) (by kernel_rfl) (by simp) (AllReadyH.cons rfl (fun K hK => ?_) AllReadyH.nil)
      go_simp
      refine HSum.out.mono ?_
      rintro e w' ⟨rfl, rfl⟩
      refine hK.out _ _ ?_ (fun hHeld => ?_)
      · refine ⟨?_, ?_, ?_⟩ <;> go_simp
      clear hK K
      try simp only [Act.put, List.setIfInBounds_toArray, List.set_cons_zero, List.set_cons_succ]
      refine wpAnyH_ready (rs := [8]) (by kernel_rfl) (by simp) (AllReadyH.cons rfl (fun K hK => ?_) AllReadyH.nil)
      go_simp
      refine hK.out _ _ ?_ (fun hHeld => ?_)
      · refine ⟨?_, ?_, ?_⟩ <;> go_simp
      clear hK K
      try simp only [Act.put, List.setIfInBounds_toArray, List.set_cons_zero, List.set_cons_succ]
      refine wpAnyH_done (by kernel_rfl) ⟨rfl, ?_⟩ _
      clear hHeld
      have HM5 := HSet.out (.cells #[.int .i64 (room + lf), .int .i64 j4.rate] 3)
      have hsz5 : (((W1.setCell ⟨bi + 1, 0, none⟩ (.int .i64 (room + lf + j4.rate))).alloc (.cells #[.int .i64 (room + lf), .int .i64 j4.rate] 3)).drew).heap.size = W1.heap.size + 1 := by show ((W1.setCell _ _).heap.push _).size = _; simp [World.setCell]
      have hM5 : Mod (fun q => q = bi + 1) W1 (((W1.setCell ⟨bi + 1, 0, none⟩ (.int .i64 (room + lf + j4.rate))).alloc (.cells #[.int .i64 (room + lf), .int .i64 j4.rate] 3)).drew) := (((Mod.refl (fun q => q = bi + 1) W1).setCell (p := ⟨bi + 1, 0, none⟩) (.inl rfl) _).alloc _).drew
      generalize ((W1.setCell ⟨bi + 1, 0, none⟩ (.int .i64 (room + lf + j4.rate))).alloc (.cells #[.int .i64 (room + lf), .int .i64 j4.rate] 3)).drew = W5 at *
      have hkf : ∀ B', KeepsFrom B' W1 W5 := fun B' => keepsFrom_mod hM5 _ (fun q hq o ho => by subst hq; exact hro.cells ho)
      have hz := Hszx.out
      have hz3 := Hs3.out
      have hlb := Lbr.out
      refine And.intro (a := Exit.normal = Exit.normal) rfl ⟨hkf _, ⟨hM5.below (Nat.le_trans hw3 hs) (fun q _ hq => by omega), hM5.block _ (by omega) (by omega)⟩, ?_⟩
      show CMid w (some ⟨bj, oj, none⟩) (some ⟨b3, o3, none⟩) A4 c N c3 N3 c4 N4 T bi gi bx d W3.heap.size B cs (room + lfN cs j4.rate ((pre ++ [(⟨t, ht⟩ : SlotAt j4)]).map (fun (y : SlotAt j4) => y.1))) ds W5
      rw [Hsn.out, Hp.out, ← Int.add_assoc]
      exact ⟨HM5, (hM5.cell (p := ⟨bx, 0, none⟩) ls n1).trans x0, ⟨Hkeep.out.1.keeps (hkf _), Hkeep.out.2⟩, Nat.le_trans hs hM5.size⟩
  case done =>
    intro D ys W1 hD hS hm hdf
    obtain ⟨m, x0, mk, hs⟩ := hm
    rw [hS, lfN_all] at m
    have Hm := Lib.hid m
    have Hmk : Hid (Marks B W1 ({ target := .collected D, args := #[] } :: ds)) := Lib.hid (marks_more mk hD hB3 hdf)
    have hBW1 : B ≤ W1.heap.size := Nat.le_trans hB3 hs
    clear m mk
    go_wp2_with fail
    exact HK.out W1 D _ _ _ _ _ _ _ _ _ _ _ _ _ _ _ _ _ _ _ _ _ _ _ _ _ _ _ _ _ _ _ _ _ _ _ _ _ _ _ _ _ _ _ _ _ _ _ _ _ _ _ _ _ _ _ _ _ _ _ _ _ _ _ _ _ _ _ _ _ _ _ _ _ _ _ _ _ _ _ _ _ _ _ _ _ _ _ Hm.out Hmk.out hBW1
end Go.Proofs.Ytgfcnkfmgpakkaa
