/-
The law's head.
-/
import Derived.Test.YtjlfnhfiiailgaaCLawH0
namespace Go.Proofs.Ytjlfnhfiiailgaa
open Go.RowKit
set_option linter.unusedVariables false
set_option linter.unusedSimpArgs false
/-- The memory of the head: the site and its box. -/
structure HdM (w W : World) (X : Nat) (a1 a2 a4 : Option Addr) : Prop where
  bel : Below w.heap.size w W
  k0 : W.cell? ⟨X, 0, none⟩ = some (.slice a1 4 4)
  k1 : W.cell? ⟨X, 1, none⟩ = some (.slice a2 1 1)
  k2 : W.cell? ⟨X, 2, none⟩ = some (.slice none 0 0)
  k3 : W.cell? ⟨X, 3, none⟩ = some (.slice a4 3 3)
  k4 : W.cell? ⟨X, 4, none⟩ = some (.slice none 0 0)
  rs : RdSite W a1 a2 none a4 none 4 1 0 3 0 headS
theorem HdM.keep {w W W' : World} {X : Nat} {a1 a2 a4 : Option Addr} (h : HdM w W X a1 a2 a4) (hb : Below W.heap.size W W') : HdM w W' X a1 a2 a4 := by
  have l := World.block_lt_of_cell? W _ h.k0
  exact ⟨below_then h.bel hb, (hb.cell (p := ⟨X, 0, none⟩) l).trans h.k0, (hb.cell (p := ⟨X, 1, none⟩) l).trans h.k1, (hb.cell (p := ⟨X, 2, none⟩) l).trans h.k2, (hb.cell (p := ⟨X, 3, none⟩) l).trans h.k3, (hb.cell (p := ⟨X, 4, none⟩) l).trans h.k4, h.rs.keep hb⟩
set_option maxRecDepth 100000 in
set_option maxHeartbeats 8000000 in
theorem ltHead_any (w : World) : Calls Try.prog 10 #[] w fun e w' => e = .returned (.bool true) ∧ Below w.heap.size w w' := by
  go_enter Try.func10, Try.ntmps10
  go_wp2_with fail
  refine (ltCable_any ⟨#[102]⟩ (-1) w).mono ?_
  rintro e w1 ⟨rfl, h1⟩
  have b1 : Below w.heap.size w w1 := h1
  clear h1
  go_wp2_with fail
  refine (ltCable_any ⟨#[97]⟩ 0 w1).mono ?_
  rintro e w2 ⟨rfl, h2⟩
  have b2 : Below w.heap.size w w2 := below_then b1 h2
  clear h2
  go_wp2_with fail
  refine (ltCable_any ⟨#[98]⟩ 0 w2).mono ?_
  rintro e w3 ⟨rfl, h3⟩
  have b3 : Below w.heap.size w w3 := below_then b2 h3
  clear h3
  go_wp2_with fail
  refine (ltCable_any ⟨#[99]⟩ 1 w3).mono ?_
  rintro e w4 ⟨rfl, h4⟩
  have b4 : Below w.heap.size w w4 := below_then b3 h4
  clear h4
  go_wp2_with fail
  obtain ⟨W5, hW5⟩ : ∃ W5, W5 = (w4.alloc (.cells #[.string ⟨#[102]⟩, .int .i64 (-1), .int .i64 100, .int .i64 100, .int .i64 0, .int .i64 0, .int .i64 0, .int .i64 0, .int .i64 0, .int .i64 0, .int .i64 0, .string ⟨#[97]⟩, .int .i64 0, .int .i64 100, .int .i64 100, .int .i64 0, .int .i64 0, .int .i64 0, .int .i64 0, .int .i64 0, .int .i64 0, .int .i64 0, .string ⟨#[98]⟩, .int .i64 0, .int .i64 100, .int .i64 100, .int .i64 0, .int .i64 0, .int .i64 0, .int .i64 0, .int .i64 0, .int .i64 0, .int .i64 0, .string ⟨#[99]⟩, .int .i64 1, .int .i64 100, .int .i64 100, .int .i64 0, .int .i64 0, .int .i64 0, .int .i64 0, .int .i64 0, .int .i64 0, .int .i64 0] 48)).alloc (.cells #[.string ⟨#[111]⟩] 62) := ⟨_, rfl⟩
  have c5 : Below w4.heap.size w4 W5 := by rw [hW5]; exact ((Below.refl _ w4).alloc (Nat.le_refl _) _).alloc (by simp) _
  have b5 : Below w.heap.size w W5 := below_then b4 c5
  have r1 : Rd 11 encCon W5 (some ⟨w4.heap.size, 0, none⟩) headS.cons := by
    rw [hW5]
    exact (rd_lit (sz := 11) (enc := encCon) (fun _ => rfl) w4 48 #[.string ⟨#[102]⟩, .int .i64 (-1), .int .i64 100, .int .i64 100, .int .i64 0, .int .i64 0, .int .i64 0, .int .i64 0, .int .i64 0, .int .i64 0, .int .i64 0, .string ⟨#[97]⟩, .int .i64 0, .int .i64 100, .int .i64 100, .int .i64 0, .int .i64 0, .int .i64 0, .int .i64 0, .int .i64 0, .int .i64 0, .int .i64 0, .string ⟨#[98]⟩, .int .i64 0, .int .i64 100, .int .i64 100, .int .i64 0, .int .i64 0, .int .i64 0, .int .i64 0, .int .i64 0, .int .i64 0, .int .i64 0, .string ⟨#[99]⟩, .int .i64 1, .int .i64 100, .int .i64 100, .int .i64 0, .int .i64 0, .int .i64 0, .int .i64 0, .int .i64 0, .int .i64 0, .int .i64 0] headS.cons rfl).keep ((Below.refl _ _).alloc (Nat.le_refl _) _)
  have r2 : Rd 1 encS W5 (some ⟨w4.heap.size + 1, 0, none⟩) headS.owns := by
    have h := rd_lit (sz := 1) (enc := encS) (fun _ => rfl) (w4.alloc (.cells #[.string ⟨#[102]⟩, .int .i64 (-1), .int .i64 100, .int .i64 100, .int .i64 0, .int .i64 0, .int .i64 0, .int .i64 0, .int .i64 0, .int .i64 0, .int .i64 0, .string ⟨#[97]⟩, .int .i64 0, .int .i64 100, .int .i64 100, .int .i64 0, .int .i64 0, .int .i64 0, .int .i64 0, .int .i64 0, .int .i64 0, .int .i64 0, .string ⟨#[98]⟩, .int .i64 0, .int .i64 100, .int .i64 100, .int .i64 0, .int .i64 0, .int .i64 0, .int .i64 0, .int .i64 0, .int .i64 0, .int .i64 0, .string ⟨#[99]⟩, .int .i64 1, .int .i64 100, .int .i64 100, .int .i64 0, .int .i64 0, .int .i64 0, .int .i64 0, .int .i64 0, .int .i64 0, .int .i64 0] 48)) 62 #[.string ⟨#[111]⟩] headS.owns rfl
    rw [World.size_alloc] at h
    rw [hW5]; exact h
  rw [← hW5]
  clear hW5 c5 b1 b2 b3
  refine (ltCharger_any ⟨#[112]⟩ 3 7 W5).mono ?_
  rintro e w6 ⟨rfl, h6⟩
  have b6 : Below w.heap.size w w6 := below_then b5 h6
  have r1 := r1.keep h6
  have r2 := r2.keep h6
  clear h6
  go_wp2_with fail
  refine (ltCharger_any ⟨#[113]⟩ 2 1 w6).mono ?_
  rintro e w7 ⟨rfl, h7⟩
  have b7 : Below w.heap.size w w7 := below_then b6 h7
  have r1 := r1.keep h7
  have r2 := r2.keep h7
  clear h7
  go_wp2_with fail
  refine (ltCharger_any ⟨#[114]⟩ 0 4 w7).mono ?_
  rintro e w8 ⟨rfl, h8⟩
  have b8 : Below w.heap.size w w8 := below_then b7 h8
  have r1 := r1.keep h8
  have r2 := r2.keep h8
  clear h8
  go_wp2_with fail
  obtain ⟨W9, hW9⟩ : ∃ W9, W9 = (w8.alloc (.cells #[.string ⟨#[112]⟩, .int .i64 3, .int .i64 7, .int .i64 6, .int .i64 32, .int .i64 1, .int .i64 0, .int .i64 0, .string ⟨#[113]⟩, .int .i64 2, .int .i64 1, .int .i64 6, .int .i64 32, .int .i64 1, .int .i64 0, .int .i64 0, .string ⟨#[114]⟩, .int .i64 0, .int .i64 4, .int .i64 6, .int .i64 32, .int .i64 1, .int .i64 0, .int .i64 0] 42)).alloc (.cells #[.slice (some ⟨w4.heap.size, 0, none⟩) 4 4, .slice (some ⟨w4.heap.size + 1, 0, none⟩) 1 1, .slice none 0 0, .slice (some ⟨w8.heap.size, 0, none⟩) 3 3, .slice none 0 0] 28) := ⟨_, rfl⟩
  have c9 : Below w8.heap.size w8 W9 := by rw [hW9]; exact ((Below.refl _ w8).alloc (Nat.le_refl _) _).alloc (by simp) _
  have r4 : Rd 8 encChg W9 (some ⟨w8.heap.size, 0, none⟩) headS.chgs := by
    rw [hW9]
    exact (rd_lit (sz := 8) (enc := encChg) (fun _ => rfl) w8 42 #[.string ⟨#[112]⟩, .int .i64 3, .int .i64 7, .int .i64 6, .int .i64 32, .int .i64 1, .int .i64 0, .int .i64 0, .string ⟨#[113]⟩, .int .i64 2, .int .i64 1, .int .i64 6, .int .i64 32, .int .i64 1, .int .i64 0, .int .i64 0, .string ⟨#[114]⟩, .int .i64 0, .int .i64 4, .int .i64 6, .int .i64 32, .int .i64 1, .int .i64 0, .int .i64 0] headS.chgs rfl).keep ((Below.refl _ _).alloc (Nat.le_refl _) _)
  have HM : Hid (HdM w W9 (w8.heap.size + 1) (some ⟨w4.heap.size, 0, none⟩) (some ⟨w4.heap.size + 1, 0, none⟩) (some ⟨w8.heap.size, 0, none⟩)) := Lib.hid ⟨below_then b8 c9, by rw [hW9]; go_simp, by rw [hW9]; go_simp, by rw [hW9]; go_simp, by rw [hW9]; go_simp, by rw [hW9]; go_simp, ⟨r1.keep c9, r2.keep c9, Rd.nil, r4, Rd.nil, rfl, rfl, rfl, rfl, rfl, by omega, by omega, by omega, by omega, by omega, fun x hx => by
    have h1 := (okNameB_iff.1 (headS_ok.names.1 x hx)).1.2.1
    unfold maxLen
    omega⟩⟩
  rw [← hW9]
  clear hW9 c9 r1 r2 r4 b4 b5 b6 b7 b8
  generalize w8.heap.size + 1 = X at *
  generalize (some (⟨w4.heap.size, 0, none⟩ : Addr)) = a1 at *
  generalize (some (⟨w4.heap.size + 1, 0, none⟩ : Addr)) = a2 at *
  generalize (some (⟨w8.heap.size, 0, none⟩ : Addr)) = a4 at *
  refine (trPath_any a1 a2 none a4 none 4 4 1 1 0 0 3 3 0 0 headS 0 W9 (Lib.hid HM.out.rs)).mono ?_
  rintro e v10 ⟨pp, cp, he, hr, hb0⟩
  rw [hd_p0, hd_c0] at he
  rw [hd_p0] at hr
  change e = .returned (.tuple #[.slice pp 3 cp, .int .i64 0]) at he
  subst he
  have hb : Below W9.heap.size W9 v10 := hb0
  have HMn := Lib.hid (HM.out.keep hb)
  clear HM
  have HM := HMn
  clear HMn
  have HRp := Lib.hid hr
  clear hr hb hb0
  have k0 := HM.out.k0
  have k1 := HM.out.k1
  have k2 := HM.out.k2
  have k3 := HM.out.k3
  have k4 := HM.out.k4
  have hX : X < v10.heap.size := World.block_lt_of_cell? v10 _ k0
  go_wp2_with fail
  clear k0 k1 k2 k3 k4 hX
  refine (trPath_any a1 a2 none a4 none 4 4 1 1 0 0 3 3 0 0 headS 1 v10 (Lib.hid HM.out.rs)).mono ?_
  rintro e v11 ⟨pq, cq, he, hr, hb0⟩
  rw [hd_p1, hd_c1] at he
  rw [hd_p1] at hr
  change e = .returned (.tuple #[.slice pq 2 cq, .int .i64 0]) at he
  subst he
  have hb : Below v10.heap.size v10 v11 := hb0
  have HMn := Lib.hid (HM.out.keep hb)
  clear HM
  have HM := HMn
  clear HMn
  have HRpn := Lib.hid (HRp.out.keep hb)
  clear HRp
  have HRp := HRpn
  clear HRpn
  have HRq := Lib.hid hr
  clear hr hb hb0
  have k0 := HM.out.k0
  have k1 := HM.out.k1
  have k2 := HM.out.k2
  have k3 := HM.out.k3
  have k4 := HM.out.k4
  have hX : X < v11.heap.size := World.block_lt_of_cell? v11 _ k0
  go_wp2_with fail
  clear k0 k1 k2 k3 k4 hX
  refine (trPath_any a1 a2 none a4 none 4 4 1 1 0 0 3 3 0 0 headS 2 v11 (Lib.hid HM.out.rs)).mono ?_
  rintro e v12 ⟨pr, cr, he, hr, hb0⟩
  rw [hd_p2, hd_c2] at he
  rw [hd_p2] at hr
  change e = .returned (.tuple #[.slice pr 1 cr, .int .i64 0]) at he
  subst he
  have hb : Below v11.heap.size v11 v12 := hb0
  have HMn := Lib.hid (HM.out.keep hb)
  clear HM
  have HM := HMn
  clear HMn
  have HRpn := Lib.hid (HRp.out.keep hb)
  clear HRp
  have HRp := HRpn
  clear HRpn
  have HRqn := Lib.hid (HRq.out.keep hb)
  clear HRq
  have HRq := HRqn
  clear HRqn
  have HRr := Lib.hid hr
  clear hr hb hb0
  have k0 := HM.out.k0
  have k1 := HM.out.k1
  have k2 := HM.out.k2
  have k3 := HM.out.k3
  have k4 := HM.out.k4
  have hX : X < v12.heap.size := World.block_lt_of_cell? v12 _ k0
  go_wp2_with fail
  clear k0 k1 k2 k3 k4 hX
  have hal : Below v12.heap.size v12 (v12.alloc (.cells #[.int .i64 16, .int .i64 10, .int .i64 8] 3)) := (Below.refl _ v12).alloc (Nat.le_refl _) _
  refine (trLoads_any a1 4 4 a2 1 1 none 0 0 a4 3 3 none 0 0 (some ⟨v12.heap.size, 0, none⟩) 3 3 headS [16, 10, 8] (v12.alloc (.cells #[.int .i64 16, .int .i64 10, .int .i64 8] 3)) (Lib.hid (HM.out.rs.keep hal)) (Lib.hid (rd_lit (sz := 1) (enc := encI) (fun _ => rfl) v12 3 #[.int .i64 16, .int .i64 10, .int .i64 8] [16, 10, 8] rfl)) (Lib.hid rfl) (by omega)).mono ?_
  rintro e v13 ⟨pl, cl, he, hr, hb0⟩
  rw [hd_L3, hd_l3] at he
  rw [hd_L3] at hr
  change e = .returned (.tuple #[.slice pl 4 cl, .int .i64 0]) at he
  subst he
  have hb : Below v12.heap.size v12 v13 := below_then hal hb0
  have HMn := Lib.hid (HM.out.keep hb)
  clear HM
  have HM := HMn
  clear HMn
  have HRpn := Lib.hid (HRp.out.keep hb)
  clear HRp
  have HRp := HRpn
  clear HRpn
  have HRqn := Lib.hid (HRq.out.keep hb)
  clear HRq
  have HRq := HRqn
  clear HRqn
  have HRrn := Lib.hid (HRr.out.keep hb)
  clear HRr
  have HRr := HRrn
  clear HRrn
  have HRl := Lib.hid hr
  clear hr hb hb0 hal
  have k0 := HM.out.k0
  have k1 := HM.out.k1
  have k2 := HM.out.k2
  have k3 := HM.out.k3
  have k4 := HM.out.k4
  have hX : X < v13.heap.size := World.block_lt_of_cell? v13 _ k0
  go_wp2_with fail
  clear k0 k1 k2 k3 k4 hX
  refine (trBelow_any a1 a2 none a4 none 4 4 1 1 0 0 3 3 0 0 headS 0 v13 (Lib.hid HM.out.rs)).mono ?_
  rintro e v14 ⟨pb, cb, he, hr, hb0⟩
  rw [hd_b0, hd_o0] at he
  rw [hd_b0] at hr
  change e = .returned (.tuple #[.slice pb 3 cb, .int .i64 0]) at he
  subst he
  have hb : Below v13.heap.size v13 v14 := hb0
  have HMn := Lib.hid (HM.out.keep hb)
  clear HM
  have HM := HMn
  clear HMn
  have HRpn := Lib.hid (HRp.out.keep hb)
  clear HRp
  have HRp := HRpn
  clear HRpn
  have HRqn := Lib.hid (HRq.out.keep hb)
  clear HRq
  have HRq := HRqn
  clear HRqn
  have HRrn := Lib.hid (HRr.out.keep hb)
  clear HRr
  have HRr := HRrn
  clear HRrn
  have HRln := Lib.hid (HRl.out.keep hb)
  clear HRl
  have HRl := HRln
  clear HRln
  have HRb := Lib.hid hr
  clear hr hb hb0
  have k0 := HM.out.k0
  have k1 := HM.out.k1
  have k2 := HM.out.k2
  have k3 := HM.out.k3
  have k4 := HM.out.k4
  have hX : X < v14.heap.size := World.block_lt_of_cell? v14 _ k0
  go_wp2_with fail
  clear k0 k1 k2 k3 k4 hX
  refine (trBelow_any a1 a2 none a4 none 4 4 1 1 0 0 3 3 0 0 headS 1 v14 (Lib.hid HM.out.rs)).mono ?_
  rintro e v15 ⟨pc, cc, he, hr, hb0⟩
  rw [hd_b1, hd_o1] at he
  rw [hd_b1] at hr
  change e = .returned (.tuple #[.slice pc 1 cc, .int .i64 0]) at he
  subst he
  have hb : Below v14.heap.size v14 v15 := hb0
  have HMn := Lib.hid (HM.out.keep hb)
  clear HM
  have HM := HMn
  clear HMn
  have HRpn := Lib.hid (HRp.out.keep hb)
  clear HRp
  have HRp := HRpn
  clear HRpn
  have HRqn := Lib.hid (HRq.out.keep hb)
  clear HRq
  have HRq := HRqn
  clear HRqn
  have HRrn := Lib.hid (HRr.out.keep hb)
  clear HRr
  have HRr := HRrn
  clear HRrn
  have HRln := Lib.hid (HRl.out.keep hb)
  clear HRl
  have HRl := HRln
  clear HRln
  have HRbn := Lib.hid (HRb.out.keep hb)
  clear HRb
  have HRb := HRbn
  clear HRbn
  have HRc := Lib.hid hr
  clear hr hb hb0
  have k0 := HM.out.k0
  have k1 := HM.out.k1
  have k2 := HM.out.k2
  have k3 := HM.out.k3
  have k4 := HM.out.k4
  have hX : X < v15.heap.size := World.block_lt_of_cell? v15 _ k0
  go_wp2_with fail
  clear k0 k1 k2 k3 k4 hX
  have hal : Below v15.heap.size v15 (v15.alloc (.cells #[.int .i64 16, .int .i64 10] 3)) := (Below.refl _ v15).alloc (Nat.le_refl _) _
  refine (trLoads_any a1 4 4 a2 1 1 none 0 0 a4 3 3 none 0 0 (some ⟨v15.heap.size, 0, none⟩) 2 2 headS [16, 10] (v15.alloc (.cells #[.int .i64 16, .int .i64 10] 3)) (Lib.hid (HM.out.rs.keep hal)) (Lib.hid (rd_lit (sz := 1) (enc := encI) (fun _ => rfl) v15 3 #[.int .i64 16, .int .i64 10] [16, 10] rfl)) (Lib.hid rfl) (by omega)).mono ?_
  rintro e v16 ⟨pk, ck, he, hr, hb0⟩
  rw [hd_L2, hd_l2] at he
  rw [hd_L2] at hr
  change e = .returned (.tuple #[.slice pk 0 ck, .int .i64 1]) at he
  subst he
  have hb : Below v15.heap.size v15 v16 := below_then hal hb0
  have HMn := Lib.hid (HM.out.keep hb)
  clear HM
  have HM := HMn
  clear HMn
  have HRpn := Lib.hid (HRp.out.keep hb)
  clear HRp
  have HRp := HRpn
  clear HRpn
  have HRqn := Lib.hid (HRq.out.keep hb)
  clear HRq
  have HRq := HRqn
  clear HRqn
  have HRrn := Lib.hid (HRr.out.keep hb)
  clear HRr
  have HRr := HRrn
  clear HRrn
  have HRln := Lib.hid (HRl.out.keep hb)
  clear HRl
  have HRl := HRln
  clear HRln
  have HRbn := Lib.hid (HRb.out.keep hb)
  clear HRb
  have HRb := HRbn
  clear HRbn
  have HRcn := Lib.hid (HRc.out.keep hb)
  clear HRc
  have HRc := HRcn
  clear HRcn
  have HRk := Lib.hid hr
  clear hr hb hb0 hal
  clear HRk
  have k0 := HM.out.k0
  have k1 := HM.out.k1
  have k2 := HM.out.k2
  have k3 := HM.out.k3
  have k4 := HM.out.k4
  have hX : X < v16.heap.size := World.block_lt_of_cell? v16 _ k0
  go_wp2_with fail
  clear k0 k1 k2 k3 k4 hX
  refine (trPath_any a1 a2 none a4 none 4 4 1 1 0 0 3 3 0 0 headS 3 v16 (Lib.hid HM.out.rs)).mono ?_
  rintro e v17 ⟨pm, cm, he, hr, hb0⟩
  rw [hd_p3, hd_c3] at he
  rw [hd_p3] at hr
  change e = .returned (.tuple #[.slice pm 0 cm, .int .i64 1]) at he
  subst he
  have hb : Below v16.heap.size v16 v17 := hb0
  have HMn := Lib.hid (HM.out.keep hb)
  clear HM
  have HM := HMn
  clear HMn
  have HRpn := Lib.hid (HRp.out.keep hb)
  clear HRp
  have HRp := HRpn
  clear HRpn
  have HRqn := Lib.hid (HRq.out.keep hb)
  clear HRq
  have HRq := HRqn
  clear HRqn
  have HRrn := Lib.hid (HRr.out.keep hb)
  clear HRr
  have HRr := HRrn
  clear HRrn
  have HRln := Lib.hid (HRl.out.keep hb)
  clear HRl
  have HRl := HRln
  clear HRln
  have HRbn := Lib.hid (HRb.out.keep hb)
  clear HRb
  have HRb := HRbn
  clear HRbn
  have HRcn := Lib.hid (HRc.out.keep hb)
  clear HRc
  have HRc := HRcn
  clear HRcn
  have HRm := Lib.hid hr
  clear hr hb hb0
  clear HRm
  have k0 := HM.out.k0
  have k1 := HM.out.k1
  have k2 := HM.out.k2
  have k3 := HM.out.k3
  have k4 := HM.out.k4
  have hX : X < v17.heap.size := World.block_lt_of_cell? v17 _ k0
  go_wp2_with fail
  clear k0 k1 k2 k3 k4 hX
  have hal : Below v17.heap.size v17 (v17.alloc (.cells #[.int .i64 3, .int .i64 1, .int .i64 0] 3)) := (Below.refl _ v17).alloc (Nat.le_refl _) _
  refine (r4Ints_any pp (some ⟨v17.heap.size, 0, none⟩) 3 cp 3 3 [3, 1, 0] [3, 1, 0] (v17.alloc (.cells #[.int .i64 3, .int .i64 1, .int .i64 0] 3)) (Lib.hid (HRp.out.keep hal)) (Lib.hid (rd_lit (sz := 1) (enc := encI) (fun _ => rfl) v17 3 #[.int .i64 3, .int .i64 1, .int .i64 0] [3, 1, 0] rfl)) (Lib.hid rfl) (Lib.hid rfl) (by omega)).mono ?_
  rintro e v18 ⟨rfl, hb0⟩
  have hb : Below v17.heap.size v17 v18 := below_then hal hb0
  rw [decide_eq_true (rfl : ([3, 1, 0] : List Int) = [3, 1, 0])]
  have HMn := Lib.hid (HM.out.keep hb)
  clear HM
  have HM := HMn
  clear HMn
  have HRpn := Lib.hid (HRp.out.keep hb)
  clear HRp
  have HRp := HRpn
  clear HRpn
  have HRqn := Lib.hid (HRq.out.keep hb)
  clear HRq
  have HRq := HRqn
  clear HRqn
  have HRrn := Lib.hid (HRr.out.keep hb)
  clear HRr
  have HRr := HRrn
  clear HRrn
  have HRln := Lib.hid (HRl.out.keep hb)
  clear HRl
  have HRl := HRln
  clear HRln
  have HRbn := Lib.hid (HRb.out.keep hb)
  clear HRb
  have HRb := HRbn
  clear HRbn
  have HRcn := Lib.hid (HRc.out.keep hb)
  clear HRc
  have HRc := HRcn
  clear HRcn
  clear hb hb0 hal
  go_wp2_with fail
  have hal : Below v18.heap.size v18 (v18.alloc (.cells #[.int .i64 2, .int .i64 0] 3)) := (Below.refl _ v18).alloc (Nat.le_refl _) _
  refine (r4Ints_any pq (some ⟨v18.heap.size, 0, none⟩) 2 cq 2 2 [2, 0] [2, 0] (v18.alloc (.cells #[.int .i64 2, .int .i64 0] 3)) (Lib.hid (HRq.out.keep hal)) (Lib.hid (rd_lit (sz := 1) (enc := encI) (fun _ => rfl) v18 3 #[.int .i64 2, .int .i64 0] [2, 0] rfl)) (Lib.hid rfl) (Lib.hid rfl) (by omega)).mono ?_
  rintro e v19 ⟨rfl, hb0⟩
  have hb : Below v18.heap.size v18 v19 := below_then hal hb0
  rw [decide_eq_true (rfl : ([2, 0] : List Int) = [2, 0])]
  have HMn := Lib.hid (HM.out.keep hb)
  clear HM
  have HM := HMn
  clear HMn
  have HRpn := Lib.hid (HRp.out.keep hb)
  clear HRp
  have HRp := HRpn
  clear HRpn
  have HRqn := Lib.hid (HRq.out.keep hb)
  clear HRq
  have HRq := HRqn
  clear HRqn
  have HRrn := Lib.hid (HRr.out.keep hb)
  clear HRr
  have HRr := HRrn
  clear HRrn
  have HRln := Lib.hid (HRl.out.keep hb)
  clear HRl
  have HRl := HRln
  clear HRln
  have HRbn := Lib.hid (HRb.out.keep hb)
  clear HRb
  have HRb := HRbn
  clear HRbn
  have HRcn := Lib.hid (HRc.out.keep hb)
  clear HRc
  have HRc := HRcn
  clear HRcn
  clear hb hb0 hal
  go_wp2_with fail
  have hal : Below v19.heap.size v19 (v19.alloc (.cells #[.int .i64 0] 3)) := (Below.refl _ v19).alloc (Nat.le_refl _) _
  refine (r4Ints_any pr (some ⟨v19.heap.size, 0, none⟩) 1 cr 1 1 [0] [0] (v19.alloc (.cells #[.int .i64 0] 3)) (Lib.hid (HRr.out.keep hal)) (Lib.hid (rd_lit (sz := 1) (enc := encI) (fun _ => rfl) v19 3 #[.int .i64 0] [0] rfl)) (Lib.hid rfl) (Lib.hid rfl) (by omega)).mono ?_
  rintro e v20 ⟨rfl, hb0⟩
  have hb : Below v19.heap.size v19 v20 := below_then hal hb0
  rw [decide_eq_true (rfl : ([0] : List Int) = [0])]
  have HMn := Lib.hid (HM.out.keep hb)
  clear HM
  have HM := HMn
  clear HMn
  have HRpn := Lib.hid (HRp.out.keep hb)
  clear HRp
  have HRp := HRpn
  clear HRpn
  have HRqn := Lib.hid (HRq.out.keep hb)
  clear HRq
  have HRq := HRqn
  clear HRqn
  have HRrn := Lib.hid (HRr.out.keep hb)
  clear HRr
  have HRr := HRrn
  clear HRrn
  have HRln := Lib.hid (HRl.out.keep hb)
  clear HRl
  have HRl := HRln
  clear HRln
  have HRbn := Lib.hid (HRb.out.keep hb)
  clear HRb
  have HRb := HRbn
  clear HRbn
  have HRcn := Lib.hid (HRc.out.keep hb)
  clear HRc
  have HRc := HRcn
  clear HRcn
  clear hb hb0 hal
  go_wp2_with fail
  have hal : Below v20.heap.size v20 (v20.alloc (.cells #[.int .i64 0, .int .i64 1, .int .i64 2] 3)) := (Below.refl _ v20).alloc (Nat.le_refl _) _
  refine (r4Ints_any pb (some ⟨v20.heap.size, 0, none⟩) 3 cb 3 3 [0, 1, 2] [0, 1, 2] (v20.alloc (.cells #[.int .i64 0, .int .i64 1, .int .i64 2] 3)) (Lib.hid (HRb.out.keep hal)) (Lib.hid (rd_lit (sz := 1) (enc := encI) (fun _ => rfl) v20 3 #[.int .i64 0, .int .i64 1, .int .i64 2] [0, 1, 2] rfl)) (Lib.hid rfl) (Lib.hid rfl) (by omega)).mono ?_
  rintro e v21 ⟨rfl, hb0⟩
  have hb : Below v20.heap.size v20 v21 := below_then hal hb0
  rw [decide_eq_true (rfl : ([0, 1, 2] : List Int) = [0, 1, 2])]
  have HMn := Lib.hid (HM.out.keep hb)
  clear HM
  have HM := HMn
  clear HMn
  have HRpn := Lib.hid (HRp.out.keep hb)
  clear HRp
  have HRp := HRpn
  clear HRpn
  have HRqn := Lib.hid (HRq.out.keep hb)
  clear HRq
  have HRq := HRqn
  clear HRqn
  have HRrn := Lib.hid (HRr.out.keep hb)
  clear HRr
  have HRr := HRrn
  clear HRrn
  have HRln := Lib.hid (HRl.out.keep hb)
  clear HRl
  have HRl := HRln
  clear HRln
  have HRbn := Lib.hid (HRb.out.keep hb)
  clear HRb
  have HRb := HRbn
  clear HRbn
  have HRcn := Lib.hid (HRc.out.keep hb)
  clear HRc
  have HRc := HRcn
  clear HRcn
  clear hb hb0 hal
  go_wp2_with fail
  have hal : Below v21.heap.size v21 (v21.alloc (.cells #[.int .i64 0] 3)) := (Below.refl _ v21).alloc (Nat.le_refl _) _
  refine (r4Ints_any pc (some ⟨v21.heap.size, 0, none⟩) 1 cc 1 1 [0] [0] (v21.alloc (.cells #[.int .i64 0] 3)) (Lib.hid (HRc.out.keep hal)) (Lib.hid (rd_lit (sz := 1) (enc := encI) (fun _ => rfl) v21 3 #[.int .i64 0] [0] rfl)) (Lib.hid rfl) (Lib.hid rfl) (by omega)).mono ?_
  rintro e v22 ⟨rfl, hb0⟩
  have hb : Below v21.heap.size v21 v22 := below_then hal hb0
  rw [decide_eq_true (rfl : ([0] : List Int) = [0])]
  have HMn := Lib.hid (HM.out.keep hb)
  clear HM
  have HM := HMn
  clear HMn
  have HRpn := Lib.hid (HRp.out.keep hb)
  clear HRp
  have HRp := HRpn
  clear HRpn
  have HRqn := Lib.hid (HRq.out.keep hb)
  clear HRq
  have HRq := HRqn
  clear HRqn
  have HRrn := Lib.hid (HRr.out.keep hb)
  clear HRr
  have HRr := HRrn
  clear HRrn
  have HRln := Lib.hid (HRl.out.keep hb)
  clear HRl
  have HRl := HRln
  clear HRln
  have HRbn := Lib.hid (HRb.out.keep hb)
  clear HRb
  have HRb := HRbn
  clear HRbn
  have HRcn := Lib.hid (HRc.out.keep hb)
  clear HRc
  have HRc := HRcn
  clear HRcn
  clear hb hb0 hal
  go_wp2_with fail
  have hal : Below v22.heap.size v22 (v22.alloc (.cells #[.int .i64 26, .int .i64 16, .int .i64 24, .int .i64 16, .int .i64 16, .int .i64 16, .int .i64 10, .int .i64 0, .int .i64 0, .int .i64 16, .int .i64 16, .int .i64 16] 55)) := (Below.refl _ v22).alloc (Nat.le_refl _) _
  refine (r8Same_any pl (some ⟨v22.heap.size, 0, none⟩) 4 cl 4 4 [(26, 16, 24), (16, 16, 16), (10, 0, 0), (16, 16, 16)] [(26, 16, 24), (16, 16, 16), (10, 0, 0), (16, 16, 16)] (v22.alloc (.cells #[.int .i64 26, .int .i64 16, .int .i64 24, .int .i64 16, .int .i64 16, .int .i64 16, .int .i64 10, .int .i64 0, .int .i64 0, .int .i64 16, .int .i64 16, .int .i64 16] 55)) (Lib.hid (HRl.out.keep hal)) (Lib.hid (rd_lit (sz := 3) (enc := enc3) (fun _ => rfl) v22 55 #[.int .i64 26, .int .i64 16, .int .i64 24, .int .i64 16, .int .i64 16, .int .i64 16, .int .i64 10, .int .i64 0, .int .i64 0, .int .i64 16, .int .i64 16, .int .i64 16] [(26, 16, 24), (16, 16, 16), (10, 0, 0), (16, 16, 16)] rfl)) (Lib.hid rfl) (Lib.hid rfl) (by omega)).mono ?_
  rintro e z9 ⟨rfl, hb0⟩
  rw [decide_eq_true (rfl : ([(26, 16, 24), (16, 16, 16), (10, 0, 0), (16, 16, 16)] : List R3) = [(26, 16, 24), (16, 16, 16), (10, 0, 0), (16, 16, 16)])]
  have HB := Lib.hid (below_then HM.out.bel (below_then hal hb0))
  clear hb0 hal
  go_wp2_with fail
  go_ret
  exact ⟨rfl, HB.out⟩
end Go.Proofs.Ytjlfnhfiiailgaa
