/-
Several texts in one: QuD, QuE.
-/
import Derived.Test.YtoekpdnpncgeeaaGreatGQu
/-
quote: the greatest amount for some energy, and the sum of all amounts.
-/
namespace Go.Proofs.YtoekpdnpncgeeaaGreat
open Go.RowKit
set_option linter.unusedVariables false
set_option linter.unusedSimpArgs false
def ceQ (c : Cal) (f t : Int) : List Art → Int
  | [] => 0
  | a :: l => (if a.kind = 2 ∧ 0 < cntN a c f (t - f).toNat then 1 else 0) + ceQ c f t l
def enQ (c : Cal) (f t : Int) (ar : List Art) (en : Int) : Option Int := if en = 0 then some 0 else if timesE (gq 2 c f t ar) en 1000 = 0 then (if 1000000000 < timesV (gq 2 c f t ar) en 1000 + ceQ c f t ar then none else some (timesV (gq 2 c f t ar) en 1000 + ceQ c f t ar)) else none
def tmQ (c : Cal) (f t : Int) : List Art → Int → Option Int
  | [], z => if 1000000000 < z then none else some z
  | a :: l, z => if a.kind = 3 ∨ a.kind = 4 then (if startE a.price (max 0 ((cntN a c f (t - f).toNat : Int) - a.free)) a.unit = 0 then tmQ c f t l (z + startV a.price (max 0 ((cntN a c f (t - f).toNat : Int) - a.free)) a.unit) else none) else tmQ c f t l z
def suQ (c : Cal) (f t : Int) (ar : List Art) (en : Int) : Option Int := (enQ c f t ar en).bind (fun v => tmQ c f t ar (v + gq 1 c f t ar))
def optV (o : Option Int) : Int := o.getD 0
def optE (o : Option Int) : Int := if o.isSome then 0 else 3
theorem ceQ_bd (c : Cal) (f t : Int) : ∀ l : List Art, 0 ≤ ceQ c f t l ∧ ceQ c f t l ≤ l.length
  | [] => by simp [ceQ]
  | a :: l => by
    have := ceQ_bd c f t l
    unfold ceQ
    rw [List.length_cons]
    split <;> omega
theorem enQ_bd {c : Cal} {f t : Int} {ar : List Art} {en v : Int} (h : enQ c f t ar en = some v) : 0 ≤ v ∧ v ≤ 1000000000 := by
  unfold enQ at h
  split at h
  · injection h with h; omega
  · split at h
    · split at h
      · cases h
      · rename_i h2
        injection h with h
        have := timesV_bd (gq 2 c f t ar) en 1000
        have := ceQ_bd c f t ar
        omega
    · cases h
theorem inQ_bd (k : Int) (c : Cal) (m : Int) : ∀ l : List Art, (∀ a ∈ l, artB a = true) → 0 ≤ inQ k c m l ∧ inQ k c m l ≤ 1000000 * (l.length : Int)
  | [], _ => by simp [inQ]
  | a :: l, h => by
    have h1 := inQ_bd k c m l (fun x hx => h x (List.mem_cons_of_mem _ hx))
    have h2 := art_price (h a (List.mem_cons_self ..))
    unfold inQ
    rw [List.length_cons]
    split <;> omega
theorem grL_bd {g : Nat → Int} {B : Int} (hB : 0 ≤ B) : ∀ (l : List Nat), (∀ i ∈ l, g i ≤ B) → 0 ≤ grL g l ∧ grL g l ≤ B := by
  have key : ∀ (l : List Nat) (z : Int), 0 ≤ z → z ≤ B → (∀ i ∈ l, g i ≤ B) → 0 ≤ l.foldl (fun z i => max z (g i)) z ∧ l.foldl (fun z i => max z (g i)) z ≤ B := by
    intro l
    induction l with
    | nil => exact fun z h0 h1 _ => ⟨h0, h1⟩
    | cons i l ih =>
      intro z h0 h1 h
      have := h i (List.mem_cons_self ..)
      exact ih (max z (g i)) (by omega) (by omega) (fun j hj => h j (List.mem_cons_of_mem _ hj))
  exact fun l h => key l 0 (Int.le_refl _) hB h
theorem gq_bd (k : Int) (c : Cal) (f t : Int) {ar : List Art} (hn : ar.length ≤ 12) (h : ∀ a ∈ ar, artB a = true) : 0 ≤ gq k c f t ar ∧ gq k c f t ar ≤ 12000000 :=
  grL_bd (by omega) _ (fun i _ => by have := inQ_bd k c (f + (i : Nat)) ar h; omega)
set_option maxRecDepth 100000 in
set_option maxHeartbeats 16000000 in
theorem qEnergy_any (q : Nat) (nm : ByteArray) (aT : Option Addr) (nT cT : Nat) (ar : List Art) (aC : Option Addr) (nC cC : Nat) (aH : Option Addr) (nH cH : Nat) (c : Cal) (f t : Int) (en : Int) (w : World) (HQ : Hid (QuM w q nm aT nT cT ar aC nC cC aH nH cH c f t)) (htl : ar.length ≤ 12 ∧ (∀ a ∈ ar, artB a = true) ∧ taxN ar ≤ 1) (hf : 0 ≤ f) (ht : t ≤ 1000000000) :
    Calls Tryz.prog 43 #[.pointer (some ⟨q, 0, none⟩), .int .i64 en] w fun e w' => e = .returned (.tuple #[.int .i64 (optV (enQ c f t ar en)), .int .i64 (optE (enQ c f t ar en))]) ∧ Below w.heap.size w w' := by
  have HFT0 : Hid (0 ≤ f ∧ t ≤ 1000000000) := Lib.hid ⟨hf, ht⟩
  have HFT := HFT0
  have HTL := Lib.hid htl
  have HQb := HQ
  have hn12 : nT ≤ 12 := by rw [← HQ.out.rt.la]; exact htl.1
  obtain ⟨R, hR⟩ : ∃ R, R = enQ c f t ar en := ⟨_, rfl⟩
  have HR : Hid (R = if en = 0 then some 0 else if timesE (gq 2 c f t ar) en 1000 = 0 then (if 1000000000 < timesV (gq 2 c f t ar) en 1000 + ceQ c f t ar then none else some (timesV (gq 2 c f t ar) en 1000 + ceQ c f t ar)) else none) := Lib.hid (by rw [hR]; rfl)
  rw [← hR]
  clear hR hf ht htl
  go_enter Tryz.func43, Tryz.ntmps43
  obtain ⟨z0, hz0⟩ : ∃ z, (en == 0) = z := ⟨_, rfl⟩
  have HZ0 := Lib.hid hz0
  cases z0
  case true =>
    have HE : Hid (R = some 0) := Lib.hid (by rw [HR.out, if_pos (by simpa using HZ0.out)])
    have HW : Hid (Below w.heap.size w w) := Lib.hid (Below.refl _ _)
    go_wp2_with fail
    go_ret2
    exact ⟨by rw [HE.out]; rfl, HW.out⟩
  have HR2 : Hid (R = if timesE (gq 2 c f t ar) en 1000 = 0 then (if 1000000000 < timesV (gq 2 c f t ar) en 1000 + ceQ c f t ar then none else some (timesV (gq 2 c f t ar) en 1000 + ceQ c f t ar)) else none) := Lib.hid (by rw [HR.out, if_neg (by simpa using HZ0.out)])
  clear HR
  go_upto_region 3 with (fail)
  refine region_z (S := fun w' => Below w.heap.size w w') [] (by kernel_rfl) (Below.refl _ _).drew (fun hHeld => ?_)
  obtain ⟨wd, hwd⟩ : ∃ wd, wd = w.drew := ⟨_, rfl⟩
  rw [← hwd] at hHeld ⊢
  clear hwd
  refine wpAnyZ_take (i := 0) (v := .pointer (some ⟨q, 0, none⟩)) [1, 2, 3, 8, 11, 12] rfl (by kernel_rfl) (by kernel_rfl) (by kernel_rfl) (by kernel_rfl) (fun _ _ _ h => h) (Or.inl ⟨by kernel_rfl, fun w' hSw => ?_⟩) hHeld ?_
  · clear hHeld hSw
    go_simp
  simp only [Act.put, List.getElem_toArray, List.getElem_cons_zero, List.getElem_cons_succ, List.setIfInBounds_toArray, List.set_cons_zero, List.set_cons_succ]
  refine wpAnyZ_take (i := 1) (v := .pointer (some ⟨q, 0, none⟩)) [2, 3, 8, 11, 12] rfl (by kernel_rfl) (by kernel_rfl) (by kernel_rfl) (by kernel_rfl) (fun _ _ _ h => h) (Or.inl ⟨by kernel_rfl, fun w' hSw => ?_⟩) hHeld ?_
  · clear hHeld hSw
    go_simp
  simp only [Act.put, List.getElem_toArray, List.getElem_cons_zero, List.getElem_cons_succ, List.setIfInBounds_toArray, List.set_cons_zero, List.set_cons_succ]
  refine wpAnyZ_take (i := 2) (v := .pointer (some ⟨q, 5, none⟩)) [3, 8, 11, 12] rfl (by kernel_rfl) (by kernel_rfl) (by kernel_rfl) (by kernel_rfl) (fun _ _ _ h => h) (Or.inl ⟨by kernel_rfl, fun w' hSw => ?_⟩) hHeld ?_
  · clear hHeld hSw
    go_simp
  simp only [Act.put, List.getElem_toArray, List.getElem_cons_zero, List.getElem_cons_succ, List.setIfInBounds_toArray, List.set_cons_zero, List.set_cons_succ]
  refine wpAnyZ_take (i := 3) (v := .int .i64 f) [8, 11, 12] rfl (by kernel_rfl) (by kernel_rfl) (by kernel_rfl) (by kernel_rfl) (fun _ _ _ h => h) (Or.inl ⟨by kernel_rfl, fun w' hSw => ?_⟩) hHeld ?_
  · have e0 := (HQb.out.keep hSw).p5
    clear hHeld hSw
    go_simp
  simp only [Act.put, List.getElem_toArray, List.getElem_cons_zero, List.getElem_cons_succ, List.setIfInBounds_toArray, List.set_cons_zero, List.set_cons_succ]
  refine wpAnyZ_take (i := 4) (v := .pointer (some ⟨q, 0, none⟩)) [5, 6, 7, 8, 11, 12] rfl (by kernel_rfl) (by kernel_rfl) (by kernel_rfl) (by kernel_rfl) (fun _ _ _ h => h) (Or.inl ⟨by kernel_rfl, fun w' hSw => ?_⟩) hHeld ?_
  · clear hHeld hSw
    go_simp
  simp only [Act.put, List.getElem_toArray, List.getElem_cons_zero, List.getElem_cons_succ, List.setIfInBounds_toArray, List.set_cons_zero, List.set_cons_succ]
  refine wpAnyZ_take (i := 5) (v := .pointer (some ⟨q, 0, none⟩)) [6, 7, 8, 11, 12] rfl (by kernel_rfl) (by kernel_rfl) (by kernel_rfl) (by kernel_rfl) (fun _ _ _ h => h) (Or.inl ⟨by kernel_rfl, fun w' hSw => ?_⟩) hHeld ?_
  · clear hHeld hSw
    go_simp
  simp only [Act.put, List.getElem_toArray, List.getElem_cons_zero, List.getElem_cons_succ, List.setIfInBounds_toArray, List.set_cons_zero, List.set_cons_succ]
  refine wpAnyZ_take (i := 6) (v := .pointer (some ⟨q, 6, none⟩)) [7, 8, 11, 12] rfl (by kernel_rfl) (by kernel_rfl) (by kernel_rfl) (by kernel_rfl) (fun _ _ _ h => h) (Or.inl ⟨by kernel_rfl, fun w' hSw => ?_⟩) hHeld ?_
  · clear hHeld hSw
    go_simp
  simp only [Act.put, List.getElem_toArray, List.getElem_cons_zero, List.getElem_cons_succ, List.setIfInBounds_toArray, List.set_cons_zero, List.set_cons_succ]
  refine wpAnyZ_take (i := 7) (v := .int .i64 t) [8, 11, 12] rfl (by kernel_rfl) (by kernel_rfl) (by kernel_rfl) (by kernel_rfl) (fun _ _ _ h => h) (Or.inl ⟨by kernel_rfl, fun w' hSw => ?_⟩) hHeld ?_
  · have e0 := (HQb.out.keep hSw).p6
    clear hHeld hSw
    go_simp
  simp only [Act.put, List.getElem_toArray, List.getElem_cons_zero, List.getElem_cons_succ, List.setIfInBounds_toArray, List.set_cons_zero, List.set_cons_succ]
  refine wpAnyZ_take (i := 9) (v := .pointer (some ⟨q, 0, none⟩)) [10, 11, 12] rfl (by kernel_rfl) (by kernel_rfl) (by kernel_rfl) (by kernel_rfl) (fun _ _ _ h => h) (Or.inl ⟨by kernel_rfl, fun w' hSw => ?_⟩) hHeld ?_
  · clear hHeld hSw
    go_simp
  simp only [Act.put, List.getElem_toArray, List.getElem_cons_zero, List.getElem_cons_succ, List.setIfInBounds_toArray, List.set_cons_zero, List.set_cons_succ]
  refine wpAnyZ_one (i := 8) (by kernel_rfl) rfl (fun K' hK => ?_)
  go_simp
  refine (qMinutes_any f t wd).mono ?_
  rintro e v1 ⟨rfl, hv1⟩
  obtain ⟨N, hN⟩ : ∃ N, N = wd.heap.size := ⟨_, rfl⟩
  have hb1 : Below w.heap.size w v1 := by rw [hv1]; exact (hHeld.alloc hHeld.size _).alloc (by have := hHeld.size; simp; omega) _
  have x1 : v1.cell? ⟨N, 0, none⟩ = some (.int .i64 f) := by rw [hv1, hN]; go_simp
  have x2 : v1.cell? ⟨N + 1, 0, none⟩ = some (.int .i64 t) := by rw [hv1, hN]; go_simp
  rw [← hN]
  clear hN hv1
  refine hK.out _ _ ?_ (fun hHeld' => ?_)
  · exact hb1
  clear hK K' hHeld
  have hHeld := hHeld'
  clear hHeld'
  try simp only [Act.put, List.getElem_toArray, List.getElem_cons_zero, List.getElem_cons_succ, List.setIfInBounds_toArray, List.set_cons_zero, List.set_cons_succ]
  refine wpAnyZ_one (i := 10) (by kernel_rfl) rfl (fun K' hK => ?_)
  go_simp
  refine (qIn_any q 2 v1).mono ?_
  rintro e v2 ⟨rfl, hv2⟩
  obtain ⟨M, hM⟩ : ∃ N, N = v1.heap.size := ⟨_, rfl⟩
  have hb12 : Below v1.heap.size v1 v2 := by rw [hv2]; exact ((Below.refl _ _).alloc (Nat.le_refl _) _).alloc (by simp) _
  have x3 : v2.cell? ⟨M, 0, none⟩ = some (.pointer (some ⟨q, 0, none⟩)) := by rw [hv2, hM]; go_simp
  have x4 : v2.cell? ⟨M + 1, 0, none⟩ = some (.int .i64 2) := by rw [hv2, hM]; go_simp
  have x5 := (hb12.cell (p := ⟨N, 0, none⟩) (World.block_lt_of_cell? _ _ x1)).trans x1
  have x6 := (hb12.cell (p := ⟨N + 1, 0, none⟩) (World.block_lt_of_cell? _ _ x2)).trans x2
  rw [← hM]
  have HB2 : Hid (Below w.heap.size w v2) := Lib.hid (hHeld.trans (hb12.mono hHeld.size))
  clear hM hv2 hb12 x1 x2
  refine hK.out _ _ ?_ (fun hHeld' => ?_)
  · exact HB2.out
  clear hK K' hHeld
  have hHeld := hHeld'
  clear hHeld'
  try simp only [Act.put, List.getElem_toArray, List.getElem_cons_zero, List.getElem_cons_succ, List.setIfInBounds_toArray, List.set_cons_zero, List.set_cons_succ]
  refine wpAnyZ_one (i := 11) (by kernel_rfl) rfl (fun K' hK => ?_)
  go_simp
  refine (qGreat_any q N (N + 1) M (M + 1) nm aT nT cT ar aC nC cC aH nH cH c f t 2 v2 (Lib.hid (HQb.out.keep HB2.out)) HTL.out HFT0.out.1 HFT0.out.2 x3 x4 x5 x6).mono ?_
  rintro e v3 ⟨rfl, hb3⟩
  have HB3 : Hid (Below w.heap.size w v3) := Lib.hid (HB2.out.trans (hb3.mono HB2.out.size))
  clear hb3 x3 x4 x5 x6
  refine hK.out _ _ ?_ (fun hHeld' => ?_)
  · exact HB3.out
  clear hK K' hHeld
  have hHeld := hHeld'
  clear hHeld'
  try simp only [Act.put, List.getElem_toArray, List.getElem_cons_zero, List.getElem_cons_succ, List.setIfInBounds_toArray, List.set_cons_zero, List.set_cons_succ]
  refine wpAnyZ_take (i := 12) (v := .int .i64 (gq 2 c f t ar)) [] rfl (by kernel_rfl) (by kernel_rfl) (by kernel_rfl) (by kernel_rfl) (fun _ _ _ h => h) (Or.inl ⟨by kernel_rfl, fun w' hSw => ?_⟩) hHeld ?_
  · clear hHeld hSw
    go_simp
  simp only [Act.put, List.getElem_toArray, List.getElem_cons_zero, List.getElem_cons_succ, List.setIfInBounds_toArray, List.set_cons_zero, List.set_cons_succ]
  refine wpAnyZ_done (by kernel_rfl) ?_ _
  go_step
  go_step
  have HW := HB3
  clear hHeld HB2
  go_wp2_with fail
  refine (mTimes_all (gq 2 c f t ar) en 1000 _).mono ?_
  rintro e w4 ⟨rfl, hb4⟩
  have HW := Lib.hid (below_then HB3.out hb4)
  have HTB := timesV_bd (gq 2 c f t ar) en 1000
  obtain ⟨htb0, htb1⟩ := HTB
  have HE3 := Lib.hid (timesE_three (gq 2 c f t ar) en 1000)
  clear hb4 HB3
  generalize timesV (gq 2 c f t ar) en 1000 = tv at *
  generalize timesE (gq 2 c f t ar) en 1000 = te at *
  by_cases hte : te = 0
  case neg =>
    have HE : Hid (R = none) := Lib.hid (by rw [HR2.out, if_neg hte])
    have hz2 : (te != 0) = true := by simpa using hte
    go_wp2_with fail
    go_ret2
    exact ⟨by rw [HE.out]; rfl, HW.out⟩
  subst hte
  have HR3 : Hid (R = if 1000000000 < tv + ceQ c f t ar then none else some (tv + ceQ c f t ar)) := Lib.hid (by rw [HR2.out, if_pos rfl])
  clear HR2 HE3
  have HQ4 := Lib.hid (HQ.out.keep HW.out)
  have p1 : w4.cell? ⟨q, 1, none⟩ = some (.slice aT nT cT) := HQ4.out.p1
  have hlq : q < w4.heap.size := World.block_lt_of_cell? w4 _ p1
  go_wp2_with fail
  have HS0 : Hid (tv + ceQ c f t ar = tv + ceQ c f t (ar.drop 0)) := Lib.hid rfl
  clear p1 hlq HQ4
  go_loopg [7, 39] nT (fun g1 v7 v39 wr => ∃ (i : Nat) (z : Int), v7 = .int .i64 z ∧ v39 = .int .i64 i ∧ i ≤ nT ∧ nT - i ≤ g1 ∧ 0 ≤ z ∧ z ≤ 1000000000 + (i : Int) ∧ Hid (tv + ceQ c f t ar = z + ceQ c f t (ar.drop i)) ∧ Hid (Below w.heap.size w wr))
  case atStart => exact ⟨0, tv, rfl, by go_num, by omega, by omega, by omega, by omega, HS0, HW⟩
  case round =>
    clear HS0 HW
    obtain ⟨i, z, rfl, rfl, hi, hg1, hzz0, hzz1, HS, HW⟩ := hrel
    by_cases hlt : i < nT
    · have hltz : (i : Int) < (nT : Int) := by omega
      have HQR := Lib.hid (HQ.out.keep HW.out)
      obtain ⟨bb, off, a, hA, hbl, hgx, c0, c1, c2, c3, c4, c5, c6⟩ := rdArt_at HQR.out.rt.ra (show i < ar.length by rw [HQR.out.rt.la]; exact hlt)
      have HSS : Hid (tv + ceQ c f t ar = z + ((if a.kind = 2 ∧ 0 < cntN a c f (t - f).toNat then 1 else 0) + ceQ c f t (ar.drop (i + 1)))) := Lib.hid (by rw [HS.out, drop_at hgx]; rfl)
      clear HS hgx
      obtain ⟨W1, hW1⟩ : ∃ W, W = wr.alloc (.cells #[.int .i64 a.kind, .int .i64 a.days, .int .i64 a.frm, .int .i64 a.till, .int .i64 a.price, .int .i64 a.unit, .int .i64 a.free] 49) := ⟨_, rfl⟩
      obtain ⟨Y, hY⟩ : ∃ Y, Y = wr.heap.size := ⟨_, rfl⟩
      have HA : Hid (ArtM wr W1 Y a) := Lib.hid (by rw [hW1, hY]; exact ArtM.box (Below.refl _ _))
      have HQ1 := Lib.hid (HQR.out.keep HA.out.bel)
      have HW1 := Lib.hid (below_then HW.out HA.out.bel)
      subst hA
      have HWY := Lib.hid (And.intro hW1.symm hY.symm)
      clear hW1 hY HQR
      go_upto_region 10 with (fail)
      rw [HWY.out.1, HWY.out.2]
      clear HWY c0 c1 c2 c3 c4 c5 c6
      obtain ⟨y0, y1, y2, y3, y4, y5, y6⟩ : W1.cell? ⟨Y, 0, none⟩ = some (.int .i64 a.kind) ∧ W1.cell? ⟨Y, 1, none⟩ = some (.int .i64 a.days) ∧ W1.cell? ⟨Y, 2, none⟩ = some (.int .i64 a.frm) ∧ W1.cell? ⟨Y, 3, none⟩ = some (.int .i64 a.till) ∧ W1.cell? ⟨Y, 4, none⟩ = some (.int .i64 a.price) ∧ W1.cell? ⟨Y, 5, none⟩ = some (.int .i64 a.unit) ∧ W1.cell? ⟨Y, 6, none⟩ = some (.int .i64 a.free) := ⟨HA.out.k0, HA.out.k1, HA.out.k2, HA.out.k3, HA.out.k4, HA.out.k5, HA.out.k6⟩
      have hlY : Y < W1.heap.size := World.block_lt_of_cell? W1 _ y0
      obtain ⟨zk, hzk⟩ : ∃ zk, (a.kind == 2) = zk := ⟨_, rfl⟩
      have HZK := Lib.hid hzk
      cases zk
      · have HS2 : Hid (tv + ceQ c f t ar = z + ceQ c f t (ar.drop (i + 1))) := Lib.hid (by rw [HSS.out, if_neg (fun h => by have := HZK.out; simp [h.1] at this)]; omega)
        go_wp2_with fail
        go_roundg (nT - (i + 1))
        case measure => omega
        case rel => exact ⟨i + 1, z, rfl, by go_num, by omega, by omega, by omega, by omega, HS2, HW1⟩
      · have HKK : Hid (a.kind = 2) := Lib.hid (by simpa using HZK.out)
        go_wp2_with fail
        refine (qCount_any q nm (some ⟨bb, off, none⟩) nT cT ar aC nC cC aH nH cH c f t a W1 HQ1 HFT0.out.1 HFT0.out.2).mono ?_
        rintro e w5 ⟨rfl, hb5⟩
        have HW2 := Lib.hid (below_then HW1.out hb5)
        clear hb5 y0 y1 y2 y3 y4 y5 y6 hlY
        have hcl := cntN_le a c f (t - f).toNat
        have HCL := Lib.hid hcl
        clear hcl
        generalize cntN a c f (t - f).toNat = cn at *
        by_cases hcn : 0 < cn
        · have hcz : (0 : Int) < (cn : Int) := by omega
          have HS2 : Hid (tv + ceQ c f t ar = (z + 1) + ceQ c f t (ar.drop (i + 1))) := Lib.hid (by rw [HSS.out, if_pos ⟨HKK.out, hcn⟩]; omega)
          go_wp2_with fail
          go_roundg (nT - (i + 1))
          case measure => omega
          case rel => exact ⟨i + 1, z + 1, rfl, by go_num, by omega, by omega, by omega, by omega, HS2, HW2⟩
        · have hcz : ¬ (0 : Int) < (cn : Int) := by omega
          have HS2 : Hid (tv + ceQ c f t ar = z + ceQ c f t (ar.drop (i + 1))) := Lib.hid (by rw [HSS.out, if_neg (fun h => hcn h.2)]; omega)
          go_wp2_with fail
          go_roundg (nT - (i + 1))
          case measure => omega
          case rel => exact ⟨i + 1, z, rfl, by go_num, by omega, by omega, by omega, by omega, HS2, HW2⟩
    · have hltz : ¬ (i : Int) < (nT : Int) := by omega
      have HEZ : Hid (tv + ceQ c f t ar = z) := Lib.hid (by rw [HS.out, List.drop_eq_nil_of_le (by rw [HQ.out.rt.la]; omega)]; simp [ceQ])
      rw [HEZ.out] at HR3
      by_cases hz9 : 1000000000 < z
      · have HE : Hid (R = none) := Lib.hid (by rw [HR3.out, if_pos hz9])
        go_wp2_with fail
        go_ret2
        exact ⟨by rw [HE.out]; rfl, HW.out⟩
      · have HE : Hid (R = some z) := Lib.hid (by rw [HR3.out, if_neg hz9])
        go_wp2_with fail
        go_ret2
        exact ⟨by rw [HE.out]; rfl, HW.out⟩
set_option maxRecDepth 100000 in
set_option maxHeartbeats 16000000 in
theorem qSum_any (q : Nat) (nm : ByteArray) (aT : Option Addr) (nT cT : Nat) (ar : List Art) (aC : Option Addr) (nC cC : Nat) (aH : Option Addr) (nH cH : Nat) (c : Cal) (f t : Int) (en : Int) (w : World) (HQ : Hid (QuM w q nm aT nT cT ar aC nC cC aH nH cH c f t)) (htl : ar.length ≤ 12 ∧ (∀ a ∈ ar, artB a = true) ∧ taxN ar ≤ 1) (hf : 0 ≤ f) (ht : t ≤ 1000000000) (hl : t - f ≤ 2880) :
    Calls Tryz.prog 28 #[.pointer (some ⟨q, 0, none⟩), .int .i64 en] w fun e w' => e = .returned (.tuple #[.int .i64 (optV (suQ c f t ar en)), .int .i64 (optE (suQ c f t ar en))]) ∧ Below w.heap.size w w' := by
  have HFT : Hid (0 ≤ f ∧ t ≤ 1000000000 ∧ t - f ≤ 2880) := Lib.hid ⟨hf, ht, hl⟩
  have HFT0 : Hid (0 ≤ f ∧ t ≤ 1000000000) := Lib.hid ⟨hf, ht⟩
  have HTL := Lib.hid htl
  have hn12 : nT ≤ 12 := by rw [← HQ.out.rt.la]; exact htl.1
  obtain ⟨R, hR⟩ : ∃ R, R = suQ c f t ar en := ⟨_, rfl⟩
  have HR : Hid (R = (enQ c f t ar en).bind (fun v => tmQ c f t ar (v + (gq 1 c f t ar)))) := Lib.hid (by rw [hR]; rfl)
  rw [← hR]
  clear hR hf ht htl hl
  go_enter Tryz.func28, Tryz.ntmps28
  go_wp2_with fail
  refine (qEnergy_any q nm aT nT cT ar aC nC cC aH nH cH c f t en w HQ HTL.out HFT0.out.1 HFT0.out.2).mono ?_
  rintro e w1 ⟨rfl, hb1⟩
  have HW := Lib.hid hb1
  have HQb := Lib.hid (HQ.out.keep hb1)
  clear hb1
  cases hen : enQ c f t ar en with
  | none =>
    have HE : Hid (R = none) := Lib.hid (by rw [HR.out, hen]; rfl)
    rw [show optV (none : Option Int) = 0 from rfl, show optE (none : Option Int) = 3 from rfl]
    go_wp2_with fail
    go_ret2
    exact ⟨by rw [HE.out]; rfl, HW.out⟩
  | some ev =>
  rw [show optV (some ev) = ev from rfl, show optE (some ev) = 0 from rfl]
  have HR2 : Hid (R = tmQ c f t ar (ev + (gq 1 c f t ar))) := Lib.hid (by rw [HR.out, hen]; rfl)
  have HEV := Lib.hid (enQ_bd hen)
  obtain ⟨hev0, hev1⟩ := HEV.out
  have HGB := Lib.hid (gq_bd 1 c f t HTL.out.1 HTL.out.2.1)
  obtain ⟨hgb0, hgb1⟩ := HGB.out
  clear HR hen
  have hwi : IntKind.i64.wrap (ev + (gq 1 c f t ar)) = ev + (gq 1 c f t ar) := IntWalk.i64_in _ (by omega)
  go_upto_region 4 with (fail)
  refine region_z (S := fun w' => Below w1.heap.size w1 w') [] (by kernel_rfl) (Below.refl _ _).drew (fun hHeld => ?_)
  obtain ⟨wd, hwd⟩ : ∃ wd, wd = w1.drew := ⟨_, rfl⟩
  rw [← hwd] at hHeld ⊢
  clear hwd
  refine wpAnyZ_take (i := 0) (v := .int .i64 ev) [13, 14] rfl (by kernel_rfl) (by kernel_rfl) (by kernel_rfl) (by kernel_rfl) (fun _ _ _ h => h) (Or.inl ⟨by kernel_rfl, fun w' hSw => ?_⟩) hHeld ?_
  · clear hHeld hSw
    go_simp
  simp only [Act.put, List.getElem_toArray, List.getElem_cons_zero, List.getElem_cons_succ, List.setIfInBounds_toArray, List.set_cons_zero, List.set_cons_succ]
  refine wpAnyZ_take (i := 1) (v := .pointer (some ⟨q, 0, none⟩)) [2, 3, 4, 9, 12, 13, 14] rfl (by kernel_rfl) (by kernel_rfl) (by kernel_rfl) (by kernel_rfl) (fun _ _ _ h => h) (Or.inl ⟨by kernel_rfl, fun w' hSw => ?_⟩) hHeld ?_
  · clear hHeld hSw
    go_simp
  simp only [Act.put, List.getElem_toArray, List.getElem_cons_zero, List.getElem_cons_succ, List.setIfInBounds_toArray, List.set_cons_zero, List.set_cons_succ]
  refine wpAnyZ_take (i := 2) (v := .pointer (some ⟨q, 0, none⟩)) [3, 4, 9, 12, 13, 14] rfl (by kernel_rfl) (by kernel_rfl) (by kernel_rfl) (by kernel_rfl) (fun _ _ _ h => h) (Or.inl ⟨by kernel_rfl, fun w' hSw => ?_⟩) hHeld ?_
  · clear hHeld hSw
    go_simp
  simp only [Act.put, List.getElem_toArray, List.getElem_cons_zero, List.getElem_cons_succ, List.setIfInBounds_toArray, List.set_cons_zero, List.set_cons_succ]
  refine wpAnyZ_take (i := 3) (v := .pointer (some ⟨q, 5, none⟩)) [4, 9, 12, 13, 14] rfl (by kernel_rfl) (by kernel_rfl) (by kernel_rfl) (by kernel_rfl) (fun _ _ _ h => h) (Or.inl ⟨by kernel_rfl, fun w' hSw => ?_⟩) hHeld ?_
  · clear hHeld hSw
    go_simp
  simp only [Act.put, List.getElem_toArray, List.getElem_cons_zero, List.getElem_cons_succ, List.setIfInBounds_toArray, List.set_cons_zero, List.set_cons_succ]
  refine wpAnyZ_take (i := 4) (v := .int .i64 f) [9, 12, 13, 14] rfl (by kernel_rfl) (by kernel_rfl) (by kernel_rfl) (by kernel_rfl) (fun _ _ _ h => h) (Or.inl ⟨by kernel_rfl, fun w' hSw => ?_⟩) hHeld ?_
  · have e0 := (HQb.out.keep hSw).p5
    clear hHeld hSw
    go_simp
  simp only [Act.put, List.getElem_toArray, List.getElem_cons_zero, List.getElem_cons_succ, List.setIfInBounds_toArray, List.set_cons_zero, List.set_cons_succ]
  refine wpAnyZ_take (i := 5) (v := .pointer (some ⟨q, 0, none⟩)) [6, 7, 8, 9, 12, 13, 14] rfl (by kernel_rfl) (by kernel_rfl) (by kernel_rfl) (by kernel_rfl) (fun _ _ _ h => h) (Or.inl ⟨by kernel_rfl, fun w' hSw => ?_⟩) hHeld ?_
  · clear hHeld hSw
    go_simp
  simp only [Act.put, List.getElem_toArray, List.getElem_cons_zero, List.getElem_cons_succ, List.setIfInBounds_toArray, List.set_cons_zero, List.set_cons_succ]
  refine wpAnyZ_take (i := 6) (v := .pointer (some ⟨q, 0, none⟩)) [7, 8, 9, 12, 13, 14] rfl (by kernel_rfl) (by kernel_rfl) (by kernel_rfl) (by kernel_rfl) (fun _ _ _ h => h) (Or.inl ⟨by kernel_rfl, fun w' hSw => ?_⟩) hHeld ?_
  · clear hHeld hSw
    go_simp
  simp only [Act.put, List.getElem_toArray, List.getElem_cons_zero, List.getElem_cons_succ, List.setIfInBounds_toArray, List.set_cons_zero, List.set_cons_succ]
  refine wpAnyZ_take (i := 7) (v := .pointer (some ⟨q, 6, none⟩)) [8, 9, 12, 13, 14] rfl (by kernel_rfl) (by kernel_rfl) (by kernel_rfl) (by kernel_rfl) (fun _ _ _ h => h) (Or.inl ⟨by kernel_rfl, fun w' hSw => ?_⟩) hHeld ?_
  · clear hHeld hSw
    go_simp
  simp only [Act.put, List.getElem_toArray, List.getElem_cons_zero, List.getElem_cons_succ, List.setIfInBounds_toArray, List.set_cons_zero, List.set_cons_succ]
  refine wpAnyZ_take (i := 8) (v := .int .i64 t) [9, 12, 13, 14] rfl (by kernel_rfl) (by kernel_rfl) (by kernel_rfl) (by kernel_rfl) (fun _ _ _ h => h) (Or.inl ⟨by kernel_rfl, fun w' hSw => ?_⟩) hHeld ?_
  · have e0 := (HQb.out.keep hSw).p6
    clear hHeld hSw
    go_simp
  simp only [Act.put, List.getElem_toArray, List.getElem_cons_zero, List.getElem_cons_succ, List.setIfInBounds_toArray, List.set_cons_zero, List.set_cons_succ]
  refine wpAnyZ_take (i := 10) (v := .pointer (some ⟨q, 0, none⟩)) [11, 12, 13, 14] rfl (by kernel_rfl) (by kernel_rfl) (by kernel_rfl) (by kernel_rfl) (fun _ _ _ h => h) (Or.inl ⟨by kernel_rfl, fun w' hSw => ?_⟩) hHeld ?_
  · clear hHeld hSw
    go_simp
  simp only [Act.put, List.getElem_toArray, List.getElem_cons_zero, List.getElem_cons_succ, List.setIfInBounds_toArray, List.set_cons_zero, List.set_cons_succ]
  refine wpAnyZ_one (i := 9) (by kernel_rfl) rfl (fun K' hK => ?_)
  go_simp
  refine (qMinutes_any f t wd).mono ?_
  rintro e v1 ⟨rfl, hv1⟩
  obtain ⟨N, hN⟩ : ∃ N, N = wd.heap.size := ⟨_, rfl⟩
  have hb1 : Below w1.heap.size w1 v1 := by rw [hv1]; exact (hHeld.alloc hHeld.size _).alloc (by have := hHeld.size; simp; omega) _
  have x1 : v1.cell? ⟨N, 0, none⟩ = some (.int .i64 f) := by rw [hv1, hN]; go_simp
  have x2 : v1.cell? ⟨N + 1, 0, none⟩ = some (.int .i64 t) := by rw [hv1, hN]; go_simp
  rw [← hN]
  clear hN hv1
  refine hK.out _ _ ?_ (fun hHeld' => ?_)
  · exact hb1
  clear hK K' hHeld
  have hHeld := hHeld'
  clear hHeld'
  try simp only [Act.put, List.getElem_toArray, List.getElem_cons_zero, List.getElem_cons_succ, List.setIfInBounds_toArray, List.set_cons_zero, List.set_cons_succ]
  refine wpAnyZ_one (i := 11) (by kernel_rfl) rfl (fun K' hK => ?_)
  go_simp
  refine (qIn_any q 1 v1).mono ?_
  rintro e v2 ⟨rfl, hv2⟩
  obtain ⟨M, hM⟩ : ∃ N, N = v1.heap.size := ⟨_, rfl⟩
  have hb12 : Below v1.heap.size v1 v2 := by rw [hv2]; exact ((Below.refl _ _).alloc (Nat.le_refl _) _).alloc (by simp) _
  have x3 : v2.cell? ⟨M, 0, none⟩ = some (.pointer (some ⟨q, 0, none⟩)) := by rw [hv2, hM]; go_simp
  have x4 : v2.cell? ⟨M + 1, 0, none⟩ = some (.int .i64 1) := by rw [hv2, hM]; go_simp
  have x5 := (hb12.cell (p := ⟨N, 0, none⟩) (World.block_lt_of_cell? _ _ x1)).trans x1
  have x6 := (hb12.cell (p := ⟨N + 1, 0, none⟩) (World.block_lt_of_cell? _ _ x2)).trans x2
  rw [← hM]
  have HB2 : Hid (Below w1.heap.size w1 v2) := Lib.hid (hHeld.trans (hb12.mono hHeld.size))
  clear hM hv2 hb12 x1 x2
  refine hK.out _ _ ?_ (fun hHeld' => ?_)
  · exact HB2.out
  clear hK K' hHeld
  have hHeld := hHeld'
  clear hHeld'
  try simp only [Act.put, List.getElem_toArray, List.getElem_cons_zero, List.getElem_cons_succ, List.setIfInBounds_toArray, List.set_cons_zero, List.set_cons_succ]
  refine wpAnyZ_one (i := 12) (by kernel_rfl) rfl (fun K' hK => ?_)
  go_simp
  refine (qGreat_any q N (N + 1) M (M + 1) nm aT nT cT ar aC nC cC aH nH cH c f t 1 v2 (Lib.hid (HQb.out.keep HB2.out)) HTL.out HFT0.out.1 HFT0.out.2 x3 x4 x5 x6).mono ?_
  rintro e v3 ⟨rfl, hb3⟩
  have HB3 : Hid (Below w1.heap.size w1 v3) := Lib.hid (HB2.out.trans (hb3.mono HB2.out.size))
  clear hb3 x3 x4 x5 x6
  refine hK.out _ _ ?_ (fun hHeld' => ?_)
  · exact HB3.out
  clear hK K' hHeld
  have hHeld := hHeld'
  clear hHeld'
  try simp only [Act.put, List.getElem_toArray, List.getElem_cons_zero, List.getElem_cons_succ, List.setIfInBounds_toArray, List.set_cons_zero, List.set_cons_succ]
  refine wpAnyZ_take (i := 13) (v := .int .i64 (ev + (gq 1 c f t ar))) [14] rfl (by kernel_rfl) (by kernel_rfl) (by kernel_rfl) (by kernel_rfl) (fun _ _ _ h => h) (Or.inl ⟨by kernel_rfl, fun w' hSw => ?_⟩) hHeld ?_
  · clear hHeld hSw
    go_simp
  simp only [Act.put, List.getElem_toArray, List.getElem_cons_zero, List.getElem_cons_succ, List.setIfInBounds_toArray, List.set_cons_zero, List.set_cons_succ]
  refine wpAnyZ_take (i := 14) (v := .int .i64 (ev + (gq 1 c f t ar))) [] rfl (by kernel_rfl) (by kernel_rfl) (by kernel_rfl) (by kernel_rfl) (fun _ _ _ h => h) (Or.inl ⟨by kernel_rfl, fun w' hSw => ?_⟩) hHeld ?_
  · clear hHeld hSw
    go_simp
  simp only [Act.put, List.getElem_toArray, List.getElem_cons_zero, List.getElem_cons_succ, List.setIfInBounds_toArray, List.set_cons_zero, List.set_cons_succ]
  refine wpAnyZ_done (by kernel_rfl) ?_ _
  go_step
  go_step
  have HW := Lib.hid (below_then HW.out HB3.out)
  clear hHeld HB2 HB3 hwi
  have HQ4 := Lib.hid (HQ.out.keep HW.out)
  have p1 : v3.cell? ⟨q, 1, none⟩ = some (.slice aT nT cT) := HQ4.out.p1
  have hlq : q < v3.heap.size := World.block_lt_of_cell? v3 _ p1
  generalize (gq 1 c f t ar) = gg at *
  go_wp2_with fail
  have HS0 : Hid (R = tmQ c f t (ar.drop 0) (ev + gg)) := Lib.hid HR2.out
  clear p1 hlq HQ4 HR2
  go_loopg [8, 42] nT (fun g1 v8 v42 wr => ∃ (i : Nat) (z : Int), v8 = .int .i64 z ∧ v42 = .int .i64 i ∧ i ≤ nT ∧ nT - i ≤ g1 ∧ 0 ≤ z ∧ z ≤ 2000000000 + 1000000000 * (i : Int) ∧ Hid (R = tmQ c f t (ar.drop i) z) ∧ Hid (Below w.heap.size w wr))
  case atStart => exact ⟨0, ev + gg, rfl, by go_num, by omega, by omega, by omega, by omega, HS0, HW⟩
  case round =>
    clear HS0 HW hev0 hev1 hgb0 hgb1
    obtain ⟨i, z, rfl, rfl, hi, hg1, hzz0, hzz1, HS, HW⟩ := hrel
    by_cases hlt : i < nT
    · have hltz : (i : Int) < (nT : Int) := by omega
      have HQR := Lib.hid (HQ.out.keep HW.out)
      obtain ⟨bb, off, a, hA, hbl, hgx, c0, c1, c2, c3, c4, c5, c6⟩ := rdArt_at HQR.out.rt.ra (show i < ar.length by rw [HQR.out.rt.la]; exact hlt)
      have HAB : Hid (artB a = true) := Lib.hid (HTL.out.2.1 a (List.mem_of_getElem? hgx))
      obtain ⟨cn, hcn⟩ : ∃ n, n = cntN a c f (t - f).toNat := ⟨_, rfl⟩
      have HCN := Lib.hid hcn
      have hcb : cn ≤ 2880 := by have := cntN_le a c f (t - f).toNat; have := HFT.out; omega
      have HSS : Hid (R = if a.kind = 3 ∨ a.kind = 4 then (if startE a.price (max 0 ((cn : Int) - a.free)) a.unit = 0 then tmQ c f t (ar.drop (i + 1)) (z + startV a.price (max 0 ((cn : Int) - a.free)) a.unit) else none) else tmQ c f t (ar.drop (i + 1)) z) := Lib.hid (by rw [HS.out, drop_at hgx, hcn]; rfl)
      clear HS hgx hcn
      obtain ⟨W1, hW1⟩ : ∃ W, W = wr.alloc (.cells #[.int .i64 a.kind, .int .i64 a.days, .int .i64 a.frm, .int .i64 a.till, .int .i64 a.price, .int .i64 a.unit, .int .i64 a.free] 49) := ⟨_, rfl⟩
      obtain ⟨Y, hY⟩ : ∃ Y, Y = wr.heap.size := ⟨_, rfl⟩
      have HA : Hid (ArtM wr W1 Y a) := Lib.hid (by rw [hW1, hY]; exact ArtM.box (Below.refl _ _))
      have HQ1 := Lib.hid (HQR.out.keep HA.out.bel)
      have HW1 := Lib.hid (below_then HW.out HA.out.bel)
      subst hA
      have HWY := Lib.hid (And.intro hW1.symm hY.symm)
      clear hW1 hY HQR
      go_upto_region 8 with (fail)
      rw [HWY.out.1, HWY.out.2]
      clear HWY c0 c1 c2 c3 c4 c5 c6
      obtain ⟨y0, y1, y2, y3, y4, y5, y6⟩ : W1.cell? ⟨Y, 0, none⟩ = some (.int .i64 a.kind) ∧ W1.cell? ⟨Y, 1, none⟩ = some (.int .i64 a.days) ∧ W1.cell? ⟨Y, 2, none⟩ = some (.int .i64 a.frm) ∧ W1.cell? ⟨Y, 3, none⟩ = some (.int .i64 a.till) ∧ W1.cell? ⟨Y, 4, none⟩ = some (.int .i64 a.price) ∧ W1.cell? ⟨Y, 5, none⟩ = some (.int .i64 a.unit) ∧ W1.cell? ⟨Y, 6, none⟩ = some (.int .i64 a.free) := ⟨HA.out.k0, HA.out.k1, HA.out.k2, HA.out.k3, HA.out.k4, HA.out.k5, HA.out.k6⟩
      have hlY : Y < W1.heap.size := World.block_lt_of_cell? W1 _ y0
      by_cases hk34 : a.kind = 3 ∨ a.kind = 4
      case neg =>
        have HS2 : Hid (R = tmQ c f t (ar.drop (i + 1)) z) := Lib.hid (by rw [HSS.out, if_neg hk34])
        have hk3 : (a.kind != 3) = true := by simpa using fun h => hk34 (.inl h)
        have hk4 : (a.kind != 4) = true := by simpa using fun h => hk34 (.inr h)
        have hk3' : (a.kind == 3) = false := by simpa using fun h => hk34 (.inl h)
        have hk4' : (a.kind == 4) = false := by simpa using fun h => hk34 (.inr h)
        clear hk34
        go_wp2_with fail
        go_roundg (nT - (i + 1))
        case measure => omega
        case rel => exact ⟨i + 1, z, rfl, by go_num, by omega, by omega, by omega, by omega, HS2, HW1⟩
      have HK34 := Lib.hid hk34
      have HS2 : Hid (R = if startE a.price (max 0 ((cn : Int) - a.free)) a.unit = 0 then tmQ c f t (ar.drop (i + 1)) (z + startV a.price (max 0 ((cn : Int) - a.free)) a.unit) else none) := Lib.hid (by rw [HSS.out, if_pos hk34])
      have hfr := art_free HAB.out hk34
      obtain ⟨hfr0, hfr1⟩ := hfr
      have hwi : IntKind.i64.wrap ((cn : Int) - a.free) = (cn : Int) - a.free := IntWalk.i64_in _ (by omega)
      have hkk : ((a.kind != 3) && (a.kind != 4)) = false := by rcases hk34 with h | h <;> rw [h] <;> rfl
      clear HSS hk34
      rcases HK34.out with hka | hka
      · have hk3 : (a.kind != 3) = false := by rw [hka]; rfl
        have hk3' : (a.kind == 3) = true := by rw [hka]; rfl
        clear hka hkk
        go_upto_region 9 with (fail)
        refine region_z (S := fun w' => Below W1.heap.size W1 w') [] (by kernel_rfl) (Below.refl _ _).drew (fun hHeld => ?_)
        obtain ⟨wd, hwd⟩ : ∃ wd, wd = W1.drew := ⟨_, rfl⟩
        rw [← hwd] at hHeld ⊢
        clear hwd
        refine wpAnyZ_take (i := 0) (v := .pointer (some ⟨Y, 4, none⟩)) [1, 11, 12, 13, 14, 15, 16] rfl (by kernel_rfl) (by kernel_rfl) (by kernel_rfl) (by kernel_rfl) (fun _ _ _ h => h) (Or.inl ⟨by kernel_rfl, fun w' hSw => ?_⟩) hHeld ?_
        · clear hHeld hSw
          go_simp
        simp only [Act.put, List.getElem_toArray, List.getElem_cons_zero, List.getElem_cons_succ, List.setIfInBounds_toArray, List.set_cons_zero, List.set_cons_succ]
        refine wpAnyZ_take (i := 1) (v := .int .i64 a.price) [11, 12, 13, 14, 15, 16] rfl (by kernel_rfl) (by kernel_rfl) (by kernel_rfl) (by kernel_rfl) (fun _ _ _ h => h) (Or.inl ⟨by kernel_rfl, fun w' hSw => ?_⟩) hHeld ?_
        · have e0 := (hSw.cell (p := ⟨Y, 4, none⟩) hlY).trans y4
          clear hHeld hSw
          go_simp
        simp only [Act.put, List.getElem_toArray, List.getElem_cons_zero, List.getElem_cons_succ, List.setIfInBounds_toArray, List.set_cons_zero, List.set_cons_succ]
        refine wpAnyZ_take (i := 2) (v := .pointer (some ⟨q, 0, none⟩)) [4, 7, 8, 11, 12, 13, 14, 15, 16] rfl (by kernel_rfl) (by kernel_rfl) (by kernel_rfl) (by kernel_rfl) (fun _ _ _ h => h) (Or.inl ⟨by kernel_rfl, fun w' hSw => ?_⟩) hHeld ?_
        · clear hHeld hSw
          go_simp
        simp only [Act.put, List.getElem_toArray, List.getElem_cons_zero, List.getElem_cons_succ, List.setIfInBounds_toArray, List.set_cons_zero, List.set_cons_succ]
        refine wpAnyZ_take (i := 3) (v := .agg #[.int .i64 a.kind, .int .i64 a.days, .int .i64 a.frm, .int .i64 a.till, .int .i64 a.price, .int .i64 a.unit, .int .i64 a.free]) [4, 7, 8, 11, 12, 13, 14, 15, 16] rfl (by kernel_rfl) (by kernel_rfl) (by kernel_rfl) (by kernel_rfl) (fun _ _ _ h => h) (Or.inl ⟨by kernel_rfl, fun w' hSw => ?_⟩) hHeld ?_
        · have e0 := (hSw.cell (p := ⟨Y, 0, none⟩) hlY).trans y0
          have e1 := (hSw.cell (p := ⟨Y, 1, none⟩) hlY).trans y1
          have e2 := (hSw.cell (p := ⟨Y, 2, none⟩) hlY).trans y2
          have e3 := (hSw.cell (p := ⟨Y, 3, none⟩) hlY).trans y3
          have e4 := (hSw.cell (p := ⟨Y, 4, none⟩) hlY).trans y4
          have e5 := (hSw.cell (p := ⟨Y, 5, none⟩) hlY).trans y5
          have e6 := (hSw.cell (p := ⟨Y, 6, none⟩) hlY).trans y6
          clear hHeld hSw
          go_simp
        simp only [Act.put, List.getElem_toArray, List.getElem_cons_zero, List.getElem_cons_succ, List.setIfInBounds_toArray, List.set_cons_zero, List.set_cons_succ]
        refine wpAnyZ_take (i := 5) (v := .pointer (some ⟨Y, 6, none⟩)) [6, 7, 8, 11, 12, 13, 14, 15, 16] rfl (by kernel_rfl) (by kernel_rfl) (by kernel_rfl) (by kernel_rfl) (fun _ _ _ h => h) (Or.inl ⟨by kernel_rfl, fun w' hSw => ?_⟩) hHeld ?_
        · clear hHeld hSw
          go_simp
        simp only [Act.put, List.getElem_toArray, List.getElem_cons_zero, List.getElem_cons_succ, List.setIfInBounds_toArray, List.set_cons_zero, List.set_cons_succ]
        refine wpAnyZ_take (i := 6) (v := .int .i64 a.free) [7, 8, 11, 12, 13, 14, 15, 16] rfl (by kernel_rfl) (by kernel_rfl) (by kernel_rfl) (by kernel_rfl) (fun _ _ _ h => h) (Or.inl ⟨by kernel_rfl, fun w' hSw => ?_⟩) hHeld ?_
        · have e0 := (hSw.cell (p := ⟨Y, 6, none⟩) hlY).trans y6
          clear hHeld hSw
          go_simp
        simp only [Act.put, List.getElem_toArray, List.getElem_cons_zero, List.getElem_cons_succ, List.setIfInBounds_toArray, List.set_cons_zero, List.set_cons_succ]
        refine wpAnyZ_take (i := 9) (v := .pointer (some ⟨Y, 5, none⟩)) [10, 11, 12, 13, 14, 15, 16] rfl (by kernel_rfl) (by kernel_rfl) (by kernel_rfl) (by kernel_rfl) (fun _ _ _ h => h) (Or.inl ⟨by kernel_rfl, fun w' hSw => ?_⟩) hHeld ?_
        · clear hHeld hSw
          go_simp
        simp only [Act.put, List.getElem_toArray, List.getElem_cons_zero, List.getElem_cons_succ, List.setIfInBounds_toArray, List.set_cons_zero, List.set_cons_succ]
        refine wpAnyZ_take (i := 10) (v := .int .i64 a.unit) [11, 12, 13, 14, 15, 16] rfl (by kernel_rfl) (by kernel_rfl) (by kernel_rfl) (by kernel_rfl) (fun _ _ _ h => h) (Or.inl ⟨by kernel_rfl, fun w' hSw => ?_⟩) hHeld ?_
        · have e0 := (hSw.cell (p := ⟨Y, 5, none⟩) hlY).trans y5
          clear hHeld hSw
          go_simp
        simp only [Act.put, List.getElem_toArray, List.getElem_cons_zero, List.getElem_cons_succ, List.setIfInBounds_toArray, List.set_cons_zero, List.set_cons_succ]
        refine wpAnyZ_one (i := 4) (by kernel_rfl) rfl (fun K' hK => ?_)
        go_simp
        refine (qCount_any q nm (some ⟨bb, off, none⟩) nT cT ar aC nC cC aH nH cH c f t a wd (Lib.hid (HQ1.out.keep hHeld)) HFT0.out.1 HFT0.out.2).mono ?_
        rintro e v1 ⟨rfl, hb1⟩
        have HB1 : Hid (Below W1.heap.size W1 v1) := Lib.hid (hHeld.trans (hb1.mono hHeld.size))
        clear hb1
        rw [← HCN.out]
        refine hK.out _ _ ?_ (fun hHeld' => ?_)
        · exact HB1.out
        clear hK K' hHeld
        have hHeld := hHeld'
        clear hHeld'
        try simp only [Act.put, List.getElem_toArray, List.getElem_cons_zero, List.getElem_cons_succ, List.setIfInBounds_toArray, List.set_cons_zero, List.set_cons_succ]
        refine wpAnyZ_take (i := 7) (v := .int .i64 ((cn : Nat) - a.free)) [8, 11, 12, 13, 14, 15, 16] rfl (by kernel_rfl) (by kernel_rfl) (by kernel_rfl) (by kernel_rfl) (fun _ _ _ h => h) (Or.inl ⟨by kernel_rfl, fun w' hSw => ?_⟩) hHeld ?_
        · clear hHeld hSw
          go_simp
        simp only [Act.put, List.getElem_toArray, List.getElem_cons_zero, List.getElem_cons_succ, List.setIfInBounds_toArray, List.set_cons_zero, List.set_cons_succ]
        refine wpAnyZ_take (i := 8) (v := .int .i64 (max 0 ((cn : Nat) - a.free))) [11, 12, 13, 14, 15, 16] rfl (by kernel_rfl) (by kernel_rfl) (by kernel_rfl) (by kernel_rfl) (fun _ _ _ h => h) (Or.inl ⟨by kernel_rfl, fun w' hSw => ?_⟩) hHeld ?_
        · clear hHeld hSw
          go_simp
          split <;> omega
        simp only [Act.put, List.getElem_toArray, List.getElem_cons_zero, List.getElem_cons_succ, List.setIfInBounds_toArray, List.set_cons_zero, List.set_cons_succ]
        refine wpAnyZ_one (i := 11) (by kernel_rfl) rfl (fun K' hK => ?_)
        go_simp
        refine (mStarted_all a.price (max 0 ((cn : Int) - a.free)) a.unit v1).mono ?_
        rintro e v2 ⟨rfl, hb2⟩
        have HB2 : Hid (Below W1.heap.size W1 v2) := Lib.hid (HB1.out.trans (hb2.mono HB1.out.size))
        clear hb2
        refine hK.out _ _ ?_ (fun hHeld' => ?_)
        · exact HB2.out
        clear hK K' hHeld
        have hHeld := hHeld'
        clear hHeld'
        try simp only [Act.put, List.getElem_toArray, List.getElem_cons_zero, List.getElem_cons_succ, List.setIfInBounds_toArray, List.set_cons_zero, List.set_cons_succ]
        refine wpAnyZ_take (i := 12) (v := .tuple #[.int .i64 (startV a.price (max 0 ((cn : Int) - a.free)) a.unit), .int .i64 (startE a.price (max 0 ((cn : Int) - a.free)) a.unit)]) [13, 14, 15, 16] rfl (by kernel_rfl) (by kernel_rfl) (by kernel_rfl) (by kernel_rfl) (fun _ _ _ h => h) (Or.inl ⟨by kernel_rfl, fun w' hSw => ?_⟩) hHeld ?_
        · clear hHeld hSw
          go_simp
        simp only [Act.put, List.getElem_toArray, List.getElem_cons_zero, List.getElem_cons_succ, List.setIfInBounds_toArray, List.set_cons_zero, List.set_cons_succ]
        refine wpAnyZ_take (i := 13) (v := .int .i64 (startV a.price (max 0 ((cn : Int) - a.free)) a.unit)) [15] rfl (by kernel_rfl) (by kernel_rfl) (by kernel_rfl) (by kernel_rfl) (fun _ _ _ h => h) (Or.inl ⟨by kernel_rfl, fun w' hSw => ?_⟩) hHeld ?_
        · clear hHeld hSw
          go_simp
        simp only [Act.put, List.getElem_toArray, List.getElem_cons_zero, List.getElem_cons_succ, List.setIfInBounds_toArray, List.set_cons_zero, List.set_cons_succ]
        refine wpAnyZ_take (i := 14) (v := .int .i64 (startE a.price (max 0 ((cn : Int) - a.free)) a.unit)) [16] rfl (by kernel_rfl) (by kernel_rfl) (by kernel_rfl) (by kernel_rfl) (fun _ _ _ h => h) (Or.inl ⟨by kernel_rfl, fun w' hSw => ?_⟩) hHeld ?_
        · clear hHeld hSw
          go_simp
        simp only [Act.put, List.getElem_toArray, List.getElem_cons_zero, List.getElem_cons_succ, List.setIfInBounds_toArray, List.set_cons_zero, List.set_cons_succ]
        refine wpAnyZ_take (i := 15) (v := .int .i64 (startV a.price (max 0 ((cn : Int) - a.free)) a.unit)) [] rfl (by kernel_rfl) (by kernel_rfl) (by kernel_rfl) (by kernel_rfl) (fun _ _ _ h => h) (Or.inl ⟨by kernel_rfl, fun w' hSw => ?_⟩) hHeld ?_
        · clear hHeld hSw
          go_simp
        simp only [Act.put, List.getElem_toArray, List.getElem_cons_zero, List.getElem_cons_succ, List.setIfInBounds_toArray, List.set_cons_zero, List.set_cons_succ]
        refine wpAnyZ_take (i := 16) (v := .int .i64 (startE a.price (max 0 ((cn : Int) - a.free)) a.unit)) [] rfl (by kernel_rfl) (by kernel_rfl) (by kernel_rfl) (by kernel_rfl) (fun _ _ _ h => h) (Or.inl ⟨by kernel_rfl, fun w' hSw => ?_⟩) hHeld ?_
        · clear hHeld hSw
          go_simp
        simp only [Act.put, List.getElem_toArray, List.getElem_cons_zero, List.getElem_cons_succ, List.setIfInBounds_toArray, List.set_cons_zero, List.set_cons_succ]
        refine wpAnyZ_done (by kernel_rfl) ?_ _
        go_step
        go_step
        have HW2 := Lib.hid (below_then HW1.out hHeld)
        have HSB := Lib.hid (startV_bd a.price (max 0 ((cn : Int) - a.free)) a.unit)
        clear hHeld HB1 HB2 y0 y1 y2 y3 y4 y5 y6 hlY hwi
        generalize startV a.price (max 0 ((cn : Int) - a.free)) a.unit = sv at *
        generalize startE a.price (max 0 ((cn : Int) - a.free)) a.unit = se at *
        obtain ⟨hsv0, hsv1⟩ := HSB.out
        by_cases hse : se = 0
        · subst hse
          have HS3 : Hid (R = tmQ c f t (ar.drop (i + 1)) (z + sv)) := Lib.hid (by rw [HS2.out, if_pos rfl])
          have hwz : IntKind.i64.wrap (z + sv) = z + sv := IntWalk.i64_in _ (by omega)
          go_wp2_with fail
          go_roundg (nT - (i + 1))
          case measure => omega
          case rel => exact ⟨i + 1, z + sv, rfl, by go_num, by omega, by omega, by omega, by omega, HS3, HW2⟩
        · have HE : Hid (R = none) := Lib.hid (by rw [HS2.out, if_neg hse])
          have hz2 : (se != 0) = true := by simpa using hse
          have HW := HW2
          go_wp2_with fail
          go_ret2
          exact ⟨by rw [HE.out]; rfl, HW.out⟩
      · have hk3 : (a.kind != 3) = true := by rw [hka]; rfl
        have hk3' : (a.kind == 3) = false := by rw [hka]; rfl
        have hk4 : (a.kind != 4) = false := by rw [hka]; rfl
        have hk4' : (a.kind == 4) = true := by rw [hka]; rfl
        clear hka hkk
        go_upto_region 9 with (fail)
        refine region_z (S := fun w' => Below W1.heap.size W1 w') [] (by kernel_rfl) (Below.refl _ _).drew (fun hHeld => ?_)
        obtain ⟨wd, hwd⟩ : ∃ wd, wd = W1.drew := ⟨_, rfl⟩
        rw [← hwd] at hHeld ⊢
        clear hwd
        refine wpAnyZ_take (i := 0) (v := .pointer (some ⟨Y, 4, none⟩)) [1, 11, 12, 13, 14, 15, 16] rfl (by kernel_rfl) (by kernel_rfl) (by kernel_rfl) (by kernel_rfl) (fun _ _ _ h => h) (Or.inl ⟨by kernel_rfl, fun w' hSw => ?_⟩) hHeld ?_
        · clear hHeld hSw
          go_simp
        simp only [Act.put, List.getElem_toArray, List.getElem_cons_zero, List.getElem_cons_succ, List.setIfInBounds_toArray, List.set_cons_zero, List.set_cons_succ]
        refine wpAnyZ_take (i := 1) (v := .int .i64 a.price) [11, 12, 13, 14, 15, 16] rfl (by kernel_rfl) (by kernel_rfl) (by kernel_rfl) (by kernel_rfl) (fun _ _ _ h => h) (Or.inl ⟨by kernel_rfl, fun w' hSw => ?_⟩) hHeld ?_
        · have e0 := (hSw.cell (p := ⟨Y, 4, none⟩) hlY).trans y4
          clear hHeld hSw
          go_simp
        simp only [Act.put, List.getElem_toArray, List.getElem_cons_zero, List.getElem_cons_succ, List.setIfInBounds_toArray, List.set_cons_zero, List.set_cons_succ]
        refine wpAnyZ_take (i := 2) (v := .pointer (some ⟨q, 0, none⟩)) [4, 7, 8, 11, 12, 13, 14, 15, 16] rfl (by kernel_rfl) (by kernel_rfl) (by kernel_rfl) (by kernel_rfl) (fun _ _ _ h => h) (Or.inl ⟨by kernel_rfl, fun w' hSw => ?_⟩) hHeld ?_
        · clear hHeld hSw
          go_simp
        simp only [Act.put, List.getElem_toArray, List.getElem_cons_zero, List.getElem_cons_succ, List.setIfInBounds_toArray, List.set_cons_zero, List.set_cons_succ]
        refine wpAnyZ_take (i := 3) (v := .agg #[.int .i64 a.kind, .int .i64 a.days, .int .i64 a.frm, .int .i64 a.till, .int .i64 a.price, .int .i64 a.unit, .int .i64 a.free]) [4, 7, 8, 11, 12, 13, 14, 15, 16] rfl (by kernel_rfl) (by kernel_rfl) (by kernel_rfl) (by kernel_rfl) (fun _ _ _ h => h) (Or.inl ⟨by kernel_rfl, fun w' hSw => ?_⟩) hHeld ?_
        · have e0 := (hSw.cell (p := ⟨Y, 0, none⟩) hlY).trans y0
          have e1 := (hSw.cell (p := ⟨Y, 1, none⟩) hlY).trans y1
          have e2 := (hSw.cell (p := ⟨Y, 2, none⟩) hlY).trans y2
          have e3 := (hSw.cell (p := ⟨Y, 3, none⟩) hlY).trans y3
          have e4 := (hSw.cell (p := ⟨Y, 4, none⟩) hlY).trans y4
          have e5 := (hSw.cell (p := ⟨Y, 5, none⟩) hlY).trans y5
          have e6 := (hSw.cell (p := ⟨Y, 6, none⟩) hlY).trans y6
          clear hHeld hSw
          go_simp
        simp only [Act.put, List.getElem_toArray, List.getElem_cons_zero, List.getElem_cons_succ, List.setIfInBounds_toArray, List.set_cons_zero, List.set_cons_succ]
        refine wpAnyZ_take (i := 5) (v := .pointer (some ⟨Y, 6, none⟩)) [6, 7, 8, 11, 12, 13, 14, 15, 16] rfl (by kernel_rfl) (by kernel_rfl) (by kernel_rfl) (by kernel_rfl) (fun _ _ _ h => h) (Or.inl ⟨by kernel_rfl, fun w' hSw => ?_⟩) hHeld ?_
        · clear hHeld hSw
          go_simp
        simp only [Act.put, List.getElem_toArray, List.getElem_cons_zero, List.getElem_cons_succ, List.setIfInBounds_toArray, List.set_cons_zero, List.set_cons_succ]
        refine wpAnyZ_take (i := 6) (v := .int .i64 a.free) [7, 8, 11, 12, 13, 14, 15, 16] rfl (by kernel_rfl) (by kernel_rfl) (by kernel_rfl) (by kernel_rfl) (fun _ _ _ h => h) (Or.inl ⟨by kernel_rfl, fun w' hSw => ?_⟩) hHeld ?_
        · have e0 := (hSw.cell (p := ⟨Y, 6, none⟩) hlY).trans y6
          clear hHeld hSw
          go_simp
        simp only [Act.put, List.getElem_toArray, List.getElem_cons_zero, List.getElem_cons_succ, List.setIfInBounds_toArray, List.set_cons_zero, List.set_cons_succ]
        refine wpAnyZ_take (i := 9) (v := .pointer (some ⟨Y, 5, none⟩)) [10, 11, 12, 13, 14, 15, 16] rfl (by kernel_rfl) (by kernel_rfl) (by kernel_rfl) (by kernel_rfl) (fun _ _ _ h => h) (Or.inl ⟨by kernel_rfl, fun w' hSw => ?_⟩) hHeld ?_
        · clear hHeld hSw
          go_simp
        simp only [Act.put, List.getElem_toArray, List.getElem_cons_zero, List.getElem_cons_succ, List.setIfInBounds_toArray, List.set_cons_zero, List.set_cons_succ]
        refine wpAnyZ_take (i := 10) (v := .int .i64 a.unit) [11, 12, 13, 14, 15, 16] rfl (by kernel_rfl) (by kernel_rfl) (by kernel_rfl) (by kernel_rfl) (fun _ _ _ h => h) (Or.inl ⟨by kernel_rfl, fun w' hSw => ?_⟩) hHeld ?_
        · have e0 := (hSw.cell (p := ⟨Y, 5, none⟩) hlY).trans y5
          clear hHeld hSw
          go_simp
        simp only [Act.put, List.getElem_toArray, List.getElem_cons_zero, List.getElem_cons_succ, List.setIfInBounds_toArray, List.set_cons_zero, List.set_cons_succ]
        refine wpAnyZ_one (i := 4) (by kernel_rfl) rfl (fun K' hK => ?_)
        go_simp
        refine (qCount_any q nm (some ⟨bb, off, none⟩) nT cT ar aC nC cC aH nH cH c f t a wd (Lib.hid (HQ1.out.keep hHeld)) HFT0.out.1 HFT0.out.2).mono ?_
        rintro e v1 ⟨rfl, hb1⟩
        have HB1 : Hid (Below W1.heap.size W1 v1) := Lib.hid (hHeld.trans (hb1.mono hHeld.size))
        clear hb1
        rw [← HCN.out]
        refine hK.out _ _ ?_ (fun hHeld' => ?_)
        · exact HB1.out
        clear hK K' hHeld
        have hHeld := hHeld'
        clear hHeld'
        try simp only [Act.put, List.getElem_toArray, List.getElem_cons_zero, List.getElem_cons_succ, List.setIfInBounds_toArray, List.set_cons_zero, List.set_cons_succ]
        refine wpAnyZ_take (i := 7) (v := .int .i64 ((cn : Nat) - a.free)) [8, 11, 12, 13, 14, 15, 16] rfl (by kernel_rfl) (by kernel_rfl) (by kernel_rfl) (by kernel_rfl) (fun _ _ _ h => h) (Or.inl ⟨by kernel_rfl, fun w' hSw => ?_⟩) hHeld ?_
        · clear hHeld hSw
          go_simp
        simp only [Act.put, List.getElem_toArray, List.getElem_cons_zero, List.getElem_cons_succ, List.setIfInBounds_toArray, List.set_cons_zero, List.set_cons_succ]
        refine wpAnyZ_take (i := 8) (v := .int .i64 (max 0 ((cn : Nat) - a.free))) [11, 12, 13, 14, 15, 16] rfl (by kernel_rfl) (by kernel_rfl) (by kernel_rfl) (by kernel_rfl) (fun _ _ _ h => h) (Or.inl ⟨by kernel_rfl, fun w' hSw => ?_⟩) hHeld ?_
        · clear hHeld hSw
          go_simp
          split <;> omega
        simp only [Act.put, List.getElem_toArray, List.getElem_cons_zero, List.getElem_cons_succ, List.setIfInBounds_toArray, List.set_cons_zero, List.set_cons_succ]
        refine wpAnyZ_one (i := 11) (by kernel_rfl) rfl (fun K' hK => ?_)
        go_simp
        refine (mStarted_all a.price (max 0 ((cn : Int) - a.free)) a.unit v1).mono ?_
        rintro e v2 ⟨rfl, hb2⟩
        have HB2 : Hid (Below W1.heap.size W1 v2) := Lib.hid (HB1.out.trans (hb2.mono HB1.out.size))
        clear hb2
        refine hK.out _ _ ?_ (fun hHeld' => ?_)
        · exact HB2.out
        clear hK K' hHeld
        have hHeld := hHeld'
        clear hHeld'
        try simp only [Act.put, List.getElem_toArray, List.getElem_cons_zero, List.getElem_cons_succ, List.setIfInBounds_toArray, List.set_cons_zero, List.set_cons_succ]
        refine wpAnyZ_take (i := 12) (v := .tuple #[.int .i64 (startV a.price (max 0 ((cn : Int) - a.free)) a.unit), .int .i64 (startE a.price (max 0 ((cn : Int) - a.free)) a.unit)]) [13, 14, 15, 16] rfl (by kernel_rfl) (by kernel_rfl) (by kernel_rfl) (by kernel_rfl) (fun _ _ _ h => h) (Or.inl ⟨by kernel_rfl, fun w' hSw => ?_⟩) hHeld ?_
        · clear hHeld hSw
          go_simp
        simp only [Act.put, List.getElem_toArray, List.getElem_cons_zero, List.getElem_cons_succ, List.setIfInBounds_toArray, List.set_cons_zero, List.set_cons_succ]
        refine wpAnyZ_take (i := 13) (v := .int .i64 (startV a.price (max 0 ((cn : Int) - a.free)) a.unit)) [15] rfl (by kernel_rfl) (by kernel_rfl) (by kernel_rfl) (by kernel_rfl) (fun _ _ _ h => h) (Or.inl ⟨by kernel_rfl, fun w' hSw => ?_⟩) hHeld ?_
        · clear hHeld hSw
          go_simp
        simp only [Act.put, List.getElem_toArray, List.getElem_cons_zero, List.getElem_cons_succ, List.setIfInBounds_toArray, List.set_cons_zero, List.set_cons_succ]
        refine wpAnyZ_take (i := 14) (v := .int .i64 (startE a.price (max 0 ((cn : Int) - a.free)) a.unit)) [16] rfl (by kernel_rfl) (by kernel_rfl) (by kernel_rfl) (by kernel_rfl) (fun _ _ _ h => h) (Or.inl ⟨by kernel_rfl, fun w' hSw => ?_⟩) hHeld ?_
        · clear hHeld hSw
          go_simp
        simp only [Act.put, List.getElem_toArray, List.getElem_cons_zero, List.getElem_cons_succ, List.setIfInBounds_toArray, List.set_cons_zero, List.set_cons_succ]
        refine wpAnyZ_take (i := 15) (v := .int .i64 (startV a.price (max 0 ((cn : Int) - a.free)) a.unit)) [] rfl (by kernel_rfl) (by kernel_rfl) (by kernel_rfl) (by kernel_rfl) (fun _ _ _ h => h) (Or.inl ⟨by kernel_rfl, fun w' hSw => ?_⟩) hHeld ?_
        · clear hHeld hSw
          go_simp
        simp only [Act.put, List.getElem_toArray, List.getElem_cons_zero, List.getElem_cons_succ, List.setIfInBounds_toArray, List.set_cons_zero, List.set_cons_succ]
        refine wpAnyZ_take (i := 16) (v := .int .i64 (startE a.price (max 0 ((cn : Int) - a.free)) a.unit)) [] rfl (by kernel_rfl) (by kernel_rfl) (by kernel_rfl) (by kernel_rfl) (fun _ _ _ h => h) (Or.inl ⟨by kernel_rfl, fun w' hSw => ?_⟩) hHeld ?_
        · clear hHeld hSw
          go_simp
        simp only [Act.put, List.getElem_toArray, List.getElem_cons_zero, List.getElem_cons_succ, List.setIfInBounds_toArray, List.set_cons_zero, List.set_cons_succ]
        refine wpAnyZ_done (by kernel_rfl) ?_ _
        go_step
        go_step
        have HW2 := Lib.hid (below_then HW1.out hHeld)
        have HSB := Lib.hid (startV_bd a.price (max 0 ((cn : Int) - a.free)) a.unit)
        clear hHeld HB1 HB2 y0 y1 y2 y3 y4 y5 y6 hlY hwi
        generalize startV a.price (max 0 ((cn : Int) - a.free)) a.unit = sv at *
        generalize startE a.price (max 0 ((cn : Int) - a.free)) a.unit = se at *
        obtain ⟨hsv0, hsv1⟩ := HSB.out
        by_cases hse : se = 0
        · subst hse
          have HS3 : Hid (R = tmQ c f t (ar.drop (i + 1)) (z + sv)) := Lib.hid (by rw [HS2.out, if_pos rfl])
          have hwz : IntKind.i64.wrap (z + sv) = z + sv := IntWalk.i64_in _ (by omega)
          go_wp2_with fail
          go_roundg (nT - (i + 1))
          case measure => omega
          case rel => exact ⟨i + 1, z + sv, rfl, by go_num, by omega, by omega, by omega, by omega, HS3, HW2⟩
        · have HE : Hid (R = none) := Lib.hid (by rw [HS2.out, if_neg hse])
          have hz2 : (se != 0) = true := by simpa using hse
          have HW := HW2
          go_wp2_with fail
          go_ret2
          exact ⟨by rw [HE.out]; rfl, HW.out⟩
    · have hltz : ¬ (i : Int) < (nT : Int) := by omega
      have HR3 : Hid (R = if 1000000000 < z then none else some z) := Lib.hid (by rw [HS.out, List.drop_eq_nil_of_le (by rw [HQ.out.rt.la]; omega)]; rfl)
      by_cases hz9 : 1000000000 < z
      · have HE : Hid (R = none) := Lib.hid (by rw [HR3.out, if_pos hz9])
        go_wp2_with fail
        go_ret2
        exact ⟨by rw [HE.out]; rfl, HW.out⟩
      · have HE : Hid (R = some z) := Lib.hid (by rw [HR3.out, if_neg hz9])
        go_wp2_with fail
        go_ret2
        exact ⟨by rw [HE.out]; rfl, HW.out⟩
end Go.Proofs.YtoekpdnpncgeeaaGreat
/-
quote.Quote.
-/
namespace Go.Proofs.YtoekpdnpncgeeaaGreat
open Go.RowKit
set_option linter.unusedVariables false
set_option linter.unusedSimpArgs false
def limQ (f t en : Int) : Bool := (decide (0 ≤ f) && (decide (f < t) && (decide (t - f ≤ 2880) && (decide (t ≤ 52560000) && (decide (0 ≤ en) && decide (en ≤ 480000))))))
theorem limQ_iff {f t en : Int} (h : limQ f t en = true) : 0 ≤ f ∧ f < t ∧ t - f ≤ 2880 ∧ t ≤ 52560000 ∧ 0 ≤ en ∧ en ≤ 480000 := by
  unfold limQ at h
  simp only [Bool.and_eq_true, decide_eq_true_eq] at h
  exact ⟨h.1, h.2.1, h.2.2.1, h.2.2.2.1, h.2.2.2.2.1, h.2.2.2.2.2⟩
def capQ : Int → List Art → Int
  | z, [] => z
  | z, a :: l => capQ (if a.kind = 5 then min z a.price else z) l
def finQ (z r : Int) : Int × Int := if taxE z r = 0 ∧ z + taxV z r ≤ 1000000000 then (z + taxV z r, 0) else (0, 3)
noncomputable def quoR (nm : ByteArray) (ar : List Art) (c : Cal) (f t en : Int) : Int × Int := if (trfB nm ar && (calB c && limQ f t en)) = true then (match suQ c f t ar en with
  | none => (0, 3)
  | some v => finQ (capQ v ar) (rateF 0 ar)) else (0, 1)
theorem tmQ_bd {c : Cal} {f t : Int} : ∀ {l : List Art} {z v : Int}, 0 ≤ z → tmQ c f t l z = some v → 0 ≤ v ∧ v ≤ 1000000000 ∧ z ≤ v
  | [], z, v, h0, h => by
    unfold tmQ at h
    split at h
    · cases h
    · injection h with h; omega
  | a :: l, z, v, h0, h => by
    unfold tmQ at h
    split at h
    · split at h
      · have h1 := startV_bd a.price (max 0 ((cntN a c f (t - f).toNat : Int) - a.free)) a.unit
        have := tmQ_bd (by omega) h
        omega
      · cases h
    · exact tmQ_bd h0 h
theorem suQ_bd {c : Cal} {f t en v : Int} {ar : List Art} (hT : ar.length ≤ 12 ∧ (∀ a ∈ ar, artB a = true) ∧ taxN ar ≤ 1) (h : suQ c f t ar en = some v) : 0 ≤ v ∧ v ≤ 1000000000 := by
  unfold suQ at h
  obtain ⟨e, h1, h2⟩ := Option.bind_eq_some_iff.1 h
  have h3 := enQ_bd h1
  have h4 := gq_bd 1 c f t hT.1 hT.2.1
  have := tmQ_bd (by omega) h2
  omega
theorem QuM.box {W : World} {nm : ByteArray} {aT : Option Addr} {nT cT : Nat} {ar : List Art} {aC : Option Addr} {nC cC : Nat} {aH : Option Addr} {nH cH : Nat} {c : Cal} {f t : Int} (ht : RdTrf W nm aT nT ar) (hc : RdCal W aC nC aH nH c) : QuM (W.alloc (.cells #[.string nm, .slice aT nT cT, .int .i64 c.off, .slice aC nC cC, .slice aH nH cH, .int .i64 f, .int .i64 t] 77)) W.heap.size nm aT nT cT ar aC nC cC aH nH cH c f t :=
  have hb : Below W.heap.size W (W.alloc (.cells #[.string nm, .slice aT nT cT, .int .i64 c.off, .slice aC nC cC, .slice aH nH cH, .int .i64 f, .int .i64 t] 77)) := (Below.refl _ _).alloc (Nat.le_refl _) _
  ⟨by go_simp, by go_simp, by go_simp, by go_simp, by go_simp, by go_simp, by go_simp, ht.keep hb, hc.keep hb⟩
set_option maxRecDepth 100000 in
set_option maxHeartbeats 8000000 in
theorem qValid_any (f t en : Int) (w : World) (hf : -9223372036854775808 ≤ f) (ht : t ≤ 9223372036854775807) : Calls Tryz.prog 27 #[.int .i64 f, .int .i64 t, .int .i64 en] w fun e w' => e = .returned (.bool (limQ f t en)) ∧ Below w.heap.size w w' := by
  obtain ⟨R, hR⟩ : ∃ R, R = limQ f t en := ⟨_, rfl⟩
  have HR : Hid (R = (decide (0 ≤ f) && (decide (f < t) && (decide (t - f ≤ 2880) && (decide (t ≤ 52560000) && (decide (0 ≤ en) && decide (en ≤ 480000))))))) := Lib.hid (by rw [hR]; rfl)
  rw [← hR]
  clear hR
  have HW : Hid (Below w.heap.size w w) := Lib.hid (Below.refl _ _)
  go_enter Tryz.func27, Tryz.ntmps27
  by_cases h0 : 0 ≤ f
  case neg =>
    have h0z : f < 0 := by omega
    have HF : Hid (R = false) := Lib.hid (by rw [HR.out, decide_eq_false h0]; simp)
    go_wp2_with fail
    go_ret
    exact ⟨ret_bool HF.out.symm, HW.out⟩
  have HR : Hid (R = (decide (f < t) && (decide (t - f ≤ 2880) && (decide (t ≤ 52560000) && (decide (0 ≤ en) && decide (en ≤ 480000)))))) := Lib.hid (by rw [HR.out, decide_eq_true h0]; rfl)
  have h0z : ¬ f < 0 := by omega
  by_cases h1 : f < t
  case neg =>
    have h1z : t ≤ f := by omega
    have HF : Hid (R = false) := Lib.hid (by rw [HR.out, decide_eq_false h1]; simp)
    go_wp2_with fail
    go_ret
    exact ⟨ret_bool HF.out.symm, HW.out⟩
  have HR : Hid (R = (decide (t - f ≤ 2880) && (decide (t ≤ 52560000) && (decide (0 ≤ en) && decide (en ≤ 480000))))) := Lib.hid (by rw [HR.out, decide_eq_true h1]; rfl)
  have h1z : ¬ t ≤ f := by omega
  by_cases h2 : t - f ≤ 2880
  case neg =>
    have h2z : 2880 < t - f := by omega
    have HF : Hid (R = false) := Lib.hid (by rw [HR.out, decide_eq_false h2]; simp)
    go_wp2_with fail
    go_ret
    exact ⟨ret_bool HF.out.symm, HW.out⟩
  have HR : Hid (R = (decide (t ≤ 52560000) && (decide (0 ≤ en) && decide (en ≤ 480000)))) := Lib.hid (by rw [HR.out, decide_eq_true h2]; rfl)
  have h2z : ¬ 2880 < t - f := by omega
  by_cases h3 : t ≤ 52560000
  case neg =>
    have h3z : 52560000 < t := by omega
    have HF : Hid (R = false) := Lib.hid (by rw [HR.out, decide_eq_false h3]; simp)
    go_wp2_with fail
    go_ret
    exact ⟨ret_bool HF.out.symm, HW.out⟩
  have HR : Hid (R = (decide (0 ≤ en) && decide (en ≤ 480000))) := Lib.hid (by rw [HR.out, decide_eq_true h3]; rfl)
  have h3z : ¬ 52560000 < t := by omega
  by_cases h4 : 0 ≤ en
  case neg =>
    have h4z : en < 0 := by omega
    have HF : Hid (R = false) := Lib.hid (by rw [HR.out, decide_eq_false h4]; simp)
    go_wp2_with fail
    go_ret
    exact ⟨ret_bool HF.out.symm, HW.out⟩
  have HR : Hid (R = decide (en ≤ 480000)) := Lib.hid (by rw [HR.out, decide_eq_true h4]; rfl)
  have h4z : ¬ en < 0 := by omega
  by_cases h5 : en ≤ 480000
  case neg =>
    have h5z : 480000 < en := by omega
    have HF : Hid (R = false) := Lib.hid (by rw [HR.out, decide_eq_false h5])
    go_wp2_with fail
    go_ret
    exact ⟨ret_bool HF.out.symm, HW.out⟩
  have HR : Hid (R = true) := Lib.hid (by rw [HR.out, decide_eq_true h5])
  have h5z : ¬ 480000 < en := by omega
  go_wp2_with fail
  go_ret
  exact ⟨ret_bool HR.out.symm, HW.out⟩
set_option maxRecDepth 100000 in
set_option maxHeartbeats 16000000 in
theorem qQuote_any (nm : ByteArray) (aT : Option Addr) (nT cT : Nat) (ar : List Art) (aC : Option Addr) (nC cC : Nat) (aH : Option Addr) (nH cH : Nat) (c : Cal) (f t en : Int) (w : World) (HQ : Hid (RdTrf w nm aT nT ar)) (HC : Hid (RdCal w aC nC aH nH c)) (hf : -9223372036854775808 ≤ f) (ht : t ≤ 9223372036854775807) :
    Calls Tryz.prog 13 #[.agg #[.string nm, .slice aT nT cT], .agg #[.int .i64 c.off, .slice aC nC cC, .slice aH nH cH], .int .i64 f, .int .i64 t, .int .i64 en] w fun e w' => e = .returned (.tuple #[.int .i64 (quoR nm ar c f t en).1, .int .i64 (quoR nm ar c f t en).2]) ∧ Below w.heap.size w w' := by
  obtain ⟨R, hR⟩ : ∃ R, R = quoR nm ar c f t en := ⟨_, rfl⟩
  have HR : Hid (R = if (trfB nm ar && (calB c && limQ f t en)) = true then (match suQ c f t ar en with
    | none => (0, 3)
    | some v => finQ (capQ v ar) (rateF 0 ar)) else (0, 1)) := Lib.hid (by rw [hR]; rfl)
  rw [← hR]
  clear hR
  obtain ⟨W0, hW0⟩ : ∃ W0, W0 = (w.alloc (.cells #[.string nm, .slice aT nT cT] 24)).alloc (.cells #[.int .i64 c.off, .slice aC nC cC, .slice aH nH cH] 28) := ⟨_, rfl⟩
  obtain ⟨T, hT⟩ : ∃ B, B = w.heap.size := ⟨_, rfl⟩
  have hb1 : Below w.heap.size w (w.alloc (.cells #[.string nm, .slice aT nT cT] 24)) := (Below.refl _ _).alloc (Nat.le_refl _) _
  have HT : Hid (TrfM w W0 T nm aT nT cT ar) := Lib.hid (by rw [hW0, hT]; exact (TrfM.box (Below.refl _ _) HQ.out).keep ((Below.refl _ _).alloc (Nat.le_refl _) _))
  have HM : Hid (CalM w W0 (T + 1) aC nC cC aH nH cH c) := Lib.hid (by rw [hW0, hT, show w.heap.size + 1 = (w.alloc (.cells #[.string nm, .slice aT nT cT] 24)).heap.size by simp]; exact CalM.box2 hb1 (HC.out.keep hb1))
  have HW0 := Lib.hid hW0
  have HT0 := Lib.hid hT
  clear hW0 hT hb1
  go_enter Tryz.func13, Tryz.ntmps13
  go_upto_region 1 with (fail)
  rw [← HW0.out, ← HT0.out]
  clear HW0 HT0
  obtain ⟨X, hX⟩ : ∃ B, B = T + 1 := ⟨_, rfl⟩
  rw [← hX] at HM ⊢
  clear hX
  obtain ⟨t0, t1⟩ : W0.cell? ⟨T, 0, none⟩ = some (.string nm) ∧ W0.cell? ⟨T, 1, none⟩ = some (.slice aT nT cT) := ⟨HT.out.k0, HT.out.k1⟩
  have hlT : T < W0.heap.size := World.block_lt_of_cell? W0 _ t0
  obtain ⟨k0, k1, k2⟩ : W0.cell? ⟨X, 0, none⟩ = some (.int .i64 c.off) ∧ W0.cell? ⟨X, 1, none⟩ = some (.slice aC nC cC) ∧ W0.cell? ⟨X, 2, none⟩ = some (.slice aH nH cH) := ⟨HM.out.k0, HM.out.k1, HM.out.k2⟩
  have hlX : X < W0.heap.size := World.block_lt_of_cell? W0 _ k0
  go_wp2_with fail
  refine (tfValid_any nm aT nT cT ar _ (Lib.hid HT.out.rd)).mono ?_
  rintro e w1 ⟨rfl, hb1⟩
  have HT := Lib.hid (HT.out.keep hb1)
  have HM := Lib.hid (HM.out.keep hb1)
  clear hb1
  clear t0 t1 hlT k0 k1 k2 hlX
  obtain ⟨t0, t1⟩ : w1.cell? ⟨T, 0, none⟩ = some (.string nm) ∧ w1.cell? ⟨T, 1, none⟩ = some (.slice aT nT cT) := ⟨HT.out.k0, HT.out.k1⟩
  have hlT : T < w1.heap.size := World.block_lt_of_cell? w1 _ t0
  obtain ⟨k0, k1, k2⟩ : w1.cell? ⟨X, 0, none⟩ = some (.int .i64 c.off) ∧ w1.cell? ⟨X, 1, none⟩ = some (.slice aC nC cC) ∧ w1.cell? ⟨X, 2, none⟩ = some (.slice aH nH cH) := ⟨HM.out.k0, HM.out.k1, HM.out.k2⟩
  have hlX : X < w1.heap.size := World.block_lt_of_cell? w1 _ k0
  cases h1 : trfB nm ar
  · have HF : Hid (R = (0, 1)) := Lib.hid (by rw [HR.out, h1]; rfl)
    go_wp2_with fail
    go_ret2
    exact ⟨by rw [HF.out]; rfl, HM.out.bel⟩
  have H1 := Lib.hid h1
  clear h1
  go_wp2_with fail
  refine (dValid_any aC nC cC aH nH cH c _ (Lib.hid HM.out.rd)).mono ?_
  rintro e w2 ⟨rfl, hb1⟩
  have HT := Lib.hid (HT.out.keep hb1)
  have HM := Lib.hid (HM.out.keep hb1)
  clear hb1
  clear t0 t1 hlT k0 k1 k2 hlX
  obtain ⟨t0, t1⟩ : w2.cell? ⟨T, 0, none⟩ = some (.string nm) ∧ w2.cell? ⟨T, 1, none⟩ = some (.slice aT nT cT) := ⟨HT.out.k0, HT.out.k1⟩
  have hlT : T < w2.heap.size := World.block_lt_of_cell? w2 _ t0
  obtain ⟨k0, k1, k2⟩ : w2.cell? ⟨X, 0, none⟩ = some (.int .i64 c.off) ∧ w2.cell? ⟨X, 1, none⟩ = some (.slice aC nC cC) ∧ w2.cell? ⟨X, 2, none⟩ = some (.slice aH nH cH) := ⟨HM.out.k0, HM.out.k1, HM.out.k2⟩
  have hlX : X < w2.heap.size := World.block_lt_of_cell? w2 _ k0
  cases h2 : calB c
  · have HF : Hid (R = (0, 1)) := Lib.hid (by rw [HR.out, h2]; simp)
    go_wp2_with fail
    go_ret2
    exact ⟨by rw [HF.out]; rfl, HM.out.bel⟩
  have H2 := Lib.hid h2
  clear h2
  go_wp2_with fail
  refine (qValid_any f t en _ hf ht).mono ?_
  rintro e w3 ⟨rfl, hb1⟩
  have HT := Lib.hid (HT.out.keep hb1)
  have HM := Lib.hid (HM.out.keep hb1)
  clear hb1
  clear t0 t1 hlT k0 k1 k2 hlX
  obtain ⟨t0, t1⟩ : w3.cell? ⟨T, 0, none⟩ = some (.string nm) ∧ w3.cell? ⟨T, 1, none⟩ = some (.slice aT nT cT) := ⟨HT.out.k0, HT.out.k1⟩
  have hlT : T < w3.heap.size := World.block_lt_of_cell? w3 _ t0
  obtain ⟨k0, k1, k2⟩ : w3.cell? ⟨X, 0, none⟩ = some (.int .i64 c.off) ∧ w3.cell? ⟨X, 1, none⟩ = some (.slice aC nC cC) ∧ w3.cell? ⟨X, 2, none⟩ = some (.slice aH nH cH) := ⟨HM.out.k0, HM.out.k1, HM.out.k2⟩
  have hlX : X < w3.heap.size := World.block_lt_of_cell? w3 _ k0
  cases h3 : limQ f t en
  · have HF : Hid (R = (0, 1)) := Lib.hid (by rw [HR.out, h3]; simp)
    go_wp2_with fail
    go_ret2
    exact ⟨by rw [HF.out]; rfl, HM.out.bel⟩
  have HL := Lib.hid (limQ_iff h3)
  have HR2 : Hid (R = match suQ c f t ar en with
    | none => (0, 3)
    | some v => finQ (capQ v ar) (rateF 0 ar)) := Lib.hid (by rw [HR.out, H1.out, H2.out, h3]; rfl)
  clear h3 HR
  have HTL := Lib.hid (trfB_iff H1.out)
  have hn12 : nT ≤ 12 := by rw [← HQ.out.la]; exact HTL.out.1
  obtain ⟨w4, hw4⟩ : ∃ W, W = w3.alloc (.cells #[.string nm, .slice aT nT cT, .int .i64 c.off, .slice aC nC cC, .slice aH nH cH, .int .i64 f, .int .i64 t] 77) := ⟨_, rfl⟩
  obtain ⟨q, hq⟩ : ∃ B, B = w3.heap.size := ⟨_, rfl⟩
  have hb4 : Below w3.heap.size w3 w4 := by rw [hw4]; exact (Below.refl _ _).alloc (Nat.le_refl _) _
  have HQM : Hid (QuM w4 q nm aT nT cT ar aC nC cC aH nH cH c f t) := Lib.hid (by rw [hw4, hq]; exact QuM.box HT.out.rd HM.out.rd)
  have HW4 := Lib.hid (And.intro hw4.symm hq.symm)
  have HT := Lib.hid (HT.out.keep hb4)
  have HM := Lib.hid (HM.out.keep hb4)
  clear hb4
  clear hw4 hq
  go_upto_region 4 with (fail)
  rw [HW4.out.1, HW4.out.2]
  clear HW4 t0 t1 hlT k0 k1 k2 hlX
  go_wp2_with fail
  refine (qSum_any q nm aT nT cT ar aC nC cC aH nH cH c f t en w4 HQM HTL.out HL.out.1 (by have := HL.out; omega) HL.out.2.2.1).mono ?_
  rintro e w5 ⟨rfl, hb5⟩
  have HT := Lib.hid (HT.out.keep hb5)
  have HM := Lib.hid (HM.out.keep hb5)
  clear hb5
  cases hs : suQ c f t ar en with
  | none =>
    have HF : Hid (R = (0, 3)) := Lib.hid (by rw [HR2.out, hs])
    rw [show optV (none : Option Int) = 0 from rfl, show optE (none : Option Int) = 3 from rfl]
    go_wp2_with fail
    go_ret2
    exact ⟨by rw [HF.out]; rfl, HM.out.bel⟩
  | some sv =>
  rw [show optV (some sv) = sv from rfl, show optE (some sv) = 0 from rfl]
  have HSV := Lib.hid (suQ_bd HTL.out hs)
  obtain ⟨hsv0, hsv1⟩ := HSV.out
  have HR3 : Hid (R = finQ (capQ sv (ar.drop 0)) (rateF 0 (ar.drop 0))) := Lib.hid (by rw [HR2.out, hs]; rfl)
  clear HR2 hs
  obtain ⟨t0, t1⟩ : w5.cell? ⟨T, 0, none⟩ = some (.string nm) ∧ w5.cell? ⟨T, 1, none⟩ = some (.slice aT nT cT) := ⟨HT.out.k0, HT.out.k1⟩
  have hlT : T < w5.heap.size := World.block_lt_of_cell? w5 _ t0
  go_wp2_with fail
  clear t0 t1 hlT
  go_loopg [13, 15, 52] nT (fun g1 v13 v15 v52 wr => ∃ (i : Nat) (z r : Int), v13 = .int .i64 z ∧ v15 = .int .i64 r ∧ v52 = .int .i64 i ∧ i ≤ nT ∧ nT - i ≤ g1 ∧ 0 ≤ z ∧ z ≤ 1000000000 ∧ Hid (R = finQ (capQ z (ar.drop i)) (rateF r (ar.drop i))) ∧ Hid (TrfM w wr T nm aT nT cT ar) ∧ Hid (CalM w wr X aC nC cC aH nH cH c))
  case atStart => exact ⟨0, sv, 0, rfl, rfl, by go_num, by omega, by omega, by omega, by omega, HR3, HT, HM⟩
  case round =>
    clear HR3 HT HM
    obtain ⟨i, z, r, rfl, rfl, rfl, hi, hg1, hz0, hz1, HR, HT, HM⟩ := hrel
    by_cases hlt : i < nT
    · have hltz : (i : Int) < (nT : Int) := by omega
      obtain ⟨t0, t1⟩ : wr.cell? ⟨T, 0, none⟩ = some (.string nm) ∧ wr.cell? ⟨T, 1, none⟩ = some (.slice aT nT cT) := ⟨HT.out.k0, HT.out.k1⟩
      have hlT : T < wr.heap.size := World.block_lt_of_cell? wr _ t0
      obtain ⟨bb, off, a, hA, hbl, hgx, c0, c1, c2, c3, c4, c5, c6⟩ := rdArt_at HT.out.rd.ra (show i < ar.length by rw [HT.out.rd.la]; exact hlt)
      have hap := art_price (HTL.out.2.1 a (List.mem_of_getElem? hgx))
      obtain ⟨hp0, hp1⟩ := hap
      have HRR : Hid (R = finQ (capQ (if a.kind = 5 then min z a.price else z) (ar.drop (i + 1))) (rateF (if a.kind == 6 then a.price else r) (ar.drop (i + 1)))) := Lib.hid (by rw [HR.out, drop_at hgx]; rfl)
      clear HR hgx
      obtain ⟨W1, hW1⟩ : ∃ W, W = wr.alloc (.cells #[.int .i64 a.kind, .int .i64 a.days, .int .i64 a.frm, .int .i64 a.till, .int .i64 a.price, .int .i64 a.unit, .int .i64 a.free] 49) := ⟨_, rfl⟩
      obtain ⟨Y, hY⟩ : ∃ Y, Y = wr.heap.size := ⟨_, rfl⟩
      have HA : Hid (ArtM wr W1 Y a) := Lib.hid (by rw [hW1, hY]; exact ArtM.box (Below.refl _ _))
      have HT := Lib.hid (HT.out.keep HA.out.bel)
      have HM := Lib.hid (HM.out.keep HA.out.bel)
      subst hA
      have HWY := Lib.hid (And.intro hW1.symm hY.symm)
      clear hW1 hY
      go_upto_region 11 with (fail)
      rw [HWY.out.1, HWY.out.2]
      clear HWY c0 c1 c2 c3 c4 c5 c6 t0 t1 hlT
      have y0 : W1.cell? ⟨Y, 0, none⟩ = some (.int .i64 a.kind) := HA.out.k0
      have y4 : W1.cell? ⟨Y, 4, none⟩ = some (.int .i64 a.price) := HA.out.k4
      have hlY : Y < W1.heap.size := World.block_lt_of_cell? W1 _ y0
      obtain ⟨q5, hq5⟩ : ∃ q, (a.kind == 5) = q := ⟨_, rfl⟩
      obtain ⟨q6, hq6⟩ : ∃ q, (a.kind == 6) = q := ⟨_, rfl⟩
      have HQ5 := Lib.hid hq5
      have HQ6 := Lib.hid hq6
      cases q5
      case true =>
        have H5 : Hid (a.kind = 5) := Lib.hid (by simpa using HQ5.out)
        have hq6' : (a.kind == 6) = false := by rw [H5.out]; rfl
        by_cases hpz : a.price < z
        · have HS2 : Hid (R = finQ (capQ a.price (ar.drop (i + 1))) (rateF r (ar.drop (i + 1)))) := Lib.hid (by rw [HRR.out, if_pos H5.out, hq6', show min z a.price = a.price by omega]; rfl)
          clear HRR hq6'
          go_wp2_with fail
          go_roundg (nT - (i + 1))
          case measure => omega
          case rel => exact ⟨i + 1, a.price, r, rfl, rfl, by go_num, by omega, by omega, by omega, by omega, HS2, HT, HM⟩
        · have HS2 : Hid (R = finQ (capQ z (ar.drop (i + 1))) (rateF r (ar.drop (i + 1)))) := Lib.hid (by rw [HRR.out, if_pos H5.out, hq6', show min z a.price = z by omega]; rfl)
          clear HRR hq6'
          go_wp2_with fail
          go_roundg (nT - (i + 1))
          case measure => omega
          case rel => exact ⟨i + 1, z, r, rfl, rfl, by go_num, by omega, by omega, by omega, by omega, HS2, HT, HM⟩
      have H5 : Hid (¬ a.kind = 5) := Lib.hid (by simpa using HQ5.out)
      have HRR2 : Hid (R = finQ (capQ z (ar.drop (i + 1))) (rateF (if a.kind == 6 then a.price else r) (ar.drop (i + 1)))) := Lib.hid (by rw [HRR.out, if_neg H5.out])
      rw [HQ6.out] at HRR2
      clear HRR
      cases q6
      · go_wp2_with fail
        go_roundg (nT - (i + 1))
        case measure => omega
        case rel => exact ⟨i + 1, z, r, rfl, rfl, by go_num, by omega, by omega, by omega, by omega, HRR2, HT, HM⟩
      · go_wp2_with fail
        go_roundg (nT - (i + 1))
        case measure => omega
        case rel => exact ⟨i + 1, z, a.price, rfl, rfl, by go_num, by omega, by omega, by omega, by omega, HRR2, HT, HM⟩
    · have hltz : ¬ (i : Int) < (nT : Int) := by omega
      have HE : Hid (R = finQ z r) := Lib.hid (by rw [HR.out, List.drop_eq_nil_of_le (by rw [HT.out.rd.la]; omega)]; rfl)
      clear HR
      go_wp2_with fail
      refine (mTax_all z r _).mono ?_
      rintro e w6 ⟨rfl, hb6⟩
      have HT := Lib.hid (HT.out.keep hb6)
      have HM := Lib.hid (HM.out.keep hb6)
      clear hb6
      have HE2 : Hid (R = if taxE z r = 0 ∧ z + taxV z r ≤ 1000000000 then (z + taxV z r, 0) else (0, 3)) := Lib.hid (by rw [HE.out]; rfl)
      have HTB := taxV_bd z r
      obtain ⟨htb0, htb1⟩ := HTB
      clear HE
      generalize taxV z r = tv at *
      generalize taxE z r = te at *
      by_cases hte : te = 0
      · subst hte
        have hwi : IntKind.i64.wrap (z + tv) = z + tv := IntWalk.i64_in _ (by omega)
        by_cases htt : z + tv ≤ 1000000000
        · have htz : ¬ 1000000000 < z + tv := by omega
          have HF : Hid (R = (z + tv, 0)) := Lib.hid (by rw [HE2.out, if_pos ⟨rfl, htt⟩])
          go_wp2_with fail
          go_ret2
          exact ⟨by rw [HF.out]; rfl, HM.out.bel⟩
        · have htz : 1000000000 < z + tv := by omega
          have HF : Hid (R = (0, 3)) := Lib.hid (by rw [HE2.out, if_neg (fun h => htt h.2)])
          go_wp2_with fail
          go_ret2
          exact ⟨by rw [HF.out]; rfl, HM.out.bel⟩
      · have HF : Hid (R = (0, 3)) := Lib.hid (by rw [HE2.out, if_neg (fun h => hte h.1)])
        have hz2 : (te != 0) = true := by simpa using hte
        go_wp2_with fail
        go_ret2
        exact ⟨by rw [HF.out]; rfl, HM.out.bel⟩
end Go.Proofs.YtoekpdnpncgeeaaGreat
