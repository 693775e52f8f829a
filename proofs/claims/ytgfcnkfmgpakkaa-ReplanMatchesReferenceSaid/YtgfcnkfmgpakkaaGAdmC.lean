/-
Several texts in one: AdmC, AdmD.
-/
import Derived.Test.YtgfcnkfmgpakkaaCAdmB
/-
admit.greatest and admit.Room, walked.
-/
namespace Go.Proofs.Ytgfcnkfmgpakkaa
open Go.RowKit
set_option linter.unusedVariables false
set_option linter.unusedSimpArgs false
theorem schedTuple {w' : World} {js : List GJob} {sup : List Int} {N : Nat} {e : Ending} (hok0 : okP js sup = true) (hpost : (okP js sup = false ∧ e = .returned (.tuple #[.slice none 0 0, .agg #[.slice none 0 0, .slice none 0 0], .int .i64 1])) ∨
   (∃ gt rs ps, e = .returned (.tuple #[.slice (some ⟨gt, 0, none⟩) N N, .agg #[.slice none 0 0, .slice none 0 0], .int .i64 0]) ∧ RdP w' (some ⟨gt, 0, none⟩) rs ps ∧ ps.length = N ∧ planB js sup ps = true) ∨
   (∃ a3 c3 a4 c4 cj cs, e = .returned (.tuple #[.slice none 0 0, .agg #[.slice a3 cj.length c3, .slice a4 cs.length c4], .int .i64 10]) ∧ Rd 1 encI w' a3 cj ∧ Rd 1 encI w' a4 cs ∧ cj.length ≤ 12 ∧ cs.length ≤ 24 ∧ cutPB js sup cj cs = true)) :
    ∃ a0 l0 d0 a3 n3 d3 a4 n4 d4 er, e = .returned (.tuple #[.slice a0 l0 d0, .agg #[.slice a3 n3 d3, .slice a4 n4 d4], .int .i64 er]) ∧ ((Met js sup ∧ er = 0) ∨ (¬ Met js sup ∧ er = 10)) := by
  rcases hpost with ⟨hok, rfl⟩ | ⟨gt, rs', ps', rfl, rp, hlp, hpl⟩ | ⟨a3, d3, a4, d4, cj', cs', rfl, r3, r4, hc1, hc2, hcut⟩
  · rw [hok0] at hok
    cases hok
  · exact ⟨_, _, _, _, _, _, _, _, _, _, rfl, .inl ⟨planB_metA hpl, rfl⟩⟩
  · exact ⟨_, _, _, _, _, _, _, _, _, _, rfl, .inr ⟨cutPB_notA hcut, rfl⟩⟩
/-- The variables that Room's closure sees. -/
structure RoomW (w W : World) (bx bj bs : Nat) (A A2 : Option Addr) (N c T c2 : Nat) (x : GJob) : Prop where
  bel : Below w.heap.size w W
  own : Own W bx 25 5 (jobF x)
  cj : W.cell? ⟨bj, 0, none⟩ = some (.slice A N c)
  cs : W.cell? ⟨bs, 0, none⟩ = some (.slice A2 T c2)
  old : w.heap.size ≤ bx
  nj : bx ≠ bj
  ns : bx ≠ bs
section
variable {w W W' : World} {bx bj bs : Nat} {A A2 : Option Addr} {N c T c2 : Nat} {x : GJob}
theorem RoomW.keep (h : RoomW w W bx bj bs A A2 N c T c2 x) (hb : Below W.heap.size W W') : RoomW w W' bx bj bs A A2 N c T c2 x :=
  ⟨below_then h.bel hb, h.own.keep hb h.own.lt, (hb.cell (p := ⟨bj, 0, none⟩) (World.block_lt_of_cell? W _ h.cj)).trans h.cj, (hb.cell (p := ⟨bs, 0, none⟩) (World.block_lt_of_cell? W _ h.cs)).trans h.cs, h.old, h.nj, h.ns⟩
theorem RoomW.setE (h : RoomW w W bx bj bs A A2 N c T c2 x) (e : Int) : RoomW w (W.setCell ⟨bx, 2, none⟩ (.int .i64 e)) bx bj bs A A2 N c T c2 (withE x e) :=
  ⟨h.bel.setCell (p := ⟨bx, 2, none⟩) h.old _, (h.own.set 2 _).congr (fun i hi => by
    unfold jobF withE
    dsimp only
    by_cases h2 : i = 2
    · subst h2; simp
    · simp [h2]), (World.cell?_setCell_far _ _ _ _ h.nj).trans h.cj, (World.cell?_setCell_far _ _ _ _ h.ns).trans h.cs, h.old, h.nj, h.ns⟩
theorem withE_withE (x : GJob) (a b : Int) : withE (withE x a) b = withE x b := rfl
theorem withE_self (x : GJob) : withE x x.energy = x := rfl
end
set_option maxRecDepth 100000 in
set_option maxHeartbeats 4000000 in
theorem aRoom1_any (w W0 : World) (bx bj bs : Nat) (A A2 : Option Addr) (N c T c2 : Nat) (js : List GJob) (sup : List Int) (x : GJob) (en : Int) (hR : Rd 5 encJ w A js) (HN : Hid (js.length = N)) (hR2 : Rd 1 encI w A2 sup) (HN2 : Hid (sup.length = T))
    (hok : okP (js ++ [withE x en]) sup = true) (h : RoomW w W0 bx bj bs A A2 N c T c2 x) :
    Calls Try.prog 60 #[.int .i64 en, .pointer (some ⟨bx, 0, none⟩), .pointer (some ⟨bj, 0, none⟩), .pointer (some ⟨bs, 0, none⟩)] W0 fun e w' => ∃ b, e = .returned (.bool b) ∧ (b = true ↔ Met (js ++ [withE x en]) sup) ∧ RoomW w w' bx bj bs A A2 N c T c2 (withE x en) := by
  obtain ⟨⟨t1, t2⟩, _, _⟩ := okP_iff.1 hok
  rw [List.length_append, HN.out] at t1
  rw [HN2.out] at t2
  simp only [List.length_cons, List.length_nil] at t1
  have HOK := Lib.hid hok
  have HL : Hid ((js ++ [withE x en]).length = N + 1) := Lib.hid (by rw [List.length_append, HN.out]; rfl)
  have HR := Lib.hid hR
  have HR2 := Lib.hid hR2
  have p2 : ∃ u, W0.cell? ⟨bx, 2, none⟩ = some u := ⟨_, h.own.cell (i := 2) (by omega)⟩
  obtain ⟨u2, p2⟩ := p2
  have f2 := h.own.frozen 2
  have h1 := h.setE en
  obtain ⟨W, hWe⟩ : ∃ W, W = W0.setCell ⟨bx, 2, none⟩ (.int .i64 en) := ⟨_, rfl⟩
  rw [← hWe] at h1
  have HWe := Lib.hid hWe.symm
  have HRW := Lib.hid h1
  have HW := Lib.hid h1.bel
  have k0 : W.cell? ⟨bx, 0, none⟩ = some (.int .i64 x.frm) := h1.own.cell (i := 0) (by omega)
  have k1 : W.cell? ⟨bx, 1, none⟩ = some (.int .i64 x.till) := h1.own.cell (i := 1) (by omega)
  have k2 : W.cell? ⟨bx, 2, none⟩ = some (.int .i64 en) := h1.own.cell (i := 2) (by omega)
  have k3 : W.cell? ⟨bx, 3, none⟩ = some (.int .i64 x.rate) := h1.own.cell (i := 3) (by omega)
  have k4 : W.cell? ⟨bx, 4, none⟩ = some (.int .i64 x.rank) := h1.own.cell (i := 4) (by omega)
  have hcj := h1.cj
  have hcs := h1.cs
  have lx : bx < W.heap.size := h1.own.lt
  have lj : bj < W.heap.size := World.block_lt_of_cell? W _ hcj
  have ls : bs < W.heap.size := World.block_lt_of_cell? W _ hcs
  clear hWe h1 h hok hR hR2
  go_enter Try.func60, Try.ntmps60
  go_upto_region 1 with (fail)
  go_wp2
  rw [HWe.out]
  clear p2 f2 HWe
  refine region_z (S := fun w' => Below W.heap.size W w') [12] (by kernel_rfl) (Below.refl _ _).drew (fun hHeld => ?_)
  refine wpAnyZ_take (i := 0) (v := .slice A N c) [12] rfl (by kernel_rfl) (by kernel_rfl) (by kernel_rfl) (by kernel_rfl) (fun _ _ _ h => h) (Or.inl ⟨by rfl, fun w' hSw => ?_⟩) hHeld ?_
  · clear hHeld
    have s0 := (hSw.cell (p := ⟨bj, 0, none⟩) lj).trans hcj
    go_simp
  simp only [Act.put, List.setIfInBounds_toArray, List.set_cons_zero, List.set_cons_succ]
  refine wpAnyZ_take (i := 1) (v := .agg #[.int .i64 x.frm, .int .i64 x.till, .int .i64 en, .int .i64 x.rate, .int .i64 x.rank]) [12] rfl (by kernel_rfl) (by kernel_rfl) (by kernel_rfl) (by kernel_rfl) (fun _ _ _ h => h) (Or.inl ⟨by rfl, fun w' hSw => ?_⟩) hHeld ?_
  · clear hHeld
    have s0 := (hSw.cell (p := ⟨bx, 0, none⟩) lx).trans k0
    have s1 := (hSw.cell (p := ⟨bx, 1, none⟩) lx).trans k1
    have s2 := (hSw.cell (p := ⟨bx, 2, none⟩) lx).trans k2
    have s3 := (hSw.cell (p := ⟨bx, 3, none⟩) lx).trans k3
    have s4 := (hSw.cell (p := ⟨bx, 4, none⟩) lx).trans k4
    go_simp
  simp only [Act.put, List.setIfInBounds_toArray, List.set_cons_zero, List.set_cons_succ]
  refine wpAnyZ_take (i := 3) (v := .slice A2 T c2) [12] rfl (by kernel_rfl) (by kernel_rfl) (by kernel_rfl) (by kernel_rfl) (fun _ _ _ h => h) (Or.inl ⟨by rfl, fun w' hSw => ?_⟩) hHeld ?_
  · clear hHeld
    have s0 := (hSw.cell (p := ⟨bs, 0, none⟩) ls).trans hcs
    go_simp
  simp only [Act.put, List.setIfInBounds_toArray, List.set_cons_zero, List.set_cons_succ]
  refine wpAnyZ_two (i := 2) (k := 9) (by kernel_rfl) rfl rfl (fun K' hK => ?_) (fun K' hK => ?_)
  · go_simp
    refine (aWith_any A c N js (withE x en) _ (HR.out.keep (below_then HW.out hHeld)) HN (by omega)).mono ?_
    rintro e y1 ⟨a, d, rfl, hRa, hb⟩
    refine hK.out _ _ ?_ (fun hHeld' => ?_)
    · exact below_then hHeld hb
    clear hK K' hb hHeld
    have hHeld := hHeld'
    clear hHeld'
    try simp only [Act.put, List.setIfInBounds_toArray, List.set_cons_zero, List.set_cons_succ]
    refine wpAnyZ_two (i := 4) (k := 9) (by kernel_rfl) rfl rfl (fun K' hK => ?_) (fun K' hK => ?_)
    · go_simp
      refine (plSchedule_any a A2 d (N + 1) c2 T (js ++ [withE x en]) sup _ hRa HL (by omega) (HR2.out.keep (below_then HW.out hHeld)) HN2 (by omega)).mono ?_
      rintro e y2 ⟨hb, hpost⟩
      have hpost' := schedTuple HOK.out hpost
      clear hpost
      obtain ⟨a0, l0, d0, a3, n3, d3, a4, n4, d4, er, rfl, hst⟩ := hpost'
      refine hK.out _ _ ?_ (fun hHeld' => ?_)
      · exact below_then hHeld hb
      clear hK K' hb hRa hHeld
      have hHeld := hHeld'
      clear hHeld'
      try simp only [Act.put, List.setIfInBounds_toArray, List.set_cons_zero, List.set_cons_succ]
      refine wpAnyZ_take (i := 5) (v := .tuple #[.slice a0 l0 d0, .agg #[.slice a3 n3 d3, .slice a4 n4 d4], .int .i64 er]) [12] rfl (by kernel_rfl) (by kernel_rfl) (by kernel_rfl) (by kernel_rfl) (fun _ _ _ h => h) (Or.inl ⟨by rfl, fun w' hSw => ?_⟩) hHeld ?_
      · clear hHeld
        go_simp
      simp only [Act.put, List.setIfInBounds_toArray, List.set_cons_zero, List.set_cons_succ]
      refine wpAnyZ_take (i := 6) (v := .slice a0 l0 d0) [12] rfl (by kernel_rfl) (by kernel_rfl) (by kernel_rfl) (by kernel_rfl) (fun _ _ _ h => h) (Or.inl ⟨by rfl, fun w' hSw => ?_⟩) hHeld ?_
      · clear hHeld
        go_simp
      simp only [Act.put, List.setIfInBounds_toArray, List.set_cons_zero, List.set_cons_succ]
      refine wpAnyZ_take (i := 7) (v := .agg #[.slice a3 n3 d3, .slice a4 n4 d4]) [12] rfl (by kernel_rfl) (by kernel_rfl) (by kernel_rfl) (by kernel_rfl) (fun _ _ _ h => h) (Or.inl ⟨by rfl, fun w' hSw => ?_⟩) hHeld ?_
      · clear hHeld
        go_simp
      simp only [Act.put, List.setIfInBounds_toArray, List.set_cons_zero, List.set_cons_succ]
      refine wpAnyZ_take (i := 8) (v := .int .i64 er) [12] rfl (by kernel_rfl) (by kernel_rfl) (by kernel_rfl) (by kernel_rfl) (fun _ _ _ h => h) (Or.inl ⟨by rfl, fun w' hSw => ?_⟩) hHeld ?_
      · clear hHeld
        go_simp
      simp only [Act.put, List.setIfInBounds_toArray, List.set_cons_zero, List.set_cons_succ]
      refine wpAnyZ_one (i := 9) (by kernel_rfl) rfl (fun K' hK => ?_)
      go_simp
      have hO : Own (y2.alloc (.cells #[.slice none 0 0, .slice none 0 0] 30)) y2.heap.size 30 2 (fun _ => .slice none 0 0) := new_cut y2
      have hq : W.heap.size ≤ y2.heap.size := hHeld.size
      have hPre := hHeld
      refine hK.out _ _ ?_ (fun hHeld' => ?_)
      · exact hHeld.alloc hHeld.size _
      clear hK K'  hHeld
      have hHeld := hHeld'
      clear hHeld'
      try simp only [Act.put, List.setIfInBounds_toArray, List.set_cons_zero, List.set_cons_succ]
      have c50 := hO.cell (i := 0) (by omega)
      have c51 := hO.cell (i := 1) (by omega)
      have f50 := hO.frozen 0
      have f51 := hO.frozen 1
      clear hO
      refine wpAnyZ_one (i := 10) (by kernel_rfl) rfl (fun K' hK => ?_)
      go_simp
      refine hK.out _ _ ?_ (fun hHeld' => ?_)
      · exact hHeld
      clear hK K'  hHeld
      have hHeld := hHeld'
      clear hHeld'
      try simp only [Act.put, List.setIfInBounds_toArray, List.set_cons_zero, List.set_cons_succ]
      refine wpAnyZ_one (i := 11) (by kernel_rfl) rfl (fun K' hK => ?_)
      go_simp
      refine hK.out _ _ ?_ (fun hHeld' => ?_)
      · first | exact (hHeld.setCell (p := ⟨_, _, _⟩) hq _).setCell (p := ⟨_, _, _⟩) hq _ | exact hPre.alloc hPre.size _
      clear hK K'  hHeld
      have hHeld := hHeld'
      clear hHeld'
      try simp only [Act.put, List.setIfInBounds_toArray, List.set_cons_zero, List.set_cons_succ]
      refine wpAnyZ_last (i := 12) (by kernel_rfl) rfl (by kernel_rfl) (fun K' hK => ?_)
      go_simp
      refine hK.out _ _ ?_
      clear hK K'
      try simp only [Act.put, List.setIfInBounds_toArray, List.set_cons_zero, List.set_cons_succ]
      refine wpAnyZ_done (by kernel_rfl) ?_ _
      have HRW2 := Lib.hid (HRW.out.keep hHeld)
      clear hHeld c50 c51 f50 f51 HRW
      go_step
      rcases hst with ⟨hm, rfl⟩ | ⟨hm, rfl⟩
      · go_wp2_with fail
        go_ret
        exact ⟨true, rfl, ⟨fun _ => hm, fun _ => rfl⟩, HRW2.out⟩
      · go_wp2_with fail
        go_ret
        exact ⟨false, rfl, ⟨fun h => (by cases h), fun h => absurd h hm⟩, HRW2.out⟩
    · go_simp
      have hO : Own (y1.alloc (.cells #[.slice none 0 0, .slice none 0 0] 30)) y1.heap.size 30 2 (fun _ => .slice none 0 0) := new_cut y1
      have hRa := hRa.keep ((Below.refl _ y1).alloc (Nat.le_refl _) (.cells #[.slice none 0 0, .slice none 0 0] 30))
      have hq : W.heap.size ≤ y1.heap.size := hHeld.size
      have hPre := hHeld
      refine hK.out _ _ ?_ (fun hHeld' => ?_)
      · exact hHeld.alloc hHeld.size _
      clear hK K'  hHeld
      have hHeld := hHeld'
      clear hHeld'
      try simp only [Act.put, List.setIfInBounds_toArray, List.set_cons_zero, List.set_cons_succ]
      refine wpAnyZ_one (i := 4) (by kernel_rfl) rfl (fun K' hK => ?_)
      go_simp
      refine (plSchedule_any a A2 d (N + 1) c2 T (js ++ [withE x en]) sup _ hRa HL (by omega) (HR2.out.keep (below_then HW.out hHeld)) HN2 (by omega)).mono ?_
      rintro e y2 ⟨hb, hpost⟩
      have hpost' := schedTuple HOK.out hpost
      clear hpost
      obtain ⟨a0, l0, d0, a3, n3, d3, a4, n4, d4, er, rfl, hst⟩ := hpost'
      have hO := hO.keep hb hO.lt
      refine hK.out _ _ ?_ (fun hHeld' => ?_)
      · exact below_then hHeld hb
      clear hK K' hb hRa hHeld
      have hHeld := hHeld'
      clear hHeld'
      try simp only [Act.put, List.setIfInBounds_toArray, List.set_cons_zero, List.set_cons_succ]
      refine wpAnyZ_take (i := 5) (v := .tuple #[.slice a0 l0 d0, .agg #[.slice a3 n3 d3, .slice a4 n4 d4], .int .i64 er]) [12] rfl (by kernel_rfl) (by kernel_rfl) (by kernel_rfl) (by kernel_rfl) (fun _ _ _ h => h) (Or.inl ⟨by rfl, fun w' hSw => ?_⟩) hHeld ?_
      · clear hHeld
        go_simp
      simp only [Act.put, List.setIfInBounds_toArray, List.set_cons_zero, List.set_cons_succ]
      refine wpAnyZ_take (i := 6) (v := .slice a0 l0 d0) [12] rfl (by kernel_rfl) (by kernel_rfl) (by kernel_rfl) (by kernel_rfl) (fun _ _ _ h => h) (Or.inl ⟨by rfl, fun w' hSw => ?_⟩) hHeld ?_
      · clear hHeld
        go_simp
      simp only [Act.put, List.setIfInBounds_toArray, List.set_cons_zero, List.set_cons_succ]
      refine wpAnyZ_take (i := 7) (v := .agg #[.slice a3 n3 d3, .slice a4 n4 d4]) [12] rfl (by kernel_rfl) (by kernel_rfl) (by kernel_rfl) (by kernel_rfl) (fun _ _ _ h => h) (Or.inl ⟨by rfl, fun w' hSw => ?_⟩) hHeld ?_
      · clear hHeld
        go_simp
      simp only [Act.put, List.setIfInBounds_toArray, List.set_cons_zero, List.set_cons_succ]
      refine wpAnyZ_take (i := 8) (v := .int .i64 er) [12] rfl (by kernel_rfl) (by kernel_rfl) (by kernel_rfl) (by kernel_rfl) (fun _ _ _ h => h) (Or.inl ⟨by rfl, fun w' hSw => ?_⟩) hHeld ?_
      · clear hHeld
        go_simp
      simp only [Act.put, List.setIfInBounds_toArray, List.set_cons_zero, List.set_cons_succ]
      have c50 := hO.cell (i := 0) (by omega)
      have c51 := hO.cell (i := 1) (by omega)
      have f50 := hO.frozen 0
      have f51 := hO.frozen 1
      clear hO
      refine wpAnyZ_one (i := 10) (by kernel_rfl) rfl (fun K' hK => ?_)
      go_simp
      refine hK.out _ _ ?_ (fun hHeld' => ?_)
      · exact hHeld
      clear hK K'  hHeld
      have hHeld := hHeld'
      clear hHeld'
      try simp only [Act.put, List.setIfInBounds_toArray, List.set_cons_zero, List.set_cons_succ]
      refine wpAnyZ_one (i := 11) (by kernel_rfl) rfl (fun K' hK => ?_)
      go_simp
      refine hK.out _ _ ?_ (fun hHeld' => ?_)
      · first | exact (hHeld.setCell (p := ⟨_, _, _⟩) hq _).setCell (p := ⟨_, _, _⟩) hq _ | exact hPre.alloc hPre.size _
      clear hK K'  hHeld
      have hHeld := hHeld'
      clear hHeld'
      try simp only [Act.put, List.setIfInBounds_toArray, List.set_cons_zero, List.set_cons_succ]
      refine wpAnyZ_last (i := 12) (by kernel_rfl) rfl (by kernel_rfl) (fun K' hK => ?_)
      go_simp
      refine hK.out _ _ ?_
      clear hK K'
      try simp only [Act.put, List.setIfInBounds_toArray, List.set_cons_zero, List.set_cons_succ]
      refine wpAnyZ_done (by kernel_rfl) ?_ _
      have HRW2 := Lib.hid (HRW.out.keep hHeld)
      clear hHeld c50 c51 f50 f51 HRW
      go_step
      rcases hst with ⟨hm, rfl⟩ | ⟨hm, rfl⟩
      · go_wp2_with fail
        go_ret
        exact ⟨true, rfl, ⟨fun _ => hm, fun _ => rfl⟩, HRW2.out⟩
      · go_wp2_with fail
        go_ret
        exact ⟨false, rfl, ⟨fun h => (by cases h), fun h => absurd h hm⟩, HRW2.out⟩
  · go_simp
    have hO : Own (W.drew.alloc (.cells #[.slice none 0 0, .slice none 0 0] 30)) W.heap.size 30 2 (fun _ => .slice none 0 0) := new_cut W.drew
    have hq : W.heap.size ≤ W.heap.size := hHeld.size
    have hPre := hHeld
    refine hK.out _ _ ?_ (fun hHeld' => ?_)
    · exact hHeld.alloc hHeld.size _
    clear hK K'  hHeld
    have hHeld := hHeld'
    clear hHeld'
    try simp only [Act.put, List.setIfInBounds_toArray, List.set_cons_zero, List.set_cons_succ]
    refine wpAnyZ_one (i := 2) (by kernel_rfl) rfl (fun K' hK => ?_)
    go_simp
    refine (aWith_any A c N js (withE x en) _ (HR.out.keep (below_then HW.out hHeld)) HN (by omega)).mono ?_
    rintro e y1 ⟨a, d, rfl, hRa, hb⟩
    have hO := hO.keep hb hO.lt
    refine hK.out _ _ ?_ (fun hHeld' => ?_)
    · exact below_then hHeld hb
    clear hK K' hb hHeld
    have hHeld := hHeld'
    clear hHeld'
    try simp only [Act.put, List.setIfInBounds_toArray, List.set_cons_zero, List.set_cons_succ]
    refine wpAnyZ_one (i := 4) (by kernel_rfl) rfl (fun K' hK => ?_)
    go_simp
    refine (plSchedule_any a A2 d (N + 1) c2 T (js ++ [withE x en]) sup _ hRa HL (by omega) (HR2.out.keep (below_then HW.out hHeld)) HN2 (by omega)).mono ?_
    rintro e y2 ⟨hb, hpost⟩
    have hpost' := schedTuple HOK.out hpost
    clear hpost
    obtain ⟨a0, l0, d0, a3, n3, d3, a4, n4, d4, er, rfl, hst⟩ := hpost'
    have hO := hO.keep hb hO.lt
    refine hK.out _ _ ?_ (fun hHeld' => ?_)
    · exact below_then hHeld hb
    clear hK K' hb hRa hHeld
    have hHeld := hHeld'
    clear hHeld'
    try simp only [Act.put, List.setIfInBounds_toArray, List.set_cons_zero, List.set_cons_succ]
    refine wpAnyZ_take (i := 5) (v := .tuple #[.slice a0 l0 d0, .agg #[.slice a3 n3 d3, .slice a4 n4 d4], .int .i64 er]) [12] rfl (by kernel_rfl) (by kernel_rfl) (by kernel_rfl) (by kernel_rfl) (fun _ _ _ h => h) (Or.inl ⟨by rfl, fun w' hSw => ?_⟩) hHeld ?_
    · clear hHeld
      go_simp
    simp only [Act.put, List.setIfInBounds_toArray, List.set_cons_zero, List.set_cons_succ]
    refine wpAnyZ_take (i := 6) (v := .slice a0 l0 d0) [12] rfl (by kernel_rfl) (by kernel_rfl) (by kernel_rfl) (by kernel_rfl) (fun _ _ _ h => h) (Or.inl ⟨by rfl, fun w' hSw => ?_⟩) hHeld ?_
    · clear hHeld
      go_simp
    simp only [Act.put, List.setIfInBounds_toArray, List.set_cons_zero, List.set_cons_succ]
    refine wpAnyZ_take (i := 7) (v := .agg #[.slice a3 n3 d3, .slice a4 n4 d4]) [12] rfl (by kernel_rfl) (by kernel_rfl) (by kernel_rfl) (by kernel_rfl) (fun _ _ _ h => h) (Or.inl ⟨by rfl, fun w' hSw => ?_⟩) hHeld ?_
    · clear hHeld
      go_simp
    simp only [Act.put, List.setIfInBounds_toArray, List.set_cons_zero, List.set_cons_succ]
    refine wpAnyZ_take (i := 8) (v := .int .i64 er) [12] rfl (by kernel_rfl) (by kernel_rfl) (by kernel_rfl) (by kernel_rfl) (fun _ _ _ h => h) (Or.inl ⟨by rfl, fun w' hSw => ?_⟩) hHeld ?_
    · clear hHeld
      go_simp
    simp only [Act.put, List.setIfInBounds_toArray, List.set_cons_zero, List.set_cons_succ]
    have c50 := hO.cell (i := 0) (by omega)
    have c51 := hO.cell (i := 1) (by omega)
    have f50 := hO.frozen 0
    have f51 := hO.frozen 1
    clear hO
    refine wpAnyZ_one (i := 10) (by kernel_rfl) rfl (fun K' hK => ?_)
    go_simp
    refine hK.out _ _ ?_ (fun hHeld' => ?_)
    · exact hHeld
    clear hK K'  hHeld
    have hHeld := hHeld'
    clear hHeld'
    try simp only [Act.put, List.setIfInBounds_toArray, List.set_cons_zero, List.set_cons_succ]
    refine wpAnyZ_one (i := 11) (by kernel_rfl) rfl (fun K' hK => ?_)
    go_simp
    refine hK.out _ _ ?_ (fun hHeld' => ?_)
    · first | exact (hHeld.setCell (p := ⟨_, _, _⟩) hq _).setCell (p := ⟨_, _, _⟩) hq _ | exact hPre.alloc hPre.size _
    clear hK K'  hHeld
    have hHeld := hHeld'
    clear hHeld'
    try simp only [Act.put, List.setIfInBounds_toArray, List.set_cons_zero, List.set_cons_succ]
    refine wpAnyZ_last (i := 12) (by kernel_rfl) rfl (by kernel_rfl) (fun K' hK => ?_)
    go_simp
    refine hK.out _ _ ?_
    clear hK K'
    try simp only [Act.put, List.setIfInBounds_toArray, List.set_cons_zero, List.set_cons_succ]
    refine wpAnyZ_done (by kernel_rfl) ?_ _
    have HRW2 := Lib.hid (HRW.out.keep hHeld)
    clear hHeld c50 c51 f50 f51 HRW
    go_step
    rcases hst with ⟨hm, rfl⟩ | ⟨hm, rfl⟩
    · go_wp2_with fail
      go_ret
      exact ⟨true, rfl, ⟨fun _ => hm, fun _ => rfl⟩, HRW2.out⟩
    · go_wp2_with fail
      go_ret
      exact ⟨false, rfl, ⟨fun h => (by cases h), fun h => absurd h hm⟩, HRW2.out⟩
end Go.Proofs.Ytgfcnkfmgpakkaa
/-
admit.greatest and admit.Room, walked.
-/
namespace Go.Proofs.Ytgfcnkfmgpakkaa
open Go.RowKit
set_option linter.unusedVariables false
set_option linter.unusedSimpArgs false
set_option maxRecDepth 100000 in
set_option maxHeartbeats 4000000 in
theorem aGreatest_any (w W0 : World) (bx bj bs : Nat) (A A2 : Option Addr) (N c T c2 : Nat) (js : List GJob) (sup : List Int) (x : GJob) (lo0 hi0 : Int) (hR : Rd 5 encJ w A js) (HN : Hid (js.length = N)) (hR2 : Rd 1 encI w A2 sup) (HN2 : Hid (sup.length = T))
    (hc : chkE js sup (withE x 0) = 0) (hB : Bis js sup x lo0 hi0) (h : ∃ k, RoomW w W0 bx bj bs A A2 N c T c2 (withE x k)) :
    Calls Try.prog 61 #[.int .i64 lo0, .int .i64 hi0, .func (.func 60) #[] #[.pointer (some ⟨bx, 0, none⟩), .pointer (some ⟨bj, 0, none⟩), .pointer (some ⟨bs, 0, none⟩)]] W0 fun e w' => ∃ n, e = .returned (.int .i64 n) ∧ IsRoom js sup x n ∧ Below w.heap.size w w' := by
  obtain ⟨q1, q2, q3, q4⟩ := chkE_zero hc
  have HC : Hid (∀ (W : World) (k en : Int), 0 ≤ en → en ≤ 1000 → RoomW w W bx bj bs A A2 N c T c2 (withE x k) → Calls Try.prog 60 #[.int .i64 en, .pointer (some ⟨bx, 0, none⟩), .pointer (some ⟨bj, 0, none⟩), .pointer (some ⟨bs, 0, none⟩)] W fun e w' => ∃ b, e = .returned (.bool b) ∧ (b = true ↔ Met (js ++ [withE x en]) sup) ∧ RoomW w w' bx bj bs A A2 N c T c2 (withE x en)) :=
    Lib.hid (fun W k en h0 h1 hw => aRoom1_any w W bx bj bs A A2 N c T c2 js sup (withE x k) en hR HN hR2 HN2 (okP_snoc.2 ⟨q1, okP_withE q2 h0 h1, q3⟩) hw)
  have HOK := Lib.hid q1
  obtain ⟨k0, h0⟩ := h
  have HW0 := Lib.hid h0
  have HB0 := Lib.hid hB
  have e1 := hB.lo0
  have e2 := hB.le
  have e3 := hB.hi1
  clear hR hR2 hc q1 q2 q3 q4 h0 hB
  go_enter Try.func61, Try.ntmps61
  go_wp2
  go_loopg [0, 1, 7] 1001 (fun g1 v0 v1 v7 wr => ∃ (lo hi k : Int), v0 = .int .i64 lo ∧ v1 = .int .i64 hi ∧ 0 ≤ lo ∧ lo ≤ hi ∧ hi ≤ 1000 ∧ (hi - lo).toNat ≤ g1 ∧ Hid (Bis js sup x lo hi) ∧ Hid (RoomW w wr bx bj bs A A2 N c T c2 (withE x k)))
  case atStart => exact ⟨lo0, hi0, k0, rfl, rfl, e1, e2, e3, by omega, HB0, HW0⟩
  case round =>
    obtain ⟨lo, hi, k, rfl, rfl, h0, h1, h2, hg, HB, HW⟩ := hrel
    by_cases hlt : lo < hi
    · obtain ⟨m, hm⟩ : ∃ m, m = lo + (hi - lo + 1) / 2 := ⟨_, rfl⟩
      have m1 : lo < m := by omega
      have m2 : m ≤ hi := by omega
      have HM := Lib.hid hm
      rw [← Int.not_le] at hlt
      have hltz : lo < hi := by omega
      clear hlt
      have hcall := HC.out wr k m (by omega) (by omega) HW.out
      rw [hm] at hcall
      have HCall := Lib.hid hcall
      clear hcall hm
      go_wp2_with fail
      refine HCall.out.mono ?_
      rintro e w1 ⟨b, rfl, hb, hw1⟩
      rw [← HM.out] at hb hw1 ⊢
      clear HCall
      cases b
      · have HB2 := Lib.hid (HB.out.down HOK.out m1 m2 (fun h => by have := hb.2 h; cases this))
        go_wp2
        go_roundg ((m - 1 - lo).toNat)
        case measure => omega
        case rel => exact ⟨lo, m - 1, m, rfl, rfl, h0, by omega, by omega, by omega, HB2, Lib.hid hw1⟩
      · have HB2 := Lib.hid (HB.out.up (by omega) m2 (hb.1 rfl))
        go_wp2
        go_roundg ((hi - m).toNat)
        case measure => omega
        case rel => exact ⟨m, hi, m, rfl, rfl, by omega, m2, h2, by omega, HB2, Lib.hid hw1⟩
    · have HD := Lib.hid (HB.out.done hlt)
      go_wp2
      go_ret
      exact ⟨_, rfl, HD.out, HW.out.bel⟩
/-- What Room says. -/
def RoomPost (w : World) (js : List GJob) (sup : List Int) (x : GJob) (e : Ending) (w' : World) : Prop :=
  Below w.heap.size w w' ∧ ∃ n er, e = .returned (.tuple #[.int .i64 n, .int .i64 er]) ∧ er = chkE js sup (withE x 0) ∧ (er ≠ 0 → n = 0) ∧ (er = 0 → IsRoom js sup x n)
theorem RoomW.new (w : World) (A A2 : Option Addr) (N c T c2 : Nat) (x : GJob) : RoomW w (((w.alloc (.cells #[.slice A N c] 22)).alloc (.cells #[.slice A2 T c2] 23)).alloc (.cells #[.int .i64 x.frm, .int .i64 x.till, .int .i64 x.energy, .int .i64 x.rate, .int .i64 x.rank] 25)) (w.heap.size + 2) w.heap.size (w.heap.size + 1) A A2 N c T c2 x := by
  refine ⟨(((Below.refl _ w).alloc (Nat.le_refl _) _).alloc (by simp) _).alloc (by simp; omega) _, ?_, by go_simp, by go_simp, by omega, by omega, by omega⟩
  have o := Own.new ((w.alloc (.cells #[.slice A N c] 22)).alloc (.cells #[.slice A2 T c2] 23)) 25 #[.int .i64 x.frm, .int .i64 x.till, .int .i64 x.energy, .int .i64 x.rate, .int .i64 x.rank] undef
  rw [World.size_alloc, World.size_alloc] at o
  refine o.congr (fun i hi => ?_)
  have hi' : i < 5 := hi
  rcases i with _ | _ | _ | _ | _ | i
  all_goals first | rfl | omega
set_option maxRecDepth 100000 in
set_option maxHeartbeats 4000000 in
theorem aRoom_any (A A2 : Option Addr) (c N c2 T : Nat) (js : List GJob) (sup : List Int) (x : GJob) (w : World) (hR : Rd 5 encJ w A js) (HN : Hid (js.length = N)) (hl : N ≤ 9223372036854775807) (hR2 : Rd 1 encI w A2 sup) (HN2 : Hid (sup.length = T)) (hl2 : T ≤ 9223372036854775807) :
    Calls Try.prog 25 #[.slice A N c, .slice A2 T c2, .agg #[.int .i64 x.frm, .int .i64 x.till, .int .i64 x.energy, .int .i64 x.rate, .int .i64 x.rank]] w (RoomPost w js sup x) := by
  have h0 := RoomW.new w A A2 N c T c2 x
  obtain ⟨W0, hW0⟩ : ∃ W0, W0 = ((w.alloc (.cells #[.slice A N c] 22)).alloc (.cells #[.slice A2 T c2] 23)).alloc (.cells #[.int .i64 x.frm, .int .i64 x.till, .int .i64 x.energy, .int .i64 x.rate, .int .i64 x.rank] 25) := ⟨_, rfl⟩
  rw [← hW0] at h0
  have h1 := h0.setE 0
  obtain ⟨W1, hW1⟩ : ∃ W1, W1 = W0.setCell ⟨w.heap.size + 2, 2, none⟩ (.int .i64 0) := ⟨_, rfl⟩
  rw [← hW1] at h1
  have HW0 := Lib.hid hW0.symm
  have HW1 := Lib.hid hW1.symm
  have p2 := h0.own.cell (i := 2) (by omega)
  have f2 := h0.own.frozen 2
  have H1 := Lib.hid h1
  have k0 : W1.cell? ⟨w.heap.size + 2, 0, none⟩ = some (.int .i64 x.frm) := h1.own.cell (i := 0) (by omega)
  have k1 : W1.cell? ⟨w.heap.size + 2, 1, none⟩ = some (.int .i64 x.till) := h1.own.cell (i := 1) (by omega)
  have k2 : W1.cell? ⟨w.heap.size + 2, 2, none⟩ = some (.int .i64 0) := h1.own.cell (i := 2) (by omega)
  have k3 : W1.cell? ⟨w.heap.size + 2, 3, none⟩ = some (.int .i64 x.rate) := h1.own.cell (i := 3) (by omega)
  have k4 : W1.cell? ⟨w.heap.size + 2, 4, none⟩ = some (.int .i64 x.rank) := h1.own.cell (i := 4) (by omega)
  have hcj := h1.cj
  have hcs := h1.cs
  clear hW0 hW1 h0 h1
  go_enter Try.func25, Try.ntmps25
  go_upto_region 1 with (fail)
  rw [HW0.out]
  go_upto_region 2 with (fail)
  rw [HW1.out]
  clear p2 f2 HW0 HW1
  go_wp2_with fail
  refine (aCheck_any A A2 c N c2 T js sup (withE x 0) W1 (hR.keep H1.out.bel) HN hl (hR2.keep H1.out.bel) HN2 hl2).mono ?_
  rintro e w1 ⟨rfl, hb1⟩
  have H2 := Lib.hid (H1.out.keep hb1)
  clear k0 k1 k2 k3 k4 hcj hcs hb1 H1
  obtain ⟨er, her⟩ : ∃ er, er = chkE js sup (withE x 0) := ⟨_, rfl⟩
  rw [← her]
  have HE := Lib.hid her
  by_cases hz : er = 0
  · have hcz := her.symm.trans hz
    subst hz
    have hcall := aGreatest_any w w1 (w.heap.size + 2) w.heap.size (w.heap.size + 1) A A2 N c T c2 js sup x 0 1000 hR HN hR2 HN2 hcz (Bis.start hcz) ⟨0, H2.out⟩
    have HCall := Lib.hid hcall
    clear hcall her hcz
    go_wp2_with fail
    refine HCall.out.mono ?_
    rintro e w2 ⟨n, rfl, hn, hb2⟩
    go_wp2_with fail
    go_ret2
    exact ⟨hb2, n, 0, rfl, HE.out, fun h => absurd rfl h, fun _ => hn⟩
  · have hzz : ¬ er = 0 := hz
    clear her hz
    go_wp2_with fail
    go_ret2
    exact ⟨H2.out.bel, 0, er, rfl, HE.out, fun _ => rfl, fun h => absurd h hzz⟩
end Go.Proofs.Ytgfcnkfmgpakkaa
