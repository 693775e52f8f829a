/-
Several texts in one: TwK, TwL0, TwL, TwM, TwN.
-/
import Derived.Test.YtkbbapefgifagaaGreatDoorGTwF
/-
Two controllers: package share: keys, increasing, find.
-/
namespace Go.Proofs.YtkbbapefgifagaaGreatDoor
open Go.RowKit
set_option linter.unusedVariables false
set_option linter.unusedSimpArgs false
/-- A transfer. -/
structure Trn where
  num : Int
  amp : Int
deriving DecidableEq
def encTrn (x : Trn) : List Value := [.int .i64 x.num, .int .i64 x.amp]
theorem encTrn_len (x : Trn) : (encTrn x).length = 2 := rfl
theorem encTrn_one (x : Trn) (u : Value) (hu : u ∈ encTrn x) : u.oneCell' = true := by
  simp [encTrn] at hu
  rcases hu with rfl | rfl <;> rfl
theorem rdTrn_at {w : World} {A : Option Addr} {xs : List Trn} (h : Rd 2 encTrn w A xs) {k : Nat} (hk : k < xs.length) : ∃ b off x, A = some ⟨b, off, none⟩ ∧ b < w.heap.size ∧ xs[k]? = some x ∧ w.cell? ⟨b, off + k * 2, none⟩ = some (.int .i64 x.num) ∧ w.cell? ⟨b, off + k * 2 + 1, none⟩ = some (.int .i64 x.amp) := by
  obtain ⟨b, off, x, hA, hb, hx, hc⟩ := h.at_ hk
  exact ⟨b, off, x, hA, hb, hx, hc 0 _ rfl, hc 1 _ rfl⟩
theorem rdInt_at {w : World} {A : Option Addr} {xs : List Int} (h : Rd 1 encI w A xs) {k : Nat} (hk : k < xs.length) : ∃ b off x, A = some ⟨b, off, none⟩ ∧ b < w.heap.size ∧ xs[k]? = some x ∧ w.cell? ⟨b, off + k, none⟩ = some (.int .i64 x) := by
  obtain ⟨b, off, x, hA, hb, hx, hc⟩ := h.at_ hk
  exact ⟨b, off, x, hA, hb, hx, by simpa using hc 0 _ rfl⟩
theorem shKey20 (x : Trn) (w : World) : Calls Tryz.prog 38 #[.agg #[.int .i64 x.num, .int .i64 x.amp]] w fun e w' => e = .returned (.int .i64 x.num) ∧ Below w.heap.size w w' := by
  go_enter Tryz.func38, Tryz.ntmps38
  go_wp2_with fail
  go_ret
  exact ⟨rfl, (Below.refl _ _).alloc (Nat.le_refl _) _⟩
theorem shKeyI_any (x : Int) (w : World) : Calls Tryz.prog 39 #[.int .i64 x] w fun e w' => e = .returned (.int .i64 x) ∧ Below w.heap.size w w' := by
  go_enter Tryz.func39, Tryz.ntmps39
  go_wp2_with fail
  go_ret
  exact ⟨rfl, Below.refl _ _⟩
theorem shKeys_any (w : World) : Calls Tryz.prog 18 #[] w fun e w' => e = .returned (.tuple #[.func (.func 38) #[] #[], .func (.func 39) #[] #[]]) ∧ w' = w := by
  go_enter Tryz.func18, Tryz.ntmps18
  go_wp2_with fail
  go_ret2
  exact ⟨rfl, rfl⟩
theorem shIsNum_ok (n : Int) (w : World) (h0 : 1 ≤ n) (h1 : n ≤ 1000000) : Calls Tryz.prog 35 #[.int .i64 n] w fun e w' => e = .returned (.bool true) ∧ w' = w := by
  go_enter Tryz.func35, Tryz.ntmps35
  go_wp2_with fail
  go_ret
  exact ⟨rfl, rfl⟩
structure TrnOk (t : Trn) : Prop where
  n1 : 1 ≤ t.num
  n2 : t.num ≤ 1000000
  a1 : 1 ≤ t.amp
  a2 : t.amp ≤ 1000
theorem shValT_ok (t : Trn) (w : World) (h : TrnOk t) : Calls Tryz.prog 17 #[.agg #[.int .i64 t.num, .int .i64 t.amp]] w fun e w' => e = .returned (.bool true) ∧ Below w.heap.size w w' := by
  obtain ⟨h1, h2, h3, h4⟩ := h
  go_enter Tryz.func17, Tryz.ntmps17
  go_wp2_with (go_at_call 35; refine (shIsNum_ok _ _ (by omega) (by omega)).mono ?_; rintro e w' ⟨rfl, rfl⟩)
  go_ret
  exact ⟨rfl, (Below.refl _ _).alloc (Nat.le_refl _) _⟩
/-- What find does. -/
def fdB (ks : List Int) (num : Int) (at_ : Nat) : Bool := match ks[at_]? with
  | some k => k == num
  | none => false
theorem fdB_some {ks : List Int} {num k : Int} {i : Nat} (h : ks[i]? = some k) : fdB ks num i = (k == num) := by unfold fdB; rw [h]
theorem fdB_none {ks : List Int} {num : Int} {i : Nat} (h : ks.length ≤ i) : fdB ks num i = false := by unfold fdB; rw [List.getElem?_eq_none h]
def FdPost (ks : List Int) (num : Int) (w : World) (e : Ending) (w' : World) : Prop :=
  ∃ at_ : Nat, at_ ≤ ks.length ∧ (∀ i k, ks[i]? = some k → i < at_ → k < num) ∧ (∀ i k, ks[i]? = some k → at_ ≤ i → num ≤ k) ∧ e = .returned (.tuple #[.int .i64 at_, .bool (fdB ks num at_)]) ∧ Below w.heap.size w w'
theorem fdLo {α : Type} {f : α → Int} {xs : List α} {num : Int} {a : Nat} (h : ∀ i x, xs[i]? = some x → i < a → f x < num) : ∀ i k, (xs.map f)[i]? = some k → i < a → k < num := by
  intro i k hk hi
  rw [List.getElem?_map] at hk
  obtain ⟨x, hx, rfl⟩ := Option.map_eq_some_iff.1 hk
  exact h i x hx hi
theorem fdHi {α : Type} {f : α → Int} {xs : List α} {num : Int} {a : Nat} (h : ∀ i x, xs[i]? = some x → a ≤ i → num ≤ f x) : ∀ i k, (xs.map f)[i]? = some k → a ≤ i → num ≤ k := by
  intro i k hk hi
  rw [List.getElem?_map] at hk
  obtain ⟨x, hx, rfl⟩ := Option.map_eq_some_iff.1 hk
  exact h i x hx hi
set_option maxRecDepth 100000 in
set_option maxHeartbeats 8000000 in
theorem shIncT_ok (A : Option Addr) (n c : Nat) (xs : List Trn) (w : World) (HX : Hid (Rd 2 encTrn w A xs)) (HN : Hid (xs.length = n)) (hn : n ≤ 1000) (HO : Hid ((xs.map (·.num)).Pairwise (· < ·))) :
    Calls Tryz.prog 36 #[.slice A n c, .func (.func 38) #[] #[]] w fun e w' => e = .returned (.bool true) ∧ Below w.heap.size w w' := by
  go_enter Tryz.func36, Tryz.ntmps36
  go_wp2_with fail
  go_loopg [5] (n + 1) (fun g1 v5 wr => ∃ i : Nat, v5 = .int .i64 i ∧ 1 ≤ i ∧ n + 1 - i ≤ g1 ∧ Hid (Below w.heap.size w wr))
  case atStart => exact ⟨1, by go_num, by omega, by omega, Lib.hid (Below.refl _ _)⟩
  case round =>
    obtain ⟨i, rfl, hi0, hg1, HB⟩ := hrel
    by_cases hlt : i < n
    · have hltz : (i : Int) < (n : Int) := by omega
      obtain ⟨bb, off, x, hA, hlb, hgx, c0, c1⟩ := rdTrn_at (HX.out.keep HB.out) (show i < xs.length by rw [HN.out]; exact hlt)
      have HAA := Lib.hid hA
      subst hA
      obtain ⟨bb2, off2, y, hA2, hlb2, hgy, d0, d1⟩ := rdTrn_at (HX.out.keep HB.out) (show i - 1 < xs.length by rw [HN.out]; omega)
      injection hA2 with hA2
      injection hA2 with hA2 hA3
      subst hA2 hA3
      have hi1 : IntKind.i64.wrap ((i : Int) - 1) = ((i - 1 : Nat) : Int) := by rw [IntWalk.i64_in _ (by omega)]; omega
      have hlt2 : y.num < x.num := by
        obtain ⟨h1, e1⟩ := List.getElem?_eq_some_iff.1 hgx
        obtain ⟨h2, e2⟩ := List.getElem?_eq_some_iff.1 hgy
        have h := List.pairwise_iff_getElem.1 HO.out (i - 1) i (by rw [List.length_map]; omega) (by rw [List.length_map]; omega) (by omega)
        rw [List.getElem_map, List.getElem_map, e1, e2] at h
        exact h
      clear hgx hgy hlb2
      go_upto_region 4 with (fail)
      refine region_z (S := fun w' => Below wr.heap.size wr w') [] (by kernel_rfl) ((Below.refl _ _).drew) (fun hHeld => ?_)
      refine zt (i := 0) (v := .func (.func 38) #[] #[]) [] (fun w' hSw => ?_) hHeld ?_
      · clear hHeld hSw
        go_simp
      simp only [Act.put, zl0, zl1, zl2, zl3, zl4, zl5]
      refine zt (i := 1) (v := .slice (some ⟨bb, off, none⟩) n c) [] (fun w' hSw => ?_) hHeld ?_
      · clear hHeld hSw
        go_simp
      simp only [Act.put, zl0, zl1, zl2, zl3, zl4, zl5]
      refine zt (i := 2) (v := .int .i64 (i : Nat)) [] (fun w' hSw => ?_) hHeld ?_
      · clear hHeld hSw
        go_simp
      simp only [Act.put, zl0, zl1, zl2, zl3, zl4, zl5]
      refine zt (i := 3) (v := .pointer (some ⟨bb, off + i * 2, none⟩)) [] (fun w' hSw => ?_) hHeld ?_
      · clear hHeld hSw
        go_simp
        first | done | omega
      simp only [Act.put, zl0, zl1, zl2, zl3, zl4, zl5]
      refine zt (i := 4) (v := .agg #[.int .i64 x.num, .int .i64 x.amp]) [] (fun w' hSw => ?_) hHeld ?_
      · have cx0 := (hSw.cell (p := ⟨bb, off + i * 2, none⟩) hlb).trans c0
        have cx1 := (hSw.cell (p := ⟨bb, off + i * 2 + 1, none⟩) hlb).trans c1
        have hl' : bb < w'.heap.size := Nat.lt_of_lt_of_le hlb hSw.size
        clear hHeld hSw
        go_simp
      simp only [Act.put, zl0, zl1, zl2, zl3, zl4, zl5]
      refine zt (i := 6) (v := .func (.func 38) #[] #[]) [] (fun w' hSw => ?_) hHeld ?_
      · clear hHeld hSw
        go_simp
      simp only [Act.put, zl0, zl1, zl2, zl3, zl4, zl5]
      refine zt (i := 7) (v := .slice (some ⟨bb, off, none⟩) n c) [] (fun w' hSw => ?_) hHeld ?_
      · clear hHeld hSw
        go_simp
      simp only [Act.put, zl0, zl1, zl2, zl3, zl4, zl5]
      refine zt (i := 8) (v := .int .i64 (i : Nat)) [] (fun w' hSw => ?_) hHeld ?_
      · clear hHeld hSw
        go_simp
      simp only [Act.put, zl0, zl1, zl2, zl3, zl4, zl5]
      refine zt (i := 9) (v := .int .i64 ((i - 1 : Nat) : Int)) [] (fun w' hSw => ?_) hHeld ?_
      · clear hHeld hSw
        go_simp
        first | done | exact hi1
      simp only [Act.put, zl0, zl1, zl2, zl3, zl4, zl5]
      refine zt (i := 10) (v := .pointer (some ⟨bb, off + (i - 1) * 2, none⟩)) [] (fun w' hSw => ?_) hHeld ?_
      · clear hHeld hSw
        go_simp
        first | done | omega
      simp only [Act.put, zl0, zl1, zl2, zl3, zl4, zl5]
      refine zt (i := 11) (v := .agg #[.int .i64 y.num, .int .i64 y.amp]) [] (fun w' hSw => ?_) hHeld ?_
      · have cp0 := (hSw.cell (p := ⟨bb, off + (i - 1) * 2, none⟩) hlb).trans d0
        have cp1 := (hSw.cell (p := ⟨bb, off + (i - 1) * 2 + 1, none⟩) hlb).trans d1
        have hl' : bb < w'.heap.size := Nat.lt_of_lt_of_le hlb hSw.size
        clear hHeld hSw
        go_simp
      simp only [Act.put, zl0, zl1, zl2, zl3, zl4, zl5]
      refine zo 5 (fun K' hK => ?_)
      rw [if_pos (by rfl)]
      go_simp
      refine (shKey20 x _).mono ?_
      rintro e wk ⟨rfl, hbk⟩
      refine hK.out _ _ ?_ (fun hHeld' => ?_)
      · exact below_then hHeld hbk
      clear hK K' hHeld hbk
      have hHeld := hHeld'
      clear hHeld'
      try simp only [Act.put, zl0, zl1, zl2, zl3, zl4, zl5]
      refine zo 12 (fun K' hK => ?_)
      rw [if_pos (by rfl)]
      go_simp
      refine (shKey20 y _).mono ?_
      rintro e wk ⟨rfl, hbk⟩
      refine hK.out _ _ ?_ (fun hHeld' => ?_)
      · exact below_then hHeld hbk
      clear hK K' hHeld hbk
      have hHeld := hHeld'
      clear hHeld'
      try simp only [Act.put, zl0, zl1, zl2, zl3, zl4, zl5]
      refine zt (i := 13) (v := .bool false) [] (fun w' hSw => ?_) hHeld ?_
      · clear hHeld hSw
        go_simp
        first | done | omega
      simp only [Act.put, zl0, zl1, zl2, zl3, zl4, zl5]
      refine wpAnyZ_done (by kernel_rfl) ?_ _
      go_wp2_with fail
      have HB2 := Lib.hid (below_then HB.out hHeld)
      clear hHeld HB hlb c0 c1 d0 d1
      go_roundg (n + 1 - (i + 1))
      case measure => omega
      case rel => exact ⟨i + 1, by go_num, by omega, by omega, HB2⟩
    · have hltz : ¬ (i : Int) < (n : Int) := by omega
      go_wp2_with fail
      go_ret
      exact ⟨rfl, HB.out⟩
set_option maxRecDepth 100000 in
set_option maxHeartbeats 8000000 in
theorem shIncI_ok (A : Option Addr) (n c : Nat) (xs : List Int) (w : World) (HX : Hid (Rd 1 encI w A xs)) (HN : Hid (xs.length = n)) (hn : n ≤ 1000) (HO : Hid ((xs.map id).Pairwise (· < ·))) :
    Calls Tryz.prog 37 #[.slice A n c, .func (.func 39) #[] #[]] w fun e w' => e = .returned (.bool true) ∧ Below w.heap.size w w' := by
  go_enter Tryz.func37, Tryz.ntmps37
  go_wp2_with fail
  go_loopg [5] (n + 1) (fun g1 v5 wr => ∃ i : Nat, v5 = .int .i64 i ∧ 1 ≤ i ∧ n + 1 - i ≤ g1 ∧ Hid (Below w.heap.size w wr))
  case atStart => exact ⟨1, by go_num, by omega, by omega, Lib.hid (Below.refl _ _)⟩
  case round =>
    obtain ⟨i, rfl, hi0, hg1, HB⟩ := hrel
    by_cases hlt : i < n
    · have hltz : (i : Int) < (n : Int) := by omega
      obtain ⟨bb, off, x, hA, hlb, hgx, c0⟩ := rdInt_at (HX.out.keep HB.out) (show i < xs.length by rw [HN.out]; exact hlt)
      have HAA := Lib.hid hA
      subst hA
      obtain ⟨bb2, off2, y, hA2, hlb2, hgy, d0⟩ := rdInt_at (HX.out.keep HB.out) (show i - 1 < xs.length by rw [HN.out]; omega)
      injection hA2 with hA2
      injection hA2 with hA2 hA3
      subst hA2 hA3
      have hi1 : IntKind.i64.wrap ((i : Int) - 1) = ((i - 1 : Nat) : Int) := by rw [IntWalk.i64_in _ (by omega)]; omega
      have hlt2 : y < x := by
        obtain ⟨h1, e1⟩ := List.getElem?_eq_some_iff.1 hgx
        obtain ⟨h2, e2⟩ := List.getElem?_eq_some_iff.1 hgy
        have h := List.pairwise_iff_getElem.1 HO.out (i - 1) i (by rw [List.length_map]; omega) (by rw [List.length_map]; omega) (by omega)
        rw [List.getElem_map, List.getElem_map, e1, e2] at h
        exact h
      clear hgx hgy hlb2
      go_upto_region 4 with (fail)
      refine region_z (S := fun w' => Below wr.heap.size wr w') [] (by kernel_rfl) ((Below.refl _ _).drew) (fun hHeld => ?_)
      refine zt (i := 0) (v := .func (.func 39) #[] #[]) [] (fun w' hSw => ?_) hHeld ?_
      · clear hHeld hSw
        go_simp
      simp only [Act.put, zl0, zl1, zl2, zl3, zl4, zl5]
      refine zt (i := 1) (v := .slice (some ⟨bb, off, none⟩) n c) [] (fun w' hSw => ?_) hHeld ?_
      · clear hHeld hSw
        go_simp
      simp only [Act.put, zl0, zl1, zl2, zl3, zl4, zl5]
      refine zt (i := 2) (v := .int .i64 (i : Nat)) [] (fun w' hSw => ?_) hHeld ?_
      · clear hHeld hSw
        go_simp
      simp only [Act.put, zl0, zl1, zl2, zl3, zl4, zl5]
      refine zt (i := 3) (v := .pointer (some ⟨bb, off + i, none⟩)) [] (fun w' hSw => ?_) hHeld ?_
      · clear hHeld hSw
        go_simp
        first | done | omega
      simp only [Act.put, zl0, zl1, zl2, zl3, zl4, zl5]
      refine zt (i := 4) (v := .int .i64 x) [] (fun w' hSw => ?_) hHeld ?_
      · have cx0 := (hSw.cell (p := ⟨bb, off + i, none⟩) hlb).trans c0
        have hl' : bb < w'.heap.size := Nat.lt_of_lt_of_le hlb hSw.size
        clear hHeld hSw
        go_simp
      simp only [Act.put, zl0, zl1, zl2, zl3, zl4, zl5]
      refine zt (i := 6) (v := .func (.func 39) #[] #[]) [] (fun w' hSw => ?_) hHeld ?_
      · clear hHeld hSw
        go_simp
      simp only [Act.put, zl0, zl1, zl2, zl3, zl4, zl5]
      refine zt (i := 7) (v := .slice (some ⟨bb, off, none⟩) n c) [] (fun w' hSw => ?_) hHeld ?_
      · clear hHeld hSw
        go_simp
      simp only [Act.put, zl0, zl1, zl2, zl3, zl4, zl5]
      refine zt (i := 8) (v := .int .i64 (i : Nat)) [] (fun w' hSw => ?_) hHeld ?_
      · clear hHeld hSw
        go_simp
      simp only [Act.put, zl0, zl1, zl2, zl3, zl4, zl5]
      refine zt (i := 9) (v := .int .i64 ((i - 1 : Nat) : Int)) [] (fun w' hSw => ?_) hHeld ?_
      · clear hHeld hSw
        go_simp
        first | done | exact hi1
      simp only [Act.put, zl0, zl1, zl2, zl3, zl4, zl5]
      refine zt (i := 10) (v := .pointer (some ⟨bb, off + (i - 1), none⟩)) [] (fun w' hSw => ?_) hHeld ?_
      · clear hHeld hSw
        go_simp
        first | done | omega
      simp only [Act.put, zl0, zl1, zl2, zl3, zl4, zl5]
      refine zt (i := 11) (v := .int .i64 y) [] (fun w' hSw => ?_) hHeld ?_
      · have cp0 := (hSw.cell (p := ⟨bb, off + (i - 1), none⟩) hlb).trans d0
        have hl' : bb < w'.heap.size := Nat.lt_of_lt_of_le hlb hSw.size
        clear hHeld hSw
        go_simp
      simp only [Act.put, zl0, zl1, zl2, zl3, zl4, zl5]
      refine zo 5 (fun K' hK => ?_)
      rw [if_pos (by rfl)]
      go_simp
      refine (shKeyI_any x _).mono ?_
      rintro e wk ⟨rfl, hbk⟩
      refine hK.out _ _ ?_ (fun hHeld' => ?_)
      · exact below_then hHeld hbk
      clear hK K' hHeld hbk
      have hHeld := hHeld'
      clear hHeld'
      try simp only [Act.put, zl0, zl1, zl2, zl3, zl4, zl5]
      refine zo 12 (fun K' hK => ?_)
      rw [if_pos (by rfl)]
      go_simp
      refine (shKeyI_any y _).mono ?_
      rintro e wk ⟨rfl, hbk⟩
      refine hK.out _ _ ?_ (fun hHeld' => ?_)
      · exact below_then hHeld hbk
      clear hK K' hHeld hbk
      have hHeld := hHeld'
      clear hHeld'
      try simp only [Act.put, zl0, zl1, zl2, zl3, zl4, zl5]
      refine zt (i := 13) (v := .bool false) [] (fun w' hSw => ?_) hHeld ?_
      · clear hHeld hSw
        go_simp
        first | done | omega
      simp only [Act.put, zl0, zl1, zl2, zl3, zl4, zl5]
      refine wpAnyZ_done (by kernel_rfl) ?_ _
      go_wp2_with fail
      have HB2 := Lib.hid (below_then HB.out hHeld)
      clear hHeld HB hlb c0 d0
      go_roundg (n + 1 - (i + 1))
      case measure => omega
      case rel => exact ⟨i + 1, by go_num, by omega, by omega, HB2⟩
    · have hltz : ¬ (i : Int) < (n : Int) := by omega
      go_wp2_with fail
      go_ret
      exact ⟨rfl, HB.out⟩
set_option maxRecDepth 100000 in
set_option maxHeartbeats 8000000 in
theorem shFindT_ok (A : Option Addr) (n c : Nat) (xs : List Trn) (num : Int) (w : World) (HX : Hid (Rd 2 encTrn w A xs)) (HN : Hid (xs.length = n)) (hn : n ≤ 1000) (HO : Hid ((xs.map (·.num)).Pairwise (· < ·))) :
    Calls Tryz.prog 21 #[.slice A n c, .func (.func 38) #[] #[], .int .i64 num] w (FdPost (xs.map (·.num)) num w) := by
  have HMON : Hid (∀ i j (x y : Trn), xs[i]? = some x → xs[j]? = some y → i < j → x.num < y.num) := Lib.hid (fun i j x y hx hy hij => by
    obtain ⟨h1, e1⟩ := List.getElem?_eq_some_iff.1 hx
    obtain ⟨h2, e2⟩ := List.getElem?_eq_some_iff.1 hy
    have h := List.pairwise_iff_getElem.1 HO.out i j (by rw [List.length_map]; omega) (by rw [List.length_map]; omega) hij
    rw [List.getElem_map, List.getElem_map, e1, e2] at h
    exact h)
  obtain ⟨ks, hks⟩ : ∃ ks, ks = xs.map (·.num) := ⟨_, rfl⟩
  rw [← hks]
  have HKS := Lib.hid hks
  clear hks
  go_enter Tryz.func21, Tryz.ntmps21
  go_wp2_with fail
  go_loopg [8, 9] (n + 1) (fun g1 v8 v9 wr => ∃ a b : Nat, v8 = .int .i64 a ∧ v9 = .int .i64 b ∧ a ≤ b ∧ b ≤ n ∧ b - a ≤ g1 ∧ Hid (∀ i (x : Trn), xs[i]? = some x → i < a → x.num < num) ∧ Hid (∀ i (x : Trn), xs[i]? = some x → b ≤ i → num ≤ x.num) ∧ Hid (Below w.heap.size w wr))
  case atStart => exact ⟨0, n, by go_num, rfl, by omega, by omega, by omega, Lib.hid (fun i x _ h => by omega), Lib.hid (fun i x hx h => by have := (List.getElem?_eq_some_iff.1 hx).1; have := HN.out; omega), Lib.hid (Below.refl _ _)⟩
  case round =>
    obtain ⟨a, b, rfl, rfl, hab, hbn, hg1, HLO, HHI, HB⟩ := hrel
    by_cases hlt : a < b
    · have hltz : (a : Int) < (b : Int) := by omega
      obtain ⟨m, hm⟩ : ∃ m : Nat, m = a + (b - a) / 2 := ⟨_, rfl⟩
      have hd : ((b : Int) - (a : Int)).tdiv 2 = ((b : Int) - (a : Int)) / 2 := Int.tdiv_eq_ediv_of_nonneg (by omega)
      have w1' : IntKind.i64.wrap ((b : Int) - (a : Int)) = (b : Int) - (a : Int) := IntWalk.i64_in _ (by omega)
      have w2' : IntKind.i64.wrap (((b : Int) - (a : Int)) / 2) = ((b : Int) - (a : Int)) / 2 := IntWalk.i64_in _ (by omega)
      have w3' : IntKind.i64.wrap ((a : Int) + ((b : Int) - (a : Int)) / 2) = (a : Int) + ((b : Int) - (a : Int)) / 2 := IntWalk.i64_in _ (by omega)
      have HMM : Hid ((a : Int) + ((b : Int) - (a : Int)) / 2 = (m : Int)) := Lib.hid (by omega)
      have hm1 : a ≤ m ∧ m < b := by omega
      obtain ⟨hm1, hm2⟩ := hm1
      have hmz : (m : Int) < (n : Int) := by omega
      clear hm
      go_upto_region 4 with (fail)
      rw [HMM.out]
      clear HMM hd w1' w2' w3'
      obtain ⟨bb, off, x, hA, hlb, hgx, c0, c1⟩ := rdTrn_at (HX.out.keep HB.out) (show m < xs.length by rw [HN.out]; omega)
      have HGX := Lib.hid hgx
      have HAA := Lib.hid hA
      subst hA
      clear hgx
      go_wp2_with fail
      refine (shKey20 x wr).mono ?_
      rintro e w2 ⟨rfl, hb2⟩
      have HB := Lib.hid (below_then HB.out hb2)
      clear hb2 hlb c0 c1
      by_cases hk : x.num < num
      · have HLO2 : Hid (∀ i (y : Trn), xs[i]? = some y → i < m + 1 → y.num < num) := Lib.hid (fun i y hy hi => by
          rcases Nat.lt_or_ge i m with h | h
          · have := HMON.out i m y x hy HGX.out h
            omega
          · have e : i = m := by omega
            subst e
            rw [HGX.out] at hy
            injection hy with hy
            rw [← hy]; exact hk)
        clear HLO
        go_wp2_with fail
        go_roundg (b - (m + 1))
        case measure => omega
        case rel => exact ⟨m + 1, b, by go_num, rfl, by omega, by omega, by omega, HLO2, HHI, HB⟩
      · have HHI2 : Hid (∀ i (y : Trn), xs[i]? = some y → m ≤ i → num ≤ y.num) := Lib.hid (fun i y hy hi => by
          rcases Nat.lt_or_ge m i with h | h
          · have := HMON.out m i x y HGX.out hy h
            omega
          · have e : i = m := by omega
            subst e
            rw [HGX.out] at hy
            injection hy with hy
            rw [← hy]; omega)
        clear HHI
        go_wp2_with fail
        go_roundg (m - a)
        case measure => omega
        case rel => exact ⟨a, m, rfl, rfl, by omega, by omega, by omega, HLO, HHI2, HB⟩
    · have hltz : ¬ (a : Int) < (b : Int) := by omega
      have hba : b = a := by omega
      subst hba
      have HLE : Hid (b ≤ ks.length) := Lib.hid (by rw [HKS.out, List.length_map, HN.out]; exact hbn)
      have HL2 : Hid (∀ i k, ks[i]? = some k → i < b → k < num) := Lib.hid (by rw [HKS.out]; exact fdLo HLO.out)
      have HH2 : Hid (∀ i k, ks[i]? = some k → b ≤ i → num ≤ k) := Lib.hid (by rw [HKS.out]; exact fdHi HHI.out)
      clear HLO HHI
      by_cases hbn2 : b < n
      · have hbz : (b : Int) < (n : Int) := by omega
        obtain ⟨bb, off, x, hA, hlb, hgx, c0, c1⟩ := rdTrn_at (HX.out.keep HB.out) (show b < xs.length by rw [HN.out]; omega)
        have HGX := Lib.hid hgx
        have HAA := Lib.hid hA
        subst hA
        clear hgx
        go_wp2_with fail
        refine (shKey20 x wr).mono ?_
        rintro e w2 ⟨rfl, hb2⟩
        have HB := Lib.hid (below_then HB.out hb2)
        clear hb2 hlb c0 c1
        obtain ⟨z, hz⟩ : ∃ z, (x.num == num) = z := ⟨_, rfl⟩
        have HFB : Hid (fdB ks num b = z) := Lib.hid (by rw [fdB_some (k := x.num) (by rw [HKS.out, List.getElem?_map, HGX.out]; rfl)]; exact hz)
        go_wp2_with fail
        go_ret2
        exact ⟨b, HLE.out, HL2.out, HH2.out, by rw [HFB.out]; rfl, HB.out⟩
      · have hbz : ¬ (b : Int) < (n : Int) := by omega
        have HFB : Hid (fdB ks num b = false) := Lib.hid (fdB_none (by rw [HKS.out, List.length_map, HN.out]; omega))
        go_wp2_with fail
        go_ret2
        exact ⟨b, HLE.out, HL2.out, HH2.out, by rw [HFB.out]; rfl, HB.out⟩
set_option maxRecDepth 100000 in
set_option maxHeartbeats 8000000 in
theorem shFindI_ok (A : Option Addr) (n c : Nat) (xs : List Int) (num : Int) (w : World) (HX : Hid (Rd 1 encI w A xs)) (HN : Hid (xs.length = n)) (hn : n ≤ 1000) (HO : Hid ((xs.map id).Pairwise (· < ·))) :
    Calls Tryz.prog 19 #[.slice A n c, .func (.func 39) #[] #[], .int .i64 num] w (FdPost (xs.map id) num w) := by
  have HMON : Hid (∀ i j (x y : Int), xs[i]? = some x → xs[j]? = some y → i < j → x < y) := Lib.hid (fun i j x y hx hy hij => by
    obtain ⟨h1, e1⟩ := List.getElem?_eq_some_iff.1 hx
    obtain ⟨h2, e2⟩ := List.getElem?_eq_some_iff.1 hy
    have h := List.pairwise_iff_getElem.1 HO.out i j (by rw [List.length_map]; omega) (by rw [List.length_map]; omega) hij
    rw [List.getElem_map, List.getElem_map, e1, e2] at h
    exact h)
  obtain ⟨ks, hks⟩ : ∃ ks, ks = xs.map id := ⟨_, rfl⟩
  rw [← hks]
  have HKS := Lib.hid hks
  clear hks
  go_enter Tryz.func19, Tryz.ntmps19
  go_wp2_with fail
  go_loopg [8, 9] (n + 1) (fun g1 v8 v9 wr => ∃ a b : Nat, v8 = .int .i64 a ∧ v9 = .int .i64 b ∧ a ≤ b ∧ b ≤ n ∧ b - a ≤ g1 ∧ Hid (∀ i (x : Int), xs[i]? = some x → i < a → x < num) ∧ Hid (∀ i (x : Int), xs[i]? = some x → b ≤ i → num ≤ x) ∧ Hid (Below w.heap.size w wr))
  case atStart => exact ⟨0, n, by go_num, rfl, by omega, by omega, by omega, Lib.hid (fun i x _ h => by omega), Lib.hid (fun i x hx h => by have := (List.getElem?_eq_some_iff.1 hx).1; have := HN.out; omega), Lib.hid (Below.refl _ _)⟩
  case round =>
    obtain ⟨a, b, rfl, rfl, hab, hbn, hg1, HLO, HHI, HB⟩ := hrel
    by_cases hlt : a < b
    · have hltz : (a : Int) < (b : Int) := by omega
      obtain ⟨m, hm⟩ : ∃ m : Nat, m = a + (b - a) / 2 := ⟨_, rfl⟩
      have hd : ((b : Int) - (a : Int)).tdiv 2 = ((b : Int) - (a : Int)) / 2 := Int.tdiv_eq_ediv_of_nonneg (by omega)
      have w1' : IntKind.i64.wrap ((b : Int) - (a : Int)) = (b : Int) - (a : Int) := IntWalk.i64_in _ (by omega)
      have w2' : IntKind.i64.wrap (((b : Int) - (a : Int)) / 2) = ((b : Int) - (a : Int)) / 2 := IntWalk.i64_in _ (by omega)
      have w3' : IntKind.i64.wrap ((a : Int) + ((b : Int) - (a : Int)) / 2) = (a : Int) + ((b : Int) - (a : Int)) / 2 := IntWalk.i64_in _ (by omega)
      have HMM : Hid ((a : Int) + ((b : Int) - (a : Int)) / 2 = (m : Int)) := Lib.hid (by omega)
      have hm1 : a ≤ m ∧ m < b := by omega
      obtain ⟨hm1, hm2⟩ := hm1
      have hmz : (m : Int) < (n : Int) := by omega
      clear hm
      go_upto_region 4 with (fail)
      rw [HMM.out]
      clear HMM hd w1' w2' w3'
      obtain ⟨bb, off, x, hA, hlb, hgx, c0⟩ := rdInt_at (HX.out.keep HB.out) (show m < xs.length by rw [HN.out]; omega)
      have HGX := Lib.hid hgx
      have HAA := Lib.hid hA
      subst hA
      clear hgx
      go_wp2_with fail
      refine (shKeyI_any x wr).mono ?_
      rintro e w2 ⟨rfl, hb2⟩
      have HB := Lib.hid (below_then HB.out hb2)
      clear hb2 hlb c0
      by_cases hk : x < num
      · have HLO2 : Hid (∀ i (y : Int), xs[i]? = some y → i < m + 1 → y < num) := Lib.hid (fun i y hy hi => by
          rcases Nat.lt_or_ge i m with h | h
          · have := HMON.out i m y x hy HGX.out h
            omega
          · have e : i = m := by omega
            subst e
            rw [HGX.out] at hy
            injection hy with hy
            rw [← hy]; exact hk)
        clear HLO
        go_wp2_with fail
        go_roundg (b - (m + 1))
        case measure => omega
        case rel => exact ⟨m + 1, b, by go_num, rfl, by omega, by omega, by omega, HLO2, HHI, HB⟩
      · have HHI2 : Hid (∀ i (y : Int), xs[i]? = some y → m ≤ i → num ≤ y) := Lib.hid (fun i y hy hi => by
          rcases Nat.lt_or_ge m i with h | h
          · have := HMON.out m i x y HGX.out hy h
            omega
          · have e : i = m := by omega
            subst e
            rw [HGX.out] at hy
            injection hy with hy
            rw [← hy]; omega)
        clear HHI
        go_wp2_with fail
        go_roundg (m - a)
        case measure => omega
        case rel => exact ⟨a, m, rfl, rfl, by omega, by omega, by omega, HLO, HHI2, HB⟩
    · have hltz : ¬ (a : Int) < (b : Int) := by omega
      have hba : b = a := by omega
      subst hba
      have HLE : Hid (b ≤ ks.length) := Lib.hid (by rw [HKS.out, List.length_map, HN.out]; exact hbn)
      have HL2 : Hid (∀ i k, ks[i]? = some k → i < b → k < num) := Lib.hid (by rw [HKS.out]; exact fdLo HLO.out)
      have HH2 : Hid (∀ i k, ks[i]? = some k → b ≤ i → num ≤ k) := Lib.hid (by rw [HKS.out]; exact fdHi HHI.out)
      clear HLO HHI
      by_cases hbn2 : b < n
      · have hbz : (b : Int) < (n : Int) := by omega
        obtain ⟨bb, off, x, hA, hlb, hgx, c0⟩ := rdInt_at (HX.out.keep HB.out) (show b < xs.length by rw [HN.out]; omega)
        have HGX := Lib.hid hgx
        have HAA := Lib.hid hA
        subst hA
        clear hgx
        go_wp2_with fail
        refine (shKeyI_any x wr).mono ?_
        rintro e w2 ⟨rfl, hb2⟩
        have HB := Lib.hid (below_then HB.out hb2)
        clear hb2 hlb c0
        obtain ⟨z, hz⟩ : ∃ z, (x == num) = z := ⟨_, rfl⟩
        have HFB : Hid (fdB ks num b = z) := Lib.hid (by rw [fdB_some (k := x) (by rw [HKS.out, List.getElem?_map, HGX.out]; rfl)]; exact hz)
        go_wp2_with fail
        go_ret2
        exact ⟨b, HLE.out, HL2.out, HH2.out, by rw [HFB.out]; rfl, HB.out⟩
      · have hbz : ¬ (b : Int) < (n : Int) := by omega
        have HFB : Hid (fdB ks num b = false) := Lib.hid (fdB_none (by rw [HKS.out, List.length_map, HN.out]; omega))
        go_wp2_with fail
        go_ret2
        exact ⟨b, HLE.out, HL2.out, HH2.out, by rw [HFB.out]; rfl, HB.out⟩
end Go.Proofs.YtkbbapefgifagaaGreatDoor
/-
Two controllers: cuts of slices, lists with one element more or less.
-/
namespace Go.Proofs.YtkbbapefgifagaaGreatDoor
open Go.RowKit
set_option linter.unusedVariables false
set_option linter.unusedSimpArgs false
theorem cut_hi {P : Program} {T e : TypeId} {sz : Nat} (hT : P.underlying T = some (.slice e)) (hs : (P.info? e).map (·.size) = some sz) (g n k : Nat) (i : Int) (hi : i = k) (hk : k ≤ n) (w : World) :
    (Instr.slice T (.slice (some ⟨g, 0, none⟩) n n) (some (.int .i64 i)) none none).run P w = .ok (.slice (some ⟨g, if n = k then 0 else k * sz, none⟩) (n - k) (n - k)) w := by
  subst hi
  have h1 : (k : Int) ≤ (n : Int) := by omega
  cases hq : P.info? e with
  | none => simp [hq] at hs
  | some j =>
    have hj : j.size = sz := by simpa [hq] using hs
    unfold Instr.slice Instr.sliceBounds Instr.sliceBound
    simp [run_underlying hT, sizeOf, typeInfo, hq, hj, asIntOf, h1, Addr.add]
    split
    · by_cases hnk : n = k
      · simp [hnk]
      · by_cases hz : k * sz = 0 <;> simp [hnk, hz]
    · rename_i h; exact absurd hk h
theorem cut_lo {P : Program} {T e : TypeId} {sz : Nat} (hT : P.underlying T = some (.slice e)) (hs : (P.info? e).map (·.size) = some sz) (g n k : Nat) (i : Int) (hi : i = k) (hk : k ≤ n) (w : World) :
    (Instr.slice T (.slice (some ⟨g, 0, none⟩) n n) none (some (.int .i64 i)) none).run P w = .ok (.slice (some ⟨g, 0, none⟩) k n) w := by
  subst hi
  have h1 : (k : Int) ≤ (n : Int) := by omega
  cases hq : P.info? e with
  | none => simp [hq] at hs
  | some j =>
    unfold Instr.slice Instr.sliceBounds Instr.sliceBound
    simp [run_underlying hT, sizeOf, typeInfo, hq, asIntOf, h1, Addr.add]
    intro h
    omega
def insL {α : Type} (xs : List α) (k : Nat) (x : α) : List α := xs.take k ++ x :: xs.drop k
theorem insL_len {α : Type} (xs : List α) (k : Nat) (x : α) : (insL xs k x).length = xs.length + 1 := by
  unfold insL
  simp
  omega
/-- The cells of a list with one element more. -/
theorem ins_cells {α : Type} {sz : Nat} {enc : α → List Value} (hsz : ∀ x, (enc x).length = sz) (h0 : 0 < sz) {xs : List α} {n k : Nat} {x : α} (hn : xs.length = n) (hk : k ≤ n) {f1 f2 f3 : Nat → Value}
    (e1 : ∀ i, i < k * sz → f1 i = ((xs.take k).flatMap enc)[i]?.getD undef)
    (e2 : ∀ i, f2 i = if k * sz ≤ i ∧ i < k * sz + sz then (enc x)[i - k * sz]?.getD undef else f1 i)
    (e3 : ∀ i, f3 i = if (k + 1) * sz ≤ i ∧ i < (k + 1) * sz + (n - k) * sz then ((xs.drop k).flatMap enc)[i - (k + 1) * sz]?.getD undef else f2 i) :
    ∀ j y, (insL xs k x)[j]? = some y → ∀ m v, (enc y)[m]? = some v → f3 (j * sz + m) = v := by
  intro j y hy m v hv
  have hm : m < sz := by rw [← hsz y]; exact (List.getElem?_eq_some_iff.1 hv).1
  have hks : (k + 1) * sz = k * sz + sz := Nat.succ_mul k sz
  unfold insL at hy
  have htl : (xs.take k).length = k := by rw [List.length_take]; omega
  rcases Nat.lt_trichotomy j k with h | h | h
  · rw [List.getElem?_append_left (by omega)] at hy
    have h1 : j * sz + sz ≤ k * sz := by rw [← Nat.succ_mul]; exact Nat.mul_le_mul_right _ h
    rw [e3, if_neg (by omega), e2, if_neg (by omega), e1 _ (by omega), flatR_at hsz _ j m y v hy hv]
    rfl
  · subst h
    rw [List.getElem?_append_right (by omega), htl, Nat.sub_self, List.getElem?_cons_zero] at hy
    injection hy with hy
    subst hy
    rw [e3, if_neg (by omega), e2, if_pos (by omega), show j * sz + m - j * sz = m by omega, hv]
    rfl
  · obtain ⟨d, rfl⟩ : ∃ d, j = k + 1 + d := ⟨j - k - 1, by omega⟩
    rw [List.getElem?_append_right (by omega), htl, show k + 1 + d - k = d + 1 by omega, List.getElem?_cons_succ] at hy
    have hdl : d < (xs.drop k).length := (List.getElem?_eq_some_iff.1 hy).1
    rw [List.length_drop, hn] at hdl
    have h1 : (k + 1 + d) * sz = (k + 1) * sz + d * sz := Nat.add_mul _ _ _
    have h2 : d * sz + sz ≤ (n - k) * sz := by rw [← Nat.succ_mul]; exact Nat.mul_le_mul_right _ hdl
    rw [e3, if_pos (by omega), show (k + 1 + d) * sz + m - (k + 1) * sz = d * sz + m by omega, flatR_at hsz _ d m y v hy hv]
    rfl
/-- The cells of a list with one element less. -/
theorem del_cells {α : Type} {sz : Nat} {enc : α → List Value} (hsz : ∀ x, (enc x).length = sz) (h0 : 0 < sz) {xs : List α} {n k : Nat} (hn : xs.length = n) (hk : k < n) {f1 f3 : Nat → Value}
    (e1 : ∀ i, i < k * sz → f1 i = ((xs.take k).flatMap enc)[i]?.getD undef)
    (e3 : ∀ i, f3 i = if k * sz ≤ i ∧ i < k * sz + (n - 1 - k) * sz then ((xs.drop (k + 1)).flatMap enc)[i - k * sz]?.getD undef else f1 i) :
    ∀ j y, (xs.take k ++ xs.drop (k + 1))[j]? = some y → ∀ m v, (enc y)[m]? = some v → f3 (j * sz + m) = v := by
  intro j y hy m v hv
  have hm : m < sz := by rw [← hsz y]; exact (List.getElem?_eq_some_iff.1 hv).1
  have htl : (xs.take k).length = k := by rw [List.length_take]; omega
  rcases Nat.lt_or_ge j k with h | h
  · rw [List.getElem?_append_left (by omega)] at hy
    have h1 : j * sz + sz ≤ k * sz := by rw [← Nat.succ_mul]; exact Nat.mul_le_mul_right _ h
    rw [e3, if_neg (by omega), e1 _ (by omega), flatR_at hsz _ j m y v hy hv]
    rfl
  · obtain ⟨d, rfl⟩ : ∃ d, j = k + d := ⟨j - k, by omega⟩
    rw [List.getElem?_append_right (by omega), htl, show k + d - k = d by omega] at hy
    have hdl : d < (xs.drop (k + 1)).length := (List.getElem?_eq_some_iff.1 hy).1
    rw [List.length_drop, hn] at hdl
    have h1 : (k + d) * sz = k * sz + d * sz := Nat.add_mul _ _ _
    have h2 : d * sz + sz ≤ (n - 1 - k) * sz := by rw [← Nat.succ_mul]; exact Nat.mul_le_mul_right _ (by omega)
    rw [e3, if_pos (by omega), show (k + d) * sz + m - k * sz = d * sz + m by omega, flatR_at hsz _ d m y v hy hv]
    rfl
theorem appInfoTrn : (Tryz.prog.info? 47).map (fun i => (i.zero, i.size, i.bytes)) = some (some (.agg #[.int .i64 0, .int .i64 0]), 2, 16) := by kernel_rfl
theorem mk_trns (n : Nat) (h : n ≤ 1000000) (W : World) : ∃ W', (Instr.makeSlice 29 (.int .i64 n) (.int .i64 n)).run Tryz.prog W = .ok (.slice (some ⟨W.heap.size, 0, none⟩) n n) W' ∧ Own W' W.heap.size 47 (n * 2) (fun _ => .int .i64 0) ∧ Below W.heap.size W W' ∧ W'.heap.size = W.heap.size + 1 := by
  refine ⟨_, mk_row 29 47 _ 2 16 Tryz.underlying29 appInfoTrn (n : Int) (by omega) (by omega) (by omega) W, ?_, (Below.refl _ W).alloc (Nat.le_refl _) _, by simp⟩
  have h := Own.made W 47 #[.int .i64 0, .int .i64 0] (n * 2)
  refine h.congr (fun i _ => ?_)
  have h3 : i % 2 = 0 ∨ i % 2 = 1 := by omega
  rcases h3 with e | e <;> simp [e]
/-- A new list that is the call's own. -/
def InPost {α : Type} (sz : Nat) (enc : α → List Value) (ys : List α) (m : Nat) (w : World) (e : Ending) (w' : World) : Prop :=
  ∃ g, e = .returned (.slice (some ⟨g, 0, none⟩) m m) ∧ w.heap.size ≤ g ∧ Rd sz enc w' (some ⟨g, 0, none⟩) ys ∧ Below w.heap.size w w'
theorem Rd.take {α : Type} {sz : Nat} {enc : α → List Value} {w : World} {A : Option Addr} {xs : List α} (h : Rd sz enc w A xs) (k : Nat) : Rd sz enc w A (xs.take k) := by
  intro h0
  have hl : 0 < xs.length := by rw [List.length_take] at h0; omega
  obtain ⟨b, off, hA, hb, hc⟩ := h hl
  refine ⟨b, off, hA, hb, fun j x hx m v hv => hc j x ?_ m v hv⟩
  have hj : j < (xs.take k).length := (List.getElem?_eq_some_iff.1 hx).1
  rw [List.length_take] at hj
  rw [List.getElem?_take_of_lt (by omega)] at hx
  exact hx
theorem Rd.drop {α : Type} {sz : Nat} {enc : α → List Value} {w : World} {g k : Nat} {xs : List α} (h : Rd sz enc w (some ⟨g, 0, none⟩) xs) : Rd sz enc w (some ⟨g, if xs.length = k then 0 else k * sz, none⟩) (xs.drop k) := by
  intro h0
  rw [List.length_drop] at h0
  obtain ⟨b, off, hA, hb, hc⟩ := h (by omega)
  injection hA with hA
  injection hA with h1 h2
  subst h1 h2
  rw [if_neg (by omega)]
  refine ⟨g, k * sz, rfl, hb, fun j x hx m v hv => ?_⟩
  rw [List.getElem?_drop] at hx
  have := hc (k + j) x hx m v hv
  rw [Nat.add_mul] at this
  simpa [Nat.add_assoc] using this
end Go.Proofs.YtkbbapefgifagaaGreatDoor
/-
Two controllers: package share: inserted, deleted, duplicate.
-/
namespace Go.Proofs.YtkbbapefgifagaaGreatDoor
open Go.RowKit
set_option linter.unusedVariables false
set_option linter.unusedSimpArgs false
theorem insT_two (a i : Nat) (x : Trn) (u : Value) : (if i = a * 2 + 1 then Value.int .i64 x.amp else if i = a * 2 then .int .i64 x.num else u) = if a * 2 ≤ i ∧ i < a * 2 + 2 then (encTrn x)[i - a * 2]?.getD undef else u := by
  by_cases h1 : i = a * 2 + 1
  · subst h1
    rw [if_pos rfl, if_pos (by omega), show a * 2 + 1 - a * 2 = 1 by omega]
    rfl
  · by_cases h2 : i = a * 2
    · subst h2
      rw [if_neg h1, if_pos rfl, if_pos (by omega), Nat.sub_self]
      rfl
    · rw [if_neg h1, if_neg h2, if_neg (by omega)]
theorem insI_one (a i : Nat) (x : Int) (u : Value) : (if i = a then Value.int .i64 x else u) = if a * 1 ≤ i ∧ i < a * 1 + 1 then (encI x)[i - a * 1]?.getD undef else u := by
  by_cases h2 : i = a
  · subst h2
    rw [if_pos rfl, if_pos (by omega), Nat.mul_one, Nat.sub_self]
    rfl
  · rw [if_neg h2, if_neg (by omega)]
set_option maxRecDepth 100000 in
set_option maxHeartbeats 8000000 in
theorem shInsI_ok (g0 n at_ : Nat) (xs : List Int) (x : Int) (w : World) (HX : Hid (Rd 1 encI w (some ⟨g0, 0, none⟩) xs)) (HN : Hid (xs.length = n)) (hn : n ≤ 1000) (ha : at_ ≤ n) :
    Calls Tryz.prog 20 #[.slice (some ⟨g0, 0, none⟩) n n, .int .i64 (at_ : Nat), .int .i64 x] w (InPost 1 encI (insL xs at_ x) (n + 1) w) := by
  have hgl := HX.out
  have hb1 : Below w.heap.size w w := Below.refl _ _
  obtain ⟨W2, hmk0, ho2, hb2, hs2⟩ := mk_ints (n + 1) (by omega) w
  obtain ⟨g, hg⟩ : ∃ g, g = w.heap.size := ⟨_, rfl⟩
  rw [← hg] at hmk0 ho2
  have hmk : (Instr.makeSlice 30 (.int .i64 ((n : Int) + 1)) (.int .i64 ((n : Int) + 1))).run Tryz.prog w = .ok (.slice (some ⟨g, 0, none⟩) (n + 1) (n + 1)) W2 := hmk0
  have hX2 : Rd 1 encI W2 (some ⟨g0, 0, none⟩) xs := (HX.out.keep (Below.refl _ _)).keep hb2
  have hcut1 := cut_lo (P := Tryz.prog) (T := 30) (e := 3) (sz := 1) Tryz.underlying30 (by kernel_rfl) g0 n at_ (at_ : Nat) rfl ha W2
  obtain ⟨W3, hcp1, ho3, hm3⟩ := copy_rows (P := Tryz.prog) W2 30 30 3 3 3 g (0) (n + 1) (n + 1) (n + 1) (at_) (n) (some ⟨g, 0, none⟩) (some ⟨g0, 0, none⟩) (xs.take at_) Tryz.underlying30 (by kernel_rfl) encI_len1 encI_one (by omega) (hX2.take at_) (by rw [List.length_take, HN.out]; omega) (fun _ => rfl) (by omega) (ho2) (by omega)
  obtain ⟨W4, hW4⟩ : ∃ W, W = W3.setCell ⟨g, at_, none⟩ (.int .i64 x) := ⟨_, rfl⟩
  have hm4 : Mod (fun k => k = g) W3 W4 := by rw [hW4]; exact (Mod.refl (fun k => k = g) W3).setCell (p := ⟨g, at_, none⟩) (.inl rfl) _
  have hm23 : Mod (fun k => k = g) W2 W4 := hm3.trans hm4
  have hgX : ∀ a, (some ⟨g0, 0, none⟩ : Option Addr) = some a → 0 < xs.length → ¬ a.block = g := fun a ha hx e => by
    have h := rd_ltT HX.out (fun h => by rw [h] at hx; simp at hx) a ha
    have := hb1.size
    omega
  have hX4 : Rd 1 encI W4 (some ⟨g0, 0, none⟩) xs := hX2.mod hm23 hgX
  obtain ⟨D, hD⟩ : ∃ D, D = n - at_ := ⟨_, rfl⟩
  obtain ⟨A2, hA2⟩ : ∃ A, A = (if n = at_ then 0 else at_ * 1) := ⟨_, rfl⟩
  obtain ⟨A3, hA3⟩ : ∃ A, A = (if n + 1 = at_ + 1 then 0 else (at_ + 1) * 1) := ⟨_, rfl⟩
  have hcut2 : ∀ W, (Instr.slice 30 (.slice (some ⟨g0, 0, none⟩) n n) (some (.int .i64 (at_ : Nat))) none none).run Tryz.prog W = .ok (.slice (some ⟨g0, A2, none⟩) D D) W := fun W => by rw [hA2, hD]; exact cut_hi (P := Tryz.prog) (T := 30) (e := 3) (sz := 1) Tryz.underlying30 (by kernel_rfl) g0 n at_ (at_ : Nat) rfl ha W
  have hcut3 : ∀ W, (Instr.slice 30 (.slice (some ⟨g, 0, none⟩) (n + 1) (n + 1)) (some (.int .i64 ((at_ : Int) + 1))) none none).run Tryz.prog W = .ok (.slice (some ⟨g, A3, none⟩) D D) W := fun W => by rw [hA3, hD, show n - at_ = n + 1 - (at_ + 1) by omega]; exact cut_hi (P := Tryz.prog) (T := 30) (e := 3) (sz := 1) Tryz.underlying30 (by kernel_rfl) g (n + 1) (at_ + 1) ((at_ : Int) + 1) rfl (by omega) W
  have hXd : Rd 1 encI W4.drew (some ⟨g0, A2, none⟩) (xs.drop at_) := by
    have h := hX4.drop (k := at_)
    rw [HN.out] at h
    rw [hA2]; exact h
  have ho4 := ho3.set at_ (.int .i64 x)
  rw [← hW4] at ho4
  obtain ⟨W5, hcp2, ho5, hm5⟩ := copy_rows (P := Tryz.prog) W4.drew 30 30 3 3 3 g ((at_ + 1) * 1) (n + 1) (D) (D) (D) (D) (some ⟨g, A3, none⟩) (some ⟨g0, A2, none⟩) (xs.drop at_) Tryz.underlying30 (by kernel_rfl) encI_len1 encI_one (by omega) (hXd) (by rw [List.length_drop, HN.out, hD]) (fun h => by rw [hA3, if_neg (by omega)]) (by omega) (ho4.drew) (by omega)
  have HRES : Hid (Rd 1 encI W5 (some ⟨g, 0, none⟩) (insL xs at_ x)) := Lib.hid (ho5.rd (by rw [insL_len, HN.out]; omega) encI_len1 (fun k y hy j v hv => by
    refine ins_cells (sz := 1) encI_len1 (by omega) HN.out ha (x := x) (f1 := fun i => if 0 ≤ i ∧ i < 0 + at_ * 1 then ((xs.take at_).flatMap encI)[i - 0]?.getD undef else .int .i64 0) (fun i hi => by rw [if_pos (by omega)]; rfl) (f2 := (fun j => if j = at_ then .int .i64 x else (if 0 ≤ j ∧ j < 0 + at_ * 1 then ((xs.take at_).flatMap encI)[j - 0]?.getD undef else .int .i64 0))) (fun i => insI_one at_ i x _) (f3 := fun i => if (at_ + 1) * 1 ≤ i ∧ i < (at_ + 1) * 1 + D * 1 then ((xs.drop at_).flatMap encI)[i - (at_ + 1) * 1]?.getD undef else (fun j => if j = at_ then .int .i64 x else (if 0 ≤ j ∧ j < 0 + at_ * 1 then ((xs.take at_).flatMap encI)[j - 0]?.getD undef else .int .i64 0)) i) (fun i => by rw [hD]) k y hy j v hv))
  have HBB : Hid (Below w.heap.size w W5) := Lib.hid ((below_then hb1 hb2).trans ((hm23.drew.trans hm5).below (by have := hb1.size; have := hb2.size; omega) (fun j _ e => by have := hb1.size; omega)))
  have HGW : Hid (w.heap.size ≤ g) := Lib.hid (by rw [hg]; exact hb1.size)
  have hgl3 : g < W3.heap.size := ho3.lt
  have haz : (at_ : Int) < (n : Int) + 1 := by omega
  have c30 := ho3.cell (i := at_) (by omega)
  have f30 := ho3.frozen (at_)
  have HW4 := Lib.hid hW4.symm
  clear hgl hX2 hX4 hXd ho2 ho3 ho4 ho5 hb1 hb2 hs2 hm3 hm4 hm5 hm23 hgX hW4 hmk0 hD hA2 hA3  hg
  have wk' : IntKind.i64.wrap ((at_ : Int) + 1) = (at_ : Int) + 1 := IntWalk.i64_in _ (by omega)
  go_enter Tryz.func20, Tryz.ntmps20
  go_upto_region 4 with (fail)
  rw [HW4.out]
  clear HW4 c30 f30 hgl3 hcut1 hcp1 hmk
  refine region_z (S := fun w' => Below W4.heap.size W4 w') [7] (by kernel_rfl) ((Below.refl _ _).drew) (fun hHeld => ?_)
  refine zt (i := 0) (v := .slice (some ⟨g, 0, none⟩) (n + 1) (n + 1)) [3, 7] (fun w' hSw => ?_) hHeld ?_
  · clear hHeld hSw
    go_simp
    first | done | omega
  simp only [Act.put, zl0, zl1, zl2, zl3, zl4, zl5]
  refine zt (i := 1) (v := .int .i64 (at_ : Nat)) [2, 3, 7] (fun w' hSw => ?_) hHeld ?_
  · clear hHeld hSw
    go_simp
    first | done | omega
  simp only [Act.put, zl0, zl1, zl2, zl3, zl4, zl5]
  refine zt (i := 2) (v := .int .i64 ((at_ : Int) + 1)) [3, 7] (fun w' hSw => ?_) hHeld ?_
  · clear hHeld hSw
    go_simp
    first | done | omega
  simp only [Act.put, zl0, zl1, zl2, zl3, zl4, zl5]
  refine zt (i := 3) (v := .slice (some ⟨g, A3, none⟩) D D) [7] (fun w' hSw => ?_) hHeld ?_
  · have hcx := hcut3 w'
    clear hHeld hSw
    go_simp
    first | done | omega
  simp only [Act.put, zl0, zl1, zl2, zl3, zl4, zl5]
  refine zt (i := 4) (v := .slice (some ⟨g0, 0, none⟩) n n) [6, 7] (fun w' hSw => ?_) hHeld ?_
  · clear hHeld hSw
    go_simp
    first | done | omega
  simp only [Act.put, zl0, zl1, zl2, zl3, zl4, zl5]
  refine zt (i := 5) (v := .int .i64 (at_ : Nat)) [6, 7] (fun w' hSw => ?_) hHeld ?_
  · clear hHeld hSw
    go_simp
    first | done | omega
  simp only [Act.put, zl0, zl1, zl2, zl3, zl4, zl5]
  refine zt (i := 6) (v := .slice (some ⟨g0, A2, none⟩) D D) [7] (fun w' hSw => ?_) hHeld ?_
  · have hcx := hcut2 w'
    clear hHeld hSw
    go_simp
    first | done | omega
  simp only [Act.put, zl0, zl1, zl2, zl3, zl4, zl5]
  refine wpAnyZ_last (i := 7) (by kernel_rfl) rfl (by kernel_rfl) (fun K' hK => ?_)
  go_simp
  refine hK.out _ _ ?_
  clear hK K'
  try simp only [Act.put, zl3, zl4, zl5]
  refine wpAnyZ_done (by kernel_rfl) ?_ _
  clear hHeld hcut2 hcut3 hcp2
  go_wp2_with fail
  go_ret
  exact ⟨g, rfl, HGW.out, HRES.out, HBB.out⟩
set_option maxRecDepth 100000 in
set_option maxHeartbeats 8000000 in
theorem shInsT_ok (g0 n at_ : Nat) (xs : List Trn) (x : Trn) (w : World) (HX : Hid (Rd 2 encTrn w (some ⟨g0, 0, none⟩) xs)) (HN : Hid (xs.length = n)) (hn : n ≤ 1000) (ha : at_ ≤ n) :
    Calls Tryz.prog 16 #[.slice (some ⟨g0, 0, none⟩) n n, .int .i64 (at_ : Nat), .agg #[.int .i64 x.num, .int .i64 x.amp]] w (InPost 2 encTrn (insL xs at_ x) (n + 1) w) := by
  have hgl := HX.out
  obtain ⟨W1, hW1⟩ : ∃ W, W = w.alloc (.cells #[.int .i64 x.num, .int .i64 x.amp] 47) := ⟨_, rfl⟩
  obtain ⟨Y, hY⟩ : ∃ Y, Y = w.heap.size := ⟨_, rfl⟩
  have hb1 : Below w.heap.size w W1 := by rw [hW1]; exact (Below.refl _ _).alloc (Nat.le_refl _) _
  have y0 : W1.cell? ⟨Y, 0, none⟩ = some (.int .i64 x.num) := by rw [hW1, hY]; go_simp
  have y1 : W1.cell? ⟨Y, 1, none⟩ = some (.int .i64 x.amp) := by rw [hW1, hY]; go_simp
  have HW1 := Lib.hid (And.intro hW1.symm hY.symm)
  clear hW1 hY
  obtain ⟨W2, hmk0, ho2, hb2, hs2⟩ := mk_trns (n + 1) (by omega) W1
  obtain ⟨g, hg⟩ : ∃ g, g = W1.heap.size := ⟨_, rfl⟩
  rw [← hg] at hmk0 ho2
  have hmk : (Instr.makeSlice 29 (.int .i64 ((n : Int) + 1)) (.int .i64 ((n : Int) + 1))).run Tryz.prog W1 = .ok (.slice (some ⟨g, 0, none⟩) (n + 1) (n + 1)) W2 := hmk0
  have hX2 : Rd 2 encTrn W2 (some ⟨g0, 0, none⟩) xs := (HX.out.keep hb1).keep hb2
  have hcut1 := cut_lo (P := Tryz.prog) (T := 29) (e := 47) (sz := 2) Tryz.underlying29 (by kernel_rfl) g0 n at_ (at_ : Nat) rfl ha W2
  obtain ⟨W3, hcp1, ho3, hm3⟩ := copy_rows (P := Tryz.prog) W2 29 29 3 47 47 g (0) ((n + 1) * 2) (n + 1) (n + 1) (at_) (n) (some ⟨g, 0, none⟩) (some ⟨g0, 0, none⟩) (xs.take at_) Tryz.underlying29 (by kernel_rfl) encTrn_len encTrn_one (by omega) (hX2.take at_) (by rw [List.length_take, HN.out]; omega) (fun _ => rfl) (by omega) (ho2) (by omega)
  obtain ⟨W4, hW4⟩ : ∃ W, W = (W3.setCell ⟨g, at_ * 2, none⟩ (.int .i64 x.num)).setCell ⟨g, at_ * 2 + 1, none⟩ (.int .i64 x.amp) := ⟨_, rfl⟩
  have hm4 : Mod (fun k => k = g) W3 W4 := by rw [hW4]; exact ((Mod.refl (fun k => k = g) W3).setCell (p := ⟨g, at_ * 2, none⟩) (.inl rfl) _).setCell (p := ⟨g, at_ * 2 + 1, none⟩) (.inl rfl) _
  have hm23 : Mod (fun k => k = g) W2 W4 := hm3.trans hm4
  have hgX : ∀ a, (some ⟨g0, 0, none⟩ : Option Addr) = some a → 0 < xs.length → ¬ a.block = g := fun a ha hx e => by
    have h := rd_ltT HX.out (fun h => by rw [h] at hx; simp at hx) a ha
    have := hb1.size
    omega
  have hX4 : Rd 2 encTrn W4 (some ⟨g0, 0, none⟩) xs := hX2.mod hm23 hgX
  obtain ⟨D, hD⟩ : ∃ D, D = n - at_ := ⟨_, rfl⟩
  obtain ⟨A2, hA2⟩ : ∃ A, A = (if n = at_ then 0 else at_ * 2) := ⟨_, rfl⟩
  obtain ⟨A3, hA3⟩ : ∃ A, A = (if n + 1 = at_ + 1 then 0 else (at_ + 1) * 2) := ⟨_, rfl⟩
  have hcut2 : ∀ W, (Instr.slice 29 (.slice (some ⟨g0, 0, none⟩) n n) (some (.int .i64 (at_ : Nat))) none none).run Tryz.prog W = .ok (.slice (some ⟨g0, A2, none⟩) D D) W := fun W => by rw [hA2, hD]; exact cut_hi (P := Tryz.prog) (T := 29) (e := 47) (sz := 2) Tryz.underlying29 (by kernel_rfl) g0 n at_ (at_ : Nat) rfl ha W
  have hcut3 : ∀ W, (Instr.slice 29 (.slice (some ⟨g, 0, none⟩) (n + 1) (n + 1)) (some (.int .i64 ((at_ : Int) + 1))) none none).run Tryz.prog W = .ok (.slice (some ⟨g, A3, none⟩) D D) W := fun W => by rw [hA3, hD, show n - at_ = n + 1 - (at_ + 1) by omega]; exact cut_hi (P := Tryz.prog) (T := 29) (e := 47) (sz := 2) Tryz.underlying29 (by kernel_rfl) g (n + 1) (at_ + 1) ((at_ : Int) + 1) rfl (by omega) W
  have hXd : Rd 2 encTrn W4.drew (some ⟨g0, A2, none⟩) (xs.drop at_) := by
    have h := hX4.drop (k := at_)
    rw [HN.out] at h
    rw [hA2]; exact h
  have ho4 := (ho3.set (at_ * 2) (.int .i64 x.num)).set (at_ * 2 + 1) (.int .i64 x.amp)
  rw [← hW4] at ho4
  obtain ⟨W5, hcp2, ho5, hm5⟩ := copy_rows (P := Tryz.prog) W4.drew 29 29 3 47 47 g ((at_ + 1) * 2) ((n + 1) * 2) (D) (D) (D) (D) (some ⟨g, A3, none⟩) (some ⟨g0, A2, none⟩) (xs.drop at_) Tryz.underlying29 (by kernel_rfl) encTrn_len encTrn_one (by omega) (hXd) (by rw [List.length_drop, HN.out, hD]) (fun h => by rw [hA3, if_neg (by omega)]) (by omega) (ho4.drew) (by omega)
  have HRES : Hid (Rd 2 encTrn W5 (some ⟨g, 0, none⟩) (insL xs at_ x)) := Lib.hid (ho5.rd (by rw [insL_len, HN.out]; omega) encTrn_len (fun k y hy j v hv => by
    refine ins_cells (sz := 2) encTrn_len (by omega) HN.out ha (x := x) (f1 := fun i => if 0 ≤ i ∧ i < 0 + at_ * 2 then ((xs.take at_).flatMap encTrn)[i - 0]?.getD undef else .int .i64 0) (fun i hi => by rw [if_pos (by omega)]; rfl) (f2 := (fun j => if j = at_ * 2 + 1 then .int .i64 x.amp else if j = at_ * 2 then .int .i64 x.num else (if 0 ≤ j ∧ j < 0 + at_ * 2 then ((xs.take at_).flatMap encTrn)[j - 0]?.getD undef else .int .i64 0))) (fun i => insT_two at_ i x _) (f3 := fun i => if (at_ + 1) * 2 ≤ i ∧ i < (at_ + 1) * 2 + D * 2 then ((xs.drop at_).flatMap encTrn)[i - (at_ + 1) * 2]?.getD undef else (fun j => if j = at_ * 2 + 1 then .int .i64 x.amp else if j = at_ * 2 then .int .i64 x.num else (if 0 ≤ j ∧ j < 0 + at_ * 2 then ((xs.take at_).flatMap encTrn)[j - 0]?.getD undef else .int .i64 0)) i) (fun i => by rw [hD]) k y hy j v hv))
  have HBB : Hid (Below w.heap.size w W5) := Lib.hid ((below_then hb1 hb2).trans ((hm23.drew.trans hm5).below (by have := hb1.size; have := hb2.size; omega) (fun j _ e => by have := hb1.size; omega)))
  have HGW : Hid (w.heap.size ≤ g) := Lib.hid (by rw [hg]; exact hb1.size)
  have hgl3 : g < W3.heap.size := ho3.lt
  have haz : (at_ : Int) < (n : Int) + 1 := by omega
  have c30 := ho3.cell (i := at_ * 2) (by omega)
  have f30 := ho3.frozen (at_ * 2)
  have c31 := ho3.cell (i := at_ * 2 + 1) (by omega)
  have f31 := ho3.frozen (at_ * 2 + 1)
  have hYg : ¬ Y = g := by rw [hg]; have := zb y0; dsimp only at this; omega
  have y03 : W3.cell? ⟨Y, 0, none⟩ = some (.int .i64 x.num) := (hm3.cell (zb ((hb2.cell (p := ⟨Y, 0, none⟩) (zb y0)).trans y0)) hYg).trans ((hb2.cell (p := ⟨Y, 0, none⟩) (zb y0)).trans y0)
  have y13 : W3.cell? ⟨Y, 1, none⟩ = some (.int .i64 x.amp) := (hm3.cell (zb ((hb2.cell (p := ⟨Y, 1, none⟩) (zb y1)).trans y1)) hYg).trans ((hb2.cell (p := ⟨Y, 1, none⟩) (zb y1)).trans y1)
  have hYl : Y < W3.heap.size := zb y03
  have HW4 := Lib.hid hW4.symm
  clear hgl hX2 hX4 hXd ho2 ho3 ho4 ho5 hb1 hb2 hs2 hm3 hm4 hm5 hm23 hgX hW4 hmk0 hD hA2 hA3 y0 y1 hYg hg
  have wk' : IntKind.i64.wrap ((at_ : Int) + 1) = (at_ : Int) + 1 := IntWalk.i64_in _ (by omega)
  go_enter Tryz.func16, Tryz.ntmps16
  go_upto_region 1 with (fail)
  rw [HW1.out.1, HW1.out.2]
  clear HW1
  go_upto_region 4 with (fail)
  rw [HW4.out]
  clear HW4 c30 f30 c31 f31 y03 y13 hYl hgl3 hcut1 hcp1 hmk
  refine region_z (S := fun w' => Below W4.heap.size W4 w') [7] (by kernel_rfl) ((Below.refl _ _).drew) (fun hHeld => ?_)
  refine zt (i := 0) (v := .slice (some ⟨g, 0, none⟩) (n + 1) (n + 1)) [3, 7] (fun w' hSw => ?_) hHeld ?_
  · clear hHeld hSw
    go_simp
    first | done | omega
  simp only [Act.put, zl0, zl1, zl2, zl3, zl4, zl5]
  refine zt (i := 1) (v := .int .i64 (at_ : Nat)) [2, 3, 7] (fun w' hSw => ?_) hHeld ?_
  · clear hHeld hSw
    go_simp
    first | done | omega
  simp only [Act.put, zl0, zl1, zl2, zl3, zl4, zl5]
  refine zt (i := 2) (v := .int .i64 ((at_ : Int) + 1)) [3, 7] (fun w' hSw => ?_) hHeld ?_
  · clear hHeld hSw
    go_simp
    first | done | omega
  simp only [Act.put, zl0, zl1, zl2, zl3, zl4, zl5]
  refine zt (i := 3) (v := .slice (some ⟨g, A3, none⟩) D D) [7] (fun w' hSw => ?_) hHeld ?_
  · have hcx := hcut3 w'
    clear hHeld hSw
    go_simp
    first | done | omega
  simp only [Act.put, zl0, zl1, zl2, zl3, zl4, zl5]
  refine zt (i := 4) (v := .slice (some ⟨g0, 0, none⟩) n n) [6, 7] (fun w' hSw => ?_) hHeld ?_
  · clear hHeld hSw
    go_simp
    first | done | omega
  simp only [Act.put, zl0, zl1, zl2, zl3, zl4, zl5]
  refine zt (i := 5) (v := .int .i64 (at_ : Nat)) [6, 7] (fun w' hSw => ?_) hHeld ?_
  · clear hHeld hSw
    go_simp
    first | done | omega
  simp only [Act.put, zl0, zl1, zl2, zl3, zl4, zl5]
  refine zt (i := 6) (v := .slice (some ⟨g0, A2, none⟩) D D) [7] (fun w' hSw => ?_) hHeld ?_
  · have hcx := hcut2 w'
    clear hHeld hSw
    go_simp
    first | done | omega
  simp only [Act.put, zl0, zl1, zl2, zl3, zl4, zl5]
  refine wpAnyZ_last (i := 7) (by kernel_rfl) rfl (by kernel_rfl) (fun K' hK => ?_)
  go_simp
  refine hK.out _ _ ?_
  clear hK K'
  try simp only [Act.put, zl3, zl4, zl5]
  refine wpAnyZ_done (by kernel_rfl) ?_ _
  clear hHeld hcut2 hcut3 hcp2
  go_wp2_with fail
  go_ret
  exact ⟨g, rfl, HGW.out, HRES.out, HBB.out⟩
end Go.Proofs.YtkbbapefgifagaaGreatDoor
/-
Two controllers: package share: deleted, and a share in memory.
-/
namespace Go.Proofs.YtkbbapefgifagaaGreatDoor
open Go.RowKit
set_option linter.unusedVariables false
set_option linter.unusedSimpArgs false
set_option maxRecDepth 100000 in
set_option maxHeartbeats 8000000 in
theorem shDelT_ok (g0 n at_ : Nat) (xs : List Trn) (w : World) (HX : Hid (Rd 2 encTrn w (some ⟨g0, 0, none⟩) xs)) (HN : Hid (xs.length = n)) (hn : n ≤ 1000) (ha : at_ < n) :
    Calls Tryz.prog 22 #[.slice (some ⟨g0, 0, none⟩) n n, .int .i64 (at_ : Nat)] w (InPost 2 encTrn (xs.take at_ ++ xs.drop (at_ + 1)) (n - 1) w) := by
  obtain ⟨m, hm⟩ : ∃ m, m = n - 1 := ⟨_, rfl⟩
  rw [← hm]
  obtain ⟨W2, hmk, ho2, hb2, hs2⟩ := mk_trns m (by omega) w
  obtain ⟨g, hg⟩ : ∃ g, g = w.heap.size := ⟨_, rfl⟩
  rw [← hg] at hmk ho2
  have wn : IntKind.i64.wrap ((n : Int) - 1) = (m : Int) := by rw [IntWalk.i64_in _ (by omega)]; omega
  have hX2 : Rd 2 encTrn W2 (some ⟨g0, 0, none⟩) xs := HX.out.keep hb2
  have hcut1 := cut_lo (P := Tryz.prog) (T := 29) (e := 47) (sz := 2) Tryz.underlying29 (by kernel_rfl) g0 n at_ (at_ : Nat) rfl (by omega) W2
  obtain ⟨W3, hcp1, ho3, hm3⟩ := copy_rows (P := Tryz.prog) W2 29 29 3 47 47 g (0) (m * 2) (m) (m) (at_) (n) (some ⟨g, 0, none⟩) (some ⟨g0, 0, none⟩) (xs.take at_) Tryz.underlying29 (by kernel_rfl) encTrn_len encTrn_one (by omega) (hX2.take at_) (by rw [List.length_take, HN.out]; omega) (fun _ => rfl) (by omega) (ho2) (by omega)
  have hgX : ∀ a, (some ⟨g0, 0, none⟩ : Option Addr) = some a → 0 < xs.length → ¬ a.block = g := fun a ha hx e => by
    have h := rd_ltT HX.out (fun h => by rw [h] at hx; simp at hx) a ha
    omega
  have hX3 : Rd 2 encTrn W3 (some ⟨g0, 0, none⟩) xs := hX2.mod hm3 hgX
  obtain ⟨D, hD⟩ : ∃ D, D = n - 1 - at_ := ⟨_, rfl⟩
  obtain ⟨A2, hA2⟩ : ∃ A, A = (if n = at_ + 1 then 0 else (at_ + 1) * 2) := ⟨_, rfl⟩
  obtain ⟨A3, hA3⟩ : ∃ A, A = (if m = at_ then 0 else at_ * 2) := ⟨_, rfl⟩
  have hcut2 : ∀ W, (Instr.slice 29 (.slice (some ⟨g0, 0, none⟩) n n) (some (.int .i64 ((at_ : Int) + 1))) none none).run Tryz.prog W = .ok (.slice (some ⟨g0, A2, none⟩) D D) W := fun W => by rw [hA2, hD, show n - 1 - at_ = n - (at_ + 1) by omega]; exact cut_hi (P := Tryz.prog) (T := 29) (e := 47) (sz := 2) Tryz.underlying29 (by kernel_rfl) g0 n (at_ + 1) ((at_ : Int) + 1) rfl (by omega) W
  have hcut3 : ∀ W, (Instr.slice 29 (.slice (some ⟨g, 0, none⟩) m m) (some (.int .i64 (at_ : Nat))) none none).run Tryz.prog W = .ok (.slice (some ⟨g, A3, none⟩) D D) W := fun W => by rw [hA3, hD, ← hm]; exact cut_hi (P := Tryz.prog) (T := 29) (e := 47) (sz := 2) Tryz.underlying29 (by kernel_rfl) g m at_ (at_ : Nat) rfl (by omega) W
  have hXd : Rd 2 encTrn W3.drew (some ⟨g0, A2, none⟩) (xs.drop (at_ + 1)) := by
    have h := hX3.drop (k := at_ + 1)
    rw [HN.out] at h
    rw [hA2]; exact h
  obtain ⟨W5, hcp2, ho5, hm5⟩ := copy_rows (P := Tryz.prog) W3.drew 29 29 3 47 47 g (at_ * 2) (m * 2) (D) (D) (D) (D) (some ⟨g, A3, none⟩) (some ⟨g0, A2, none⟩) (xs.drop (at_ + 1)) Tryz.underlying29 (by kernel_rfl) encTrn_len encTrn_one (by omega) (hXd) (by rw [List.length_drop, HN.out, hD]; omega) (fun h => by rw [hA3, if_neg (by omega)]) (by omega) (ho3.drew) (by omega)
  have HRES : Hid (Rd 2 encTrn W5 (some ⟨g, 0, none⟩) (xs.take at_ ++ xs.drop (at_ + 1))) := Lib.hid (ho5.rd (by rw [List.length_append, List.length_take, List.length_drop, HN.out]; omega) encTrn_len (fun k y hy j v hv => by
    refine del_cells (sz := 2) encTrn_len (by omega) HN.out ha (f1 := fun i => if 0 ≤ i ∧ i < 0 + at_ * 2 then ((xs.take at_).flatMap encTrn)[i - 0]?.getD undef else .int .i64 0) (fun i hi => by rw [if_pos (by omega)]; rfl) (f3 := fun i => if at_ * 2 ≤ i ∧ i < at_ * 2 + D * 2 then ((xs.drop (at_ + 1)).flatMap encTrn)[i - at_ * 2]?.getD undef else (if 0 ≤ i ∧ i < 0 + at_ * 2 then ((xs.take at_).flatMap encTrn)[i - 0]?.getD undef else .int .i64 0)) (fun i => by rw [hD]) k y hy j v hv))
  have HBB : Hid (Below w.heap.size w W5) := Lib.hid (hb2.trans ((hm3.drew.trans hm5).below (by have := hb2.size; omega) (fun j _ e => by omega)))
  have HGW : Hid (w.heap.size ≤ g) := Lib.hid (by omega)
  have hgl3 : g < W3.heap.size := ho3.lt
  have wk' : IntKind.i64.wrap ((at_ : Int) + 1) = (at_ : Int) + 1 := IntWalk.i64_in _ (by omega)
  have ham : at_ ≤ m := by omega
  clear hX2 hX3 hXd ho2 ho3 ho5 hb2 hs2 hm3 hm5 hgX hD hA2 hA3 hg hm
  go_enter Tryz.func22, Tryz.ntmps22
  go_upto_region 3 with (fail)
  clear hcut1 hcp1 hmk
  refine region_z (S := fun w' => Below W3.heap.size W3 w') [7] (by kernel_rfl) ((Below.refl _ _).drew) (fun hHeld => ?_)
  refine zt (i := 0) (v := .slice (some ⟨g, 0, none⟩) m m) [2, 7] (fun w' hSw => ?_) hHeld ?_
  · clear hHeld hSw
    go_simp
    first | done | omega
  simp only [Act.put, zl0, zl1, zl2, zl3, zl4, zl5]
  refine zt (i := 1) (v := .int .i64 (at_ : Nat)) [2, 7] (fun w' hSw => ?_) hHeld ?_
  · clear hHeld hSw
    go_simp
    first | done | omega
  simp only [Act.put, zl0, zl1, zl2, zl3, zl4, zl5]
  refine zt (i := 2) (v := .slice (some ⟨g, A3, none⟩) D D) [7] (fun w' hSw => ?_) hHeld ?_
  · have hcx := hcut3 w'
    clear hHeld hSw
    go_simp
    first | done | omega
  simp only [Act.put, zl0, zl1, zl2, zl3, zl4, zl5]
  refine zt (i := 3) (v := .slice (some ⟨g0, 0, none⟩) n n) [6, 7] (fun w' hSw => ?_) hHeld ?_
  · clear hHeld hSw
    go_simp
    first | done | omega
  simp only [Act.put, zl0, zl1, zl2, zl3, zl4, zl5]
  refine zt (i := 4) (v := .int .i64 (at_ : Nat)) [5, 6, 7] (fun w' hSw => ?_) hHeld ?_
  · clear hHeld hSw
    go_simp
    first | done | omega
  simp only [Act.put, zl0, zl1, zl2, zl3, zl4, zl5]
  refine zt (i := 5) (v := .int .i64 ((at_ : Int) + 1)) [6, 7] (fun w' hSw => ?_) hHeld ?_
  · clear hHeld hSw
    go_simp
    first | done | omega
  simp only [Act.put, zl0, zl1, zl2, zl3, zl4, zl5]
  refine zt (i := 6) (v := .slice (some ⟨g0, A2, none⟩) D D) [7] (fun w' hSw => ?_) hHeld ?_
  · have hcx := hcut2 w'
    clear hHeld hSw
    go_simp
    first | done | omega
  simp only [Act.put, zl0, zl1, zl2, zl3, zl4, zl5]
  refine wpAnyZ_last (i := 7) (by kernel_rfl) rfl (by kernel_rfl) (fun K' hK => ?_)
  go_simp
  refine hK.out _ _ ?_
  clear hK K'
  try simp only [Act.put, zl3, zl4, zl5]
  refine wpAnyZ_done (by kernel_rfl) ?_ _
  clear hHeld hcut2 hcut3 hcp2
  go_wp2_with fail
  go_ret
  exact ⟨g, rfl, HGW.out, HRES.out, HBB.out⟩
/-- A share. -/
structure Shr where
  hav : Int
  nxt : Int
  out : List Trn
  inn : List Int
structure ShOk (s : Shr) : Prop where
  h1 : 0 ≤ s.hav
  h2 : s.hav ≤ 1000
  n1 : 1 ≤ s.nxt
  n2 : s.nxt ≤ 1000001
  lo : s.out.length ≤ 64
  li : s.inn.length ≤ 64
  oo : ∀ t ∈ s.out, TrnOk t ∧ t.num < s.nxt
  oi : ∀ n ∈ s.inn, 1 ≤ n ∧ n ≤ 1000000
  so : (s.out.map (·.num)).Pairwise (· < ·)
  si : (s.inn.map id).Pairwise (· < ·)
/-- A share's lists, read. -/
structure RdShr (W : World) (aO : Option Addr) (nO : Nat) (aI : Option Addr) (nI : Nat) (s : Shr) : Prop where
  ro : Rd 2 encTrn W aO s.out
  lo : s.out.length = nO
  ri : Rd 1 encI W aI s.inn
  li : s.inn.length = nI
theorem RdShr.keep {W W' : World} {aO : Option Addr} {nO : Nat} {aI : Option Addr} {nI : Nat} {s : Shr} (h : RdShr W aO nO aI nI s) (hb : Below W.heap.size W W') : RdShr W' aO nO aI nI s := ⟨h.ro.keep hb, h.lo, h.ri.keep hb, h.li⟩
def shF (h n : Int) (u v : Value) : Nat → Value := fun i => if i = 0 then .int .i64 h else if i = 1 then .int .i64 n else if i = 2 then u else v
structure ShM (w W : World) (S : Nat) (aO : Option Addr) (nO cO : Nat) (aI : Option Addr) (nI cI : Nat) (s : Shr) : Prop where
  bel : Below w.heap.size w W
  k0 : W.cell? ⟨S, 0, none⟩ = some (.int .i64 s.hav)
  k1 : W.cell? ⟨S, 1, none⟩ = some (.int .i64 s.nxt)
  k2 : W.cell? ⟨S, 2, none⟩ = some (.slice aO nO cO)
  k3 : W.cell? ⟨S, 3, none⟩ = some (.slice aI nI cI)
  rd : RdShr W aO nO aI nI s
theorem ShM.keep {w W W' : World} {S : Nat} {aO : Option Addr} {nO cO : Nat} {aI : Option Addr} {nI cI : Nat} {s : Shr} (h : ShM w W S aO nO cO aI nI cI s) (hb : Below W.heap.size W W') : ShM w W' S aO nO cO aI nI cI s :=
  ⟨h.bel.trans (hb.mono h.bel.size), (hb.cell (p := ⟨S, 0, none⟩) (zb h.k0)).trans h.k0, (hb.cell (p := ⟨S, 1, none⟩) (zb h.k1)).trans h.k1, (hb.cell (p := ⟨S, 2, none⟩) (zb h.k2)).trans h.k2, (hb.cell (p := ⟨S, 3, none⟩) (zb h.k3)).trans h.k3, h.rd.keep hb⟩
theorem ShM.box {w W : World} {aO : Option Addr} {nO cO : Nat} {aI : Option Addr} {nI cI : Nat} {s : Shr} (hb : Below w.heap.size w W) (h : RdShr W aO nO aI nI s) : ShM w (W.alloc (.cells #[.int .i64 s.hav, .int .i64 s.nxt, .slice aO nO cO, .slice aI nI cI] 32)) W.heap.size aO nO cO aI nI cI s :=
  have hb1 : Below W.heap.size W (W.alloc (.cells #[.int .i64 s.hav, .int .i64 s.nxt, .slice aO nO cO, .slice aI nI cI] 32)) := (Below.refl _ _).alloc (Nat.le_refl _) _
  ⟨hb.trans (hb1.mono hb.size), by go_simp, by go_simp, by go_simp, by go_simp, h.keep hb1⟩
end Go.Proofs.YtkbbapefgifagaaGreatDoor
/-
Two controllers: share.duplicate, share.Valid.
-/
namespace Go.Proofs.YtkbbapefgifagaaGreatDoor
open Go.RowKit
set_option linter.unusedVariables false
set_option linter.unusedSimpArgs false
theorem results_c1S {P : Program} {fn : Func} {a : Tmp} {ty : TypeId} {tmps : Array Value} {b : Nat} {x : Value} {w : World} (h : fn.results = #[.cell a ty]) (ha : tmps.getD a undef = .pointer (some ⟨b, 0, none⟩)) (hl : (loadVar ty ⟨b, 0, none⟩).run P w = .ok x w) : (results fn tmps).run P w = .ok x w := by
  have ha' : tmps[a]?.getD undef = .pointer (some ⟨b, 0, none⟩) := by simpa using ha
  simp [results, h, ha', hl, asAddr]
theorem load_shr {w : World} {b : Nat} {h n : Int} {u v : Value} (ho : Own w b 32 4 (shF h n u v)) (hu : u.oneCell' = true) (hv : v.oneCell' = true) : (loadVar 32 ⟨b, 0, none⟩).run Tryz.prog w = .ok (.agg #[.int .i64 h, .int .i64 n, u, v]) w := by
  have h0 : w.cell? ⟨b, 0, none⟩ = some (.int .i64 h) := ho.cell (i := 0) (by omega)
  have h1 : w.cell? ⟨b, 1, none⟩ = some (.int .i64 n) := ho.cell (i := 1) (by omega)
  have h2 : w.cell? ⟨b, 2, none⟩ = some u := ho.cell (i := 2) (by omega)
  have h3 : w.cell? ⟨b, 3, none⟩ = some v := ho.cell (i := 3) (by omega)
  go_simp
/-- What duplicate does. -/
def DpPost (nO nI : Nat) (s : Shr) (w : World) (e : Ending) (w' : World) : Prop :=
  ∃ gO gI, e = .returned (.agg #[.int .i64 s.hav, .int .i64 s.nxt, .slice (some ⟨gO, 0, none⟩) nO nO, .slice (some ⟨gI, 0, none⟩) nI nI]) ∧ w.heap.size ≤ gO ∧ gO < w'.heap.size ∧ w.heap.size ≤ gI ∧ gI < w'.heap.size ∧ RdShr w' (some ⟨gO, 0, none⟩) nO (some ⟨gI, 0, none⟩) nI s ∧ Below w.heap.size w w'
set_option maxRecDepth 100000 in
set_option maxHeartbeats 8000000 in
theorem shDup_ok (aO : Option Addr) (nO cO : Nat) (aI : Option Addr) (nI cI : Nat) (s : Shr) (w : World) (HS : Hid (RdShr w aO nO aI nI s)) (ho64 : nO ≤ 64) (hi64 : nI ≤ 64) : Calls Tryz.prog 15 #[.agg #[.int .i64 s.hav, .int .i64 s.nxt, .slice aO nO cO, .slice aI nI cI]] w (DpPost nO nI s w) := by
  obtain ⟨W3, hW3⟩ : ∃ W, W = ((w.alloc (.cells #[.int .i64 s.hav, .int .i64 s.nxt, .slice aO nO cO, .slice aI nI cI] 32)).alloc (.cells #[.int .i64 0, .int .i64 0, .slice none 0 0, .slice none 0 0] 32)).alloc (.cells #[.int .i64 s.hav, .int .i64 s.nxt, .slice aO nO cO, .slice aI nI cI] 32) := ⟨_, rfl⟩
  obtain ⟨S, hS⟩ : ∃ S, S = w.heap.size := ⟨_, rfl⟩
  have hb0 : Below w.heap.size w ((w.alloc (.cells #[.int .i64 s.hav, .int .i64 s.nxt, .slice aO nO cO, .slice aI nI cI] 32)).alloc (.cells #[.int .i64 0, .int .i64 0, .slice none 0 0, .slice none 0 0] 32)) := ((Below.refl _ _).alloc (Nat.le_refl _) _).alloc (by simp) _
  have HM : Hid (ShM w W3 S aO nO cO aI nI cI s) := Lib.hid (by rw [hW3, hS]; exact ((ShM.box (Below.refl _ _) HS.out).keep ((Below.refl _ _).alloc (Nat.le_refl _) _)).keep ((Below.refl _ _).alloc (Nat.le_refl _) _))
  have HR : Hid (Own W3 (S + 1) 32 4 (shF 0 0 (.slice none 0 0) (.slice none 0 0))) := Lib.hid (by rw [hW3, hS]; exact (Own.newAt _ 32 _ _ (by simp) (n := 4) rfl (fun i hi => by match i, hi with | 0, _ => rfl | 1, _ => rfl | 2, _ => rfl | 3, _ => rfl)).alloc _)
  have HD : Hid (Own W3 (S + 1 + 1) 32 4 (shF s.hav s.nxt (.slice aO nO cO) (.slice aI nI cI))) := Lib.hid (by rw [hW3, hS]; exact Own.newAt _ 32 _ _ (by simp) (n := 4) rfl (fun i hi => by match i, hi with | 0, _ => rfl | 1, _ => rfl | 2, _ => rfl | 3, _ => rfl))
  have HSZ : Hid (W3.heap.size = S + 3 ∧ w.heap.size = S) := Lib.hid (by rw [hW3, hS]; simp)
  have HW3 := Lib.hid (And.intro hW3.symm hS.symm)
  clear hW3 hS hb0
  obtain ⟨R, hR⟩ : ∃ R, R = S + 1 := ⟨_, rfl⟩
  obtain ⟨D, hD⟩ : ∃ R, R = S + 1 + 1 := ⟨_, rfl⟩
  have HRD := Lib.hid (And.intro hR hD)
  rw [← hR] at HR
  rw [← hD] at HD
  -- the first list
  obtain ⟨W4, hmk1, ho4, hb4, hs4⟩ := mk_trns nO (by omega) W3
  obtain ⟨gO, hgO⟩ : ∃ g, g = W3.heap.size := ⟨_, rfl⟩
  rw [← hgO] at hmk1 ho4
  have hgOs : gO = S + 3 := by rw [hgO]; exact HSZ.out.1
  obtain ⟨W5, hW5⟩ : ∃ W, W = W4.setCell ⟨D, 2, none⟩ (.slice (some ⟨gO, 0, none⟩) nO nO) := ⟨_, rfl⟩
  have hm5 : Mod (fun j => j = D) W4 W5 := by rw [hW5]; exact (Mod.refl (fun j => j = D) W4).setCell (p := ⟨D, 2, none⟩) (.inl rfl) _
  have HM4 := Lib.hid (HM.out.keep hb4)
  have HR4 := Lib.hid (HR.out.keep hb4 HR.out.lt)
  have HD4 := Lib.hid (HD.out.keep hb4 HD.out.lt)
  have hD5 : Own W5 D 32 4 (shF s.hav s.nxt (.slice (some ⟨gO, 0, none⟩) nO nO) (.slice aI nI cI)) := by rw [hW5]; exact (HD4.out.set 2 _).congr (fun i hi => by match i, hi with | 0, _ => rfl | 1, _ => rfl | 2, _ => rfl | 3, _ => rfl)
  have hro5 : Rd 2 encTrn W5 aO s.out := (HS.out.ro.keep (HM4.out.bel)).mod hm5 (fun a ha hx e => by
    have h := rd_ltT HS.out.ro (fun h => by rw [h] at hx; simp at hx) a ha
    have := HSZ.out.2
    omega)
  obtain ⟨W6, hcp1, ho6, hm6⟩ := copy_rows (P := Tryz.prog) W5 29 29 3 47 47 gO 0 (nO * 2) nO nO nO cO (some ⟨gO, 0, none⟩) aO s.out Tryz.underlying29 (by kernel_rfl) encTrn_len encTrn_one (by omega) (hro5) (HS.out.lo) (fun _ => rfl) (Nat.le_refl _) (ho4.mod hm5 (by omega)) (by omega)
  -- the second list
  obtain ⟨W7, hmk2, ho7, hb7, hs7⟩ := mk_ints nI (by omega) W6
  obtain ⟨gI, hgI⟩ : ∃ g, g = W6.heap.size := ⟨_, rfl⟩
  rw [← hgI] at hmk2 ho7
  have hm46 : Mod (fun j => j = D ∨ j = gO) W4 W6 := (hm5.mono (fun j _ h => .inl h)).trans (hm6.mono (fun j _ h => .inr h))
  have hgIs : gO < gI := by rw [hgI]; have := ho6.lt; exact this
  have HR7 := Lib.hid ((HR4.out.mod hm46 (by omega)).keep hb7 (HR4.out.mod hm46 (by omega)).lt)
  have HD7 := Lib.hid ((hD5.mod hm6 (by omega)).keep hb7 (hD5.mod hm6 (by omega)).lt)
  obtain ⟨W8, hW8⟩ : ∃ W, W = W7.setCell ⟨D, 3, none⟩ (.slice (some ⟨gI, 0, none⟩) nI nI) := ⟨_, rfl⟩
  have hm8 : Mod (fun j => j = D) W7 W8 := by rw [hW8]; exact (Mod.refl (fun j => j = D) W7).setCell (p := ⟨D, 3, none⟩) (.inl rfl) _
  have hD8 : Own W8 D 32 4 (shF s.hav s.nxt (.slice (some ⟨gO, 0, none⟩) nO nO) (.slice (some ⟨gI, 0, none⟩) nI nI)) := by rw [hW8]; exact (HD7.out.set 3 _).congr (fun i hi => by match i, hi with | 0, _ => rfl | 1, _ => rfl | 2, _ => rfl | 3, _ => rfl)
  have hb38 : Below w.heap.size w W6 := (HM4.out.bel).trans (hm46.below (HM4.out.bel.size) (fun j _ e => by have := HSZ.out.2; omega))
  have hri8 : Rd 1 encI W8 aI s.inn := ((HS.out.ri.keep hb38).keep hb7).mod hm8 (fun a ha hx e => by
    have h := rd_ltT HS.out.ri (fun h => by rw [h] at hx; simp at hx) a ha
    have := HSZ.out.2
    omega)
  obtain ⟨W9, hcp2, ho9, hm9⟩ := copy_rows (P := Tryz.prog) W8 30 30 3 3 3 gI 0 (nI) nI nI nI cI (some ⟨gI, 0, none⟩) aI s.inn Tryz.underlying30 (by kernel_rfl) encI_len1 encI_one (by omega) (hri8) (HS.out.li) (fun _ => rfl) (Nat.le_refl _) (ho7.mod hm8 (by omega)) (by omega)
  have HR9 := Lib.hid ((HR7.out.mod hm8 (by omega)).mod hm9 (by omega))
  have HD9 := Lib.hid (hD8.mod hm9 (by omega))
  obtain ⟨WX, hWX⟩ : ∃ W, W = (((W9.setCell ⟨R, 0, none⟩ (.int .i64 s.hav)).setCell ⟨R, 1, none⟩ (.int .i64 s.nxt)).setCell ⟨R, 2, none⟩ (.slice (some ⟨gO, 0, none⟩) nO nO)).setCell ⟨R, 3, none⟩ (.slice (some ⟨gI, 0, none⟩) nI nI) := ⟨_, rfl⟩
  have hmX : Mod (fun j => j = R) W9 WX := by rw [hWX]; exact ((((Mod.refl (fun j => j = R) W9).setCell (p := ⟨R, 0, none⟩) (.inl rfl) _).setCell (p := ⟨R, 1, none⟩) (.inl rfl) _).setCell (p := ⟨R, 2, none⟩) (.inl rfl) _).setCell (p := ⟨R, 3, none⟩) (.inl rfl) _
  have HRX : Hid (Own WX R 32 4 (shF s.hav s.nxt (.slice (some ⟨gO, 0, none⟩) nO nO) (.slice (some ⟨gI, 0, none⟩) nI nI))) := Lib.hid (by rw [hWX]; exact ((((HR9.out.set 0 _).set 1 _).set 2 _).set 3 _).congr (fun i hi => by match i, hi with | 0, _ => rfl | 1, _ => rfl | 2, _ => rfl | 3, _ => rfl))
  have hm7X : Mod (fun j => j = D ∨ j = gI ∨ j = R) W7 WX := ((hm8.mono (fun j _ h => .inl h)).trans (hm9.mono (fun j _ h => .inr (.inl h)))).trans (hmX.mono (fun j _ h => .inr (.inr h)))
  have HBX : Hid (Below w.heap.size w WX) := Lib.hid ((below_then hb38 hb7).trans (hm7X.below (by have := hb38.size; have := hb7.size; omega) (fun j _ e => by have := HSZ.out.2; omega)))
  have hroX : Rd 2 encTrn WX (some ⟨gO, 0, none⟩) s.out := by
    have h6 : Rd 2 encTrn W6 (some ⟨gO, 0, none⟩) s.out := ho6.rd (by rw [HS.out.lo]; exact Nat.le_refl _) encTrn_len (fun k x hx j v hv => by
      have h := flatR_at encTrn_len s.out k j x v hx hv
      have hj : j < 2 := by rw [← encTrn_len x]; exact (List.getElem?_eq_some_iff.1 hv).1
      have hk : k < nO := by rw [← HS.out.lo]; exact (List.getElem?_eq_some_iff.1 hx).1
      show (if 0 ≤ k * 2 + j ∧ k * 2 + j < 0 + nO * 2 then (s.out.flatMap encTrn)[k * 2 + j - 0]?.getD undef else _) = v
      rw [if_pos (by omega), Nat.sub_zero, h]; rfl)
    exact (h6.keep hb7).mod hm7X (fun a ha _ e => by injection ha with ha; subst ha; dsimp only at e; omega)
  have hriX : Rd 1 encI WX (some ⟨gI, 0, none⟩) s.inn := by
    have h9 : Rd 1 encI W9 (some ⟨gI, 0, none⟩) s.inn := ho9.rd (by rw [HS.out.li]; omega) encI_len1 (fun k x hx j v hv => by
      have h := flatR_at encI_len1 s.inn k j x v hx hv
      have hj : j < 1 := by rw [← encI_len1 x]; exact (List.getElem?_eq_some_iff.1 hv).1
      have hk : k < nI := by rw [← HS.out.li]; exact (List.getElem?_eq_some_iff.1 hx).1
      show (if 0 ≤ k * 1 + j ∧ k * 1 + j < 0 + nI * 1 then (s.inn.flatMap encI)[k * 1 + j - 0]?.getD undef else _) = v
      rw [if_pos (by omega), Nat.sub_zero, h]; rfl)
    exact h9.mod hmX (fun a ha _ e => by injection ha with ha; subst ha; dsimp only at e; omega)
  have HRS : Hid (RdShr WX (some ⟨gO, 0, none⟩) nO (some ⟨gI, 0, none⟩) nI s) := Lib.hid ⟨hroX, HS.out.lo, hriX, HS.out.li⟩
  have HGS : Hid (w.heap.size ≤ gO ∧ gO < WX.heap.size ∧ w.heap.size ≤ gI ∧ gI < WX.heap.size) := Lib.hid (by have := HSZ.out.2; have := ho9.lt; have := hmX.size; omega)
  have HN5 := Lib.hid hm46
  have HM6 : Hid (ShM w W6 S aO nO cO aI nI cI s) := Lib.hid ⟨hb38, (hm46.cell (zb HM4.out.k0) (by show ¬ (S = D ∨ S = gO); omega)).trans HM4.out.k0, (hm46.cell (zb HM4.out.k1) (by show ¬ (S = D ∨ S = gO); omega)).trans HM4.out.k1, (hm46.cell (zb HM4.out.k2) (by show ¬ (S = D ∨ S = gO); omega)).trans HM4.out.k2, (hm46.cell (zb HM4.out.k3) (by show ¬ (S = D ∨ S = gO); omega)).trans HM4.out.k3, HS.out.keep hb38⟩
  have HM5 : Hid (W5.cell? ⟨S, 2, none⟩ = some (.slice aO nO cO)) := Lib.hid ((hm5.cell (zb HM4.out.k2) (by show ¬ S = D; omega)).trans HM4.out.k2)
  have HM8 : Hid (W8.cell? ⟨S, 3, none⟩ = some (.slice aI nI cI)) := Lib.hid (by
    have h := (hb7.cell (p := ⟨S, 3, none⟩) (zb HM6.out.k3)).trans HM6.out.k3
    exact (hm8.cell (zb h) (by show ¬ S = D; omega)).trans h)
  have HD5 := Lib.hid hD5
  have HD8 := Lib.hid hD8
  have HWE := Lib.hid (And.intro hW5.symm (And.intro hW8.symm hWX.symm))
  have HNE : Hid (¬ R = D ∧ ¬ D = R ∧ ¬ S = D ∧ ¬ S = R) := Lib.hid (by omega)
  have HK1 := Lib.hid hmk1
  have HK2 := Lib.hid hcp1
  have HK3 := Lib.hid hmk2
  have HK4 := Lib.hid hcp2
  clear hmk1 hcp1 hmk2 hcp2 hR hD hgO hgOs hW5 hm5 hD5 hro5 ho6 hm6 ho7 hm46 hgI hgIs hW8 hm8 hD8 hb38 hri8 ho9 hm9 hWX hmX hm7X hroX hriX ho4 hb4 hs4 hb7 hs7
  go_enter Tryz.func15, Tryz.ntmps15
  go_upto_region 2 with (fail)
  try simp only [World.size_alloc]
  rw [HW3.out.1, HW3.out.2, ← HRD.out.2, ← HRD.out.1]
  clear HW3
  obtain ⟨z0, z1, z2, z3⟩ : W3.cell? ⟨S, 0, none⟩ = some (.int .i64 s.hav) ∧ W3.cell? ⟨S, 1, none⟩ = some (.int .i64 s.nxt) ∧ W3.cell? ⟨S, 2, none⟩ = some (.slice aO nO cO) ∧ W3.cell? ⟨S, 3, none⟩ = some (.slice aI nI cI) := ⟨HM.out.k0, HM.out.k1, HM.out.k2, HM.out.k3⟩
  have hlS : S < W3.heap.size := World.block_lt_of_cell? W3 _ z0
  have dl4 : D < W4.heap.size := HD4.out.lt
  have df4 := HD4.out.frozen 2
  have dc4 : W4.cell? ⟨D, 2, none⟩ = some (.slice aO nO cO) := HD4.out.cell (i := 2) (by omega)
  have hk := HK1.out
  go_upto_region 3 with (fail)
  rw [HWE.out.1]
  clear z0 z1 z2 z3 hlS dl4 df4 dc4 hk
  have d2 : W5.cell? ⟨D, 2, none⟩ = some (.slice (some ⟨gO, 0, none⟩) nO nO) := HD5.out.cell (i := 2) (by omega)
  have dl : D < W5.heap.size := HD5.out.lt
  have s2 := HM5.out
  have sl : S < W5.heap.size := zb s2
  have hk := HK2.out
  go_upto_region 4 with (fail)
  clear d2 dl s2 sl hk
  obtain ⟨z0, z1, z2, z3⟩ : W6.cell? ⟨S, 0, none⟩ = some (.int .i64 s.hav) ∧ W6.cell? ⟨S, 1, none⟩ = some (.int .i64 s.nxt) ∧ W6.cell? ⟨S, 2, none⟩ = some (.slice aO nO cO) ∧ W6.cell? ⟨S, 3, none⟩ = some (.slice aI nI cI) := ⟨HM6.out.k0, HM6.out.k1, HM6.out.k2, HM6.out.k3⟩
  have hlS : S < W6.heap.size := World.block_lt_of_cell? W6 _ z0
  have dl4 : D < W7.heap.size := HD7.out.lt
  have df4 := HD7.out.frozen 3
  have dc4 : W7.cell? ⟨D, 3, none⟩ = some (.slice aI nI cI) := HD7.out.cell (i := 3) (by omega)
  have hk := HK3.out
  go_upto_region 5 with (fail)
  rw [HWE.out.2.1]
  clear z0 z1 z2 z3 hlS dl4 df4 dc4 hk
  have d2 : W8.cell? ⟨D, 3, none⟩ = some (.slice (some ⟨gI, 0, none⟩) nI nI) := HD8.out.cell (i := 3) (by omega)
  have dl : D < W8.heap.size := HD8.out.lt
  have s2 := HM8.out
  have sl : S < W8.heap.size := zb s2
  have hk := HK4.out
  go_upto_region 6 with (fail)
  clear d2 dl s2 sl hk
  have ne1 : ¬ R = D := HNE.out.1
  have ne2 : ¬ D = R := HNE.out.2.1
  obtain ⟨d0, d1, d2, d3⟩ : W9.cell? ⟨D, 0, none⟩ = some (.int .i64 s.hav) ∧ W9.cell? ⟨D, 1, none⟩ = some (.int .i64 s.nxt) ∧ W9.cell? ⟨D, 2, none⟩ = some (.slice (some ⟨gO, 0, none⟩) nO nO) ∧ W9.cell? ⟨D, 3, none⟩ = some (.slice (some ⟨gI, 0, none⟩) nI nI) := ⟨HD9.out.cell (i := 0) (by omega), HD9.out.cell (i := 1) (by omega), HD9.out.cell (i := 2) (by omega), HD9.out.cell (i := 3) (by omega)⟩
  have hlD : D < W9.heap.size := HD9.out.lt
  obtain ⟨r0, r1, r2, r3⟩ : W9.cell? ⟨R, 0, none⟩ = some (.int .i64 0) ∧ W9.cell? ⟨R, 1, none⟩ = some (.int .i64 0) ∧ W9.cell? ⟨R, 2, none⟩ = some (.slice none 0 0) ∧ W9.cell? ⟨R, 3, none⟩ = some (.slice none 0 0) := ⟨HR9.out.cell (i := 0) (by omega), HR9.out.cell (i := 1) (by omega), HR9.out.cell (i := 2) (by omega), HR9.out.cell (i := 3) (by omega)⟩
  have hlR : R < W9.heap.size := HR9.out.lt
  have f0R := HR9.out.frozen 0
  have f1R := HR9.out.frozen 1
  have f2R := HR9.out.frozen 2
  have f3R := HR9.out.frozen 3
  go_wp2_with fail
  rw [HWE.out.2.2]
  refine bodyPost_ret (results_c1S (a := 2) (ty := 32) (b := R) (by kernel_rfl) rfl (load_shr HRX.out rfl rfl)) rfl ?_
  exact ⟨gO, gI, rfl, HGS.out.1, HGS.out.2.1, HGS.out.2.2.1, HGS.out.2.2.2, HRS.out, HBX.out⟩
end Go.Proofs.YtkbbapefgifagaaGreatDoor
