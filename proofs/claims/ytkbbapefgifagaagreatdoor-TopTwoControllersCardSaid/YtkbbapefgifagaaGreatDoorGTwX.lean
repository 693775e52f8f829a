/-
Several texts in one: TwX0, TwX1, TwX2, TwX3.
-/
import Derived.Test.YtkbbapefgifagaaGreatDoorCTwV
import Derived.StillTailTactics
/-
Two controllers: package steps, small things.
-/
namespace Go.Proofs.YtkbbapefgifagaaGreatDoor
open Go.RowKit
set_option linter.unusedVariables false
set_option linter.unusedSimpArgs false
/-- The current of a level. -/
def ampV (l : Int) : Int := if l = 0 then 0 else 6 + (l - 1) * 2
/-- The greatest level whose current is at most some amperes. -/
def levV (m : Int) : Int := if m < 6 then 0 else min 14 ((m - 6) / 2 + 1)
theorem ampV_le {l m : Int} (h0 : 0 ≤ l) (h : l ≤ levV m) (hm : 0 ≤ m) : 0 ≤ ampV l ∧ ampV l ≤ m ∧ ampV l ≤ 32 := by
  unfold levV at h
  unfold ampV
  split at h <;> split <;> omega
theorem levV_le {m : Int} (h : 0 ≤ m) : 0 ≤ levV m ∧ levV m ≤ 14 := by unfold levV; split <;> omega
set_option maxRecDepth 100000 in
theorem spLevels_any (nm : ByteArray) (w : World) : Calls Tryz.prog 107 #[.agg #[.string nm, .int .i64 0, .int .i64 1, .int .i64 6, .int .i64 32, .int .i64 2, .int .i64 0, .int .i64 0]] w fun e w' => e = .returned (.int .i64 15) ∧ Below w.heap.size w w' := by
  go_enter Tryz.func107, Tryz.ntmps107
  go_wp2_with fail
  go_ret
  exact ⟨rfl, (Below.refl _ _).alloc (Nat.le_refl _) _⟩
set_option maxRecDepth 100000 in
theorem spAmps_any (nm : ByteArray) (l : Int) (w : World) (h0 : 0 ≤ l) (h1 : l ≤ 20) : Calls Tryz.prog 92 #[.agg #[.string nm, .int .i64 0, .int .i64 1, .int .i64 6, .int .i64 32, .int .i64 2, .int .i64 0, .int .i64 0], .int .i64 l] w fun e w' => e = .returned (.int .i64 (ampV l)) ∧ Below w.heap.size w w' := by
  obtain ⟨R, hR⟩ : ∃ R, R = ampV l := ⟨_, rfl⟩
  rw [← hR]
  by_cases hz : l = 0
  · have hr : R = 0 := by rw [hR, hz]; rfl
    clear hR
    subst hr
    subst hz
    go_enter Tryz.func92, Tryz.ntmps92
    go_wp2_with fail
    go_ret
    exact ⟨rfl, (Below.refl _ _).alloc (Nat.le_refl _) _⟩
  · have hr : R = 6 + (l - 1) * 2 := by rw [hR]; unfold ampV; rw [if_neg hz]
    clear hR
    have HR := Lib.hid hr
    clear hr
    have hbq : (l == 0) = false := by simpa using hz
    go_enter Tryz.func92, Tryz.ntmps92
    go_wp2_with fail
    go_ret
    exact ⟨ret_int (by have := HR.out; go_num), (Below.refl _ _).alloc (Nat.le_refl _) _⟩
set_option maxRecDepth 100000 in
theorem spLevel_any (nm : ByteArray) (m : Int) (w : World) (h0 : 0 ≤ m) (h1 : m ≤ 80) : Calls Tryz.prog 90 #[.agg #[.string nm, .int .i64 0, .int .i64 1, .int .i64 6, .int .i64 32, .int .i64 2, .int .i64 0, .int .i64 0], .int .i64 m] w fun e w' => e = .returned (.int .i64 (levV m)) ∧ Below w.heap.size w w' := by
  obtain ⟨R, hR⟩ : ∃ R, R = levV m := ⟨_, rfl⟩
  rw [← hR]
  have HR := Lib.hid hR
  clear hR
  obtain ⟨W0, hW0⟩ : ∃ W, W = w.alloc (.cells #[.string nm, .int .i64 0, .int .i64 1, .int .i64 6, .int .i64 32, .int .i64 2, .int .i64 0, .int .i64 0] 59) := ⟨_, rfl⟩
  obtain ⟨C, hC⟩ : ∃ S, S = w.heap.size := ⟨_, rfl⟩
  have hb0 : Below w.heap.size w W0 := by rw [hW0]; exact (Below.refl _ _).alloc (Nat.le_refl _) _
  obtain ⟨c0, c1, c2, c3, c4, c5, c6, c7⟩ : W0.cell? ⟨C, 0, none⟩ = some (.string nm) ∧ W0.cell? ⟨C, 1, none⟩ = some (.int .i64 0) ∧ W0.cell? ⟨C, 2, none⟩ = some (.int .i64 1) ∧ W0.cell? ⟨C, 3, none⟩ = some (.int .i64 6) ∧ W0.cell? ⟨C, 4, none⟩ = some (.int .i64 32) ∧ W0.cell? ⟨C, 5, none⟩ = some (.int .i64 2) ∧ W0.cell? ⟨C, 6, none⟩ = some (.int .i64 0) ∧ W0.cell? ⟨C, 7, none⟩ = some (.int .i64 0) := by rw [hW0, hC]; exact ⟨by go_simp, by go_simp, by go_simp, by go_simp, by go_simp, by go_simp, by go_simp, by go_simp⟩
  have HB := Lib.hid hb0
  have HW0 := Lib.hid (And.intro hW0.symm hC.symm)
  clear hW0 hb0 hC
  go_enter Tryz.func90, Tryz.ntmps90
  go_upto_region 1 with (fail)
  try simp only [World.size_alloc]
  rw [HW0.out.1, HW0.out.2]
  clear HW0
  go_wp2_with fail
  refine (spLevels_any nm _).mono ?_
  rintro e w1 ⟨rfl, hb1⟩
  have hl : C < W0.heap.size := zb c3
  have d3 := (hb1.cell (p := ⟨C, 3, none⟩) hl).trans c3
  have d5 := (hb1.cell (p := ⟨C, 5, none⟩) hl).trans c5
  have hl' : C < w1.heap.size := zb d3
  have HB1 := Lib.hid (below_then HB.out hb1)
  clear hb1 HB c0 c1 c2 c3 c4 c5 c6 c7 hl
  by_cases h6 : m < 6
  · have hr : R = 0 := by rw [HR.out]; unfold levV; rw [if_pos h6]
    subst hr
    go_wp2_with fail
    go_ret
    exact ⟨rfl, HB1.out⟩
  · obtain ⟨t, ht⟩ : ∃ t, t = (m - 6) / 2 := ⟨_, rfl⟩
    have hd : (m - 6).tdiv 2 = t := by rw [ht]; exact Int.tdiv_eq_ediv_of_nonneg (by omega)
    have ht0 : 0 ≤ t := by omega
    have ht1 : t ≤ 37 := by omega
    have w1' : IntKind.i64.wrap (m - 6) = m - 6 := IntWalk.i64_in _ (by omega)
    have w2' : IntKind.i64.wrap t = t := IntWalk.i64_in _ (by omega)
    have w3' : IntKind.i64.wrap (t + 1) = t + 1 := IntWalk.i64_in _ (by omega)
    have hr : R = min 14 (t + 1) := by rw [HR.out]; unfold levV; rw [if_neg h6, ← ht]
    have HRR := Lib.hid hr
    clear hr ht HR
    by_cases h14 : t < 14
    · go_wp2_with fail
      all_goals go_ret
      all_goals exact ⟨ret_int (by have := HRR.out; omega), HB1.out⟩
    · go_wp2_with fail
      all_goals go_ret
      all_goals exact ⟨ret_int (by have := HRR.out; omega), HB1.out⟩
set_option maxRecDepth 100000 in
theorem spShare1_in (x : Int) (w : World) (h0 : 0 ≤ x) (h1 : x ≤ 80) : Calls Tryz.prog 86 #[.int .i64 x] w fun e w' => e = .returned (.bool true) ∧ Below w.heap.size w w' := by
  go_enter Tryz.func86, Tryz.ntmps86
  go_wp2_with fail
  go_ret
  exact ⟨rfl, Below.refl _ _⟩
set_option maxRecDepth 100000 in
set_option maxHeartbeats 8000000 in
theorem spEvery_in (A : Option Addr) (n c : Nat) (xs : List Int) (w : World) (HX : Hid (Rd 1 encI w A xs)) (HN : Hid (xs.length = n)) (hn : n ≤ 1000) (HI : Hid (∀ x ∈ xs, 0 ≤ x ∧ x ≤ 80)) :
    Calls Tryz.prog 87 #[.slice A n c, .func (.func 86) #[] #[]] w fun e w' => e = .returned (.bool true) ∧ Below w.heap.size w w' := by
  go_enter Tryz.func87, Tryz.ntmps87
  go_wp2_with fail
  go_loopg [9] (n + 1) (fun g1 v9 wr => ∃ i : Nat, v9 = .int .i64 i ∧ i ≤ n ∧ n - i ≤ g1 ∧ Hid (Below w.heap.size w wr))
  case atStart => exact ⟨0, by go_num, by omega, by omega, Lib.hid (Below.refl _ _)⟩
  case round =>
    obtain ⟨i, rfl, hi0, hg1, HB⟩ := hrel
    by_cases hlt : i < n
    · have hltz : (i : Int) < (n : Int) := by omega
      obtain ⟨bb, off, x, hA, hlb, hgx, c0⟩ := rdInt_at (HX.out.keep HB.out) (show i < xs.length by rw [HN.out]; exact hlt)
      obtain ⟨hx0, hx1⟩ := HI.out x (List.mem_of_getElem? hgx)
      have HAA := Lib.hid hA
      subst hA
      clear hgx
      go_wp2_with fail
      refine (spShare1_in x _ hx0 hx1).mono ?_
      rintro e wk ⟨rfl, hbk⟩
      have HB2 := Lib.hid (below_then HB.out hbk)
      clear hbk HB hlb c0
      go_wp2_with fail
      go_roundg (n - (i + 1))
      case measure => omega
      case rel => exact ⟨i + 1, by go_num, by omega, by omega, HB2⟩
    · have hltz : ¬ (i : Int) < (n : Int) := by omega
      go_wp2_with fail
      go_ret
      exact ⟨rfl, HB.out⟩
end Go.Proofs.YtkbbapefgifagaaGreatDoor
/-
Two controllers: steps.isOrder.
-/
namespace Go.Proofs.YtkbbapefgifagaaGreatDoor
open Go.RowKit
set_option linter.unusedVariables false
set_option linter.unusedSimpArgs false
theorem infoBoolT : (Tryz.prog.info? 4).map (fun i => (i.zero, i.size, i.bytes)) = some (some (.bool false), 1, 1) := by kernel_rfl
theorem mk_boolsT (n : Nat) (h : n ≤ 1000) (W : World) : ∃ W', (Instr.makeSlice 189 (.int .i64 n) (.int .i64 n)).run Tryz.prog W = .ok (.slice (some ⟨W.heap.size, 0, none⟩) n n) W' ∧ Own W' W.heap.size 4 n (fun _ => .bool false) ∧ Below W.heap.size W W' ∧ W'.heap.size = W.heap.size + 1 := by
  refine ⟨_, mk_row 189 4 _ 1 1 Tryz.underlying189 infoBoolT (n : Int) (by omega) (by omega) (by omega) W, ?_, (Below.refl _ W).alloc (Nat.le_refl _) _, by simp⟩
  have h : Own (W.alloc (.cells (madeCells (Value.bool false).cells n) 4)) W.heap.size 4 n (fun _ => .bool false) := (Own.made W 4 #[.bool false] n).congr (fun i _ => by simp [Nat.mod_one])
  simpa using h
/-- What has been seen among the first ones. -/
def seenF (os : List Int) (k : Nat) (j : Nat) : Bool := decide ((j : Int) ∈ os.take k)
theorem seenF_next {os : List Int} {k : Nat} {x : Int} (h : os[k]? = some x) (h0 : 0 ≤ x) (j : Nat) : seenF os (k + 1) j = if j = x.toNat then true else seenF os k j := by
  unfold seenF
  obtain ⟨hk, e⟩ := List.getElem?_eq_some_iff.1 h
  rw [List.take_add_one, h]
  simp only [Option.toList, List.mem_append, List.mem_singleton]
  split
  · rename_i hj
    have : (j : Int) = x := by omega
    simp [this]
  · rename_i hj
    have : ¬ (j : Int) = x := by omega
    simp [this]
theorem seenF_new {os : List Int} (hd : os.Nodup) {k : Nat} {x : Int} (h : os[k]? = some x) (h0 : 0 ≤ x) : seenF os k x.toNat = false := by
  unfold seenF
  obtain ⟨hk, e⟩ := List.getElem?_eq_some_iff.1 h
  rw [show ((x.toNat : Nat) : Int) = x by omega]
  simp only [decide_eq_false_iff_not]
  intro hm
  obtain ⟨j, hj, e2⟩ := List.getElem_of_mem hm
  rw [List.getElem_take] at e2
  rw [List.length_take] at hj
  have hj2 : j < os.length := by omega
  have hp := List.pairwise_iff_getElem.1 hd j k hj2 hk (by omega)
  exact hp (e2.trans e.symm)
set_option maxRecDepth 100000 in
set_option maxHeartbeats 8000000 in
theorem spIsOrder_ok (A : Option Addr) (n c : Nat) (xs : List Int) (w : World) (HX : Hid (Rd 1 encI w A xs)) (HN : Hid (xs.length = n)) (hn : n ≤ 100) (HI : Hid (∀ x ∈ xs, 0 ≤ x ∧ x < (n : Nat))) (HD : Hid (xs.Nodup)) :
    Calls Tryz.prog 88 #[.slice A n c, .int .i64 (n : Nat)] w fun e w' => e = .returned (.bool true) ∧ Below w.heap.size w w' := by
  obtain ⟨W1, hmk, hown, hbm, hsz⟩ := mk_boolsT n (by omega) w
  have HOW := Lib.hid hown
  have HB1 := Lib.hid hbm
  have HSZ := Lib.hid hsz
  clear hown hbm hsz
  obtain ⟨B, hB⟩ : ∃ B, B = w.heap.size := ⟨_, rfl⟩
  have HBB := Lib.hid hB
  rw [← hB] at hmk HOW
  clear hB
  have hbq : ((n : Int) == (n : Int)) = true := by simp
  go_enter Tryz.func88, Tryz.ntmps88
  go_wp2_with fail
  go_loopg [16] (n + 1) (fun g1 v16 wr => ∃ i : Nat, v16 = .int .i64 i ∧ i ≤ n ∧ n - i ≤ g1 ∧ Own wr B 4 n (fun j => .bool (seenF xs i j)) ∧ Hid (Below w.heap.size w wr))
  case atStart => exact ⟨0, by go_num, by omega, by omega, HOW.out.congr (fun j hj => by simp [seenF]), HB1⟩
  case round =>
    obtain ⟨i, rfl, hi0, hg1, hO, HB⟩ := hrel
    by_cases hlt : i < n
    · have hltz : (i : Int) < (n : Int) := by omega
      obtain ⟨bb, off, x, hA, hlb0, hgx, c00⟩ := rdInt_at HX.out (show i < xs.length by rw [HN.out]; exact hlt)
      have c0 := (HB.out.cell (p := ⟨bb, off + i, none⟩) hlb0).trans c00
      have hlb : bb < wr.heap.size := Nat.lt_of_lt_of_le hlb0 HB.out.size
      obtain ⟨hx0, hx1⟩ := HI.out x (List.mem_of_getElem? hgx)
      have hnew := seenF_new HD.out hgx hx0
      have HNX := Lib.hid (seenF_next hgx hx0)
      have HAA := Lib.hid hA
      obtain ⟨xn, rfl⟩ : ∃ k : Nat, x = (k : Int) := ⟨x.toNat, by omega⟩
      have hxn : xn < n := by omega
      rw [Int.toNat_natCast] at hnew HNX
      have hcell := hO.cell hxn
      rw [hnew] at hcell
      subst hA
      have hBl := zb hcell
      dsimp only at hBl
      have hfz := hO.frozen xn
      have HSET := Lib.hid ((hO.set xn (.bool true)).congr (f' := fun j => .bool (seenF xs (i + 1) j)) (fun j hj => by rw [HNX.out j]; split <;> simp [*]))
      have HB2 := Lib.hid (HB.out.setCell (p := ⟨B, xn, none⟩) (by rw [HBB.out]; exact Nat.le_refl _) (.bool true))
      clear hO HNX HB hgx hnew c00 hlb0
      go_wp2_with fail
      go_roundg (n - (i + 1))
      case measure => omega
      case rel => exact ⟨i + 1, by go_num, by omega, by omega, HSET.out, HB2⟩
    · have hltz : ¬ (i : Int) < (n : Int) := by omega
      go_wp2_with fail
      go_ret
      exact ⟨rfl, HB.out⟩
end Go.Proofs.YtkbbapefgifagaaGreatDoor
/-
Two controllers: steps, whether a charger may rise.
-/
namespace Go.Proofs.YtkbbapefgifagaaGreatDoor
open Go.RowKit
set_option linter.unusedVariables false
set_option linter.unusedSimpArgs false
set_option maxRecDepth 100000 in
set_option maxHeartbeats 8000000 in
theorem spRise1_ok (B X T S bR oR nR cR : Nat) (more s cap : Int) (w : World) (hB : w.cell? ⟨B, 0, none⟩ = some (.pointer (some ⟨T, 0, none⟩))) (hX : w.cell? ⟨X, 0, none⟩ = some (.int .i64 more))
    (h5 : w.cell? ⟨T, 5, none⟩ = some (.slice (some ⟨bR, oR, none⟩) (nR + 1) cR)) (h22 : w.cell? ⟨T, 22, none⟩ = some (.slice (some ⟨S, 0, none⟩) (nR + 1) (nR + 1))) (hS : w.cell? ⟨S, 0, none⟩ = some (.int .i64 s)) (hR : w.cell? ⟨bR, oR, none⟩ = some (.int .i64 cap))
    (hs : -1000000 ≤ s ∧ s ≤ 1000000) (hm : -1000000 ≤ more ∧ more ≤ 1000000) :
    Calls Tryz.prog 108 #[.int .i64 0, .pointer (some ⟨B, 0, none⟩), .pointer (some ⟨X, 0, none⟩)] w fun e w' => e = .returned (.bool (decide (s + more ≤ cap))) ∧ Below w.heap.size w w' := by
  obtain ⟨hs1, hs2⟩ := hs
  obtain ⟨hm1, hm2⟩ := hm
  have l1 : B < w.heap.size := zb hB
  have l2 : X < w.heap.size := zb hX
  have l3 : T < w.heap.size := zb h5
  have l4 : S < w.heap.size := zb hS
  have l5 : bR < w.heap.size := zb hR
  have hz : (0 : Int) < ((nR + 1 : Nat) : Int) := by omega
  have hw : IntKind.i64.wrap (s + more) = s + more := IntWalk.i64_in _ (by omega)
  obtain ⟨d, hd⟩ : ∃ d, d = decide (s + more ≤ cap) := ⟨_, rfl⟩
  rw [← hd]
  have HD := Lib.hid hd
  clear hd
  cases d
  · have hno : ¬ s + more ≤ cap := by have := HD.out; simpa using this.symm
    go_enter Tryz.func108, Tryz.ntmps108
    go_upto_region 1 with (fail)
    go_quiet (fail)
    go_wp2_with fail
    go_ret
    exact ⟨by first | rfl | simp [hno], below_drewG _ (Below.refl _ w)⟩
  · have hyes : s + more ≤ cap := by have := HD.out; simpa using this.symm
    go_enter Tryz.func108, Tryz.ntmps108
    go_upto_region 1 with (fail)
    go_quiet (fail)
    go_wp2_with fail
    go_ret
    exact ⟨by first | rfl | simp [hyes], below_drewG _ (Below.refl _ w)⟩
set_option maxRecDepth 100000 in
set_option maxHeartbeats 8000000 in
theorem spEvery_one (O c B X T S bR oR nR cR : Nat) (more s cap : Int) (w : World) (hO : w.cell? ⟨O, 0, none⟩ = some (.int .i64 0)) (hB : w.cell? ⟨B, 0, none⟩ = some (.pointer (some ⟨T, 0, none⟩))) (hX : w.cell? ⟨X, 0, none⟩ = some (.int .i64 more))
    (h5 : w.cell? ⟨T, 5, none⟩ = some (.slice (some ⟨bR, oR, none⟩) (nR + 1) cR)) (h22 : w.cell? ⟨T, 22, none⟩ = some (.slice (some ⟨S, 0, none⟩) (nR + 1) (nR + 1))) (hS : w.cell? ⟨S, 0, none⟩ = some (.int .i64 s)) (hR : w.cell? ⟨bR, oR, none⟩ = some (.int .i64 cap))
    (hs : -1000000 ≤ s ∧ s ≤ 1000000) (hm : -1000000 ≤ more ∧ more ≤ 1000000) :
    Calls Tryz.prog 87 #[.slice (some ⟨O, 0, none⟩) 1 c, .func (.func 108) #[] #[.pointer (some ⟨B, 0, none⟩), .pointer (some ⟨X, 0, none⟩)]] w fun e w' => e = .returned (.bool (decide (s + more ≤ cap))) ∧ Below w.heap.size w w' := by
  have HC := Lib.hid (fun (wr : World) (h : Below w.heap.size w wr) => spRise1_ok B X T S bR oR nR cR more s cap wr ((h.cell (zb hB)).trans hB) ((h.cell (zb hX)).trans hX) ((h.cell (zb h5)).trans h5) ((h.cell (zb h22)).trans h22) ((h.cell (zb hS)).trans hS) ((h.cell (zb hR)).trans hR) hs hm)
  clear hB hX h5 h22 hS hR hs hm
  have HO := Lib.hid hO
  obtain ⟨d, hd⟩ : ∃ d, d = decide (s + more ≤ cap) := ⟨_, rfl⟩
  rw [← hd] at HC ⊢
  clear hd hO
  go_enter Tryz.func87, Tryz.ntmps87
  go_wp2_with fail
  go_loopg [9] 3 (fun g1 v9 wr => ∃ i : Nat, v9 = .int .i64 i ∧ i ≤ 1 ∧ 1 - i ≤ g1 ∧ Hid (i = 1 → d = true) ∧ Hid (Below w.heap.size w wr))
  case atStart => exact ⟨0, by go_num, by omega, by omega, Lib.hid (fun h => by omega), Lib.hid (Below.refl _ _)⟩
  case round =>
    obtain ⟨i, rfl, hi0, hg1, HI, HB⟩ := hrel
    by_cases hlt : i = 0
    · subst hlt
      have c0 := (HB.out.cell (zb HO.out)).trans HO.out
      have hl : O < wr.heap.size := zb c0
      go_wp2_with fail
      refine (HC.out _ HB.out).mono ?_
      rintro e wk ⟨rfl, hbk⟩
      have HB2 := Lib.hid (below_then HB.out hbk)
      clear hbk HB hl c0 HI
      cases d
      · go_wp2_with fail
        go_ret
        exact ⟨rfl, HB2.out⟩
      · go_wp2_with fail
        go_roundg 0
        case measure => omega
        case rel => exact ⟨1, by go_num, by omega, by omega, Lib.hid (by simp), HB2⟩
    · have hi1 : i = 1 := by omega
      subst hi1
      have hdt : d = true := HI.out rfl
      subst hdt
      go_wp2_with fail
      go_ret
      exact ⟨rfl, HB.out⟩
end Go.Proofs.YtkbbapefgifagaaGreatDoor
/-
Two controllers: steps, a charger rises by a level.
-/
namespace Go.Proofs.YtkbbapefgifagaaGreatDoor
open Go.RowKit
set_option linter.unusedVariables false
set_option linter.unusedSimpArgs false
/-- The cells of a trial that are read for a charger. -/
structure RiC (T S L O i n bC oC cC bR oR cR cO bA oA cA : Nat) (nm : ByteArray) (al cap : Int) (W : World) : Prop where
  t3 : W.cell? ⟨T, 3, none⟩ = some (.slice (some ⟨bC, oC, none⟩) n cC)
  t5 : W.cell? ⟨T, 5, none⟩ = some (.slice (some ⟨bR, oR, none⟩) (0 + 1) cR)
  t6 : W.cell? ⟨T, 6 + i, none⟩ = some (.slice (some ⟨O, 0, none⟩) 1 cO)
  t22 : W.cell? ⟨T, 22, none⟩ = some (.slice (some ⟨S, 0, none⟩) (0 + 1) (0 + 1))
  t23 : W.cell? ⟨T, 23, none⟩ = some (.slice (some ⟨bA, oA, none⟩) n cA)
  t24 : W.cell? ⟨T, 24, none⟩ = some (.slice (some ⟨L, 0, none⟩) n n)
  c0 : W.cell? ⟨bC, oC + i * 8, none⟩ = some (.string nm)
  c1 : W.cell? ⟨bC, oC + i * 8 + 1, none⟩ = some (.int .i64 0)
  c2 : W.cell? ⟨bC, oC + i * 8 + 2, none⟩ = some (.int .i64 1)
  c3 : W.cell? ⟨bC, oC + i * 8 + 3, none⟩ = some (.int .i64 6)
  c4 : W.cell? ⟨bC, oC + i * 8 + 4, none⟩ = some (.int .i64 32)
  c5 : W.cell? ⟨bC, oC + i * 8 + 5, none⟩ = some (.int .i64 2)
  c6 : W.cell? ⟨bC, oC + i * 8 + 6, none⟩ = some (.int .i64 0)
  c7 : W.cell? ⟨bC, oC + i * 8 + 7, none⟩ = some (.int .i64 0)
  r0 : W.cell? ⟨bR, oR, none⟩ = some (.int .i64 cap)
  o0 : W.cell? ⟨O, 0, none⟩ = some (.int .i64 0)
  a0 : W.cell? ⟨bA, oA + i, none⟩ = some (.int .i64 al)
theorem RiC.keep {T S L O i n bC oC cC bR oR cR cO bA oA cA : Nat} {nm : ByteArray} {al cap : Int} {W W' : World} (h : RiC T S L O i n bC oC cC bR oR cR cO bA oA cA nm al cap W) (hb : Below W.heap.size W W') : RiC T S L O i n bC oC cC bR oR cR cO bA oA cA nm al cap W' :=
  ⟨(hb.cell (zb h.t3)).trans h.t3, (hb.cell (zb h.t5)).trans h.t5, (hb.cell (zb h.t6)).trans h.t6, (hb.cell (zb h.t22)).trans h.t22, (hb.cell (zb h.t23)).trans h.t23, (hb.cell (zb h.t24)).trans h.t24, (hb.cell (zb h.c0)).trans h.c0, (hb.cell (zb h.c1)).trans h.c1, (hb.cell (zb h.c2)).trans h.c2, (hb.cell (zb h.c3)).trans h.c3, (hb.cell (zb h.c4)).trans h.c4, (hb.cell (zb h.c5)).trans h.c5, (hb.cell (zb h.c6)).trans h.c6, (hb.cell (zb h.c7)).trans h.c7, (hb.cell (zb h.r0)).trans h.r0, (hb.cell (zb h.o0)).trans h.o0, (hb.cell (zb h.a0)).trans h.a0⟩
theorem RiC.mod {T S L O i n bC oC cC bR oR cR cO bA oA cA : Nat} {nm : ByteArray} {al cap : Int} {W W' : World} {M : Nat → Prop} (h : RiC T S L O i n bC oC cC bR oR cR cO bA oA cA nm al cap W) (hb : Mod M W W') (hT : ¬ M T) (hC : ¬ M bC) (hR : ¬ M bR) (hO : ¬ M O) (hA : ¬ M bA) : RiC T S L O i n bC oC cC bR oR cR cO bA oA cA nm al cap W' :=
  ⟨(hb.cell (zb h.t3) hT).trans h.t3, (hb.cell (zb h.t5) hT).trans h.t5, (hb.cell (zb h.t6) hT).trans h.t6, (hb.cell (zb h.t22) hT).trans h.t22, (hb.cell (zb h.t23) hT).trans h.t23, (hb.cell (zb h.t24) hT).trans h.t24, (hb.cell (zb h.c0) hC).trans h.c0, (hb.cell (zb h.c1) hC).trans h.c1, (hb.cell (zb h.c2) hC).trans h.c2, (hb.cell (zb h.c3) hC).trans h.c3, (hb.cell (zb h.c4) hC).trans h.c4, (hb.cell (zb h.c5) hC).trans h.c5, (hb.cell (zb h.c6) hC).trans h.c6, (hb.cell (zb h.c7) hC).trans h.c7, (hb.cell (zb h.r0) hR).trans h.r0, (hb.cell (zb h.o0) hO).trans h.o0, (hb.cell (zb h.a0) hA).trans h.a0⟩
def setF (f : Nat → Int) (k : Nat) (a : Int) : Nat → Int := fun i => if i = k then a else f i
def lvF (lv : Nat → Int) (j : Nat) : Value := .int .i64 (lv j)
/-- What rise does. -/
def RiPost (S L i n : Nat) (al s cap : Int) (lv : Nat → Int) (w : World) (e : Ending) (w' : World) : Prop :=
  ∃ b s' lv', e = .returned (.bool b) ∧ Own w' S 3 1 (fun _ => .int .i64 s') ∧ Own w' L 3 n (lvF lv') ∧ Mod (fun j => j = S ∨ j = L) w w' ∧ ((b = true ∧ s + (max al (ampV (lv i + 1)) - max al (ampV (lv i))) ≤ cap ∧ s' = s + (max al (ampV (lv i + 1)) - max al (ampV (lv i))) ∧ lv' = setF lv i (lv i + 1)) ∨ (b = false ∧ s' = s ∧ lv' = lv))
theorem Own.oneT (w : World) : Own (w.alloc (.cells #[.int .i64 0] 3)) w.heap.size 3 1 (fun _ => .int .i64 0) :=
  Own.newAt _ 3 _ _ rfl (n := 1) rfl (fun i hi => by match i, hi with | 0, _ => rfl)
set_option maxRecDepth 100000 in
set_option maxHeartbeats 16000000 in
theorem spRise_ok (T S L O i n bC oC cC bR oR cR cO bA oA cA : Nat) (nm : ByteArray) (al cap : Int) (s : Int) (lv : Nat → Int) (w : World) (RC : Hid (RiC T S L O i n bC oC cC bR oR cR cO bA oA cA nm al cap w)) (HS : Hid (Own w S 3 1 (fun _ => .int .i64 s))) (HL : Hid (Own w L 3 n (lvF lv)))
    (hi : i < n) (hn : n ≤ 16) (HNE : Hid ((T ≠ S ∧ T ≠ L) ∧ (bC ≠ S ∧ bC ≠ L) ∧ (bR ≠ S ∧ bR ≠ L) ∧ (O ≠ S ∧ O ≠ L) ∧ (bA ≠ S ∧ bA ≠ L) ∧ S ≠ L)) (hs : 0 ≤ s ∧ s ≤ 100000) (ha : 0 ≤ al ∧ al ≤ 80) (hl : 0 ≤ lv i ∧ lv i ≤ 14) :
    Calls Tryz.prog 91 #[.pointer (some ⟨T, 0, none⟩), .int .i64 (i : Nat)] w (RiPost S L i n al s cap lv w) := by
  obtain ⟨hs0, hs1⟩ := hs
  obtain ⟨ha0, ha1⟩ := ha
  obtain ⟨hl0, hl1⟩ := hl
  obtain ⟨l, hll⟩ : ∃ l, l = lv i := ⟨_, rfl⟩
  rw [← hll] at hl0 hl1
  have HLL := Lib.hid hll
  obtain ⟨p, hp⟩ : ∃ p, p = ampV (l + 1) := ⟨_, rfl⟩
  obtain ⟨q, hq⟩ : ∃ q, q = ampV l := ⟨_, rfl⟩
  have hpq : 0 ≤ q ∧ q ≤ p ∧ p ≤ 80 := by rw [hp, hq]; unfold ampV; split <;> split <;> omega
  obtain ⟨hq0, hq1, hp1⟩ := hpq
  obtain ⟨mp, hmp⟩ : ∃ m, m = max al p := ⟨_, rfl⟩
  obtain ⟨mq, hmq⟩ : ∃ m, m = max al q := ⟨_, rfl⟩
  have hmm : 0 ≤ mq ∧ mq ≤ mp ∧ mp ≤ 80 := by omega
  obtain ⟨hmq0, hmq1, hmp1⟩ := hmm
  obtain ⟨more, hmore⟩ : ∃ m, m = mp - mq := ⟨_, rfl⟩
  have hmb : 0 ≤ more ∧ more ≤ 80 := by omega
  obtain ⟨hm0, hm1⟩ := hmb
  have wmore : IntKind.i64.wrap (mp - mq) = more := by rw [IntWalk.i64_in _ (by omega)]; exact hmore.symm
  have HPQ : Hid ((if al < p then p else al) = mp ∧ (if al < q then q else al) = mq ∧ more = max al (ampV (l + 1)) - max al (ampV l)) := Lib.hid ⟨by rw [hmp]; split <;> omega, by rw [hmq]; split <;> omega, by rw [hmore, hmp, hmq, hp, hq]⟩
  have HP := Lib.hid hp
  have HQ := Lib.hid hq
  clear hp hq hmp hmq hmore hll
  have hiz : (i : Int) < (n : Int) := by omega
  have wl1 : IntKind.i64.wrap (l + 1) = l + 1 := IntWalk.i64_in _ (by omega)
  have wlm : IntKind.i64.wrap l = l := IntWalk.i64_in _ (by omega)
  have hLi : w.cell? ⟨L, i, none⟩ = some (.int .i64 l) := by have := HL.out.cell hi; rw [this, HLL.out]; rfl
  have HLi := Lib.hid hLi
  clear hLi
  obtain ⟨B, hB⟩ : ∃ B, B = w.heap.size := ⟨_, rfl⟩
  obtain ⟨W0, hW0⟩ : ∃ W, W = (w.alloc (.cells #[.pointer (some ⟨T, 0, none⟩)] 168)).alloc (.cells #[.string nm, .int .i64 0, .int .i64 1, .int .i64 6, .int .i64 32, .int .i64 2, .int .i64 0, .int .i64 0] 59) := ⟨_, rfl⟩
  have hb0 : Below w.heap.size w W0 := by rw [hW0]; exact ((Below.refl _ _).alloc (Nat.le_refl _) _).alloc (by simp) _
  have d0 : W0.cell? ⟨B, 0, none⟩ = some (.pointer (some ⟨T, 0, none⟩)) := by rw [hW0, hB]; go_simp
  have e0 : W0.cell? ⟨B + 1, 0, none⟩ = some (.string nm) := by rw [hW0, hB]; go_simp
  have e1 : W0.cell? ⟨B + 1, 1, none⟩ = some (.int .i64 0) := by rw [hW0, hB]; go_simp
  have e2 : W0.cell? ⟨B + 1, 2, none⟩ = some (.int .i64 1) := by rw [hW0, hB]; go_simp
  have e3 : W0.cell? ⟨B + 1, 3, none⟩ = some (.int .i64 6) := by rw [hW0, hB]; go_simp
  have e4 : W0.cell? ⟨B + 1, 4, none⟩ = some (.int .i64 32) := by rw [hW0, hB]; go_simp
  have e5 : W0.cell? ⟨B + 1, 5, none⟩ = some (.int .i64 2) := by rw [hW0, hB]; go_simp
  have e6 : W0.cell? ⟨B + 1, 6, none⟩ = some (.int .i64 0) := by rw [hW0, hB]; go_simp
  have e7 : W0.cell? ⟨B + 1, 7, none⟩ = some (.int .i64 0) := by rw [hW0, hB]; go_simp
  have HB := Lib.hid hb0
  have HW0 := Lib.hid (And.intro hW0.symm hB.symm)
  have HBB := HW0
  clear hb0 hW0 hB
  have RC0 := RC
  have t3 : w.cell? ⟨T, 3, none⟩ = some (.slice (some ⟨bC, oC, none⟩) n cC) := (RC.out.keep (Below.refl _ _)).t3
  have c0 : w.cell? ⟨bC, oC + i * 8, none⟩ = some (.string nm) := (RC.out.keep (Below.refl _ _)).c0
  have c1 : w.cell? ⟨bC, oC + i * 8 + 1, none⟩ = some (.int .i64 0) := (RC.out.keep (Below.refl _ _)).c1
  have c2 : w.cell? ⟨bC, oC + i * 8 + 2, none⟩ = some (.int .i64 1) := (RC.out.keep (Below.refl _ _)).c2
  have c3 : w.cell? ⟨bC, oC + i * 8 + 3, none⟩ = some (.int .i64 6) := (RC.out.keep (Below.refl _ _)).c3
  have c4 : w.cell? ⟨bC, oC + i * 8 + 4, none⟩ = some (.int .i64 32) := (RC.out.keep (Below.refl _ _)).c4
  have c5 : w.cell? ⟨bC, oC + i * 8 + 5, none⟩ = some (.int .i64 2) := (RC.out.keep (Below.refl _ _)).c5
  have c6 : w.cell? ⟨bC, oC + i * 8 + 6, none⟩ = some (.int .i64 0) := (RC.out.keep (Below.refl _ _)).c6
  have c7 : w.cell? ⟨bC, oC + i * 8 + 7, none⟩ = some (.int .i64 0) := (RC.out.keep (Below.refl _ _)).c7
  have lT : T < w.heap.size := World.block_lt_of_cell? w _ t3
  have lbC : bC < w.heap.size := World.block_lt_of_cell? w _ c0
  go_enter Tryz.func91, Tryz.ntmps91
  go_upto_region 2 with (fail)
  try simp only [World.size_alloc]
  rw [HW0.out.1, HW0.out.2]
  clear HW0 t3 c0 c1 c2 c3 c4 c5 c6 c7 lT lbC
  have t24 : W0.cell? ⟨T, 24, none⟩ = some (.slice (some ⟨L, 0, none⟩) n n) := (RC.out.keep HB.out).t24
  have lT : T < W0.heap.size := World.block_lt_of_cell? W0 _ t24
  have g0 : W0.cell? ⟨L, i, none⟩ = some (.int .i64 l) := (HB.out.cell (zb HLi.out)).trans HLi.out
  have lL : L < W0.heap.size := zb g0
  go_upto_region 3 with (fail)
  clear t24 g0 lT lL
  go_cut [7] (fun v7 wx => ∃ X, v7 = .pointer (some ⟨X, 0, none⟩) ∧ Hid (w.heap.size ≤ X) ∧ Hid (Own wx X 3 1 (fun _ => .int .i64 more)) ∧ Hid (Below W0.heap.size W0 wx))
  case first =>
    refine region_z (S := fun w' => Below W0.heap.size W0 w') [] (by kernel_rfl) (Below.refl _ _).drew (fun hHeld => ?_)
    obtain ⟨wd, hwd⟩ : ∃ wd, wd = W0.drew := ⟨_, rfl⟩
    rw [← hwd] at hHeld ⊢
    clear hwd
    refine zt (i := 0) (v := .pointer (some ⟨T, 0, none⟩)) [] (fun w' hSw => ?_) hHeld ?_
    · have f0 := (hSw.cell (p := ⟨B, 0, none⟩) (zb d0)).trans d0
      have lB0 : B < w'.heap.size := zb f0
      clear hHeld hSw
      go_simp
    simp only [Act.put, zl0, zl1, zl2, zl3, zl4, zl5]
    refine zt (i := 1) (v := .pointer (some ⟨T, 0, none⟩)) [] (fun w' hSw => ?_) hHeld ?_
    · clear hHeld hSw
      go_simp
    simp only [Act.put, zl0, zl1, zl2, zl3, zl4, zl5]
    refine zt (i := 2) (v := .pointer (some ⟨T, 23, none⟩)) [] (fun w' hSw => ?_) hHeld ?_
    · clear hHeld hSw
      go_simp
    simp only [Act.put, zl0, zl1, zl2, zl3, zl4, zl5]
    refine zt (i := 3) (v := .slice (some ⟨bA, oA, none⟩) n cA) [] (fun w' hSw => ?_) hHeld ?_
    · have t23 : w'.cell? ⟨T, 23, none⟩ = some (.slice (some ⟨bA, oA, none⟩) n cA) := (RC.out.keep (below_then HB.out hSw)).t23
      have lT : T < w'.heap.size := World.block_lt_of_cell? w' _ t23
      clear hHeld hSw
      go_simp
    simp only [Act.put, zl0, zl1, zl2, zl3, zl4, zl5]
    refine zt (i := 4) (v := .int .i64 (i : Nat)) [] (fun w' hSw => ?_) hHeld ?_
    · clear hHeld hSw
      go_simp
    simp only [Act.put, zl0, zl1, zl2, zl3, zl4, zl5]
    refine zt (i := 5) (v := .pointer (some ⟨bA, oA + i, none⟩)) [] (fun w' hSw => ?_) hHeld ?_
    · clear hHeld hSw
      go_simp
    simp only [Act.put, zl0, zl1, zl2, zl3, zl4, zl5]
    refine zt (i := 6) (v := .int .i64 al) [] (fun w' hSw => ?_) hHeld ?_
    · have a0 : w'.cell? ⟨bA, oA + i, none⟩ = some (.int .i64 al) := (RC.out.keep (below_then HB.out hSw)).a0
      have lbA : bA < w'.heap.size := World.block_lt_of_cell? w' _ a0
      clear hHeld hSw
      go_simp
    simp only [Act.put, zl0, zl1, zl2, zl3, zl4, zl5]
    refine zt (i := 7) (v := .agg #[.string nm, .int .i64 0, .int .i64 1, .int .i64 6, .int .i64 32, .int .i64 2, .int .i64 0, .int .i64 0]) [] (fun w' hSw => ?_) hHeld ?_
    · have f0 := (hSw.cell (p := ⟨B + 1, 0, none⟩) (zb e0)).trans e0
      have f1 := (hSw.cell (p := ⟨B + 1, 1, none⟩) (zb e1)).trans e1
      have f2 := (hSw.cell (p := ⟨B + 1, 2, none⟩) (zb e2)).trans e2
      have f3 := (hSw.cell (p := ⟨B + 1, 3, none⟩) (zb e3)).trans e3
      have f4 := (hSw.cell (p := ⟨B + 1, 4, none⟩) (zb e4)).trans e4
      have f5 := (hSw.cell (p := ⟨B + 1, 5, none⟩) (zb e5)).trans e5
      have f6 := (hSw.cell (p := ⟨B + 1, 6, none⟩) (zb e6)).trans e6
      have f7 := (hSw.cell (p := ⟨B + 1, 7, none⟩) (zb e7)).trans e7
      have lB1 : B + 1 < w'.heap.size := zb f0
      clear hHeld hSw
      go_simp
    simp only [Act.put, zl0, zl1, zl2, zl3, zl4, zl5]
    refine zt (i := 8) (v := .int .i64 (l + 1)) [] (fun w' hSw => ?_) hHeld ?_
    · clear hHeld hSw
      go_simp
    simp only [Act.put, zl0, zl1, zl2, zl3, zl4, zl5]
    refine zt (i := 11) (v := .pointer (some ⟨T, 0, none⟩)) [] (fun w' hSw => ?_) hHeld ?_
    · have f0 := (hSw.cell (p := ⟨B, 0, none⟩) (zb d0)).trans d0
      have lB0 : B < w'.heap.size := zb f0
      clear hHeld hSw
      go_simp
    simp only [Act.put, zl0, zl1, zl2, zl3, zl4, zl5]
    refine zt (i := 12) (v := .pointer (some ⟨T, 0, none⟩)) [] (fun w' hSw => ?_) hHeld ?_
    · clear hHeld hSw
      go_simp
    simp only [Act.put, zl0, zl1, zl2, zl3, zl4, zl5]
    refine zt (i := 13) (v := .pointer (some ⟨T, 23, none⟩)) [] (fun w' hSw => ?_) hHeld ?_
    · clear hHeld hSw
      go_simp
    simp only [Act.put, zl0, zl1, zl2, zl3, zl4, zl5]
    refine zt (i := 14) (v := .slice (some ⟨bA, oA, none⟩) n cA) [] (fun w' hSw => ?_) hHeld ?_
    · have t23 : w'.cell? ⟨T, 23, none⟩ = some (.slice (some ⟨bA, oA, none⟩) n cA) := (RC.out.keep (below_then HB.out hSw)).t23
      have lT : T < w'.heap.size := World.block_lt_of_cell? w' _ t23
      clear hHeld hSw
      go_simp
    simp only [Act.put, zl0, zl1, zl2, zl3, zl4, zl5]
    refine zt (i := 15) (v := .int .i64 (i : Nat)) [] (fun w' hSw => ?_) hHeld ?_
    · clear hHeld hSw
      go_simp
    simp only [Act.put, zl0, zl1, zl2, zl3, zl4, zl5]
    refine zt (i := 16) (v := .pointer (some ⟨bA, oA + i, none⟩)) [] (fun w' hSw => ?_) hHeld ?_
    · clear hHeld hSw
      go_simp
    simp only [Act.put, zl0, zl1, zl2, zl3, zl4, zl5]
    refine zt (i := 17) (v := .int .i64 al) [] (fun w' hSw => ?_) hHeld ?_
    · have a0 : w'.cell? ⟨bA, oA + i, none⟩ = some (.int .i64 al) := (RC.out.keep (below_then HB.out hSw)).a0
      have lbA : bA < w'.heap.size := World.block_lt_of_cell? w' _ a0
      clear hHeld hSw
      go_simp
    simp only [Act.put, zl0, zl1, zl2, zl3, zl4, zl5]
    refine zt (i := 18) (v := .agg #[.string nm, .int .i64 0, .int .i64 1, .int .i64 6, .int .i64 32, .int .i64 2, .int .i64 0, .int .i64 0]) [] (fun w' hSw => ?_) hHeld ?_
    · have f0 := (hSw.cell (p := ⟨B + 1, 0, none⟩) (zb e0)).trans e0
      have f1 := (hSw.cell (p := ⟨B + 1, 1, none⟩) (zb e1)).trans e1
      have f2 := (hSw.cell (p := ⟨B + 1, 2, none⟩) (zb e2)).trans e2
      have f3 := (hSw.cell (p := ⟨B + 1, 3, none⟩) (zb e3)).trans e3
      have f4 := (hSw.cell (p := ⟨B + 1, 4, none⟩) (zb e4)).trans e4
      have f5 := (hSw.cell (p := ⟨B + 1, 5, none⟩) (zb e5)).trans e5
      have f6 := (hSw.cell (p := ⟨B + 1, 6, none⟩) (zb e6)).trans e6
      have f7 := (hSw.cell (p := ⟨B + 1, 7, none⟩) (zb e7)).trans e7
      have lB1 : B + 1 < w'.heap.size := zb f0
      clear hHeld hSw
      go_simp
    simp only [Act.put, zl0, zl1, zl2, zl3, zl4, zl5]
    refine zt (i := 19) (v := .int .i64 (l + 1)) [] (fun w' hSw => ?_) hHeld ?_
    · clear hHeld hSw
      go_simp
    simp only [Act.put, zl0, zl1, zl2, zl3, zl4, zl5]
    refine zt (i := 20) (v := .int .i64 l) [] (fun w' hSw => ?_) hHeld ?_
    · clear hHeld hSw
      go_simp
      first | done | exact wlm
    simp only [Act.put, zl0, zl1, zl2, zl3, zl4, zl5]
    refine wpAnyZ_two (i := 9) (k := 24) (by kernel_rfl) rfl rfl (fun K' hK => ?_) (fun K' hK => ?_)
    · go_simp
      refine (spAmps_any nm (l + 1) _ (by omega) (by omega)).mono ?_
      rintro e W1 ⟨rfl, hb⟩
      rw [← HP.out]
      refine hK.out _ _ ?_ (fun hHeld' => ?_)
      · exact hHeld.trans (hb.mono hHeld.size)
      clear hK K'
      clear hHeld hb
      have hHeld := hHeld'
      clear hHeld'
      try simp only [Act.put, zl0, zl1, zl2, zl3, zl4, zl5]
      refine zt (i := 10) (v := .int .i64 mp) [] (fun w' hSw => ?_) hHeld ?_
      · have hx := HPQ.out.1
        clear hHeld hSw
        go_simp
        first | done | exact congrArg _ hx | (simp [hx])
      simp only [Act.put, zl0, zl1, zl2, zl3, zl4, zl5]
      refine wpAnyZ_two (i := 21) (k := 24) (by kernel_rfl) rfl rfl (fun K' hK => ?_) (fun K' hK => ?_)
      · go_simp
        refine (spAmps_any nm l _ (by omega) (by omega)).mono ?_
        rintro e W2 ⟨rfl, hb⟩
        rw [← HQ.out]
        refine hK.out _ _ ?_ (fun hHeld' => ?_)
        · exact hHeld.trans (hb.mono hHeld.size)
        clear hK K'
        clear hHeld hb
        have hHeld := hHeld'
        clear hHeld'
        try simp only [Act.put, zl0, zl1, zl2, zl3, zl4, zl5]
        refine zt (i := 22) (v := .int .i64 mq) [] (fun w' hSw => ?_) hHeld ?_
        · have hx := HPQ.out.2.1
          clear hHeld hSw
          go_simp
          first | done | exact congrArg _ hx | (simp [hx])
        simp only [Act.put, zl0, zl1, zl2, zl3, zl4, zl5]
        refine zt (i := 23) (v := .int .i64 more) [] (fun w' hSw => ?_) hHeld ?_
        · clear hHeld hSw
          go_simp
          first | done | exact wmore
        simp only [Act.put, zl0, zl1, zl2, zl3, zl4, zl5]
        refine zo 24 (fun K' hK => ?_)
        go_simp
        refine hK.out _ _ ?_ (fun hHeld' => ?_)
        · exact hHeld.alloc hHeld.size _
        clear hK K'
        have GG0 := hHeld.size
        clear hHeld
        have hHeld := hHeld'
        clear hHeld'
        try simp only [Act.put, zl0, zl1, zl2, zl3, zl4, zl5]
        obtain ⟨WA, X, OG, GG, HWA⟩ : ∃ WA X, Hid (Own WA X 3 1 (fun _ => .int .i64 0)) ∧ W0.heap.size ≤ X ∧ Hid (WA = W2.alloc (.cells #[.int .i64 0] 3) ∧ X = W2.heap.size) := ⟨_, _, Lib.hid (Own.oneT _), GG0, Lib.hid ⟨rfl, rfl⟩⟩
        rw [← HWA.out.1] at hHeld ⊢
        rw [← HWA.out.2]
        clear GG0 HWA
        refine zo 25 (fun K' hK => ?_)
        have og := OG.out.cell (i := 0) (by omega)
        have of := OG.out.frozen 0
        go_simp
        refine hK.out _ _ ?_ (fun hHeld' => ?_)
        · exact hHeld.setCell (p := ⟨X, 0, none⟩) GG _
        have OG3 := Lib.hid ((OG.out.set 0 (.int .i64 more)).congr (f' := fun _ => .int .i64 more) (fun j hj => by rw [if_pos (by omega)]))
        clear hK K' hHeld og of OG
        have hHeld := hHeld'
        clear hHeld'
        try simp only [Act.put, zl0, zl1, zl2, zl3, zl4, zl5]
        refine wpAnyZ_done (by kernel_rfl) ?_ _
        go_wp2_with fail
        go_meet
        exact ⟨X, rfl, Lib.hid (Nat.le_trans HB.out.size GG), OG3, Lib.hid hHeld⟩
      · go_simp
        refine hK.out _ _ ?_ (fun hHeld' => ?_)
        · exact hHeld.alloc hHeld.size _
        clear hK K'
        have GG0 := hHeld.size
        clear hHeld
        have hHeld := hHeld'
        clear hHeld'
        try simp only [Act.put, zl0, zl1, zl2, zl3, zl4, zl5]
        obtain ⟨WA, X, OG, GG, HWA⟩ : ∃ WA X, Hid (Own WA X 3 1 (fun _ => .int .i64 0)) ∧ W0.heap.size ≤ X ∧ Hid (WA = W1.alloc (.cells #[.int .i64 0] 3) ∧ X = W1.heap.size) := ⟨_, _, Lib.hid (Own.oneT _), GG0, Lib.hid ⟨rfl, rfl⟩⟩
        rw [← HWA.out.1] at hHeld ⊢
        rw [← HWA.out.2]
        clear GG0 HWA
        refine zo 21 (fun K' hK => ?_)
        go_simp
        refine (spAmps_any nm l _ (by omega) (by omega)).mono ?_
        rintro e W2 ⟨rfl, hb⟩
        rw [← HQ.out]
        refine hK.out _ _ ?_ (fun hHeld' => ?_)
        · exact hHeld.trans (hb.mono hHeld.size)
        clear hK K'
        have OG := Lib.hid (OG.out.keep hb OG.out.lt)
        clear hHeld hb
        have hHeld := hHeld'
        clear hHeld'
        try simp only [Act.put, zl0, zl1, zl2, zl3, zl4, zl5]
        refine zt (i := 22) (v := .int .i64 mq) [] (fun w' hSw => ?_) hHeld ?_
        · have hx := HPQ.out.2.1
          clear hHeld hSw
          go_simp
          first | done | exact congrArg _ hx | (simp [hx])
        simp only [Act.put, zl0, zl1, zl2, zl3, zl4, zl5]
        refine zt (i := 23) (v := .int .i64 more) [] (fun w' hSw => ?_) hHeld ?_
        · clear hHeld hSw
          go_simp
          first | done | exact wmore
        simp only [Act.put, zl0, zl1, zl2, zl3, zl4, zl5]
        refine zo 25 (fun K' hK => ?_)
        have og := OG.out.cell (i := 0) (by omega)
        have of := OG.out.frozen 0
        go_simp
        refine hK.out _ _ ?_ (fun hHeld' => ?_)
        · exact hHeld.setCell (p := ⟨X, 0, none⟩) GG _
        have OG3 := Lib.hid ((OG.out.set 0 (.int .i64 more)).congr (f' := fun _ => .int .i64 more) (fun j hj => by rw [if_pos (by omega)]))
        clear hK K' hHeld og of OG
        have hHeld := hHeld'
        clear hHeld'
        try simp only [Act.put, zl0, zl1, zl2, zl3, zl4, zl5]
        refine wpAnyZ_done (by kernel_rfl) ?_ _
        go_wp2_with fail
        go_meet
        exact ⟨X, rfl, Lib.hid (Nat.le_trans HB.out.size GG), OG3, Lib.hid hHeld⟩
    · go_simp
      refine hK.out _ _ ?_ (fun hHeld' => ?_)
      · exact hHeld.alloc hHeld.size _
      clear hK K'
      have GG0 := hHeld.size
      clear hHeld
      have hHeld := hHeld'
      clear hHeld'
      try simp only [Act.put, zl0, zl1, zl2, zl3, zl4, zl5]
      obtain ⟨WA, X, OG, GG, HWA⟩ : ∃ WA X, Hid (Own WA X 3 1 (fun _ => .int .i64 0)) ∧ W0.heap.size ≤ X ∧ Hid (WA = wd.alloc (.cells #[.int .i64 0] 3) ∧ X = wd.heap.size) := ⟨_, _, Lib.hid (Own.oneT _), GG0, Lib.hid ⟨rfl, rfl⟩⟩
      rw [← HWA.out.1] at hHeld ⊢
      rw [← HWA.out.2]
      clear GG0 HWA
      refine zo 9 (fun K' hK => ?_)
      go_simp
      refine (spAmps_any nm (l + 1) _ (by omega) (by omega)).mono ?_
      rintro e W1 ⟨rfl, hb⟩
      rw [← HP.out]
      refine hK.out _ _ ?_ (fun hHeld' => ?_)
      · exact hHeld.trans (hb.mono hHeld.size)
      clear hK K'
      have OG := Lib.hid (OG.out.keep hb OG.out.lt)
      clear hHeld hb
      have hHeld := hHeld'
      clear hHeld'
      try simp only [Act.put, zl0, zl1, zl2, zl3, zl4, zl5]
      refine zt (i := 10) (v := .int .i64 mp) [] (fun w' hSw => ?_) hHeld ?_
      · have hx := HPQ.out.1
        clear hHeld hSw
        go_simp
        first | done | exact congrArg _ hx | (simp [hx])
      simp only [Act.put, zl0, zl1, zl2, zl3, zl4, zl5]
      refine zo 21 (fun K' hK => ?_)
      go_simp
      refine (spAmps_any nm l _ (by omega) (by omega)).mono ?_
      rintro e W2 ⟨rfl, hb⟩
      rw [← HQ.out]
      refine hK.out _ _ ?_ (fun hHeld' => ?_)
      · exact hHeld.trans (hb.mono hHeld.size)
      clear hK K'
      have OG := Lib.hid (OG.out.keep hb OG.out.lt)
      clear hHeld hb
      have hHeld := hHeld'
      clear hHeld'
      try simp only [Act.put, zl0, zl1, zl2, zl3, zl4, zl5]
      refine zt (i := 22) (v := .int .i64 mq) [] (fun w' hSw => ?_) hHeld ?_
      · have hx := HPQ.out.2.1
        clear hHeld hSw
        go_simp
        first | done | exact congrArg _ hx | (simp [hx])
      simp only [Act.put, zl0, zl1, zl2, zl3, zl4, zl5]
      refine zt (i := 23) (v := .int .i64 more) [] (fun w' hSw => ?_) hHeld ?_
      · clear hHeld hSw
        go_simp
        first | done | exact wmore
      simp only [Act.put, zl0, zl1, zl2, zl3, zl4, zl5]
      refine zo 25 (fun K' hK => ?_)
      have og := OG.out.cell (i := 0) (by omega)
      have of := OG.out.frozen 0
      go_simp
      refine hK.out _ _ ?_ (fun hHeld' => ?_)
      · exact hHeld.setCell (p := ⟨X, 0, none⟩) GG _
      have OG3 := Lib.hid ((OG.out.set 0 (.int .i64 more)).congr (f' := fun _ => .int .i64 more) (fun j hj => by rw [if_pos (by omega)]))
      clear hK K' hHeld og of OG
      have hHeld := hHeld'
      clear hHeld'
      try simp only [Act.put, zl0, zl1, zl2, zl3, zl4, zl5]
      refine wpAnyZ_done (by kernel_rfl) ?_ _
      go_wp2_with fail
      go_meet
      exact ⟨X, rfl, Lib.hid (Nat.le_trans HB.out.size GG), OG3, Lib.hid hHeld⟩
  case rest =>
    obtain ⟨X, rfl, HXW, HX, HBX⟩ := hcut
    have HB1 := Lib.hid (below_then HB.out HBX.out)
    have hb0 : wc.cell? ⟨B, 0, none⟩ = some (.pointer (some ⟨T, 0, none⟩)) := (HBX.out.cell (zb d0)).trans d0
    have hx0 : wc.cell? ⟨X, 0, none⟩ = some (.int .i64 more) := HX.out.cell (by omega)
    have hs0' : wc.cell? ⟨S, 0, none⟩ = some (.int .i64 s) := ((HS.out.keep HB1.out HS.out.lt).cell (i := 0) (by omega))
    have HBC := Lib.hid hb0
    have t5 : wc.cell? ⟨T, 5, none⟩ = some (.slice (some ⟨bR, oR, none⟩) (0 + 1) cR) := (RC.out.keep HB1.out).t5
    have t6 : wc.cell? ⟨T, 6 + i, none⟩ = some (.slice (some ⟨O, 0, none⟩) 1 cO) := (RC.out.keep HB1.out).t6
    have t22 : wc.cell? ⟨T, 22, none⟩ = some (.slice (some ⟨S, 0, none⟩) (0 + 1) (0 + 1)) := (RC.out.keep HB1.out).t22
    have r0 : wc.cell? ⟨bR, oR, none⟩ = some (.int .i64 cap) := (RC.out.keep HB1.out).r0
    have o0 : wc.cell? ⟨O, 0, none⟩ = some (.int .i64 0) := (RC.out.keep HB1.out).o0
    have lO : O < wc.heap.size := World.block_lt_of_cell? wc _ o0
    have lT : T < wc.heap.size := World.block_lt_of_cell? wc _ t5
    have lbR : bR < wc.heap.size := World.block_lt_of_cell? wc _ r0
    have HEV := Lib.hid (spEvery_one O cO B X T S bR oR 0 cR more s cap wc o0 hb0 hx0 t5 t22 hs0' r0 (by omega) (by omega))
    clear d0 e0 e1 e2 e3 e4 e5 e6 e7 hx0 hs0' t5 t22 r0 o0 lbR lO
    have lB : B < wc.heap.size := zb hb0
    have lTz : T < wc.heap.size := lT
    obtain ⟨d, hd⟩ : ∃ d, d = decide (s + more ≤ cap) := ⟨_, rfl⟩
    rw [← hd] at HEV
    have HD := Lib.hid hd
    clear hd
    have hi16 : (i : Int) < 16 := by omega
    have hi16n : i < 16 := by omega
    go_wp2_with fail
    refine HEV.out.mono ?_
    rintro e w5 ⟨rfl, hb5⟩
    have HB5 := Lib.hid (below_then HB1.out hb5)
    have hb05 : w5.cell? ⟨B, 0, none⟩ = some (.pointer (some ⟨T, 0, none⟩)) := (hb5.cell lB).trans hb0
    have HX5 := Lib.hid (HX.out.keep hb5 HX.out.lt)
    clear hb0 t6 lT lB lTz HX hb5 HEV HBX HB1 HBC
    have lB5 : B < w5.heap.size := zb hb05
    have t6 : w5.cell? ⟨T, 6 + i, none⟩ = some (.slice (some ⟨O, 0, none⟩) 1 cO) := (RC.out.keep HB5.out).t6
    have lT : T < w5.heap.size := World.block_lt_of_cell? w5 _ t6
    cases d
    · have HNO : Hid (¬ s + more ≤ cap) := Lib.hid (by have := HD.out; simpa using this.symm)
      go_wp2_with fail
      go_ret
      exact ⟨false, s, lv, rfl, HS.out.keep HB5.out HS.out.lt, HL.out.keep HB5.out HL.out.lt, (Mod.of_below HB5.out).mono (fun k hk hm => by omega), .inr ⟨rfl, rfl, rfl⟩⟩
    have HYES : Hid (s + more ≤ cap) := Lib.hid (by have := HD.out; simpa using this.symm)
    have HM5 := Lib.hid ((Mod.of_below HB5.out).mono (M' := fun j => j = S) (fun k hk hm => by omega))
    have HXS := Lib.hid (show X ≠ S from fun e => by have := HS.out.lt; have := HXW.out; omega)
    have HBS := Lib.hid (show B ≠ S from fun e => by have := HS.out.lt; have := HBB.out.2; omega)
    go_wp2_with fail
    go_loopg [68] 3 (fun g1 v68 wr => ∃ k : Nat, v68 = .int .i64 k ∧ k ≤ 1 ∧ 1 - k ≤ g1 ∧ Hid (Own wr S 3 1 (fun _ => .int .i64 (if k = 0 then s else s + more))) ∧ Hid (Own wr X 3 1 (fun _ => .int .i64 more)) ∧ wr.cell? ⟨B, 0, none⟩ = some (.pointer (some ⟨T, 0, none⟩)) ∧ Hid (Mod (fun j => j = S) w wr))
    case atStart => exact ⟨0, by go_num, by omega, by omega, Lib.hid ((HS.out.keep HB5.out HS.out.lt).congr (fun j hj => by rw [if_pos rfl])), HX5, hb05, HM5⟩
    case round =>
      obtain ⟨k, rfl, hk1, hg1, HSr, HXr, hbr, HMr⟩ := hrel
      have RCr := Lib.hid (RC.out.mod HMr.out HNE.out.1.1 HNE.out.2.1.1 HNE.out.2.2.1.1 HNE.out.2.2.2.1.1 HNE.out.2.2.2.2.1.1)
      by_cases hk0 : k = 0
      · subst hk0
        have t22 := RCr.out.t22
        have o0 := RCr.out.o0
        have s0 : wr.cell? ⟨S, 0, none⟩ = some (.int .i64 s) := HSr.out.cell (i := 0) (by omega)
        have sf := HSr.out.frozen 0
        have x0 : wr.cell? ⟨X, 0, none⟩ = some (.int .i64 more) := HXr.out.cell (i := 0) (by omega)
        have lB := zb hbr
        have lX := zb x0
        have lS := zb s0
        have lT := zb t22
        have lO := zb o0
        dsimp only at lB lX lS lT lO
        have wsm : IntKind.i64.wrap (s + more) = s + more := IntWalk.i64_in _ (by omega)
        have HSn : Hid (Own (wr.setCell ⟨S, 0, none⟩ (.int .i64 (s + more))) S 3 1 (fun _ => .int .i64 (s + more))) := Lib.hid ((HSr.out.set 0 _).congr (fun j hj => by rw [if_pos (by omega)]))
        have hm1 : Mod (fun j => j = S) wr (wr.setCell ⟨S, 0, none⟩ (.int .i64 (s + more))) := (Mod.refl (fun j => j = S) wr).setCell (p := ⟨S, 0, none⟩) (.inl rfl) _
        have HMn := Lib.hid (HMr.out.trans hm1)
        have HXn := Lib.hid (HXr.out.mod hm1 HXS.out)
        have hbn := Lib.hid ((hm1.cell lB HBS.out).trans hbr)
        clear hm1 HSr HXr HMr RCr
        go_wp2_with fail
        go_still_tail 10, (by kernel_rfl)
        change wpList _ _ _ _ _ wr.drew
        go_wp2_with fail
        clear t22 o0 s0 sf x0 lB lX lS lT lO hbr
        go_roundg 0
        case measure => omega
        case rel => exact ⟨1, by go_num, by omega, by omega, Lib.hid HSn.out.drew, Lib.hid HXn.out.drew, hbn.out, Lib.hid HMn.out.drew⟩
      · have hk1' : k = 1 := by omega
        subst hk1'
        have t24 := RCr.out.t24
        have HLr := Lib.hid (HL.out.mod HMr.out (fun e => HNE.out.2.2.2.2.2 e.symm))
        have l0 : wr.cell? ⟨L, i, none⟩ = some (.int .i64 l) := by rw [HLr.out.cell hi]; exact congrArg some (by rw [HLL.out]; rfl)
        have lf := HLr.out.frozen i
        have lB := zb hbr
        have lL := zb l0
        have lT := zb t24
        dsimp only at lB lL lT
        have HLn : Hid (Own (wr.setCell ⟨L, i, none⟩ (.int .i64 (l + 1))) L 3 n (lvF (setF lv i (lv i + 1)))) := Lib.hid ((HLr.out.set i _).congr (fun j hj => by
          unfold lvF setF
          split
          · rw [HLL.out]
          · rfl))
        have hm1 : Mod (fun j => j = S ∨ j = L) wr (wr.setCell ⟨L, i, none⟩ (.int .i64 (l + 1))) := (Mod.refl _ wr).setCell (p := ⟨L, i, none⟩) (.inl (.inr rfl)) _
        have hm2 : Mod (fun j => j = L) wr (wr.setCell ⟨L, i, none⟩ (.int .i64 (l + 1))) := (Mod.refl (fun j => j = L) wr).setCell (p := ⟨L, i, none⟩) (.inl rfl) _
        have HMn := Lib.hid ((HMr.out.mono (fun k hk h => .inl h)).trans hm1)
        have HSn := Lib.hid ((HSr.out.mod hm2 HNE.out.2.2.2.2.2).congr (f' := fun _ => .int .i64 (s + more)) (fun j hj => by rw [if_neg (by omega)]))
        clear hm1 hm2 HSr HXr HMr RCr HLr
        go_wp2_with fail
        go_ret
        have hmr := HPQ.out.2.2
        rw [HLL.out] at hmr
        refine ⟨true, s + more, _, rfl, HSn.out, HLn.out, HMn.out, .inl ⟨rfl, ?_, ?_, rfl⟩⟩
        · rw [← hmr]; exact HYES.out
        · rw [← hmr]
end Go.Proofs.YtkbbapefgifagaaGreatDoor
