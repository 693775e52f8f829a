/-
ProofLeast, walked.
-/
import Derived.Test.YtbjmpfchapggfaaCPrLa
namespace Go.Proofs.Ytbjmpfchapggfaa
open Go.RowKit
set_option linter.unusedVariables false
set_option linter.unusedSimpArgs false
theorem enc3_one (c : R3) (u : Value) (h : u ∈ enc3 c) : u.oneCell' = true := by
  simp [enc3] at h
  rcases h with rfl | rfl | rfl <;> rfl
theorem own_litR0 (w : World) : OwnR 55 3 enc3 (w.alloc (.cells #[] 55)) w.heap.size (.slice (some ⟨w.heap.size, 0, none⟩) 0 0) ([] : List R3) :=
  ⟨by simp, .inr ⟨w.heap.size, 0, #[], rfl, Nat.le_refl _, heap_alloc_new w _, Nat.le_refl _, by unfold maxLen; omega, rfl, by simp⟩⟩
theorem app_rows3 {w : World} {base : Nat} {v : Value} {xs ys : List R3} {A : Option Addr} {m c : Nat} (h : OwnR 55 3 enc3 w base v xs) (hy : Rd 3 enc3 w A ys) (hym : ys.length = m) (hb : base ≤ w.heap.size) (hl : xs.length + m ≤ 1000) :
    Appends Try.prog w 30 30 v (.slice A m c) ∧ ∃ v' w1, appV Try.prog w 30 30 v (.slice A m c) = v' ∧ appW Try.prog w 30 30 v (.slice A m c) = w1 ∧ Hid (OwnR 55 3 enc3 w1 base v' (xs ++ ys)) ∧ Hid (Aside base v v' w w1) :=
  app_argR row3Info Try.underlying30 rfl (by omega) (fun _ => rfl) enc3_one h hy hym hb (by unfold maxLen; omega) (Nat.le_trans (Nat.mul_le_mul hl (Nat.le_refl 24)) (by omega))
/-- The loads, one of them made less. -/
def subL (s : GSite) (xs : List Int) (k p : Nat) (b : Int) (j : Nat) : Int := loadS s (fI xs) s.chgs.length j - (if j = k * 3 + p then b else 0)
def subR (s : GSite) (xs : List Int) (k p : Nat) (b : Int) : List R3 := (List.range s.cons.length).map (row3 (subL s xs k p b))
theorem subR_no {s : GSite} {xs : List Int} {k p : Nat} (hk : k < s.cons.length) (hp : p < 3) {b : Int} (hb : 0 < b) : prB s xs (subR s xs k p b) = false := by
  refine prB_least hk hp hb (by unfold subR; simp) (fun d q hd hq => ?_)
  unfold subR
  rw [F3_of hd hq]
  unfold subL
  by_cases e : d = k ∧ q = p
  · obtain ⟨rfl, rfl⟩ := e
    rw [if_pos rfl, if_pos ⟨rfl, rfl⟩]
  · rw [if_neg e, if_neg (fun h => e ⟨by omega, by omega⟩)]
theorem loads_cell {s : GSite} {xs : List Int} {F : Nat → Value} (hF : ∀ k (x : R3) j u, (loadsOf s xs)[k]? = some x → (enc3 x)[j]? = some u → F (k * 3 + j) = u) {k p : Nat} (hk : k < s.cons.length) (hp : p < 3) : F (k * 3 + p) = .int .i64 (loadS s (fI xs) s.chgs.length (k * 3 + p)) := by
  refine hF k _ p _ (loadsOf_at hk) ?_
  match p, hp with
  | 0, _ => rfl
  | 1, _ => rfl
  | 2, _ => rfl
theorem subR_rd {W : World} {g cap : Nat} {F : Nat → Value} {s : GSite} {xs : List Int} {k p : Nat} {b : Int} (ho : Own W g 55 (cap * 3) F) (hc : s.cons.length ≤ cap) (hF : ∀ k (x : R3) j u, (loadsOf s xs)[k]? = some x → (enc3 x)[j]? = some u → F (k * 3 + j) = u) (hk : k < s.cons.length) (hp : p < 3) : Rd 3 enc3 (W.setCell ⟨g, k * 3 + p, none⟩ (.int .i64 (loadS s (fI xs) s.chgs.length (k * 3 + p) - b))) (some ⟨g, 0, none⟩) (subR s xs k p b) := by
  refine (ho.set (k * 3 + p) _).rd (by unfold subR; simp; omega) (fun _ => rfl) (fun i x hx j v hv => ?_)
  have hi : i < s.cons.length := by have := (List.getElem?_eq_some_iff.1 hx).1; unfold subR at this; simpa using this
  have hj : j < 3 := (List.getElem?_eq_some_iff.1 hv).1
  unfold subR at hx
  rw [List.getElem?_map, List.getElem?_range hi] at hx
  injection hx with hx
  subst hx
  have h1 := loads_cell hF hi hj
  have hv' : v = .int .i64 (subL s xs k p b (i * 3 + j)) := by
    match j, hj, hv with
    | 0, _, hv => injection hv with hv; exact hv.symm
    | 1, _, hv => injection hv with hv; exact hv.symm
    | 2, _, hv => injection hv with hv; exact hv.symm
  rw [hv']
  unfold subL
  by_cases e : i * 3 + j = k * 3 + p
  · rw [if_pos e, if_pos e, e]
  · rw [if_neg e, if_neg e, Int.sub_zero]
    exact h1
set_option maxRecDepth 100000 in
set_option maxHeartbeats 16000000 in
theorem walk_ProofLeast (a1 : Option Addr) (n1 c1 : Nat) (a2 : Option Addr) (n2 c2 : Nat) (a3 : Option Addr) (n3 c3 : Nat) (a4 : Option Addr) (n4 c4 : Nat) (a5 : Option Addr) (n5 c5 : Nat) (s : GSite) {w : World} (HS : Hid (RdSite w a1 a2 a3 a4 a5 n1 n2 n3 n4 n5 s)) (_ : WfSite s) (aA : Option Addr) (cA nA : Nat) (xs : List Int) (hX : Rd 1 encI w aA xs) (HNA : Hid (xs.length = nA)) (hnA : nA ≤ 9223372036854775807) (_ : ∀ x, x ∈ xs → wfI64 x) (wh : Int) (hwh : (Lit.int .u8 wh).wf = true) (fz : Int) (hfz : (Lit.int .u8 fz).wf = true) (by_ : Int) (hby_ : (Lit.int .u8 by_).wf = true) :
    Calls Try.prog 7 #[.agg #[.slice a1 n1 c1, .slice a2 n2 c2, .slice a3 n3 c3, .slice a4 n4 c4, .slice a5 n5 c5], .slice aA nA cA, .int .u8 wh, .int .u8 fz, .int .u8 by_] w fun e w' => e = .returned (.bool true) ∧ Below w.heap.size w w' := by
  have HX := Lib.hid hX
  have HBY : Hid (0 ≤ by_ ∧ by_ ≤ 255) := Lib.hid (u8_bd hby_)
  have HWH : Hid (0 ≤ wh ∧ wh ≤ 255) := Lib.hid (u8_bd hwh)
  have HFZ : Hid (0 ≤ fz ∧ fz ≤ 255) := Lib.hid (u8_bd hfz)
  clear hX hby_ hwh hfz
  obtain ⟨W0, hW0⟩ : ∃ W0, W0 = w.alloc (.cells #[.slice a1 n1 c1, .slice a2 n2 c2, .slice a3 n3 c3, .slice a4 n4 c4, .slice a5 n5 c5] 28) := ⟨_, rfl⟩
  have hm0 : LwM w W0 w.heap.size a1 n1 c1 a2 n2 c2 a3 n3 c3 a4 n4 c4 a5 n5 c5 s := by
    rw [hW0]
    exact (LwM.box (c1 := c1) (c2 := c2) (c3 := c3) (c4 := c4) (c5 := c5) HS.out)
  have HM := Lib.hid hm0
  have HW0 := Lib.hid hW0
  clear hm0 hW0
  go_enter Try.func7, Try.ntmps7
  go_wp2_with fail
  rw [← HW0.out]
  clear HW0
  obtain ⟨X, hX0⟩ : ∃ X, X = w.heap.size := ⟨_, rfl⟩
  rw [← hX0] at HM ⊢
  have HSZ : Hid (w.heap.size = X) := Lib.hid hX0.symm
  clear hX0
  refine (ltenHead_any W0).mono ?_
  rintro e w1 ⟨rfl, hb⟩
  have HM := Lib.hid (HM.out.keep (hb))
  obtain ⟨k0, k1, k2, k3, k4⟩ : w1.cell? ⟨X, 0, none⟩ = some (.slice a1 n1 c1) ∧ w1.cell? ⟨X, 1, none⟩ = some (.slice a2 n2 c2) ∧ w1.cell? ⟨X, 2, none⟩ = some (.slice a3 n3 c3) ∧ w1.cell? ⟨X, 3, none⟩ = some (.slice a4 n4 c4) ∧ w1.cell? ⟨X, 4, none⟩ = some (.slice a5 n5 c5) := ⟨HM.out.k0, HM.out.k1, HM.out.k2, HM.out.k3, HM.out.k4⟩
  have hlX : X < w1.heap.size := World.block_lt_of_cell? w1 _ k0
  clear hb
  go_wp2_with fail
  obtain ⟨W2, hW2⟩ : ∃ W2, W2 = w1.alloc (.cells #[.slice aA nA cA] 29) := ⟨_, rfl⟩
  have hb : Below w1.heap.size w1 W2 := by rw [hW2]; exact (Below.refl _ _).alloc (Nat.le_refl _) _
  have kl : W2.cell? ⟨w1.heap.size, 0, none⟩ = some (.slice aA nA cA) := by rw [hW2]; go_simp
  rw [← hW2]
  clear hW2
  have HM := Lib.hid (HM.out.keep (hb))
  clear k0 k1 k2 k3 k4 hlX
  obtain ⟨k0, k1, k2, k3, k4⟩ : W2.cell? ⟨X, 0, none⟩ = some (.slice a1 n1 c1) ∧ W2.cell? ⟨X, 1, none⟩ = some (.slice a2 n2 c2) ∧ W2.cell? ⟨X, 2, none⟩ = some (.slice a3 n3 c3) ∧ W2.cell? ⟨X, 3, none⟩ = some (.slice a4 n4 c4) ∧ W2.cell? ⟨X, 4, none⟩ = some (.slice a5 n5 c5) := ⟨HM.out.k0, HM.out.k1, HM.out.k2, HM.out.k3, HM.out.k4⟩
  have hlX : X < W2.heap.size := World.block_lt_of_cell? W2 _ k0
  clear hb
  refine (ltenFew_any a1 a2 a3 a4 a5 n1 c1 n2 c2 n3 c3 n4 c4 n5 c5 s none 0 0 w1.heap.size aA nA cA W2 (Lib.hid HM.out.rs) kl (by omega) (by omega)).mono ?_
  rintro e w3 ⟨rfl, hb⟩
  have HM := Lib.hid (HM.out.keep (hb))
  clear k0 k1 k2 k3 k4 hlX
  obtain ⟨k0, k1, k2, k3, k4⟩ : w3.cell? ⟨X, 0, none⟩ = some (.slice a1 n1 c1) ∧ w3.cell? ⟨X, 1, none⟩ = some (.slice a2 n2 c2) ∧ w3.cell? ⟨X, 2, none⟩ = some (.slice a3 n3 c3) ∧ w3.cell? ⟨X, 3, none⟩ = some (.slice a4 n4 c4) ∧ w3.cell? ⟨X, 4, none⟩ = some (.slice a5 n5 c5) := ⟨HM.out.k0, HM.out.k1, HM.out.k2, HM.out.k3, HM.out.k4⟩
  have hlX : X < w3.heap.size := World.block_lt_of_cell? w3 _ k0
  obtain ⟨q, hq⟩ : ∃ q, q = (decide (nA ≤ 40) && (fewS s && decide (0 ≤ 40))) := ⟨_, rfl⟩
  rw [← hq]
  have HQ := Lib.hid hq
  clear hb hq kl
  cases q
  · go_wp2_with fail
    go_ret
    exact ⟨rfl, HM.out.bel⟩
  have HQ2 : Hid (nA ≤ 40 ∧ 0 ≤ 40) := Lib.hid (by
    have h := HQ.out.symm
    simp only [Bool.and_eq_true, decide_eq_true_eq] at h
    exact ⟨h.1, h.2.2⟩)
  clear HQ
  by_cases hz : by_ = 0
  · have hz1 : (by_ == 0) = true := by simp [hz]
    clear hz
    go_wp2_with fail
    go_ret
    exact ⟨rfl, HM.out.bel⟩
  have hz1 : (by_ == 0) = false := by simpa using hz
  have HBZ : Hid (0 < by_) := Lib.hid (by have := HBY.out; omega)
  clear hz
  go_wp2_with fail
  refine (prProve_any a1 a2 a3 a4 a5 n1 c1 n2 c2 n3 c3 n4 c4 n5 c5 aA nA cA s xs w3 (Lib.hid HM.out.rs) (Lib.hid (HX.out.keep HM.out.bel)) HNA (by omega)).mono ?_
  rintro e w4 ⟨ap, np, cp, aw, nw, cw, qs, ws, er, rfl, hp, hpl, hw, hwl, hR, hb⟩
  have HM := Lib.hid (HM.out.keep (hb))
  clear k0 k1 k2 k3 k4 hlX
  obtain ⟨k0, k1, k2, k3, k4⟩ : w4.cell? ⟨X, 0, none⟩ = some (.slice a1 n1 c1) ∧ w4.cell? ⟨X, 1, none⟩ = some (.slice a2 n2 c2) ∧ w4.cell? ⟨X, 2, none⟩ = some (.slice a3 n3 c3) ∧ w4.cell? ⟨X, 3, none⟩ = some (.slice a4 n4 c4) ∧ w4.cell? ⟨X, 4, none⟩ = some (.slice a5 n5 c5) := ⟨HM.out.k0, HM.out.k1, HM.out.k2, HM.out.k3, HM.out.k4⟩
  have hlX : X < w4.heap.size := World.block_lt_of_cell? w4 _ k0
  have HR := hR
  clear hb hw hwl hR hz1
  have HBA : Hid (∀ v, Below w.heap.size w (w4.alloc (.cells #[v] 32))) := Lib.hid (fun v => HM.out.bel.alloc HM.out.bel.size _)
  by_cases her : er = 0
  case neg =>
    have h1 : (er == 0) = false := by simpa using her
    have h2 : (er != 0) = true := by simpa using her
    clear her hp HR hpl
    go_wp2_with fail
    go_ret
    exact ⟨rfl, HBA.out _⟩
  subst her
  obtain ⟨HLB, HVO, rfl⟩ : Hid (loadB s xs = true) ∧ Hid (vioO s xs = none) ∧ qs = loadsOf s xs := by
    rcases HR.out with ⟨_, _, _, h⟩ | ⟨_, _, _, _, h, _⟩ | ⟨h1, h2, h3, _⟩
    · cases h
    · cases h
    · exact ⟨Lib.hid h1, Lib.hid h2, h3⟩
  have HOK : Hid (OkSite keyL s) := Lib.hid (by
    have h := HLB.out
    unfold loadB at h
    rw [Bool.and_eq_true] at h
    exact okSB_iff.1 h.1)
  have HNP : Hid (np = s.cons.length ∧ 1 ≤ np ∧ np ≤ 16) := Lib.hid (by
    have h1 := HOK.out.n1
    have h2 := HOK.out.n2
    have h3 := loadsOf_len s xs
    omega)
  have HQ := Lib.hid hp
  have HNQ := Lib.hid hpl
  clear hp hpl HR
  have hn1 := HNP.out.2
  have z1 : ((np : Int) == 0) = false := by simp; omega
  have z2 : ¬ (np : Int) = 0 := by omega
  go_upto_region 7 with (fail)
  obtain ⟨W5, hW5⟩ : ∃ W', W' = w4.alloc (.cells #[.slice ap np cp] 32) := ⟨_, rfl⟩
  have hb : Below w4.heap.size w4 W5 := by rw [hW5]; exact (Below.refl _ _).alloc (Nat.le_refl _) _
  have kq : W5.cell? ⟨w4.heap.size, 0, none⟩ = some (.slice ap np cp) := by rw [hW5]; go_simp
  try rw [← hW5]
  obtain ⟨Y, hY⟩ : ∃ Y, Y = w4.heap.size := ⟨_, rfl⟩
  try rw [← hY] at kq ⊢
  clear hY hW5
  have HM := Lib.hid (HM.out.keep (hb))
  clear k0 k1 k2 k3 k4 hlX
  obtain ⟨k0, k1, k2, k3, k4⟩ : W5.cell? ⟨X, 0, none⟩ = some (.slice a1 n1 c1) ∧ W5.cell? ⟨X, 1, none⟩ = some (.slice a2 n2 c2) ∧ W5.cell? ⟨X, 2, none⟩ = some (.slice a3 n3 c3) ∧ W5.cell? ⟨X, 3, none⟩ = some (.slice a4 n4 c4) ∧ W5.cell? ⟨X, 4, none⟩ = some (.slice a5 n5 c5) := ⟨HM.out.k0, HM.out.k1, HM.out.k2, HM.out.k3, HM.out.k4⟩
  have hlX : X < W5.heap.size := World.block_lt_of_cell? W5 _ k0
  have HQ := Lib.hid (HQ.out.keep hb)
  have hlQ : Y < W5.heap.size := World.block_lt_of_cell? _ _ kq
  clear hb
  obtain ⟨W6, hW6⟩ : ∃ W', W' = W5.alloc (.cells #[] 55) := ⟨_, rfl⟩
  have hb56 : Below W5.heap.size W5 W6 := by rw [hW6]; exact (Below.refl _ _).alloc (Nat.le_refl _) _
  have HO6 := own_litR0 W5
  rw [← hW6] at HO6
  obtain ⟨apA, v', w7, av, aw7, HO7, HA7⟩ := app_rows3 (c := cp) HO6 (HQ.out.keep hb56) HNQ.out hb56.size (by have h := HNP.out.2; clear hlX hlQ; show 0 + np ≤ 1000; omega)
  rw [List.nil_append] at HO7
  have hb57 : Below W5.heap.size W5 w7 := hb56.trans HA7.out.bel
  obtain ⟨g, cap, F, hv', hg, hcap1, hcap2, hO, hF⟩ := OwnR.open_ (enc := enc3) (sz := 3) (fun _ => rfl) HO7.out (by rw [HNQ.out]; omega)
  rw [HNQ.out] at hv' hcap1
  subst hv'
  have HXG : Hid (X < g ∧ Y < g ∧ w.heap.size ≤ X) := Lib.hid ⟨by omega, by omega, by have := HSZ.out; omega⟩
  have HAG : Hid (∀ a, ap = some a → a.block < g) := Lib.hid (fun a ha => Nat.lt_of_lt_of_le (rd_lt HQ.out (by rw [HNQ.out]; omega) a ha) hg)
  have HOG := Lib.hid hO
  have HF := Lib.hid hF
  have HG : Hid (W5.heap.size ≤ g) := Lib.hid hg
  rw [hW6] at apA av aw7
  have HM := Lib.hid (HM.out.keep (hb57))
  clear k0 k1 k2 k3 k4
  obtain ⟨k0, k1, k2, k3, k4⟩ : w7.cell? ⟨X, 0, none⟩ = some (.slice a1 n1 c1) ∧ w7.cell? ⟨X, 1, none⟩ = some (.slice a2 n2 c2) ∧ w7.cell? ⟨X, 2, none⟩ = some (.slice a3 n3 c3) ∧ w7.cell? ⟨X, 3, none⟩ = some (.slice a4 n4 c4) ∧ w7.cell? ⟨X, 4, none⟩ = some (.slice a5 n5 c5) := ⟨HM.out.k0, HM.out.k1, HM.out.k2, HM.out.k3, HM.out.k4⟩
  have hlX : X < w7.heap.size := World.block_lt_of_cell? w7 _ k0
  have HQ := Lib.hid (HQ.out.keep hb57)
  have kq := (hb57.cell (p := ⟨Y, 0, none⟩) (World.block_lt_of_cell? _ _ kq)).trans kq
  have hlQ : Y < w7.heap.size := World.block_lt_of_cell? _ _ kq
  clear hb56 hb57 HO6 hW6 HO7 HA7 hO hF hg
  go_upto_region 8 with (fail)
  obtain ⟨W8, hW8⟩ : ∃ W', W' = w7.alloc (.cells #[.slice (some ⟨g, 0, none⟩) np cap] 32) := ⟨_, rfl⟩
  have hb : Below w7.heap.size w7 W8 := by rw [hW8]; exact (Below.refl _ _).alloc (Nat.le_refl _) _
  have kz : W8.cell? ⟨w7.heap.size, 0, none⟩ = some (.slice (some ⟨g, 0, none⟩) np cap) := by rw [hW8]; go_simp
  try rw [← hW8]
  have hgw := HOG.out.lt
  obtain ⟨Z, hZ⟩ : ∃ Z, Z = w7.heap.size := ⟨_, rfl⟩
  have HZG : Hid (Z ≠ g) := Lib.hid (by omega)
  try rw [← hZ] at kz ⊢
  clear hZ hW8 hgw apA av aw7
  have HM := Lib.hid (HM.out.keep (hb))
  clear k0 k1 k2 k3 k4 hlX
  obtain ⟨k0, k1, k2, k3, k4⟩ : W8.cell? ⟨X, 0, none⟩ = some (.slice a1 n1 c1) ∧ W8.cell? ⟨X, 1, none⟩ = some (.slice a2 n2 c2) ∧ W8.cell? ⟨X, 2, none⟩ = some (.slice a3 n3 c3) ∧ W8.cell? ⟨X, 3, none⟩ = some (.slice a4 n4 c4) ∧ W8.cell? ⟨X, 4, none⟩ = some (.slice a5 n5 c5) := ⟨HM.out.k0, HM.out.k1, HM.out.k2, HM.out.k3, HM.out.k4⟩
  have hlX : X < W8.heap.size := World.block_lt_of_cell? W8 _ k0
  have HQ := Lib.hid (HQ.out.keep hb)
  have kq := (hb.cell (p := ⟨Y, 0, none⟩) (World.block_lt_of_cell? _ _ kq)).trans kq
  have HOG := Lib.hid (HOG.out.keep hb HOG.out.lt)
  clear hb hlQ
  obtain ⟨k, hk⟩ : ∃ k : Nat, wh.tmod (np : Int) = (k : Int) ∧ k < np := by
    have h1 := HWH.out
    have h3 := Int.emod_nonneg wh (show (np : Int) ≠ 0 by omega)
    have h4 := Int.emod_lt_of_pos wh (show 0 < (np : Int) by omega)
    refine ⟨(wh % (np : Int)).toNat, ?_, by omega⟩
    rw [Int.tmod_eq_emod_of_nonneg h1.1]
    omega
  obtain ⟨p, hp⟩ : ∃ p : Nat, fz.tmod 3 = (p : Int) ∧ p < 3 := by
    have h1 := HFZ.out
    refine ⟨(fz % 3).toNat, ?_, by omega⟩
    rw [Int.tmod_eq_emod_of_nonneg h1.1]
    omega
  obtain ⟨hk1, hk2⟩ := hk
  obtain ⟨hp1, hp2⟩ := hp
  have HKP : Hid (k < s.cons.length ∧ p < 3) := Lib.hid ⟨by have := HNP.out.1; omega, hp2⟩
  have hcell : W8.cell? ⟨g, k * 3 + p, none⟩ = some (.int .i64 (loadS s (fI xs) s.chgs.length (k * 3 + p))) := by
    rw [HOG.out.cell (i := k * 3 + p) (by omega), loads_cell HF.out HKP.out.1 HKP.out.2]
  have HFG : Hid (W8.frozen? ⟨g, k * 3 + p, none⟩ = false) := Lib.hid (HOG.out.frozen _)
  have hlb := loadS_bd (s := s) (am := fI xs) (m := s.chgs.length) (fun c _ => (cur_bd HLB.out).2 c) (k * 3 + p)
  have hn5 := HOK.out.n5
  have HRD : Hid (Rd 3 enc3 (W8.setCell ⟨g, k * 3 + p, none⟩ (.int .i64 (loadS s (fI xs) s.chgs.length (k * 3 + p) - by_))).drew (some ⟨g, 0, none⟩) (subR s xs k p by_)) := Lib.hid (subR_rd HOG.out (by have := HNP.out.1; omega) HF.out HKP.out.1 HKP.out.2)
  obtain ⟨y, hy⟩ : ∃ y, y = loadS s (fI xs) s.chgs.length (k * 3 + p) := ⟨_, rfl⟩
  rw [← hy] at hcell hlb HRD
  have hmm : Mod (fun j => j = g) W8 (W8.setCell ⟨g, k * 3 + p, none⟩ (.int .i64 (y - by_))).drew := Mod.drew ((show Mod (fun j => j = g) W8 W8 from Mod.refl _ W8).setCell (p := ⟨g, k * 3 + p, none⟩) (.inl rfl) _)
  have hM9 := HM.out.mod HS.out hmm (by have := HXG.out.1; show ¬ X = g; omega) (fun j hj => by have := HXG.out; omega)
  have hQ9 := HQ.out.mod hmm (fun a ha _ h => by have := HAG.out a ha; omega)
  have hq9 := (hmm.cell (p := ⟨Y, 0, none⟩) (World.block_lt_of_cell? _ _ kq) (by have := HXG.out.2.1; show ¬ Y = g; omega)).trans kq
  have hz9 := (hmm.cell (p := ⟨Z, 0, none⟩) (World.block_lt_of_cell? _ _ kz) HZG.out).trans kz
  obtain ⟨W9, hW9⟩ : ∃ W', W' = (W8.setCell ⟨g, k * 3 + p, none⟩ (.int .i64 (y - by_))).drew := ⟨_, rfl⟩
  rw [← hW9] at hM9 hQ9 hq9 hz9 HRD
  have HM9 := Lib.hid hM9
  have HQ9 := Lib.hid hQ9
  have HC9 := Lib.hid (And.intro hq9 hz9)
  have HW9 := Lib.hid hW9
  have hbb := HBY.out
  have hwl : IntKind.i64.wrap (y - by_) = y - by_ := IntWalk.i64_in _ (by omega)
  have hw1 : IntKind.i64.wrap wh = wh := IntWalk.i64_in _ (by have := HWH.out; omega)
  have hw2 : IntKind.i64.wrap fz = fz := IntWalk.i64_in _ (by have := HFZ.out; omega)
  have hw3 : IntKind.i64.wrap by_ = by_ := IntWalk.i64_in _ (by omega)
  have hwk : IntKind.i64.wrap (k : Int) = (k : Int) := IntWalk.i64_in _ (by omega)
  have hwp : IntKind.i64.wrap (p : Int) = (p : Int) := IntWalk.i64_in _ (by omega)
  clear hM9 hQ9 hq9 hz9 hW9 hmm hlb hy hn5 hlX k0 k1 k2 k3 k4
  refine region_z (S := fun w' => w'.cell? ⟨Z, 0, none⟩ = some (.slice (some ⟨g, 0, none⟩) np cap) ∧ w'.cell? ⟨g, k * 3 + p, none⟩ = some (.int .i64 y)) [19] (by kernel_rfl) ⟨kz, hcell⟩ (fun hHeld => ?_)
  refine wpAnyZ_take (i := 0) (v := .pointer (some ⟨Z, 0, none⟩)) [1, 11, 12, 13, 16, 17, 18, 19] rfl (by kernel_rfl) (by kernel_rfl) (by kernel_rfl) (by kernel_rfl) (fun _ _ _ h => h) (Or.inl ⟨by kernel_rfl, fun w' hSw => ?_⟩) hHeld ?_
  · have s0 := hSw.1
    have s1 := hSw.2
    clear hHeld hSw
    go_simp
  simp only [Act.put, List.getElem_toArray, List.getElem_cons_zero, List.getElem_cons_succ, List.setIfInBounds_toArray, List.set_cons_zero, List.set_cons_succ]
  refine wpAnyZ_take (i := 1) (v := .slice (some ⟨g, 0, none⟩) np cap) [11, 12, 13, 16, 17, 18, 19] rfl (by kernel_rfl) (by kernel_rfl) (by kernel_rfl) (by kernel_rfl) (fun _ _ _ h => h) (Or.inl ⟨by kernel_rfl, fun w' hSw => ?_⟩) hHeld ?_
  · have s0 := hSw.1
    have s1 := hSw.2
    clear hHeld hSw
    go_simp
  simp only [Act.put, List.getElem_toArray, List.getElem_cons_zero, List.getElem_cons_succ, List.setIfInBounds_toArray, List.set_cons_zero, List.set_cons_succ]
  refine wpAnyZ_take (i := 2) (v := .int .u8 wh) [3, 7, 11, 12, 13, 16, 17, 18, 19] rfl (by kernel_rfl) (by kernel_rfl) (by kernel_rfl) (by kernel_rfl) (fun _ _ _ h => h) (Or.inl ⟨by kernel_rfl, fun w' hSw => ?_⟩) hHeld ?_
  · have s0 := hSw.1
    have s1 := hSw.2
    clear hHeld hSw
    go_simp
  simp only [Act.put, List.getElem_toArray, List.getElem_cons_zero, List.getElem_cons_succ, List.setIfInBounds_toArray, List.set_cons_zero, List.set_cons_succ]
  refine wpAnyZ_take (i := 3) (v := .int .i64 wh) [7, 11, 12, 13, 16, 17, 18, 19] rfl (by kernel_rfl) (by kernel_rfl) (by kernel_rfl) (by kernel_rfl) (fun _ _ _ h => h) (Or.inl ⟨by kernel_rfl, fun w' hSw => ?_⟩) hHeld ?_
  · have s0 := hSw.1
    have s1 := hSw.2
    clear hHeld hSw
    go_simp
  simp only [Act.put, List.getElem_toArray, List.getElem_cons_zero, List.getElem_cons_succ, List.setIfInBounds_toArray, List.set_cons_zero, List.set_cons_succ]
  refine wpAnyZ_take (i := 4) (v := .pointer (some ⟨Z, 0, none⟩)) [5, 6, 7, 11, 12, 13, 16, 17, 18, 19] rfl (by kernel_rfl) (by kernel_rfl) (by kernel_rfl) (by kernel_rfl) (fun _ _ _ h => h) (Or.inl ⟨by kernel_rfl, fun w' hSw => ?_⟩) hHeld ?_
  · have s0 := hSw.1
    have s1 := hSw.2
    clear hHeld hSw
    go_simp
  simp only [Act.put, List.getElem_toArray, List.getElem_cons_zero, List.getElem_cons_succ, List.setIfInBounds_toArray, List.set_cons_zero, List.set_cons_succ]
  refine wpAnyZ_take (i := 5) (v := .slice (some ⟨g, 0, none⟩) np cap) [6, 7, 11, 12, 13, 16, 17, 18, 19] rfl (by kernel_rfl) (by kernel_rfl) (by kernel_rfl) (by kernel_rfl) (fun _ _ _ h => h) (Or.inl ⟨by kernel_rfl, fun w' hSw => ?_⟩) hHeld ?_
  · have s0 := hSw.1
    have s1 := hSw.2
    clear hHeld hSw
    go_simp
  simp only [Act.put, List.getElem_toArray, List.getElem_cons_zero, List.getElem_cons_succ, List.setIfInBounds_toArray, List.set_cons_zero, List.set_cons_succ]
  refine wpAnyZ_take (i := 6) (v := .int .i64 (np : Nat)) [7, 11, 12, 13, 16, 17, 18, 19] rfl (by kernel_rfl) (by kernel_rfl) (by kernel_rfl) (by kernel_rfl) (fun _ _ _ h => h) (Or.inl ⟨by kernel_rfl, fun w' hSw => ?_⟩) hHeld ?_
  · have s0 := hSw.1
    have s1 := hSw.2
    clear hHeld hSw
    go_simp
  simp only [Act.put, List.getElem_toArray, List.getElem_cons_zero, List.getElem_cons_succ, List.setIfInBounds_toArray, List.set_cons_zero, List.set_cons_succ]
  refine wpAnyZ_take (i := 7) (v := .int .i64 (k : Nat)) [11, 12, 13, 16, 17, 18, 19] rfl (by kernel_rfl) (by kernel_rfl) (by kernel_rfl) (by kernel_rfl) (fun _ _ _ h => h) (Or.inl ⟨by kernel_rfl, fun w' hSw => ?_⟩) hHeld ?_
  · have s0 := hSw.1
    have s1 := hSw.2
    clear hHeld hSw
    go_simp
    all_goals (first | omega | (intro hh; omega))
  simp only [Act.put, List.getElem_toArray, List.getElem_cons_zero, List.getElem_cons_succ, List.setIfInBounds_toArray, List.set_cons_zero, List.set_cons_succ]
  refine wpAnyZ_take (i := 8) (v := .int .u8 fz) [9, 10, 12, 13, 16, 18, 19] rfl (by kernel_rfl) (by kernel_rfl) (by kernel_rfl) (by kernel_rfl) (fun _ _ _ h => h) (Or.inl ⟨by kernel_rfl, fun w' hSw => ?_⟩) hHeld ?_
  · have s0 := hSw.1
    have s1 := hSw.2
    clear hHeld hSw
    go_simp
  simp only [Act.put, List.getElem_toArray, List.getElem_cons_zero, List.getElem_cons_succ, List.setIfInBounds_toArray, List.set_cons_zero, List.set_cons_succ]
  refine wpAnyZ_take (i := 9) (v := .int .i64 fz) [10, 12, 13, 16, 18, 19] rfl (by kernel_rfl) (by kernel_rfl) (by kernel_rfl) (by kernel_rfl) (fun _ _ _ h => h) (Or.inl ⟨by kernel_rfl, fun w' hSw => ?_⟩) hHeld ?_
  · have s0 := hSw.1
    have s1 := hSw.2
    clear hHeld hSw
    go_simp
  simp only [Act.put, List.getElem_toArray, List.getElem_cons_zero, List.getElem_cons_succ, List.setIfInBounds_toArray, List.set_cons_zero, List.set_cons_succ]
  refine wpAnyZ_take (i := 10) (v := .int .i64 (p : Nat)) [12, 13, 16, 18, 19] rfl (by kernel_rfl) (by kernel_rfl) (by kernel_rfl) (by kernel_rfl) (fun _ _ _ h => h) (Or.inl ⟨by kernel_rfl, fun w' hSw => ?_⟩) hHeld ?_
  · have s0 := hSw.1
    have s1 := hSw.2
    clear hHeld hSw
    go_simp
  simp only [Act.put, List.getElem_toArray, List.getElem_cons_zero, List.getElem_cons_succ, List.setIfInBounds_toArray, List.set_cons_zero, List.set_cons_succ]
  refine wpAnyZ_take (i := 11) (v := .pointer (some ⟨g, k * 3, none⟩)) [12, 13, 16, 19] rfl (by kernel_rfl) (by kernel_rfl) (by kernel_rfl) (by kernel_rfl) (fun _ _ _ h => h) (Or.inl ⟨by kernel_rfl, fun w' hSw => ?_⟩) hHeld ?_
  · have s0 := hSw.1
    have s1 := hSw.2
    clear hHeld hSw
    go_simp
  simp only [Act.put, List.getElem_toArray, List.getElem_cons_zero, List.getElem_cons_succ, List.setIfInBounds_toArray, List.set_cons_zero, List.set_cons_succ]
  refine wpAnyZ_take (i := 12) (v := .pointer (some ⟨g, k * 3 + p, none⟩)) [13, 16, 19] rfl (by kernel_rfl) (by kernel_rfl) (by kernel_rfl) (by kernel_rfl) (fun _ _ _ h => h) (Or.inl ⟨by kernel_rfl, fun w' hSw => ?_⟩) hHeld ?_
  · have s0 := hSw.1
    have s1 := hSw.2
    clear hHeld hSw
    go_simp
    all_goals (first | omega | (intro hh; omega))
  simp only [Act.put, List.getElem_toArray, List.getElem_cons_zero, List.getElem_cons_succ, List.setIfInBounds_toArray, List.set_cons_zero, List.set_cons_succ]
  refine wpAnyZ_take (i := 13) (v := .int .i64 y) [16, 19] rfl (by kernel_rfl) (by kernel_rfl) (by kernel_rfl) (by kernel_rfl) (fun _ _ _ h => h) (Or.inl ⟨by kernel_rfl, fun w' hSw => ?_⟩) hHeld ?_
  · have s0 := hSw.1
    have s1 := hSw.2
    clear hHeld hSw
    go_simp
  simp only [Act.put, List.getElem_toArray, List.getElem_cons_zero, List.getElem_cons_succ, List.setIfInBounds_toArray, List.set_cons_zero, List.set_cons_succ]
  refine wpAnyZ_take (i := 14) (v := .int .u8 by_) [15, 16, 19] rfl (by kernel_rfl) (by kernel_rfl) (by kernel_rfl) (by kernel_rfl) (fun _ _ _ h => h) (Or.inl ⟨by kernel_rfl, fun w' hSw => ?_⟩) hHeld ?_
  · have s0 := hSw.1
    have s1 := hSw.2
    clear hHeld hSw
    go_simp
  simp only [Act.put, List.getElem_toArray, List.getElem_cons_zero, List.getElem_cons_succ, List.setIfInBounds_toArray, List.set_cons_zero, List.set_cons_succ]
  refine wpAnyZ_take (i := 15) (v := .int .i64 by_) [16, 19] rfl (by kernel_rfl) (by kernel_rfl) (by kernel_rfl) (by kernel_rfl) (fun _ _ _ h => h) (Or.inl ⟨by kernel_rfl, fun w' hSw => ?_⟩) hHeld ?_
  · have s0 := hSw.1
    have s1 := hSw.2
    clear hHeld hSw
    go_simp
  simp only [Act.put, List.getElem_toArray, List.getElem_cons_zero, List.getElem_cons_succ, List.setIfInBounds_toArray, List.set_cons_zero, List.set_cons_succ]
  refine wpAnyZ_take (i := 16) (v := .int .i64 (y - by_)) [19] rfl (by kernel_rfl) (by kernel_rfl) (by kernel_rfl) (by kernel_rfl) (fun _ _ _ h => h) (Or.inl ⟨by kernel_rfl, fun w' hSw => ?_⟩) hHeld ?_
  · have s0 := hSw.1
    have s1 := hSw.2
    clear hHeld hSw
    go_simp
  simp only [Act.put, List.getElem_toArray, List.getElem_cons_zero, List.getElem_cons_succ, List.setIfInBounds_toArray, List.set_cons_zero, List.set_cons_succ]
  refine wpAnyZ_take (i := 17) (v := .pointer (some ⟨g, k * 3, none⟩)) [18, 19] rfl (by kernel_rfl) (by kernel_rfl) (by kernel_rfl) (by kernel_rfl) (fun _ _ _ h => h) (Or.inl ⟨by kernel_rfl, fun w' hSw => ?_⟩) hHeld ?_
  · have s0 := hSw.1
    have s1 := hSw.2
    clear hHeld hSw
    go_simp
  simp only [Act.put, List.getElem_toArray, List.getElem_cons_zero, List.getElem_cons_succ, List.setIfInBounds_toArray, List.set_cons_zero, List.set_cons_succ]
  refine wpAnyZ_take (i := 18) (v := .pointer (some ⟨g, k * 3 + p, none⟩)) [19] rfl (by kernel_rfl) (by kernel_rfl) (by kernel_rfl) (by kernel_rfl) (fun _ _ _ h => h) (Or.inl ⟨by kernel_rfl, fun w' hSw => ?_⟩) hHeld ?_
  · have s0 := hSw.1
    have s1 := hSw.2
    clear hHeld hSw
    go_simp
    all_goals (first | omega | (intro hh; omega))
  simp only [Act.put, List.getElem_toArray, List.getElem_cons_zero, List.getElem_cons_succ, List.setIfInBounds_toArray, List.set_cons_zero, List.set_cons_succ]
  refine wpAnyZ_last (i := 19) (by kernel_rfl) rfl (by kernel_rfl) (fun K' hK => ?_)
  obtain ⟨s0, s1⟩ := hHeld
  have hf := HFG.out
  go_simp
  refine hK.out _ _ ?_
  clear hK K' hf s0 s1
  try simp only [Act.put, List.getElem_toArray, List.getElem_cons_zero, List.getElem_cons_succ, List.setIfInBounds_toArray, List.set_cons_zero, List.set_cons_succ]
  refine wpAnyZ_done (by kernel_rfl) ?_ _
  go_step
  go_step
  rw [← HW9.out]
  have HM := HM9
  have HQ := HQ9
  have kq := HC9.out.1
  have kz := HC9.out.2
  clear HM9 HQ9 HC9 HW9 hcell HFG hw1 hw2 hw3 hwk hwp hwl hk1 hp1 HOG
  obtain ⟨k0, k1, k2, k3, k4⟩ : W9.cell? ⟨X, 0, none⟩ = some (.slice a1 n1 c1) ∧ W9.cell? ⟨X, 1, none⟩ = some (.slice a2 n2 c2) ∧ W9.cell? ⟨X, 2, none⟩ = some (.slice a3 n3 c3) ∧ W9.cell? ⟨X, 3, none⟩ = some (.slice a4 n4 c4) ∧ W9.cell? ⟨X, 4, none⟩ = some (.slice a5 n5 c5) := ⟨HM.out.k0, HM.out.k1, HM.out.k2, HM.out.k3, HM.out.k4⟩
  have hlX : X < W9.heap.size := World.block_lt_of_cell? W9 _ k0
  have HT : Hid (prB s xs (loadsOf s xs) = true) := Lib.hid (prB_loads HLB.out HVO.out)
  have HF2 : Hid (prB s xs (subR s xs k p by_) = false) := Lib.hid (subR_no HKP.out.1 HKP.out.2 HBZ.out)
  have HNS : Hid ((subR s xs k p by_).length = np) := Lib.hid (by unfold subR; have := HNP.out.1; simp; omega)
  go_wp2_with fail
  refine (prCheck_any a1 a2 a3 a4 a5 n1 c1 n2 c2 n3 c3 n4 c4 n5 c5 aA nA cA s xs ap np cp (loadsOf s xs) W9 (Lib.hid HM.out.rs) (Lib.hid (HX.out.keep HM.out.bel)) HNA (by omega) HQ HNQ).mono ?_
  rintro e w10 ⟨rfl, hb⟩
  rw [HT.out]
  have HM := Lib.hid (HM.out.keep (hb))
  clear k0 k1 k2 k3 k4 hlX
  obtain ⟨k0, k1, k2, k3, k4⟩ : w10.cell? ⟨X, 0, none⟩ = some (.slice a1 n1 c1) ∧ w10.cell? ⟨X, 1, none⟩ = some (.slice a2 n2 c2) ∧ w10.cell? ⟨X, 2, none⟩ = some (.slice a3 n3 c3) ∧ w10.cell? ⟨X, 3, none⟩ = some (.slice a4 n4 c4) ∧ w10.cell? ⟨X, 4, none⟩ = some (.slice a5 n5 c5) := ⟨HM.out.k0, HM.out.k1, HM.out.k2, HM.out.k3, HM.out.k4⟩
  have hlX : X < w10.heap.size := World.block_lt_of_cell? w10 _ k0
  have HRD := Lib.hid (HRD.out.keep hb)
  have kz := (hb.cell (p := ⟨Z, 0, none⟩) (World.block_lt_of_cell? _ _ kz)).trans kz
  clear hb
  go_wp2_with fail
  refine (prCheck_any a1 a2 a3 a4 a5 n1 c1 n2 c2 n3 c3 n4 c4 n5 c5 aA nA cA s xs (some ⟨g, 0, none⟩) np cap (subR s xs k p by_) w10 (Lib.hid HM.out.rs) (Lib.hid (HX.out.keep HM.out.bel)) HNA (by omega) HRD HNS).mono ?_
  rintro e w11 ⟨rfl, hb⟩
  rw [HF2.out]
  have HM := Lib.hid (HM.out.keep (hb))
  clear k0 k1 k2 k3 k4 hlX
  obtain ⟨k0, k1, k2, k3, k4⟩ : w11.cell? ⟨X, 0, none⟩ = some (.slice a1 n1 c1) ∧ w11.cell? ⟨X, 1, none⟩ = some (.slice a2 n2 c2) ∧ w11.cell? ⟨X, 2, none⟩ = some (.slice a3 n3 c3) ∧ w11.cell? ⟨X, 3, none⟩ = some (.slice a4 n4 c4) ∧ w11.cell? ⟨X, 4, none⟩ = some (.slice a5 n5 c5) := ⟨HM.out.k0, HM.out.k1, HM.out.k2, HM.out.k3, HM.out.k4⟩
  have hlX : X < w11.heap.size := World.block_lt_of_cell? w11 _ k0
  clear hb
  go_wp2_with fail
  go_ret
  exact ⟨rfl, HM.out.bel⟩
end Go.Proofs.Ytbjmpfchapggfaa
