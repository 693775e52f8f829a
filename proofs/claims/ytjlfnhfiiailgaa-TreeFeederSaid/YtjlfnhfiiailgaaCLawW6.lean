/-
TreeFeeder, walked.
-/
import Derived.Test.YtjlfnhfiiailgaaCLawW4
namespace Go.Proofs.Ytjlfnhfiiailgaa
open Go.RowKit
set_option linter.unusedVariables false
set_option linter.unusedSimpArgs false
/-- How many phases. -/
def popP (ph : Int) : Int := pick (bitP ph 0 = true) 1 + pick (bitP ph 1 = true) 1 + pick (bitP ph 2 = true) 1
theorem popP_bd (ph : Int) : 0 ≤ popP ph ∧ popP ph ≤ 3 := by
  unfold popP pick
  constructor
  · split <;> split <;> split <;> omega
  · split <;> split <;> split <;> omega
theorem popP_bits {ph : Int} (hph : 0 ≤ ph ∧ ph ≤ 7) : bits BinOp.and .i64 ph 1 + bits BinOp.and .i64 (ph / 2) 1 + bits BinOp.and .i64 (ph / 4) 1 = popP ph := by
  have h : ∀ q : Fin 8, bits BinOp.and .i64 ((q.val : Nat) : Int) 1 + bits BinOp.and .i64 (((q.val : Nat) : Int) / 2) 1 + bits BinOp.and .i64 (((q.val : Nat) : Int) / 4) 1 = popP ((q.val : Nat) : Int) := by decide +kernel
  have e := h ⟨ph.toNat, by omega⟩
  dsimp only at e
  rw [show ((ph.toNat : Nat) : Int) = ph by omega] at e
  exact e
theorem bit_bd {ph : Int} (hph : 0 ≤ ph ∧ ph ≤ 7) : (0 ≤ bits BinOp.and .i64 ph 1 ∧ bits BinOp.and .i64 ph 1 ≤ 1) ∧ (0 ≤ bits BinOp.and .i64 (ph / 2) 1 ∧ bits BinOp.and .i64 (ph / 2) 1 ≤ 1) ∧ (0 ≤ bits BinOp.and .i64 (ph / 4) 1 ∧ bits BinOp.and .i64 (ph / 4) 1 ≤ 1) := by
  have h : ∀ q : Fin 8, (0 ≤ bits BinOp.and .i64 ((q.val : Nat) : Int) 1 ∧ bits BinOp.and .i64 ((q.val : Nat) : Int) 1 ≤ 1) ∧ (0 ≤ bits BinOp.and .i64 (((q.val : Nat) : Int) / 2) 1 ∧ bits BinOp.and .i64 (((q.val : Nat) : Int) / 2) 1 ≤ 1) ∧ (0 ≤ bits BinOp.and .i64 (((q.val : Nat) : Int) / 4) 1 ∧ bits BinOp.and .i64 (((q.val : Nat) : Int) / 4) 1 ≤ 1) := by decide +kernel
  have e := h ⟨ph.toNat, by omega⟩
  dsimp only at e
  rw [show ((ph.toNat : Nat) : Int) = ph by omega] at e
  exact e
theorem want_wrap {wt x ph : Int} (hph : 0 ≤ ph ∧ ph ≤ 7) (hw : 0 ≤ wt ∧ wt ≤ 10000) (hx : 0 ≤ x ∧ x ≤ 80) : wrap64 (wt + wrap64 (x * wrap64 (wrap64 (bits BinOp.and .i64 ph 1 + bits BinOp.and .i64 (ph / 2) 1) + bits BinOp.and .i64 (ph / 4) 1))) = wt + x * popP ph := by
  have hb := bit_bd hph
  have hp := popP_bits hph
  have hpp := popP_bd ph
  generalize bits BinOp.and .i64 ph 1 = u0 at *
  generalize bits BinOp.and .i64 (ph / 2) 1 = u1 at *
  generalize bits BinOp.and .i64 (ph / 4) 1 = u2 at *
  have w1 : wrap64 (u0 + u1) = u0 + u1 := IntWalk.wrap64_in _ (by omega)
  rw [w1]
  have w2 : wrap64 (u0 + u1 + u2) = u0 + u1 + u2 := IntWalk.wrap64_in _ (by omega)
  rw [w2, hp]
  have hm : 0 ≤ x * popP ph ∧ x * popP ph ≤ 240 := by
    have h3 : x * popP ph ≤ 80 * popP ph := Int.mul_le_mul_of_nonneg_right hx.2 hpp.1
    exact ⟨Int.mul_nonneg hx.1 hpp.1, by omega⟩
  generalize x * popP ph = y at *
  have w3 : wrap64 y = y := IntWalk.wrap64_in _ (by omega)
  rw [w3]
  exact IntWalk.wrap64_in _ (by omega)
def wantF (s : GSite) (f : Nat → Int) (m : Nat) : Int := S m (fun c => f c * popP (phOf s c))
theorem onB_root {s : GSite} (hk : OkSite keyL s) {c p : Nat} (hc : c < s.chgs.length) : onB s c 0 p = bitP (phOf s c) p := by
  obtain ⟨p1, p2, p3⟩ := hk.place (List.getElem?_eq_getElem hc)
  have h := pth_root hk.ups (placeOf s c) (by omega)
  unfold onB
  rw [decide_eq_true (List.mem_of_getLast? h), Bool.and_true]
theorem feeder_sum {s : GSite} (hk : OkSite keyL s) (f : Nat → Int) : loadS s f s.chgs.length 0 + loadS s f s.chgs.length 1 + loadS s f s.chgs.length 2 = wantF s f s.chgs.length := by
  unfold loadS wantF
  rw [← S_add, ← S_add]
  refine S_congr (fun c hc => ?_)
  show pick (onB s c 0 0 = true) (f c) + pick (onB s c 0 1 = true) (f c) + pick (onB s c 0 2 = true) (f c) = _
  rw [onB_root hk hc, onB_root hk hc, onB_root hk hc]
  unfold popP pick
  generalize bitP (phOf s c) 0 = x
  generalize bitP (phOf s c) 1 = y
  generalize bitP (phOf s c) 2 = z
  cases x <;> cases y <;> cases z <;> simp <;> omega
theorem feeder_most {s : GSite} (hk : OkSite keyL s) {f : Nat → Int} (hf : ∀ c, 0 ≤ f c) (k p : Nat) (hp : p < 3) : loadS s f s.chgs.length (k * 3 + p) ≤ loadS s f s.chgs.length p := by
  unfold loadS
  refine S_le (fun c hc => ?_)
  rw [show p / 3 = 0 by omega, show p % 3 = p by omega, show (k * 3 + p) / 3 = k by omega, show (k * 3 + p) % 3 = p by omega, onB_root hk hc]
  have h0 := hf c
  unfold onB pick
  cases bitP (phOf s c) p
  · simp
  · split
    · simp
    · simp; exact h0
theorem wantF_succ (s : GSite) (f : Nat → Int) (m : Nat) : wantF s f (m + 1) = wantF s f m + f m * popP (phOf s m) := rfl
theorem wantF_bd {s : GSite} {f : Nat → Int} (hf : ∀ c, 0 ≤ f c ∧ f c ≤ 80) (m : Nat) : 0 ≤ wantF s f m ∧ wantF s f m ≤ m * 240 := by
  have h : ∀ c, 0 ≤ f c * popP (phOf s c) ∧ f c * popP (phOf s c) ≤ 240 := fun c => by
    have h1 := popP_bd (phOf s c)
    have h2 := hf c
    have h3 : f c * popP (phOf s c) ≤ 80 * popP (phOf s c) := Int.mul_le_mul_of_nonneg_right h2.2 h1.1
    exact ⟨Int.mul_nonneg h2.1 h1.1, by omega⟩
  unfold wantF
  exact ⟨S_nonneg (fun c _ => (h c).1), S_bound (fun c _ => (h c).2)⟩
set_option maxRecDepth 100000 in
set_option maxHeartbeats 16000000 in
theorem walk_TreeFeeder (a1 : Option Addr) (n1 c1 : Nat) (a2 : Option Addr) (n2 c2 : Nat) (a3 : Option Addr) (n3 c3 : Nat) (a4 : Option Addr) (n4 c4 : Nat) (a5 : Option Addr) (n5 c5 : Nat) (s : GSite) {w : World} (HS : Hid (RdSite w a1 a2 a3 a4 a5 n1 n2 n3 n4 n5 s)) (_ : WfSite s) (B1 : Option Addr) (d1 e1 : Nat) (bs : List Int) (hX1 : Rd 1 encU8 w B1 bs) (HN1 : Hid (bs.length = e1)) (he1 : e1 ≤ 9223372036854775807) (hw1 : ∀ x, x ∈ bs → (Lit.int .u8 x).wf = true) :
    Calls Try.prog 9 #[.agg #[.slice a1 n1 c1, .slice a2 n2 c2, .slice a3 n3 c3, .slice a4 n4 c4, .slice a5 n5 c5], .slice B1 e1 d1] w fun e w' => e = .returned (.bool true) ∧ Below w.heap.size w w' := by
  have HB8 := Lib.hid (u8L_bd hw1)
  have HX1 := Lib.hid hX1
  have HM0 := Lib.hid (LwM.box (c1 := c1) (c2 := c2) (c3 := c3) (c4 := c4) (c5 := c5) HS.out)
  clear hX1 hw1
  go_enter Try.func9, Try.ntmps9
  go_wp2_with fail
  refine (ltHead_any _).mono ?_
  rintro e w1 ⟨rfl, hb⟩
  have HM := Lib.hid (HM0.out.keep hb)
  generalize hXX : w.heap.size = X at HM ⊢
  have HXX := Lib.hid hXX
  clear hb HM0 hXX
  have hlX : X < w1.heap.size := World.block_lt_of_cell? w1 _ HM.out.k0
  obtain ⟨k0, k1, k2, k3, k4⟩ : w1.cell? ⟨X, 0, none⟩ = some (.slice a1 n1 c1) ∧ w1.cell? ⟨X, 1, none⟩ = some (.slice a2 n2 c2) ∧ w1.cell? ⟨X, 2, none⟩ = some (.slice a3 n3 c3) ∧ w1.cell? ⟨X, 3, none⟩ = some (.slice a4 n4 c4) ∧ w1.cell? ⟨X, 4, none⟩ = some (.slice a5 n5 c5) := ⟨HM.out.k0, HM.out.k1, HM.out.k2, HM.out.k3, HM.out.k4⟩
  go_wp2_with fail
  refine (ltUsable_any a1 a2 a3 a4 a5 n1 c1 n2 c2 n3 c3 n4 c4 n5 c5 s w1 (Lib.hid HM.out.rs)).mono ?_
  rintro e w2 ⟨rfl, hb⟩
  have HM2 := Lib.hid (HM.out.keep hb)
  clear HM
  have HM := HM2
  clear HM2
  clear hb
  clear k0 k1 k2 k3 k4 hlX
  cases hf : usableB s
  · go_wp2_with fail
    go_ret
    exact ⟨rfl, HM.out.bel⟩
  have HOKB := Lib.hid (usableB_ok hf)
  have HOK := Lib.hid (okSB_iff.1 (usableB_ok hf))
  clear hf
  have hn4b : n4 ≤ 16 := by have := HOK.out.n5; have := HM.out.rs.l4; omega
  have hn1b : n1 ≤ 16 := by have := HOK.out.n2; have := HM.out.rs.l1; omega
  have hn1p : 0 < n1 := by have := HOK.out.n1; have := HM.out.rs.l1; omega
  have hlX : X < w2.heap.size := World.block_lt_of_cell? w2 _ HM.out.k0
  obtain ⟨k0, k1, k2, k3, k4⟩ : w2.cell? ⟨X, 0, none⟩ = some (.slice a1 n1 c1) ∧ w2.cell? ⟨X, 1, none⟩ = some (.slice a2 n2 c2) ∧ w2.cell? ⟨X, 2, none⟩ = some (.slice a3 n3 c3) ∧ w2.cell? ⟨X, 3, none⟩ = some (.slice a4 n4 c4) ∧ w2.cell? ⟨X, 4, none⟩ = some (.slice a5 n5 c5) := ⟨HM.out.k0, HM.out.k1, HM.out.k2, HM.out.k3, HM.out.k4⟩
  go_wp2_with fail
  refine (ltCurr_any a1 a2 a3 a4 a5 n1 c1 n2 c2 n3 c3 n4 c4 n5 c5 (by omega) B1 e1 d1 bs w2 (Lib.hid (HX1.out.keep HM.out.bel)) HN1 he1 HB8).mono ?_
  rintro e w3 ⟨g, hgg, rfl, ho, hb⟩
  have HM2 := Lib.hid (HM.out.keep hb)
  clear HM
  have HM := HM2
  clear HM2
  have HOa := Lib.hid ho
  have hXg : X < g := by omega
  have HCB := Lib.hid (fun i => curF_bd HB8.out i)
  clear ho hb hgg
  clear k0 k1 k2 k3 k4 hlX
  have hlX : X < w3.heap.size := World.block_lt_of_cell? w3 _ HM.out.k0
  obtain ⟨k0, k1, k2, k3, k4⟩ : w3.cell? ⟨X, 0, none⟩ = some (.slice a1 n1 c1) ∧ w3.cell? ⟨X, 1, none⟩ = some (.slice a2 n2 c2) ∧ w3.cell? ⟨X, 2, none⟩ = some (.slice a3 n3 c3) ∧ w3.cell? ⟨X, 3, none⟩ = some (.slice a4 n4 c4) ∧ w3.cell? ⟨X, 4, none⟩ = some (.slice a5 n5 c5) := ⟨HM.out.k0, HM.out.k1, HM.out.k2, HM.out.k3, HM.out.k4⟩
  go_wp2_with fail
  refine (ltLoads_amp a1 a2 a3 a4 a5 n1 c1 n2 c2 n3 c3 n4 c4 n5 c5 g n4 s (curF bs) w3 HM.out.rs HOKB.out HOa.out (fun i _ => HCB.out i)).mono ?_
  rintro e w4 ⟨px, cx, rfl, hr, hb⟩
  have HM3 := Lib.hid (HM.out.keep hb)
  clear HM
  have HM := HM3
  clear HM3
  have HAt := Lib.hid (HOa.out.keep hb HOa.out.lt)
  clear HOa
  have HOa := HAt
  clear HAt
  have HRx := Lib.hid hr
  clear hb hr
  clear k0 k1 k2 k3 k4 hlX
  have hlX : X < w4.heap.size := World.block_lt_of_cell? w4 _ HM.out.k0
  obtain ⟨k0, k1, k2, k3, k4⟩ : w4.cell? ⟨X, 0, none⟩ = some (.slice a1 n1 c1) ∧ w4.cell? ⟨X, 1, none⟩ = some (.slice a2 n2 c2) ∧ w4.cell? ⟨X, 2, none⟩ = some (.slice a3 n3 c3) ∧ w4.cell? ⟨X, 3, none⟩ = some (.slice a4 n4 c4) ∧ w4.cell? ⟨X, 4, none⟩ = some (.slice a5 n5 c5) := ⟨HM.out.k0, HM.out.k1, HM.out.k2, HM.out.k3, HM.out.k4⟩
  have hnzb : ((n1 : Int) == 0) = false := by rw [beq_eq_false_iff_ne]; omega
  go_wp2_with fail
  have HPB := Lib.hid (fun m => wantF_bd (s := s) (f := curF bs) HCB.out m)
  have HPS := Lib.hid (fun m => wantF_succ s (curF bs) m)
  go_loopg [9, 10, 11, 39] n4 (fun g1 v9 v10 v11 v39 wr => ∃ i : Nat, v39 = .int .i64 i ∧ i ≤ n4 ∧ n4 - i ≤ g1 ∧ v9 = .int .i64 (wantF s (curF bs) i) ∧ Hid (LwM w wr X a1 n1 c1 a2 n2 c2 a3 n3 c3 a4 n4 c4 a5 n5 c5 s) ∧ Hid (Own wr g 3 n4 (fun i => .int .i64 (curF bs i))) ∧ Hid (Rd 3 enc3 wr px ((List.range n1).map (row3 (loadS s (curF bs) n4)))))
  case atStart => exact ⟨0, by go_num, by omega, by omega, rfl, HM, HOa, HRx⟩
  case round =>
    obtain ⟨i, rfl, hi, hg1, rfl, HMi, HOi, HRi⟩ := hrel
    clear k0 k1 k2 k3 k4 hlX
    clear HM HOa HRx
    by_cases hli : i < n4
    · have hliz : (i : Int) < (n4 : Int) := by omega
      have hi4 : i < s.chgs.length := by rw [HMi.out.rs.l4]; exact hli
      obtain ⟨b, off, cg, hA4, hbl, hgx, d0, d1, d2, d3, d4, d5, d6, d7⟩ := rdChg_at HMi.out.rs.r4 hi4
      have hph : phOf s i = cg.ph := by unfold phOf; rw [hgx]; rfl
      have hphb : 1 ≤ cg.ph ∧ cg.ph ≤ 7 := by
        have h1 := HOK.out.chg cg (List.mem_of_getElem? hgx)
        unfold okChg at h1
        simp only [decide_eq_true_eq] at h1
        exact h1.2.2.1
      have ca := HOi.out.cell (i := i) hli
      have hbd := HCB.out i
      have hw := HPB.out i
      have hws := HPS.out i
      rw [hph] at hws
      have HWS := Lib.hid hws
      have hpp := popP_bd cg.ph
      have HPP : Hid (bits BinOp.and .i64 cg.ph 1 + bits BinOp.and .i64 (cg.ph / 2) 1 + bits BinOp.and .i64 (cg.ph / 4) 1 = popP cg.ph) := Lib.hid (popP_bits (by omega))
      subst hA4
      have lg := HOi.out.lt
      obtain ⟨wa, hwa⟩ : ∃ wa, wa = wr.alloc (.cells #[.string cg.name, .int .i64 cg.place, .int .i64 cg.ph, .int .i64 cg.mn, .int .i64 cg.mx, .int .i64 cg.step, .int .i64 cg.fb, .int .i64 cg.own] 42) := ⟨_, rfl⟩
      have bwa : Below wr.heap.size wr wa := by rw [hwa]; exact (Below.refl _ wr).alloc (Nat.le_refl _) _
      have HM2 := Lib.hid (HMi.out.keep bwa)
      have HO2 := Lib.hid (HOi.out.keep bwa HOi.out.lt)
      have HR2 := Lib.hid (HRi.out.keep bwa)
      have xa := (bwa.cell (p := ⟨g, i, none⟩) lg).trans ca
      have xp : wa.cell? ⟨wr.heap.size, 2, none⟩ = some (.int .i64 cg.ph) := by rw [hwa]; go_simp
      have HWA := Lib.hid hwa
      clear hgx hph hws bwa hwa ca
      generalize wantF s (curF bs) i = wt at *
      generalize curF bs i = x at *
      go_wp2_with fail
      rw [← HWA.out]
      clear d0 d1 d2 d3 d4 d5 d6 d7
      have HWW := Lib.hid (want_wrap (wt := wt) (x := x) (ph := cg.ph) (by omega) (by omega) hbd)
      go_quiet (fail)
      go_wp2_with fail
      rw [HWW.out]
      go_roundg (n4 - (i + 1))
      case measure => omega
      case rel => exact ⟨i + 1, by go_num, by omega, by omega, by rw [HWS.out], Lib.hid (HM2.out.drewN _), Lib.hid (Own.drewN HO2.out _), Lib.hid (HR2.out.drewN _)⟩
    · have hliz : ¬ (i : Int) < (n4 : Int) := by omega
      have hin : i = n4 := by omega
      subst hin
      have h4 : s.chgs.length = i := HMi.out.rs.l4
      have HFS := Lib.hid (feeder_sum HOK.out (curF bs))
      have HFM := Lib.hid (fun k p hp => feeder_most HOK.out (f := curF bs) (fun c => (HCB.out c).1) k p hp)
      have HLB := Lib.hid (fun j => loadS_bd (s := s) (am := curF bs) (m := s.chgs.length) (fun c _ => HCB.out c) j)
      rw [h4] at HFS HFM HLB
      clear h4 HOi
      generalize wantF s (curF bs) i = wt at *
      generalize loadS s (curF bs) i = L at *
      go_wp2_with fail
      go_loopg [13, 14, 67] n1 (fun g2 v13 v14 v67 wq => ∃ q : Nat, v67 = .int .i64 q ∧ q ≤ n1 ∧ n1 - q ≤ g2 ∧ Hid (LwM w wq X a1 n1 c1 a2 n2 c2 a3 n3 c3 a4 i c4 a5 n5 c5 s) ∧ Hid (Rd 3 enc3 wq px ((List.range n1).map (row3 L))))
      case atStart => exact ⟨0, by go_num, by omega, by omega, HMi, HRi⟩
      case round =>
        obtain ⟨q, rfl, hq, hg2, HMq, HRq⟩ := hrel
        clear HMi HRi
        by_cases hlq : q < n1
        · have hlqz : (q : Int) < (n1 : Int) := by omega
          obtain ⟨bx, ox, hAx, hbx, cx0⟩ := rd3_at HRq.out hlq (p := 0) (by omega)
          obtain ⟨_, _, hAx1, _, cx1⟩ := rd3_at HRq.out hlq (p := 1) (by omega)
          obtain ⟨_, _, hAx2, _, cx2⟩ := rd3_at HRq.out hlq (p := 2) (by omega)
          rw [hAx] at hAx1 hAx2
          injection hAx1 with hAx1
          injection hAx1 with ea eb
          subst ea eb
          injection hAx2 with hAx2
          injection hAx2 with ea eb
          subst ea eb
          rw [Nat.add_zero] at cx0
          subst hAx
          obtain ⟨wa, hwa⟩ : ∃ wa, wa = wr.alloc (.cells #[.int .i64 (L (q * 3 + 0)), .int .i64 (L (q * 3 + 1)), .int .i64 (L (q * 3 + 2))] 55) := ⟨_, rfl⟩
          have bwa : Below wr.heap.size wr wa := by rw [hwa]; exact (Below.refl _ wr).alloc (Nat.le_refl _) _
          have HM2 := Lib.hid (HMq.out.keep bwa)
          have HR2 := Lib.hid (HRq.out.keep bwa)
          have y0 : wa.cell? ⟨wr.heap.size, 0, none⟩ = some (.int .i64 (L (q * 3 + 0))) := by rw [hwa]; go_simp
          have y1 : wa.cell? ⟨wr.heap.size, 1, none⟩ = some (.int .i64 (L (q * 3 + 1))) := by rw [hwa]; go_simp
          have y2 : wa.cell? ⟨wr.heap.size, 2, none⟩ = some (.int .i64 (L (q * 3 + 2))) := by rw [hwa]; go_simp
          have HY : Hid (∀ p, p < 3 → wa.cell? ⟨wr.heap.size, p, none⟩ = some (.int .i64 (L (q * 3 + p)))) := Lib.hid (fun p hp => by
            match p, hp with
            | 0, _ => exact y0
            | 1, _ => exact y1
            | 2, _ => exact y2)
          have HWA := Lib.hid hwa
          clear hwa bwa y0 y1 y2
          go_wp2_with fail
          simp only [Nat.add_zero] at HWA
          rw [← HWA.out]
          clear cx0 cx1 cx2
          go_loopg [14, 71] 3 (fun g3 v14 v71 wp => ∃ p : Nat, v71 = .int .i64 p ∧ p ≤ 3 ∧ 3 - p ≤ g3 ∧ Hid (∃ z, wp = wa.drewN z))
          case atStart => exact ⟨0, by go_num, by omega, by omega, Lib.hid ⟨0, rfl⟩⟩
          case round =>
            rename_i wr0 _
            obtain ⟨p, rfl, hp, hg3, HWp⟩ := hrel
            obtain ⟨z, hz⟩ := HWp.out
            subst hz
            by_cases hlp : p < 3
            · have hlpz : (p : Int) < 3 := by omega
              have cy := HY.out p hlp
              obtain ⟨_, _, hAx2, _, cz⟩ := rd3_at HR2.out hn1p hlp
              injection hAx2 with hAx2
              injection hAx2 with ea eb
              subst ea eb
              rw [Nat.zero_mul, Nat.zero_add, Nat.add_zero] at cz
              have hle := HFM.out q p hlp
              have hdec : decide (L p < L (q * 3 + p)) = false := by simp; omega
              generalize L (q * 3 + p) = x at *
              generalize L p = y at *
              go_wp2_with fail
              go_quiet (fail)
              go_wp2_with fail
              go_roundg (3 - (p + 1))
              case measure => omega
              case rel => exact ⟨p + 1, by go_num, by omega, by omega, Lib.hid ⟨_, rfl⟩⟩
            · have hlpz : ¬ (p : Int) < 3 := by omega
              go_wp2_with fail
              go_roundg (n1 - (q + 1))
              case measure => omega
              case rel => exact ⟨q + 1, by go_num, by omega, by omega, Lib.hid (HM2.out.drewN _), Lib.hid (HR2.out.drewN _)⟩
        · have hlqz : ¬ (q : Int) < (n1 : Int) := by omega
          obtain ⟨bx, ox, hAx, hbx, cx0⟩ := rd3_at HRq.out hn1p (p := 0) (by omega)
          obtain ⟨_, _, hAx1, _, cx1⟩ := rd3_at HRq.out hn1p (p := 1) (by omega)
          obtain ⟨_, _, hAx2, _, cx2⟩ := rd3_at HRq.out hn1p (p := 2) (by omega)
          rw [hAx] at hAx1 hAx2
          injection hAx1 with hAx1
          injection hAx1 with ea eb
          subst ea eb
          injection hAx2 with hAx2
          injection hAx2 with ea eb
          subst ea eb
          rw [Nat.zero_mul, Nat.zero_add, Nat.add_zero] at cx0
          rw [Nat.zero_mul, Nat.zero_add, Nat.add_zero] at cx1
          rw [Nat.zero_mul, Nat.zero_add, Nat.add_zero] at cx2
          subst hAx
          have b0 := HLB.out 0
          have b1 := HLB.out 1
          have b2 := HLB.out 2
          have hfs := HFS.out
          generalize L 0 = x0 at *
          generalize L 1 = x1 at *
          generalize L 2 = x2 at *
          have hs1 : IntKind.i64.wrap (x0 + x1) = x0 + x1 := IntWalk.i64_in _ (by omega)
          have hs2 : IntKind.i64.wrap (x0 + x1 + x2) = x0 + x1 + x2 := IntWalk.i64_in _ (by omega)
          have hn1z : (0 : Int) < (n1 : Int) := by omega
          subst hfs
          go_wp2_with fail
          go_quiet (fail)
          go_wp2_with fail
          go_ret
          exact ⟨rfl, below_drewG _ HMq.out.bel⟩
end Go.Proofs.Ytjlfnhfiiailgaa
