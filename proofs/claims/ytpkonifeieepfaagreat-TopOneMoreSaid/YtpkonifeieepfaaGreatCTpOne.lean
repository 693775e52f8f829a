/-
TopOneMore, walked.
-/
import Derived.Test.YtpkonifeieepfaaGreatCTpUse
import Derived.Test.YtpkonifeieepfaaGreatCTpOne0
import Derived.Test.YtpkonifeieepfaaGreatCTpHd
import Derived.Test.YtpkonifeieepfaaGreatGLOpen
import Derived.IntWalk
namespace Go.Proofs.YtpkonifeieepfaaGreat
open Go.RowKit
set_option linter.unusedVariables false
set_option linter.unusedSimpArgs false
theorem useB_loadO {s : GSite} {xs : List Int} (h : useB s xs = true) : loadB s xs = true := by
  unfold useB at h
  simp only [Bool.and_eq_true] at h
  unfold loadB
  rw [h.1.2, h.2]
  rfl
theorem rd3_atO {W : World} {a : Option Addr} {s : GSite} {xs : List Int} (h : Rd 3 enc3 W a (loadsOf s xs)) {i k : Nat} (hi : i < s.cons.length) (hk : k < 3) : ∃ b off, a = some ⟨b, off, none⟩ ∧ b < W.heap.size ∧ W.cell? ⟨b, off + i * 3 + k, none⟩ = some (.int .i64 (loadS s (fI xs) s.chgs.length (i * 3 + k))) := by
  obtain ⟨b, off, x, hA, hb, hx, hc⟩ := h.at_ (k := i) (by rw [loadsOf_len]; exact hi)
  rw [loadsOf_at hi] at hx
  injection hx with hx
  subst hx
  refine ⟨b, off, hA, hb, hc k _ ?_⟩
  match k, hk with
  | 0, _ => rfl
  | 1, _ => rfl
  | 2, _ => rfl
theorem bit_zero {ph : Int} {p : Nat} (hph : 1 ≤ ph ∧ ph ≤ 7) (hp : p < 3) : (bits BinOp.and .i64 (ph / 2 ^ p) 1 == 0) = !bitP ph p := by
  have h : ∀ q : Fin 8, ∀ p : Fin 3, (bits BinOp.and .i64 (((q.val : Nat) : Int) / 2 ^ p.val) 1 == 0) = !bitP ((q.val : Nat) : Int) p.val := by decide +kernel
  have e := h ⟨ph.toNat, by omega⟩ ⟨p, hp⟩
  dsimp only at e
  rw [show ((ph.toNat : Nat) : Int) = ph by omega] at e
  exact e
theorem Own.rdCap {w : World} {g : Nat} {t : TypeId} {c n : Nat} {F : Nat → Value} {f : Nat → Int} (h : Own w g t c F) (hn : n ≤ c) (hf : ∀ i, i < n → F i = .int .i64 (f i)) : Rd 1 encI w (some ⟨g, 0, none⟩) (rowN f n) := by
  refine h.rd (by rw [rowN_len]; omega) (fun _ => rfl) (fun k x hx j v hv => ?_)
  have hj : j = 0 := by have := (List.getElem?_eq_some_iff.1 hv).1; simp [encI] at this; exact this
  subst hj
  have hk : k < n := by have := (List.getElem?_eq_some_iff.1 hx).1; rw [rowN_len] at this; exact this
  have e := fI_rowT (f := f) hk
  unfold fI at e
  rw [hx] at e
  simp [encI] at hv
  rw [Nat.mul_one, Nat.add_zero, ← hv, hf k hk]
  have e2 : x = f k := e
  rw [e2]
set_option maxRecDepth 100000 in
set_option maxHeartbeats 16000000 in
theorem walk_TopOneMore (a1 : Option Addr) (n1 c1 : Nat) (a2 : Option Addr) (n2 c2 : Nat) (a3 : Option Addr) (n3 c3 : Nat) (a4 : Option Addr) (n4 c4 : Nat) (a5 : Option Addr) (n5 c5 : Nat) (s : GSite) {w : World} (HS : Hid (RdSite w a1 a2 a3 a4 a5 n1 n2 n3 n4 n5 s)) (_ : WfSite s) (aA : Option Addr) (cA nA : Nat) (xs : List Int) (hX : Rd 1 encI w aA xs) (HNA : Hid (xs.length = nA)) (hnA : nA ≤ 9223372036854775807) (_ : ∀ x, x ∈ xs → wfI64 x) (pk : Int) (hpk : (Lit.int .u8 pk).wf = true) :
    Calls Tryz.prog 4 #[.agg #[.slice a1 n1 c1, .slice a2 n2 c2, .slice a3 n3 c3, .slice a4 n4 c4, .slice a5 n5 c5], .slice aA nA cA, .int .u8 pk] w fun e w' => e = .returned (.bool true) ∧ Below w.heap.size w w' := by
  have HX := Lib.hid hX
  have hp0 : 0 ≤ pk ∧ pk ≤ 255 := by
    simp [Lit.wf, IntKind.min, IntKind.max, IntKind.signed, IntKind.bits] at hpk
    exact hpk
  clear hX hpk
  obtain ⟨W0, hW0⟩ : ∃ W0, W0 = w.alloc (.cells #[.slice a1 n1 c1, .slice a2 n2 c2, .slice a3 n3 c3, .slice a4 n4 c4, .slice a5 n5 c5] 28) := ⟨_, rfl⟩
  have hm0 : LwM w W0 w.heap.size a1 n1 c1 a2 n2 c2 a3 n3 c3 a4 n4 c4 a5 n5 c5 s := by
    rw [hW0]
    exact LwM.box (c1 := c1) (c2 := c2) (c3 := c3) (c4 := c4) (c5 := c5) HS.out
  have HM := Lib.hid hm0
  have HW0 := Lib.hid hW0
  clear hm0 hW0
  go_enter Tryz.func4, Tryz.ntmps4
  go_wp2_with fail
  rw [← HW0.out]
  clear HW0
  obtain ⟨X, hX0⟩ : ∃ X, X = w.heap.size := ⟨_, rfl⟩
  rw [← hX0] at HM ⊢
  have HSZ : Hid (w.heap.size = X) := Lib.hid hX0.symm
  clear hX0
  refine (tpHead_any W0).mono ?_
  rintro e w1 ⟨rfl, hb⟩
  have HM := Lib.hid (HM.out.keep (hb))
  clear hb
  obtain ⟨k0, k1, k2, k3, k4⟩ : w1.cell? ⟨X, 0, none⟩ = some (.slice a1 n1 c1) ∧ w1.cell? ⟨X, 1, none⟩ = some (.slice a2 n2 c2) ∧ w1.cell? ⟨X, 2, none⟩ = some (.slice a3 n3 c3) ∧ w1.cell? ⟨X, 3, none⟩ = some (.slice a4 n4 c4) ∧ w1.cell? ⟨X, 4, none⟩ = some (.slice a5 n5 c5) := ⟨HM.out.k0, HM.out.k1, HM.out.k2, HM.out.k3, HM.out.k4⟩
  have hlX : X < w1.heap.size := World.block_lt_of_cell? w1 _ k0
  go_wp2_with fail
  refine (tpUse_any a1 a2 a3 a4 a5 n1 c1 n2 c2 n3 c3 n4 c4 n5 c5 aA nA cA s xs w1 (Lib.hid HM.out.rs) (Lib.hid (HX.out.keep HM.out.bel)) HNA (by omega)).mono ?_
  rintro e w2 ⟨rfl, hb⟩
  have HM := Lib.hid (HM.out.keep (hb))
  clear hb
  clear k0 k1 k2 k3 k4 hlX
  obtain ⟨k0, k1, k2, k3, k4⟩ : w2.cell? ⟨X, 0, none⟩ = some (.slice a1 n1 c1) ∧ w2.cell? ⟨X, 1, none⟩ = some (.slice a2 n2 c2) ∧ w2.cell? ⟨X, 2, none⟩ = some (.slice a3 n3 c3) ∧ w2.cell? ⟨X, 3, none⟩ = some (.slice a4 n4 c4) ∧ w2.cell? ⟨X, 4, none⟩ = some (.slice a5 n5 c5) := ⟨HM.out.k0, HM.out.k1, HM.out.k2, HM.out.k3, HM.out.k4⟩
  have hlX : X < w2.heap.size := World.block_lt_of_cell? w2 _ k0
  obtain ⟨q, hq⟩ : ∃ q, q = useB s xs := ⟨_, rfl⟩
  rw [← hq]
  have HUxs := Lib.hid hq
  clear hq
  cases q
  · go_wp2_with fail
    go_ret
    exact ⟨rfl, HM.out.bel⟩
  have HLxs : Hid (loadB s xs = true) := Lib.hid (useB_loadO HUxs.out.symm)
  have HNN : Hid (nA = s.chgs.length ∧ nA = n4 ∧ nA ≤ 16 ∧ n1 = s.cons.length ∧ n1 ≤ 16) := Lib.hid (by
    have h1 := loadB_iff' HLxs.out
    have := h1.1.n5
    have := h1.1.n2
    have := HNA.out
    have := HM.out.rs.l1
    have := HM.out.rs.l4
    omega)
  obtain rfl : n4 = nA := HNN.out.2.1.symm
  have hn16 : n4 ≤ 16 := HNN.out.2.2.1
  have hn1 : n1 ≤ 16 := HNN.out.2.2.2.2
  by_cases hn4 : n4 = 0
  · have hn4z : decide ((n4 : Int) = 0) = true := decide_eq_true (by omega)
    subst hn4
    go_wp2_with fail
    go_ret
    exact ⟨rfl, HM.out.bel⟩
  have hn4z : ¬ (n4 : Int) = 0 := by omega
  go_wp2_with fail
  refine (prProve_any a1 a2 a3 a4 a5 n1 c1 n2 c2 n3 c3 n4 c4 n5 c5 aA n4 cA s xs w2 (Lib.hid HM.out.rs) (Lib.hid (HX.out.keep HM.out.bel)) HNA (by omega)).mono ?_
  rintro e v4 ⟨ap4, np4, cp4, aw4, nw4, cw4, ps4, ws4, er4, rfl, hp, hpl, hw, hwl, HR4, hb⟩
  have HM := Lib.hid (HM.out.keep (hb))
  have HP4 := Lib.hid hp
  have HPL4 := Lib.hid hpl
  clear hp hpl hw hwl hb
  clear k0 k1 k2 k3 k4 hlX
  rcases pvR_er HR4.out with he | he | he
  · subst he
    go_wp2_with fail
    go_ret
    exact ⟨rfl, HM.out.bel.alloc HM.out.bel.size _⟩
  · subst he
    go_wp2_with fail
    go_ret
    exact ⟨rfl, HM.out.bel.alloc HM.out.bel.size _⟩
  obtain ⟨hlb, hvb, hpb⟩ := pvR_0 HR4.out he
  subst he hpb
  have HVx := Lib.hid hvb
  clear hlb hvb HR4
  have hnp : n1 = np4 := by rw [← HPL4.out, loadsOf_len]; exact HM.out.rs.l1.symm
  subst hnp
  clear HPL4
  obtain ⟨j, hj, hjn⟩ : ∃ j : Nat, pk % (n4 : Int) = (j : Int) ∧ j < n4 := by
    have h1 := Int.emod_nonneg pk hn4z
    have h2 := Int.emod_lt_of_pos pk (show (0 : Int) < (n4 : Int) by omega)
    exact ⟨(pk % (n4 : Int)).toNat, by omega, by omega⟩
  have HJ := Lib.hid hj
  clear hj
  go_upto_region 5 with (fail)
  obtain ⟨V4, hV4⟩ : ∃ W, W = v4.alloc (.cells #[.slice ap4 n1 cp4] 34) := ⟨_, rfl⟩
  obtain ⟨X4, hX4⟩ : ∃ W, W = v4.heap.size := ⟨_, rfl⟩
  have hb : Below v4.heap.size v4 V4 := by rw [hV4]; exact (Below.refl _ _).alloc (Nat.le_refl _) _
  have HBX4 : Hid (Own V4 X4 34 1 (fun _ => .slice ap4 n1 cp4)) := Lib.hid (by rw [hV4, hX4]; exact Own.one _ _ _)
  have HM := Lib.hid (HM.out.keep (hb))
  have HP4 := Lib.hid (HP4.out.keep hb)
  clear hb
  have HV4 := Lib.hid hV4
  have HX4 := Lib.hid hX4
  clear hV4 hX4
  obtain ⟨k0, k1, k2, k3, k4⟩ : V4.cell? ⟨X, 0, none⟩ = some (.slice a1 n1 c1) ∧ V4.cell? ⟨X, 1, none⟩ = some (.slice a2 n2 c2) ∧ V4.cell? ⟨X, 2, none⟩ = some (.slice a3 n3 c3) ∧ V4.cell? ⟨X, 3, none⟩ = some (.slice a4 n4 c4) ∧ V4.cell? ⟨X, 4, none⟩ = some (.slice a5 n5 c5) := ⟨HM.out.k0, HM.out.k1, HM.out.k2, HM.out.k3, HM.out.k4⟩
  have hlX : X < V4.heap.size := World.block_lt_of_cell? V4 _ k0
  rw [← HV4.out, ← HX4.out]
  clear HV4 HX4
  obtain ⟨bx, ox, hA, hbx, hcx⟩ := (HX.out.keep HM.out.bel).int (k := j) (by have := HNA.out; omega)
  have hx80 := (loadB_iff' HLxs.out).2.2 j (by have := HNA.out; omega)
  change V4.cell? ⟨bx, ox + j, none⟩ = some (.int .i64 (fI xs j)) at hcx
  obtain ⟨x, hxe⟩ : ∃ x, x = fI xs j := ⟨_, rfl⟩
  rw [← hxe] at hcx hx80
  have HXE := Lib.hid hxe
  clear hxe
  subst hA
  have hjz : (j : Int) < (n4 : Int) := by omega
  go_upto_region 6 with (fail)
  rw [HJ.out]
  by_cases h80 : 80 ≤ x
  · have h80d : decide (80 ≤ x) = true := decide_eq_true h80
    go_wp2_with fail
    go_ret
    exact ⟨rfl, HM.out.bel⟩
  have h80d : decide (80 ≤ x) = false := decide_eq_false h80
  have al : Below V4.heap.size V4 (V4.alloc (.cells #[] 3)) := (Below.refl _ V4).alloc (Nat.le_refl _) _
  obtain ⟨ap, v2, w5, av, aw, HO5, HA5⟩ := app_argR (P := Tryz.prog) (ty := 29) (c := cA) (m := n4) appInfoNum Tryz.underlying29 rfl (by omega) encI_len1 encI_one (own_lit0 V4) ((HX.out.keep HM.out.bel).keep al) HNA.out al.size (by simp; unfold maxLen; omega) (by simp; omega)
  have hb5 : Below V4.heap.size V4 w5 := al.trans HA5.out.bel
  obtain ⟨A2, cb, hv2, _⟩ := HO5.out.rd encI_len1
  have hlen : (([] : List Int) ++ xs).length = n4 := by rw [List.nil_append]; exact HNA.out
  rw [hlen] at hv2
  have hO5 := HO5.out
  rw [hv2] at hO5
  have hrow := RowX.of (n := n4) hO5 hlen
  obtain ⟨gb, F, hA2, hgb, hnc, hOb, hF⟩ := hrow (by omega)
  rw [hA2] at hv2
  have hF2 : ∀ i, i < n4 → F i = .int .i64 (fI xs i) := fun i hi => by
    rw [hF i hi, List.nil_append]
    rfl
  subst hv2
  have hcb := hOb.cell (i := j) (by omega)
  rw [hF2 j hjn, ← HXE.out] at hcb
  have hfb := hOb.frozen j
  have hlb := hOb.lt
  have HOb := Lib.hid hOb
  have HF2 := Lib.hid hF2
  have HG := Lib.hid hgb
  have hsum : IntKind.i64.wrap (x + 1) = x + 1 := IntWalk.i64_in _ (by omega)
  have hb6 : Below V4.heap.size V4 (w5.setCell ⟨gb, j, none⟩ (.int .i64 (x + 1))) := Mod.below ((Mod.of_below hb5).setCell (p := ⟨gb, j, none⟩) (.inl hgb) _) (Nat.le_refl _) (fun _ _ h => h)
  have HNC := Lib.hid hnc
  clear HO5 HA5 hO5 hlen hb5 hrow hF hF2 hOb al hgb hA2 hnc
  have HB6 := Lib.hid hb6
  clear hb6
  clear k0 k1 k2 k3 k4 hlX
  go_upto_region 10 with (fail)
  have HRb : Hid (Rd 1 encI (w5.setCell ⟨gb, j, none⟩ (.int .i64 (x + 1))) (some ⟨gb, 0, none⟩) (incL xs j)) := Lib.hid (by
    unfold incL
    rw [HNA.out]
    refine (HOb.out.set j (.int .i64 (x + 1))).rdCap HNC.out (fun i hi => ?_)
    unfold incF
    by_cases e : i = j
    · rw [if_pos e, if_pos e, e, ← HXE.out]
    · rw [if_neg e, if_neg e, HF2.out i hi])
  obtain ⟨w6, hW6⟩ : ∃ W, W = w5.setCell ⟨gb, j, none⟩ (.int .i64 (x + 1)) := ⟨_, rfl⟩
  rw [← hW6] at HRb HB6 ⊢
  have hb := HB6.out
  have HIN : Hid ((incL xs j).length = n4) := Lib.hid (by unfold incL; rw [rowN_len]; exact HNA.out)
  clear hW6 HOb HF2 hcb hfb hlb ap av aw hsum HB6 HNC HG
  have HM := Lib.hid (HM.out.keep (hb))
  have HP4 := Lib.hid (HP4.out.keep hb)
  have HBX4 := Lib.hid (HBX4.out.keep hb HBX4.out.lt)
  clear hb
  obtain ⟨k0, k1, k2, k3, k4⟩ : w6.cell? ⟨X, 0, none⟩ = some (.slice a1 n1 c1) ∧ w6.cell? ⟨X, 1, none⟩ = some (.slice a2 n2 c2) ∧ w6.cell? ⟨X, 2, none⟩ = some (.slice a3 n3 c3) ∧ w6.cell? ⟨X, 3, none⟩ = some (.slice a4 n4 c4) ∧ w6.cell? ⟨X, 4, none⟩ = some (.slice a5 n5 c5) := ⟨HM.out.k0, HM.out.k1, HM.out.k2, HM.out.k3, HM.out.k4⟩
  have hlX : X < w6.heap.size := World.block_lt_of_cell? w6 _ k0
  have hoc : okCh s (j : Int) = true := okCh_yes (okSB_iff.2 (loadB_iff' HLxs.out).1) ⟨by omega, by have := HNN.out; omega⟩
  go_wp2_with fail
  refine (trPath_any a1 a2 a3 a4 a5 n1 c1 n2 c2 n3 c3 n4 c4 n5 c5 s (j : Int) w6 (Lib.hid HM.out.rs)).mono ?_
  rintro e w7 ⟨ax, cx, rfl, hr, hb⟩
  rw [pathO_yes hoc, Int.toNat_natCast] at hr ⊢
  rw [hoc, show errO true = 0 from rfl]
  obtain ⟨pa, hpa⟩ : ∃ pa, pa = pthI s.cons (placeOf s j) := ⟨_, rfl⟩
  rw [← hpa] at hr ⊢
  obtain ⟨m, hm⟩ : ∃ m, m = pa.length := ⟨_, rfl⟩
  rw [← hm]
  have HPA := Lib.hid hpa
  have HPM := Lib.hid hm
  have hm16 : m ≤ 16 := by
    have hk := (loadB_iff' HLxs.out).1
    have hjl : j < s.chgs.length := by have := HNN.out; omega
    obtain ⟨p1, p2, p3⟩ := hk.place (List.getElem?_eq_getElem hjl)
    have h1 := pth_len hk.ups (placeOf s j) (by omega)
    rw [hm, hpa]
    unfold pthI
    rw [List.length_map]
    have := hk.n2
    omega
  have HPR := Lib.hid hr
  have HM := Lib.hid (HM.out.keep (hb))
  have HP4 := Lib.hid (HP4.out.keep hb)
  have HBX4 := Lib.hid (HBX4.out.keep hb HBX4.out.lt)
  have HRb := Lib.hid (HRb.out.keep hb)
  clear hb hr hm hpa hoc
  clear k0 k1 k2 k3 k4 hlX
  obtain ⟨k0, k1, k2, k3, k4⟩ : w7.cell? ⟨X, 0, none⟩ = some (.slice a1 n1 c1) ∧ w7.cell? ⟨X, 1, none⟩ = some (.slice a2 n2 c2) ∧ w7.cell? ⟨X, 2, none⟩ = some (.slice a3 n3 c3) ∧ w7.cell? ⟨X, 3, none⟩ = some (.slice a4 n4 c4) ∧ w7.cell? ⟨X, 4, none⟩ = some (.slice a5 n5 c5) := ⟨HM.out.k0, HM.out.k1, HM.out.k2, HM.out.k3, HM.out.k4⟩
  have hlX : X < w7.heap.size := World.block_lt_of_cell? w7 _ k0
  go_wp2_with fail
  refine (prProve_any a1 a2 a3 a4 a5 n1 c1 n2 c2 n3 c3 n4 c4 n5 c5 (some ⟨gb, 0, none⟩) n4 cb s (incL xs j) w7 (Lib.hid HM.out.rs) HRb HIN (by omega)).mono ?_
  rintro e v9 ⟨ap9, np9, cp9, aw9, nw9, cw9, ps9, ws9, er9, rfl, hp, hpl, hw, hwl, HR9, hb⟩
  have HM := Lib.hid (HM.out.keep (hb))
  have HP9 := Lib.hid hp
  have HPL9 := Lib.hid hpl
  have HP4 := Lib.hid (HP4.out.keep hb)
  have HBX4 := Lib.hid (HBX4.out.keep hb HBX4.out.lt)
  have HPR := Lib.hid (HPR.out.keep hb)
  clear hp hpl hw hwl hb
  clear k0 k1 k2 k3 k4 hlX
  have HEND : Hid ((rmP s xs j pa m = true ∧ er9 = 0) ∨ (rmP s xs j pa m = false ∧ er9 = 13)) := Lib.hid (by
    have h := inc_pv HLxs.out HVx.out (j := j) (by have := HNA.out; omega) (by rw [← HXE.out]; omega) HR9.out
    rw [HPM.out, HPA.out]
    exact h)
  clear HR9 HP9 HPL9 HRb HIN
  go_upto_region 12 with (fail)
  obtain ⟨V9, hV9⟩ : ∃ W, W = v9.alloc (.cells #[.slice ap9 np9 cp9] 34) := ⟨_, rfl⟩
  obtain ⟨X9, hX9⟩ : ∃ W, W = v9.heap.size := ⟨_, rfl⟩
  have hb : Below v9.heap.size v9 V9 := by rw [hV9]; exact (Below.refl _ _).alloc (Nat.le_refl _) _
  have HBX9 : Hid (Own V9 X9 34 1 (fun _ => .slice ap9 np9 cp9)) := Lib.hid (by rw [hV9, hX9]; exact Own.one _ _ _)
  have HM := Lib.hid (HM.out.keep (hb))
  have HP4 := Lib.hid (HP4.out.keep hb)
  have HBX4 := Lib.hid (HBX4.out.keep hb HBX4.out.lt)
  have HPR := Lib.hid (HPR.out.keep hb)
  clear hb
  have HV9 := Lib.hid hV9
  have HX9 := Lib.hid hX9
  clear hV9 hX9
  obtain ⟨k0, k1, k2, k3, k4⟩ : V9.cell? ⟨X, 0, none⟩ = some (.slice a1 n1 c1) ∧ V9.cell? ⟨X, 1, none⟩ = some (.slice a2 n2 c2) ∧ V9.cell? ⟨X, 2, none⟩ = some (.slice a3 n3 c3) ∧ V9.cell? ⟨X, 3, none⟩ = some (.slice a4 n4 c4) ∧ V9.cell? ⟨X, 4, none⟩ = some (.slice a5 n5 c5) := ⟨HM.out.k0, HM.out.k1, HM.out.k2, HM.out.k3, HM.out.k4⟩
  have hlX : X < V9.heap.size := World.block_lt_of_cell? V9 _ k0
  rw [← HV9.out, ← HX9.out]
  clear HV9 HX9
  have x4 : V9.cell? ⟨X4, 0, none⟩ = some (.slice ap4 n1 cp4) := HBX4.out.cell (i := 0) (by omega)
  have l4 : X4 < V9.heap.size := HBX4.out.lt
  go_upto_region 16 with (fail)
  clear k0 k1 k2 k3 k4 hlX x4 l4
  have HBL0 : Hid (Below V9.heap.size V9 V9) := Lib.hid (Below.refl _ _)
  go_loopg [18, 92] m (fun g1 v18 v92 wr => ∃ i : Nat, v92 = .int .i64 i ∧ v18 = .bool (rmP s xs j pa i) ∧ i ≤ m ∧ m - i ≤ g1 ∧ Hid (Below V9.heap.size V9 wr))
  case atStart => exact ⟨0, by go_num, rfl, by omega, by omega, HBL0⟩
  case round =>
    clear HBL0
    obtain ⟨i, rfl, hv18, hi, hg1, HBL⟩ := hrel
    subst hv18
    by_cases hlt : i < m
    · have hltz : (i : Int) < (m : Int) := by omega
      obtain ⟨bp, op, hAp, hbp, hcp⟩ := (HPR.out.keep HBL.out).int (k := i) (by have := HPM.out; omega)
      have hmem : fI pa i ∈ pthI s.cons (placeOf s j) := by
        rw [← HPA.out]
        unfold fI
        rw [List.getElem?_eq_getElem (by have := HPM.out; omega)]
        exact List.getElem_mem _
      obtain ⟨hc0, hc1, _⟩ := path_mem (loadB_iff' HLxs.out).1 (by have := HNN.out; omega) hmem
      obtain ⟨hoc, hlo⟩ := limO_at (okSB_iff.2 (loadB_iff' HLxs.out).1) hc0 hc1
      change wr.cell? ⟨bp, op + i, none⟩ = some (.int .i64 (fI pa i)) at hcp
      obtain ⟨cn, hcn⟩ : ∃ cn : Nat, fI pa i = (cn : Int) := ⟨(fI pa i).toNat, by omega⟩
      have HSUC : Hid (rmP s xs j pa (i + 1) = (rmP s xs j pa i && rmC s xs j (cn : Int) 3)) := Lib.hid (by rw [← hcn]; exact rmP_succ (by have := HPM.out; omega))
      rw [hcn] at hc1 hoc hlo hcp
      rw [Int.toNat_natCast] at hlo
      have HCN : Hid (cn < n1 ∧ cn < s.cons.length) := Lib.hid (by have := HNN.out; omega)
      have hcl : cn < n1 := HCN.out.1
      have hclz : ¬ ((n1 : Nat) : Int) ≤ (cn : Int) := by omega
      clear hmem hc0 hc1 hcn
      subst hAp
      have HMr := Lib.hid (HM.out.keep HBL.out)
      have HOC := Lib.hid hoc
      have HLO := Lib.hid hlo
      clear hoc hlo
      obtain ⟨k0, k1, k2, k3, k4⟩ : wr.cell? ⟨X, 0, none⟩ = some (.slice a1 n1 c1) ∧ wr.cell? ⟨X, 1, none⟩ = some (.slice a2 n2 c2) ∧ wr.cell? ⟨X, 2, none⟩ = some (.slice a3 n3 c3) ∧ wr.cell? ⟨X, 3, none⟩ = some (.slice a4 n4 c4) ∧ wr.cell? ⟨X, 4, none⟩ = some (.slice a5 n5 c5) := ⟨HMr.out.k0, HMr.out.k1, HMr.out.k2, HMr.out.k3, HMr.out.k4⟩
      have hlX : X < wr.heap.size := World.block_lt_of_cell? wr _ k0
      go_wp2_with fail
      refine (limLimit_any a1 a2 a3 a4 a5 n1 c1 n2 c2 n3 c3 n4 c4 n5 c5 s (cn : Int) wr (Lib.hid HMr.out.rs)).mono ?_
      rintro e w10 ⟨rfl, hb⟩
      rw [HOC.out, HLO.out, show errO true = 0 from rfl]
      obtain ⟨L, hL⟩ : ∃ L, L = limAt s cn := ⟨_, rfl⟩
      rw [← hL]
      have HLL := Lib.hid hL
      have HBL := Lib.hid (HBL.out.trans (hb.mono HBL.out.size))
      have HM1 := Lib.hid (HMr.out.keep hb)
      clear hb hL hcp HMr HOC HLO k0 k1 k2 k3 k4 hlX
      have x4 : w10.cell? ⟨X4, 0, none⟩ = some (.slice ap4 n1 cp4) := (HBX4.out.keep HBL.out HBX4.out.lt).cell (i := 0) (by omega)
      have l4 : X4 < w10.heap.size := (HBX4.out.keep HBL.out HBX4.out.lt).lt
      go_upto_region 22 with (fail)
      clear x4 l4
      obtain ⟨q0, hq0⟩ : ∃ q, q = rmP s xs j pa i := ⟨_, rfl⟩
      rw [← hq0] at HSUC ⊢
      clear hq0
      go_loopg [18, 115] 3 (fun g2 v18 v115 wr => ∃ p : Nat, v115 = .int .i64 p ∧ v18 = .bool (q0 && rmC s xs j (cn : Int) p) ∧ p ≤ 3 ∧ 3 - p ≤ g2 ∧ Hid (Below V9.heap.size V9 wr))
      case atStart => exact ⟨0, by go_num, by rw [rmC_zero, Bool.and_true], by omega, by omega, HBL⟩
      case round =>
        clear HBL HM1
        obtain ⟨p, rfl, hv18, hp, hg2, HBL⟩ := hrel
        subst hv18
        by_cases hpt : p < 3
        · have hptz : (p : Int) < 3 := by omega
          have HCS : Hid (rmC s xs j (cn : Int) (p + 1) = (rmC s xs j (cn : Int) p && (!bitP (phOf s j) p || decide (loadS s (fI xs) s.chgs.length (cn * 3 + p) < L)))) := Lib.hid (by rw [rmC_succ]; unfold rmB; rw [Int.toNat_natCast, HLL.out])
          obtain ⟨q, hq⟩ : ∃ q, q = (q0 && rmC s xs j (cn : Int) p) := ⟨_, rfl⟩
          rw [← hq]
          have HQ := Lib.hid hq
          clear hq
          cases q
          · have HQ2 : Hid ((q0 && rmC s xs j (cn : Int) (p + 1)) = false) := Lib.hid (by rw [HCS.out, ← Bool.and_assoc, ← HQ.out]; rfl)
            go_wp2_with fail
            go_roundg (3 - (p + 1))
            case measure => omega
            case rel => exact ⟨p + 1, by go_num, by rw [HQ2.out], by omega, by omega, HBL⟩
          obtain ⟨b4, o4, g, hA4, hb4, hg4, hgc⟩ := (HM.out.keep HBL.out).rs.r4.at_ (k := j) (by have := HNN.out; omega)
          have hph := hgc 2 (.int .i64 g.ph) rfl
          have HPH : Hid (phOf s j = g.ph ∧ 1 ≤ g.ph ∧ g.ph ≤ 7) := Lib.hid (by
            refine ⟨by unfold phOf; rw [hg4]; rfl, ?_⟩
            have h1 := (loadB_iff' HLxs.out).1.chg g (List.mem_of_getElem? hg4)
            unfold okChg at h1
            simp only [decide_eq_true_eq] at h1
            exact h1.2.2.1)
          have hph17 : 1 ≤ g.ph ∧ g.ph ≤ 7 := HPH.out.2
          have k3 : wr.cell? ⟨X, 3, none⟩ = some (.slice a4 n4 c4) := (HM.out.keep HBL.out).k3
          have hlX : X < wr.heap.size := World.block_lt_of_cell? wr _ k3
          have hjn4 : (j : Int) < (n4 : Int) := by omega
          have hbz := bit_zero (ph := g.ph) (p := p) HPH.out.2 hpt
          subst hA4
          clear hgc hg4
          have x4 : wr.cell? ⟨X4, 0, none⟩ = some (.slice ap4 n1 cp4) := (HBX4.out.keep HBL.out HBX4.out.lt).cell (i := 0) (by omega)
          have l4 : X4 < wr.heap.size := (HBX4.out.keep HBL.out HBX4.out.lt).lt
          obtain ⟨b6, o6, e6, hb6, hc6⟩ := rd3_atO (HP4.out.keep HBL.out) HCN.out.2 hpt
          have hbd := load_bd HLxs.out (cn * 3 + p)
          subst e6
          rw [HPH.out.1] at HCS
          generalize loadS s (fI xs) s.chgs.length (cn * 3 + p) = z at *
          obtain ⟨bt, hbt⟩ : ∃ b, b = bitP g.ph p := ⟨_, rfl⟩
          rw [← hbt] at hbz HCS
          have HQ2 : Hid ((q0 && rmC s xs j (cn : Int) (p + 1)) = (!bt || decide (z < L))) := Lib.hid (by rw [HCS.out, ← Bool.and_assoc, ← HQ.out]; rfl)
          clear hbt HCS
          cases bt
          · go_wp2_with fail
            go_roundg (3 - (p + 1))
            case measure => omega
            case rel => exact ⟨p + 1, by go_num, by rw [HQ2.out]; rfl, by omega, by omega, HBL⟩
          · go_wp2_with fail
            go_roundg (3 - (p + 1))
            case measure => omega
            case rel => exact ⟨p + 1, by go_num, by rw [HQ2.out]; rfl, by omega, by omega, HBL⟩
        · have hptz : ¬ (p : Int) < 3 := by omega
          obtain rfl : p = 3 := by omega
          go_wp2_with fail
          go_roundg (m - (i + 1))
          case measure => omega
          case rel => exact ⟨i + 1, by go_num, by rw [HSUC.out], by omega, by omega, HBL⟩
    · have hltz : ¬ (i : Int) < (m : Int) := by omega
      obtain rfl : i = m := by omega
      rcases HEND.out with ⟨h1, h2⟩ | ⟨h1, h2⟩
      · subst h2
        rw [h1]
        go_wp2_with fail
        go_ret
        exact ⟨rfl, HM.out.bel.trans (HBL.out.mono HM.out.bel.size)⟩
      · subst h2
        rw [h1]
        go_wp2_with fail
        go_ret
        exact ⟨rfl, HM.out.bel.trans (HBL.out.mono HM.out.bel.size)⟩
end Go.Proofs.YtpkonifeieepfaaGreat
