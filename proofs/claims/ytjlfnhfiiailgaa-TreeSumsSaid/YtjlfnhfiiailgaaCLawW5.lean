/-
TreeOne, walked.
-/
import Derived.Test.YtjlfnhfiiailgaaCLawW5a
import Derived.IntWalk
namespace Go.Proofs.Ytjlfnhfiiailgaa
open Go.RowKit
set_option linter.unusedVariables false
set_option linter.unusedSimpArgs false
theorem bit_shr {ph : Int} {p : Nat} (hph : 1 ≤ ph ∧ ph ≤ 7) (hp : p < 3) : (bits BinOp.and .i64 (ph / 2 ^ p) 1 == 1) = bitP ph p := by
  have h : ∀ q : Fin 8, ∀ p : Fin 3, (bits BinOp.and .i64 (((q.val : Nat) : Int) / 2 ^ p.val) 1 == 1) = bitP ((q.val : Nat) : Int) p.val := by decide +kernel
  have e := h ⟨ph.toNat, by omega⟩ ⟨p, hp⟩
  dsimp only at e
  rw [show ((ph.toNat : Nat) : Int) = ph by omega] at e
  exact e
set_option maxRecDepth 100000 in
set_option maxHeartbeats 16000000 in
theorem walk_TreeOne (a1 : Option Addr) (n1 c1 : Nat) (a2 : Option Addr) (n2 c2 : Nat) (a3 : Option Addr) (n3 c3 : Nat) (a4 : Option Addr) (n4 c4 : Nat) (a5 : Option Addr) (n5 c5 : Nat) (s : GSite) {w : World} (HS : Hid (RdSite w a1 a2 a3 a4 a5 n1 n2 n3 n4 n5 s)) (_ : WfSite s) (B1 : Option Addr) (d1 e1 : Nat) (bs : List Int) (hX1 : Rd 1 encU8 w B1 bs) (HN1 : Hid (bs.length = e1)) (he1 : e1 ≤ 9223372036854775807) (hw1 : ∀ x, x ∈ bs → (Lit.int .u8 x).wf = true) (pk : Int) (hpk : (Lit.int .u8 pk).wf = true) (mr : Int) (hmr : (Lit.int .u8 mr).wf = true) :
    Calls Try.prog 8 #[.agg #[.slice a1 n1 c1, .slice a2 n2 c2, .slice a3 n3 c3, .slice a4 n4 c4, .slice a5 n5 c5], .slice B1 e1 d1, .int .u8 pk, .int .u8 mr] w fun e w' => e = .returned (.bool true) ∧ Below w.heap.size w w' := by
  have HB8 := Lib.hid (u8L_bd hw1)
  have HX1 := Lib.hid hX1
  have HM0 := Lib.hid (LwM.box (c1 := c1) (c2 := c2) (c3 := c3) (c4 := c4) (c5 := c5) HS.out)
  clear hX1 hw1
  have hp0 : 0 ≤ pk ∧ pk ≤ 255 := by
    simp [Lit.wf, IntKind.min, IntKind.max, IntKind.signed, IntKind.bits] at hpk
    exact hpk
  have hm0 : 0 ≤ mr ∧ mr ≤ 255 := by
    simp [Lit.wf, IntKind.min, IntKind.max, IntKind.signed, IntKind.bits] at hmr
    exact hmr
  clear hpk hmr
  go_enter Try.func8, Try.ntmps8
  go_wp2_with fail
  refine (ltHead_any _).mono ?_
  rintro e w1 ⟨rfl, hb⟩
  have HM := Lib.hid (HM0.out.keep hb)
  generalize hXX : w.heap.size = X at HM ⊢
  have HXX := Lib.hid hXX
  clear hb HM0 hXX
  have hlX : X < w1.heap.size := World.block_lt_of_cell? w1 _ HM.out.k0
  obtain ⟨k0, k1, k2, k3, k4⟩ : w1.cell? ⟨X, 0, none⟩ = some (.slice a1 n1 c1) ∧ w1.cell? ⟨X, 1, none⟩ = some (.slice a2 n2 c2) ∧ w1.cell? ⟨X, 2, none⟩ = some (.slice a3 n3 c3) ∧ w1.cell? ⟨X, 3, none⟩ = some (.slice a4 n4 c4) ∧ w1.cell? ⟨X, 4, none⟩ = some (.slice a5 n5 c5) := ⟨HM.out.k0, HM.out.k1, HM.out.k2, HM.out.k3, HM.out.k4⟩
  go_wp2_with fail
  refine (ltUsable_any a1 a2 a3 a4 a5 n1 c1 n2 c2 n3 c3 n4 c4 n5 c5 s w1 (Lib.hid HM.out.rs)).mono ?_
  rintro e w2 ⟨rfl, hb⟩
  have HM2 := Lib.hid (HM.out.keep hb)
  clear HM
  have HM := HM2
  clear HM2
  clear hb
  clear k0 k1 k2 k3 k4 hlX
  cases hf : usableB s
  · go_wp2_with fail
    go_ret
    exact ⟨rfl, HM.out.bel⟩
  have HOKB := Lib.hid (usableB_ok hf)
  have HOK := Lib.hid (okSB_iff.1 (usableB_ok hf))
  clear hf
  have hn4b : n4 ≤ 16 := by have := HOK.out.n5; have := HM.out.rs.l4; omega
  have hn1b : n1 ≤ 16 := by have := HOK.out.n2; have := HM.out.rs.l1; omega
  have hn1p : 0 < n1 := by have := HOK.out.n1; have := HM.out.rs.l1; omega
  have hlX : X < w2.heap.size := World.block_lt_of_cell? w2 _ HM.out.k0
  obtain ⟨k0, k1, k2, k3, k4⟩ : w2.cell? ⟨X, 0, none⟩ = some (.slice a1 n1 c1) ∧ w2.cell? ⟨X, 1, none⟩ = some (.slice a2 n2 c2) ∧ w2.cell? ⟨X, 2, none⟩ = some (.slice a3 n3 c3) ∧ w2.cell? ⟨X, 3, none⟩ = some (.slice a4 n4 c4) ∧ w2.cell? ⟨X, 4, none⟩ = some (.slice a5 n5 c5) := ⟨HM.out.k0, HM.out.k1, HM.out.k2, HM.out.k3, HM.out.k4⟩
  by_cases hn4 : n4 = 0
  · subst hn4
    go_wp2_with fail
    go_ret
    exact ⟨rfl, HM.out.bel⟩
  have hn4z : ¬ (n4 : Int) = 0 := by omega
  obtain ⟨k, hk, hkn⟩ : ∃ k : Nat, pk % (n4 : Int) = (k : Int) ∧ k < n4 := by
    have h1 := Int.emod_nonneg pk hn4z
    have h2 := Int.emod_lt_of_pos pk (show (0 : Int) < (n4 : Int) by omega)
    exact ⟨(pk % (n4 : Int)).toNat, by omega, by omega⟩
  have HK := Lib.hid hk
  clear hk
  go_wp2_with fail
  rw [HK.out]
  refine (ltCurr_any a1 a2 a3 a4 a5 n1 c1 n2 c2 n3 c3 n4 c4 n5 c5 (by omega) B1 e1 d1 bs w2 (Lib.hid (HX1.out.keep HM.out.bel)) HN1 he1 HB8).mono ?_
  rintro e w3 ⟨g, hgg, rfl, ho, hb⟩
  have HM2 := Lib.hid (HM.out.keep hb)
  clear HM
  have HM := HM2
  clear HM2
  have HOa := Lib.hid ho
  have hXg : X < g := by omega
  have HCB := Lib.hid (fun i => curF_bd HB8.out i)
  clear ho hb hgg
  clear k0 k1 k2 k3 k4 hlX
  have hlg := HOa.out.lt
  have al : Below w3.heap.size w3 (w3.alloc (.cells #[] 3)) := (Below.refl _ w3).alloc (Nat.le_refl _) _
  obtain ⟨ap, v2, w5, av, aw, HO5, HA5⟩ := app_argR (P := Try.prog) (ty := 29) (c := n4) (m := n4) appInfoNum Try.underlying29 rfl (by omega) encI_len1 encI_one (own_lit0 w3) ((HOa.out.rdA).keep al) (ampL_len _ _) al.size (by simp; unfold maxLen; omega) (by simp; omega)
  have hb5 : Below w3.heap.size w3 w5 := al.trans HA5.out.bel
  obtain ⟨A2, cb, hv2, _⟩ := HO5.out.rd encI_len1
  have hlen : (([] : List Int) ++ ampL (curF bs) n4).length = n4 := by rw [List.nil_append, ampL_len]
  rw [hlen] at hv2
  have hO5 := HO5.out
  rw [hv2] at hO5
  have hrow := RowX.of (n := n4) hO5 hlen
  obtain ⟨gb, F, hA2, hgb, hnc, hOb, hF⟩ := hrow (by omega)
  rw [hA2] at hv2
  have hF2 : ∀ i, i < n4 → F i = .int .i64 (curF bs i) := fun i hi => by
    rw [hF i hi]
    show Value.int .i64 (fAt ([] ++ ampL (curF bs) n4) i) = _
    have e : fAt ([] ++ ampL (curF bs) n4) i = curF bs i := by
      rw [List.nil_append]
      exact ampL_at _ hi
    rw [e]
  subst hv2
  have HM5 := Lib.hid (HM.out.keep hb5)
  have HOa5 := Lib.hid (HOa.out.keep hb5 hlg)
  have hck := HOa5.out.cell (i := k) hkn
  have hcb := hOb.cell (i := k) (by omega)
  rw [hF2 k hkn] at hcb
  have hfb := hOb.frozen k
  have hlb := hOb.lt
  have hcx := HCB.out k
  have HOb := Lib.hid hOb
  have HF2 := Lib.hid hF2
  have hsz : w3.heap.size ≤ w5.heap.size := hb5.size
  have HG := Lib.hid hgb
  clear HO5 HA5 hO5 hlen hb5 hrow hF hF2 hOb al HOa HM hgb hA2
  have HMr := Lib.hid (fun W' (hm : Mod (fun j => j = gb) w5 W') => HM5.out.mod HS.out hm (by have := HG.out; omega) (fun j hj => by have := HG.out; have := HXX.out; omega))
  obtain ⟨d, hd⟩ : ∃ d, d = mr % (81 - curF bs k) := ⟨_, rfl⟩
  have hdb : 0 ≤ d ∧ d ≤ 80 - curF bs k := by
    have h1 := Int.emod_nonneg mr (show (81 - curF bs k) ≠ 0 by omega)
    have h2 := Int.emod_lt_of_pos mr (show 0 < (81 - curF bs k) by omega)
    omega
  have HD := Lib.hid hd
  generalize hcx2 : curF bs k = x at *
  have HCX := Lib.hid hcx2
  have hsub : IntKind.i64.wrap (81 - x) = 81 - x := IntWalk.i64_in _ (by omega)
  have hne : ¬ (81 - x = 0) := by omega
  have hsum : IntKind.i64.wrap (x + d) = x + d := IntWalk.i64_in _ (by omega)
  have hkz : (k : Int) < (n4 : Int) := by omega
  clear hcx2 hd
  have hsum2 : IntKind.i64.wrap (x + mr % (81 - x)) = x + mr % (81 - x) := by rw [← HD.out]; exact hsum
  have hlX : X < w5.heap.size := World.block_lt_of_cell? w5 _ HM5.out.k0
  obtain ⟨k0, k1, k2, k3, k4⟩ : w5.cell? ⟨X, 0, none⟩ = some (.slice a1 n1 c1) ∧ w5.cell? ⟨X, 1, none⟩ = some (.slice a2 n2 c2) ∧ w5.cell? ⟨X, 2, none⟩ = some (.slice a3 n3 c3) ∧ w5.cell? ⟨X, 3, none⟩ = some (.slice a4 n4 c4) ∧ w5.cell? ⟨X, 4, none⟩ = some (.slice a5 n5 c5) := ⟨HM5.out.k0, HM5.out.k1, HM5.out.k2, HM5.out.k3, HM5.out.k4⟩
  have hlX0 : X < (w3.alloc (.cells #[] 3)).heap.size := by simp; omega
  go_upto_region 9 with (fail)
  rw [← HD.out]
  have hm6 : Mod (fun j => j = gb) w5 (w5.setCell ⟨gb, k, none⟩ (.int .i64 (x + d))) := (Mod.refl (fun j => j = gb) w5).setCell (p := ⟨gb, k, none⟩) (.inl rfl) _
  have HM6 := Lib.hid (HMr.out _ hm6)
  have HOa6 : Hid (Own (w5.setCell ⟨gb, k, none⟩ (.int .i64 (x + d))) g 3 n4 (fun i => .int .i64 (curF bs i))) := Lib.hid (HOa5.out.mod hm6 (by have := HG.out; omega))
  have HRb6 : Hid (Rd 1 encI (w5.setCell ⟨gb, k, none⟩ (.int .i64 (x + d))) (some ⟨gb, 0, none⟩) (ampL (oneF (curF bs) k d) n4)) := Lib.hid ((HOb.out.set k (.int .i64 (x + d))).rdC hnc (fun i hi => by
    unfold oneF
    by_cases e : i = k
    · rw [if_pos e, if_pos e, HCX.out]
    · rw [if_neg e, if_neg e, HF2.out i hi]))
  have HFB : Hid (∀ i, i < n4 → 0 ≤ oneF (curF bs) k d i ∧ oneF (curF bs) k d i ≤ 80) := Lib.hid (fun i _ => by
    have h := HCB.out i
    unfold oneF
    rw [HCX.out]
    split <;> omega)
  generalize hW6 : w5.setCell ⟨gb, k, none⟩ (.int .i64 (x + d)) = w6 at *
  clear hW6 hm6 HMr HOb HF2 HOa5 HM5 hck hcb hfb hlb hsz ap av aw hsub hne hsum hsum2 hlg hlX0
  clear k0 k1 k2 k3 k4 hlX
  have HM := HM6
  have HOa := HOa6
  clear HM6 HOa6
  have hlX : X < w6.heap.size := World.block_lt_of_cell? w6 _ HM.out.k0
  obtain ⟨k0, k1, k2, k3, k4⟩ : w6.cell? ⟨X, 0, none⟩ = some (.slice a1 n1 c1) ∧ w6.cell? ⟨X, 1, none⟩ = some (.slice a2 n2 c2) ∧ w6.cell? ⟨X, 2, none⟩ = some (.slice a3 n3 c3) ∧ w6.cell? ⟨X, 3, none⟩ = some (.slice a4 n4 c4) ∧ w6.cell? ⟨X, 4, none⟩ = some (.slice a5 n5 c5) := ⟨HM.out.k0, HM.out.k1, HM.out.k2, HM.out.k3, HM.out.k4⟩
  go_wp2_with fail
  refine (ltLoads_amp a1 a2 a3 a4 a5 n1 c1 n2 c2 n3 c3 n4 c4 n5 c5 g n4 s (curF bs) w6 HM.out.rs HOKB.out HOa.out (fun i _ => HCB.out i)).mono ?_
  rintro e w7 ⟨px, cx, rfl, hr, hb⟩
  have HM3 := Lib.hid (HM.out.keep hb)
  clear HM
  have HM := HM3
  clear HM3
  have HRt := Lib.hid (HRb6.out.keep hb)
  clear HRb6
  have HRb6 := HRt
  clear HRt
  have HAt := Lib.hid (HOa.out.keep hb HOa.out.lt)
  clear HOa
  have HOa := HAt
  clear HAt
  have HRx := Lib.hid hr
  clear hb hr
  clear k0 k1 k2 k3 k4 hlX
  have hlX : X < w7.heap.size := World.block_lt_of_cell? w7 _ HM.out.k0
  obtain ⟨k0, k1, k2, k3, k4⟩ : w7.cell? ⟨X, 0, none⟩ = some (.slice a1 n1 c1) ∧ w7.cell? ⟨X, 1, none⟩ = some (.slice a2 n2 c2) ∧ w7.cell? ⟨X, 2, none⟩ = some (.slice a3 n3 c3) ∧ w7.cell? ⟨X, 3, none⟩ = some (.slice a4 n4 c4) ∧ w7.cell? ⟨X, 4, none⟩ = some (.slice a5 n5 c5) := ⟨HM.out.k0, HM.out.k1, HM.out.k2, HM.out.k3, HM.out.k4⟩
  go_wp2_with fail
  refine (ltLoads_rd a1 a2 a3 a4 a5 n1 c1 n2 c2 n3 c3 n4 c4 n5 c5 (some ⟨gb, 0, none⟩) cb s (oneF (curF bs) k d) w7 HM.out.rs HOKB.out HRb6.out HFB.out).mono ?_
  rintro e w8 ⟨py, cy, rfl, hr, hb⟩
  have HM3 := Lib.hid (HM.out.keep hb)
  clear HM
  have HM := HM3
  clear HM3
  have HRt := Lib.hid (HRb6.out.keep hb)
  clear HRb6
  have HRb6 := HRt
  clear HRt
  have HAt := Lib.hid (HOa.out.keep hb HOa.out.lt)
  clear HOa
  have HOa := HAt
  clear HAt
  have HRt := Lib.hid (HRx.out.keep hb)
  clear HRx
  have HRx := HRt
  clear HRt
  have HRy := Lib.hid hr
  clear hb hr
  clear k0 k1 k2 k3 k4 hlX
  have hlX : X < w8.heap.size := World.block_lt_of_cell? w8 _ HM.out.k0
  obtain ⟨k0, k1, k2, k3, k4⟩ : w8.cell? ⟨X, 0, none⟩ = some (.slice a1 n1 c1) ∧ w8.cell? ⟨X, 1, none⟩ = some (.slice a2 n2 c2) ∧ w8.cell? ⟨X, 2, none⟩ = some (.slice a3 n3 c3) ∧ w8.cell? ⟨X, 3, none⟩ = some (.slice a4 n4 c4) ∧ w8.cell? ⟨X, 4, none⟩ = some (.slice a5 n5 c5) := ⟨HM.out.k0, HM.out.k1, HM.out.k2, HM.out.k3, HM.out.k4⟩
  go_wp2_with fail
  refine wp_normal (fun K hK => ?_)
  refine toReg_ok w8 X g a1 n1 c1 a2 n2 c2 a3 n3 c3 a4 n4 c4 a5 n5 c5 s K (Lib.hid HM.out.rs) HOKB hn4b hlX k0 k1 k2 k3 k4 _ _ _ _ _ _ _ _ _ _ _ _ _ _ _ _ _ _ _ _ _ _ _ _ _ _ _ _ _ _ _ _ _ _ _ _ _ _ _ _ _ _ _ _ _ _ _ _ _ _ _ _ _ _ _ _ _ _ _ _ _ _ _ _ _ _ _ _ _ _ _ _ _ _ _ _ _ _ _ _ _ _ _ _ _ _ _ _ _ _ _ _ _ _ _ _ _ _ _ _ _ _ _ _ _ _ _ _ _ _ _ _ _ _ _ _ _ _ _ _ _ _ _ _ _ _ _ _ _ _ _ _ _ _ _ _ _ _ _ _ _ _ _ _ _ _ _ _ _ _ _ _ _ ?_
  refine Lib.hid ?_
  intro w9 pz cz v76 v77 v78 v79 v80 v81 v82 hr hb
  refine hK _ _ ?_
  have HM3 := Lib.hid (HM.out.keep hb)
  clear HM
  have HM := HM3
  clear HM3
  have HRt := Lib.hid (HRx.out.keep hb)
  clear HRx
  have HRx := HRt
  clear HRt
  have HRt := Lib.hid (HRy.out.keep hb)
  clear HRy
  have HRy := HRt
  clear HRt
  have HRz := Lib.hid hr
  clear hr hb hK K HOa HRb6
  clear k0 k1 k2 k3 k4 hlX
  go_step
  have hlX : X < w9.heap.size := World.block_lt_of_cell? w9 _ HM.out.k0
  obtain ⟨k0, k1, k2, k3, k4⟩ : w9.cell? ⟨X, 0, none⟩ = some (.slice a1 n1 c1) ∧ w9.cell? ⟨X, 1, none⟩ = some (.slice a2 n2 c2) ∧ w9.cell? ⟨X, 2, none⟩ = some (.slice a3 n3 c3) ∧ w9.cell? ⟨X, 3, none⟩ = some (.slice a4 n4 c4) ∧ w9.cell? ⟨X, 4, none⟩ = some (.slice a5 n5 c5) := ⟨HM.out.k0, HM.out.k1, HM.out.k2, HM.out.k3, HM.out.k4⟩
  go_wp2_with fail
  have hk4 : k < s.chgs.length := by rw [HM.out.rs.l4]; exact hkn
  obtain ⟨b, off, cg, hA4, hbl, hgx, -, -, hphc, -⟩ := rdChg_at HM.out.rs.r4 hk4
  obtain ⟨p1, p2, p3⟩ := HOK.out.place hgx
  have hpn : placeOf s k < s.cons.length := by omega
  have hph : phOf s k = cg.ph := by unfold phOf; rw [hgx]; rfl
  have hphb : 1 ≤ cg.ph ∧ cg.ph ≤ 7 := by
    have h1 := HOK.out.chg cg (List.mem_of_getElem? hgx)
    unfold okChg at h1
    simp only [decide_eq_true_eq] at h1
    exact h1.2.2.1
  have HPH := Lib.hid (And.intro hph hphb)
  have HCH : Hid (okCh s (k : Int) = true) := Lib.hid (okCh_yes HOKB.out ⟨by omega, by omega⟩)
  have HPA : Hid (pathO s (k : Int) = pthI s.cons (placeOf s k)) := Lib.hid (by rw [pathO_yes HCH.out, Int.toNat_natCast])
  have hlx := pathO_len s (k : Int)
  rw [HPA.out] at hlx
  refine (trPath_any a1 a2 a3 a4 a5 n1 c1 n2 c2 n3 c3 n4 c4 n5 c5 s (k : Int) w9 (Lib.hid HM.out.rs)).mono ?_
  rintro e wa ⟨A, cA, he, hr, hb⟩
  rw [HPA.out, HCH.out] at he
  rw [HPA.out] at hr
  subst he
  have HM3 := Lib.hid (HM.out.keep hb)
  clear HM
  have HM := HM3
  clear HM3
  have HRt := Lib.hid (HRx.out.keep hb)
  clear HRx
  have HRx := HRt
  clear HRt
  have HRt := Lib.hid (HRy.out.keep hb)
  clear HRy
  have HRy := HRt
  clear HRt
  have HRt := Lib.hid (HRz.out.keep hb)
  clear HRz
  have HRz := HRt
  clear HRt
  have HP := Lib.hid hr
  have hphc2 := (hb.cell (p := ⟨b, off + k * 8 + 2, none⟩) hbl).trans hphc
  subst hA4
  clear k0 k1 k2 k3 k4 hlX
  clear hr hb hgx p1 p2 p3 hph hphc
  have HIN := Lib.hid (fun i => ltIn_any A _ cA (pthI s.cons (placeOf s k)) i wa HP (Lib.hid rfl) (by omega))
  have HON : Hid (∀ i p, onB s k i p = (bitP cg.ph p && decide (((i : Nat) : Int) ∈ pthI s.cons (placeOf s k)))) := Lib.hid (fun i p => by rw [onB_eq, HPH.out.1])
  have HYX := Lib.hid (fun j => loadS_one s (curF bs) k d n4 j hkn)
  have HZX := Lib.hid (fun j => loadS_none s n4 j)
  have HBX := Lib.hid (fun j => loadS_bd (s := s) (am := curF bs) (m := n4) (fun c _ => HCB.out c) j)
  have k3 := HM.out.k3
  generalize (pthI s.cons (placeOf s k)).length = lp at *
  simp only [errO, if_true]
  go_wp2_with fail
  go_loopg [22, 23, 24, 105] n1 (fun g1 v22 v23 v24 v105 wr => ∃ q : Nat, v105 = .int .i64 q ∧ q ≤ n1 ∧ n1 - q ≤ g1 ∧ wa = wr)
  case atStart => exact ⟨0, by go_num, by omega, by omega, rfl⟩
  case round =>
    obtain ⟨q, rfl, hq, hg1, rfl⟩ := hrel
    by_cases hlq : q < n1
    · have hlqz : (q : Int) < (n1 : Int) := by omega
      go_wp2_with fail
      go_loopg [23, 24, 108] 3 (fun g2 v23 v24 v108 wp => ∃ p : Nat, v108 = .int .i64 p ∧ p ≤ 3 ∧ 3 - p ≤ g2 ∧ wa = wp)
      case atStart => exact ⟨0, by go_num, by omega, by omega, rfl⟩
      case round =>
        obtain ⟨p, rfl, hp, hg2, rfl⟩ := hrel
        by_cases hlp : p < 3
        · have hlpz : (p : Int) < 3 := by omega
          obtain ⟨bx, ox, hAx, hbx, cx'⟩ := rd3_at HRx.out hlq hlp
          obtain ⟨by', oy, hAy, hby, cy'⟩ := rd3_at HRy.out hlq hlp
          obtain ⟨bz, oz, hAz, hbz, cz'⟩ := rd3_at HRz.out hlq hlp
          have hyx := HYX.out (q * 3 + p)
          rw [show (q * 3 + p) / 3 = q by omega, show (q * 3 + p) % 3 = p by omega, HON.out] at hyx
          rw [HZX.out] at cz'
          have b1 := HBX.out (q * 3 + p)
          have hIq := Lib.hid (HIN.out (q : Int))
          have HYQ := Lib.hid hyx
          have hbs := bit_shr (ph := cg.ph) (p := p) HPH.out.2 hlp
          subst hAx hAy hAz
          clear hyx
          generalize loadS s (curF bs) n4 (q * 3 + p) = xx at *
          generalize loadS s (oneF (curF bs) k d) n4 (q * 3 + p) = yy at *
          have hs1 : IntKind.i64.wrap (xx + d) = xx + d := IntWalk.i64_in _ (by omega)
          cases hin : decide (((q : Nat) : Int) ∈ pthI s.cons (placeOf s k))
          · have hyy : yy = xx := by
              have h := HYQ.out
              rw [hin, Bool.and_false, pick_neg (by simp)] at h
              omega
            rw [hin] at hIq
            subst hyy
            clear hin HYQ hbs
            go_wp2_with fail
            refine hIq.out.mono ?_
            rintro e w5' ⟨rfl, hw⟩
            subst w5'
            go_wp2_with fail
            go_roundg (3 - (p + 1))
            case measure => omega
            case rel => exact ⟨p + 1, by go_num, by omega, by omega, rfl⟩
          · rw [hin] at hIq
            cases hbit : bitP cg.ph p
            · have hyy : yy = xx := by
                have h := HYQ.out
                rw [hbit, Bool.false_and, pick_neg (by simp)] at h
                omega
              rw [hbit] at hbs
              subst hyy
              clear hin HYQ hbit
              go_wp2_with fail
              refine hIq.out.mono ?_
              rintro e w5' ⟨rfl, hw⟩
              subst w5'
              go_wp2_with fail
              go_roundg (3 - (p + 1))
              case measure => omega
              case rel => exact ⟨p + 1, by go_num, by omega, by omega, rfl⟩
            · have hyy : yy = xx + d := by
                have h := HYQ.out
                rw [hbit, hin, pick_pos (by simp)] at h
                exact h
              rw [hbit] at hbs
              subst hyy
              clear hin HYQ hbit
              go_wp2_with fail
              refine hIq.out.mono ?_
              rintro e w5' ⟨rfl, hw⟩
              subst w5'
              go_wp2_with fail
              go_roundg (3 - (p + 1))
              case measure => omega
              case rel => exact ⟨p + 1, by go_num, by omega, by omega, rfl⟩
        · have hlpz : ¬ (p : Int) < 3 := by omega
          go_wp2_with fail
          go_roundg (n1 - (q + 1))
          case measure => omega
          case rel => exact ⟨q + 1, by go_num, by omega, by omega, rfl⟩
    · have hlqz : ¬ (q : Int) < (n1 : Int) := by omega
      go_wp2_with fail
      go_ret
      exact ⟨rfl, HM.out.bel⟩
end Go.Proofs.Ytjlfnhfiiailgaa
