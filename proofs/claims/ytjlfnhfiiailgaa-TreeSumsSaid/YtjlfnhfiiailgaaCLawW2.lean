/-
TreePaths, walked.
-/
import Derived.Test.YtjlfnhfiiailgaaCLawW0
import Derived.IntWalk
namespace Go.Proofs.Ytjlfnhfiiailgaa
open Go.RowKit
set_option linter.unusedVariables false
set_option linter.unusedSimpArgs false
theorem pthI_get {cs : List GCon} {c i : Nat} (hi : i < (pthI cs c).length) : ∃ a : Nat, (pth cs (c : Int))[i]? = some a ∧ fI (pthI cs c) i = (a : Int) := by
  unfold pthI at hi ⊢
  rw [List.length_map] at hi
  refine ⟨(pth cs (c : Int))[i], List.getElem?_eq_getElem hi, ?_⟩
  unfold fI
  rw [List.getElem?_map, List.getElem?_eq_getElem hi]
  rfl
theorem pthI_pos {cs : List GCon} (hu : OkUps cs) {c : Nat} (hc : c < cs.length) : 0 < (pthI cs c).length := by
  unfold pthI
  rw [pth_cons hu hc]
  simp
theorem pthI_first {cs : List GCon} (hu : OkUps cs) {c : Nat} (hc : c < cs.length) : fI (pthI cs c) 0 = (c : Int) := by
  unfold pthI fI
  rw [pth_cons hu hc]
  rfl
theorem pthI_last {cs : List GCon} (hu : OkUps cs) {c : Nat} (hc : c < cs.length) : fI (pthI cs c) ((pthI cs c).length - 1) = 0 := by
  have h := pth_root hu c hc
  rw [List.getLast?_eq_getElem?] at h
  unfold pthI fI
  rw [List.length_map, List.getElem?_map, h]
  rfl
theorem pthI_step {cs : List GCon} (hu : OkUps cs) {c : Nat} (hc : c < cs.length) {i : Nat} (hi : i + 1 < (pthI cs c).length) : ∃ a b : Nat, fI (pthI cs c) i = (a : Int) ∧ fI (pthI cs c) (i + 1) = (b : Int) ∧ b < a ∧ a < cs.length ∧ upAt cs a = (b : Int) := by
  obtain ⟨a, ha, ea⟩ := pthI_get (cs := cs) (c := c) (i := i) (by omega)
  obtain ⟨b, hb, eb⟩ := pthI_get hi
  have h := pth_next hu c hc i a b ha hb
  have hl := pth_le hu c hc a (List.mem_of_getElem? ha)
  exact ⟨a, b, ea, eb, h.2, by omega, h.1⟩
theorem LwM.drewN {w W : World} {X : Nat} {a1 : Option Addr} {n1 c1 : Nat} {a2 : Option Addr} {n2 c2 : Nat} {a3 : Option Addr} {n3 c3 : Nat} {a4 : Option Addr} {n4 c4 : Nat} {a5 : Option Addr} {n5 c5 : Nat} {s : GSite} (h : LwM w W X a1 n1 c1 a2 n2 c2 a3 n3 c3 a4 n4 c4 a5 n5 c5 s) (q : Nat) : LwM w (W.drewN q) X a1 n1 c1 a2 n2 c2 a3 n3 c3 a4 n4 c4 a5 n5 c5 s := h.keep (below_drewG q (Below.refl _ _))
theorem usableB_ok {s : GSite} (h : usableB s = true) : okSB keyL s = true := by unfold usableB at h; rw [Bool.and_eq_true] at h; exact h.2
set_option maxRecDepth 100000 in
set_option maxHeartbeats 8000000 in
theorem walk_TreePaths (a1 : Option Addr) (n1 c1 : Nat) (a2 : Option Addr) (n2 c2 : Nat) (a3 : Option Addr) (n3 c3 : Nat) (a4 : Option Addr) (n4 c4 : Nat) (a5 : Option Addr) (n5 c5 : Nat) (s : GSite) {w : World} (HS : Hid (RdSite w a1 a2 a3 a4 a5 n1 n2 n3 n4 n5 s)) (_ : WfSite s) (pk : Int) (hpk : (Lit.int .u8 pk).wf = true) :
    Calls Try.prog 4 #[.agg #[.slice a1 n1 c1, .slice a2 n2 c2, .slice a3 n3 c3, .slice a4 n4 c4, .slice a5 n5 c5], .int .u8 pk] w fun e w' => e = .returned (.bool true) ∧ Below w.heap.size w w' := by
  have hp0 : 0 ≤ pk ∧ pk ≤ 255 := by
    simp [Lit.wf, IntKind.min, IntKind.max, IntKind.signed, IntKind.bits] at hpk
    exact hpk
  have HM0 := Lib.hid (LwM.box (c1 := c1) (c2 := c2) (c3 := c3) (c4 := c4) (c5 := c5) HS.out)
  clear hpk
  go_enter Try.func4, Try.ntmps4
  go_wp2_with fail
  refine (ltHead_any _).mono ?_
  rintro e w1 ⟨rfl, hb⟩
  have HM := Lib.hid (HM0.out.keep hb)
  generalize hXX : w.heap.size = X at HM ⊢
  have hlX : X < w1.heap.size := World.block_lt_of_cell? w1 _ HM.out.k0
  clear hb HM0 hXX
  obtain ⟨k0, k1, k2, k3, k4⟩ : w1.cell? ⟨X, 0, none⟩ = some (.slice a1 n1 c1) ∧ w1.cell? ⟨X, 1, none⟩ = some (.slice a2 n2 c2) ∧ w1.cell? ⟨X, 2, none⟩ = some (.slice a3 n3 c3) ∧ w1.cell? ⟨X, 3, none⟩ = some (.slice a4 n4 c4) ∧ w1.cell? ⟨X, 4, none⟩ = some (.slice a5 n5 c5) := ⟨HM.out.k0, HM.out.k1, HM.out.k2, HM.out.k3, HM.out.k4⟩
  go_wp2_with fail
  refine (ltUsable_any a1 a2 a3 a4 a5 n1 c1 n2 c2 n3 c3 n4 c4 n5 c5 s w1 (Lib.hid HM.out.rs)).mono ?_
  rintro e w2 ⟨rfl, hb⟩
  have HM2 := Lib.hid (HM.out.keep hb)
  clear hb HM k0 k1 k2 k3 k4 hlX
  cases hf : usableB s
  · go_wp2_with fail
    go_ret
    exact ⟨rfl, HM2.out.bel⟩
  have HOKB := Lib.hid (usableB_ok hf)
  have HOK := Lib.hid (okSB_iff.1 (usableB_ok hf))
  clear hf
  obtain ⟨k0, k1, k2, k3, k4⟩ : w2.cell? ⟨X, 0, none⟩ = some (.slice a1 n1 c1) ∧ w2.cell? ⟨X, 1, none⟩ = some (.slice a2 n2 c2) ∧ w2.cell? ⟨X, 2, none⟩ = some (.slice a3 n3 c3) ∧ w2.cell? ⟨X, 3, none⟩ = some (.slice a4 n4 c4) ∧ w2.cell? ⟨X, 4, none⟩ = some (.slice a5 n5 c5) := ⟨HM2.out.k0, HM2.out.k1, HM2.out.k2, HM2.out.k3, HM2.out.k4⟩
  by_cases hn4 : n4 = 0
  · subst hn4
    go_wp2_with fail
    go_ret
    exact ⟨rfl, HM2.out.bel⟩
  have hn4z : ¬ (n4 : Int) = 0 := by omega
  have hn4b : n4 ≤ 16 := by have := HOK.out.n5; have := HM2.out.rs.l4; omega
  have hn1b : n1 ≤ 16 := by have := HOK.out.n2; have := HM2.out.rs.l1; omega
  obtain ⟨k, hk, hkn⟩ : ∃ k : Nat, pk % (n4 : Int) = (k : Int) ∧ k < n4 := by
    have h1 := Int.emod_nonneg pk hn4z
    have h2 := Int.emod_lt_of_pos pk (show (0 : Int) < (n4 : Int) by omega)
    exact ⟨(pk % (n4 : Int)).toNat, by omega, by omega⟩
  have HK := Lib.hid hk
  clear hk
  go_wp2_with fail
  rw [HK.out]
  have hk4 : k < s.chgs.length := by rw [HM2.out.rs.l4]; exact hkn
  obtain ⟨b, off, g, hA4, hbl, hgx, -, hpl, -⟩ := rdChg_at HM2.out.rs.r4 hk4
  obtain ⟨p1, p2, p3⟩ := HOK.out.place hgx
  have hpn : placeOf s k < s.cons.length := by omega
  have HCH : Hid (okCh s (k : Int) = true) := Lib.hid (okCh_yes HOKB.out ⟨by omega, by omega⟩)
  have HPA : Hid (pathO s (k : Int) = pthI s.cons (placeOf s k)) := Lib.hid (by rw [pathO_yes HCH.out, Int.toNat_natCast])
  have HU := Lib.hid HOK.out.ups
  have hps := pthI_pos HU.out hpn
  have HF0 := Lib.hid (pthI_first HU.out hpn)
  have HFL := Lib.hid (pthI_last HU.out hpn)
  have HFS := Lib.hid (fun i hi => pthI_step HU.out hpn (i := i) hi)
  have hlx := pathO_len s (k : Int)
  rw [HPA.out] at hlx
  rw [← p3] at hpl
  refine (trPath_any a1 a2 a3 a4 a5 n1 c1 n2 c2 n3 c3 n4 c4 n5 c5 s (k : Int) w2 (Lib.hid HM2.out.rs)).mono ?_
  rintro e w3 ⟨A, cA, he, hr, hb⟩
  rw [HPA.out, HCH.out] at he
  rw [HPA.out] at hr
  subst he
  have HM3 := Lib.hid (HM2.out.keep hb)
  have HR := Lib.hid hr
  have hpl3 := (hb.cell (p := ⟨b, off + k * 8 + 1, none⟩) hbl).trans hpl
  have hbl3 : b < w3.heap.size := by have := hb.size; omega
  subst hA4
  clear hb hr HM2 k0 k1 k2 k3 k4 hgx p1 p2 p3 hpl hbl
  generalize hpt : pthI s.cons (placeOf s k) = xs at *
  have HPT := Lib.hid hpt
  clear hpt
  generalize hxn : xs.length = n at *
  have HN := Lib.hid hxn
  clear hxn
  have k3 := HM3.out.k3
  obtain ⟨bb, ob, hAA, hbb, hc0⟩ := HR.out.int (k := 0) (by rw [HN.out]; exact hps)
  obtain ⟨_, _, hAA2, _, hcl⟩ := HR.out.int (k := n - 1) (by rw [HN.out]; omega)
  rw [hAA] at hAA2
  injection hAA2 with hAA2
  injection hAA2 with ea eb
  subst ea eb
  have hc0' : w3.cell? ⟨bb, ob, none⟩ = some (.int .i64 ((placeOf s k : Nat) : Int)) := by
    have h : w3.cell? ⟨bb, ob + 0, none⟩ = some (.int .i64 (fI xs 0)) := hc0
    rw [HF0.out, Nat.add_zero] at h
    exact h
  have hcl' : w3.cell? ⟨bb, ob + (n - 1), none⟩ = some (.int .i64 0) := by
    have h : w3.cell? ⟨bb, ob + (n - 1), none⟩ = some (.int .i64 (fI xs (n - 1))) := hcl
    rw [HFL.out] at h
    exact h
  subst hAA
  clear hc0 hcl
  have hnz : ¬ (n : Int) = 0 := by omega
  have hkz : (k : Int) < (n4 : Int) := by omega
  have hnb : ((n : Int) == 0) = false := by rw [beq_eq_false_iff_ne]; exact hnz
  have hsub : IntKind.i64.wrap ((n : Int) - 1) = ((n - 1 : Nat) : Int) := by rw [IntWalk.i64_in _ (by omega)]; omega
  simp only [errO, if_true]
  go_wp2_with fail
  go_quiet (fail)
  go_wp2_with fail
  go_loopg [9] n (fun g1 v9 wr => ∃ j : Nat, v9 = .int .i64 (j : Int) ∧ 1 ≤ j ∧ j ≤ n ∧ n - j ≤ g1 ∧ Hid (∃ q, wr = w3.drewN q))
  case atStart => exact ⟨1, by go_num, by omega, by omega, by omega, Lib.hid ⟨_, rfl⟩⟩
  case round =>
    obtain ⟨j, rfl, hj1, hj, hg1, HW⟩ := hrel
    obtain ⟨q, hq⟩ := HW.out
    subst wr
    clear hc0' hcl' hpl3
    by_cases hlt : j < n
    · have hltz : ((j : Nat) : Int) < (n : Int) := by omega
      obtain ⟨i, hij⟩ : ∃ i, j = i + 1 := ⟨j - 1, by omega⟩
      obtain ⟨x, y, ex, ey, hyx, hxl, hup⟩ := HFS.out i (by omega)
      obtain ⟨_, _, hAA1, _, hci⟩ := HR.out.int (k := i) (by rw [HN.out]; omega)
      injection hAA1 with hAA1
      injection hAA1 with ea eb
      subst ea eb
      obtain ⟨_, _, hAA1, _, hcj⟩ := HR.out.int (k := j) (by rw [HN.out]; omega)
      injection hAA1 with hAA1
      injection hAA1 with ea eb
      subst ea eb
      have hci' : w3.cell? ⟨bb, ob + i, none⟩ = some (.int .i64 (x : Nat)) := by rw [← ex]; exact hci
      have hcj' : w3.cell? ⟨bb, ob + j, none⟩ = some (.int .i64 (y : Nat)) := by rw [← ey, ← hij]; exact hcj
      obtain ⟨bc, oc, gc, hAC, hbc, hgc, -, hcu, -⟩ := rdCon_at HM3.out.rs.r1 hxl
      have hue : gc.up = (y : Int) := by
        rw [← hup]
        unfold upAt
        rw [hgc]
        rfl
      rw [hue] at hcu
      have k0 := HM3.out.k0
      have hxn : x < n1 := by rw [← HM3.out.rs.l1]; exact hxl
      subst hAC
      clear hci hcj hgc hue hup ex ey
      have hsub2 : IntKind.i64.wrap (((j : Nat) : Int) - 1) = ((i : Nat) : Int) := by rw [IntWalk.i64_in _ (by omega)]; omega
      have hb1 : decide (((y : Nat) : Int) < 0) = false := by simp
      have hb2 : decide (((x : Nat) : Int) ≤ ((y : Nat) : Int)) = false := by simp; omega
      have hin : i < n := by omega
      have hinz : ((i : Nat) : Int) < (n : Int) := by omega
      have hxnz : ((x : Nat) : Int) < (n1 : Int) := by omega
      clear hij
      go_wp2_with fail
      go_quiet (fail)
      go_wp2_with fail
      go_roundg (n - (j + 1))
      case measure => omega
      case rel => exact ⟨j + 1, by go_num, by omega, by omega, by omega, Lib.hid ⟨_, rfl⟩⟩
    · have hltz : ¬ ((j : Nat) : Int) < (n : Int) := by omega
      go_wp2_with fail
      go_ret
      exact ⟨rfl, below_drewG _ HM3.out.bel⟩
end Go.Proofs.Ytjlfnhfiiailgaa
