/-
Several texts in one: PrW, PrV.
-/
import Derived.Test.YtpkonifeieepfaaGreatGLPrC
import Derived.Test.YtpkonifeieepfaaGreatGLPrA
import Derived.Test.YtpkonifeieepfaaGreatGLLimD
import Derived.Test.YtpkonifeieepfaaGreatGLLimG
import Derived.Test.YtpkonifeieepfaaGreatGLApp
import Derived.Test.YtpkonifeieepfaaGreatCLimU
import Derived.Test.YtpkonifeieepfaaGreatGLTreeE
import Derived.Test.YtpkonifeieepfaaGreatGLOpen
/-
proof.witness.
-/
namespace Go.Proofs.YtpkonifeieepfaaGreat
open Go.RowKit
set_option linter.unusedVariables false
set_option linter.unusedSimpArgs false
theorem OwnP.le {w : World} {g n m : Nat} {f : Nat → Int} (h : OwnP w g n f) (hm : m ≤ n) : OwnP w g m f := by
  obtain ⟨cs, hb, hs, hc⟩ := h
  exact ⟨cs, hb, by omega, fun i hi => hc i (by omega)⟩
theorem OwnP.other {w w' : World} {M : Nat → Prop} {g n : Nat} {f : Nat → Int} (h : OwnP w g n f) (hm : Mod M w w') (hg : ¬ M g) : OwnP w' g n f := by
  have hl := h.lt
  obtain ⟨cs, hb, hs, hc⟩ := h
  exact ⟨cs, (hm.block g hl hg).trans hb, hs, hc⟩
def keyW (xs : List Int) (z : Int) : Int := fI xs z.toNat
def lenW (s : GSite) (t : Nat) : Nat := (memL s t).length
/-- The memory of the loop. -/
structure WtM (w W : World) (X : Nat) (aA : Option Addr) (nA cA : Nat) (g m : Nat) (v : Nat → Int) (go : Nat) (F : Nat → Int) : Prop where
  bel : Below w.heap.size w W
  kt : W.cell? ⟨X + 1, 0, none⟩ = some (.slice aA nA cA)
  us : OwnP W g m v
  ow : Own W go 3 nA (fun i => .int .i64 (F i))
  ne : w.heap.size ≤ X ∧ X + 1 ≠ go ∧ g ≠ go ∧ w.heap.size ≤ go
theorem WtM.set {w W : World} {X : Nat} {aA : Option Addr} {nA cA g m : Nat} {v : Nat → Int} {go : Nat} {F : Nat → Int} (h : WtM w W X aA nA cA g m v go F) (k : Nat) (x : Int) {F' : Nat → Int} (hF : ∀ j, F' j = if j = k then x else F j) : WtM w (W.setCell ⟨go, k, none⟩ (.int .i64 x)) X aA nA cA g m v go F' := by
  obtain ⟨n1, n2, n3, n4⟩ := h.ne
  have hm : Mod (fun j => j = go) W (W.setCell ⟨go, k, none⟩ (.int .i64 x)) := (show Mod (fun j => j = go) W W from Mod.refl _ W).setCell (p := ⟨go, k, none⟩) (.inl rfl) _
  refine ⟨h.bel.setCell (p := ⟨go, k, none⟩) n4 _, (hm.cell (p := ⟨X + 1, 0, none⟩) (World.block_lt_of_cell? _ _ h.kt) n2).trans h.kt, h.us.other hm n3, (h.ow.set k _).congr (fun j _ => ?_), h.ne⟩
  rw [hF j]
  split <;> rfl
theorem mk_intsW (n : Nat) (h : n ≤ 1000000) (W : World) : ∃ W', (Instr.makeSlice 29 (.int .i64 n) (.int .i64 n)).run Tryz.prog W = .ok (.slice (some ⟨W.heap.size, 0, none⟩) n n) W' ∧ Own W' W.heap.size 3 n (fun _ => .int .i64 0) ∧ Below W.heap.size W W' ∧ W'.heap.size = W.heap.size + 1 :=
  ⟨_, mk_row 29 3 _ 1 8 Tryz.underlying29 appInfoInt (n : Int) (by omega) (by omega) (by omega) W, Own.made1 W 3 (.int .i64 0) n, (Below.refl _ W).alloc (Nat.le_refl _) _, by simp⟩
/-- What witness returns. -/
def WtPost (w : World) (s : GSite) (xs : List Int) (t nA : Nat) (e : Ending) (w' : World) : Prop := ∃ g v, e = .returned (.slice (some ⟨g, 0, none⟩) nA nA) ∧ Sorts (keyW xs) 0 (lenW s t) (fI (memL s t)) v ∧ Own w' g 3 nA (fun i => .int .i64 (outW (fI xs) v (limAt s (t / 3) + 1) (lenW s t) i)) ∧ w.heap.size ≤ g ∧ Below w.heap.size w w'
theorem rowN_fI (xs : List Int) : rowN (fI xs) xs.length = xs := by
  apply List.ext_getElem?
  intro i
  unfold rowN
  rw [List.getElem?_map]
  by_cases h : i < xs.length
  · rw [List.getElem?_range h, List.getElem?_eq_getElem h]
    show some (fI xs i) = _
    unfold fI
    rw [List.getElem?_eq_getElem h]
    rfl
  · rw [List.getElem?_eq_none (by simpa using h), List.getElem?_eq_none (by omega)]
    rfl
theorem memL_row (s : GSite) (t : Nat) {m : Nat} {f : Nat → Int} (h : rowN f m = memL s t) : m = lenW s t ∧ ∀ i, i < m → f i = fI (memL s t) i := by
  have h1 : m = lenW s t := by unfold lenW; rw [← h, rowN_len]
  refine ⟨h1, fun i hi => ?_⟩
  rw [← h]
  unfold fI rowN
  rw [List.getElem?_map, List.getElem?_range hi]
  rfl
theorem sorts_diff {xs : List Int} {s : GSite} {t : Nat} {v : Nat → Int} (h : Sorts (keyW xs) 0 (lenW s t) (fI (memL s t)) v) : DiffW v (lenW s t) s.chgs.length := by
  refine ⟨fun j hj => ?_, fun i j hi hj e => ?_⟩
  · obtain ⟨k, h1, h2, h3⟩ := h.mem (Nat.zero_le j) hj
    rw [h3]
    exact memL_in s t h2
  · rcases Nat.lt_trichotomy i j with hij | hij | hij
    · have := h.sorted i j (Nat.zero_le _) hij hj
      unfold klt at this
      rw [e] at this
      omega
    · exact hij
    · have := h.sorted j i (Nat.zero_le _) hij hi
      unfold klt at this
      rw [e] at this
      omega
set_option maxRecDepth 100000 in
set_option maxHeartbeats 16000000 in
theorem prWit_any (a1 a2 a3 a4 a5 : Option Addr) (n1 c1 n2 c2 n3 c3 n4 c4 n5 c5 : Nat) (aA : Option Addr) (nA cA : Nat) (s : GSite) (xs : List Int) (t : Nat) (lo : Int) (w : World) (HS : Hid (RdSite w a1 a2 a3 a4 a5 n1 n2 n3 n4 n5 s)) (HX : Hid (Rd 1 encI w aA xs)) (HNA : Hid (xs.length = nA)) (HLB : Hid (loadB s xs = true)) (HT : Hid (t / 3 < s.cons.length)) (HPOS : Hid (0 < lenW s t)) (HA : Hid (∀ a, aA = some a → a.block < w.heap.size)) :
    Calls Tryz.prog 17 #[.agg #[.slice a1 n1 c1, .slice a2 n2 c2, .slice a3 n3 c3, .slice a4 n4 c4, .slice a5 n5 c5], .slice aA nA cA, .agg #[.int .i64 ((t / 3 : Nat) : Int), .int .i64 ((t % 3 : Nat) : Int), .int .i64 lo]] w (WtPost w s xs t nA) := by
  obtain ⟨W0, hW0⟩ : ∃ W0, W0 = ((w.alloc (.cells #[.slice a1 n1 c1, .slice a2 n2 c2, .slice a3 n3 c3, .slice a4 n4 c4, .slice a5 n5 c5] 28)).alloc (.cells #[.slice aA nA cA] 29)).alloc (.cells #[.int .i64 ((t / 3 : Nat) : Int), .int .i64 ((t % 3 : Nat) : Int), .int .i64 lo] 58) := ⟨_, rfl⟩
  have hm0 : LwM w W0 w.heap.size a1 n1 c1 a2 n2 c2 a3 n3 c3 a4 n4 c4 a5 n5 c5 s := by
    rw [hW0]
    exact ((LwM.box (c1 := c1) (c2 := c2) (c3 := c3) (c4 := c4) (c5 := c5) HS.out).keep ((Below.refl _ _).alloc (Nat.le_refl _) _)).keep ((Below.refl _ _).alloc (Nat.le_refl _) _)
  have hkt : W0.cell? ⟨w.heap.size + 1, 0, none⟩ = some (.slice aA nA cA) := by rw [hW0]; go_simp
  have hv0 : W0.cell? ⟨w.heap.size + 2, 0, none⟩ = some (.int .i64 ((t / 3 : Nat) : Int)) := by rw [hW0]; go_simp
  have hv1 : W0.cell? ⟨w.heap.size + 2, 1, none⟩ = some (.int .i64 ((t % 3 : Nat) : Int)) := by rw [hW0]; go_simp
  have HW0 := Lib.hid hW0
  have HM := Lib.hid hm0
  have HOK : Hid (OkSite keyL s) := Lib.hid (by
    have h := HLB.out
    unfold loadB at h
    rw [Bool.and_eq_true] at h
    exact okSB_iff.1 h.1)
  have HCU := Lib.hid (cur_bd HLB.out)
  have hn416 : n4 ≤ 16 := by have h1 := HOK.out.n5; have h2 := HS.out.l4; omega
  have hnA4 : n4 = nA := by have h1 := HCU.out.1; have h2 := HNA.out; have h3 := HS.out.l4; omega
  have HL4 : Hid (s.chgs.length = n4) := Lib.hid HS.out.l4
  have hok : okCo s ((t / 3 : Nat) : Int) = true := okCo_yes (okSB_iff.2 HOK.out) ⟨by omega, by have := HT.out; omega⟩
  have HPP : Hid (t % 3 < 3) := Lib.hid (by omega)
  have HPH : Hid (∀ g, g ∈ s.chgs → 0 ≤ g.ph ∧ g.ph ≤ 7) := Lib.hid (fun g hg => by
    have hch := HOK.out.chg g hg
    unfold okChg at hch
    simp only [decide_eq_true_eq] at hch
    omega)
  have HLIM := Lib.hid (limAt_bd HOK.out (t / 3))
  have HDC : Hid ((t / 3 : Nat) = t / 3) := Lib.hid rfl
  clear hW0 hm0
  subst hnA4
  obtain ⟨c, hc⟩ : ∃ c, c = t / 3 := ⟨_, rfl⟩
  obtain ⟨p, hp⟩ : ∃ p, p = t % 3 := ⟨_, rfl⟩
  rw [← hc, ← hp] at HW0
  rw [← hc] at hv0 hok
  rw [← hp] at hv1
  rw [← hc, ← hp]
  have HC := Lib.hid hc
  have HP := Lib.hid hp
  have HOC := Lib.hid hok
  clear hc hp hok
  go_enter Tryz.func17, Tryz.ntmps17
  obtain ⟨k0, k1, k2, k3, k4⟩ : W0.cell? ⟨w.heap.size, 0, none⟩ = some (.slice a1 n1 c1) ∧ W0.cell? ⟨w.heap.size, 1, none⟩ = some (.slice a2 n2 c2) ∧ W0.cell? ⟨w.heap.size, 2, none⟩ = some (.slice a3 n3 c3) ∧ W0.cell? ⟨w.heap.size, 3, none⟩ = some (.slice a4 n4 c4) ∧ W0.cell? ⟨w.heap.size, 4, none⟩ = some (.slice a5 n5 c5) := ⟨HM.out.k0, HM.out.k1, HM.out.k2, HM.out.k3, HM.out.k4⟩
  go_wp2_with fail
  rw [← HW0.out]
  clear HW0
  obtain ⟨X, hX⟩ : ∃ X, X = w.heap.size := ⟨_, rfl⟩
  rw [← hX] at HM hkt hv0 hv1 k0 k1 k2 k3 k4 ⊢
  have HSZ : Hid (w.heap.size = X) := Lib.hid hX.symm
  clear hX
  go_wp2_with fail
  refine (trBelow_fresh a1 a2 a3 a4 a5 n1 c1 n2 c2 n3 c3 n4 c4 n5 c5 s (c : Int) W0 (Lib.hid HM.out.rs)).mono ?_
  rintro e w1 ⟨ab, cb, rfl, hrb, hbb, hfr⟩
  have HM1 := Lib.hid (HM.out.keep hbb)
  have lT := World.block_lt_of_cell? _ _ hkt
  have lV := World.block_lt_of_cell? _ _ hv0
  dsimp only at lT lV
  have kt1 := (hbb.cell (p := ⟨X + 1, 0, none⟩) lT).trans hkt
  have v01 := (hbb.cell (p := ⟨X + 2, 0, none⟩) lV).trans hv0
  have v11 := (hbb.cell (p := ⟨X + 2, 1, none⟩) lV).trans hv1
  rw [HOC.out]
  have he1 : errO true = 0 := rfl
  have hbl : belowO s (c : Int) = belowL s (c : Int) s.chgs.length := belowO_yes HOC.out
  rw [hbl] at hrb ⊢
  have HRB := Lib.hid hrb
  have HV1 : Hid (X + 2 < w1.heap.size) := Lib.hid (World.block_lt_of_cell? _ _ v01)
  clear hrb hfr hbl k0 k1 k2 k3 k4 hkt hv0 hv1 lT lV hbb HM
  obtain ⟨k0, k1, k2, k3, k4⟩ : w1.cell? ⟨X, 0, none⟩ = some (.slice a1 n1 c1) ∧ w1.cell? ⟨X, 1, none⟩ = some (.slice a2 n2 c2) ∧ w1.cell? ⟨X, 2, none⟩ = some (.slice a3 n3 c3) ∧ w1.cell? ⟨X, 3, none⟩ = some (.slice a4 n4 c4) ∧ w1.cell? ⟨X, 4, none⟩ = some (.slice a5 n5 c5) := ⟨HM1.out.k0, HM1.out.k1, HM1.out.k2, HM1.out.k3, HM1.out.k4⟩
  obtain ⟨nb, hnb⟩ : ∃ nb, nb = (belowL s (c : Int) s.chgs.length).length := ⟨_, rfl⟩
  rw [← hnb]
  have HNB : Hid ((belowL s (c : Int) s.chgs.length).length = nb) := Lib.hid hnb.symm
  clear hnb
  go_wp2_with fail
  refine (limLimit_any a1 a2 a3 a4 a5 n1 c1 n2 c2 n3 c3 n4 c4 n5 c5 s (c : Int) w1 (Lib.hid HM1.out.rs)).mono ?_
  rintro e w2 ⟨rfl, hb2⟩
  rw [HOC.out, limO_yes HOC.out, show ((c : Int)).toNat = c from rfl]
  have HM2 := Lib.hid (HM1.out.keep hb2)
  have kt2 := (hb2.cell (p := ⟨X + 1, 0, none⟩) (World.block_lt_of_cell? _ _ kt1)).trans kt1
  have v12 := (hb2.cell (p := ⟨X + 2, 1, none⟩) (World.block_lt_of_cell? _ _ v11)).trans v11
  have HRB2 := Lib.hid (HRB.out.keep hb2)
  have hnb16 : nb ≤ 16 := by have h1 := belowL_len s (c : Int) s.chgs.length; have h2 := HNB.out; have h3 := HL4.out; omega
  have hnb0 : 0 < nb := by
    have h1 := HPOS.out
    unfold lenW memL at h1
    rw [← HC.out] at h1
    have h2 := List.length_filter_le (usesB s (t % 3)) (belowL s (c : Int) s.chgs.length)
    have h3 := HNB.out
    omega
  obtain ⟨bb, ob, hab, _, _⟩ := HRB2.out (by rw [HNB.out]; exact hnb0)
  have HV2 : Hid (X + 2 < w2.heap.size) := Lib.hid (World.block_lt_of_cell? _ _ v12)
  obtain ⟨lv, hlv⟩ : ∃ lv, lv = limAt s c := ⟨_, rfl⟩
  have HLV : Hid (lv = limAt s (t / 3)) := Lib.hid (by rw [hlv, HC.out])
  rw [← hlv]
  clear hlv hb2 k0 k1 k2 k3 k4 v01 v11 kt1 HRB HM1 HV1
  subst hab
  go_wp2_with fail
  refine (slClone_any ⟨bb, ob, none⟩ cb nb _ w2 HRB2.out HNB (by omega) hnb0).mono ?_
  rintro e w3 ⟨g, cap, rfl, H3⟩
  have HM3 := Lib.hid (HM2.out.keep H3.out.2.2.2.2)
  have kt3 := (H3.out.2.2.2.2.cell (p := ⟨X + 1, 0, none⟩) (World.block_lt_of_cell? _ _ kt2)).trans kt2
  have v13 := (H3.out.2.2.2.2.cell (p := ⟨X + 2, 1, none⟩) (World.block_lt_of_cell? _ _ v12)).trans v12
  have hp3 : p < 3 := by rw [HP.out]; exact HPP.out
  have hgX : X + 1 + 1 < g := by have h1 := H3.out.2.2.1; have h2 := HV2.out; omega
  have HGX := Lib.hid hgX
  have HBEL : Hid (∀ W, Mod (fun j => j = g) w3 W → Below w.heap.size w W) := Lib.hid (fun W hW => HM3.out.bel.trans (hW.below HM3.out.bel.size (fun j _ h => by have := HSZ.out; omega)))
  have HBD : Hid (∀ k, k < nb → 0 ≤ fI (belowL s (c : Int) s.chgs.length) k ∧ fI (belowL s (c : Int) s.chgs.length) k < (n4 : Int)) := Lib.hid (fun k hk => by
    have h := belowL_bd s (c : Int) s.chgs.length k (by rw [HNB.out]; exact hk)
    have h2 := HL4.out
    omega)
  have HDEL : Hid (DelR (fun z => !usesB s p z) (fun z => 0 ≤ z ∧ z < (n4 : Int)) (.pointer (some ⟨X, 0, none⟩)) (.pointer (some ⟨X + 1 + 1, 0, none⟩)) g w3) := Lib.hid (fun W hW z hz =>
    prWit1_any X (X + 1 + 1) a4 n4 c4 s p hp3 W ((hW.cell (p := ⟨X, 3, none⟩) (World.block_lt_of_cell? _ _ HM3.out.k3) (by show ¬ X = g; have := HGX.out; omega)).trans HM3.out.k3) ((hW.cell (p := ⟨X + 1 + 1, 1, none⟩) (World.block_lt_of_cell? _ _ v13) (by show ¬ X + 1 + 1 = g; have := HGX.out; omega)).trans v13) (Lib.hid (HS.out.r4.keep (HBEL.out W hW))) HL4 (by omega) HPH z hz)
  have HCMP : Hid (∀ w4, Mod (fun j => j = g) w3 w4 → CmpR (keyW xs) (fun z => 0 ≤ z ∧ z < (n4 : Int)) (.pointer (some ⟨X + 1, 0, none⟩)) g w4) := Lib.hid (fun w4 h4 W hW x y hx hy =>
    prWit2_any (X + 1) aA n4 cA xs W (((h4.trans hW).cell (p := ⟨X + 1, 0, none⟩) (World.block_lt_of_cell? _ _ kt3) (by show ¬ X + 1 = g; have := HGX.out; omega)).trans kt3) (Lib.hid (HX.out.keep (HBEL.out W (h4.trans hW)))) HNA (by omega) x y hx hy)
  have HS0 : Hid (SortP w3 g nb (fI (belowL s (c : Int) s.chgs.length)) w3) := Lib.hid ⟨H3.out.2.2.2.1, Mod.refl _ _⟩
  have HCAP : Hid (nb ≤ cap ∧ cap ≤ 9223372036854775807) := Lib.hid ⟨H3.out.1, H3.out.2.1⟩
  have HKT3 := Lib.hid kt3
  clear kt2 v12 kt3 v13 H3 hgX hp3
  go_wp2_with fail
  refine (slDelete_any (fun z => !usesB s p z) (fun z => 0 ≤ z ∧ z < (n4 : Int)) (.pointer (some ⟨X, 0, none⟩)) (.pointer (some ⟨X + 1 + 1, 0, none⟩)) g nb cap (fI (belowL s (c : Int) s.chgs.length)) w3 w3 HDEL.out HS0.out (by omega) HCAP.out.1 HCAP.out.2 HBD.out).mono ?_
  rintro e w4 ⟨m, f', rfl, HMF, HSP⟩
  have hrow : rowN f' m = memL s t := by
    rw [HMF.out.2, ← HNB.out, rowN_fI]
    unfold memL
    rw [← HC.out, ← HP.out]
    simp only [Bool.not_not]
  obtain ⟨hml, hme⟩ := memL_row s t hrow
  have hm16 : m ≤ 16 := by have h1 := HMF.out.1; omega
  have HML := Lib.hid hml
  have HS4 : Hid (SortP w4 g m (fI (memL s t)) w4) := Lib.hid ⟨(HSP.out.own.le HMF.out.1).congr hme, Mod.refl _ _⟩
  have HD4 : Hid (∀ k, k < m → 0 ≤ fI (memL s t) k ∧ fI (memL s t) k < (n4 : Int)) := Lib.hid (fun k hk => by
    have h := memL_in s t (i := k) (by have := HML.out; unfold lenW at this; omega)
    have h2 := HL4.out
    omega)
  have HAS4 : Hid (Asc (fI (memL s t)) 0 m) := Lib.hid (fun a b _ hab hb => memL_inc s t hab (by have := HML.out; unfold lenW at this; omega))
  have HC4 := Lib.hid (HCMP.out w4 HSP.out.mod)
  clear HDEL HS0 hrow hml hme HMF
  go_wp2_with fail
  refine (sSortStableR_few (keyW xs) (fun z => 0 ≤ z ∧ z < (n4 : Int)) (.pointer (some ⟨X + 1, 0, none⟩)) g m cap (fI (memL s t)) w4 w4 HC4.out HS4.out (by omega) HD4.out HAS4.out).mono ?_
  rintro e w5 ⟨rfl, v, HSO, S5⟩
  have HSRT : Hid (Sorts (keyW xs) 0 (lenW s t) (fI (memL s t)) v) := Lib.hid (by rw [← HML.out]; exact HSO)
  have hm5 : Mod (fun j => j = g) w3 w5 := HSP.out.mod.trans S5.mod
  have HB5 := Lib.hid (HBEL.out w5 hm5)
  have kt5 := (hm5.cell (p := ⟨X + 1, 0, none⟩) (World.block_lt_of_cell? _ _ HKT3.out) (by show ¬ X + 1 = g; have := HGX.out; omega)).trans HKT3.out
  have HU5 := Lib.hid S5.own
  obtain ⟨W6, hmk, ho6, b6, hz6⟩ := mk_intsW n4 (by omega) w5
  have HM6 : Hid (WtM w W6 X aA n4 cA g m v w5.heap.size (outW (fI xs) v (lv + 1) 0)) := Lib.hid (by
    have h1 := HU5.out.lt
    have h2 := HGX.out
    have h3 := HSZ.out
    have h4 := HB5.out.size
    exact ⟨below_then HB5.out b6, (b6.cell (p := ⟨X + 1, 0, none⟩) (World.block_lt_of_cell? _ _ kt5)).trans kt5, HU5.out.below b6, ho6.congr (fun j _ => rfl), by omega, by omega, by omega, by omega⟩)
  have HDF := Lib.hid (sorts_diff HSRT.out)
  rw [← HML.out] at HDF
  have hlv : 0 ≤ lv ∧ lv ≤ 1000 := by have := HLIM.out; rw [← HLV.out] at this; exact this
  clear HSO S5 hm5 HS4 HD4 HAS4 HC4 HSP HCMP ho6 b6 hz6 HCAP HBD HRB2 HM2 HM3 HBEL HV2
  go_wp2_with fail
  generalize w5.heap.size = go at *
  have HFINAL : Hid (∀ wf, WtM w wf X aA n4 cA g m v go (outW (fI xs) v (lv + 1) m) → WtPost w s xs t n4 (.returned (.slice (some ⟨go, 0, none⟩) n4 n4)) wf) := Lib.hid (fun wf h => ⟨go, v, rfl, HSRT.out, by rw [← HLV.out, ← HML.out]; exact h.ow, h.ne.2.2.2, h.bel⟩)
  have hw1 : IntKind.i64.wrap (lv + 1) = lv + 1 := IntWalk.i64_in _ (by omega)
  go_loopg [13, 15, 44] m (fun gg s13 _ s44 wr => ∃ k : Nat, s44 = .int .i64 k ∧ s13 = .int .i64 (lv + 1 - preS (fI xs) v k) ∧ k ≤ m ∧ m - k ≤ gg ∧ Hid (0 < lv + 1 - preS (fI xs) v k) ∧ Hid (WtM w wr X aA n4 cA g m v go (outW (fI xs) v (lv + 1) k)))
  case atStart => exact ⟨0, by go_num, by simp [preS, S], by omega, by omega, Lib.hid (by simp [preS, S]; omega), HM6⟩
  case round =>
    clear HM6
    obtain ⟨k, rfl, rfl, hk, hgg, HPR, HMr⟩ := hrel
    by_cases hlt : k < m
    · have hltz : (k : Int) < (m : Int) := by omega
      obtain ⟨d1, d2⟩ := HDF.out.bd k hlt
      obtain ⟨j, hj⟩ := Int.eq_ofNat_of_zero_le d1
      have hjn : j < n4 := by have := HL4.out; omega
      have hjz : (j : Int) < (n4 : Int) := by omega
      have us : wr.cell? ⟨g, k, none⟩ = some (.int .i64 (j : Nat)) := by rw [← hj]; exact HMr.out.us.cell hlt
      have kt := HMr.out.kt
      obtain ⟨bA, oA, hA, hbA, cA0⟩ := (HX.out.keep HMr.out.bel).int (k := j) (by rw [HNA.out]; exact hjn)
      change wr.cell? _ = some (.int .i64 (fI xs j)) at cA0
      have o0 := HMr.out.ow.cell (i := j) hjn
      have of := HMr.out.ow.frozen j
      have hfb := HCU.out.2 j
      have hpos := HPR.out
      have hp0 := preS_nonneg (fun i => (HCU.out.2 i).1) v k
      have hps : preS (fI xs) v (k + 1) = preS (fI xs) v k + fI xs j := by rw [preS_succ, hj]; rfl
      have HSTEP : Hid (∀ y, y = min (fI xs j) (lv + 1 - preS (fI xs) v k) → WtM w (wr.setCell ⟨go, j, none⟩ (.int .i64 y)) X aA n4 cA g m v go (outW (fI xs) v (lv + 1) (k + 1))) := Lib.hid (fun y hy => HMr.out.set j y (fun i => by
        rw [outW_step HDF.out (lv + 1) hlt i, hj]
        have hc : cutW (fI xs) v (lv + 1) k = y := by
          unfold cutW
          rw [hj, hy, show ((j : Int)).toNat = j from rfl]
          omega
        rw [hc]
        first | done | rfl))
      clear HMr
      subst hA
      obtain ⟨left, hleft⟩ : ∃ left, left = lv + 1 - preS (fI xs) v k := ⟨_, rfl⟩
      have HPS : Hid (lv + 1 - preS (fI xs) v (k + 1) = left - fI xs j) := Lib.hid (by rw [hps, hleft]; omega)
      have HLE : Hid (fI xs j ≥ left → lv + 1 ≤ preS (fI xs) v (k + 1)) := Lib.hid (fun h => by rw [hps]; omega)
      have hleb : left ≤ 1001 := by omega
      rw [← hleft] at HSTEP HPR hpos ⊢
      clear hps hleft d1 d2 hj hp0
      obtain ⟨x, hx⟩ : ∃ x, x = fI xs j := ⟨_, rfl⟩
      rw [← hx] at HSTEP HPS HLE hfb cA0
      clear hx
      by_cases hge : left ≤ x
      · have hmin : min x left = left := by omega
        have HW2 := Lib.hid (HSTEP.out left (by omega))
        have o1 := HW2.out.ow.cell (i := j) hjn
        have HFIN : Hid (outW (fI xs) v (lv + 1) m = outW (fI xs) v (lv + 1) (k + 1)) := Lib.hid (funext (fun i => outW_done (fun i => (HCU.out.2 i).1) (HLE.out hge) i m (by omega)))
        have hsub : IntKind.i64.wrap (left - left) = 0 := by rw [Int.sub_self]; rfl
        have ceq : (wr.setCell ⟨go, j, none⟩ (.int .i64 left)).cell? ⟨go, j, none⟩ = some (.int .i64 left) := World.cell?_setCell_same wr ⟨go, j, none⟩ _ o0
        have HW3 := Lib.hid (HFINAL.out _ (by rw [HFIN.out]; exact HW2.out))
        clear HSTEP HPS HLE o1 HW2 HFIN
        go_wp2_with fail
        all_goals (go_ret; first | exact HW3.out | (have e : x = left := (by omega); subst e; exact HW3.out))
      · have hmin : min x left = x := by omega
        have HW2 := Lib.hid (HSTEP.out x (by omega))
        have hsub : IntKind.i64.wrap (left - x) = left - x := IntWalk.i64_in _ (by omega)
        have ceq : (wr.setCell ⟨go, j, none⟩ (.int .i64 x)).cell? ⟨go, j, none⟩ = some (.int .i64 x) := World.cell?_setCell_same wr ⟨go, j, none⟩ _ o0
        have hnz : ¬ left - x = 0 := by omega
        have hnz2 : (left - x == 0) = false := by simpa using hnz
        have HPR2 : Hid (0 < lv + 1 - preS (fI xs) v (k + 1)) := Lib.hid (by rw [HPS.out]; omega)
        clear HSTEP HLE
        go_wp2_with fail
        go_roundg (m - (k + 1))
        case measure => omega
        case rel => exact ⟨k + 1, by go_num, by rw [HPS.out], by omega, by omega, HPR2, HW2⟩
    · have hltz : ¬ (k : Int) < (m : Int) := by omega
      have hkm : k = m := by omega
      subst hkm
      have HW3 := Lib.hid (HFINAL.out _ HMr.out)
      go_wp2_with fail
      go_ret
      exact HW3.out
end Go.Proofs.YtpkonifeieepfaaGreat
/-
proof.Prove.
-/
namespace Go.Proofs.YtpkonifeieepfaaGreat
open Go.RowKit
set_option linter.unusedVariables false
set_option linter.unusedSimpArgs false
/-- What is returned where something is exceeded. -/
def IsWit (s : GSite) (xs : List Int) (t : Nat) (ws : List Int) : Prop := ∃ v, Sorts (keyW xs) 0 (lenW s t) (fI (memL s t)) v ∧ ws = rowN (outW (fI xs) v (limAt s (t / 3) + 1) (lenW s t)) xs.length
def PvR (s : GSite) (xs : List Int) (ps : List R3) (ws : List Int) (er : Int) : Prop :=
  (loadB s xs = false ∧ ps = [] ∧ ws = [] ∧ er = 1) ∨ (loadB s xs = true ∧ ∃ t, vioO s xs = some t ∧ ps = [] ∧ er = 13 ∧ IsWit s xs t ws) ∨ (loadB s xs = true ∧ vioO s xs = none ∧ ps = loadsOf s xs ∧ ws = [] ∧ er = 0)
def PvPost (w : World) (s : GSite) (xs : List Int) (e : Ending) (w' : World) : Prop := ∃ ap np cp aw nw cw ps ws er, e = .returned (.tuple #[.agg #[.slice ap np cp], .slice aw nw cw, .int .i64 er]) ∧ Rd 3 enc3 w' ap ps ∧ ps.length = np ∧ Rd 1 encI w' aw ws ∧ ws.length = nw ∧ Hid (PvR s xs ps ws er) ∧ Below w.heap.size w w'
theorem ownW_rd {w : World} {g n : Nat} {f : Nat → Int} (h : Own w g 3 n (fun i => .int .i64 (f i))) : Rd 1 encI w (some ⟨g, 0, none⟩) (rowN f n) := by
  intro hn
  refine ⟨g, 0, rfl, h.lt, fun k x hx j v hv => ?_⟩
  have hk : k < n := by have := (List.getElem?_eq_some_iff.1 hx).1; rwa [rowN_len] at this
  unfold rowN at hx
  rw [List.getElem?_map, List.getElem?_range hk] at hx
  injection hx with hx
  have hj : j = 0 := by have := (List.getElem?_eq_some_iff.1 hv).1; simp [encI] at this; exact this
  subst hj
  simp only [encI, List.getElem?_cons_zero, Option.some.injEq] at hv
  rw [Nat.zero_add, Nat.mul_one, Nat.add_zero, h.cell hk, ← hv, ← hx]
theorem rd_ltV {α : Type} {sz : Nat} {enc : α → List Value} {w : World} {A : Option Addr} {xs : List α} (h : Rd sz enc w A xs) (h0 : 0 < xs.length) : ∀ a, A = some a → a.block < w.heap.size := by
  intro a ha
  obtain ⟨b, off, x, hA, hb, _⟩ := h.at_ h0
  rw [ha] at hA
  injection hA with hA
  subst hA
  exact hb
theorem vio_some {s : GSite} {xs : List Int} (hx : loadB s xs = true) {t : Nat} (h : vioO s xs = some t) : t < s.cons.length * 3 ∧ chkL s xs t = true := by
  unfold vioO at h
  rw [if_pos hx] at h
  exact ⟨List.mem_range.1 (List.mem_of_find?_eq_some h), List.find?_some h⟩
theorem vio_pos {s : GSite} {xs : List Int} (hk : OkSite keyL s) {t : Nat} (h : chkL s xs t = true) : 0 < lenW s t := by
  unfold chkL at h
  have h1 := of_decide_eq_true h
  have h2 := (limAt_bd hk (t / 3)).1
  have h3 := sum_mem s xs t
  unfold lenW
  rcases Nat.eq_zero_or_pos (memL s t).length with e | e
  · rw [e] at h3
    have h4 : sumK xs (memL s t) 0 = 0 := rfl
    omega
  · exact e
theorem load_prf {w : World} {b : Nat} {a : Option Addr} {n c : Nat} (h : w.cell? ⟨b, 0, none⟩ = some (.slice a n c)) : (loadVar 34 ⟨b, 0, none⟩).run Tryz.prog w = .ok (.agg #[.slice a n c]) w := by go_simp
theorem rd3_ne {W : World} {b : Nat} {t : TypeId} {v : Value} {A : Option Addr} {xs : List R3} (ho : Own W b t 1 (fun _ => v)) (hv : ∀ x, v ≠ .int .i64 x) (hr : Rd 3 enc3 W A xs) : ∀ a, A = some a → 0 < xs.length → ¬ a.block = b := by
  intro a ha h0 e
  obtain ⟨b', off, x, hA, hlt, hx, hc⟩ := hr.at_ (k := 0) h0
  rw [ha] at hA
  injection hA with hA
  subst hA
  dsimp only at e
  subst e
  have h1 := hc 0 _ rfl
  obtain ⟨cs, hb, hs, hcc⟩ := ho
  simp [World.cell?, hb] at h1
  have h2 := (Array.getElem?_eq_some_iff.1 h1).1
  have h3 : off = 0 := by omega
  subst h3
  rw [hcc 0 (by omega)] at h1
  injection h1 with h1
  exact hv _ h1
set_option maxRecDepth 100000 in
set_option maxHeartbeats 16000000 in
theorem prProve_any (a1 a2 a3 a4 a5 : Option Addr) (n1 c1 n2 c2 n3 c3 n4 c4 n5 c5 : Nat) (aA : Option Addr) (nA cA : Nat) (s : GSite) (xs : List Int) (w : World) (HS : Hid (RdSite w a1 a2 a3 a4 a5 n1 n2 n3 n4 n5 s)) (HX : Hid (Rd 1 encI w aA xs)) (HNA : Hid (xs.length = nA)) (hnA : nA ≤ 9223372036854775807) :
    Calls Tryz.prog 7 #[.agg #[.slice a1 n1 c1, .slice a2 n2 c2, .slice a3 n3 c3, .slice a4 n4 c4, .slice a5 n5 c5], .slice aA nA cA] w (PvPost w s xs) := by
  obtain ⟨W0, hW0⟩ : ∃ W0, W0 = (w.alloc (.cells #[.slice a1 n1 c1, .slice a2 n2 c2, .slice a3 n3 c3, .slice a4 n4 c4, .slice a5 n5 c5] 28)).alloc (.cells #[.slice none 0 0] 34) := ⟨_, rfl⟩
  have hm0 : LwM w W0 w.heap.size a1 n1 c1 a2 n2 c2 a3 n3 c3 a4 n4 c4 a5 n5 c5 s := by
    rw [hW0]
    exact (LwM.box (c1 := c1) (c2 := c2) (c3 := c3) (c4 := c4) (c5 := c5) HS.out).keep ((Below.refl _ _).alloc (Nat.le_refl _) _)
  have hor : Own W0 (w.heap.size + 1) 34 1 (fun _ => .slice none 0 0) := by
    have h := Own.one (w.alloc (.cells #[.slice a1 n1 c1, .slice a2 n2 c2, .slice a3 n3 c3, .slice a4 n4 c4, .slice a5 n5 c5] 28)) 34 (.slice none 0 0)
    rw [World.size_alloc] at h
    rw [hW0]; exact h
  have HW0 := Lib.hid hW0
  have HM := Lib.hid hm0
  have HOR := Lib.hid hor
  clear hW0 hm0 hor
  obtain ⟨k0, k1, k2, k3, k4⟩ : W0.cell? ⟨w.heap.size, 0, none⟩ = some (.slice a1 n1 c1) ∧ W0.cell? ⟨w.heap.size, 1, none⟩ = some (.slice a2 n2 c2) ∧ W0.cell? ⟨w.heap.size, 2, none⟩ = some (.slice a3 n3 c3) ∧ W0.cell? ⟨w.heap.size, 3, none⟩ = some (.slice a4 n4 c4) ∧ W0.cell? ⟨w.heap.size, 4, none⟩ = some (.slice a5 n5 c5) := ⟨HM.out.k0, HM.out.k1, HM.out.k2, HM.out.k3, HM.out.k4⟩
  go_enter Tryz.func7, Tryz.ntmps7
  go_wp2_with fail
  rw [← HW0.out]
  clear HW0
  obtain ⟨X, hX⟩ : ∃ X, X = w.heap.size := ⟨_, rfl⟩
  rw [← hX] at HM HOR k0 k1 k2 k3 k4 ⊢
  have HSZ : Hid (w.heap.size = X) := Lib.hid hX.symm
  clear hX
  go_wp2_with fail
  refine (limCheck_any a1 a2 a3 a4 a5 n1 c1 n2 c2 n3 c3 n4 c4 n5 c5 aA nA cA s xs W0 (Lib.hid HM.out.rs) (Lib.hid (HX.out.keep HM.out.bel)) HNA hnA).mono ?_
  rintro e w1 ⟨rfl, hb⟩
  have HM1 := Lib.hid (HM.out.keep hb)
  have HOR1 := Lib.hid (HOR.out.keep hb HOR.out.lt)
  clear k0 k1 k2 k3 k4 hb HM HOR
  have HEND : Hid (∀ W v, Own W (X + 1) 34 1 (fun _ => .slice none 0 0) → Below w.heap.size w W → Own (W.setCell ⟨X + 1, 0, none⟩ v) (X + 1) 34 1 (fun _ => v) ∧ Below w.heap.size w (W.setCell ⟨X + 1, 0, none⟩ v)) := Lib.hid (fun W v h1 h2 => ⟨h1.set1 _, h2.setCell (p := ⟨X + 1, 0, none⟩) (by show w.heap.size ≤ X + 1; have := HSZ.out; omega) _⟩)
  cases hlb : loadB s xs
  · have HN := Lib.hid hlb
    rw [vioO_no hlb, show vioV s xs none = .agg #[.int .i64 0, .int .i64 0, .int .i64 0] from rfl]
    have he : errO false = 1 := rfl
    obtain ⟨w2, hw2⟩ : ∃ w2, w2 = w1.alloc (.cells #[.int .i64 0, .int .i64 0, .int .i64 0] 58) := ⟨_, rfl⟩
    have hb2 : Below w1.heap.size w1 w2 := by rw [hw2]; exact (Below.refl _ w1).alloc (Nat.le_refl _) _
    have HM2 := Lib.hid (HM1.out.keep hb2)
    have HOR2 := Lib.hid (HOR1.out.keep hb2 HOR1.out.lt)
    have c0 := HOR2.out.cell (i := 0) (by omega)
    have f0 := HOR2.out.frozen 0
    have HE := Lib.hid (HEND.out w2 (.slice none 0 0) HOR2.out HM2.out.bel)
    rw [hw2] at c0 f0 HE
    clear hlb hb2 hw2 HM2 HOR2
    go_wp2_with fail
    refine bodyPost_ret (results_ctt (a := 4) (t := 5) (u := 6) (ty := 34) (b := X + 1) (by kernel_rfl) rfl (load_prf (HE.out.1.cell (i := 0) (by omega)))) rfl ?_
    exact ⟨none, 0, 0, none, 0, 0, [], [], 1, rfl, Rd.nil, rfl, Rd.nil, rfl, Lib.hid (.inl ⟨HN.out, rfl, rfl, rfl⟩), HE.out.2⟩
  have HLB := Lib.hid hlb
  have he : errO true = 0 := rfl
  have HOK : Hid (OkSite keyL s) := Lib.hid (by
    have h := HLB.out
    unfold loadB at h
    rw [Bool.and_eq_true] at h
    exact okSB_iff.1 h.1)
  clear hlb
  cases hvo : vioO s xs with
  | some t =>
    have HVO := Lib.hid hvo
    have hvs := vio_some HLB.out hvo
    have HVS : Hid (t / 3 < s.cons.length ∧ 0 < lenW s t) := Lib.hid ⟨by omega, vio_pos HOK.out hvs.2⟩
    rw [show vioV s xs (some t) = .agg #[.int .i64 ((t / 3 : Nat) : Int), .int .i64 ((t % 3 : Nat) : Int), .int .i64 (loadS s (fI xs) s.chgs.length t)] from rfl]
    obtain ⟨lo, hlo⟩ : ∃ lo, lo = loadS s (fI xs) s.chgs.length t := ⟨_, rfl⟩
    rw [← hlo]
    clear hlo hvs hvo
    obtain ⟨w2, hw2⟩ : ∃ w2, w2 = w1.alloc (.cells #[.int .i64 ((t / 3 : Nat) : Int), .int .i64 ((t % 3 : Nat) : Int), .int .i64 lo] 58) := ⟨_, rfl⟩
    have hb2 : Below w1.heap.size w1 w2 := by rw [hw2]; exact (Below.refl _ w1).alloc (Nat.le_refl _) _
    have HM2 := Lib.hid (HM1.out.keep hb2)
    have HOR2 := Lib.hid (HOR1.out.keep hb2 HOR1.out.lt)
    have HLT := Lib.hid (rd_ltV HX.out (by have h1 := HVS.out.2; have h2 := memL_len s t; have h3 := HLB.out; unfold loadB at h3; rw [Bool.and_eq_true] at h3; have h4 := (curB_iff.1 h3.2).1; unfold lenW at h1; omega))
    have HWT := Lib.hid (prWit_any a1 a2 a3 a4 a5 n1 c1 n2 c2 n3 c3 n4 c4 n5 c5 aA nA cA s xs t lo w2 (Lib.hid HM2.out.rs) (Lib.hid (HX.out.keep HM2.out.bel)) HNA HLB (Lib.hid HVS.out.1) (Lib.hid HVS.out.2) (Lib.hid (fun a ha => Nat.lt_of_lt_of_le (HLT.out a ha) HM2.out.bel.size)))
    obtain ⟨cc, hcc⟩ : ∃ cc, cc = t / 3 := ⟨_, rfl⟩
    obtain ⟨pp, hpp⟩ : ∃ pp, pp = t % 3 := ⟨_, rfl⟩
    rw [← hcc, ← hpp] at HWT hw2
    rw [← hcc, ← hpp]
    obtain ⟨k0, k1, k2, k3, k4⟩ : w2.cell? ⟨X, 0, none⟩ = some (.slice a1 n1 c1) ∧ w2.cell? ⟨X, 1, none⟩ = some (.slice a2 n2 c2) ∧ w2.cell? ⟨X, 2, none⟩ = some (.slice a3 n3 c3) ∧ w2.cell? ⟨X, 3, none⟩ = some (.slice a4 n4 c4) ∧ w2.cell? ⟨X, 4, none⟩ = some (.slice a5 n5 c5) := ⟨HM2.out.k0, HM2.out.k1, HM2.out.k2, HM2.out.k3, HM2.out.k4⟩
    rw [hw2] at k0 k1 k2 k3 k4 HWT
    clear hcc hpp
    go_wp2_with fail
    refine HWT.out.mono ?_
    rintro e w3 ⟨g, v, rfl, hso, how, hg, hb3⟩
    rw [← hw2] at hb3 hg
    have HO3 := Lib.hid how
    have HOR3 := Lib.hid (HOR2.out.keep hb3 HOR2.out.lt)
    have c0 := HOR3.out.cell (i := 0) (by omega)
    have f0 := HOR3.out.frozen 0
    have HE := Lib.hid (HEND.out w3 (.slice none 0 0) HOR3.out (below_then HM2.out.bel hb3))
    have HO4 : Hid (Own (w3.setCell ⟨X + 1, 0, none⟩ (.slice none 0 0)) g 3 nA (fun i => .int .i64 (outW (fI xs) v (limAt s (t / 3) + 1) (lenW s t) i))) := Lib.hid (HO3.out.other (p := ⟨X + 1, 0, none⟩) (by have := HOR2.out.lt; show g ≠ X + 1; omega) _)
    have HSO : Hid (IsWit s xs t (rowN (outW (fI xs) v (limAt s (t / 3) + 1) (lenW s t)) nA)) := Lib.hid ⟨v, hso, by rw [HNA.out]⟩
    clear hso how hg hb3 hw2 hb2 HM2 HOR2 HWT k0 k1 k2 k3 k4
    go_wp2_with fail
    refine bodyPost_ret (results_ctt (a := 4) (t := 5) (u := 6) (ty := 34) (b := X + 1) (by kernel_rfl) rfl (load_prf (HE.out.1.cell (i := 0) (by omega)))) rfl ?_
    exact ⟨none, 0, 0, some ⟨g, 0, none⟩, nA, nA, [], _, 13, rfl, Rd.nil, rfl, ownW_rd HO4.out, rowN_len _ _, Lib.hid (.inr (.inl ⟨HLB.out, t, HVO.out, rfl, rfl, HSO.out⟩)), HE.out.2⟩
  | none =>
    have HVO := Lib.hid hvo
    rw [show vioV s xs none = .agg #[.int .i64 0, .int .i64 0, .int .i64 0] from rfl]
    clear hvo
    obtain ⟨w2, hw2⟩ : ∃ w2, w2 = w1.alloc (.cells #[.int .i64 0, .int .i64 0, .int .i64 0] 58) := ⟨_, rfl⟩
    have hb2 : Below w1.heap.size w1 w2 := by rw [hw2]; exact (Below.refl _ w1).alloc (Nat.le_refl _) _
    have HM2 := Lib.hid (HM1.out.keep hb2)
    have HOR2 := Lib.hid (HOR1.out.keep hb2 HOR1.out.lt)
    obtain ⟨k0, k1, k2, k3, k4⟩ : w2.cell? ⟨X, 0, none⟩ = some (.slice a1 n1 c1) ∧ w2.cell? ⟨X, 1, none⟩ = some (.slice a2 n2 c2) ∧ w2.cell? ⟨X, 2, none⟩ = some (.slice a3 n3 c3) ∧ w2.cell? ⟨X, 3, none⟩ = some (.slice a4 n4 c4) ∧ w2.cell? ⟨X, 4, none⟩ = some (.slice a5 n5 c5) := ⟨HM2.out.k0, HM2.out.k1, HM2.out.k2, HM2.out.k3, HM2.out.k4⟩
    have HLD := Lib.hid (trLoads_any a1 n1 c1 a2 n2 c2 a3 n3 c3 a4 n4 c4 a5 n5 c5 aA nA cA s xs w2 (Lib.hid HM2.out.rs) (Lib.hid (HX.out.keep HM2.out.bel)) HNA hnA)
    rw [hw2] at k0 k1 k2 k3 k4 HLD
    go_wp2_with fail
    refine HLD.out.mono ?_
    rintro e w3 ⟨aL, cL, rfl, hrl, hb3⟩
    rw [← hw2] at hb3
    rw [HLB.out]
    have HRL : Hid (Rd 3 enc3 w3 aL (loadsOf s xs)) := Lib.hid (by rw [← loadsO_yes HLB.out]; exact hrl)
    have hll : (loadsO s xs).length = s.cons.length := by rw [loadsO_yes HLB.out, loadsOf_len]
    rw [hll]
    have HLL : Hid ((loadsOf s xs).length = s.cons.length) := Lib.hid (loadsOf_len _ _)
    obtain ⟨nl, hnl⟩ : ∃ nl, nl = s.cons.length := ⟨_, rfl⟩
    rw [← hnl] at HLL ⊢
    have HOR3 := Lib.hid (HOR2.out.keep hb3 HOR2.out.lt)
    have c0 := HOR3.out.cell (i := 0) (by omega)
    have f0 := HOR3.out.frozen 0
    have HE := Lib.hid (HEND.out w3 (.slice aL nl cL) HOR3.out (below_then HM2.out.bel hb3))
    have HR4 : Hid (Rd 3 enc3 (w3.setCell ⟨X + 1, 0, none⟩ (.slice aL nl cL)) aL (loadsOf s xs)) := Lib.hid (HRL.out.mod ((show Mod (fun j => j = X + 1) w3 w3 from Mod.refl _ w3).setCell (p := ⟨X + 1, 0, none⟩) (.inl rfl) _) (rd3_ne HOR3.out (fun x h => by cases h) HRL.out))
    clear hrl hb3 hw2 hb2 HM2 HOR2 HLD k0 k1 k2 k3 k4 hll hnl
    go_wp2_with fail
    refine bodyPost_ret (results_ctt (a := 4) (t := 5) (u := 6) (ty := 34) (b := X + 1) (by kernel_rfl) rfl (load_prf (HE.out.1.cell (i := 0) (by omega)))) rfl ?_
    exact ⟨aL, nl, cL, none, 0, 0, loadsOf s xs, [], 0, rfl, HR4.out, HLL.out, Rd.nil, rfl, Lib.hid (.inr (.inr ⟨HLB.out, HVO.out, rfl, rfl, rfl⟩)), HE.out.2⟩
end Go.Proofs.YtpkonifeieepfaaGreat
