/-
ProofWitness, walked.
-/
import Derived.Test.YtbjmpfchapggfaaCPrLa
import Derived.Test.YtbjmpfchapggfaaCOpenB
namespace Go.Proofs.Ytbjmpfchapggfaa
open Go.RowKit
set_option linter.unusedVariables false
set_option linter.unusedSimpArgs false
theorem drawN_congr {f g : Nat → Int} : ∀ n : Nat, (∀ i, i < n → f i = g i) → drawN f n = drawN g n
  | 0, _ => rfl
  | n + 1, h => by rw [drawN_succ, drawN_succ, drawN_congr n (fun i hi => h i (by omega)), h n (by omega)]
theorem loadS_congr {s : GSite} {f g : Nat → Int} {m : Nat} (h : ∀ i, i < m → f i = g i) (j : Nat) : loadS s f m j = loadS s g m j := by
  unfold loadS
  exact S_congr (fun i hi => by rw [h i hi])
theorem wit_facts {s : GSite} {xs : List Int} {t : Nat} {ws : List Int} (hx : loadB s xs = true) (hv : vioO s xs = some t) (hw : IsWit s xs t ws) :
    ws.length = xs.length ∧ (∀ i, 0 ≤ fI ws i ∧ fI ws i ≤ fI xs i) ∧ loadS s (fI ws) s.chgs.length t = limAt s (t / 3) + 1 ∧ ∀ g : Nat → Int, (∀ i, 0 ≤ g i ∧ g i ≤ fI xs i) → drawN g s.chgs.length < drawN (fI ws) s.chgs.length → loadS s g s.chgs.length t ≤ limAt s (t / 3) := by
  obtain ⟨v, h1, h2⟩ := hw
  obtain ⟨h3, h4⟩ := vio_some hx hv
  have hcu := cur_bd hx
  have hf : ∀ i, 0 ≤ fI xs i := fun i => (hcu.2 i).1
  have hk : OkSite keyL s := by
    have h := hx
    unfold loadB at h
    rw [Bool.and_eq_true] at h
    exact okSB_iff.1 h.1
  have hD := sorts_diff h1
  have hl := (limAt_bd hk (t / 3)).1
  have hc : limAt s (t / 3) < loadS s (fI xs) s.chgs.length t := by
    unfold chkL at h4
    exact of_decide_eq_true h4
  have hws : ∀ i, i < s.chgs.length → fI ws i = outW (fI xs) v (limAt s (t / 3) + 1) (lenW s t) i := fun i hi => by
    rw [h2]
    exact fI_rowN (by rw [hcu.1]; exact hi)
  refine ⟨by rw [h2, rowN_len], fun i => ?_, ?_, fun g hg hd => ?_⟩
  · rcases Nat.lt_or_ge i s.chgs.length with hi | hi
    · rw [hws i hi]
      exact outW_bd hf hD _ _ (Nat.le_refl _) i
    · rw [fI_off (by rw [h2, rowN_len, hcu.1]; exact hi)]
      exact ⟨Int.le_refl _, hf i⟩
  · rw [loadS_congr hws]
    exact outW_exact hf hD (fun i hi => sorts_on h1 i hi) (by omega) (by omega)
  · rw [drawN_congr _ hws] at hd
    have := wit_fewest hf hg hD (fun i hi => sorts_on h1 i hi) (sorts_desc h1) (L := limAt s (t / 3) + 1) (by omega) (by omega) hd
    omega
def hidF (xs bs : List Int) (hs : List Bool) (i : Nat) : Int := if hs[i]?.getD false = true then 0 else belF xs bs i
def hidV (xs bs : List Int) (hs : List Bool) (n : Nat) (F : Nat → Value) (k i : Nat) : Value := if i < n then .int .i64 (if i < k then hidF xs bs hs i else belF xs bs i) else F i
theorem hidV_set {xs bs : List Int} {hs : List Bool} {n : Nat} {F : Nat → Value} {k : Nat} (hk : k < n) (h : hs[k]?.getD false = true) (j : Nat) : (if j = k then .int .i64 0 else hidV xs bs hs n F k j) = hidV xs bs hs n F (k + 1) j := by
  unfold hidV
  by_cases e : j = k
  · subst e
    rw [if_pos rfl, if_pos hk, if_pos (by omega)]
    unfold hidF
    rw [if_pos h]
  · rw [if_neg e]
    by_cases h1 : j < n
    · rw [if_pos h1, if_pos h1]
      by_cases h2 : j < k
      · rw [if_pos h2, if_pos (by omega)]
      · rw [if_neg h2, if_neg (by omega)]
    · rw [if_neg h1, if_neg h1]
theorem hidV_no {xs bs : List Int} {hs : List Bool} {n : Nat} {F : Nat → Value} {k : Nat} (h : hs[k]?.getD false = false) (j : Nat) : hidV xs bs hs n F k j = hidV xs bs hs n F (k + 1) j := by
  unfold hidV
  by_cases h1 : j < n
  · rw [if_pos h1, if_pos h1]
    by_cases e : j = k
    · subst e
      rw [if_neg (by omega), if_pos (by omega)]
      unfold hidF
      rw [h, if_neg (by simp)]
    · by_cases h2 : j < k
      · rw [if_pos h2, if_pos (by omega)]
      · rw [if_neg h2, if_neg (by omega)]
  · rw [if_neg h1, if_neg h1]
theorem hid_bd {xs bs : List Int} {hs : List Bool} (h : ∀ i, 0 ≤ fI xs i) (i : Nat) : 0 ≤ hidF xs bs hs i ∧ hidF xs bs hs i ≤ fI xs i := by
  have h1 := belF_bd (bs := bs) h i
  have h2 := h i
  unfold hidF
  split <;> omega
theorem fI_hid {xs bs : List Int} {hs : List Bool} {n : Nat} (h : ∀ i, 0 ≤ fI xs i) (i : Nat) : 0 ≤ fI (rowN (hidF xs bs hs) n) i ∧ fI (rowN (hidF xs bs hs) n) i ≤ fI xs i := by
  rcases Nat.lt_or_ge i n with hi | hi
  · rw [fI_rowN hi]; exact hid_bd h i
  · rw [fI_off (by rw [rowN_len]; exact hi)]; exact ⟨Int.le_refl _, h i⟩
theorem cur_of {s : GSite} {xs ys : List Int} (hx : loadB s xs = true) (hl : ys.length = xs.length) (hy : ∀ i, 0 ≤ fI ys i ∧ fI ys i ≤ fI xs i) : loadB s ys = true := by
  have h1 := cur_bd hx
  have h := hx
  unfold loadB at h
  rw [Bool.and_eq_true] at h
  refine loadB_yes h.1 (curB_iff.2 ⟨hl.trans h1.1, fun i _ => ?_⟩)
  have h2 := hy i
  have h3 := h1.2 i
  omega
theorem hid_rd {W : World} {g cap n : Nat} {xs bs : List Int} {hs : List Bool} {F : Nat → Value} (ho : Own W g 3 cap (hidV xs bs hs n F n)) (hn : n ≤ cap) : Rd 1 encI W (some ⟨g, 0, none⟩) (rowN (hidF xs bs hs) n) := by
  refine ho.rd (by rw [rowN_len]; omega) (fun _ => rfl) (fun k x hx j v hv => ?_)
  have hk : k < n := by have := (List.getElem?_eq_some_iff.1 hx).1; rwa [rowN_len] at this
  have hj : j = 0 := by have := (List.getElem?_eq_some_iff.1 hv).1; simp [encI] at this; exact this
  subst hj
  unfold rowN at hx
  rw [List.getElem?_map, List.getElem?_range hk] at hx
  injection hx with hx
  subst hx
  injection hv with hv
  subst hv
  unfold hidV
  rw [Nat.mul_one, Nat.add_zero, if_pos hk, if_pos hk]
theorem loads_at {W : World} {A : Option Addr} {s : GSite} {ws : List Int} (h : Rd 3 enc3 W A (loadsOf s ws)) {c p : Nat} (hc : c < s.cons.length) (hp : p < 3) : ∃ b off, A = some ⟨b, off, none⟩ ∧ W.cell? ⟨b, off + c * 3 + p, none⟩ = some (.int .i64 (loadS s (fI ws) s.chgs.length (c * 3 + p))) := by
  obtain ⟨b, off, x, h1, h2, h3, h4⟩ := h.at_ (k := c) (by rw [loadsOf_len]; exact hc)
  rw [loadsOf_at hc] at h3
  injection h3 with h3
  subst h3
  refine ⟨b, off, h1, h4 p _ ?_⟩
  match p, hp with
  | 0, _ => rfl
  | 1, _ => rfl
  | 2, _ => rfl
set_option maxRecDepth 100000 in
set_option maxHeartbeats 16000000 in
theorem walk_ProofWitness (a1 : Option Addr) (n1 c1 : Nat) (a2 : Option Addr) (n2 c2 : Nat) (a3 : Option Addr) (n3 c3 : Nat) (a4 : Option Addr) (n4 c4 : Nat) (a5 : Option Addr) (n5 c5 : Nat) (s : GSite) {w : World} (HS : Hid (RdSite w a1 a2 a3 a4 a5 n1 n2 n3 n4 n5 s)) (_ : WfSite s) (aA : Option Addr) (cA nA : Nat) (xs : List Int) (hX : Rd 1 encI w aA xs) (HNA : Hid (xs.length = nA)) (hnA : nA ≤ 9223372036854775807) (_ : ∀ x, x ∈ xs → wfI64 x) (B1 : Option Addr) (d1 e1 : Nat) (bs : List Int) (hX1 : Rd 1 encU8 w B1 bs) (HN1 : Hid (bs.length = e1)) (he1 : e1 ≤ 9223372036854775807) (hw1 : ∀ x, x ∈ bs → (Lit.int .u8 x).wf = true) (aH : Option Addr) (cH nH : Nat) (hs : List Bool) (hH : Rd 1 encB w aH hs) (HNH : Hid (hs.length = nH)) (hnH : nH ≤ 9223372036854775807) :
    Calls Try.prog 6 #[.agg #[.slice a1 n1 c1, .slice a2 n2 c2, .slice a3 n3 c3, .slice a4 n4 c4, .slice a5 n5 c5], .slice aA nA cA, .slice B1 e1 d1, .slice aH nH cH] w fun e w' => e = .returned (.bool true) ∧ Below w.heap.size w w' := by
  have HX := Lib.hid hX
  have HX1 := Lib.hid hX1
  have HW1 := Lib.hid hw1
  have HH := Lib.hid hH
  clear hX hX1 hw1 hH
  obtain ⟨W0, hW0⟩ : ∃ W0, W0 = w.alloc (.cells #[.slice a1 n1 c1, .slice a2 n2 c2, .slice a3 n3 c3, .slice a4 n4 c4, .slice a5 n5 c5] 28) := ⟨_, rfl⟩
  have hm0 : LwM w W0 w.heap.size a1 n1 c1 a2 n2 c2 a3 n3 c3 a4 n4 c4 a5 n5 c5 s := by
    rw [hW0]
    exact (LwM.box (c1 := c1) (c2 := c2) (c3 := c3) (c4 := c4) (c5 := c5) HS.out)
  have HM := Lib.hid hm0
  have HW0 := Lib.hid hW0
  clear hm0 hW0
  go_enter Try.func6, Try.ntmps6
  go_wp2_with fail
  rw [← HW0.out]
  clear HW0
  obtain ⟨X, hX0⟩ : ∃ X, X = w.heap.size := ⟨_, rfl⟩
  rw [← hX0] at HM ⊢
  have HSZ : Hid (w.heap.size = X) := Lib.hid hX0.symm
  clear hX0
  refine (ltenHead_any W0).mono ?_
  rintro e w1 ⟨rfl, hb⟩
  have HM := Lib.hid (HM.out.keep (hb))
  obtain ⟨k0, k1, k2, k3, k4⟩ : w1.cell? ⟨X, 0, none⟩ = some (.slice a1 n1 c1) ∧ w1.cell? ⟨X, 1, none⟩ = some (.slice a2 n2 c2) ∧ w1.cell? ⟨X, 2, none⟩ = some (.slice a3 n3 c3) ∧ w1.cell? ⟨X, 3, none⟩ = some (.slice a4 n4 c4) ∧ w1.cell? ⟨X, 4, none⟩ = some (.slice a5 n5 c5) := ⟨HM.out.k0, HM.out.k1, HM.out.k2, HM.out.k3, HM.out.k4⟩
  have hlX : X < w1.heap.size := World.block_lt_of_cell? w1 _ k0
  clear hb
  go_wp2_with fail
  obtain ⟨W2, hW2⟩ : ∃ W2, W2 = w1.alloc (.cells #[.slice aA nA cA] 29) := ⟨_, rfl⟩
  have hb : Below w1.heap.size w1 W2 := by rw [hW2]; exact (Below.refl _ _).alloc (Nat.le_refl _) _
  have kl : W2.cell? ⟨w1.heap.size, 0, none⟩ = some (.slice aA nA cA) := by rw [hW2]; go_simp
  rw [← hW2]
  clear hW2
  have HM := Lib.hid (HM.out.keep (hb))
  clear k0 k1 k2 k3 k4 hlX
  obtain ⟨k0, k1, k2, k3, k4⟩ : W2.cell? ⟨X, 0, none⟩ = some (.slice a1 n1 c1) ∧ W2.cell? ⟨X, 1, none⟩ = some (.slice a2 n2 c2) ∧ W2.cell? ⟨X, 2, none⟩ = some (.slice a3 n3 c3) ∧ W2.cell? ⟨X, 3, none⟩ = some (.slice a4 n4 c4) ∧ W2.cell? ⟨X, 4, none⟩ = some (.slice a5 n5 c5) := ⟨HM.out.k0, HM.out.k1, HM.out.k2, HM.out.k3, HM.out.k4⟩
  have hlX : X < W2.heap.size := World.block_lt_of_cell? W2 _ k0
  clear hb
  refine (ltenFew_any a1 a2 a3 a4 a5 n1 c1 n2 c2 n3 c3 n4 c4 n5 c5 s none 0 0 w1.heap.size aA nA cA W2 (Lib.hid HM.out.rs) kl (by omega) (by omega)).mono ?_
  rintro e w3 ⟨rfl, hb⟩
  have HM := Lib.hid (HM.out.keep (hb))
  clear k0 k1 k2 k3 k4 hlX
  obtain ⟨k0, k1, k2, k3, k4⟩ : w3.cell? ⟨X, 0, none⟩ = some (.slice a1 n1 c1) ∧ w3.cell? ⟨X, 1, none⟩ = some (.slice a2 n2 c2) ∧ w3.cell? ⟨X, 2, none⟩ = some (.slice a3 n3 c3) ∧ w3.cell? ⟨X, 3, none⟩ = some (.slice a4 n4 c4) ∧ w3.cell? ⟨X, 4, none⟩ = some (.slice a5 n5 c5) := ⟨HM.out.k0, HM.out.k1, HM.out.k2, HM.out.k3, HM.out.k4⟩
  have hlX : X < w3.heap.size := World.block_lt_of_cell? w3 _ k0
  obtain ⟨q, hq⟩ : ∃ q, q = (decide (nA ≤ 40) && (fewS s && decide (0 ≤ 40))) := ⟨_, rfl⟩
  rw [← hq]
  have HQ := Lib.hid hq
  clear hb hq kl
  cases q
  · go_wp2_with fail
    go_ret
    exact ⟨rfl, HM.out.bel⟩
  have HQ2 : Hid (nA ≤ 40 ∧ 0 ≤ 40) := Lib.hid (by
    have h := HQ.out.symm
    simp only [Bool.and_eq_true, decide_eq_true_eq] at h
    exact ⟨h.1, h.2.2⟩)
  clear HQ
  go_wp2_with fail
  refine (prProve_any a1 a2 a3 a4 a5 n1 c1 n2 c2 n3 c3 n4 c4 n5 c5 aA nA cA s xs w3 (Lib.hid HM.out.rs) (Lib.hid (HX.out.keep HM.out.bel)) HNA (by omega)).mono ?_
  rintro e w4 ⟨ap, np, cp, aw, nw, cw, qs, ws, er, rfl, hp, hpl, hw, hwl, hR, hb⟩
  have HM := Lib.hid (HM.out.keep (hb))
  clear k0 k1 k2 k3 k4 hlX
  obtain ⟨k0, k1, k2, k3, k4⟩ : w4.cell? ⟨X, 0, none⟩ = some (.slice a1 n1 c1) ∧ w4.cell? ⟨X, 1, none⟩ = some (.slice a2 n2 c2) ∧ w4.cell? ⟨X, 2, none⟩ = some (.slice a3 n3 c3) ∧ w4.cell? ⟨X, 3, none⟩ = some (.slice a4 n4 c4) ∧ w4.cell? ⟨X, 4, none⟩ = some (.slice a5 n5 c5) := ⟨HM.out.k0, HM.out.k1, HM.out.k2, HM.out.k3, HM.out.k4⟩
  have hlX : X < w4.heap.size := World.block_lt_of_cell? w4 _ k0
  have HR := hR
  have HWS := Lib.hid hw
  have HWL := Lib.hid hwl
  have HBA : Hid (∀ v, Below w.heap.size w (w4.alloc (.cells #[v] 32))) := Lib.hid (fun v => HM.out.bel.alloc HM.out.bel.size _)
  clear hb hw hwl hR hp hpl
  by_cases her : er = 13
  case neg =>
    have h1 : (er == 13) = false := by simpa using her
    have h2 : (er != 13) = true := by simpa using her
    have hz : ws = [] := by
      rcases HR.out with ⟨_, _, h, _⟩ | ⟨_, _, _, _, h, _⟩ | ⟨_, _, _, h, _⟩
      · exact h
      · exact absurd h her
      · exact h
    subst hz
    have hnw : nw = 0 := HWL.out.symm
    subst hnw
    clear her HR HWL
    go_wp2_with fail
    go_ret
    exact ⟨rfl, HBA.out _⟩
  subst her
  obtain ⟨HLB, t, HVO, HWI⟩ : Hid (loadB s xs = true) ∧ ∃ t, Hid (vioO s xs = some t) ∧ Hid (IsWit s xs t ws) := by
    rcases HR.out with ⟨_, _, _, h⟩ | ⟨h1, t, h2, _, _, h3⟩ | ⟨_, _, _, _, h⟩
    · cases h
    · exact ⟨Lib.hid h1, t, Lib.hid h2, Lib.hid h3⟩
    · cases h
  have HWF := Lib.hid (wit_facts HLB.out HVO.out HWI.out)
  have hnw : nA = nw := by have h1 := HWF.out.1; have h2 := HWL.out; have h3 := HNA.out; omega
  subst hnw
  have HT := Lib.hid (vio_some HLB.out HVO.out).1
  have HOK : Hid (OkSite keyL s) := Lib.hid (by
    have h := HLB.out
    unfold loadB at h
    rw [Bool.and_eq_true] at h
    exact okSB_iff.1 h.1)
  have HCU := Lib.hid (cur_bd HLB.out)
  have HNN : Hid (1 ≤ nA ∧ nA ≤ 16 ∧ s.cons.length = n1 ∧ n1 ≤ 16 ∧ s.chgs.length = nA) := Lib.hid (by
    have h1 := HCU.out.1
    have h2 := HNA.out
    have h3 := HOK.out.n5
    have h4 := HOK.out.n2
    have h5 := HS.out.l1
    have h6 := vio_pos HOK.out (vio_some HLB.out HVO.out).2
    have h7 := memL_len s t
    unfold lenW at h6
    omega)
  obtain ⟨c, hc⟩ : ∃ c, c = t / 3 := ⟨_, rfl⟩
  obtain ⟨p, hp⟩ : ∃ p, p = t % 3 := ⟨_, rfl⟩
  have HCP : Hid (c * 3 + p = t ∧ c < n1 ∧ p < 3) := Lib.hid (by have h1 := HT.out; have h2 := HNN.out; omega)
  clear HR HWI
  go_wp2_with fail
  obtain ⟨W5, hW5⟩ : ∃ W', W' = w4.alloc (.cells #[.slice ap np cp] 32) := ⟨_, rfl⟩
  have hb : Below w4.heap.size w4 W5 := by rw [hW5]; exact (Below.refl _ _).alloc (Nat.le_refl _) _
  rw [← hW5]
  clear hW5
  have HM := Lib.hid (HM.out.keep (hb))
  clear k0 k1 k2 k3 k4 hlX
  obtain ⟨k0, k1, k2, k3, k4⟩ : W5.cell? ⟨X, 0, none⟩ = some (.slice a1 n1 c1) ∧ W5.cell? ⟨X, 1, none⟩ = some (.slice a2 n2 c2) ∧ W5.cell? ⟨X, 2, none⟩ = some (.slice a3 n3 c3) ∧ W5.cell? ⟨X, 3, none⟩ = some (.slice a4 n4 c4) ∧ W5.cell? ⟨X, 4, none⟩ = some (.slice a5 n5 c5) := ⟨HM.out.k0, HM.out.k1, HM.out.k2, HM.out.k3, HM.out.k4⟩
  have hlX : X < W5.heap.size := World.block_lt_of_cell? W5 _ k0
  have HWS := Lib.hid (HWS.out.keep hb)
  clear hb HBA
  try go_wp2_with fail
  refine (limCheck_any a1 a2 a3 a4 a5 n1 c1 n2 c2 n3 c3 n4 c4 n5 c5 aA nA cA s xs W5 (Lib.hid HM.out.rs) (Lib.hid (HX.out.keep HM.out.bel)) HNA (by omega)).mono ?_
  rintro e w6 ⟨rfl, hb⟩
  have HM := Lib.hid (HM.out.keep (hb))
  clear k0 k1 k2 k3 k4 hlX
  obtain ⟨k0, k1, k2, k3, k4⟩ : w6.cell? ⟨X, 0, none⟩ = some (.slice a1 n1 c1) ∧ w6.cell? ⟨X, 1, none⟩ = some (.slice a2 n2 c2) ∧ w6.cell? ⟨X, 2, none⟩ = some (.slice a3 n3 c3) ∧ w6.cell? ⟨X, 3, none⟩ = some (.slice a4 n4 c4) ∧ w6.cell? ⟨X, 4, none⟩ = some (.slice a5 n5 c5) := ⟨HM.out.k0, HM.out.k1, HM.out.k2, HM.out.k3, HM.out.k4⟩
  have hlX : X < w6.heap.size := World.block_lt_of_cell? w6 _ k0
  have HWS := Lib.hid (HWS.out.keep hb)
  clear hb
  rw [HVO.out, HLB.out, show errO true = 0 from rfl, show vioV s xs (some t) = .agg #[.int .i64 ((t / 3 : Nat) : Int), .int .i64 ((t % 3 : Nat) : Int), .int .i64 (loadS s (fI xs) s.chgs.length t)] from rfl, show (some t : Option Nat).isSome = true from rfl, ← hc, ← hp]
  obtain ⟨lo, hlo⟩ : ∃ lo, lo = loadS s (fI xs) s.chgs.length t := ⟨_, rfl⟩
  rw [← hlo]
  have HCD : Hid (c = t / 3 ∧ p = t % 3) := Lib.hid ⟨hc, hp⟩
  clear hlo hc hp
  have zn : ((nA : Int) != (nA : Int)) = false := by simp
  have zn2 : ((nA : Int) == (nA : Int)) = true := by simp
  go_upto_region 8 with (fail)
  obtain ⟨W7, hW7⟩ : ∃ W', W' = w6.alloc (.cells #[.int .i64 (c : Nat), .int .i64 (p : Nat), .int .i64 lo] 45) := ⟨_, rfl⟩
  have hb : Below w6.heap.size w6 W7 := by rw [hW7]; exact (Below.refl _ _).alloc (Nat.le_refl _) _
  have y0 : W7.cell? ⟨w6.heap.size, 0, none⟩ = some (.int .i64 (c : Nat)) := by rw [hW7]; go_simp
  have y1 : W7.cell? ⟨w6.heap.size, 1, none⟩ = some (.int .i64 (p : Nat)) := by rw [hW7]; go_simp
  rw [← hW7]
  clear hW7
  have HM := Lib.hid (HM.out.keep (hb))
  clear k0 k1 k2 k3 k4 hlX
  obtain ⟨k0, k1, k2, k3, k4⟩ : W7.cell? ⟨X, 0, none⟩ = some (.slice a1 n1 c1) ∧ W7.cell? ⟨X, 1, none⟩ = some (.slice a2 n2 c2) ∧ W7.cell? ⟨X, 2, none⟩ = some (.slice a3 n3 c3) ∧ W7.cell? ⟨X, 3, none⟩ = some (.slice a4 n4 c4) ∧ W7.cell? ⟨X, 4, none⟩ = some (.slice a5 n5 c5) := ⟨HM.out.k0, HM.out.k1, HM.out.k2, HM.out.k3, HM.out.k4⟩
  have hlX : X < W7.heap.size := World.block_lt_of_cell? W7 _ k0
  have HWS := Lib.hid (HWS.out.keep hb)
  obtain ⟨Y, hY⟩ : ∃ Y, Y = w6.heap.size := ⟨_, rfl⟩
  rw [← hY] at y0 y1 ⊢
  clear hb hY
  go_wp2_with fail
  clear zn zn2
  go_loopg [71] nA (fun g1 v71 wr => ∃ k : Nat, v71 = .int .i64 k ∧ k ≤ nA ∧ nA - k ≤ g1 ∧ wr = W7)
  case atStart => exact ⟨0, by go_num, by omega, by omega, rfl⟩
  case round =>
    obtain ⟨k, rfl, hk, hg1, rfl⟩ := hrel
    have hn16 : nA ≤ 16 := HNN.out.2.1
    by_cases hlt : k < nA
    · have hltz : (k : Int) < (nA : Int) := by omega
      obtain ⟨b, off, hA, hbl, hcl⟩ := (HX.out.keep HM.out.bel).int (k := k) (by rw [HNA.out]; exact hlt)
      obtain ⟨b', off', hA', hbl', hcl'⟩ := HWS.out.int (k := k) (by rw [HWL.out]; exact hlt)
      change wr.cell? _ = some (.int .i64 (fI xs k)) at hcl
      change wr.cell? _ = some (.int .i64 (fI ws k)) at hcl'
      have hbd := HWF.out.2.1 k
      subst hA hA'
      generalize fI xs k = x at *
      generalize fI ws k = y at *
      have q1 : ¬ y < 0 := by omega
      have q2 : ¬ x < y := by omega
      have q3 : decide (y < 0) = false := decide_eq_false q1
      have q4 : decide (x < y) = false := decide_eq_false q2
      clear hbd hbl hbl'
      go_wp2_with fail
      go_roundg (nA - (k + 1))
      case measure => omega
      case rel => exact ⟨k + 1, by go_num, by omega, by omega, rfl⟩
    · have hltz : ¬ (k : Int) < (nA : Int) := by omega
      clear hlt
      go_wp2_with fail
      refine (limLimit_any a1 a2 a3 a4 a5 n1 c1 n2 c2 n3 c3 n4 c4 n5 c5 s (c : Nat) wr (Lib.hid HM.out.rs)).mono ?_
      rintro e w8 ⟨rfl, hb⟩
      have HM := Lib.hid (HM.out.keep (hb))
      clear k0 k1 k2 k3 k4 hlX
      obtain ⟨k0, k1, k2, k3, k4⟩ : w8.cell? ⟨X, 0, none⟩ = some (.slice a1 n1 c1) ∧ w8.cell? ⟨X, 1, none⟩ = some (.slice a2 n2 c2) ∧ w8.cell? ⟨X, 2, none⟩ = some (.slice a3 n3 c3) ∧ w8.cell? ⟨X, 3, none⟩ = some (.slice a4 n4 c4) ∧ w8.cell? ⟨X, 4, none⟩ = some (.slice a5 n5 c5) := ⟨HM.out.k0, HM.out.k1, HM.out.k2, HM.out.k3, HM.out.k4⟩
      have hlX : X < w8.heap.size := World.block_lt_of_cell? w8 _ k0
      have y0 := (hb.cell (p := ⟨Y, 0, none⟩) (World.block_lt_of_cell? _ _ y0)).trans y0
      have y1 := (hb.cell (p := ⟨Y, 1, none⟩) (World.block_lt_of_cell? _ _ y1)).trans y1
      have HWS := Lib.hid (HWS.out.keep hb)
      clear hb
      have hok : okCo s ((c : Nat) : Int) = true := okCo_yes (okSB_iff.2 HOK.out) (by have h1 := HCP.out.2.1; have h2 := HNN.out; omega)
      rw [limO_yes hok, hok, show errO true = 0 from rfl, show (((c : Nat) : Int)).toNat = c by omega]
      obtain ⟨li, hli⟩ : ∃ li, li = limAt s c := ⟨_, rfl⟩
      rw [← hli]
      have HLI := Lib.hid hli
      have hlb := limAt_bd HOK.out c
      rw [← hli] at hlb
      have HLBD := Lib.hid hlb
      clear hli hok hlb
      go_wp2_with fail
      have HLW : Hid (loadB s ws = true) := Lib.hid (cur_of HLB.out HWF.out.1 HWF.out.2.1)
      refine (trLoads_any a1 n1 c1 a2 n2 c2 a3 n3 c3 a4 n4 c4 a5 n5 c5 aw nA cw s ws w8 (Lib.hid HM.out.rs) HWS HWL (by omega)).mono ?_
      rintro e w9 ⟨aL, cL, rfl, hrl, hb⟩
      rw [loadsO_yes HLW.out] at hrl
      rw [HLW.out, loadsO_yes HLW.out, loadsOf_len, HNN.out.2.2.1, show errO true = 0 from rfl]
      have HRL := Lib.hid hrl
      have HM := Lib.hid (HM.out.keep (hb))
      clear k0 k1 k2 k3 k4 hlX
      obtain ⟨k0, k1, k2, k3, k4⟩ : w9.cell? ⟨X, 0, none⟩ = some (.slice a1 n1 c1) ∧ w9.cell? ⟨X, 1, none⟩ = some (.slice a2 n2 c2) ∧ w9.cell? ⟨X, 2, none⟩ = some (.slice a3 n3 c3) ∧ w9.cell? ⟨X, 3, none⟩ = some (.slice a4 n4 c4) ∧ w9.cell? ⟨X, 4, none⟩ = some (.slice a5 n5 c5) := ⟨HM.out.k0, HM.out.k1, HM.out.k2, HM.out.k3, HM.out.k4⟩
      have hlX : X < w9.heap.size := World.block_lt_of_cell? w9 _ k0
      have y0 := (hb.cell (p := ⟨Y, 0, none⟩) (World.block_lt_of_cell? _ _ y0)).trans y0
      have y1 := (hb.cell (p := ⟨Y, 1, none⟩) (World.block_lt_of_cell? _ _ y1)).trans y1
      have HWS := Lib.hid (HWS.out.keep hb)
      clear hb hrl
      go_wp2_with fail
      have HXB : Hid (∀ i, 0 ≤ fI xs i ∧ fI xs i ≤ 80) := Lib.hid HCU.out.2
      have HBB : Hid (∀ i, 0 ≤ fI bs i ∧ fI bs i ≤ 255) := Lib.hid (u8_bdN HW1.out)
      refine (ltenBelow_own aA nA cA xs B1 e1 d1 bs w9 (Lib.hid (HX.out.keep HM.out.bel)) HNA (by have := HNN.out.2.1; omega) HXB (Lib.hid (HX1.out.keep HM.out.bel)) HN1 HBB).mono ?_
      rintro e w10 ⟨v, rfl, ho, hb⟩
      obtain ⟨g, cap, F, hv, hg, hc1, hc2, hO, hF⟩ := OwnR.open_ (enc := encI) (sz := 1) (fun _ => rfl) ho (by rw [rowN_len]; exact HNN.out.1)
      rw [rowN_len] at hv hc1
      subst hv
      rw [Nat.mul_one] at hO
      have HG : Hid (w9.heap.size ≤ g ∧ nA ≤ cap) := Lib.hid ⟨hg, hc1⟩
      have HI : Hid (Below w9.heap.size w9 w10 ∧ Own w10 g 3 cap (hidV xs bs hs nA F 0)) := Lib.hid ⟨hb, hO.congr (fun i _ => by
        unfold hidV
        by_cases h1 : i < nA
        · rw [if_pos h1, if_neg (by omega)]
          have h2 := hF i (belF xs bs i) 0 (.int .i64 (belF xs bs i)) (by unfold rowN; rw [List.getElem?_map, List.getElem?_range h1]; rfl) rfl
          rw [Nat.mul_one, Nat.add_zero] at h2
          exact h2
        · rw [if_neg h1])⟩
      clear ho hb hg hc1 hc2 hO hF
      go_wp2_with fail
      go_loopg [105] nA (fun g1 v105 wr => ∃ k : Nat, v105 = .int .i64 k ∧ k ≤ nA ∧ nA - k ≤ g1 ∧ Hid (Below w9.heap.size w9 wr ∧ Own wr g 3 cap (hidV xs bs hs nA F k)))
      case atStart => exact ⟨0, by go_num, by omega, by omega, HI⟩
      case round =>
        obtain ⟨k, rfl, hk, hg1, HJ⟩ := hrel
        clear HI
        have hn16 : nA ≤ 16 := HNN.out.2.1
        have hcap := HG.out.2
        by_cases hlt : k < nA
        · have hltz : (k : Int) < (nA : Int) := by omega
          have hcell : wr.cell? ⟨g, k, none⟩ = some (hidV xs bs hs nA F k k) := HJ.out.2.cell (by omega)
          have hfz : wr.frozen? ⟨g, k, none⟩ = false := HJ.out.2.frozen k
          have HS0 := Lib.hid (fun (h : hs[k]?.getD false = true) => (And.intro (HJ.out.1.setCell (p := ⟨g, k, none⟩) (by show w9.heap.size ≤ g; exact HG.out.1) (.int .i64 0)) ((HJ.out.2.set k (.int .i64 0)).congr (fun j _ => hidV_set hlt h j))))
          have HS1 := Lib.hid (fun (h : hs[k]?.getD false = false) => (And.intro HJ.out.1 (HJ.out.2.congr (fun j _ => hidV_no h j))))
          obtain ⟨u, hu⟩ : ∃ u, u = hidV xs bs hs nA F k k := ⟨_, rfl⟩
          rw [← hu] at hcell
          clear hu
          by_cases hkh : k < nH
          · have hkz : (k : Int) < (nH : Int) := by omega
            obtain ⟨b, off, hA, hbl, hcl⟩ := (HH.out.keep (below_then HM.out.bel HJ.out.1)).bool (k := k) (by rw [HNH.out]; exact hkh)
            obtain ⟨q, hq⟩ : ∃ q, q = hs[k]?.getD false := ⟨_, rfl⟩
            rw [← hq] at hcl
            have HQB := Lib.hid hq
            subst hA
            clear hq hbl
            cases q
            · clear hcell hfz
              go_wp2_with fail
              go_roundg (nA - (k + 1))
              case measure => omega
              case rel => exact ⟨k + 1, by go_num, by omega, by omega, Lib.hid (HS1.out HQB.out.symm)⟩
            · go_wp2_with fail
              go_roundg (nA - (k + 1))
              case measure => omega
              case rel => exact ⟨k + 1, by go_num, by omega, by omega, Lib.hid (HS0.out HQB.out.symm)⟩
          · have hkz : ¬ (k : Int) < (nH : Int) := by omega
            have HQB : Hid (hs[k]?.getD false = false) := Lib.hid (by rw [List.getElem?_eq_none (by rw [HNH.out]; omega)]; rfl)
            clear hcell hfz
            go_wp2_with fail
            go_roundg (nA - (k + 1))
            case measure => omega
            case rel => exact ⟨k + 1, by go_num, by omega, by omega, Lib.hid (HS1.out HQB.out)⟩
        · have hltz : ¬ (k : Int) < (nA : Int) := by omega
          have e : nA = k := by omega
          subst e
          have hb := HJ.out.1
          have HM := Lib.hid (HM.out.keep (hb))
          clear k0 k1 k2 k3 k4 hlX
          obtain ⟨k0, k1, k2, k3, k4⟩ : wr.cell? ⟨X, 0, none⟩ = some (.slice a1 n1 c1) ∧ wr.cell? ⟨X, 1, none⟩ = some (.slice a2 n2 c2) ∧ wr.cell? ⟨X, 2, none⟩ = some (.slice a3 n3 c3) ∧ wr.cell? ⟨X, 3, none⟩ = some (.slice a4 n4 c4) ∧ wr.cell? ⟨X, 4, none⟩ = some (.slice a5 n5 c5) := ⟨HM.out.k0, HM.out.k1, HM.out.k2, HM.out.k3, HM.out.k4⟩
          have hlX : X < wr.heap.size := World.block_lt_of_cell? wr _ k0
          have y0 := (hb.cell (p := ⟨Y, 0, none⟩) (World.block_lt_of_cell? _ _ y0)).trans y0
          have y1 := (hb.cell (p := ⟨Y, 1, none⟩) (World.block_lt_of_cell? _ _ y1)).trans y1
          have HWS := Lib.hid (HWS.out.keep hb)
          have HRL := Lib.hid (HRL.out.keep hb)
          have HO := Lib.hid (hid_rd HJ.out.2 HG.out.2)
          clear hb HJ hlt hk hg1
          go_wp2_with fail
          have HLO : Hid (loadB s (rowN (hidF xs bs hs) nA) = true) := Lib.hid (cur_of HLB.out (by rw [rowN_len, HNA.out]) (fI_hid (fun i => (HCU.out.2 i).1)))
          refine (trLoads_any a1 n1 c1 a2 n2 c2 a3 n3 c3 a4 n4 c4 a5 n5 c5 (some ⟨g, 0, none⟩) nA cap s (rowN (hidF xs bs hs) nA) wr (Lib.hid HM.out.rs) HO (Lib.hid (rowN_len _ _)) (by omega)).mono ?_
          rintro e w11 ⟨aE, cE, rfl, hre, hb⟩
          rw [loadsO_yes HLO.out] at hre
          rw [HLO.out, loadsO_yes HLO.out, loadsOf_len, HNN.out.2.2.1, show errO true = 0 from rfl]
          have HRE := Lib.hid hre
          have HM := Lib.hid (HM.out.keep (hb))
          clear k0 k1 k2 k3 k4 hlX
          obtain ⟨k0, k1, k2, k3, k4⟩ : w11.cell? ⟨X, 0, none⟩ = some (.slice a1 n1 c1) ∧ w11.cell? ⟨X, 1, none⟩ = some (.slice a2 n2 c2) ∧ w11.cell? ⟨X, 2, none⟩ = some (.slice a3 n3 c3) ∧ w11.cell? ⟨X, 3, none⟩ = some (.slice a4 n4 c4) ∧ w11.cell? ⟨X, 4, none⟩ = some (.slice a5 n5 c5) := ⟨HM.out.k0, HM.out.k1, HM.out.k2, HM.out.k3, HM.out.k4⟩
          have hlX : X < w11.heap.size := World.block_lt_of_cell? w11 _ k0
          have y0 := (hb.cell (p := ⟨Y, 0, none⟩) (World.block_lt_of_cell? _ _ y0)).trans y0
          have y1 := (hb.cell (p := ⟨Y, 1, none⟩) (World.block_lt_of_cell? _ _ y1)).trans y1
          have HWS := Lib.hid (HWS.out.keep hb)
          have HRL := Lib.hid (HRL.out.keep hb)
          have HO := Lib.hid (HO.out.keep hb)
          clear hb hre
          have hcp := HCP.out
          have q1 : ¬ (c : Int) < 0 := by omega
          have q2 : ¬ (n1 : Int) ≤ (c : Int) := by omega
          have q3 : ((n1 : Int) != (n1 : Int)) = false := by simp
          have q4 : ¬ (p : Int) < 0 := by omega
          have q5 : ¬ (2 : Int) < (p : Int) := by omega
          have d1_ : decide ((c : Int) < 0) = false := decide_eq_false q1
          have d2_ : decide ((n1 : Int) ≤ (c : Int)) = false := decide_eq_false q2
          have d4_ : decide ((p : Int) < 0) = false := decide_eq_false q4
          have d5_ : decide ((2 : Int) < (p : Int)) = false := decide_eq_false q5
          go_upto_region 28 with (fail)
          obtain ⟨bL, oL, hAL, hcL⟩ := loads_at HRL.out (c := c) (p := p) (by have := HNN.out.2.2.1; omega) hcp.2.2
          obtain ⟨bE, oE, hAE, hcE⟩ := loads_at HRE.out (c := c) (p := p) (by have := HNN.out.2.2.1; omega) hcp.2.2
          have hti : limAt s (t / 3) = li := by rw [HLI.out, HCD.out.1]
          rw [hcp.1, HWF.out.2.2.1, hti] at hcL
          rw [hcp.1] at hcE
          have hfew := HWF.out.2.2.2 (fI (rowN (hidF xs bs hs) nA)) (fI_hid (fun i => (HCU.out.2 i).1))
          rw [hti, HNN.out.2.2.2.2] at hfew
          have hlb := HLBD.out
          have hw1 : IntKind.i64.wrap (li + 1) = li + 1 := IntWalk.i64_in _ (by omega)
          have HD1 := Lib.hid (fun (W : World) (h : Below w11.heap.size w11 W) => ltenDraw_any (some ⟨g, 0, none⟩) nA cap (rowN (hidF xs bs hs) nA) W (Lib.hid (HO.out.keep h)) (Lib.hid (rowN_len _ _)) (by omega))
          have HD2 := Lib.hid (fun (W : World) (h : Below w11.heap.size w11 W) => ltenDraw_any aw nA cw ws W (Lib.hid (HWS.out.keep h)) HWL (by omega))
          obtain ⟨do_, hdo⟩ : ∃ d, d = drawN (fI (rowN (hidF xs bs hs) nA)) nA := ⟨_, rfl⟩
          obtain ⟨dw, hdw⟩ : ∃ d, d = drawN (fI ws) nA := ⟨_, rfl⟩
          rw [← hdo] at hfew HD1
          rw [← hdw] at hfew HD2
          have HFEW := Lib.hid hfew
          obtain ⟨lz, hlz⟩ : ∃ z, z = loadS s (fI (rowN (hidF xs bs hs) nA)) s.chgs.length t := ⟨_, rfl⟩
          rw [HNN.out.2.2.2.2] at hlz
          rw [HNN.out.2.2.2.2, ← hlz] at hcE
          rw [← hlz] at HFEW
          subst hAL hAE
          clear hfew hdo hdw hlz hti q3 d1_ d2_ d4_ d5_
          refine region_z (S := fun w' => Below w11.heap.size w11 w') [] (by kernel_rfl) (Below.refl _ _).drew (fun hHeld => ?_)
          obtain ⟨wd, hwd⟩ : ∃ wd, wd = w11.drew := ⟨_, rfl⟩
          rw [← hwd] at hHeld ⊢
          clear hwd
          refine wpAnyZ_take (i := 0) (v := .bool true) [] rfl (by kernel_rfl) (by kernel_rfl) (by kernel_rfl) (by kernel_rfl) (fun _ _ _ h => h) (Or.inl ⟨by kernel_rfl, fun w' hSw => ?_⟩) hHeld ?_
          · clear hHeld hSw
            go_simp
          simp only [Act.put, List.getElem_toArray, List.getElem_cons_zero, List.getElem_cons_succ, List.setIfInBounds_toArray, List.set_cons_zero, List.set_cons_succ]
          refine wpAnyZ_take (i := 1) (v := .bool true) [] rfl (by kernel_rfl) (by kernel_rfl) (by kernel_rfl) (by kernel_rfl) (fun _ _ _ h => h) (Or.inl ⟨by kernel_rfl, fun w' hSw => ?_⟩) hHeld ?_
          · clear hHeld hSw
            go_simp
          simp only [Act.put, List.getElem_toArray, List.getElem_cons_zero, List.getElem_cons_succ, List.setIfInBounds_toArray, List.set_cons_zero, List.set_cons_succ]
          refine wpAnyZ_take (i := 2) (v := .slice (some ⟨bL, oL, none⟩) n1 cL) [] rfl (by kernel_rfl) (by kernel_rfl) (by kernel_rfl) (by kernel_rfl) (fun _ _ _ h => h) (Or.inl ⟨by kernel_rfl, fun w' hSw => ?_⟩) hHeld ?_
          · clear hHeld hSw
            go_simp
          simp only [Act.put, List.getElem_toArray, List.getElem_cons_zero, List.getElem_cons_succ, List.setIfInBounds_toArray, List.set_cons_zero, List.set_cons_succ]
          refine wpAnyZ_take (i := 3) (v := .pointer (some ⟨Y, 0, none⟩)) [] rfl (by kernel_rfl) (by kernel_rfl) (by kernel_rfl) (by kernel_rfl) (fun _ _ _ h => h) (Or.inl ⟨by kernel_rfl, fun w' hSw => ?_⟩) hHeld ?_
          · clear hHeld hSw
            go_simp
          simp only [Act.put, List.getElem_toArray, List.getElem_cons_zero, List.getElem_cons_succ, List.setIfInBounds_toArray, List.set_cons_zero, List.set_cons_succ]
          refine wpAnyZ_take (i := 4) (v := .int .i64 (c : Nat)) [] rfl (by kernel_rfl) (by kernel_rfl) (by kernel_rfl) (by kernel_rfl) (fun _ _ _ h => h) (Or.inl ⟨by kernel_rfl, fun w' hSw => ?_⟩) hHeld ?_
          · have s0 := (hSw.cell (p := ⟨Y, 0, none⟩) (World.block_lt_of_cell? _ _ y0)).trans y0
            have s1 := (hSw.cell (p := ⟨Y, 1, none⟩) (World.block_lt_of_cell? _ _ y1)).trans y1
            clear hHeld hSw
            go_simp
          simp only [Act.put, List.getElem_toArray, List.getElem_cons_zero, List.getElem_cons_succ, List.setIfInBounds_toArray, List.set_cons_zero, List.set_cons_succ]
          refine wpAnyZ_take (i := 5) (v := .pointer (some ⟨Y, 1, none⟩)) [] rfl (by kernel_rfl) (by kernel_rfl) (by kernel_rfl) (by kernel_rfl) (fun _ _ _ h => h) (Or.inl ⟨by kernel_rfl, fun w' hSw => ?_⟩) hHeld ?_
          · clear hHeld hSw
            go_simp
          simp only [Act.put, List.getElem_toArray, List.getElem_cons_zero, List.getElem_cons_succ, List.setIfInBounds_toArray, List.set_cons_zero, List.set_cons_succ]
          refine wpAnyZ_take (i := 6) (v := .int .i64 (p : Nat)) [] rfl (by kernel_rfl) (by kernel_rfl) (by kernel_rfl) (by kernel_rfl) (fun _ _ _ h => h) (Or.inl ⟨by kernel_rfl, fun w' hSw => ?_⟩) hHeld ?_
          · have s0 := (hSw.cell (p := ⟨Y, 0, none⟩) (World.block_lt_of_cell? _ _ y0)).trans y0
            have s1 := (hSw.cell (p := ⟨Y, 1, none⟩) (World.block_lt_of_cell? _ _ y1)).trans y1
            clear hHeld hSw
            go_simp
          simp only [Act.put, List.getElem_toArray, List.getElem_cons_zero, List.getElem_cons_succ, List.setIfInBounds_toArray, List.set_cons_zero, List.set_cons_succ]
          refine wpAnyZ_take (i := 7) (v := .pointer (some ⟨bL, oL + c * 3, none⟩)) [] rfl (by kernel_rfl) (by kernel_rfl) (by kernel_rfl) (by kernel_rfl) (fun _ _ _ h => h) (Or.inl ⟨by kernel_rfl, fun w' hSw => ?_⟩) hHeld ?_
          · clear hHeld hSw
            go_simp
            all_goals (first | omega | (intro hh; omega))
          simp only [Act.put, List.getElem_toArray, List.getElem_cons_zero, List.getElem_cons_succ, List.setIfInBounds_toArray, List.set_cons_zero, List.set_cons_succ]
          refine wpAnyZ_take (i := 8) (v := .pointer (some ⟨bL, oL + c * 3 + p, none⟩)) [] rfl (by kernel_rfl) (by kernel_rfl) (by kernel_rfl) (by kernel_rfl) (fun _ _ _ h => h) (Or.inl ⟨by kernel_rfl, fun w' hSw => ?_⟩) hHeld ?_
          · clear hHeld hSw
            go_simp
            all_goals (first | omega | (intro hh; omega))
          simp only [Act.put, List.getElem_toArray, List.getElem_cons_zero, List.getElem_cons_succ, List.setIfInBounds_toArray, List.set_cons_zero, List.set_cons_succ]
          refine wpAnyZ_take (i := 9) (v := .int .i64 (li + 1)) [] rfl (by kernel_rfl) (by kernel_rfl) (by kernel_rfl) (by kernel_rfl) (fun _ _ _ h => h) (Or.inl ⟨by kernel_rfl, fun w' hSw => ?_⟩) hHeld ?_
          · have s0 := (hSw.cell (p := ⟨bL, oL + c * 3 + p, none⟩) (World.block_lt_of_cell? _ _ hcL)).trans hcL
            clear hHeld hSw
            go_simp
          simp only [Act.put, List.getElem_toArray, List.getElem_cons_zero, List.getElem_cons_succ, List.setIfInBounds_toArray, List.set_cons_zero, List.set_cons_succ]
          refine wpAnyZ_take (i := 10) (v := .int .i64 li) [] rfl (by kernel_rfl) (by kernel_rfl) (by kernel_rfl) (by kernel_rfl) (fun _ _ _ h => h) (Or.inl ⟨by kernel_rfl, fun w' hSw => ?_⟩) hHeld ?_
          · clear hHeld hSw
            go_simp
          simp only [Act.put, List.getElem_toArray, List.getElem_cons_zero, List.getElem_cons_succ, List.setIfInBounds_toArray, List.set_cons_zero, List.set_cons_succ]
          refine wpAnyZ_take (i := 11) (v := .int .i64 (li + 1)) [] rfl (by kernel_rfl) (by kernel_rfl) (by kernel_rfl) (by kernel_rfl) (fun _ _ _ h => h) (Or.inl ⟨by kernel_rfl, fun w' hSw => ?_⟩) hHeld ?_
          · clear hHeld hSw
            go_simp
          simp only [Act.put, List.getElem_toArray, List.getElem_cons_zero, List.getElem_cons_succ, List.setIfInBounds_toArray, List.set_cons_zero, List.set_cons_succ]
          refine wpAnyZ_take (i := 12) (v := .bool true) [] rfl (by kernel_rfl) (by kernel_rfl) (by kernel_rfl) (by kernel_rfl) (fun _ _ _ h => h) (Or.inl ⟨by kernel_rfl, fun w' hSw => ?_⟩) hHeld ?_
          · clear hHeld hSw
            go_simp
          simp only [Act.put, List.getElem_toArray, List.getElem_cons_zero, List.getElem_cons_succ, List.setIfInBounds_toArray, List.set_cons_zero, List.set_cons_succ]
          refine wpAnyZ_take (i := 13) (v := .bool true) [] rfl (by kernel_rfl) (by kernel_rfl) (by kernel_rfl) (by kernel_rfl) (fun _ _ _ h => h) (Or.inl ⟨by kernel_rfl, fun w' hSw => ?_⟩) hHeld ?_
          · clear hHeld hSw
            go_simp
          simp only [Act.put, List.getElem_toArray, List.getElem_cons_zero, List.getElem_cons_succ, List.setIfInBounds_toArray, List.set_cons_zero, List.set_cons_succ]
          refine wpAnyZ_take (i := 14) (v := .bool true) [] rfl (by kernel_rfl) (by kernel_rfl) (by kernel_rfl) (by kernel_rfl) (fun _ _ _ h => h) (Or.inl ⟨by kernel_rfl, fun w' hSw => ?_⟩) hHeld ?_
          · clear hHeld hSw
            go_simp
          simp only [Act.put, List.getElem_toArray, List.getElem_cons_zero, List.getElem_cons_succ, List.setIfInBounds_toArray, List.set_cons_zero, List.set_cons_succ]
          refine wpAnyZ_take (i := 15) (v := .slice (some ⟨g, 0, none⟩) nA cap) [] rfl (by kernel_rfl) (by kernel_rfl) (by kernel_rfl) (by kernel_rfl) (fun _ _ _ h => h) (Or.inl ⟨by kernel_rfl, fun w' hSw => ?_⟩) hHeld ?_
          · clear hHeld hSw
            go_simp
          simp only [Act.put, List.getElem_toArray, List.getElem_cons_zero, List.getElem_cons_succ, List.setIfInBounds_toArray, List.set_cons_zero, List.set_cons_succ]
          refine wpAnyZ_take (i := 17) (v := .slice aw nA cw) [] rfl (by kernel_rfl) (by kernel_rfl) (by kernel_rfl) (by kernel_rfl) (fun _ _ _ h => h) (Or.inl ⟨by kernel_rfl, fun w' hSw => ?_⟩) hHeld ?_
          · clear hHeld hSw
            go_simp
          simp only [Act.put, List.getElem_toArray, List.getElem_cons_zero, List.getElem_cons_succ, List.setIfInBounds_toArray, List.set_cons_zero, List.set_cons_succ]
          refine wpAnyZ_one (i := 16) (by kernel_rfl) rfl (fun K' hK => ?_)
          go_simp
          refine (HD1.out _ hHeld).mono ?_
          rintro e wx ⟨rfl, hwx⟩
          rw [hwx]
          clear hwx wx
          have hb := Below.refl wd.heap.size wd
          refine hK.out _ _ ?_ (fun hHeld' => ?_)
          · exact hHeld.trans (hb.mono hHeld.size)
          clear hK K'
          clear hHeld hb 
          have hHeld := hHeld'
          clear hHeld'
          try simp only [Act.put, List.getElem_toArray, List.getElem_cons_zero, List.getElem_cons_succ, List.setIfInBounds_toArray, List.set_cons_zero, List.set_cons_succ]
          refine wpAnyZ_one (i := 18) (by kernel_rfl) rfl (fun K' hK => ?_)
          go_simp
          refine (HD2.out _ hHeld).mono ?_
          rintro e wx ⟨rfl, hwx⟩
          rw [hwx]
          clear hwx wx
          have hb := Below.refl wd.heap.size wd
          refine hK.out _ _ ?_ (fun hHeld' => ?_)
          · exact hHeld.trans (hb.mono hHeld.size)
          clear hK K'
          clear hHeld hb 
          have hHeld := hHeld'
          clear hHeld'
          try simp only [Act.put, List.getElem_toArray, List.getElem_cons_zero, List.getElem_cons_succ, List.setIfInBounds_toArray, List.set_cons_zero, List.set_cons_succ]
          by_cases hge : dw ≤ do_
          · have hgz : (dw : Int) ≤ (do_ : Int) := by omega
            have hgd : decide ((dw : Int) ≤ (do_ : Int)) = true := decide_eq_true hgz
            refine wpAnyZ_take (i := 19) (v := .bool true) [] rfl (by kernel_rfl) (by kernel_rfl) (by kernel_rfl) (by kernel_rfl) (fun _ _ _ h => h) (Or.inl ⟨by kernel_rfl, fun w' hSw => ?_⟩) hHeld ?_
            · clear hHeld hSw
              go_simp
            simp only [Act.put, List.getElem_toArray, List.getElem_cons_zero, List.getElem_cons_succ, List.setIfInBounds_toArray, List.set_cons_zero, List.set_cons_succ]
            refine wpAnyZ_take (i := 20) (v := .bool true) [] rfl (by kernel_rfl) (by kernel_rfl) (by kernel_rfl) (by kernel_rfl) (fun _ _ _ h => h) (Or.inl ⟨by kernel_rfl, fun w' hSw => ?_⟩) hHeld ?_
            · clear hHeld hSw
              go_simp
            simp only [Act.put, List.getElem_toArray, List.getElem_cons_zero, List.getElem_cons_succ, List.setIfInBounds_toArray, List.set_cons_zero, List.set_cons_succ]
            refine wpAnyZ_take (i := 21) (v := undef) [] rfl (by kernel_rfl) (by kernel_rfl) (by kernel_rfl) (by kernel_rfl) (fun _ _ _ h => h) (Or.inr ⟨by kernel_rfl, rfl⟩) hHeld ?_
            simp only [Act.put, List.getElem_toArray, List.getElem_cons_zero, List.getElem_cons_succ, List.setIfInBounds_toArray, List.set_cons_zero, List.set_cons_succ]
            refine wpAnyZ_take (i := 22) (v := undef) [] rfl (by kernel_rfl) (by kernel_rfl) (by kernel_rfl) (by kernel_rfl) (fun _ _ _ h => h) (Or.inr ⟨by kernel_rfl, rfl⟩) hHeld ?_
            simp only [Act.put, List.getElem_toArray, List.getElem_cons_zero, List.getElem_cons_succ, List.setIfInBounds_toArray, List.set_cons_zero, List.set_cons_succ]
            refine wpAnyZ_take (i := 23) (v := undef) [] rfl (by kernel_rfl) (by kernel_rfl) (by kernel_rfl) (by kernel_rfl) (fun _ _ _ h => h) (Or.inr ⟨by kernel_rfl, rfl⟩) hHeld ?_
            simp only [Act.put, List.getElem_toArray, List.getElem_cons_zero, List.getElem_cons_succ, List.setIfInBounds_toArray, List.set_cons_zero, List.set_cons_succ]
            refine wpAnyZ_take (i := 24) (v := undef) [] rfl (by kernel_rfl) (by kernel_rfl) (by kernel_rfl) (by kernel_rfl) (fun _ _ _ h => h) (Or.inr ⟨by kernel_rfl, rfl⟩) hHeld ?_
            simp only [Act.put, List.getElem_toArray, List.getElem_cons_zero, List.getElem_cons_succ, List.setIfInBounds_toArray, List.set_cons_zero, List.set_cons_succ]
            refine wpAnyZ_take (i := 25) (v := undef) [] rfl (by kernel_rfl) (by kernel_rfl) (by kernel_rfl) (by kernel_rfl) (fun _ _ _ h => h) (Or.inr ⟨by kernel_rfl, rfl⟩) hHeld ?_
            simp only [Act.put, List.getElem_toArray, List.getElem_cons_zero, List.getElem_cons_succ, List.setIfInBounds_toArray, List.set_cons_zero, List.set_cons_succ]
            refine wpAnyZ_take (i := 26) (v := undef) [] rfl (by kernel_rfl) (by kernel_rfl) (by kernel_rfl) (by kernel_rfl) (fun _ _ _ h => h) (Or.inr ⟨by kernel_rfl, rfl⟩) hHeld ?_
            simp only [Act.put, List.getElem_toArray, List.getElem_cons_zero, List.getElem_cons_succ, List.setIfInBounds_toArray, List.set_cons_zero, List.set_cons_succ]
            refine wpAnyZ_take (i := 27) (v := undef) [] rfl (by kernel_rfl) (by kernel_rfl) (by kernel_rfl) (by kernel_rfl) (fun _ _ _ h => h) (Or.inr ⟨by kernel_rfl, rfl⟩) hHeld ?_
            simp only [Act.put, List.getElem_toArray, List.getElem_cons_zero, List.getElem_cons_succ, List.setIfInBounds_toArray, List.set_cons_zero, List.set_cons_succ]
            refine wpAnyZ_take (i := 28) (v := undef) [] rfl (by kernel_rfl) (by kernel_rfl) (by kernel_rfl) (by kernel_rfl) (fun _ _ _ h => h) (Or.inr ⟨by kernel_rfl, rfl⟩) hHeld ?_
            simp only [Act.put, List.getElem_toArray, List.getElem_cons_zero, List.getElem_cons_succ, List.setIfInBounds_toArray, List.set_cons_zero, List.set_cons_succ]
            refine wpAnyZ_take (i := 29) (v := undef) [] rfl (by kernel_rfl) (by kernel_rfl) (by kernel_rfl) (by kernel_rfl) (fun _ _ _ h => h) (Or.inr ⟨by kernel_rfl, rfl⟩) hHeld ?_
            simp only [Act.put, List.getElem_toArray, List.getElem_cons_zero, List.getElem_cons_succ, List.setIfInBounds_toArray, List.set_cons_zero, List.set_cons_succ]
            refine wpAnyZ_take (i := 30) (v := undef) [] rfl (by kernel_rfl) (by kernel_rfl) (by kernel_rfl) (by kernel_rfl) (fun _ _ _ h => h) (Or.inr ⟨by kernel_rfl, rfl⟩) hHeld ?_
            simp only [Act.put, List.getElem_toArray, List.getElem_cons_zero, List.getElem_cons_succ, List.setIfInBounds_toArray, List.set_cons_zero, List.set_cons_succ]
            refine wpAnyZ_take (i := 31) (v := .bool true) [] rfl (by kernel_rfl) (by kernel_rfl) (by kernel_rfl) (by kernel_rfl) (fun _ _ _ h => h) (Or.inl ⟨by kernel_rfl, fun w' hSw => ?_⟩) hHeld ?_
            · clear hHeld hSw
              go_simp
            simp only [Act.put, List.getElem_toArray, List.getElem_cons_zero, List.getElem_cons_succ, List.setIfInBounds_toArray, List.set_cons_zero, List.set_cons_succ]
            refine wpAnyZ_take (i := 32) (v := .bool true) [] rfl (by kernel_rfl) (by kernel_rfl) (by kernel_rfl) (by kernel_rfl) (fun _ _ _ h => h) (Or.inl ⟨by kernel_rfl, fun w' hSw => ?_⟩) hHeld ?_
            · clear hHeld hSw
              go_simp
            simp only [Act.put, List.getElem_toArray, List.getElem_cons_zero, List.getElem_cons_succ, List.setIfInBounds_toArray, List.set_cons_zero, List.set_cons_succ]
            refine wpAnyZ_take (i := 33) (v := .bool true) [] rfl (by kernel_rfl) (by kernel_rfl) (by kernel_rfl) (by kernel_rfl) (fun _ _ _ h => h) (Or.inl ⟨by kernel_rfl, fun w' hSw => ?_⟩) hHeld ?_
            · clear hHeld hSw
              go_simp
            simp only [Act.put, List.getElem_toArray, List.getElem_cons_zero, List.getElem_cons_succ, List.setIfInBounds_toArray, List.set_cons_zero, List.set_cons_succ]
            refine wpAnyZ_done (by kernel_rfl) ?_ _
            go_wp2_with fail
            go_ret
            exact ⟨rfl, below_then HM.out.bel hHeld⟩
          · have hgz : ¬ (dw : Int) ≤ (do_ : Int) := by omega
            have hgd : decide ((dw : Int) ≤ (do_ : Int)) = false := decide_eq_false hgz
            have hle := HFEW.out (by omega)
            have hld : decide (lz ≤ li) = true := decide_eq_true hle
            refine wpAnyZ_take (i := 19) (v := .bool false) [] rfl (by kernel_rfl) (by kernel_rfl) (by kernel_rfl) (by kernel_rfl) (fun _ _ _ h => h) (Or.inl ⟨by kernel_rfl, fun w' hSw => ?_⟩) hHeld ?_
            · clear hHeld hSw
              go_simp
            simp only [Act.put, List.getElem_toArray, List.getElem_cons_zero, List.getElem_cons_succ, List.setIfInBounds_toArray, List.set_cons_zero, List.set_cons_succ]
            refine wpAnyZ_take (i := 20) (v := .bool false) [] rfl (by kernel_rfl) (by kernel_rfl) (by kernel_rfl) (by kernel_rfl) (fun _ _ _ h => h) (Or.inl ⟨by kernel_rfl, fun w' hSw => ?_⟩) hHeld ?_
            · clear hHeld hSw
              go_simp
            simp only [Act.put, List.getElem_toArray, List.getElem_cons_zero, List.getElem_cons_succ, List.setIfInBounds_toArray, List.set_cons_zero, List.set_cons_succ]
            refine wpAnyZ_take (i := 21) (v := .slice (some ⟨bE, oE, none⟩) n1 cE) [] rfl (by kernel_rfl) (by kernel_rfl) (by kernel_rfl) (by kernel_rfl) (fun _ _ _ h => h) (Or.inl ⟨by kernel_rfl, fun w' hSw => ?_⟩) hHeld ?_
            · clear hHeld hSw
              go_simp
            simp only [Act.put, List.getElem_toArray, List.getElem_cons_zero, List.getElem_cons_succ, List.setIfInBounds_toArray, List.set_cons_zero, List.set_cons_succ]
            refine wpAnyZ_take (i := 22) (v := .pointer (some ⟨Y, 0, none⟩)) [] rfl (by kernel_rfl) (by kernel_rfl) (by kernel_rfl) (by kernel_rfl) (fun _ _ _ h => h) (Or.inl ⟨by kernel_rfl, fun w' hSw => ?_⟩) hHeld ?_
            · clear hHeld hSw
              go_simp
            simp only [Act.put, List.getElem_toArray, List.getElem_cons_zero, List.getElem_cons_succ, List.setIfInBounds_toArray, List.set_cons_zero, List.set_cons_succ]
            refine wpAnyZ_take (i := 23) (v := .int .i64 (c : Nat)) [] rfl (by kernel_rfl) (by kernel_rfl) (by kernel_rfl) (by kernel_rfl) (fun _ _ _ h => h) (Or.inl ⟨by kernel_rfl, fun w' hSw => ?_⟩) hHeld ?_
            · have s0 := (hSw.cell (p := ⟨Y, 0, none⟩) (World.block_lt_of_cell? _ _ y0)).trans y0
              have s1 := (hSw.cell (p := ⟨Y, 1, none⟩) (World.block_lt_of_cell? _ _ y1)).trans y1
              clear hHeld hSw
              go_simp
            simp only [Act.put, List.getElem_toArray, List.getElem_cons_zero, List.getElem_cons_succ, List.setIfInBounds_toArray, List.set_cons_zero, List.set_cons_succ]
            refine wpAnyZ_take (i := 24) (v := .pointer (some ⟨Y, 1, none⟩)) [] rfl (by kernel_rfl) (by kernel_rfl) (by kernel_rfl) (by kernel_rfl) (fun _ _ _ h => h) (Or.inl ⟨by kernel_rfl, fun w' hSw => ?_⟩) hHeld ?_
            · clear hHeld hSw
              go_simp
            simp only [Act.put, List.getElem_toArray, List.getElem_cons_zero, List.getElem_cons_succ, List.setIfInBounds_toArray, List.set_cons_zero, List.set_cons_succ]
            refine wpAnyZ_take (i := 25) (v := .int .i64 (p : Nat)) [] rfl (by kernel_rfl) (by kernel_rfl) (by kernel_rfl) (by kernel_rfl) (fun _ _ _ h => h) (Or.inl ⟨by kernel_rfl, fun w' hSw => ?_⟩) hHeld ?_
            · have s0 := (hSw.cell (p := ⟨Y, 0, none⟩) (World.block_lt_of_cell? _ _ y0)).trans y0
              have s1 := (hSw.cell (p := ⟨Y, 1, none⟩) (World.block_lt_of_cell? _ _ y1)).trans y1
              clear hHeld hSw
              go_simp
            simp only [Act.put, List.getElem_toArray, List.getElem_cons_zero, List.getElem_cons_succ, List.setIfInBounds_toArray, List.set_cons_zero, List.set_cons_succ]
            refine wpAnyZ_take (i := 26) (v := .pointer (some ⟨bE, oE + c * 3, none⟩)) [] rfl (by kernel_rfl) (by kernel_rfl) (by kernel_rfl) (by kernel_rfl) (fun _ _ _ h => h) (Or.inl ⟨by kernel_rfl, fun w' hSw => ?_⟩) hHeld ?_
            · clear hHeld hSw
              go_simp
              all_goals (first | omega | (intro hh; omega))
            simp only [Act.put, List.getElem_toArray, List.getElem_cons_zero, List.getElem_cons_succ, List.setIfInBounds_toArray, List.set_cons_zero, List.set_cons_succ]
            refine wpAnyZ_take (i := 27) (v := .pointer (some ⟨bE, oE + c * 3 + p, none⟩)) [] rfl (by kernel_rfl) (by kernel_rfl) (by kernel_rfl) (by kernel_rfl) (fun _ _ _ h => h) (Or.inl ⟨by kernel_rfl, fun w' hSw => ?_⟩) hHeld ?_
            · clear hHeld hSw
              go_simp
              all_goals (first | omega | (intro hh; omega))
            simp only [Act.put, List.getElem_toArray, List.getElem_cons_zero, List.getElem_cons_succ, List.setIfInBounds_toArray, List.set_cons_zero, List.set_cons_succ]
            refine wpAnyZ_take (i := 28) (v := .int .i64 lz) [] rfl (by kernel_rfl) (by kernel_rfl) (by kernel_rfl) (by kernel_rfl) (fun _ _ _ h => h) (Or.inl ⟨by kernel_rfl, fun w' hSw => ?_⟩) hHeld ?_
            · have s0 := (hSw.cell (p := ⟨bE, oE + c * 3 + p, none⟩) (World.block_lt_of_cell? _ _ hcE)).trans hcE
              clear hHeld hSw
              go_simp
            simp only [Act.put, List.getElem_toArray, List.getElem_cons_zero, List.getElem_cons_succ, List.setIfInBounds_toArray, List.set_cons_zero, List.set_cons_succ]
            refine wpAnyZ_take (i := 29) (v := .int .i64 li) [] rfl (by kernel_rfl) (by kernel_rfl) (by kernel_rfl) (by kernel_rfl) (fun _ _ _ h => h) (Or.inl ⟨by kernel_rfl, fun w' hSw => ?_⟩) hHeld ?_
            · clear hHeld hSw
              go_simp
            simp only [Act.put, List.getElem_toArray, List.getElem_cons_zero, List.getElem_cons_succ, List.setIfInBounds_toArray, List.set_cons_zero, List.set_cons_succ]
            refine wpAnyZ_take (i := 30) (v := .bool true) [] rfl (by kernel_rfl) (by kernel_rfl) (by kernel_rfl) (by kernel_rfl) (fun _ _ _ h => h) (Or.inl ⟨by kernel_rfl, fun w' hSw => ?_⟩) hHeld ?_
            · clear hHeld hSw
              go_simp
            simp only [Act.put, List.getElem_toArray, List.getElem_cons_zero, List.getElem_cons_succ, List.setIfInBounds_toArray, List.set_cons_zero, List.set_cons_succ]
            refine wpAnyZ_take (i := 31) (v := .bool true) [] rfl (by kernel_rfl) (by kernel_rfl) (by kernel_rfl) (by kernel_rfl) (fun _ _ _ h => h) (Or.inl ⟨by kernel_rfl, fun w' hSw => ?_⟩) hHeld ?_
            · clear hHeld hSw
              go_simp
            simp only [Act.put, List.getElem_toArray, List.getElem_cons_zero, List.getElem_cons_succ, List.setIfInBounds_toArray, List.set_cons_zero, List.set_cons_succ]
            refine wpAnyZ_take (i := 32) (v := .bool true) [] rfl (by kernel_rfl) (by kernel_rfl) (by kernel_rfl) (by kernel_rfl) (fun _ _ _ h => h) (Or.inl ⟨by kernel_rfl, fun w' hSw => ?_⟩) hHeld ?_
            · clear hHeld hSw
              go_simp
            simp only [Act.put, List.getElem_toArray, List.getElem_cons_zero, List.getElem_cons_succ, List.setIfInBounds_toArray, List.set_cons_zero, List.set_cons_succ]
            refine wpAnyZ_take (i := 33) (v := .bool true) [] rfl (by kernel_rfl) (by kernel_rfl) (by kernel_rfl) (by kernel_rfl) (fun _ _ _ h => h) (Or.inl ⟨by kernel_rfl, fun w' hSw => ?_⟩) hHeld ?_
            · clear hHeld hSw
              go_simp
            simp only [Act.put, List.getElem_toArray, List.getElem_cons_zero, List.getElem_cons_succ, List.setIfInBounds_toArray, List.set_cons_zero, List.set_cons_succ]
            refine wpAnyZ_done (by kernel_rfl) ?_ _
            go_wp2_with fail
            go_ret
            exact ⟨rfl, below_then HM.out.bel hHeld⟩
end Go.Proofs.Ytbjmpfchapggfaa
