/-
ProofLess, walked.
-/
import Derived.Test.YtbjmpfchapggfaaCPrLa
import Derived.Test.YtbjmpfchapggfaaCLimT
import Derived.Test.YtbjmpfchapggfaaGLPrP
import Derived.Test.YtbjmpfchapggfaaCRegK
namespace Go.Proofs.Ytbjmpfchapggfaa
open Go.RowKit
set_option linter.unusedVariables false
set_option linter.unusedSimpArgs false
theorem own_litC0 (w : World) : OwnR 65 11 encCon (w.alloc (.cells #[] 65)) w.heap.size (.slice (some ⟨w.heap.size, 0, none⟩) 0 0) ([] : List GCon) :=
  ⟨by simp, .inr ⟨w.heap.size, 0, #[], rfl, Nat.le_refl _, heap_alloc_new w _, Nat.le_refl _, by unfold maxLen; omega, rfl, by simp⟩⟩
/-- The site whose first k conductors may carry more. -/
def widK (s : GSite) (m : Int) : Nat → List GCon
  | 0 => s.cons
  | k + 1 => match s.cons[k]? with
    | some c => (widK s m k).set k (widC m c)
    | none => widK s m k
theorem widK_len (s : GSite) (m : Int) : ∀ k, (widK s m k).length = s.cons.length
  | 0 => rfl
  | k + 1 => by
    show (match s.cons[k]? with | some c => (widK s m k).set k (widC m c) | none => widK s m k).length = _
    split
    · rw [List.length_set]; exact widK_len s m k
    · exact widK_len s m k
theorem widK_get (s : GSite) (m : Int) (j : Nat) : ∀ k, k ≤ s.cons.length → (widK s m k)[j]? = if j < k then (s.cons[j]?).map (widC m) else s.cons[j]?
  | 0, _ => rfl
  | k + 1, hk => by
    have ih := widK_get s m j k (by omega)
    have hg : s.cons[k]? = some (s.cons[k]'(by omega)) := List.getElem?_eq_getElem (by omega)
    have e : widK s m (k + 1) = (widK s m k).set k (widC m (s.cons[k]'(by omega))) := by
      show (match s.cons[k]? with | some c => (widK s m k).set k (widC m c) | none => widK s m k) = _
      rw [hg]
    rw [e]
    by_cases h : j = k
    · subst h
      rw [List.getElem?_set_self (by rw [widK_len]; omega), if_pos (by omega), hg]
      rfl
    · rw [List.getElem?_set_ne (fun x => h x.symm), ih]
      by_cases h2 : j < k
      · rw [if_pos h2, if_pos (by omega)]
      · rw [if_neg h2, if_neg (by omega)]
theorem widK_at {s : GSite} {m : Int} {k : Nat} {c : GCon} (hk : s.cons[k]? = some c) : (widK s m k)[k]? = some c := by
  have := (List.getElem?_eq_some_iff.1 hk).1
  rw [widK_get s m k k (by omega), if_neg (by omega), hk]
theorem widK_succ {s : GSite} {m : Int} {k : Nat} {c : GCon} (hk : s.cons[k]? = some c) : widK s m (k + 1) = (widK s m k).set k (widC m c) := by
  show (match s.cons[k]? with | some c => (widK s m k).set k (widC m c) | none => widK s m k) = _
  rw [hk]
theorem widK_all (s : GSite) (m : Int) : widK s m s.cons.length = (widS m s).cons := by
  apply List.ext_getElem?
  intro j
  rw [widK_get s m j _ (Nat.le_refl _)]
  show _ = (s.cons.map (widC m))[j]?
  rw [List.getElem?_map]
  by_cases h : j < s.cons.length
  · rw [if_pos h]
  · rw [if_neg h, List.getElem?_eq_none (by omega)]
    rfl
/-- The memory: the site, the wide site in box Y, its conductors in block g. -/
structure WdM (w W : World) (X : Nat) (a1 : Option Addr) (n1 c1 : Nat) (a2 : Option Addr) (n2 c2 : Nat) (a3 : Option Addr) (n3 c3 : Nat) (a4 : Option Addr) (n4 c4 : Nat) (a5 : Option Addr) (n5 c5 : Nat) (s : GSite) (aP : Option Addr) (nP cP Y g cY N : Nat) (F : Nat → Value) : Prop where
  lw : LwM w W X a1 n1 c1 a2 n2 c2 a3 n3 c3 a4 n4 c4 a5 n5 c5 s
  kp : W.cell? ⟨X + 1, 0, none⟩ = some (.slice aP nP cP)
  yy : Own W Y 28 5 (fun i => (#[.slice (some ⟨g, 0, none⟩) n1 cY, .slice a2 n2 c2, .slice a3 n3 c3, .slice a4 n4 c4, .slice a5 n5 c5] : Array Value)[i]?.getD undef)
  ow : Own W g 65 N F
  ne : X ≠ g ∧ X + 1 ≠ g ∧ Y ≠ g ∧ w.heap.size ≤ g
theorem WdM.drew {w W : World} {X : Nat} {a1 : Option Addr} {n1 c1 : Nat} {a2 : Option Addr} {n2 c2 : Nat} {a3 : Option Addr} {n3 c3 : Nat} {a4 : Option Addr} {n4 c4 : Nat} {a5 : Option Addr} {n5 c5 : Nat} {s : GSite} {aP : Option Addr} {nP cP Y g cY N : Nat} {F : Nat → Value} (h : WdM w W X a1 n1 c1 a2 n2 c2 a3 n3 c3 a4 n4 c4 a5 n5 c5 s aP nP cP Y g cY N F) : WdM w W.drew X a1 n1 c1 a2 n2 c2 a3 n3 c3 a4 n4 c4 a5 n5 c5 s aP nP cP Y g cY N F :=
  ⟨h.lw.keep (below_drew W), ((below_drew W).cell (p := ⟨X + 1, 0, none⟩) (World.block_lt_of_cell? _ _ h.kp)).trans h.kp, h.yy.drew, h.ow.drew, h.ne⟩
theorem WdM.set {w W : World} {X : Nat} {a1 : Option Addr} {n1 c1 : Nat} {a2 : Option Addr} {n2 c2 : Nat} {a3 : Option Addr} {n3 c3 : Nat} {a4 : Option Addr} {n4 c4 : Nat} {a5 : Option Addr} {n5 c5 : Nat} {s : GSite} {aP : Option Addr} {nP cP Y g cY N : Nat} {F : Nat → Value} (h : WdM w W X a1 n1 c1 a2 n2 c2 a3 n3 c3 a4 n4 c4 a5 n5 c5 s aP nP cP Y g cY N F) (hw : RdSite w a1 a2 a3 a4 a5 n1 n2 n3 n4 n5 s) (i : Nat) (u : Value) : WdM w (W.setCell ⟨g, i, none⟩ u) X a1 n1 c1 a2 n2 c2 a3 n3 c3 a4 n4 c4 a5 n5 c5 s aP nP cP Y g cY N (fun j => if j = i then u else F j) := by
  have hm : Mod (fun j => j = g) W (W.setCell ⟨g, i, none⟩ u) := (show Mod (fun j => j = g) W W from Mod.refl _ W).setCell (p := ⟨g, i, none⟩) (.inl rfl) u
  obtain ⟨n1, n2, n3, n4⟩ := h.ne
  exact ⟨h.lw.mod hw hm n1 (fun k hk => by omega), (hm.cell (p := ⟨X + 1, 0, none⟩) (World.block_lt_of_cell? _ _ h.kp) n2).trans h.kp, h.yy.mod hm n3, h.ow.set i u, h.ne⟩
theorem rdSite_wid {W : World} {g : Nat} {a1 a2 a3 a4 a5 : Option Addr} {n1 n2 n3 n4 n5 : Nat} {s : GSite} {m : Int} (h : RdSite W a1 a2 a3 a4 a5 n1 n2 n3 n4 n5 s) (hr : Rd 11 encCon W (some ⟨g, 0, none⟩) (widS m s).cons) : RdSite W (some ⟨g, 0, none⟩) a2 a3 a4 a5 n1 n2 n3 n4 n5 (widS m s) := by
  refine ⟨hr, h.r2, h.r3, h.r4, h.r5, ?_, h.l2, h.l3, h.l4, h.l5, h.m1, h.m2, h.m3, h.m4, h.m5, ?_⟩
  · show (s.cons.map (widC m)).length = n1
    rw [List.length_map]; exact h.l1
  · intro x hx
    have e : allNames (widS m s) = allNames s := by
      unfold allNames widS
      dsimp only
      rw [List.map_map]
      rfl
    rw [e] at hx
    exact h.nm x hx
def limC (m : Int) (c : GCon) : GCon := ⟨c.name, c.up, min 1000 (c.limit + m), c.neutral, c.rated, c.heat, c.amb, c.most, c.gain, c.loss, c.den⟩
def neuC (m : Int) (c : GCon) : GCon := ⟨c.name, c.up, min 1000 (c.limit + m), min 1000 (c.neutral + m), c.rated, c.heat, c.amb, c.most, c.gain, c.loss, c.den⟩
theorem neuC_wid {m : Int} {c : GCon} (h : ¬ 0 < c.rated) : neuC m c = widC m c := by unfold neuC widC; rw [if_neg h]
theorem enc_at2 {c c' : GCon} (j : Nat) (h : encCon c' = (encCon c).set j ((encCon c')[j]?.getD undef)) : ∀ i, i ≠ j → (encCon c')[i]? = (encCon c)[i]? := by
  intro i hi
  rw [h, List.getElem?_set_ne (fun x => hi x.symm)]
theorem holds_lim {F : Nat → Value} {s : GSite} {m : Int} {k : Nat} {c : GCon} (h : HoldsC F (widK s m k)) (hk : s.cons[k]? = some c) : HoldsC (fun i => if i = k * 11 + 3 then .int .i64 (min 1000 (c.neutral + m)) else if i = k * 11 + 2 then .int .i64 (min 1000 (c.limit + m)) else F i) ((widK s m k).set k (neuC m c)) := by
  have h1 : HoldsC _ ((widK s m k).set k (limC m c)) := h.set (c' := limC m c) (widK_at hk) (j := 2) (by omega) (u := .int .i64 (min 1000 (c.limit + m))) rfl (enc_at2 2 rfl)
  exact h1.set2 (c'' := neuC m c) (by rw [widK_len]; exact (List.getElem?_eq_some_iff.1 hk).1) (j := 3) (by omega) rfl (enc_at2 3 rfl)
theorem holds_rat {F : Nat → Value} {s : GSite} {m : Int} {k : Nat} {c : GCon} (h : HoldsC F ((widK s m k).set k (neuC m c))) (hk : s.cons[k]? = some c) (hr : 0 < c.rated) : HoldsC (fun i => if i = k * 11 + 4 then .int .i64 (min 1000 (c.rated + m)) else F i) (widK s m (k + 1)) := by
  rw [widK_succ hk]
  refine h.set2 (c'' := widC m c) (by rw [widK_len]; exact (List.getElem?_eq_some_iff.1 hk).1) (j := 4) (by omega) ?_ ?_
  · show some (Value.int .i64 (if 0 < c.rated then min 1000 (c.rated + m) else c.rated)) = _
    rw [if_pos hr]
  · refine enc_at2 4 ?_
    show encCon (widC m c) = _
    unfold widC neuC
    rw [if_pos hr]
    rfl
set_option maxRecDepth 100000 in
set_option maxHeartbeats 16000000 in
theorem walk_ProofLess (a1 : Option Addr) (n1 c1 : Nat) (a2 : Option Addr) (n2 c2 : Nat) (a3 : Option Addr) (n3 c3 : Nat) (a4 : Option Addr) (n4 c4 : Nat) (a5 : Option Addr) (n5 c5 : Nat) (s : GSite) {w : World} (HS : Hid (RdSite w a1 a2 a3 a4 a5 n1 n2 n3 n4 n5 s)) (_ : WfSite s) (aA : Option Addr) (cA nA : Nat) (xs : List Int) (hX : Rd 1 encI w aA xs) (HNA : Hid (xs.length = nA)) (hnA : nA ≤ 9223372036854775807) (_ : ∀ x, x ∈ xs → wfI64 x) (aP : Option Addr) (cP nP : Nat) (ps : List R3) (hP : Rd 3 enc3 w aP ps) (HNP : Hid (ps.length = nP)) (hnP : nP ≤ 9223372036854775807) (_ : ∀ x, x ∈ ps → wf3 x) (B1 : Option Addr) (d1 e1 : Nat) (bs : List Int) (hX1 : Rd 1 encU8 w B1 bs) (HN1 : Hid (bs.length = e1)) (he1 : e1 ≤ 9223372036854775807) (hw1 : ∀ x, x ∈ bs → (Lit.int .u8 x).wf = true) (m : Int) (hmw : (Lit.int .u8 m).wf = true) :
    Calls Try.prog 8 #[.agg #[.slice a1 n1 c1, .slice a2 n2 c2, .slice a3 n3 c3, .slice a4 n4 c4, .slice a5 n5 c5], .slice aA nA cA, .agg #[.slice aP nP cP], .slice B1 e1 d1, .int .u8 m] w fun e w' => e = .returned (.bool true) ∧ Below w.heap.size w w' := by
  have HX := Lib.hid hX
  have HPS := Lib.hid hP
  have HX1 := Lib.hid hX1
  have HW1 := Lib.hid hw1
  have HMB : Hid (0 ≤ m ∧ m ≤ 255) := Lib.hid (u8_bd hmw)
  clear hX hP hX1 hw1 hmw
  obtain ⟨W0, hW0⟩ : ∃ W0, W0 = (w.alloc (.cells #[.slice a1 n1 c1, .slice a2 n2 c2, .slice a3 n3 c3, .slice a4 n4 c4, .slice a5 n5 c5] 28)).alloc (.cells #[.slice aP nP cP] 32) := ⟨_, rfl⟩
  have hm0 : LwM w W0 w.heap.size a1 n1 c1 a2 n2 c2 a3 n3 c3 a4 n4 c4 a5 n5 c5 s := by
    rw [hW0]
    exact (LwM.box (c1 := c1) (c2 := c2) (c3 := c3) (c4 := c4) (c5 := c5) HS.out).keep ((Below.refl _ _).alloc (Nat.le_refl _) _)
  have kp : W0.cell? ⟨w.heap.size + 1, 0, none⟩ = some (.slice aP nP cP) := by rw [hW0]; go_simp
  have HM := Lib.hid hm0
  have HW0 := Lib.hid hW0
  clear hm0 hW0
  go_enter Try.func8, Try.ntmps8
  go_wp2_with fail
  rw [← HW0.out]
  clear HW0
  obtain ⟨X, hX0⟩ : ∃ X, X = w.heap.size := ⟨_, rfl⟩
  rw [← hX0] at HM kp ⊢
  have HSZ : Hid (w.heap.size = X) := Lib.hid hX0.symm
  clear hX0
  refine (ltenHead_any W0).mono ?_
  rintro e w1 ⟨rfl, hb⟩
  have HM := Lib.hid (HM.out.keep (hb))
  have kp := ((hb).cell (p := ⟨X + 1, 0, none⟩) (World.block_lt_of_cell? _ _ kp)).trans kp
  obtain ⟨k0, k1, k2, k3, k4⟩ : w1.cell? ⟨X, 0, none⟩ = some (.slice a1 n1 c1) ∧ w1.cell? ⟨X, 1, none⟩ = some (.slice a2 n2 c2) ∧ w1.cell? ⟨X, 2, none⟩ = some (.slice a3 n3 c3) ∧ w1.cell? ⟨X, 3, none⟩ = some (.slice a4 n4 c4) ∧ w1.cell? ⟨X, 4, none⟩ = some (.slice a5 n5 c5) := ⟨HM.out.k0, HM.out.k1, HM.out.k2, HM.out.k3, HM.out.k4⟩
  have hlX : X < w1.heap.size := World.block_lt_of_cell? w1 _ k0
  have hlY : X + 1 < w1.heap.size := World.block_lt_of_cell? w1 _ kp
  clear hb
  go_wp2_with fail
  obtain ⟨W2, hW2⟩ : ∃ W2, W2 = w1.alloc (.cells #[.slice aA nA cA] 29) := ⟨_, rfl⟩
  have hb : Below w1.heap.size w1 W2 := by rw [hW2]; exact (Below.refl _ _).alloc (Nat.le_refl _) _
  have kl : W2.cell? ⟨w1.heap.size, 0, none⟩ = some (.slice aA nA cA) := by rw [hW2]; go_simp
  rw [← hW2]
  clear hW2
  have HM := Lib.hid (HM.out.keep (hb))
  have kp := ((hb).cell (p := ⟨X + 1, 0, none⟩) (World.block_lt_of_cell? _ _ kp)).trans kp
  clear k0 k1 k2 k3 k4 hlX hlY
  obtain ⟨k0, k1, k2, k3, k4⟩ : W2.cell? ⟨X, 0, none⟩ = some (.slice a1 n1 c1) ∧ W2.cell? ⟨X, 1, none⟩ = some (.slice a2 n2 c2) ∧ W2.cell? ⟨X, 2, none⟩ = some (.slice a3 n3 c3) ∧ W2.cell? ⟨X, 3, none⟩ = some (.slice a4 n4 c4) ∧ W2.cell? ⟨X, 4, none⟩ = some (.slice a5 n5 c5) := ⟨HM.out.k0, HM.out.k1, HM.out.k2, HM.out.k3, HM.out.k4⟩
  have hlX : X < W2.heap.size := World.block_lt_of_cell? W2 _ k0
  have hlY : X + 1 < W2.heap.size := World.block_lt_of_cell? W2 _ kp
  clear hb
  refine (ltenFew_any a1 a2 a3 a4 a5 n1 c1 n2 c2 n3 c3 n4 c4 n5 c5 s aP nP cP w1.heap.size aA nA cA W2 (Lib.hid HM.out.rs) kl (by omega) (by omega)).mono ?_
  rintro e w3 ⟨rfl, hb⟩
  have HM := Lib.hid (HM.out.keep (hb))
  have kp := ((hb).cell (p := ⟨X + 1, 0, none⟩) (World.block_lt_of_cell? _ _ kp)).trans kp
  clear k0 k1 k2 k3 k4 hlX hlY
  obtain ⟨k0, k1, k2, k3, k4⟩ : w3.cell? ⟨X, 0, none⟩ = some (.slice a1 n1 c1) ∧ w3.cell? ⟨X, 1, none⟩ = some (.slice a2 n2 c2) ∧ w3.cell? ⟨X, 2, none⟩ = some (.slice a3 n3 c3) ∧ w3.cell? ⟨X, 3, none⟩ = some (.slice a4 n4 c4) ∧ w3.cell? ⟨X, 4, none⟩ = some (.slice a5 n5 c5) := ⟨HM.out.k0, HM.out.k1, HM.out.k2, HM.out.k3, HM.out.k4⟩
  have hlX : X < w3.heap.size := World.block_lt_of_cell? w3 _ k0
  have hlY : X + 1 < w3.heap.size := World.block_lt_of_cell? w3 _ kp
  obtain ⟨q, hq⟩ : ∃ q, q = (decide (nA ≤ 40) && (fewS s && decide (nP ≤ 40))) := ⟨_, rfl⟩
  rw [← hq]
  have HQ := Lib.hid hq
  clear hb hq kl
  cases q
  · go_wp2_with fail
    go_ret
    exact ⟨rfl, HM.out.bel⟩
  have HQ2 : Hid (nA ≤ 40 ∧ nP ≤ 40) := Lib.hid (by
    have h := HQ.out.symm
    simp only [Bool.and_eq_true, decide_eq_true_eq] at h
    exact ⟨h.1, h.2.2⟩)
  clear HQ
  go_wp2_with fail
  refine (r4Valid_any a1 a2 a3 a4 a5 n1 c1 n2 c2 n3 c3 n4 c4 n5 c5 s w3 (Lib.hid HM.out.rs)).mono ?_
  rintro e w4 ⟨rfl, hb⟩
  have HM := Lib.hid (HM.out.keep (hb))
  have kp := ((hb).cell (p := ⟨X + 1, 0, none⟩) (World.block_lt_of_cell? _ _ kp)).trans kp
  clear k0 k1 k2 k3 k4 hlX hlY
  obtain ⟨k0, k1, k2, k3, k4⟩ : w4.cell? ⟨X, 0, none⟩ = some (.slice a1 n1 c1) ∧ w4.cell? ⟨X, 1, none⟩ = some (.slice a2 n2 c2) ∧ w4.cell? ⟨X, 2, none⟩ = some (.slice a3 n3 c3) ∧ w4.cell? ⟨X, 3, none⟩ = some (.slice a4 n4 c4) ∧ w4.cell? ⟨X, 4, none⟩ = some (.slice a5 n5 c5) := ⟨HM.out.k0, HM.out.k1, HM.out.k2, HM.out.k3, HM.out.k4⟩
  have hlX : X < w4.heap.size := World.block_lt_of_cell? w4 _ k0
  have hlY : X + 1 < w4.heap.size := World.block_lt_of_cell? w4 _ kp
  clear hb
  obtain ⟨qv, hqv⟩ : ∃ q, q = okSB keyL s := ⟨_, rfl⟩
  rw [← hqv]
  have HOKB := Lib.hid hqv
  clear hqv
  cases qv
  · go_wp2_with fail
    go_ret
    exact ⟨rfl, HM.out.bel⟩
  go_wp2_with fail
  refine (r8Currents_any a1 a2 a3 a4 a5 n1 c1 n2 c2 n3 c3 n4 c4 n5 c5 aA nA cA s xs w4 (Lib.hid HM.out.rs) (Lib.hid (HX.out.keep HM.out.bel)) HNA (by omega)).mono ?_
  rintro e w5 ⟨rfl, hb⟩
  have HM := Lib.hid (HM.out.keep (hb))
  have kp := ((hb).cell (p := ⟨X + 1, 0, none⟩) (World.block_lt_of_cell? _ _ kp)).trans kp
  clear k0 k1 k2 k3 k4 hlX hlY
  obtain ⟨k0, k1, k2, k3, k4⟩ : w5.cell? ⟨X, 0, none⟩ = some (.slice a1 n1 c1) ∧ w5.cell? ⟨X, 1, none⟩ = some (.slice a2 n2 c2) ∧ w5.cell? ⟨X, 2, none⟩ = some (.slice a3 n3 c3) ∧ w5.cell? ⟨X, 3, none⟩ = some (.slice a4 n4 c4) ∧ w5.cell? ⟨X, 4, none⟩ = some (.slice a5 n5 c5) := ⟨HM.out.k0, HM.out.k1, HM.out.k2, HM.out.k3, HM.out.k4⟩
  have hlX : X < w5.heap.size := World.block_lt_of_cell? w5 _ k0
  have hlY : X + 1 < w5.heap.size := World.block_lt_of_cell? w5 _ kp
  clear hb
  obtain ⟨qc, hqc⟩ : ∃ q, q = curB s xs := ⟨_, rfl⟩
  rw [← hqc]
  have HCUB := Lib.hid hqc
  clear hqc
  cases qc
  · go_wp2_with fail
    go_ret
    exact ⟨rfl, HM.out.bel⟩
  have HLB : Hid (loadB s xs = true) := Lib.hid (loadB_yes HOKB.out.symm HCUB.out.symm)
  have HOK : Hid (OkSite keyL s) := Lib.hid (okSB_iff.1 HOKB.out.symm)
  have HCU : Hid (xs.length = s.chgs.length ∧ ∀ i, i < xs.length → 0 ≤ fI xs i ∧ fI xs i ≤ 80) := Lib.hid (curB_iff.1 HCUB.out.symm)
  clear HOKB HCUB
  go_wp2_with fail
  refine (prCheck_any a1 a2 a3 a4 a5 n1 c1 n2 c2 n3 c3 n4 c4 n5 c5 aA nA cA s xs aP nP cP ps w5 (Lib.hid HM.out.rs) (Lib.hid (HX.out.keep HM.out.bel)) HNA (by omega) (Lib.hid (HPS.out.keep HM.out.bel)) HNP).mono ?_
  rintro e w6 ⟨rfl, hb⟩
  have HM := Lib.hid (HM.out.keep (hb))
  have kp := ((hb).cell (p := ⟨X + 1, 0, none⟩) (World.block_lt_of_cell? _ _ kp)).trans kp
  clear k0 k1 k2 k3 k4 hlX hlY
  obtain ⟨k0, k1, k2, k3, k4⟩ : w6.cell? ⟨X, 0, none⟩ = some (.slice a1 n1 c1) ∧ w6.cell? ⟨X, 1, none⟩ = some (.slice a2 n2 c2) ∧ w6.cell? ⟨X, 2, none⟩ = some (.slice a3 n3 c3) ∧ w6.cell? ⟨X, 3, none⟩ = some (.slice a4 n4 c4) ∧ w6.cell? ⟨X, 4, none⟩ = some (.slice a5 n5 c5) := ⟨HM.out.k0, HM.out.k1, HM.out.k2, HM.out.k3, HM.out.k4⟩
  have hlX : X < w6.heap.size := World.block_lt_of_cell? w6 _ k0
  have hlY : X + 1 < w6.heap.size := World.block_lt_of_cell? w6 _ kp
  clear hb
  obtain ⟨qp, hqp⟩ : ∃ q, q = prB s xs ps := ⟨_, rfl⟩
  rw [← hqp]
  have HPR := Lib.hid hqp
  clear hqp
  cases qp
  · go_wp2_with fail
    go_ret
    exact ⟨rfl, HM.out.bel⟩
  go_upto_region 5 with (fail)
  obtain ⟨W7, hW7⟩ : ∃ W', W' = w6.alloc (.cells #[.slice a1 n1 c1, .slice a2 n2 c2, .slice a3 n3 c3, .slice a4 n4 c4, .slice a5 n5 c5] 28) := ⟨_, rfl⟩
  have hb : Below w6.heap.size w6 W7 := by rw [hW7]; exact (Below.refl _ _).alloc (Nat.le_refl _) _
  have hyy : Own W7 w6.heap.size 28 5 (fun i => (#[.slice a1 n1 c1, .slice a2 n2 c2, .slice a3 n3 c3, .slice a4 n4 c4, .slice a5 n5 c5] : Array Value)[i]?.getD undef) := by rw [hW7]; exact Own.new w6 28 #[.slice a1 n1 c1, .slice a2 n2 c2, .slice a3 n3 c3, .slice a4 n4 c4, .slice a5 n5 c5] undef
  rw [← hW7]
  obtain ⟨Y, hY⟩ : ∃ Y, Y = w6.heap.size := ⟨_, rfl⟩
  rw [← hY] at hyy ⊢
  have HXY : Hid (X ≠ Y ∧ X + 1 ≠ Y ∧ w.heap.size ≤ Y) := Lib.hid ⟨by omega, by omega, by have := HSZ.out; omega⟩
  clear hW7 hY
  have HM := Lib.hid (HM.out.keep (hb))
  have kp := ((hb).cell (p := ⟨X + 1, 0, none⟩) (World.block_lt_of_cell? _ _ kp)).trans kp
  clear k0 k1 k2 k3 k4 hlX hlY
  obtain ⟨k0, k1, k2, k3, k4⟩ : W7.cell? ⟨X, 0, none⟩ = some (.slice a1 n1 c1) ∧ W7.cell? ⟨X, 1, none⟩ = some (.slice a2 n2 c2) ∧ W7.cell? ⟨X, 2, none⟩ = some (.slice a3 n3 c3) ∧ W7.cell? ⟨X, 3, none⟩ = some (.slice a4 n4 c4) ∧ W7.cell? ⟨X, 4, none⟩ = some (.slice a5 n5 c5) := ⟨HM.out.k0, HM.out.k1, HM.out.k2, HM.out.k3, HM.out.k4⟩
  have hlX : X < W7.heap.size := World.block_lt_of_cell? W7 _ k0
  have hlY : X + 1 < W7.heap.size := World.block_lt_of_cell? W7 _ kp
  clear hb
  have HNC : Hid (s.cons.length = n1 ∧ 1 ≤ n1 ∧ n1 ≤ 16) := Lib.hid (by have h1 := HOK.out.n1; have h2 := HOK.out.n2; have h3 := HS.out.l1; omega)
  have hlY7 := hyy.lt
  have HYY := Lib.hid hyy
  have y0 : W7.cell? ⟨Y, 0, none⟩ = some (.slice a1 n1 c1) := HYY.out.cell (i := 0) (by omega)
  have y0f : W7.frozen? ⟨Y, 0, none⟩ = false := HYY.out.frozen 0
  obtain ⟨W8, hW8⟩ : ∃ W', W' = W7.alloc (.cells #[] 65) := ⟨_, rfl⟩
  have hb78 : Below W7.heap.size W7 W8 := by rw [hW8]; exact (Below.refl _ _).alloc (Nat.le_refl _) _
  have HO8 := own_litC0 W7
  rw [← hW8] at HO8
  obtain ⟨apA, v', w9, av, aw9, HO9, HA9⟩ := app_conds (c := c1) HO8 ((HS.out.keep (below_then HM.out.bel hb78)).r1) HNC.out.1 hb78.size (by have h := HNC.out.2; clear hlX hlY hlY7; show 0 + n1 ≤ 1000; omega)
  rw [List.nil_append] at HO9
  have hb79 : Below W7.heap.size W7 w9 := hb78.trans HA9.out.bel
  obtain ⟨g, cap, F0, hv', hg, hcap1, hcap2, hO, hF⟩ := OwnR.open_ (enc := encCon) (sz := 11) (fun _ => rfl) HO9.out (by have h := HNC.out; clear hlX hlY hlY7; omega)
  rw [HNC.out.1] at hv' hcap1
  subst hv'
  have HNE : Hid (X ≠ g ∧ X + 1 ≠ g ∧ Y ≠ g ∧ w.heap.size ≤ g) := Lib.hid ⟨by omega, by omega, by omega, by have := HSZ.out; omega⟩
  have HCA : Hid (n1 ≤ cap) := Lib.hid hcap1
  rw [hW8] at apA av aw9
  have y09 := (hb79.cell (p := ⟨Y, 0, none⟩) (World.block_lt_of_cell? _ _ y0)).trans y0
  have y09f : w9.frozen? ⟨Y, 0, none⟩ = false := (HYY.out.keep hb79 hlY7).frozen 0
  have HFI : Hid (WdM w (w9.setCell ⟨Y, 0, none⟩ (.slice (some ⟨g, 0, none⟩) n1 cap)) X a1 n1 c1 a2 n2 c2 a3 n3 c3 a4 n4 c4 a5 n5 c5 s aP nP cP Y g cap (cap * 11) F0 ∧ HoldsC F0 (widK s m 0)) := Lib.hid (by
    have hmY : Mod (fun j => j = Y) w9 (w9.setCell ⟨Y, 0, none⟩ (.slice (some ⟨g, 0, none⟩) n1 cap)) := (show Mod (fun j => j = Y) w9 w9 from Mod.refl _ w9).setCell (p := ⟨Y, 0, none⟩) (.inl rfl) _
    have hm9 := HM.out.keep hb79
    have hp9 := (hb79.cell (p := ⟨X + 1, 0, none⟩) (World.block_lt_of_cell? _ _ kp)).trans kp
    refine ⟨⟨hm9.mod HS.out hmY HXY.out.1 (fun j hj => by have := HXY.out.2.2; omega), (hmY.cell (p := ⟨X + 1, 0, none⟩) (World.block_lt_of_cell? _ _ hp9) HXY.out.2.1).trans hp9, ((HYY.out.keep hb79 hlY7).set 0 _).congr (fun i hi => ?_), hO.mod hmY (fun e => HNE.out.2.2.1 e.symm), HNE.out⟩, hF⟩
    match i, hi with
    | 0, _ => rfl
    | 1, _ => rfl
    | 2, _ => rfl
    | 3, _ => rfl
    | 4, _ => rfl)
  clear hb78 hb79 HO8 hW8 HO9 HA9 hO hF hg hcap1 hcap2
  go_upto_region 6 with (fail)
  obtain ⟨WA, hWA⟩ : ∃ WA, WA = w9.setCell ⟨Y, 0, none⟩ (.slice (some ⟨g, 0, none⟩) n1 cap) := ⟨_, rfl⟩
  rw [← hWA] at HFI ⊢
  have hya : WA.cell? ⟨Y, 0, none⟩ = some (.slice (some ⟨g, 0, none⟩) n1 cap) := HFI.out.1.yy.cell (i := 0) (by omega)
  clear hWA apA av aw9 y0 y0f y09 y09f kp k0 k1 k2 k3 k4 hlX hlY hlY7 HM HYY
  go_wp2_with fail
  clear hya
  go_loopg [50] n1 (fun g1 v50 wr => ∃ k : Nat, v50 = .int .i64 k ∧ k ≤ n1 ∧ n1 - k ≤ g1 ∧ Hid (∃ F, WdM w wr X a1 n1 c1 a2 n2 c2 a3 n3 c3 a4 n4 c4 a5 n5 c5 s aP nP cP Y g cap (cap * 11) F ∧ HoldsC F (widK s m k)))
  case atStart => exact ⟨0, by go_num, by omega, by omega, Lib.hid ⟨F0, HFI.out⟩⟩
  case round =>
    clear HFI
    obtain ⟨k, rfl, hk, hg1, HFK⟩ := hrel
    obtain ⟨F, hM, hH⟩ := HFK.out
    have HM := Lib.hid hM
    have HH := Lib.hid hH
    have ya : wr.cell? ⟨Y, 0, none⟩ = some (.slice (some ⟨g, 0, none⟩) n1 cap) := HM.out.yy.cell (i := 0) (by omega)
    clear HFK hM hH
    have hn16 : n1 ≤ 16 := HNC.out.2.2
    by_cases hlt : k < n1
    · have hltz : (k : Int) < (n1 : Int) := by omega
      obtain ⟨c, hc⟩ : ∃ c, s.cons[k]? = some c := ⟨_, List.getElem?_eq_getElem (by have := HNC.out; omega)⟩
      have HC := Lib.hid hc
      have HCAP := HCA.out
      have hl : wr.cell? ⟨g, k * 11 + 2, none⟩ = some (.int .i64 c.limit) := by rw [HM.out.ow.cell (i := k * 11 + 2) (by omega)]; exact congrArg some (HH.out k c 2 _ (widK_at hc) rfl)
      have he : wr.cell? ⟨g, k * 11 + 3, none⟩ = some (.int .i64 c.neutral) := by rw [HM.out.ow.cell (i := k * 11 + 3) (by omega)]; exact congrArg some (HH.out k c 3 _ (widK_at hc) rfl)
      have HM2 := Lib.hid (((HM.out.set HS.out (k * 11 + 2) (.int .i64 (min 1000 (c.limit + m)))).drew.set HS.out (k * 11 + 3) (.int .i64 (min 1000 (c.neutral + m)))))
      have HH2 := Lib.hid (holds_lim HH.out hc)
      have HR : Hid (c.rated = 0 ∨ (1 ≤ c.rated ∧ c.rated ≤ 1000)) := Lib.hid (by rcases (HOK.out.okC hc).fuse with h | h; exact .inl h.1; exact .inr h.1)
      have hlb := (HOK.out.okC hc).lim
      have heb := (HOK.out.okC hc).neu
      have hmb := HMB.out
      have HFZ : Hid (wr.drew.frozen? ⟨g, k * 11 + 2, none⟩ = false ∧ True) := Lib.hid ⟨HM.out.ow.frozen _, trivial⟩
      obtain ⟨l, hl0⟩ : ∃ l, l = c.limit := ⟨_, rfl⟩
      obtain ⟨e, he0⟩ : ∃ e, e = c.neutral := ⟨_, rfl⟩
      rw [← hl0] at hl hlb HM2 HH2
      rw [← he0] at he heb HM2 HH2
      have HST : Hid ((wr.setCell ⟨g, k * 11 + 2, none⟩ (.int .i64 (min 1000 (l + m)))).drew.cell? ⟨g, k * 11 + 3, none⟩ = some (.int .i64 e) ∧ (wr.setCell ⟨g, k * 11 + 2, none⟩ (.int .i64 (min 1000 (l + m)))).drew.frozen? ⟨g, k * 11 + 3, none⟩ = false) := Lib.hid (by
        have h := (HM.out.ow.set (k * 11 + 2) (.int .i64 (min 1000 (l + m)))).drew
        refine ⟨?_, h.frozen _⟩
        rw [h.cell (i := k * 11 + 3) (by omega), if_neg (by omega), ← he, HM.out.ow.cell (i := k * 11 + 3) (by omega)])
      have hw1 : IntKind.i64.wrap m = m := IntWalk.i64_in _ (by omega)
      have hw2 : IntKind.i64.wrap (l + m) = l + m := IntWalk.i64_in _ (by omega)
      have hw3 : IntKind.i64.wrap (e + m) = e + m := IntWalk.i64_in _ (by omega)
      clear hc hl0 he0 HCAP
      go_upto_region 10 with (fail)
      clear ya
      refine region_k (S := fun w' => w'.cell? ⟨g, k * 11 + 2, none⟩ = some (.int .i64 l) ∧ w'.cell? ⟨g, k * 11 + 3, none⟩ = some (.int .i64 e)) [20, 23] (by kernel_rfl) ⟨hl, he⟩ (fun hHeld => ?_)
      refine wpAnyK_pure (i := 0) (v := .pointer (some ⟨g, k * 11, none⟩)) rfl (by kernel_rfl) (by kernel_rfl) (by kernel_rfl) (fun _ _ _ h => h) (Or.inl ⟨by kernel_rfl, fun w' _ => ?_⟩) ?_
      · clear hHeld
        go_simp
      simp only [Act.put, List.getElem_toArray, List.getElem_cons_zero, List.getElem_cons_succ, List.setIfInBounds_toArray, List.set_cons_zero, List.set_cons_succ]
      refine wpAnyK_pure (i := 1) (v := .pointer (some ⟨g, k * 11, none⟩)) rfl (by kernel_rfl) (by kernel_rfl) (by kernel_rfl) (fun _ _ _ h => h) (Or.inl ⟨by kernel_rfl, fun w' _ => ?_⟩) ?_
      · clear hHeld
        go_simp
      simp only [Act.put, List.getElem_toArray, List.getElem_cons_zero, List.getElem_cons_succ, List.setIfInBounds_toArray, List.set_cons_zero, List.set_cons_succ]
      refine wpAnyK_pure (i := 2) (v := .pointer (some ⟨g, k * 11, none⟩)) rfl (by kernel_rfl) (by kernel_rfl) (by kernel_rfl) (fun _ _ _ h => h) (Or.inl ⟨by kernel_rfl, fun w' _ => ?_⟩) ?_
      · clear hHeld
        go_simp
      simp only [Act.put, List.getElem_toArray, List.getElem_cons_zero, List.getElem_cons_succ, List.setIfInBounds_toArray, List.set_cons_zero, List.set_cons_succ]
      refine wpAnyK_pure (i := 3) (v := .pointer (some ⟨g, k * 11, none⟩)) rfl (by kernel_rfl) (by kernel_rfl) (by kernel_rfl) (fun _ _ _ h => h) (Or.inl ⟨by kernel_rfl, fun w' _ => ?_⟩) ?_
      · clear hHeld
        go_simp
      simp only [Act.put, List.getElem_toArray, List.getElem_cons_zero, List.getElem_cons_succ, List.setIfInBounds_toArray, List.set_cons_zero, List.set_cons_succ]
      refine wpAnyK_pure (i := 4) (v := .pointer (some ⟨g, k * 11 + 2, none⟩)) rfl (by kernel_rfl) (by kernel_rfl) (by kernel_rfl) (fun _ _ _ h => h) (Or.inl ⟨by kernel_rfl, fun w' _ => ?_⟩) ?_
      · clear hHeld
        go_simp
      simp only [Act.put, List.getElem_toArray, List.getElem_cons_zero, List.getElem_cons_succ, List.setIfInBounds_toArray, List.set_cons_zero, List.set_cons_succ]
      refine wpAnyK_take (i := 5) (v := .int .i64 l) [8, 9, 20, 23] rfl (by kernel_rfl) (by kernel_rfl) (by kernel_rfl) (by kernel_rfl) (fun _ _ _ h => h) (Or.inl ⟨by kernel_rfl, fun w' hSw => ?_⟩) hHeld ?_
      · have s0 := hSw.1
        have s1 := hSw.2
        clear hHeld hSw
        go_simp
      simp only [Act.put, List.getElem_toArray, List.getElem_cons_zero, List.getElem_cons_succ, List.setIfInBounds_toArray, List.set_cons_zero, List.set_cons_succ]
      refine wpAnyK_pure (i := 6) (v := .int .u8 m) rfl (by kernel_rfl) (by kernel_rfl) (by kernel_rfl) (fun _ _ _ h => h) (Or.inl ⟨by kernel_rfl, fun w' _ => ?_⟩) ?_
      · clear hHeld
        go_simp
      simp only [Act.put, List.getElem_toArray, List.getElem_cons_zero, List.getElem_cons_succ, List.setIfInBounds_toArray, List.set_cons_zero, List.set_cons_succ]
      refine wpAnyK_pure (i := 7) (v := .int .i64 m) rfl (by kernel_rfl) (by kernel_rfl) (by kernel_rfl) (fun _ _ _ h => h) (Or.inl ⟨by kernel_rfl, fun w' _ => ?_⟩) ?_
      · clear hHeld
        go_simp
      simp only [Act.put, List.getElem_toArray, List.getElem_cons_zero, List.getElem_cons_succ, List.setIfInBounds_toArray, List.set_cons_zero, List.set_cons_succ]
      refine wpAnyK_pure (i := 8) (v := .int .i64 (l + m)) rfl (by kernel_rfl) (by kernel_rfl) (by kernel_rfl) (fun _ _ _ h => h) (Or.inl ⟨by kernel_rfl, fun w' _ => ?_⟩) ?_
      · clear hHeld
        go_simp
      simp only [Act.put, List.getElem_toArray, List.getElem_cons_zero, List.getElem_cons_succ, List.setIfInBounds_toArray, List.set_cons_zero, List.set_cons_succ]
      refine wpAnyK_pure (i := 9) (v := .int .i64 (min 1000 (l + m))) rfl (by kernel_rfl) (by kernel_rfl) (by kernel_rfl) (fun _ _ _ h => h) (Or.inl ⟨by kernel_rfl, fun w' _ => ?_⟩) ?_
      · clear hHeld
        go_simp
        all_goals (first | omega | (split <;> simp <;> omega) | (intro hh; omega))
      simp only [Act.put, List.getElem_toArray, List.getElem_cons_zero, List.getElem_cons_succ, List.setIfInBounds_toArray, List.set_cons_zero, List.set_cons_succ]
      refine wpAnyK_pure (i := 10) (v := .pointer (some ⟨g, k * 11, none⟩)) rfl (by kernel_rfl) (by kernel_rfl) (by kernel_rfl) (fun _ _ _ h => h) (Or.inl ⟨by kernel_rfl, fun w' _ => ?_⟩) ?_
      · clear hHeld
        go_simp
      simp only [Act.put, List.getElem_toArray, List.getElem_cons_zero, List.getElem_cons_succ, List.setIfInBounds_toArray, List.set_cons_zero, List.set_cons_succ]
      refine wpAnyK_pure (i := 11) (v := .pointer (some ⟨g, k * 11, none⟩)) rfl (by kernel_rfl) (by kernel_rfl) (by kernel_rfl) (fun _ _ _ h => h) (Or.inl ⟨by kernel_rfl, fun w' _ => ?_⟩) ?_
      · clear hHeld
        go_simp
      simp only [Act.put, List.getElem_toArray, List.getElem_cons_zero, List.getElem_cons_succ, List.setIfInBounds_toArray, List.set_cons_zero, List.set_cons_succ]
      refine wpAnyK_pure (i := 12) (v := .pointer (some ⟨g, k * 11 + 3, none⟩)) rfl (by kernel_rfl) (by kernel_rfl) (by kernel_rfl) (fun _ _ _ h => h) (Or.inl ⟨by kernel_rfl, fun w' _ => ?_⟩) ?_
      · clear hHeld
        go_simp
      simp only [Act.put, List.getElem_toArray, List.getElem_cons_zero, List.getElem_cons_succ, List.setIfInBounds_toArray, List.set_cons_zero, List.set_cons_succ]
      refine wpAnyK_take (i := 13) (v := .int .i64 e) [16, 17, 20, 23] rfl (by kernel_rfl) (by kernel_rfl) (by kernel_rfl) (by kernel_rfl) (fun _ _ _ h => h) (Or.inl ⟨by kernel_rfl, fun w' hSw => ?_⟩) hHeld ?_
      · have s0 := hSw.1
        have s1 := hSw.2
        clear hHeld hSw
        go_simp
      simp only [Act.put, List.getElem_toArray, List.getElem_cons_zero, List.getElem_cons_succ, List.setIfInBounds_toArray, List.set_cons_zero, List.set_cons_succ]
      refine wpAnyK_pure (i := 14) (v := .int .u8 m) rfl (by kernel_rfl) (by kernel_rfl) (by kernel_rfl) (fun _ _ _ h => h) (Or.inl ⟨by kernel_rfl, fun w' _ => ?_⟩) ?_
      · clear hHeld
        go_simp
      simp only [Act.put, List.getElem_toArray, List.getElem_cons_zero, List.getElem_cons_succ, List.setIfInBounds_toArray, List.set_cons_zero, List.set_cons_succ]
      refine wpAnyK_pure (i := 15) (v := .int .i64 m) rfl (by kernel_rfl) (by kernel_rfl) (by kernel_rfl) (fun _ _ _ h => h) (Or.inl ⟨by kernel_rfl, fun w' _ => ?_⟩) ?_
      · clear hHeld
        go_simp
      simp only [Act.put, List.getElem_toArray, List.getElem_cons_zero, List.getElem_cons_succ, List.setIfInBounds_toArray, List.set_cons_zero, List.set_cons_succ]
      refine wpAnyK_pure (i := 16) (v := .int .i64 (e + m)) rfl (by kernel_rfl) (by kernel_rfl) (by kernel_rfl) (fun _ _ _ h => h) (Or.inl ⟨by kernel_rfl, fun w' _ => ?_⟩) ?_
      · clear hHeld
        go_simp
      simp only [Act.put, List.getElem_toArray, List.getElem_cons_zero, List.getElem_cons_succ, List.setIfInBounds_toArray, List.set_cons_zero, List.set_cons_succ]
      refine wpAnyK_pure (i := 17) (v := .int .i64 (min 1000 (e + m))) rfl (by kernel_rfl) (by kernel_rfl) (by kernel_rfl) (fun _ _ _ h => h) (Or.inl ⟨by kernel_rfl, fun w' _ => ?_⟩) ?_
      · clear hHeld
        go_simp
        all_goals (first | omega | (split <;> simp <;> omega) | (intro hh; omega))
      simp only [Act.put, List.getElem_toArray, List.getElem_cons_zero, List.getElem_cons_succ, List.setIfInBounds_toArray, List.set_cons_zero, List.set_cons_succ]
      refine wpAnyK_pure (i := 18) (v := .pointer (some ⟨g, k * 11, none⟩)) rfl (by kernel_rfl) (by kernel_rfl) (by kernel_rfl) (fun _ _ _ h => h) (Or.inl ⟨by kernel_rfl, fun w' _ => ?_⟩) ?_
      · clear hHeld
        go_simp
      simp only [Act.put, List.getElem_toArray, List.getElem_cons_zero, List.getElem_cons_succ, List.setIfInBounds_toArray, List.set_cons_zero, List.set_cons_succ]
      refine wpAnyK_pure (i := 19) (v := .pointer (some ⟨g, k * 11 + 2, none⟩)) rfl (by kernel_rfl) (by kernel_rfl) (by kernel_rfl) (fun _ _ _ h => h) (Or.inl ⟨by kernel_rfl, fun w' _ => ?_⟩) ?_
      · clear hHeld
        go_simp
      simp only [Act.put, List.getElem_toArray, List.getElem_cons_zero, List.getElem_cons_succ, List.setIfInBounds_toArray, List.set_cons_zero, List.set_cons_succ]
      refine wpAnyK_last (i := 20) (by kernel_rfl) rfl (by kernel_rfl) (fun K' hK => ?_)
      have s0 := hHeld.1
      have hf := HFZ.out.1
      go_simp
      refine hK.out _ _ ?_
      clear hK K'
      try simp only [Act.put, List.getElem_toArray, List.getElem_cons_zero, List.getElem_cons_succ, List.setIfInBounds_toArray, List.set_cons_zero, List.set_cons_succ]
      obtain ⟨WB, HWB⟩ : ∃ WB, Hid (WB = (wr.setCell ⟨g, k * 11 + 2, none⟩ (.int .i64 (min 1000 (l + m)))).drew) := ⟨_, Lib.hid rfl⟩
      rw [← HWB.out]
      refine wpAnyK_pure (i := 21) (v := .pointer (some ⟨g, k * 11, none⟩)) rfl (by kernel_rfl) (by kernel_rfl) (by kernel_rfl) (fun _ _ _ h => h) (Or.inl ⟨by kernel_rfl, fun w' _ => ?_⟩) ?_
      · clear HFZ
        go_simp
      simp only [Act.put, List.getElem_toArray, List.getElem_cons_zero, List.getElem_cons_succ, List.setIfInBounds_toArray, List.set_cons_zero, List.set_cons_succ]
      refine wpAnyK_pure (i := 22) (v := .pointer (some ⟨g, k * 11 + 3, none⟩)) rfl (by kernel_rfl) (by kernel_rfl) (by kernel_rfl) (fun _ _ _ h => h) (Or.inl ⟨by kernel_rfl, fun w' _ => ?_⟩) ?_
      · clear HFZ
        go_simp
      simp only [Act.put, List.getElem_toArray, List.getElem_cons_zero, List.getElem_cons_succ, List.setIfInBounds_toArray, List.set_cons_zero, List.set_cons_succ]
      refine wpAnyK_last (i := 23) (by kernel_rfl) rfl (by kernel_rfl) (fun K' hK => ?_)
      have s0 : WB.cell? ⟨g, k * 11 + 3, none⟩ = some (.int .i64 e) := by rw [HWB.out]; exact HST.out.1
      have hf : WB.frozen? ⟨g, k * 11 + 3, none⟩ = false := by rw [HWB.out]; exact HST.out.2
      go_simp
      refine hK.out _ _ ?_
      clear hK K'
      try simp only [Act.put, List.getElem_toArray, List.getElem_cons_zero, List.getElem_cons_succ, List.setIfInBounds_toArray, List.set_cons_zero, List.set_cons_succ]
      refine wpAnyK_done (by kernel_rfl) ?_ _
      go_step
      go_step
      rw [HWB.out]
      obtain ⟨WC, HWC⟩ : ∃ WC, Hid (WC = (wr.setCell ⟨g, k * 11 + 2, none⟩ (.int .i64 (min 1000 (l + m)))).drew.setCell ⟨g, k * 11 + 3, none⟩ (.int .i64 (min 1000 (e + m)))) := ⟨_, Lib.hid rfl⟩
      rw [← HWC.out] at HM2 ⊢
      clear HWB HWC HST hl he HM HH hw1 hw2 hw3 hlb heb
      have HCAP := HCA.out
      have hrc : WC.cell? ⟨g, k * 11 + 4, none⟩ = some (.int .i64 c.rated) := by rw [HM2.out.ow.cell (i := k * 11 + 4) (by omega)]; exact congrArg some (HH2.out k (neuC m c) 4 _ (by rw [List.getElem?_set_self (by rw [widK_len]; have := HNC.out; omega)]) rfl)
      have hrf : WC.frozen? ⟨g, k * 11 + 4, none⟩ = false := HM2.out.ow.frozen _
      have hrb := HR.out
      by_cases hr : 0 < c.rated
      · have HMF := Lib.hid (HM2.out.set HS.out (k * 11 + 4) (.int .i64 (min 1000 (c.rated + m))))
        have HHF := Lib.hid (holds_rat HH2.out HC.out hr)
        obtain ⟨r, hr0⟩ : ∃ r, r = c.rated := ⟨_, rfl⟩
        rw [← hr0] at hrc hrb hr HMF HHF
        have hw1 : IntKind.i64.wrap m = m := IntWalk.i64_in _ (by omega)
        have hw2 : IntKind.i64.wrap (r + m) = r + m := IntWalk.i64_in _ (by omega)
        clear hr0 HM2 HH2 HCAP HR HC
        rcases (show (1000 ≤ r + m ∧ min 1000 (r + m) = 1000) ∨ (r + m < 1000 ∧ min 1000 (r + m) = r + m) from by omega) with ⟨h1, h2⟩ | ⟨h1, h2⟩
        · rw [h2] at HMF HHF
          have h3 : ¬ (r + m < 1000) := by omega
          clear h2
          go_wp2_with fail
          go_roundg (n1 - (k + 1))
          case measure => omega
          case rel => exact ⟨k + 1, by go_num, by omega, by omega, Lib.hid ⟨_, HMF.out, HHF.out⟩⟩
        · rw [h2] at HMF HHF
          clear h2
          go_wp2_with fail
          go_roundg (n1 - (k + 1))
          case measure => omega
          case rel => exact ⟨k + 1, by go_num, by omega, by omega, Lib.hid ⟨_, HMF.out, HHF.out⟩⟩
      · have HHF : Hid (HoldsC _ (widK s m (k + 1))) := Lib.hid (by rw [widK_succ HC.out, ← neuC_wid hr]; exact HH2.out)
        generalize c.rated = r at *
        clear hrb HCAP HH2 HR
        go_wp2_with fail
        go_roundg (n1 - (k + 1))
        case measure => omega
        case rel => exact ⟨k + 1, by go_num, by omega, by omega, Lib.hid ⟨_, HM2.out, HHF.out⟩⟩
    · have hltz : ¬ (k : Int) < (n1 : Int) := by omega
      have e : n1 = k := by omega
      subst e
      have HCAP := HCA.out
      have HXB : Hid (∀ i, 0 ≤ fI xs i ∧ fI xs i ≤ 80) := Lib.hid (cur_all HCU.out)
      have HBB : Hid (∀ i, 0 ≤ fI bs i ∧ fI bs i ≤ 255) := Lib.hid (u8_bdN HW1.out)
      have HT1 : Hid (prB s (rowN (belF xs bs) nA) ps = true) := Lib.hid (prB_lower HPR.out.symm (bel_cur HNA.out HCU.out) (bel_le HNA.out HCU.out))
      have HT2 : Hid (prB (widS m s) xs ps = true) := Lib.hid (prB_wide HPR.out.symm HMB.out.1)
      have HRW : Hid (Rd 11 encCon wr (some ⟨g, 0, none⟩) (widS m s).cons) := Lib.hid (by
        have h := HH.out
        rw [← HNC.out.1, widK_all] at h
        refine h.rd HM.out.ow ?_
        show (s.cons.map (widC m)).length * 11 ≤ _
        rw [List.length_map, HNC.out.1]
        omega)
      have hnA : nA ≤ 40 := HQ2.out.1
      clear HCAP ya
      go_upto_region 14 with (fail)
      refine region_z (S := fun w' => Below wr.heap.size wr w') [] (by kernel_rfl) (Below.refl _ _).drew (fun hHeld => ?_)
      obtain ⟨wd, hwd⟩ : ∃ wd, wd = wr.drew := ⟨_, rfl⟩
      rw [← hwd] at hHeld ⊢
      clear hwd
      refine wpAnyZ_take (i := 0) (v := .bool true) [] rfl (by kernel_rfl) (by kernel_rfl) (by kernel_rfl) (by kernel_rfl) (fun _ _ _ h => h) (Or.inl ⟨by kernel_rfl, fun w' hSw => ?_⟩) hHeld ?_
      · clear hHeld hSw
        go_simp
      simp only [Act.put, List.getElem_toArray, List.getElem_cons_zero, List.getElem_cons_succ, List.setIfInBounds_toArray, List.set_cons_zero, List.set_cons_succ]
      refine wpAnyZ_take (i := 1) (v := .bool true) [] rfl (by kernel_rfl) (by kernel_rfl) (by kernel_rfl) (by kernel_rfl) (fun _ _ _ h => h) (Or.inl ⟨by kernel_rfl, fun w' hSw => ?_⟩) hHeld ?_
      · clear hHeld hSw
        go_simp
      simp only [Act.put, List.getElem_toArray, List.getElem_cons_zero, List.getElem_cons_succ, List.setIfInBounds_toArray, List.set_cons_zero, List.set_cons_succ]
      refine wpAnyZ_take (i := 2) (v := .agg #[.slice a1 n1 c1, .slice a2 n2 c2, .slice a3 n3 c3, .slice a4 n4 c4, .slice a5 n5 c5]) [] rfl (by kernel_rfl) (by kernel_rfl) (by kernel_rfl) (by kernel_rfl) (fun _ _ _ h => h) (Or.inl ⟨by kernel_rfl, fun w' hSw => ?_⟩) hHeld ?_
      · have t := HM.out.lw.keep hSw
        have s0 := t.k0
        have s1 := t.k1
        have s2 := t.k2
        have s3 := t.k3
        have s4 := t.k4
        have s5 := (hSw.cell (p := ⟨X + 1, 0, none⟩) (World.block_lt_of_cell? _ _ HM.out.kp)).trans HM.out.kp
        have y := HM.out.yy.keep hSw HM.out.yy.lt
        have y0 := y.cell (i := 0) (by omega)
        have y1 := y.cell (i := 1) (by omega)
        have y2 := y.cell (i := 2) (by omega)
        have y3 := y.cell (i := 3) (by omega)
        have y4 := y.cell (i := 4) (by omega)
        simp only [List.getElem?_toArray, List.getElem?_cons_zero, List.getElem?_cons_succ, Option.getD_some] at y0 y1 y2 y3 y4
        clear t y
        clear hHeld hSw
        go_simp
      simp only [Act.put, List.getElem_toArray, List.getElem_cons_zero, List.getElem_cons_succ, List.setIfInBounds_toArray, List.set_cons_zero, List.set_cons_succ]
      refine wpAnyZ_take (i := 3) (v := .slice aA nA cA) [] rfl (by kernel_rfl) (by kernel_rfl) (by kernel_rfl) (by kernel_rfl) (fun _ _ _ h => h) (Or.inl ⟨by kernel_rfl, fun w' hSw => ?_⟩) hHeld ?_
      · clear hHeld hSw
        go_simp
      simp only [Act.put, List.getElem_toArray, List.getElem_cons_zero, List.getElem_cons_succ, List.setIfInBounds_toArray, List.set_cons_zero, List.set_cons_succ]
      refine wpAnyZ_take (i := 4) (v := .slice B1 e1 d1) [] rfl (by kernel_rfl) (by kernel_rfl) (by kernel_rfl) (by kernel_rfl) (fun _ _ _ h => h) (Or.inl ⟨by kernel_rfl, fun w' hSw => ?_⟩) hHeld ?_
      · clear hHeld hSw
        go_simp
      simp only [Act.put, List.getElem_toArray, List.getElem_cons_zero, List.getElem_cons_succ, List.setIfInBounds_toArray, List.set_cons_zero, List.set_cons_succ]
      refine wpAnyZ_take (i := 6) (v := .agg #[.slice aP nP cP]) [] rfl (by kernel_rfl) (by kernel_rfl) (by kernel_rfl) (by kernel_rfl) (fun _ _ _ h => h) (Or.inl ⟨by kernel_rfl, fun w' hSw => ?_⟩) hHeld ?_
      · have t := HM.out.lw.keep hSw
        have s0 := t.k0
        have s1 := t.k1
        have s2 := t.k2
        have s3 := t.k3
        have s4 := t.k4
        have s5 := (hSw.cell (p := ⟨X + 1, 0, none⟩) (World.block_lt_of_cell? _ _ HM.out.kp)).trans HM.out.kp
        have y := HM.out.yy.keep hSw HM.out.yy.lt
        have y0 := y.cell (i := 0) (by omega)
        have y1 := y.cell (i := 1) (by omega)
        have y2 := y.cell (i := 2) (by omega)
        have y3 := y.cell (i := 3) (by omega)
        have y4 := y.cell (i := 4) (by omega)
        simp only [List.getElem?_toArray, List.getElem?_cons_zero, List.getElem?_cons_succ, Option.getD_some] at y0 y1 y2 y3 y4
        clear t y
        clear hHeld hSw
        go_simp
      simp only [Act.put, List.getElem_toArray, List.getElem_cons_zero, List.getElem_cons_succ, List.setIfInBounds_toArray, List.set_cons_zero, List.set_cons_succ]
      refine wpAnyZ_one (i := 5) (by kernel_rfl) rfl (fun K' hK => ?_)
      go_simp
      refine (ltenBelow_any aA nA cA xs B1 e1 d1 bs _ (Lib.hid (HX.out.keep (below_then HM.out.lw.bel hHeld))) HNA (by omega) HXB (Lib.hid (HX1.out.keep (below_then HM.out.lw.bel hHeld))) HN1 HBB).mono ?_
      rintro e wb ⟨aY, cY, rfl, hy, hb⟩
      have HY := Lib.hid hy
      clear hy
      refine hK.out _ _ ?_ (fun hHeld' => ?_)
      · exact hHeld.trans (hb.mono hHeld.size)
      clear hK K'
      clear hHeld hb 
      have hHeld := hHeld'
      clear hHeld'
      try simp only [Act.put, List.getElem_toArray, List.getElem_cons_zero, List.getElem_cons_succ, List.setIfInBounds_toArray, List.set_cons_zero, List.set_cons_succ]
      refine wpAnyZ_one (i := 7) (by kernel_rfl) rfl (fun K' hK => ?_)
      go_simp
      refine (prCheck_any a1 a2 a3 a4 a5 n1 c1 n2 c2 n3 c3 n4 c4 n5 c5 aY nA cY s (rowN (belF xs bs) nA) aP nP cP ps _ (Lib.hid (HM.out.lw.keep hHeld).rs) HY (Lib.hid (rowN_len _ _)) (by omega) (Lib.hid (HPS.out.keep (below_then HM.out.lw.bel hHeld))) HNP).mono ?_
      rintro e wk ⟨rfl, hb⟩
      rw [HT1.out]
      refine hK.out _ _ ?_ (fun hHeld' => ?_)
      · exact hHeld.trans (hb.mono hHeld.size)
      clear hK K'
      clear hHeld hb HY
      have hHeld := hHeld'
      clear hHeld'
      try simp only [Act.put, List.getElem_toArray, List.getElem_cons_zero, List.getElem_cons_succ, List.setIfInBounds_toArray, List.set_cons_zero, List.set_cons_succ]
      refine wpAnyZ_take (i := 8) (v := .bool true) [] rfl (by kernel_rfl) (by kernel_rfl) (by kernel_rfl) (by kernel_rfl) (fun _ _ _ h => h) (Or.inl ⟨by kernel_rfl, fun w' hSw => ?_⟩) hHeld ?_
      · clear hHeld hSw
        go_simp
      simp only [Act.put, List.getElem_toArray, List.getElem_cons_zero, List.getElem_cons_succ, List.setIfInBounds_toArray, List.set_cons_zero, List.set_cons_succ]
      refine wpAnyZ_take (i := 9) (v := .bool true) [] rfl (by kernel_rfl) (by kernel_rfl) (by kernel_rfl) (by kernel_rfl) (fun _ _ _ h => h) (Or.inl ⟨by kernel_rfl, fun w' hSw => ?_⟩) hHeld ?_
      · clear hHeld hSw
        go_simp
      simp only [Act.put, List.getElem_toArray, List.getElem_cons_zero, List.getElem_cons_succ, List.setIfInBounds_toArray, List.set_cons_zero, List.set_cons_succ]
      refine wpAnyZ_take (i := 10) (v := .agg #[.slice (some ⟨g, 0, none⟩) n1 cap, .slice a2 n2 c2, .slice a3 n3 c3, .slice a4 n4 c4, .slice a5 n5 c5]) [] rfl (by kernel_rfl) (by kernel_rfl) (by kernel_rfl) (by kernel_rfl) (fun _ _ _ h => h) (Or.inl ⟨by kernel_rfl, fun w' hSw => ?_⟩) hHeld ?_
      · have t := HM.out.lw.keep hSw
        have s0 := t.k0
        have s1 := t.k1
        have s2 := t.k2
        have s3 := t.k3
        have s4 := t.k4
        have s5 := (hSw.cell (p := ⟨X + 1, 0, none⟩) (World.block_lt_of_cell? _ _ HM.out.kp)).trans HM.out.kp
        have y := HM.out.yy.keep hSw HM.out.yy.lt
        have y0 := y.cell (i := 0) (by omega)
        have y1 := y.cell (i := 1) (by omega)
        have y2 := y.cell (i := 2) (by omega)
        have y3 := y.cell (i := 3) (by omega)
        have y4 := y.cell (i := 4) (by omega)
        simp only [List.getElem?_toArray, List.getElem?_cons_zero, List.getElem?_cons_succ, Option.getD_some] at y0 y1 y2 y3 y4
        clear t y
        clear hHeld hSw
        go_simp
      simp only [Act.put, List.getElem_toArray, List.getElem_cons_zero, List.getElem_cons_succ, List.setIfInBounds_toArray, List.set_cons_zero, List.set_cons_succ]
      refine wpAnyZ_take (i := 11) (v := .slice aA nA cA) [] rfl (by kernel_rfl) (by kernel_rfl) (by kernel_rfl) (by kernel_rfl) (fun _ _ _ h => h) (Or.inl ⟨by kernel_rfl, fun w' hSw => ?_⟩) hHeld ?_
      · clear hHeld hSw
        go_simp
      simp only [Act.put, List.getElem_toArray, List.getElem_cons_zero, List.getElem_cons_succ, List.setIfInBounds_toArray, List.set_cons_zero, List.set_cons_succ]
      refine wpAnyZ_take (i := 12) (v := .agg #[.slice aP nP cP]) [] rfl (by kernel_rfl) (by kernel_rfl) (by kernel_rfl) (by kernel_rfl) (fun _ _ _ h => h) (Or.inl ⟨by kernel_rfl, fun w' hSw => ?_⟩) hHeld ?_
      · have t := HM.out.lw.keep hSw
        have s0 := t.k0
        have s1 := t.k1
        have s2 := t.k2
        have s3 := t.k3
        have s4 := t.k4
        have s5 := (hSw.cell (p := ⟨X + 1, 0, none⟩) (World.block_lt_of_cell? _ _ HM.out.kp)).trans HM.out.kp
        have y := HM.out.yy.keep hSw HM.out.yy.lt
        have y0 := y.cell (i := 0) (by omega)
        have y1 := y.cell (i := 1) (by omega)
        have y2 := y.cell (i := 2) (by omega)
        have y3 := y.cell (i := 3) (by omega)
        have y4 := y.cell (i := 4) (by omega)
        simp only [List.getElem?_toArray, List.getElem?_cons_zero, List.getElem?_cons_succ, Option.getD_some] at y0 y1 y2 y3 y4
        clear t y
        clear hHeld hSw
        go_simp
      simp only [Act.put, List.getElem_toArray, List.getElem_cons_zero, List.getElem_cons_succ, List.setIfInBounds_toArray, List.set_cons_zero, List.set_cons_succ]
      refine wpAnyZ_one (i := 13) (by kernel_rfl) rfl (fun K' hK => ?_)
      go_simp
      refine (prCheck_any (some ⟨g, 0, none⟩) a2 a3 a4 a5 n1 cap n2 c2 n3 c3 n4 c4 n5 c5 aA nA cA (widS m s) xs aP nP cP ps _ (Lib.hid (rdSite_wid (HM.out.lw.keep hHeld).rs (HRW.out.keep hHeld))) (Lib.hid (HX.out.keep (below_then HM.out.lw.bel hHeld))) HNA (by omega) (Lib.hid (HPS.out.keep (below_then HM.out.lw.bel hHeld))) HNP).mono ?_
      rintro e wm ⟨rfl, hb⟩
      rw [HT2.out]
      refine hK.out _ _ ?_ (fun hHeld' => ?_)
      · exact hHeld.trans (hb.mono hHeld.size)
      clear hK K'
      clear hHeld hb 
      have hHeld := hHeld'
      clear hHeld'
      try simp only [Act.put, List.getElem_toArray, List.getElem_cons_zero, List.getElem_cons_succ, List.setIfInBounds_toArray, List.set_cons_zero, List.set_cons_succ]
      refine wpAnyZ_take (i := 14) (v := .bool true) [] rfl (by kernel_rfl) (by kernel_rfl) (by kernel_rfl) (by kernel_rfl) (fun _ _ _ h => h) (Or.inl ⟨by kernel_rfl, fun w' hSw => ?_⟩) hHeld ?_
      · clear hHeld hSw
        go_simp
      simp only [Act.put, List.getElem_toArray, List.getElem_cons_zero, List.getElem_cons_succ, List.setIfInBounds_toArray, List.set_cons_zero, List.set_cons_succ]
      refine wpAnyZ_take (i := 15) (v := .bool true) [] rfl (by kernel_rfl) (by kernel_rfl) (by kernel_rfl) (by kernel_rfl) (fun _ _ _ h => h) (Or.inl ⟨by kernel_rfl, fun w' hSw => ?_⟩) hHeld ?_
      · clear hHeld hSw
        go_simp
      simp only [Act.put, List.getElem_toArray, List.getElem_cons_zero, List.getElem_cons_succ, List.setIfInBounds_toArray, List.set_cons_zero, List.set_cons_succ]
      refine wpAnyZ_done (by kernel_rfl) ?_ _
      go_wp2_with fail
      go_ret
      exact ⟨rfl, below_then HM.out.lw.bel hHeld⟩
end Go.Proofs.Ytbjmpfchapggfaa
