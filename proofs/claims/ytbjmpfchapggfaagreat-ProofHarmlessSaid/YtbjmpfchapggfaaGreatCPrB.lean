/-
proof.Check.
-/
import Derived.Test.YtbjmpfchapggfaaGreatGLPrA
import Derived.Test.YtbjmpfchapggfaaGreatGLLimG
import Derived.Test.YtbjmpfchapggfaaGreatGLLimD
import Derived.Test.YtbjmpfchapggfaaGreatGLHarm
namespace Go.Proofs.YtbjmpfchapggfaaGreat
open Go.RowKit Go.Shelf
attribute [local go_sem] Oper.semAt_some
set_option linter.unusedVariables false
set_option linter.unusedSimpArgs false
/-- The memory of Check. -/
structure CkM (w W : World) (X : Nat) (a1 : Option Addr) (n1 c1 : Nat) (a2 : Option Addr) (n2 c2 : Nat) (a3 : Option Addr) (n3 c3 : Nat) (a4 : Option Addr) (n4 c4 : Nat) (a5 : Option Addr) (n5 c5 : Nat) (s : GSite) (aP : Option Addr) (nP cP : Nat) (ps : List R3) (T G : Nat) (F : Nat → Int) : Prop where
  lw : LwM w W X a1 n1 c1 a2 n2 c2 a3 n3 c3 a4 n4 c4 a5 n5 c5 s
  kp : W.cell? ⟨X + 1, 0, none⟩ = some (.slice aP nP cP)
  or_ : Own W (X + 2) 4 1 (fun _ => .bool false)
  kt : W.cell? ⟨T, 0, none⟩ = some (.slice (some ⟨G, 0, none⟩) n1 n1)
  og : Own W G 51 (n1 * 3) (fun j => .int .i64 (F j))
  rp : Rd 3 enc3 W aP ps
  ne : X + 2 < G ∧ X + 2 < T ∧ T ≠ G ∧ ∀ a, aP = some a → a.block < w.heap.size
section
variable {w W W' : World} {X : Nat} {a1 : Option Addr} {n1 c1 : Nat} {a2 : Option Addr} {n2 c2 : Nat} {a3 : Option Addr} {n3 c3 : Nat} {a4 : Option Addr} {n4 c4 : Nat} {a5 : Option Addr} {n5 c5 : Nat} {s : GSite} {aP : Option Addr} {nP cP : Nat} {ps : List R3} {T G : Nat} {F : Nat → Int}
theorem CkM.keep (h : CkM w W X a1 n1 c1 a2 n2 c2 a3 n3 c3 a4 n4 c4 a5 n5 c5 s aP nP cP ps T G F) (hb : Below W.heap.size W W') : CkM w W' X a1 n1 c1 a2 n2 c2 a3 n3 c3 a4 n4 c4 a5 n5 c5 s aP nP cP ps T G F :=
  ⟨h.lw.keep hb, (hb.cell (p := ⟨X + 1, 0, none⟩) (World.block_lt_of_cell? _ _ h.kp)).trans h.kp, h.or_.keep hb h.or_.lt, (hb.cell (p := ⟨T, 0, none⟩) (World.block_lt_of_cell? _ _ h.kt)).trans h.kt, h.og.keep hb h.og.lt, h.rp.keep hb, h.ne⟩
theorem CkM.nc {B : Nat} (h : CkM w W X a1 n1 c1 a2 n2 c2 a3 n3 c3 a4 n4 c4 a5 n5 c5 s aP nP cP ps T G F) (hw : RdSite w a1 a2 a3 a4 a5 n1 n2 n3 n4 n5 s) (hwp : Rd 3 enc3 w aP ps) (hn : Nc B W W') (hB : w.heap.size ≤ B) : CkM w W' X a1 n1 c1 a2 n2 c2 a3 n3 c3 a4 n4 c4 a5 n5 c5 s aP nP cP ps T G F := by
  have hbel := below_nc h.lw.bel (Nat.le_refl _) hn hB
  exact ⟨⟨hbel, cell_nc1 h.lw.k0 hn, cell_nc1 h.lw.k1 hn, cell_nc1 h.lw.k2 hn, cell_nc1 h.lw.k3 hn, cell_nc1 h.lw.k4 hn, hw.keep hbel⟩, cell_nc1 h.kp hn, h.or_.nc hn, cell_nc1 h.kt hn, h.og.nc hn, hwp.keep hbel, h.ne⟩
theorem CkM.set (h : CkM w W X a1 n1 c1 a2 n2 c2 a3 n3 c3 a4 n4 c4 a5 n5 c5 s aP nP cP ps T G F) (hw : RdSite w a1 a2 a3 a4 a5 n1 n2 n3 n4 n5 s) (hwp : Rd 3 enc3 w aP ps) (hXw : w.heap.size ≤ X) (k : Nat) (x : Int) {F' : Nat → Int} (hF : ∀ j, j < n1 * 3 → F' j = if j = k then x else F j) : CkM w (W.setCell ⟨G, k, none⟩ (.int .i64 x)) X a1 n1 c1 a2 n2 c2 a3 n3 c3 a4 n4 c4 a5 n5 c5 s aP nP cP ps T G F' := by
  have hm : Mod (fun j => j = G) W (W.setCell ⟨G, k, none⟩ (.int .i64 x)) := (show Mod (fun j => j = G) W W from Mod.refl _ W).setCell (p := ⟨G, k, none⟩) (.inl rfl) _
  obtain ⟨n1', n2', n3', n4'⟩ := h.ne
  have hl := h.lw.mod hw hm (by omega) (fun j hj => by omega)
  refine ⟨hl, (hm.cell (p := ⟨X + 1, 0, none⟩) (World.block_lt_of_cell? _ _ h.kp) (by show ¬ X + 1 = G; omega)).trans h.kp, h.or_.mod hm (by omega), (hm.cell (p := ⟨T, 0, none⟩) (World.block_lt_of_cell? _ _ h.kt) n3').trans h.kt, (h.og.set k _).congr (fun j hj => ?_), hwp.keep hl.bel, h.ne⟩
  rw [hF j hj]
  split <;> rfl
end
theorem load_boolP {W : World} {b : Nat} {v : Bool} (h : Own W b 4 1 (fun _ => .bool v)) : (loadVar 4 ⟨b, 0, none⟩).run Tryz.prog W = .ok (.bool v) W := by
  have c0 : W.cell? ⟨b, 0, none⟩ = some (.bool v) := h.cell (i := 0) (by omega)
  go_simp
/-- What the chargers so far, and the phases so far of the next one, draw. -/
def foW (s : GSite) (f : Nat → Int) (m p : Nat) (j : Nat) : Int := if j % 3 < p then ownA s f (j / 3) (m + 1) (j % 3) else ownA s f (j / 3) m (j % 3)
theorem foW_zero (s f) (m j : Nat) : foW s f m 0 j = ownA s f (j / 3) m (j % 3) := by unfold foW; rw [if_neg (by omega)]
theorem foW_three (s f) (m j : Nat) : foW s f m 3 j = foW s f (m + 1) 0 j := by unfold foW; rw [if_pos (by omega), if_neg (by omega)]
theorem foW_step (s : GSite) (f : Nat → Int) (m p : Nat) (hp : p < 3) (j : Nat) : foW s f m (p + 1) j = if j = placeOf s m * 3 + p ∧ bitP (phOf s m) p = true then foW s f m p (placeOf s m * 3 + p) + f m else foW s f m p j := by
  have e3 : (placeOf s m * 3 + p) / 3 = placeOf s m := by omega
  have e4 : (placeOf s m * 3 + p) % 3 = p := by omega
  by_cases h : j % 3 = p
  · have hs : ownA s f (j / 3) (m + 1) (j % 3) = ownA s f (j / 3) m (j % 3) + pick (placeOf s m = j / 3 ∧ bitP (phOf s m) (j % 3) = true) (f m) := ownA_succ s f (j / 3) m (j % 3)
    have hl : foW s f m (p + 1) j = ownA s f (j / 3) (m + 1) (j % 3) := by unfold foW; rw [if_pos (by omega)]
    have hr : foW s f m p j = ownA s f (j / 3) m (j % 3) := by unfold foW; rw [if_neg (by omega)]
    rw [hl, hs]
    by_cases e : j = placeOf s m * 3 + p ∧ bitP (phOf s m) p = true
    · rw [if_pos e, ← e.1, hr, pick_pos ⟨by omega, by rw [h]; exact e.2⟩]
    · rw [if_neg e, hr, pick_neg (fun x => e ⟨by omega, by rw [← h]; exact x.2⟩), Int.add_zero]
  · rw [if_neg (fun x => h (by omega))]
    unfold foW
    by_cases h2 : j % 3 < p
    · rw [if_pos (by omega), if_pos h2]
    · rw [if_neg (by omega), if_neg h2]
theorem foW_bd {s : GSite} {f : Nat → Int} (hf : ∀ c, 0 ≤ f c ∧ f c ≤ 80) (m p j : Nat) : 0 ≤ foW s f m p j ∧ foW s f m p j ≤ (m + 1) * 80 := by
  unfold foW
  split
  · have := ownA_bd (s := s) hf (j / 3) (m + 1) (j % 3); omega
  · have := ownA_bd (s := s) hf (j / 3) m (j % 3); omega
def cndF (g : GCon) (i : Nat) : Value := (#[.string g.name, .int .i64 g.up, .int .i64 g.limit, .int .i64 g.neutral, .int .i64 g.rated, .int .i64 g.heat, .int .i64 g.amb, .int .i64 g.most, .int .i64 g.gain, .int .i64 g.loss, .int .i64 g.den] : Array Value)[i]?.getD undef
theorem frP_intro {ds : List Deferred} {xs : List Value} (F : (Nat → Value) → List Value) (h : xs = F (fun i => xs.getD i undef)) : ∃ f, (⟨List.toArray xs, ds⟩ : Act) = ⟨List.toArray (F f), ds⟩ := ⟨_, by rw [← h]⟩
/-- The frame in which the body begins. -/
def CkF (X T Y x : Nat) (f : Nat → Value) : List Value := f 0 :: f 1 :: f 2 :: (.pointer (some ⟨X, 0, none⟩)) :: f 4 :: (.pointer (some ⟨X + 1, 0, none⟩)) :: (.pointer (some ⟨X + 2, 0, none⟩)) :: f 7 :: f 8 :: f 9 :: (.pointer (some ⟨T, 0, none⟩)) :: f 11 :: f 12 :: f 13 :: (.int .i64 (x : Nat)) :: (.pointer (some ⟨Y, 0, none⟩)) :: f 16 :: f 17 :: f 18 :: f 19 :: f 20 :: f 21 :: f 22 :: f 23 :: f 24 :: f 25 :: f 26 :: f 27 :: f 28 :: f 29 :: f 30 :: f 31 :: f 32 :: f 33 :: f 34 :: f 35 :: f 36 :: f 37 :: f 38 :: f 39 :: f 40 :: f 41 :: f 42 :: f 43 :: f 44 :: f 45 :: f 46 :: f 47 :: f 48 :: f 49 :: f 50 :: f 51 :: f 52 :: f 53 :: f 54 :: f 55 :: f 56 :: f 57 :: f 58 :: f 59 :: f 60 :: f 61 :: f 62 :: f 63 :: f 64 :: f 65 :: f 66 :: f 67 :: f 68 :: f 69 :: f 70 :: f 71 :: f 72 :: f 73 :: f 74 :: f 75 :: f 76 :: f 77 :: f 78 :: f 79 :: f 80 :: f 81 :: f 82 :: f 83 :: f 84 :: f 85 :: f 86 :: f 87 :: f 88 :: f 89 :: f 90 :: f 91 :: f 92 :: f 93 :: f 94 :: f 95 :: f 96 :: f 97 :: f 98 :: f 99 :: f 100 :: f 101 :: f 102 :: f 103 :: f 104 :: f 105 :: f 106 :: f 107 :: f 108 :: f 109 :: f 110 :: f 111 :: f 112 :: f 113 :: f 114 :: f 115 :: f 116 :: f 117 :: f 118 :: f 119 :: f 120 :: f 121 :: f 122 :: f 123 :: []
def CkA (X T : Nat) (cs : List GCon) (x : BkAt cs) (a' : Act) (W : World) : Prop := ∃ Y, Own W Y 50 11 (cndF (cs[x.1]'x.2)) ∧ ∃ f, a' = ⟨List.toArray (CkF X T Y x.1 f), []⟩
theorem keepsFrom_low {M : Nat → Prop} {W W' : World} (h : Mod M W W') (B : Nat) (hM : ∀ k, M k → k < B) : KeepsFrom B W W' :=
  ⟨h.size, fun k o hB hk _ => (h.block k (Array.getElem?_eq_some_iff.1 hk).1 (fun hm => by have := hM k hm; omega)).trans hk⟩
def ixs {cs : List GCon} (pre : List (BkAt cs)) : List Nat := pre.map (·.1)
theorem ixs_snoc {cs : List GCon} (pre : List (BkAt cs)) (x : BkAt cs) : ixs (pre ++ [x]) = ixs pre ++ [x.1] := by unfold ixs; rw [List.map_append]; rfl
def BadQ (s : GSite) (f P : Nat → Int) (pre : List (BkAt s.cons)) : Prop := ∃ q y p, pre = q ++ [y] ∧ p < 3 ∧ ¬ okQ s f P (ixs q) y.1 p
set_option maxRecDepth 100000 in
theorem idx_row3 {r0 r1 r2 : Int} {p : Nat} (hp : p < 3) {v : Value} (h : (#[.int .i64 r0, .int .i64 r1, .int .i64 r2] : Array Value)[p]? = some v) (W : World) : (Instr.index 51 (.agg #[.int .i64 r0, .int .i64 r1, .int .i64 r2]) (.int .i64 (p : Nat))).run Tryz.prog W = .ok v W := by
  match p, hp with
  | 0, _ => injection h with h; subst h; with_unfolding_all rfl
  | 1, _ => injection h with h; subst h; with_unfolding_all rfl
  | 2, _ => injection h with h; subst h; with_unfolding_all rfl
theorem rd_ltB {α : Type} {sz : Nat} {enc : α → List Value} {w : World} {A : Option Addr} {xs : List α} (h : Rd sz enc w A xs) (h0 : 0 < xs.length) : ∀ a, A = some a → a.block < w.heap.size := by
  intro a ha
  obtain ⟨b, off, x, hA, hb, _⟩ := h.at_ h0
  rw [ha] at hA
  injection hA with hA
  subst hA
  exact hb
set_option maxRecDepth 100000 in
set_option maxHeartbeats 16000000 in
theorem prCheck_any (a1 a2 a3 a4 a5 : Option Addr) (n1 c1 n2 c2 n3 c3 n4 c4 n5 c5 : Nat) (aA : Option Addr) (nA cA : Nat) (s : GSite) (xs : List Int) (aP : Option Addr) (nP cP : Nat) (ps : List R3) (w : World) (HS : Hid (RdSite w a1 a2 a3 a4 a5 n1 n2 n3 n4 n5 s)) (HX : Hid (Rd 1 encI w aA xs)) (HNA : Hid (xs.length = nA)) (hnA : nA ≤ 9223372036854775807) (HPS : Hid (Rd 3 enc3 w aP ps)) (HNP : Hid (ps.length = nP)) :
    Calls Tryz.prog 10 #[.agg #[.slice a1 n1 c1, .slice a2 n2 c2, .slice a3 n3 c3, .slice a4 n4 c4, .slice a5 n5 c5], .slice aA nA cA, .agg #[.slice aP nP cP]] w fun e w' => e = .returned (.bool (prB s xs ps)) ∧ Below w.heap.size w w' := by
  obtain ⟨W0, hW0⟩ : ∃ W0, W0 = ((w.alloc (.cells #[.slice a1 n1 c1, .slice a2 n2 c2, .slice a3 n3 c3, .slice a4 n4 c4, .slice a5 n5 c5] 28)).alloc (.cells #[.slice aP nP cP] 32)).alloc (.cells #[.bool false] 4) := ⟨_, rfl⟩
  have hm0 : LwM w W0 w.heap.size a1 n1 c1 a2 n2 c2 a3 n3 c3 a4 n4 c4 a5 n5 c5 s := by
    rw [hW0]
    exact ((LwM.box (c1 := c1) (c2 := c2) (c3 := c3) (c4 := c4) (c5 := c5) HS.out).keep ((Below.refl _ _).alloc (Nat.le_refl _) _)).keep ((Below.refl _ _).alloc (Nat.le_refl _) _)
  have hkp : W0.cell? ⟨w.heap.size + 1, 0, none⟩ = some (.slice aP nP cP) := by rw [hW0]; go_simp
  have hor : Own W0 (w.heap.size + 2) 4 1 (fun _ => .bool false) := by
    have h := Own.one ((w.alloc (.cells #[.slice a1 n1 c1, .slice a2 n2 c2, .slice a3 n3 c3, .slice a4 n4 c4, .slice a5 n5 c5] 28)).alloc (.cells #[.slice aP nP cP] 32)) 4 (.bool false)
    rw [World.size_alloc, World.size_alloc] at h
    rw [hW0]; exact h
  have HW0 := Lib.hid hW0
  have HM := Lib.hid hm0
  have HKP := Lib.hid hkp
  have HOR := Lib.hid hor
  clear hW0 hm0 hkp hor
  refine (callsIn_wide (n := 5)).1 ?_
  refine callsIn_of_wp_marks Tryz.func10 rfl trivial ?_ rfl
  refine wpIn_wide.2 ?_
  simp only [Tryz.ntmps10, List.size_toArray, List.length_cons, List.length_nil, Nat.reduceAdd, Nat.reduceSub, Array.replicate_succ, Array.replicate_zero, List.push_toArray, List.append_toArray, List.nil_append, List.cons_append]
  go_wp2_with fail
  rw [← HW0.out]
  clear HW0
  obtain ⟨X, hX⟩ : ∃ X, X = w.heap.size := ⟨_, rfl⟩
  rw [← hX] at HM HKP HOR ⊢
  have HSZ : Hid (w.heap.size = X) := Lib.hid hX.symm
  clear hX
  refine (limCheck_any a1 a2 a3 a4 a5 n1 c1 n2 c2 n3 c3 n4 c4 n5 c5 aA nA cA s xs W0 (Lib.hid HM.out.rs) (Lib.hid (HX.out.keep HM.out.bel)) HNA hnA).mono ?_
  rintro e w1 ⟨rfl, hb⟩
  obtain ⟨v0, v1, v2, hv⟩ := vio_agg s xs
  rw [hv]
  generalize (vioO s xs).isSome = vq
  have HM := Lib.hid (HM.out.keep hb)
  have HKP := Lib.hid ((hb.cell (p := ⟨X + 1, 0, none⟩) (World.block_lt_of_cell? _ _ HKP.out)).trans HKP.out)
  have HOR := Lib.hid (HOR.out.keep hb HOR.out.lt)
  clear hb hv
  obtain ⟨w2, hw2⟩ : ∃ w2, w2 = w1.alloc (.cells #[.int .i64 v0, .int .i64 v1, .int .i64 v2] 77) := ⟨_, rfl⟩
  have hb : Below w1.heap.size w1 w2 := by rw [hw2]; exact (Below.refl _ w1).alloc (Nat.le_refl _) _
  have HM := Lib.hid (HM.out.keep hb)
  have HKP : Hid (w2.cell? ⟨X + 1, 0, none⟩ = some (.slice aP nP cP)) := Lib.hid ((hb.cell (p := ⟨X + 1, 0, none⟩) (World.block_lt_of_cell? _ _ HKP.out)).trans HKP.out)
  have HOR := Lib.hid (HOR.out.keep hb HOR.out.lt)
  have HW2 := Lib.hid hw2
  clear hb hw2
  have HFALSE : Hid (∀ W, Own W (X + 2) 4 1 (fun _ => .bool false) → Below w.heap.size w W → Own (W.setCell ⟨X + 2, 0, none⟩ (.bool false)) (X + 2) 4 1 (fun _ => .bool false) ∧ Below w.heap.size w (W.setCell ⟨X + 2, 0, none⟩ (.bool false))) := Lib.hid (fun W ho hb => ⟨ho.set1 _, hb.setCell (p := ⟨X + 2, 0, none⟩) (by show w.heap.size ≤ X + 2; have := HSZ.out; omega) _⟩)
  cases hlb : loadB s xs
  · have HN : Hid (prB s xs ps = false) := Lib.hid (prB_no (fun h => by rw [hlb] at h; cases h.1))
    have he : errO false = 1 := rfl
    have c0 := HOR.out.cell (i := 0) (by omega)
    have f0 := HOR.out.frozen 0
    have hr := HFALSE.out w2 HOR.out HM.out.bel
    have HR := Lib.hid hr
    clear hr
    rw [HW2.out] at c0 f0 HR
    go_wp2_with fail
    refine leaves_marks (B := X + 3) [] _ (Marks.nil _ _) (fun W3 hT => ⟨_, results_c1 (a := 6) (ty := 4) (b := X + 2) (by kernel_rfl) rfl (load_boolP (HR.out.1.takenH hT)), by rw [HN.out], HR.out.2.trans (taken_below1 hT (by have := HSZ.out; omega))⟩)
  have HLB := Lib.hid hlb
  have he : errO true = 0 := rfl
  clear hlb
  have HOK : Hid (OkSite keyL s) := Lib.hid (by
    have h := HLB.out
    unfold loadB at h
    rw [Bool.and_eq_true] at h
    exact okSB_iff.1 h.1)
  have HCU := Lib.hid (cur_bd HLB.out)
  have hcl : s.cons.length = n1 := HS.out.l1
  have hn16 : n1 ≤ 16 := by have := HOK.out.n2; omega
  have hn416 : n4 ≤ 16 := by have h1 := HOK.out.n5; have h2 := HS.out.l4; omega
  have hnA4 : n4 = nA := by have h1 := HCU.out.1; have h2 := HNA.out; have h3 := HS.out.l4; omega
  have HCL := Lib.hid hcl
  have HL4 : Hid (s.chgs.length = n4) := Lib.hid HS.out.l4
  subst hnA4
  have kp := HKP.out
  have k0 := HM.out.k0
  rw [HW2.out] at kp k0
  clear hcl
  by_cases hpn : nP = n1
  case neg =>
    have HN : Hid (prB s xs ps = false) := Lib.hid (prB_no (fun h => by have h1 := h.2.1; have h2 := HNP.out; have h3 := HCL.out; omega))
    have c0 := HOR.out.cell (i := 0) (by omega)
    have f0 := HOR.out.frozen 0
    have hr := HFALSE.out w2 HOR.out HM.out.bel
    have HR := Lib.hid hr
    clear hr
    rw [HW2.out] at c0 f0 HR
    have z1 : ((nP : Int) == (n1 : Int)) = false := by simp; omega
    have z2 : ¬ (nP : Int) = (n1 : Int) := by omega
    have z3 : ((nP : Int) != (n1 : Int)) = true := by simp; omega
    go_wp2_with fail
    refine leaves_marks (B := X + 3) [] _ (Marks.nil _ _) (fun W3 hT => ⟨_, results_c1 (a := 6) (ty := 4) (b := X + 2) (by kernel_rfl) rfl (load_boolP (HR.out.1.takenH hT)), by rw [HN.out], HR.out.2.trans (taken_below1 hT (by have := HSZ.out; omega))⟩)
  have hpn := hpn.symm
  subst hpn
  have HAP := Lib.hid (rd_ltB HPS.out (by have h1 := HNP.out; have h2 := HOK.out.n1; have h3 := HCL.out; omega))
  have HA1 := Lib.hid (rd_ltB HS.out.r1 HOK.out.n1)
  have z1 : ((n1 : Int) == (n1 : Int)) = true := by simp
  have z3 : ((n1 : Int) != (n1 : Int)) = false := by simp
  obtain ⟨W3, hmk, ho3, b3, hz3⟩ := mk_rows3 n1 (by omega) w2
  have HO3 := Lib.hid ho3
  have HB3 := Lib.hid b3
  have HXL : Hid (X + 2 < w2.heap.size) := Lib.hid HOR.out.lt
  have l3 : w2.heap.size < W3.heap.size := ho3.lt
  have HL3 := Lib.hid l3
  rw [HW2.out] at hmk
  try rw [World.size_alloc] at hmk
  have k3 := (HM.out.keep b3).k3
  have hG : w2.heap.size = w1.heap.size + 1 := by rw [HW2.out]; simp
  have HG := Lib.hid hG
  have hXw1 : X < w1.heap.size := by have := HXL.out; omega
  have hXW3 : X < W3.heap.size := by omega
  clear ho3 b3 l3 hG hz3
  go_wp2_with fail
  obtain ⟨W4, hW4⟩ : ∃ W4, W4 = W3.alloc (.cells #[.slice (some ⟨w1.heap.size + 1, 0, none⟩) n1 n1] 30) := ⟨_, rfl⟩
  have b34 : Below w2.heap.size w2 W4 := by rw [hW4]; exact below_then HB3.out ((Below.refl _ W3).alloc (Nat.le_refl _) _)
  have HC4 : Hid (CkM w W4 X a1 n1 c1 a2 n2 c2 a3 n3 c3 a4 n4 c4 a5 n5 c5 s aP n1 cP ps W3.heap.size (w1.heap.size + 1) (foW s (fI xs) 0 0)) := Lib.hid (by
    refine ⟨HM.out.keep b34, (b34.cell (p := ⟨X + 1, 0, none⟩) (World.block_lt_of_cell? _ _ HKP.out)).trans HKP.out, HOR.out.keep b34 HOR.out.lt, by rw [hW4]; go_simp, ?_, HPS.out.keep (below_then HM.out.bel b34), ?_⟩
    · rw [← HG.out, hW4]
      refine (HO3.out.alloc _).congr (fun j hj => ?_)
      rw [foW_zero]
      rfl
    · have h1 := HG.out
      have h2 := HXL.out
      have h3 := HL3.out
      refine ⟨by omega, by omega, by omega, HAP.out⟩)
  rw [← hW4]
  clear hW4 b34 HO3 HB3 HKP HOR HM hmk k3 k0 kp
  generalize W3.heap.size = T at *
  generalize w1.heap.size + 1 = G at *
  have hGT : Hid (T ≠ G) := Lib.hid HC4.out.ne.2.2.1
  go_loopg [45] n4 (fun g1 v45 wr => ∃ i : Nat, v45 = .int .i64 i ∧ i ≤ n4 ∧ n4 - i ≤ g1 ∧ Hid (CkM w wr X a1 n1 c1 a2 n2 c2 a3 n3 c3 a4 n4 c4 a5 n5 c5 s aP n1 cP ps T G (foW s (fI xs) i 0)))
  case atStart => exact ⟨0, by go_num, by omega, by omega, HC4⟩
  case round =>
    clear HC4
    obtain ⟨i, rfl, hi, hg1, HC⟩ := hrel
    by_cases hlt : i < n4
    · have hltz : (i : Int) < (n4 : Int) := by omega
      obtain ⟨b, off, g, hA4, hbl, hgx, d0, d1, d2, d3, d4, d5, d6, d7⟩ := rdChg_at HC.out.lw.rs.r4 (k := i) (by rw [HL4.out]; exact hlt)
      obtain ⟨p1, p2, p3⟩ := HOK.out.place hgx
      have hch := HOK.out.chg g (List.mem_of_getElem? hgx)
      have HPH : Hid (0 ≤ g.ph ∧ g.ph ≤ 7) := Lib.hid (by
        unfold okChg at hch
        simp only [decide_eq_true_eq] at hch
        omega)
      have HPQ : Hid (phOf s i = g.ph) := Lib.hid (by unfold phOf; rw [hgx]; rfl)
      obtain ⟨pl, hpl⟩ : ∃ pl, pl = placeOf s i := ⟨_, rfl⟩
      rw [← hpl] at p3
      have HPL : Hid (pl = placeOf s i ∧ pl < n1) := Lib.hid ⟨hpl, by have := HCL.out; omega⟩
      rw [← p3] at d1
      have HP3 := Lib.hid p3
      have HA4 : Hid (a4 = some ⟨b, off, none⟩) := Lib.hid hA4
      clear hgx p1 p2 hch hpl hbl p3
      subst hA4
      go_wp2_with fail
      obtain ⟨WY, hWY⟩ : ∃ WY, WY = wr.alloc (.cells #[.string g.name, .int .i64 (pl : Nat), .int .i64 g.ph, .int .i64 g.mn, .int .i64 g.mx, .int .i64 g.step, .int .i64 g.fb, .int .i64 g.own] 64) := ⟨_, rfl⟩
      have bY : Below wr.heap.size wr WY := by rw [hWY]; exact (Below.refl _ wr).alloc (Nat.le_refl _) _
      have HY : Hid (Own WY wr.heap.size 64 8 (fun i => (#[.string g.name, .int .i64 (pl : Nat), .int .i64 g.ph, .int .i64 g.mn, .int .i64 g.mx, .int .i64 g.step, .int .i64 g.fb, .int .i64 g.own])[i]?.getD undef)) := Lib.hid (by rw [hWY]; exact Own.new wr 64 _ undef)
      have HC := Lib.hid (HC.out.keep bY)
      rw [← hWY]
      clear hWY bY d0 d1 d2 d3 d4 d5 d6 d7
      generalize wr.heap.size = Y at *
      go_loopg [50] 3 (fun g2 v50 wq => ∃ p : Nat, v50 = .int .i64 p ∧ p ≤ 3 ∧ 3 - p ≤ g2 ∧ Hid (CkM w wq X a1 n1 c1 a2 n2 c2 a3 n3 c3 (some ⟨b, off, none⟩) n4 c4 a5 n5 c5 s aP n1 cP ps T G (foW s (fI xs) i p)) ∧ Hid (Own wq Y 64 8 (fun i => (#[.string g.name, .int .i64 (pl : Nat), .int .i64 g.ph, .int .i64 g.mn, .int .i64 g.mx, .int .i64 g.step, .int .i64 g.fb, .int .i64 g.own])[i]?.getD undef)))
      case atStart => exact ⟨0, by go_num, by omega, by omega, HC, HY⟩
      case round =>
        clear HC HY
        obtain ⟨p, rfl, hp, hg2, HC, HY⟩ := hrel
        by_cases hlp : p < 3
        · have hlpz : (p : Int) < 3 := by omega
          have y1 : wr.cell? ⟨Y, 1, none⟩ = some (.int .i64 (pl : Nat)) := HY.out.cell (i := 1) (by omega)
          have y2 : wr.cell? ⟨Y, 2, none⟩ = some (.int .i64 g.ph) := HY.out.cell (i := 2) (by omega)
          have hbit := bits_ph (ph := g.ph) (p := p) HPH.out hlp
          have HST : Hid (∀ j, foW s (fI xs) i (p + 1) j = if j = pl * 3 + p ∧ bitP g.ph p = true then foW s (fI xs) i p (pl * 3 + p) + fI xs i else foW s (fI xs) i p j) := Lib.hid (fun j => by rw [HPL.out.1, ← HPQ.out]; exact foW_step s (fI xs) i p hlp j)
          have hb0 := foW_bd (s := s) (f := fI xs) HCU.out.2 i p (pl * 3 + p)
          have hb1 := HCU.out.2 i
          cases hq : bitP g.ph p
          · have HST2 : Hid (∀ j, foW s (fI xs) i p j = foW s (fI xs) i (p + 1) j) := Lib.hid (fun j => by rw [HST.out, hq]; simp)
            have HC2 : Hid (CkM w wr X a1 n1 c1 a2 n2 c2 a3 n3 c3 (some ⟨b, off, none⟩) n4 c4 a5 n5 c5 s aP n1 cP ps T G (foW s (fI xs) i (p + 1))) := Lib.hid (by
              have h := HC.out
              rw [show foW s (fI xs) i p = foW s (fI xs) i (p + 1) from funext HST2.out] at h
              exact h)
            rw [hq] at hbit
            clear hq hb0 hb1
            go_wp2_with fail
            go_quiet (fail)
            go_wp2_with fail
            go_roundg (3 - (p + 1))
            case measure => omega
            case rel => exact ⟨p + 1, by go_num, by omega, by omega, Lib.hid (HC2.out.keep (below_drewG _ (Below.refl _ _))), Lib.hid (HY.out.drewN _)⟩
          · rw [hq] at hbit
            have HQ := Lib.hid hq
            clear hq
            go_wp2_with fail
            go_quiet (fail)
            have HC := Lib.hid (HC.out.keep (below_drewG nq (Below.refl _ wr)))
            have HY := Lib.hid (HY.out.drewN nq)
            generalize wr.drewN nq = wx at *
            obtain ⟨bA, oA, hA, hbA, hcA⟩ := (HX.out.keep HC.out.lw.bel).int (k := i) (by rw [HNA.out]; exact hlt)
            have q0 := HC.out.kt
            have q1 : wx.cell? ⟨Y, 1, none⟩ = some (.int .i64 (pl : Nat)) := HY.out.cell (i := 1) (by omega)
            have q2 : wx.cell? ⟨G, pl * 3 + p, none⟩ = some (.int .i64 (foW s (fI xs) i p (pl * 3 + p))) := HC.out.og.cell (i := pl * 3 + p) (by have := HPL.out.2; omega)
            have q3 : wx.cell? ⟨bA, oA + i, none⟩ = some (.int .i64 (fI xs i)) := hcA
            have hpl3 : (pl : Int) < (n1 : Int) := by have := HPL.out.2; omega
            have HFZ : Hid (wx.drew.frozen? ⟨G, pl * 3 + p, none⟩ = false) := Lib.hid (HC.out.og.drew.frozen _)
            have hYG : Y ≠ G := own_ne HY.out HC.out.og (by decide)
            have HAA : Hid (aA = some ⟨bA, oA, none⟩) := Lib.hid hA
            have HCn : Hid (CkM w (wx.drew.setCell ⟨G, pl * 3 + p, none⟩ (.int .i64 (foW s (fI xs) i p (pl * 3 + p) + fI xs i))) X a1 n1 c1 a2 n2 c2 a3 n3 c3 (some ⟨b, off, none⟩) n4 c4 a5 n5 c5 s aP n1 cP ps T G (foW s (fI xs) i (p + 1))) := Lib.hid ((HC.out.keep (below_drew wx)).set HS.out HPS.out (by have := HSZ.out; omega) (pl * 3 + p) _ (fun j _ => by
              rw [HST.out]
              by_cases e : j = pl * 3 + p
              · rw [if_pos ⟨e, HQ.out⟩, if_pos e]
              · rw [if_neg (fun x => e x.1), if_neg e]))
            have HYn : Hid (Own (wx.drew.setCell ⟨G, pl * 3 + p, none⟩ (.int .i64 (foW s (fI xs) i p (pl * 3 + p) + fI xs i))) Y 64 8 (fun i => (#[.string g.name, .int .i64 (pl : Nat), .int .i64 g.ph, .int .i64 g.mn, .int .i64 g.mx, .int .i64 g.step, .int .i64 g.fb, .int .i64 g.own])[i]?.getD undef)) := Lib.hid (HY.out.drew.other (p := ⟨G, pl * 3 + p, none⟩) hYG _)
            clear HC HY hcA hbA hbit y1 y2
            subst hA
            generalize foW s (fI xs) i p (pl * 3 + p) = y at *
            generalize fI xs i = x at *
            have hsum : IntKind.i64.wrap (y + x) = y + x := IntWalk.i64_in _ (by omega)
            have hg3 : G ≠ T := fun e => hGT.out e.symm
            go_wp2_with fail
            refine wp_normal (fun KN hKN => ?_)
            refine region_z (S := fun w' => w'.cell? ⟨T, 0, none⟩ = some (.slice (some ⟨G, 0, none⟩) n1 n1) ∧ w'.cell? ⟨Y, 1, none⟩ = some (.int .i64 (pl : Nat)) ∧ w'.cell? ⟨G, pl * 3 + p, none⟩ = some (.int .i64 y) ∧ w'.cell? ⟨bA, oA + i, none⟩ = some (.int .i64 x)) [14] (by kernel_rfl) ⟨q0, q1, q2, q3⟩ (fun hHeld => ?_)
            clear q0 q1 q2 q3
            refine wpAnyZ_take (i := 0) (v := .slice (some ⟨G, 0, none⟩) n1 n1) [4, 5, 6, 11, 12, 13, 14] rfl (by kernel_rfl) (by kernel_rfl) (by kernel_rfl) (by kernel_rfl) (fun _ _ _ h => h) (Or.inl ⟨by kernel_rfl, fun w' hSw => ?_⟩) hHeld ?_
            · have s0 := hSw.1
              have s1 := hSw.2.1
              have s2 := hSw.2.2.1
              have s3 := hSw.2.2.2
              clear hHeld hSw
              go_simp
            simp only [Act.put, List.getElem_toArray, List.getElem_cons_zero, List.getElem_cons_succ, List.setIfInBounds_toArray, List.set_cons_zero, List.set_cons_succ]
            refine wpAnyZ_take (i := 1) (v := .pointer (some ⟨Y, 1, none⟩)) [2, 4, 5, 6, 11, 12, 13, 14] rfl (by kernel_rfl) (by kernel_rfl) (by kernel_rfl) (by kernel_rfl) (fun _ _ _ h => h) (Or.inl ⟨by kernel_rfl, fun w' hSw => ?_⟩) hHeld ?_
            · have s0 := hSw.1
              have s1 := hSw.2.1
              have s2 := hSw.2.2.1
              have s3 := hSw.2.2.2
              clear hHeld hSw
              go_simp
            simp only [Act.put, List.getElem_toArray, List.getElem_cons_zero, List.getElem_cons_succ, List.setIfInBounds_toArray, List.set_cons_zero, List.set_cons_succ]
            refine wpAnyZ_take (i := 2) (v := .int .i64 (pl : Nat)) [4, 5, 6, 11, 12, 13, 14] rfl (by kernel_rfl) (by kernel_rfl) (by kernel_rfl) (by kernel_rfl) (fun _ _ _ h => h) (Or.inl ⟨by kernel_rfl, fun w' hSw => ?_⟩) hHeld ?_
            · have s0 := hSw.1
              have s1 := hSw.2.1
              have s2 := hSw.2.2.1
              have s3 := hSw.2.2.2
              clear hHeld hSw
              go_simp
            simp only [Act.put, List.getElem_toArray, List.getElem_cons_zero, List.getElem_cons_succ, List.setIfInBounds_toArray, List.set_cons_zero, List.set_cons_succ]
            refine wpAnyZ_take (i := 3) (v := .int .i64 (p : Nat)) [5, 6, 11, 13, 14] rfl (by kernel_rfl) (by kernel_rfl) (by kernel_rfl) (by kernel_rfl) (fun _ _ _ h => h) (Or.inl ⟨by kernel_rfl, fun w' hSw => ?_⟩) hHeld ?_
            · have s0 := hSw.1
              have s1 := hSw.2.1
              have s2 := hSw.2.2.1
              have s3 := hSw.2.2.2
              clear hHeld hSw
              go_simp
            simp only [Act.put, List.getElem_toArray, List.getElem_cons_zero, List.getElem_cons_succ, List.setIfInBounds_toArray, List.set_cons_zero, List.set_cons_succ]
            refine wpAnyZ_take (i := 4) (v := .pointer (some ⟨G, pl * 3, none⟩)) [5, 6, 11, 14] rfl (by kernel_rfl) (by kernel_rfl) (by kernel_rfl) (by kernel_rfl) (fun _ _ _ h => h) (Or.inl ⟨by kernel_rfl, fun w' hSw => ?_⟩) hHeld ?_
            · have s0 := hSw.1
              have s1 := hSw.2.1
              have s2 := hSw.2.2.1
              have s3 := hSw.2.2.2
              clear hHeld hSw
              go_simp
            simp only [Act.put, List.getElem_toArray, List.getElem_cons_zero, List.getElem_cons_succ, List.setIfInBounds_toArray, List.set_cons_zero, List.set_cons_succ]
            refine wpAnyZ_take (i := 5) (v := .pointer (some ⟨G, pl * 3 + p, none⟩)) [6, 11, 14] rfl (by kernel_rfl) (by kernel_rfl) (by kernel_rfl) (by kernel_rfl) (fun _ _ _ h => h) (Or.inl ⟨by kernel_rfl, fun w' hSw => ?_⟩) hHeld ?_
            · have s0 := hSw.1
              have s1 := hSw.2.1
              have s2 := hSw.2.2.1
              have s3 := hSw.2.2.2
              clear hHeld hSw
              go_simp
            simp only [Act.put, List.getElem_toArray, List.getElem_cons_zero, List.getElem_cons_succ, List.setIfInBounds_toArray, List.set_cons_zero, List.set_cons_succ]
            refine wpAnyZ_take (i := 6) (v := .int .i64 y) [11, 14] rfl (by kernel_rfl) (by kernel_rfl) (by kernel_rfl) (by kernel_rfl) (fun _ _ _ h => h) (Or.inl ⟨by kernel_rfl, fun w' hSw => ?_⟩) hHeld ?_
            · have s0 := hSw.1
              have s1 := hSw.2.1
              have s2 := hSw.2.2.1
              have s3 := hSw.2.2.2
              clear hHeld hSw
              go_simp
            simp only [Act.put, List.getElem_toArray, List.getElem_cons_zero, List.getElem_cons_succ, List.setIfInBounds_toArray, List.set_cons_zero, List.set_cons_succ]
            refine wpAnyZ_take (i := 7) (v := .slice (some ⟨bA, oA, none⟩) n4 cA) [9, 10, 11, 14] rfl (by kernel_rfl) (by kernel_rfl) (by kernel_rfl) (by kernel_rfl) (fun _ _ _ h => h) (Or.inl ⟨by kernel_rfl, fun w' hSw => ?_⟩) hHeld ?_
            · have s0 := hSw.1
              have s1 := hSw.2.1
              have s2 := hSw.2.2.1
              have s3 := hSw.2.2.2
              clear hHeld hSw
              go_simp
            simp only [Act.put, List.getElem_toArray, List.getElem_cons_zero, List.getElem_cons_succ, List.setIfInBounds_toArray, List.set_cons_zero, List.set_cons_succ]
            refine wpAnyZ_take (i := 8) (v := .int .i64 (i : Nat)) [9, 10, 11, 14] rfl (by kernel_rfl) (by kernel_rfl) (by kernel_rfl) (by kernel_rfl) (fun _ _ _ h => h) (Or.inl ⟨by kernel_rfl, fun w' hSw => ?_⟩) hHeld ?_
            · have s0 := hSw.1
              have s1 := hSw.2.1
              have s2 := hSw.2.2.1
              have s3 := hSw.2.2.2
              clear hHeld hSw
              go_simp
            simp only [Act.put, List.getElem_toArray, List.getElem_cons_zero, List.getElem_cons_succ, List.setIfInBounds_toArray, List.set_cons_zero, List.set_cons_succ]
            refine wpAnyZ_take (i := 9) (v := .pointer (some ⟨bA, oA + i, none⟩)) [10, 11, 14] rfl (by kernel_rfl) (by kernel_rfl) (by kernel_rfl) (by kernel_rfl) (fun _ _ _ h => h) (Or.inl ⟨by kernel_rfl, fun w' hSw => ?_⟩) hHeld ?_
            · have s0 := hSw.1
              have s1 := hSw.2.1
              have s2 := hSw.2.2.1
              have s3 := hSw.2.2.2
              clear hHeld hSw
              go_simp
            simp only [Act.put, List.getElem_toArray, List.getElem_cons_zero, List.getElem_cons_succ, List.setIfInBounds_toArray, List.set_cons_zero, List.set_cons_succ]
            refine wpAnyZ_take (i := 10) (v := .int .i64 x) [11, 14] rfl (by kernel_rfl) (by kernel_rfl) (by kernel_rfl) (by kernel_rfl) (fun _ _ _ h => h) (Or.inl ⟨by kernel_rfl, fun w' hSw => ?_⟩) hHeld ?_
            · have s0 := hSw.1
              have s1 := hSw.2.1
              have s2 := hSw.2.2.1
              have s3 := hSw.2.2.2
              clear hHeld hSw
              go_simp
            simp only [Act.put, List.getElem_toArray, List.getElem_cons_zero, List.getElem_cons_succ, List.setIfInBounds_toArray, List.set_cons_zero, List.set_cons_succ]
            refine wpAnyZ_take (i := 11) (v := .int .i64 (y + x)) [14] rfl (by kernel_rfl) (by kernel_rfl) (by kernel_rfl) (by kernel_rfl) (fun _ _ _ h => h) (Or.inl ⟨by kernel_rfl, fun w' hSw => ?_⟩) hHeld ?_
            · have s0 := hSw.1
              have s1 := hSw.2.1
              have s2 := hSw.2.2.1
              have s3 := hSw.2.2.2
              clear hHeld hSw
              go_simp
            simp only [Act.put, List.getElem_toArray, List.getElem_cons_zero, List.getElem_cons_succ, List.setIfInBounds_toArray, List.set_cons_zero, List.set_cons_succ]
            refine wpAnyZ_take (i := 12) (v := .pointer (some ⟨G, pl * 3, none⟩)) [13, 14] rfl (by kernel_rfl) (by kernel_rfl) (by kernel_rfl) (by kernel_rfl) (fun _ _ _ h => h) (Or.inl ⟨by kernel_rfl, fun w' hSw => ?_⟩) hHeld ?_
            · have s0 := hSw.1
              have s1 := hSw.2.1
              have s2 := hSw.2.2.1
              have s3 := hSw.2.2.2
              clear hHeld hSw
              go_simp
            simp only [Act.put, List.getElem_toArray, List.getElem_cons_zero, List.getElem_cons_succ, List.setIfInBounds_toArray, List.set_cons_zero, List.set_cons_succ]
            refine wpAnyZ_take (i := 13) (v := .pointer (some ⟨G, pl * 3 + p, none⟩)) [14] rfl (by kernel_rfl) (by kernel_rfl) (by kernel_rfl) (by kernel_rfl) (fun _ _ _ h => h) (Or.inl ⟨by kernel_rfl, fun w' hSw => ?_⟩) hHeld ?_
            · have s0 := hSw.1
              have s1 := hSw.2.1
              have s2 := hSw.2.2.1
              have s3 := hSw.2.2.2
              clear hHeld hSw
              go_simp
            simp only [Act.put, List.getElem_toArray, List.getElem_cons_zero, List.getElem_cons_succ, List.setIfInBounds_toArray, List.set_cons_zero, List.set_cons_succ]
            refine wpAnyZ_last (i := 14) (by kernel_rfl) rfl (by kernel_rfl) (fun K' hK => ?_)
            obtain ⟨s0, s1, s2, s3⟩ := hHeld
            have hf := HFZ.out
            go_simp
            refine hK.out _ _ ?_
            clear hK K' hf s0 s1 s2 s3
            try simp only [Act.put, List.getElem_toArray, List.getElem_cons_zero, List.getElem_cons_succ, List.setIfInBounds_toArray, List.set_cons_zero, List.set_cons_succ]
            refine wpAnyZ_done (by kernel_rfl) ?_ _
            go_step
            refine hKN _ _ ?_
            clear hKN KN
            go_step
            go_wp2_with fail
            go_roundg (3 - (p + 1))
            case measure => omega
            case rel => exact ⟨p + 1, by go_num, by omega, by omega, HCn, HYn⟩
        · have hlpz : ¬ (p : Int) < 3 := by omega
          have HC2 : Hid (CkM w wr X a1 n1 c1 a2 n2 c2 a3 n3 c3 (some ⟨b, off, none⟩) n4 c4 a5 n5 c5 s aP n1 cP ps T G (foW s (fI xs) (i + 1) 0)) := Lib.hid (by
            have h := HC.out
            rw [show p = 3 by omega, show foW s (fI xs) i 3 = foW s (fI xs) (i + 1) 0 from funext (foW_three s (fI xs) i)] at h
            exact h)
          go_wp2_with fail
          go_roundg (n4 - (i + 1))
          case measure => omega
          case rel => exact ⟨i + 1, by go_num, by omega, by omega, HC2⟩
    · have hltz : ¬ (i : Int) < (n4 : Int) := by omega
      have HC2 : Hid (CkM w wr X a1 n1 c1 a2 n2 c2 a3 n3 c3 a4 n4 c4 a5 n5 c5 s aP n1 cP ps T G (foC s (fI xs) (F3 ps) [])) := Lib.hid (by
        have h := HC.out
        rw [show i = n4 by omega, show foW s (fI xs) n4 0 = foC s (fI xs) (F3 ps) [] from funext (fun j => by rw [foW_zero, foC_nil, HL4.out])] at h
        exact h)
      have HB0 : Hid (bdQ s (fI xs) (F3 ps) []) := Lib.hid (fun j => by
        rw [foC_nil]
        have h := ownA_bd (s := s) HCU.out.2 (j / 3) s.chgs.length (j % 3)
        have h2 := HL4.out
        constructor
        · omega
        · simp only [List.length_nil]; omega)
      clear HC HCU HX HNA
      obtain ⟨k0, k1, k2, k3, k4⟩ : wr.cell? ⟨X, 0, none⟩ = some (.slice a1 n1 c1) ∧ wr.cell? ⟨X, 1, none⟩ = some (.slice a2 n2 c2) ∧ wr.cell? ⟨X, 2, none⟩ = some (.slice a3 n3 c3) ∧ wr.cell? ⟨X, 3, none⟩ = some (.slice a4 n4 c4) ∧ wr.cell? ⟨X, 4, none⟩ = some (.slice a5 n5 c5) := ⟨HC2.out.lw.k0, HC2.out.lw.k1, HC2.out.lw.k2, HC2.out.lw.k3, HC2.out.lw.k4⟩
      go_wp2_with fail
      refine (prBack_any a1 a2 a3 a4 a5 n1 c1 n2 c2 n3 c3 n4 c4 n5 c5 wr).mono ?_
      rintro e w5 ⟨rfl, hw5⟩
      have b5 : Below wr.heap.size wr w5 := by rw [hw5]; exact (Below.refl _ wr).alloc (Nat.le_refl _) _
      have z1 : w5.cell? ⟨wr.heap.size, 0, none⟩ = some (.slice a1 n1 c1) := by rw [hw5]; go_simp
      have HC5 := Lib.hid (HC2.out.keep b5)
      obtain ⟨bs, hbs⟩ : ∃ bs, bs = wr.heap.size := ⟨_, rfl⟩
      have HZ5 : Hid (G < bs ∧ T < bs ∧ X + 2 < bs ∧ w5.heap.size = bs + 1) := Lib.hid (by
        rw [hbs]
        exact ⟨HC2.out.og.lt, World.block_lt_of_cell? _ _ HC2.out.kt, HC2.out.or_.lt, by rw [hw5]; simp⟩)
      have hws : w.heap.size ≤ w5.heap.size := HC5.out.lw.bel.size
      rw [← hbs] at z1 ⊢
      clear hw5 b5 HC2 k0 k1 k2 k3 k4 hbs
      go_wp2_with fail
      refine range_back HCL.out (by omega) (g := .tmp 76) (p := 77) (q := 78) bs w.heap.size rfl z1 HC5.out.lw.rs.r1 HA1.out hws (fun pre W' => Hid (allQ s (fI xs) (F3 ps) (ixs pre) ∧ bdQ s (fI xs) (F3 ps) (ixs pre)) ∧ CkM w W' X a1 n1 c1 a2 n2 c2 a3 n3 c3 a4 n4 c4 a5 n5 c5 s aP n1 cP ps T G (foC s (fI xs) (F3 ps) (ixs pre)) ∧ W'.cell? ⟨bs, 0, none⟩ = some (.slice a1 n1 c1)) (fun c pre W' => c = .ret ∧ Hid (BadQ s (fI xs) (F3 ps) pre) ∧ Own W' (X + 2) 4 1 (fun _ => .bool false) ∧ Below w.heap.size w W') ?hI ?hIx ?h0 (fun x a' W' => CkA X T s.cons x a' W') ?hAx ?assign ?body ?done ?stop
      case hI => exact fun pre W W' h hn => ⟨h.1, h.2.1.nc HS.out HPS.out hn hws, cell_nc1 h.2.2 hn⟩
      case hIx =>
        rintro c pre W W' ⟨rfl, h1, h2, h3⟩ hn
        exact ⟨rfl, h1, h2.nc hn, below_nc h3 (Nat.le_refl _) hn hws⟩
      case h0 => exact ⟨Lib.hid ⟨allQ_nil _ _ _, HB0.out⟩, HC5.out, z1⟩
      case hAx =>
        rintro x a' W W' ⟨Y, oy, f, rfl⟩ hn
        exact ⟨Y, oy.nc hn, f, rfl⟩
      case assign =>
        intro l pre x W1 K hi hK
        have HI := Lib.hid hi
        have HKK := Lib.hid hK
        clear hi hK
        unfold bkV conV
        gi_wp2
        have hw1 : w.heap.size ≤ W1.heap.size := HI.out.2.1.lw.bel.size
        have hbs1 : bs < W1.heap.size := World.block_lt_of_cell? _ _ HI.out.2.2
        refine HKK.out _ _ (keepsFrom_alloc _ _ _) ⟨(Below.refl _ W1).alloc hw1 _, ((Below.refl _ W1).alloc (Nat.le_refl _) _).block bs hbs1⟩ ⟨HI.out.1, HI.out.2.1.keep ((Below.refl _ W1).alloc (Nat.le_refl _) _), (((Below.refl _ W1).alloc (Nat.le_refl _) _).cell (p := ⟨bs, 0, none⟩) hbs1).trans HI.out.2.2⟩ ?_
        exact ⟨_, Own.new W1 50 _ undef, frP_intro (CkF X T W1.heap.size x.1) rfl⟩
      case body =>
        rintro l pre ⟨c, hc⟩ a' W1 ⟨Hq, m, hb0⟩ ⟨Y, oy, f, rfl⟩ hlen
        unfold CkF
        dsimp only at oy ⊢
        have hcn : c < n1 := by have := HCL.out; omega
        have hcz : (c : Int) < (n1 : Int) := by omega
        obtain ⟨g, hg⟩ : ∃ g, g = s.cons[c]'hc := ⟨_, rfl⟩
        rw [← hg] at oy
        have HUP : Hid (upAt s.cons c = g.up) := Lib.hid (by unfold upAt; rw [List.getElem?_eq_getElem hc, ← hg]; rfl)
        have hup := HOK.out.ups c hc
        rw [HUP.out] at hup
        obtain ⟨bP, oP, r, hAP, hltP, hrx, hrc⟩ := m.rp.at_ (k := c) (by rw [HNP.out]; exact hcn)
        have HF : Hid (∀ p, p < 3 → (#[.int .i64 r.1, .int .i64 r.2.1, .int .i64 r.2.2] : Array Value)[p]? = some (.int .i64 (F3 ps (c * 3 + p)))) := Lib.hid (fun p hp => by
          unfold F3
          rw [show (c * 3 + p) / 3 = c by omega, show (c * 3 + p) % 3 = p by omega, hrx]
          match p, hp with
          | 0, _ => rfl
          | 1, _ => rfl
          | 2, _ => rfl)
        have hok : okCo s (c : Int) = true := okCo_yes (okSB_iff.2 HOK.out) ⟨by omega, by rw [HCL.out]; omega⟩
        have HL := Lib.hid (limLimit_any a1 a2 a3 a4 a5 n1 c1 n2 c2 n3 c3 n4 c4 n5 c5 s (c : Int) W1 (Lib.hid m.lw.rs))
        have k0 := m.lw.k0
        have k1 := m.lw.k1
        have k2 := m.lw.k2
        have k3 := m.lw.k3
        have k4 := m.lw.k4
        have HM := Lib.hid m
        have HQ := Lib.hid Hq.out
        have HOY := Lib.hid oy
        have HBS := Lib.hid hb0
        have q0 := hrc 0 _ rfl
        have q1 := hrc 1 _ rfl
        have q2 := hrc 2 _ rfl
        have hlimx : limO s (c : Int) = limAt s c := by rw [limO_yes hok]; rfl
        clear m Hq oy hb0 hrc hrx hg
        subst hAP
        gi_wp2
        refine ⟨trivial, CallsIn.inRound l (callsIn_wide.2 (HL.out.mono ?_))⟩
        rintro e w' ⟨rfl, hb⟩
        rw [hlimx, hok]
        have he1 : errO true = 0 := rfl
        have kp := HM.out.kp
        have HM2 := Lib.hid (HM.out.keep hb)
        have HOY2 := Lib.hid (HOY.out.keep hb HOY.out.lt)
        have HMD := Lib.hid (mod_then (show Mod (fun j => j = G) W1 W1 from Mod.refl _ W1) hb)
        have kp := HM2.out.kp
        have p0 := (hb.cell (p := ⟨bP, oP + c * 3 + 0, none⟩) (by exact hltP)).trans q0
        have p1 := (hb.cell (p := ⟨bP, oP + c * 3 + 1, none⟩) (by exact hltP)).trans q1
        have p2 := (hb.cell (p := ⟨bP, oP + c * 3 + 2, none⟩) (by exact hltP)).trans q2
        rw [Nat.add_zero] at p0
        clear k0 k1 k2 k3 k4 q0 q1 q2 hb HL hlimx hok HOY
        gi_wp2
        have HMr : Hid (CkM w w' X a1 n1 c1 a2 n2 c2 a3 n3 c3 a4 n4 c4 a5 n5 c5 s (some ⟨bP, oP, none⟩) n1 cP ps T G (foP s (fI xs) (F3 ps) (ixs pre) c 0)) := Lib.hid (by
          rw [show foP s (fI xs) (F3 ps) (ixs pre) c 0 = foC s (fI xs) (F3 ps) (ixs pre) from funext (foP_zero _ _ _ _ _)]
          exact HM2.out)
        obtain ⟨lv, hlv⟩ : ∃ lv, lv = limAt s c := ⟨_, rfl⟩
        rw [← hlv]
        have HLV := Lib.hid hlv
        clear hlv kp p0 p1 p2 HM2
        gi_loopw [92] (fun v92 wr => ∃ p : Nat, v92 = .int .i64 p ∧ p ≤ 3 ∧ Hid (∀ q, q < p → okQ s (fI xs) (F3 ps) (ixs pre) c q) ∧ Hid (CkM w wr X a1 n1 c1 a2 n2 c2 a3 n3 c3 a4 n4 c4 a5 n5 c5 s (some ⟨bP, oP, none⟩) n1 cP ps T G (foP s (fI xs) (F3 ps) (ixs pre) c p)) ∧ Hid (Own wr Y 50 11 (cndF g)) ∧ Hid (Mod (fun j => j = G) W1 wr)) (fun v92 _ => (3 - intOf v92).toNat)
        case atStart => exact ⟨0, by go_num, by omega, Lib.hid (fun q hq => by omega), HMr, HOY2, HMD⟩
        case round =>
          clear HMr HOY2 HMD
          obtain ⟨p, rfl, hp, HOKQ, HMr, HOY, HMD⟩ := hrel
          by_cases hlp : p < 3
          · have hlpz : (p : Int) < 3 := by omega
            have hix : (Instr.index 51 (.agg #[.int .i64 r.1, .int .i64 r.2.1, .int .i64 r.2.2]) (.int .i64 (p : Nat))).run Tryz.prog wr = .ok (.int .i64 (F3 ps (c * 3 + p))) wr := idx_row3 hlp (HF.out p hlp) wr
            have t0 := HMr.out.kt
            have t1 : wr.cell? ⟨G, c * 3 + p, none⟩ = some (.int .i64 (foC s (fI xs) (F3 ps) (ixs pre) (c * 3 + p))) := by rw [← foP_at s (fI xs) (F3 ps) (ixs pre) c c p hlp]; exact HMr.out.og.cell (i := c * 3 + p) (by omega)
            have HOQ : Hid (okQ s (fI xs) (F3 ps) (ixs pre) c p ↔ (foC s (fI xs) (F3 ps) (ixs pre) (c * 3 + p) ≤ F3 ps (c * 3 + p) ∧ F3 ps (c * 3 + p) ≤ lv)) := Lib.hid (by rw [HLV.out]; exact Iff.rfl)
            have HOB : Hid (okQ s (fI xs) (F3 ps) (ixs pre) c p → 0 ≤ F3 ps (c * 3 + p) ∧ F3 ps (c * 3 + p) ≤ 1000) := Lib.hid (okQ_bd HOK.out HQ.out.2)
            have HUPS : Hid (∀ u : Nat, g.up = (u : Int) → ∀ j, foP s (fI xs) (F3 ps) (ixs pre) c (p + 1) j = if j = u * 3 + p then foP s (fI xs) (F3 ps) (ixs pre) c p (u * 3 + p) + F3 ps (c * 3 + p) else foP s (fI xs) (F3 ps) (ixs pre) c p j) := Lib.hid (fun u hu => foP_up (HUP.out.trans hu) hlp)
            have hx : ∃ x, x = F3 ps (c * 3 + p) := ⟨_, rfl⟩
            obtain ⟨x, hx⟩ := hx
            have hfy : ∃ fy, fy = foC s (fI xs) (F3 ps) (ixs pre) (c * 3 + p) := ⟨_, rfl⟩
            obtain ⟨fy, hfy⟩ := hfy
            rw [← hx] at hix HOQ HOB HUPS
            rw [← hfy] at t1 HOQ
            clear hx hfy
            have HBAD : Hid (¬ okQ s (fI xs) (F3 ps) (ixs pre) c p → KeepsFrom w5.heap.size W1 (wr.setCell ⟨X + 2, 0, none⟩ (.bool false)) ∧ Hid (BadQ s (fI xs) (F3 ps) (pre ++ [(⟨c, hc⟩ : BkAt s.cons)])) ∧ Own (wr.setCell ⟨X + 2, 0, none⟩ (.bool false)) (X + 2) 4 1 (fun _ => .bool false) ∧ Below w.heap.size w (wr.setCell ⟨X + 2, 0, none⟩ (.bool false))) := Lib.hid (fun hn => by
              have hm : Mod (fun j => j = G ∨ j = X + 2) W1 (wr.setCell ⟨X + 2, 0, none⟩ (.bool false)) := (HMD.out.mono (fun j _ h => .inl h)).setCell (p := ⟨X + 2, 0, none⟩) (.inl (.inr rfl)) _
              have hz := HZ5.out
              exact ⟨keepsFrom_low hm _ (fun k hk => by rcases hk with hk | hk <;> omega), Lib.hid ⟨pre, ⟨c, hc⟩, p, rfl, hlp, hn⟩, HFALSE.out wr HMr.out.or_ HMr.out.lw.bel⟩)
            have c6 := HMr.out.or_.cell (i := 0) (by omega)
            have f6 := HMr.out.or_.frozen 0
            by_cases h1 : x < fy
            · have HP2 := Lib.hid (HBAD.out (fun h => by have := (HOQ.out.1 h).1; omega))
              clear HBAD
              gi_wp2
              exact ⟨HP2.out.1, rfl, HP2.out.2⟩
            by_cases h2 : lv < x
            · have HP2 := Lib.hid (HBAD.out (fun h => by have := (HOQ.out.1 h).2; omega))
              clear HBAD
              gi_wp2
              exact ⟨HP2.out.1, rfl, HP2.out.2⟩
            have hoq : okQ s (fI xs) (F3 ps) (ixs pre) c p := HOQ.out.2 ⟨by omega, by omega⟩
            have HOKQ2 : Hid (∀ q, q < p + 1 → okQ s (fI xs) (F3 ps) (ixs pre) c q) := Lib.hid (fun q hq => by
              by_cases e : q = p
              · rw [e]; exact hoq
              · exact HOKQ.out q (by omega))
            have hxb := HOB.out hoq
            clear hoq HBAD HOQ HOB c6 f6 HOKQ
            have y1 : wr.cell? ⟨Y, 1, none⟩ = some (.int .i64 g.up) := HOY.out.cell (i := 1) (by omega)
            by_cases h3 : 0 ≤ g.up
            · obtain ⟨u, hu⟩ := Int.eq_ofNat_of_zero_le h3
              rw [hu] at y1 h3
              have huz : (u : Int) < (n1 : Int) := by omega
              have HUPu := Lib.hid (HUPS.out u hu)
              clear HUPS
              have hbd := HQ.out.2 (u * 3 + p)
              have hpre : pre.length ≤ 16 := by omega
              have q0 := HMr.out.kt
              have q2 : wr.cell? ⟨G, u * 3 + p, none⟩ = some (.int .i64 (foC s (fI xs) (F3 ps) (ixs pre) (u * 3 + p))) := by rw [← foP_at s (fI xs) (F3 ps) (ixs pre) c u p hlp]; exact HMr.out.og.cell (i := u * 3 + p) (by omega)
              have HFZ : Hid (wr.drew.frozen? ⟨G, u * 3 + p, none⟩ = false) := Lib.hid (HMr.out.og.drew.frozen _)
              have hYG : Y ≠ G := own_ne HOY.out HMr.out.og (by decide)
              have HCn : Hid (CkM w (wr.drew.setCell ⟨G, u * 3 + p, none⟩ (.int .i64 (foC s (fI xs) (F3 ps) (ixs pre) (u * 3 + p) + x))) X a1 n1 c1 a2 n2 c2 a3 n3 c3 a4 n4 c4 a5 n5 c5 s (some ⟨bP, oP, none⟩) n1 cP ps T G (foP s (fI xs) (F3 ps) (ixs pre) c (p + 1))) := Lib.hid ((HMr.out.keep (below_drew wr)).set HS.out HPS.out (by have := HSZ.out; omega) (u * 3 + p) _ (fun j _ => by
                rw [HUPu.out, foP_at s (fI xs) (F3 ps) (ixs pre) c u p hlp]))
              have HYn : Hid (Own (wr.drew.setCell ⟨G, u * 3 + p, none⟩ (.int .i64 (foC s (fI xs) (F3 ps) (ixs pre) (u * 3 + p) + x))) Y 50 11 (cndF g)) := Lib.hid (HOY.out.drew.other (p := ⟨G, u * 3 + p, none⟩) hYG _)
              have HMn : Hid (Mod (fun j => j = G) W1 (wr.drew.setCell ⟨G, u * 3 + p, none⟩ (.int .i64 (foC s (fI xs) (F3 ps) (ixs pre) (u * 3 + p) + x)))) := Lib.hid (HMD.out.drew.setCell (p := ⟨G, u * 3 + p, none⟩) (.inl rfl) _)
              have hG3 : T ≠ G := hGT.out
              generalize foC s (fI xs) (F3 ps) (ixs pre) (u * 3 + p) = y at *
              have hlen2 : ((ixs pre).length : Int) ≤ 16 := by unfold ixs; rw [List.length_map]; omega
              have hsum : IntKind.i64.wrap (y + x) = y + x := IntWalk.i64_in _ (by omega)
              clear HUPu HOY HMr HMD hbd
              gi_wp2
              refine region_round_z (S := fun w' => w'.cell? ⟨T, 0, none⟩ = some (.slice (some ⟨G, 0, none⟩) n1 n1) ∧ w'.cell? ⟨Y, 1, none⟩ = some (.int .i64 (u : Nat)) ∧ w'.cell? ⟨G, u * 3 + p, none⟩ = some (.int .i64 y)) [11] (by kernel_rfl) (by kernel_rfl) ⟨q0, y1, q2⟩ (fun hHeld => ?_)
              clear q0 q2 y1 t0 t1
              refine wpAnyZ_take (i := 0) (v := .slice (some ⟨G, 0, none⟩) n1 n1) [4, 5, 6, 8, 9, 10, 11] rfl (by kernel_rfl) (by kernel_rfl) (by kernel_rfl) (by kernel_rfl) (fun _ _ _ h => absurd h.1 (by simp)) (Or.inl ⟨by kernel_rfl, fun w' hSw => ?_⟩) hHeld ?_
              · have s0 := hSw.1
                have s1 := hSw.2.1
                have s2 := hSw.2.2
                clear hHeld hSw
                go_simp
              simp only [Act.put, List.getElem_toArray, List.getElem_cons_zero, List.getElem_cons_succ, List.setIfInBounds_toArray, List.set_cons_zero, List.set_cons_succ]
              refine wpAnyZ_take (i := 1) (v := .pointer (some ⟨Y, 1, none⟩)) [2, 4, 5, 6, 8, 9, 10, 11] rfl (by kernel_rfl) (by kernel_rfl) (by kernel_rfl) (by kernel_rfl) (fun _ _ _ h => absurd h.1 (by simp)) (Or.inl ⟨by kernel_rfl, fun w' hSw => ?_⟩) hHeld ?_
              · have s0 := hSw.1
                have s1 := hSw.2.1
                have s2 := hSw.2.2
                clear hHeld hSw
                go_simp
              simp only [Act.put, List.getElem_toArray, List.getElem_cons_zero, List.getElem_cons_succ, List.setIfInBounds_toArray, List.set_cons_zero, List.set_cons_succ]
              refine wpAnyZ_take (i := 2) (v := .int .i64 (u : Nat)) [4, 5, 6, 8, 9, 10, 11] rfl (by kernel_rfl) (by kernel_rfl) (by kernel_rfl) (by kernel_rfl) (fun _ _ _ h => absurd h.1 (by simp)) (Or.inl ⟨by kernel_rfl, fun w' hSw => ?_⟩) hHeld ?_
              · have s0 := hSw.1
                have s1 := hSw.2.1
                have s2 := hSw.2.2
                clear hHeld hSw
                go_simp
              simp only [Act.put, List.getElem_toArray, List.getElem_cons_zero, List.getElem_cons_succ, List.setIfInBounds_toArray, List.set_cons_zero, List.set_cons_succ]
              refine wpAnyZ_take (i := 3) (v := .int .i64 (p : Nat)) [5, 6, 8, 10, 11] rfl (by kernel_rfl) (by kernel_rfl) (by kernel_rfl) (by kernel_rfl) (fun _ _ _ h => absurd h.1 (by simp)) (Or.inl ⟨by kernel_rfl, fun w' hSw => ?_⟩) hHeld ?_
              · have s0 := hSw.1
                have s1 := hSw.2.1
                have s2 := hSw.2.2
                clear hHeld hSw
                go_simp
              simp only [Act.put, List.getElem_toArray, List.getElem_cons_zero, List.getElem_cons_succ, List.setIfInBounds_toArray, List.set_cons_zero, List.set_cons_succ]
              refine wpAnyZ_take (i := 4) (v := .pointer (some ⟨G, u * 3, none⟩)) [5, 6, 8, 11] rfl (by kernel_rfl) (by kernel_rfl) (by kernel_rfl) (by kernel_rfl) (fun _ _ _ h => absurd h.1 (by simp)) (Or.inl ⟨by kernel_rfl, fun w' hSw => ?_⟩) hHeld ?_
              · have s0 := hSw.1
                have s1 := hSw.2.1
                have s2 := hSw.2.2
                clear hHeld hSw
                go_simp
              simp only [Act.put, List.getElem_toArray, List.getElem_cons_zero, List.getElem_cons_succ, List.setIfInBounds_toArray, List.set_cons_zero, List.set_cons_succ]
              refine wpAnyZ_take (i := 5) (v := .pointer (some ⟨G, u * 3 + p, none⟩)) [6, 8, 11] rfl (by kernel_rfl) (by kernel_rfl) (by kernel_rfl) (by kernel_rfl) (fun _ _ _ h => absurd h.1 (by simp)) (Or.inl ⟨by kernel_rfl, fun w' hSw => ?_⟩) hHeld ?_
              · have s0 := hSw.1
                have s1 := hSw.2.1
                have s2 := hSw.2.2
                clear hHeld hSw
                go_simp
              simp only [Act.put, List.getElem_toArray, List.getElem_cons_zero, List.getElem_cons_succ, List.setIfInBounds_toArray, List.set_cons_zero, List.set_cons_succ]
              refine wpAnyZ_take (i := 6) (v := .int .i64 y) [8, 11] rfl (by kernel_rfl) (by kernel_rfl) (by kernel_rfl) (by kernel_rfl) (fun _ _ _ h => absurd h.1 (by simp)) (Or.inl ⟨by kernel_rfl, fun w' hSw => ?_⟩) hHeld ?_
              · have s0 := hSw.1
                have s1 := hSw.2.1
                have s2 := hSw.2.2
                clear hHeld hSw
                go_simp
              simp only [Act.put, List.getElem_toArray, List.getElem_cons_zero, List.getElem_cons_succ, List.setIfInBounds_toArray, List.set_cons_zero, List.set_cons_succ]
              refine wpAnyZ_take (i := 7) (v := .int .i64 x) [8, 11] rfl (by kernel_rfl) (by kernel_rfl) (by kernel_rfl) (by kernel_rfl) (fun _ _ _ h => absurd h.1 (by simp)) (Or.inl ⟨by kernel_rfl, fun w' hSw => ?_⟩) hHeld ?_
              · have s0 := hSw.1
                have s1 := hSw.2.1
                have s2 := hSw.2.2
                clear hHeld hSw
                go_simp
              simp only [Act.put, List.getElem_toArray, List.getElem_cons_zero, List.getElem_cons_succ, List.setIfInBounds_toArray, List.set_cons_zero, List.set_cons_succ]
              refine wpAnyZ_take (i := 8) (v := .int .i64 (y + x)) [11] rfl (by kernel_rfl) (by kernel_rfl) (by kernel_rfl) (by kernel_rfl) (fun _ _ _ h => absurd h.1 (by simp)) (Or.inl ⟨by kernel_rfl, fun w' hSw => ?_⟩) hHeld ?_
              · have s0 := hSw.1
                have s1 := hSw.2.1
                have s2 := hSw.2.2
                clear hHeld hSw
                go_simp
              simp only [Act.put, List.getElem_toArray, List.getElem_cons_zero, List.getElem_cons_succ, List.setIfInBounds_toArray, List.set_cons_zero, List.set_cons_succ]
              refine wpAnyZ_take (i := 9) (v := .pointer (some ⟨G, u * 3, none⟩)) [10, 11] rfl (by kernel_rfl) (by kernel_rfl) (by kernel_rfl) (by kernel_rfl) (fun _ _ _ h => absurd h.1 (by simp)) (Or.inl ⟨by kernel_rfl, fun w' hSw => ?_⟩) hHeld ?_
              · have s0 := hSw.1
                have s1 := hSw.2.1
                have s2 := hSw.2.2
                clear hHeld hSw
                go_simp
              simp only [Act.put, List.getElem_toArray, List.getElem_cons_zero, List.getElem_cons_succ, List.setIfInBounds_toArray, List.set_cons_zero, List.set_cons_succ]
              refine wpAnyZ_take (i := 10) (v := .pointer (some ⟨G, u * 3 + p, none⟩)) [11] rfl (by kernel_rfl) (by kernel_rfl) (by kernel_rfl) (by kernel_rfl) (fun _ _ _ h => absurd h.1 (by simp)) (Or.inl ⟨by kernel_rfl, fun w' hSw => ?_⟩) hHeld ?_
              · have s0 := hSw.1
                have s1 := hSw.2.1
                have s2 := hSw.2.2
                clear hHeld hSw
                go_simp
              simp only [Act.put, List.getElem_toArray, List.getElem_cons_zero, List.getElem_cons_succ, List.setIfInBounds_toArray, List.set_cons_zero, List.set_cons_succ]
              refine wpAnyZ_last (i := 11) (by kernel_rfl) rfl (by kernel_rfl) (fun K' hK => ?_)
              obtain ⟨s0, s1, s2⟩ := hHeld
              have hf := HFZ.out
              go_simp
              refine hK.out _ _ ?_
              clear hK K' hf s0 s1 s2
              try simp only [Act.put, List.getElem_toArray, List.getElem_cons_zero, List.getElem_cons_succ, List.setIfInBounds_toArray, List.set_cons_zero, List.set_cons_succ]
              refine wpAnyZ_done (by kernel_rfl) ⟨rfl, ?_⟩ _
              gi_wp2
              go_roundw
              case rel => exact ⟨p + 1, by go_num, by omega, HOKQ2, HCn, HYn, HMn⟩
              case measure => (simp [intOf]; try omega)
            · have hupn : ¬ 0 ≤ g.up := h3
              have HC2 : Hid (CkM w wr X a1 n1 c1 a2 n2 c2 a3 n3 c3 a4 n4 c4 a5 n5 c5 s (some ⟨bP, oP, none⟩) n1 cP ps T G (foP s (fI xs) (F3 ps) (ixs pre) c (p + 1))) := Lib.hid (by
                rw [show foP s (fI xs) (F3 ps) (ixs pre) c (p + 1) = foP s (fI xs) (F3 ps) (ixs pre) c p from funext (foP_root (by rw [HUP.out]; omega))]
                exact HMr.out)
              clear HUPS
              gi_wp2
              go_roundw
              case rel => exact ⟨p + 1, by go_num, by omega, HOKQ2, HC2, HOY, HMD⟩
              case measure => (simp [intOf]; try omega)
          · have hlpz : ¬ (p : Int) < 3 := by omega
            have hp3 : p = 3 := by omega
            subst hp3
            have HP2 : Hid (KeepsFrom w5.heap.size W1 wr ∧ KpW w.heap.size bs W1 wr ∧ Hid (allQ s (fI xs) (F3 ps) (ixs (pre ++ [(⟨c, hc⟩ : BkAt s.cons)])) ∧ bdQ s (fI xs) (F3 ps) (ixs (pre ++ [(⟨c, hc⟩ : BkAt s.cons)]))) ∧ CkM w wr X a1 n1 c1 a2 n2 c2 a3 n3 c3 a4 n4 c4 a5 n5 c5 s (some ⟨bP, oP, none⟩) n1 cP ps T G (foC s (fI xs) (F3 ps) (ixs (pre ++ [(⟨c, hc⟩ : BkAt s.cons)]))) ∧ wr.cell? ⟨bs, 0, none⟩ = some (.slice a1 n1 c1)) := Lib.hid (by
              have hz := HZ5.out
              have hz2 := HSZ.out
              rw [ixs_snoc]
              refine ⟨keepsFrom_low HMD.out _ (fun k hk => by omega), ⟨HMD.out.below HM.out.lw.bel.size (fun j _ h => by have := HM.out.ne.1; omega), HMD.out.block bs (World.block_lt_of_cell? _ _ HBS.out) (by omega)⟩, Lib.hid ⟨allQ_snoc HQ.out.1 HOKQ.out, bdQ_snoc HOK.out HQ.out.2 HOKQ.out⟩, ?_, (HMD.out.cell (p := ⟨bs, 0, none⟩) (World.block_lt_of_cell? _ _ HBS.out) (by dsimp only; omega)).trans HBS.out⟩
              have h := HMr.out
              rw [show foP s (fI xs) (F3 ps) (ixs pre) c 3 = foC s (fI xs) (F3 ps) (ixs pre ++ [c]) from funext (foP_three _ _ _ _ _)] at h
              exact h)
            gi_wp2
            exact HP2.out
      case done =>
        intro D ys W1 hD hS hi hdf
        obtain ⟨hq, m, hb0⟩ := hi
        have HY : Hid (prB s xs ps = true) := Lib.hid (prB_yes HLB.out (by rw [HNP.out, HCL.out]) (okPr_all HOK.out hS.1 (by rw [hS.2, HCL.out]) hq.out.1))
        have c6 := m.or_.cell (i := 0) (by omega)
        have f6 := m.or_.frozen 0
        have hm : Mod (fun j => j = X + 2) W1 (W1.setCell ⟨X + 2, 0, none⟩ (.bool true)) := (show Mod (fun j => j = X + 2) W1 W1 from Mod.refl _ W1).setCell (p := ⟨X + 2, 0, none⟩) (.inl rfl) _
        have hz := HZ5.out
        have hzz := HSZ.out
        have HR : Hid (Own (W1.setCell ⟨X + 2, 0, none⟩ (.bool true)) (X + 2) 4 1 (fun _ => .bool true) ∧ Below w.heap.size w (W1.setCell ⟨X + 2, 0, none⟩ (.bool true))) := Lib.hid ⟨m.or_.set1 _, m.lw.bel.setCell (p := ⟨X + 2, 0, none⟩) (by show w.heap.size ≤ X + 2; omega) _⟩
        have HMK : Hid (Marks (X + 3) (W1.setCell ⟨X + 2, 0, none⟩ (.bool true)) [{ target := .collected D, args := #[] }]) := Lib.hid ⟨[D], rfl, by simp, fun D' hD' => by
          have e : D' = D := by simpa using hD'
          subst e
          have hdl := (Array.getElem?_eq_some_iff.1 hdf).1
          exact ⟨by omega, Nat.lt_of_lt_of_le hdl hm.size, (hm.block D' hdl (by omega)).trans hdf⟩⟩
        clear m hq hb0 hS hdf hm hz hzz
        go_wp2_with fail
        refine leaves_marks (B := X + 3) _ _ HMK.out (fun W3 hT => ⟨_, results_c1 (a := 6) (ty := 4) (b := X + 2) (by kernel_rfl) rfl (load_boolP (HR.out.1.takenH hT)), by rw [HY.out], HR.out.2.trans (taken_below1 hT (by have := HSZ.out; omega))⟩)
      case stop =>
        intro D c pre W1 hD hS hi hdf
        obtain ⟨rfl, hq, hr1, hr2⟩ := hi
        have HN : Hid (prB s xs ps = false) := Lib.hid (prB_no (fun h => by
          obtain ⟨q, y, p, rfl, hp, hbad⟩ := hq.out
          exact okPr_not HOK.out hS hp hbad h.2.2))
        have HR := Lib.hid (And.intro hr1 hr2)
        have HMK : Hid (Marks (X + 3) W1 [{ target := .collected D, args := #[] }]) := Lib.hid ⟨[D], rfl, by simp, fun D' hD' => by
          have e : D' = D := by simpa using hD'
          subst e
          have hz := HZ5.out
          exact ⟨by omega, (Array.getElem?_eq_some_iff.1 hdf).1, hdf⟩⟩
        clear hr1 hr2 hS hdf hq
        refine wpIn_wide.2 ?_
        go_wp2_with fail
        refine leaves_marks (B := X + 3) _ _ HMK.out (fun W3 hT => ⟨_, results_c1 (a := 6) (ty := 4) (b := X + 2) (by kernel_rfl) rfl (load_boolP (HR.out.1.takenH hT)), by rw [HN.out], HR.out.2.trans (taken_below1 hT (by have := HSZ.out; omega))⟩)
end Go.Proofs.YtbjmpfchapggfaaGreat
