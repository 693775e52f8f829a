/-
LimitsDerating, walked.
-/
import Derived.Test.YtbalhbpaholakaaCLimS
import Derived.Test.YtbalhbpaholakaaCLimT0
import Derived.Test.YtbalhbpaholakaaCOwnW
import Derived.Test.YtbalhbpaholakaaCOpenA
namespace Go.Proofs.Ytbalhbpaholakaa
open Go.RowKit
set_option linter.unusedVariables false
set_option linter.unusedSimpArgs false
/-- The memory of LimitsDerating: the site, the other site in box Y, its conductors in block g, the numbers in box B. -/
structure DrM (w W : World) (X : Nat) (a1 : Option Addr) (n1 c1 : Nat) (a2 : Option Addr) (n2 c2 : Nat) (a3 : Option Addr) (n3 c3 : Nat) (a4 : Option Addr) (n4 c4 : Nat) (a5 : Option Addr) (n5 c5 : Nat) (s : GSite) (Y g cY N : Nat) (F : Nat → Value) (B : Nat) (x0 x1 x2 : Int) : Prop where
  lw : LwM w W X a1 n1 c1 a2 n2 c2 a3 n3 c3 a4 n4 c4 a5 n5 c5 s
  yy : W.cell? ⟨Y, 0, none⟩ = some (.slice (some ⟨g, 0, none⟩) n1 cY) ∧ W.cell? ⟨Y, 1, none⟩ = some (.slice a2 n2 c2) ∧ W.cell? ⟨Y, 2, none⟩ = some (.slice a3 n3 c3) ∧ W.cell? ⟨Y, 3, none⟩ = some (.slice a4 n4 c4) ∧ W.cell? ⟨Y, 4, none⟩ = some (.slice a5 n5 c5)
  ow : Own W g 55 N F
  bb : W.cell? ⟨B, 0, none⟩ = some (.int .u8 x0) ∧ W.cell? ⟨B, 1, none⟩ = some (.int .u8 x1) ∧ W.cell? ⟨B, 2, none⟩ = some (.int .u8 x2)
  ne : X ≠ g ∧ Y ≠ g ∧ B ≠ g ∧ w.heap.size ≤ g
theorem DrM.keep {w W W' : World} {X : Nat} {a1 : Option Addr} {n1 c1 : Nat} {a2 : Option Addr} {n2 c2 : Nat} {a3 : Option Addr} {n3 c3 : Nat} {a4 : Option Addr} {n4 c4 : Nat} {a5 : Option Addr} {n5 c5 : Nat} {s : GSite} {Y g cY N : Nat} {F : Nat → Value} {B : Nat} {x0 x1 x2 : Int} (h : DrM w W X a1 n1 c1 a2 n2 c2 a3 n3 c3 a4 n4 c4 a5 n5 c5 s Y g cY N F B x0 x1 x2) (hb : Below W.heap.size W W') : DrM w W' X a1 n1 c1 a2 n2 c2 a3 n3 c3 a4 n4 c4 a5 n5 c5 s Y g cY N F B x0 x1 x2 := by
  have ly := World.block_lt_of_cell? W _ h.yy.1
  have lb := World.block_lt_of_cell? W _ h.bb.1
  exact ⟨h.lw.keep hb, ⟨(hb.cell (p := ⟨Y, 0, none⟩) ly).trans h.yy.1, (hb.cell (p := ⟨Y, 1, none⟩) ly).trans h.yy.2.1, (hb.cell (p := ⟨Y, 2, none⟩) ly).trans h.yy.2.2.1, (hb.cell (p := ⟨Y, 3, none⟩) ly).trans h.yy.2.2.2.1, (hb.cell (p := ⟨Y, 4, none⟩) ly).trans h.yy.2.2.2.2⟩, h.ow.keep hb h.ow.lt, ⟨(hb.cell (p := ⟨B, 0, none⟩) lb).trans h.bb.1, (hb.cell (p := ⟨B, 1, none⟩) lb).trans h.bb.2.1, (hb.cell (p := ⟨B, 2, none⟩) lb).trans h.bb.2.2⟩, h.ne⟩
theorem DrM.set {w W : World} {X : Nat} {a1 : Option Addr} {n1 c1 : Nat} {a2 : Option Addr} {n2 c2 : Nat} {a3 : Option Addr} {n3 c3 : Nat} {a4 : Option Addr} {n4 c4 : Nat} {a5 : Option Addr} {n5 c5 : Nat} {s : GSite} {Y g cY N : Nat} {F : Nat → Value} {B : Nat} {x0 x1 x2 : Int} (h : DrM w W X a1 n1 c1 a2 n2 c2 a3 n3 c3 a4 n4 c4 a5 n5 c5 s Y g cY N F B x0 x1 x2) (hw : RdSite w a1 a2 a3 a4 a5 n1 n2 n3 n4 n5 s) (i : Nat) (u : Value) : DrM w (W.setCell ⟨g, i, none⟩ u) X a1 n1 c1 a2 n2 c2 a3 n3 c3 a4 n4 c4 a5 n5 c5 s Y g cY N (fun j => if j = i then u else F j) B x0 x1 x2 := by
  have hm : Mod (fun j => j = g) W (W.setCell ⟨g, i, none⟩ u) := (show Mod (fun j => j = g) W W from Mod.refl _ W).setCell (p := ⟨g, i, none⟩) (.inl rfl) u
  have ly := World.block_lt_of_cell? W _ h.yy.1
  have lb := World.block_lt_of_cell? W _ h.bb.1
  obtain ⟨n1, n2, n3, n4⟩ := h.ne
  exact ⟨h.lw.mod hw hm n1 (fun k hk => by omega), ⟨(hm.cell (p := ⟨Y, 0, none⟩) ly n2).trans h.yy.1, (hm.cell (p := ⟨Y, 1, none⟩) ly n2).trans h.yy.2.1, (hm.cell (p := ⟨Y, 2, none⟩) ly n2).trans h.yy.2.2.1, (hm.cell (p := ⟨Y, 3, none⟩) ly n2).trans h.yy.2.2.2.1, (hm.cell (p := ⟨Y, 4, none⟩) ly n2).trans h.yy.2.2.2.2⟩, h.ow.set i u, ⟨(hm.cell (p := ⟨B, 0, none⟩) lb n3).trans h.bb.1, (hm.cell (p := ⟨B, 1, none⟩) lb n3).trans h.bb.2.1, (hm.cell (p := ⟨B, 2, none⟩) lb n3).trans h.bb.2.2⟩, h.ne⟩
/-- What the conductors' cells hold. -/
def HoldsC (F : Nat → Value) (cs : List GCon) : Prop := ∀ k x j u, cs[k]? = some x → (encCon x)[j]? = some u → F (k * 11 + j) = u
theorem HoldsC.set {F : Nat → Value} {cs : List GCon} (h : HoldsC F cs) {k : Nat} {c c' : GCon} (hk : cs[k]? = some c) {j : Nat} (hj : j < 11) {u : Value} (hu : (encCon c')[j]? = some u) (ho : ∀ i, i ≠ j → (encCon c')[i]? = (encCon c)[i]?) : HoldsC (fun i => if i = k * 11 + j then u else F i) (cs.set k c') := by
  intro m x i v hx hv
  have hi : i < 11 := by rw [← encCon_len x]; exact (List.getElem?_eq_some_iff.1 hv).1
  have hkl := (List.getElem?_eq_some_iff.1 hk).1
  by_cases e : m = k
  · subst e
    rw [List.getElem?_set_self hkl] at hx
    injection hx with hx
    subst hx
    by_cases e2 : i = j
    · subst e2
      rw [hu] at hv
      injection hv with hv
      show (if m * 11 + i = m * 11 + i then u else F (m * 11 + i)) = v
      rw [if_pos rfl, hv]
    · show (if m * 11 + i = m * 11 + j then u else F (m * 11 + i)) = v
      rw [if_neg (by omega)]
      rw [ho i e2] at hv
      exact h m c i v hk hv
  · rw [List.getElem?_set_ne (fun x => e x.symm)] at hx
    show (if m * 11 + i = k * 11 + j then u else F (m * 11 + i)) = v
    rw [if_neg (by omega)]
    exact h m x i v hx hv
theorem HoldsC.rd {W : World} {g N : Nat} {F : Nat → Value} {cs : List GCon} (h : HoldsC F cs) (ho : Own W g 55 N F) (hn : cs.length * 11 ≤ N) : Rd 11 encCon W (some ⟨g, 0, none⟩) cs := ho.rd hn encCon_len (fun k x hx j u hu => h k x j u hx hu)
theorem HoldsC.set2 {F : Nat → Value} {cs : List GCon} {k : Nat} {c' : GCon} (h : HoldsC F (cs.set k c')) {c'' : GCon} (hk : k < cs.length) {j : Nat} (hj : j < 11) {u : Value} (hu : (encCon c'')[j]? = some u) (ho : ∀ i, i ≠ j → (encCon c'')[i]? = (encCon c')[i]?) : HoldsC (fun i => if i = k * 11 + j then u else F i) (cs.set k c'') := by
  have h1 := h.set (k := k) (c := c') (c' := c'') (List.getElem?_set_self hk) hj hu ho
  rw [List.set_set] at h1
  exact h1
theorem rdSite_set {W : World} {A a1 a2 a3 a4 a5 : Option Addr} {n1 n2 n3 n4 n5 : Nat} {s : GSite} {k : Nat} {c : GCon} (h : RdSite W a1 a2 a3 a4 a5 n1 n2 n3 n4 n5 s) (hr : Rd 11 encCon W A (s.cons.set k c)) (hn : ∀ g, s.cons[k]? = some g → c.name = g.name) : RdSite W A a2 a3 a4 a5 n1 n2 n3 n4 n5 (setS s k c) := by
  refine ⟨hr, h.r2, h.r3, h.r4, h.r5, ?_, h.l2, h.l3, h.l4, h.l5, h.m1, h.m2, h.m3, h.m4, h.m5, ?_⟩
  · show (s.cons.set k c).length = n1
    rw [List.length_set]; exact h.l1
  · intro x hx
    have e : allNames (setS s k c) = allNames s := by
      unfold allNames setS
      dsimp only
      congr 4
      apply List.ext_getElem?
      intro i
      rw [List.getElem?_map, List.getElem?_map]
      by_cases hi : i = k
      · subst hi
        by_cases hl : i < s.cons.length
        · rw [List.getElem?_set_self hl, List.getElem?_eq_getElem hl]
          show some c.name = some _
          rw [hn _ (List.getElem?_eq_getElem hl)]
        · rw [List.getElem?_eq_none (by rw [List.length_set]; omega), List.getElem?_eq_none (by omega)]
      · rw [List.getElem?_set_ne (fun x => hi x.symm)]
    rw [e] at hx
    exact h.nm x hx
set_option maxRecDepth 100000 in
set_option maxHeartbeats 16000000 in
theorem walk_LimitsDerating (a1 : Option Addr) (n1 c1 : Nat) (a2 : Option Addr) (n2 c2 : Nat) (a3 : Option Addr) (n3 c3 : Nat) (a4 : Option Addr) (n4 c4 : Nat) (a5 : Option Addr) (n5 c5 : Nat) (s : GSite) {w : World} (HS : Hid (RdSite w a1 a2 a3 a4 a5 n1 n2 n3 n4 n5 s)) (_ : WfSite s) (which : Int) (hwf : (Lit.int .i64 which).wf = true) (x0 x1 x2 : Int) (h0 : 0 ≤ x0 ∧ x0 ≤ 255) (h1 : 0 ≤ x1 ∧ x1 ≤ 255) (h2 : 0 ≤ x2 ∧ x2 ≤ 255) :
    Calls Try.prog 5 #[.agg #[.slice a1 n1 c1, .slice a2 n2 c2, .slice a3 n3 c3, .slice a4 n4 c4, .slice a5 n5 c5], .int .i64 which, .agg #[.int .u8 x0, .int .u8 x1, .int .u8 x2]] w fun e w' => e = .returned (.bool true) ∧ Below w.heap.size w w' := by
  have HB0 := Lib.hid h0
  have HB1 := Lib.hid h1
  have HB2 := Lib.hid h2
  obtain ⟨W0, hW0⟩ : ∃ W0, W0 = (w.alloc (.cells #[.slice a1 n1 c1, .slice a2 n2 c2, .slice a3 n3 c3, .slice a4 n4 c4, .slice a5 n5 c5] 28)).alloc (.cells #[.int .u8 x0, .int .u8 x1, .int .u8 x2] 48) := ⟨_, rfl⟩
  have hm0 : LwM w W0 w.heap.size a1 n1 c1 a2 n2 c2 a3 n3 c3 a4 n4 c4 a5 n5 c5 s := by
    rw [hW0]
    exact (LwM.box (c1 := c1) (c2 := c2) (c3 := c3) (c4 := c4) (c5 := c5) HS.out).keep ((Below.refl _ _).alloc (Nat.le_refl _) _)
  have hbx : W0.cell? ⟨w.heap.size + 1, 0, none⟩ = some (.int .u8 x0) ∧ W0.cell? ⟨w.heap.size + 1, 1, none⟩ = some (.int .u8 x1) ∧ W0.cell? ⟨w.heap.size + 1, 2, none⟩ = some (.int .u8 x2) := by
    rw [hW0]
    exact ⟨by go_simp, by go_simp, by go_simp⟩
  have HW0 := Lib.hid hW0
  clear h0 h1 h2 hW0
  go_enter Try.func5, Try.ntmps5
  go_wp2_with fail
  rw [← HW0.out]
  generalize hXX : w.heap.size = X at hm0 hbx ⊢
  have HSZ := Lib.hid hXX
  refine (lhHead_any _).mono ?_
  rintro e w1 ⟨rfl, hb⟩
  have lB := World.block_lt_of_cell? W0 _ hbx.1
  have HM := Lib.hid (hm0.keep hb)
  have HBX : Hid (w1.cell? ⟨X + 1, 0, none⟩ = some (.int .u8 x0) ∧ w1.cell? ⟨X + 1, 1, none⟩ = some (.int .u8 x1) ∧ w1.cell? ⟨X + 1, 2, none⟩ = some (.int .u8 x2)) := Lib.hid ⟨(hb.cell (p := ⟨X + 1, 0, none⟩) lB).trans hbx.1, (hb.cell (p := ⟨X + 1, 1, none⟩) lB).trans hbx.2.1, (hb.cell (p := ⟨X + 1, 2, none⟩) lB).trans hbx.2.2⟩
  have hlX : X < w1.heap.size := World.block_lt_of_cell? w1 _ HM.out.k0
  clear hb hm0 hbx lB hXX HW0
  obtain ⟨k0, k1, k2, k3, k4⟩ : w1.cell? ⟨X, 0, none⟩ = some (.slice a1 n1 c1) ∧ w1.cell? ⟨X, 1, none⟩ = some (.slice a2 n2 c2) ∧ w1.cell? ⟨X, 2, none⟩ = some (.slice a3 n3 c3) ∧ w1.cell? ⟨X, 3, none⟩ = some (.slice a4 n4 c4) ∧ w1.cell? ⟨X, 4, none⟩ = some (.slice a5 n5 c5) := ⟨HM.out.k0, HM.out.k1, HM.out.k2, HM.out.k3, HM.out.k4⟩
  go_wp2_with fail
  refine (r4Few_any a1 a2 a3 a4 a5 n1 c1 n2 c2 n3 c3 n4 c4 n5 c5 s w1 (Lib.hid HM.out.rs)).mono ?_
  rintro e w2 ⟨rfl, hb⟩
  have lB := World.block_lt_of_cell? w1 _ HBX.out.1
  have HM := Lib.hid (HM.out.keep hb)
  have HBX : Hid (w2.cell? ⟨X + 1, 0, none⟩ = some (.int .u8 x0) ∧ w2.cell? ⟨X + 1, 1, none⟩ = some (.int .u8 x1) ∧ w2.cell? ⟨X + 1, 2, none⟩ = some (.int .u8 x2)) := Lib.hid ⟨(hb.cell (p := ⟨X + 1, 0, none⟩) lB).trans HBX.out.1, (hb.cell (p := ⟨X + 1, 1, none⟩) lB).trans HBX.out.2.1, (hb.cell (p := ⟨X + 1, 2, none⟩) lB).trans HBX.out.2.2⟩
  have hlX : X < w2.heap.size := World.block_lt_of_cell? w2 _ HM.out.k0
  clear hb k0 k1 k2 k3 k4 lB
  obtain ⟨k0, k1, k2, k3, k4⟩ : w2.cell? ⟨X, 0, none⟩ = some (.slice a1 n1 c1) ∧ w2.cell? ⟨X, 1, none⟩ = some (.slice a2 n2 c2) ∧ w2.cell? ⟨X, 2, none⟩ = some (.slice a3 n3 c3) ∧ w2.cell? ⟨X, 3, none⟩ = some (.slice a4 n4 c4) ∧ w2.cell? ⟨X, 4, none⟩ = some (.slice a5 n5 c5) := ⟨HM.out.k0, HM.out.k1, HM.out.k2, HM.out.k3, HM.out.k4⟩
  cases hf : fewS s
  · go_wp2_with fail
    go_ret
    exact ⟨rfl, HM.out.bel⟩
  have hcl : s.cons.length = n1 := HS.out.l1
  have hn40 : n1 ≤ 40 := by
    unfold fewS at hf
    simp only [Bool.and_eq_true, decide_eq_true_eq] at hf
    omega
  have HCL := Lib.hid hcl
  clear hf hcl
  by_cases hn0 : n1 = 0
  · subst hn0
    go_wp2_with fail
    go_ret
    exact ⟨rfl, HM.out.bel⟩
  by_cases hwn : which < 0
  · have hn0z : ¬ (n1 : Int) = 0 := by omega
    clear hn0
    go_wp2_with fail
    go_ret
    exact ⟨rfl, HM.out.bel⟩
  have hn0z : ((n1 : Int) == 0) = false := by simpa using hn0
  have hwz : decide (which < 0) = false := decide_eq_false hwn
  go_wp2_with fail
  obtain ⟨W2, hW2⟩ : ∃ W2, W2 = w2.alloc (.cells #[.slice a1 n1 c1, .slice a2 n2 c2, .slice a3 n3 c3, .slice a4 n4 c4, .slice a5 n5 c5] 28) := ⟨_, rfl⟩
  rw [← hW2]
  have b2 : Below w2.heap.size w2 W2 := by rw [hW2]; exact (Below.refl _ w2).alloc (Nat.le_refl _) _
  have HMY : Hid (W2.cell? ⟨w2.heap.size, 0, none⟩ = some (.slice a1 n1 c1) ∧ W2.cell? ⟨w2.heap.size, 1, none⟩ = some (.slice a2 n2 c2) ∧ W2.cell? ⟨w2.heap.size, 2, none⟩ = some (.slice a3 n3 c3) ∧ W2.cell? ⟨w2.heap.size, 3, none⟩ = some (.slice a4 n4 c4) ∧ W2.cell? ⟨w2.heap.size, 4, none⟩ = some (.slice a5 n5 c5)) := Lib.hid (by rw [hW2]; exact ⟨by go_simp, by go_simp, by go_simp, by go_simp, by go_simp⟩)
  have HOY : Hid (Own W2 w2.heap.size 28 5 (fun i => (#[.slice a1 n1 c1, .slice a2 n2 c2, .slice a3 n3 c3, .slice a4 n4 c4, .slice a5 n5 c5])[i]?.getD undef)) := Lib.hid (by rw [hW2]; exact Own.new w2 28 _ undef)
  have lB := World.block_lt_of_cell? w2 _ HBX.out.1
  have HM := Lib.hid (HM.out.keep b2)
  have HBX : Hid (W2.cell? ⟨X + 1, 0, none⟩ = some (.int .u8 x0) ∧ W2.cell? ⟨X + 1, 1, none⟩ = some (.int .u8 x1) ∧ W2.cell? ⟨X + 1, 2, none⟩ = some (.int .u8 x2)) := Lib.hid ⟨(b2.cell (p := ⟨X + 1, 0, none⟩) lB).trans HBX.out.1, (b2.cell (p := ⟨X + 1, 1, none⟩) lB).trans HBX.out.2.1, (b2.cell (p := ⟨X + 1, 2, none⟩) lB).trans HBX.out.2.2⟩
  have HZ2 : Hid (X < w2.heap.size ∧ X + 1 < w2.heap.size ∧ w2.heap.size < W2.heap.size) := Lib.hid ⟨hlX, lB, by rw [hW2]; simp⟩
  clear k0 k1 k2 k3 k4 lB b2 hW2 hlX hwz
  generalize w2.heap.size = Y at *
  have k0 := HM.out.k0
  have HRS := Lib.hid HM.out.rs
  obtain ⟨mc, hmk, hown⟩ := mk_conds n1 (by omega)
  have HOWN := Lib.hid hown
  clear hown
  refine region_z (S := fun w' => w'.cell? ⟨X, 0, none⟩ = some (.slice a1 n1 c1)) [6, 7, 8] (by kernel_rfl) k0 (fun hHeld => ?_)
  obtain ⟨wd, hwd⟩ : ∃ wd, wd = W2.drew := ⟨_, rfl⟩
  have HMd : Hid (LwM w wd X a1 n1 c1 a2 n2 c2 a3 n3 c3 a4 n4 c4 a5 n5 c5 s) := Lib.hid (by rw [hwd]; exact HM.out.keep (below_drew _))
  have HOYd : Hid (Own wd Y 28 5 (fun i => (#[.slice a1 n1 c1, .slice a2 n2 c2, .slice a3 n3 c3, .slice a4 n4 c4, .slice a5 n5 c5])[i]?.getD undef)) := Lib.hid (by rw [hwd]; exact HOY.out.drew)
  have HBd : Hid (wd.cell? ⟨X + 1, 0, none⟩ = some (.int .u8 x0) ∧ wd.cell? ⟨X + 1, 1, none⟩ = some (.int .u8 x1) ∧ wd.cell? ⟨X + 1, 2, none⟩ = some (.int .u8 x2)) := Lib.hid (by rw [hwd]; exact HBX.out)
  have HZd : Hid (X < Y ∧ X + 1 < Y ∧ Y < wd.heap.size ∧ w.heap.size ≤ wd.heap.size) := Lib.hid ⟨HZ2.out.1, HZ2.out.2.1, by rw [hwd]; exact HZ2.out.2.2, HMd.out.bel.size⟩
  rw [← hwd] at hHeld ⊢
  clear hwd HM HOY HBX HZ2 HMY k0
  obtain ⟨ap, v', w4, ap1, ap2, ap3, ap4⟩ := app_conds (w := wd.alloc (.cells mc 55)) (base := wd.heap.size) (xs := []) (ys := s.cons) (A := a1) (m := n1) (c := c1) (HOWN.out wd _ (Nat.le_refl _)) (HMd.out.rs.r1.keep ((Below.refl _ _).alloc (Nat.le_refl _) _)) HCL.out (by simp) (by simp; omega)
  obtain ⟨g, cY, F, hv', hgb, hlc, hcm, hog, hF⟩ := ap3.out.open_ encCon_len (by simp; have := HCL.out; omega)
  rw [List.nil_append, HCL.out] at hv' hlc
  rw [List.nil_append] at hF
  subst hv'
  have HOG := Lib.hid hog
  have HHF : Hid (HoldsC F s.cons) := Lib.hid hF
  clear hog hF hcm
  have HY4 : Hid (Own w4 Y 28 5 (fun i => (#[.slice a1 n1 c1, .slice a2 n2 c2, .slice a3 n3 c3, .slice a4 n4 c4, .slice a5 n5 c5])[i]?.getD undef)) := Lib.hid (HOYd.out.keep ((((Below.refl wd.heap.size wd).alloc (Nat.le_refl _) _)).trans ap4.out.bel) HZd.out.2.2.1)
  have YC : Hid (w4.cell? ⟨Y, 0, none⟩ = some (.slice a1 n1 c1)) := Lib.hid (HY4.out.cell (i := 0) (by omega))
  have YF := Lib.hid (HY4.out.frozen 0)
  have HB4 : Hid (Below wd.heap.size wd w4) := Lib.hid ((((Below.refl wd.heap.size wd).alloc (Nat.le_refl _) _)).trans ap4.out.bel)
  refine wpAnyZ_take (i := 0) (v := .pointer (some ⟨X, 0, none⟩)) [1, 2, 3, 6, 7, 8] rfl (by kernel_rfl) (by kernel_rfl) (by kernel_rfl) (by kernel_rfl) (fun _ _ _ h => h) (Or.inl ⟨by kernel_rfl, fun w' hSw => ?_⟩) hHeld ?_
  · have s1 := hSw
    clear hHeld hSw
    go_simp
  simp only [Act.put, List.getElem_toArray, List.getElem_cons_zero, List.getElem_cons_succ, List.setIfInBounds_toArray, List.set_cons_zero, List.set_cons_succ]
  refine wpAnyZ_take (i := 1) (v := .slice a1 n1 c1) [2, 3, 6, 7, 8] rfl (by kernel_rfl) (by kernel_rfl) (by kernel_rfl) (by kernel_rfl) (fun _ _ _ h => h) (Or.inl ⟨by kernel_rfl, fun w' hSw => ?_⟩) hHeld ?_
  · have s1 := hSw
    clear hHeld hSw
    go_simp
  simp only [Act.put, List.getElem_toArray, List.getElem_cons_zero, List.getElem_cons_succ, List.setIfInBounds_toArray, List.set_cons_zero, List.set_cons_succ]
  refine wpAnyZ_take (i := 2) (v := .int .i64 (n1 : Nat)) [3, 6, 7, 8] rfl (by kernel_rfl) (by kernel_rfl) (by kernel_rfl) (by kernel_rfl) (fun _ _ _ h => h) (Or.inl ⟨by kernel_rfl, fun w' hSw => ?_⟩) hHeld ?_
  · have s1 := hSw
    clear hHeld hSw
    go_simp
  simp only [Act.put, List.getElem_toArray, List.getElem_cons_zero, List.getElem_cons_succ, List.setIfInBounds_toArray, List.set_cons_zero, List.set_cons_succ]
  refine wpAnyZ_take (i := 4) (v := .pointer (some ⟨X, 0, none⟩)) [5, 6, 7, 8] rfl (by kernel_rfl) (by kernel_rfl) (by kernel_rfl) (by kernel_rfl) (fun _ _ _ h => h) (Or.inl ⟨by kernel_rfl, fun w' hSw => ?_⟩) hHeld ?_
  · have s1 := hSw
    clear hHeld hSw
    go_simp
  simp only [Act.put, List.getElem_toArray, List.getElem_cons_zero, List.getElem_cons_succ, List.setIfInBounds_toArray, List.set_cons_zero, List.set_cons_succ]
  refine wpAnyZ_take (i := 5) (v := .slice a1 n1 c1) [6, 7, 8] rfl (by kernel_rfl) (by kernel_rfl) (by kernel_rfl) (by kernel_rfl) (fun _ _ _ h => h) (Or.inl ⟨by kernel_rfl, fun w' hSw => ?_⟩) hHeld ?_
  · have s1 := hSw
    clear hHeld hSw
    go_simp
  simp only [Act.put, List.getElem_toArray, List.getElem_cons_zero, List.getElem_cons_succ, List.setIfInBounds_toArray, List.set_cons_zero, List.set_cons_succ]
  refine wpAnyZ_one (i := 3) (by kernel_rfl) rfl (fun K' hK => ?_)
  go_simp
  refine hK.out _ _ ?_ (fun hHeld' => ?_)
  · exact (((Below.refl wd.heap.size wd).alloc (Nat.le_refl _) _).cell (World.block_lt_of_cell? _ _ hHeld)).trans hHeld
  clear hK K' hHeld hHeld'
  try simp only [Act.put, List.getElem_toArray, List.getElem_cons_zero, List.getElem_cons_succ, List.setIfInBounds_toArray, List.set_cons_zero, List.set_cons_succ]
  refine wpAnyZ_last (i := 6) (by kernel_rfl) rfl (by kernel_rfl) (fun K' hK => ?_)
  rw [if_pos (by rfl)]
  refine append_go rfl rfl ap ap1 ap2 ?_
  refine hK.out _ _ ?_
  clear hK K'
  try simp only [Act.put, List.getElem_toArray, List.getElem_cons_zero, List.getElem_cons_succ, List.setIfInBounds_toArray, List.set_cons_zero, List.set_cons_succ]
  refine wpAnyZ_last (i := 7) (by kernel_rfl) rfl (by kernel_rfl) (fun K' hK => ?_)
  go_simp
  refine hK.out _ _ ?_
  clear hK K'
  try simp only [Act.put, List.getElem_toArray, List.getElem_cons_zero, List.getElem_cons_succ, List.setIfInBounds_toArray, List.set_cons_zero, List.set_cons_succ]
  refine wpAnyZ_last (i := 8) (by kernel_rfl) rfl (by kernel_rfl) (fun K' hK => ?_)
  have hYf := YF.out
  have hYc := YC.out
  go_simp
  refine hK.out _ _ ?_
  clear hK K' ap ap1 ap2 hYf hYc
  try simp only [Act.put, List.getElem_toArray, List.getElem_cons_zero, List.getElem_cons_succ, List.setIfInBounds_toArray, List.set_cons_zero, List.set_cons_succ]
  refine wpAnyZ_done (by kernel_rfl) ?_ _
  go_step
  go_step
  have HD0 : Hid (DrM w (w4.setCell ⟨Y, 0, none⟩ (.slice (some ⟨g, 0, none⟩) n1 cY)) X a1 n1 c1 a2 n2 c2 a3 n3 c3 a4 n4 c4 a5 n5 c5 s Y g cY (cY * 11) F (X + 1) x0 x1 x2) := Lib.hid (by
    have hm : Mod (fun j => j = Y) w4 (w4.setCell ⟨Y, 0, none⟩ (.slice (some ⟨g, 0, none⟩) n1 cY)) := (show Mod (fun j => j = Y) w4 w4 from Mod.refl _ w4).setCell (p := ⟨Y, 0, none⟩) (.inl rfl) _
    have hz := HZd.out
    have ho := HY4.out.set 0 (.slice (some ⟨g, 0, none⟩) n1 cY)
    refine ⟨(HMd.out.keep HB4.out).mod HS.out hm (by omega) (fun k hk => by have := HSZ.out; omega), ⟨ho.cell (i := 0) (by omega), ho.cell (i := 1) (by omega), ho.cell (i := 2) (by omega), ho.cell (i := 3) (by omega), ho.cell (i := 4) (by omega)⟩, HOG.out.mod hm (by omega), ?_, by omega⟩
    have lb : X + 1 < w4.heap.size := by have := HB4.out.size; omega
    exact ⟨(hm.cell (p := ⟨X + 1, 0, none⟩) lb (by show ¬ X + 1 = Y; omega)).trans ((HB4.out.cell (p := ⟨X + 1, 0, none⟩) (by show X + 1 < _; omega)).trans HBd.out.1), (hm.cell (p := ⟨X + 1, 1, none⟩) lb (by show ¬ X + 1 = Y; omega)).trans ((HB4.out.cell (p := ⟨X + 1, 1, none⟩) (by show X + 1 < _; omega)).trans HBd.out.2.1), (hm.cell (p := ⟨X + 1, 2, none⟩) lb (by show ¬ X + 1 = Y; omega)).trans ((HB4.out.cell (p := ⟨X + 1, 2, none⟩) (by show X + 1 < _; omega)).trans HBd.out.2.2)⟩)
  refine wp_world (fun W => DrM w W X a1 n1 c1 a2 n2 c2 a3 n3 c3 a4 n4 c4 a5 n5 c5 s Y g cY (cY * 11) F (X + 1) x0 x1 x2) HD0.out (fun W5 hW5 => ?_)
  have HD := Lib.hid hW5
  clear hW5 HD0 HMd HOYd HBd HY4 YC YF HB4 HOG ap3 ap4 HRS HOWN hmk hgb
  obtain ⟨j0, j1, j2, j3, j4⟩ := HD.out.yy
  have k0 := HD.out.lw.k0
  obtain ⟨kk, hkk, hkn⟩ : ∃ kk : Nat, which.tmod n1 = (kk : Int) ∧ kk < n1 := ⟨(which.tmod n1).toNat, by have := Int.tmod_nonneg (n1 : Int) (show 0 ≤ which by omega); omega, by have := Int.tmod_lt_of_pos which (show (0 : Int) < n1 by omega); omega⟩
  have hkz : (kk : Int) < (n1 : Int) := by omega
  have HKN := Lib.hid hkn
  have HKE := Lib.hid hkk
  go_wp2_with fail
  go_quiet (fail)
  go_wp2_with fail
  obtain ⟨gc, hgc⟩ : ∃ gc, s.cons[kk]? = some gc := ⟨_, List.getElem?_eq_getElem (by have := HCL.out; omega)⟩
  have HGC := Lib.hid hgc
  refine wp_world (fun W => DrM w W X a1 n1 c1 a2 n2 c2 a3 n3 c3 a4 n4 c4 a5 n5 c5 s Y g cY (cY * 11) F (X + 1) x0 x1 x2) (HD.out.keep (below_drewG _ (Below.refl _ _))) (fun W6 hW6 => ?_)
  have HD := Lib.hid hW6
  have HOL : Hid (kk * 11 + 11 ≤ cY * 11) := Lib.hid (by have := HKN.out; omega)
  have HSL : Hid (kk < s.cons.length) := Lib.hid (by rw [HCL.out]; exact HKN.out)
  clear j0 j1 j2 j3 j4 k0 hW6 hgc hkk hkn hkz
  have v0 : W6.cell? ⟨g, kk * 11 + 2, none⟩ = some (.int .i64 gc.limit) := (HD.out.ow.cell (i := kk * 11 + 2) (by have := HOL.out; omega)).trans (by exact congrArg some (HHF.out kk gc 2 _ HGC.out rfl))
  have v1 := HD.out.bb.1
  have HFZ : Hid (W6.drew.frozen? ⟨g, kk * 11 + 2, none⟩ = false) := Lib.hid (HD.out.ow.drew.frozen _)
  refine region_z (S := fun w' => w'.cell? ⟨g, kk * 11 + 2, none⟩ = some (.int .i64 gc.limit) ∧ w'.cell? ⟨X + 1, 0, none⟩ = some (.int .u8 x0)) [12] (by kernel_rfl) ⟨v0, v1⟩ (fun hHeld => ?_)
  obtain ⟨wd, hwd⟩ : ∃ wd, wd = W6.drew := ⟨_, rfl⟩
  have HDd : Hid (DrM w wd X a1 n1 c1 a2 n2 c2 a3 n3 c3 a4 n4 c4 a5 n5 c5 s Y g cY (cY * 11) F (X + 1) x0 x1 x2) := Lib.hid (by rw [hwd]; exact HD.out.keep (below_drew _))
  rw [← hwd] at HFZ hHeld ⊢
  clear hwd v0 v1 HD
  refine wpAnyZ_take (i := 0) (v := .pointer (some ⟨g, kk * 11, none⟩)) [10, 11, 12] rfl (by kernel_rfl) (by kernel_rfl) (by kernel_rfl) (by kernel_rfl) (fun _ _ _ h => h) (Or.inl ⟨by kernel_rfl, fun w' hSw => ?_⟩) hHeld ?_
  · have s0 := hSw.1
    have s1 := hSw.2
    clear hHeld hSw
    go_simp
  simp only [Act.put, List.getElem_toArray, List.getElem_cons_zero, List.getElem_cons_succ, List.setIfInBounds_toArray, List.set_cons_zero, List.set_cons_succ]
  refine wpAnyZ_take (i := 1) (v := .pointer (some ⟨g, kk * 11, none⟩)) [2, 3, 4, 8, 9, 12] rfl (by kernel_rfl) (by kernel_rfl) (by kernel_rfl) (by kernel_rfl) (fun _ _ _ h => h) (Or.inl ⟨by kernel_rfl, fun w' hSw => ?_⟩) hHeld ?_
  · have s0 := hSw.1
    have s1 := hSw.2
    clear hHeld hSw
    go_simp
  simp only [Act.put, List.getElem_toArray, List.getElem_cons_zero, List.getElem_cons_succ, List.setIfInBounds_toArray, List.set_cons_zero, List.set_cons_succ]
  refine wpAnyZ_take (i := 2) (v := .pointer (some ⟨g, kk * 11, none⟩)) [3, 4, 8, 9, 12] rfl (by kernel_rfl) (by kernel_rfl) (by kernel_rfl) (by kernel_rfl) (fun _ _ _ h => h) (Or.inl ⟨by kernel_rfl, fun w' hSw => ?_⟩) hHeld ?_
  · have s0 := hSw.1
    have s1 := hSw.2
    clear hHeld hSw
    go_simp
  simp only [Act.put, List.getElem_toArray, List.getElem_cons_zero, List.getElem_cons_succ, List.setIfInBounds_toArray, List.set_cons_zero, List.set_cons_succ]
  refine wpAnyZ_take (i := 3) (v := .pointer (some ⟨g, kk * 11 + 2, none⟩)) [4, 8, 9, 12] rfl (by kernel_rfl) (by kernel_rfl) (by kernel_rfl) (by kernel_rfl) (fun _ _ _ h => h) (Or.inl ⟨by kernel_rfl, fun w' hSw => ?_⟩) hHeld ?_
  · have s0 := hSw.1
    have s1 := hSw.2
    clear hHeld hSw
    go_simp
  simp only [Act.put, List.getElem_toArray, List.getElem_cons_zero, List.getElem_cons_succ, List.setIfInBounds_toArray, List.set_cons_zero, List.set_cons_succ]
  refine wpAnyZ_take (i := 4) (v := .int .i64 gc.limit) [8, 9, 12] rfl (by kernel_rfl) (by kernel_rfl) (by kernel_rfl) (by kernel_rfl) (fun _ _ _ h => h) (Or.inl ⟨by kernel_rfl, fun w' hSw => ?_⟩) hHeld ?_
  · have s0 := hSw.1
    have s1 := hSw.2
    clear hHeld hSw
    go_simp
  simp only [Act.put, List.getElem_toArray, List.getElem_cons_zero, List.getElem_cons_succ, List.setIfInBounds_toArray, List.set_cons_zero, List.set_cons_succ]
  refine wpAnyZ_take (i := 5) (v := .pointer (some ⟨X + 1, 0, none⟩)) [6, 7, 8, 9, 12] rfl (by kernel_rfl) (by kernel_rfl) (by kernel_rfl) (by kernel_rfl) (fun _ _ _ h => h) (Or.inl ⟨by kernel_rfl, fun w' hSw => ?_⟩) hHeld ?_
  · have s0 := hSw.1
    have s1 := hSw.2
    clear hHeld hSw
    go_simp
  simp only [Act.put, List.getElem_toArray, List.getElem_cons_zero, List.getElem_cons_succ, List.setIfInBounds_toArray, List.set_cons_zero, List.set_cons_succ]
  refine wpAnyZ_take (i := 6) (v := .int .u8 x0) [7, 8, 9, 12] rfl (by kernel_rfl) (by kernel_rfl) (by kernel_rfl) (by kernel_rfl) (fun _ _ _ h => h) (Or.inl ⟨by kernel_rfl, fun w' hSw => ?_⟩) hHeld ?_
  · have s0 := hSw.1
    have s1 := hSw.2
    clear hHeld hSw
    go_simp
  simp only [Act.put, List.getElem_toArray, List.getElem_cons_zero, List.getElem_cons_succ, List.setIfInBounds_toArray, List.set_cons_zero, List.set_cons_succ]
  refine wpAnyZ_take (i := 7) (v := .int .i64 x0) [8, 9, 12] rfl (by kernel_rfl) (by kernel_rfl) (by kernel_rfl) (by kernel_rfl) (fun _ _ _ h => h) (Or.inl ⟨by kernel_rfl, fun w' hSw => ?_⟩) hHeld ?_
  · have s0 := hSw.1
    have s1 := hSw.2
    clear hHeld hSw
    have hb := HB0.out
    have hw : IntKind.i64.wrap x0 = x0 := IntWalk.i64_in _ (by omega)
    go_simp
  simp only [Act.put, List.getElem_toArray, List.getElem_cons_zero, List.getElem_cons_succ, List.setIfInBounds_toArray, List.set_cons_zero, List.set_cons_succ]
  refine wpAnyZ_take (i := 8) (v := .int .i64 (IntKind.i64.wrap (gc.limit - x0))) [9, 12] rfl (by kernel_rfl) (by kernel_rfl) (by kernel_rfl) (by kernel_rfl) (fun _ _ _ h => h) (Or.inl ⟨by kernel_rfl, fun w' hSw => ?_⟩) hHeld ?_
  · have s0 := hSw.1
    have s1 := hSw.2
    clear hHeld hSw
    go_simp
  simp only [Act.put, List.getElem_toArray, List.getElem_cons_zero, List.getElem_cons_succ, List.setIfInBounds_toArray, List.set_cons_zero, List.set_cons_succ]
  refine wpAnyZ_take (i := 9) (v := .int .i64 (max 1 (IntKind.i64.wrap (gc.limit - x0)))) [12] rfl (by kernel_rfl) (by kernel_rfl) (by kernel_rfl) (by kernel_rfl) (fun _ _ _ h => h) (Or.inl ⟨by kernel_rfl, fun w' hSw => ?_⟩) hHeld ?_
  · have s0 := hSw.1
    have s1 := hSw.2
    clear hHeld hSw
    by_cases hz : 1 < (IntKind.i64.wrap (gc.limit - x0))
    · have hz2 : max 1 (IntKind.i64.wrap (gc.limit - x0)) = (IntKind.i64.wrap (gc.limit - x0)) := by omega
      go_simp
      all_goals (first | omega | (intro hh; omega) | skip)
    · have hz2 : max 1 (IntKind.i64.wrap (gc.limit - x0)) = 1 := by omega
      go_simp
      all_goals (first | omega | (intro hh; omega) | skip)
  simp only [Act.put, List.getElem_toArray, List.getElem_cons_zero, List.getElem_cons_succ, List.setIfInBounds_toArray, List.set_cons_zero, List.set_cons_succ]
  refine wpAnyZ_take (i := 10) (v := .pointer (some ⟨g, kk * 11, none⟩)) [11, 12] rfl (by kernel_rfl) (by kernel_rfl) (by kernel_rfl) (by kernel_rfl) (fun _ _ _ h => h) (Or.inl ⟨by kernel_rfl, fun w' hSw => ?_⟩) hHeld ?_
  · have s0 := hSw.1
    have s1 := hSw.2
    clear hHeld hSw
    go_simp
  simp only [Act.put, List.getElem_toArray, List.getElem_cons_zero, List.getElem_cons_succ, List.setIfInBounds_toArray, List.set_cons_zero, List.set_cons_succ]
  refine wpAnyZ_take (i := 11) (v := .pointer (some ⟨g, kk * 11 + 2, none⟩)) [12] rfl (by kernel_rfl) (by kernel_rfl) (by kernel_rfl) (by kernel_rfl) (fun _ _ _ h => h) (Or.inl ⟨by kernel_rfl, fun w' hSw => ?_⟩) hHeld ?_
  · have s0 := hSw.1
    have s1 := hSw.2
    clear hHeld hSw
    go_simp
  simp only [Act.put, List.getElem_toArray, List.getElem_cons_zero, List.getElem_cons_succ, List.setIfInBounds_toArray, List.set_cons_zero, List.set_cons_succ]
  refine wpAnyZ_last (i := 12) (by kernel_rfl) rfl (by kernel_rfl) (fun K' hK => ?_)
  obtain ⟨s0, s1⟩ := hHeld
  have hF := HFZ.out
  go_simp
  refine hK.out _ _ ?_
  clear hK K' hF
  try simp only [Act.put, List.getElem_toArray, List.getElem_cons_zero, List.getElem_cons_succ, List.setIfInBounds_toArray, List.set_cons_zero, List.set_cons_succ]
  refine wpAnyZ_done (by kernel_rfl) ?_ _
  go_step
  go_step
  refine wp_world (fun W => DrM w W X a1 n1 c1 a2 n2 c2 a3 n3 c3 a4 n4 c4 a5 n5 c5 s Y g cY (cY * 11) (fun j => if j = kk * 11 + 2 then .int .i64 (max 1 (IntKind.i64.wrap (gc.limit - x0))) else F j) (X + 1) x0 x1 x2) (HDd.out.set HS.out (kk * 11 + 2) _) (fun W6a hWa => ?_)
  have HD := Lib.hid hWa
  have HHF : Hid (HoldsC (fun j => if j = kk * 11 + 2 then .int .i64 (max 1 (IntKind.i64.wrap (gc.limit - x0))) else F j) (s.cons.set kk ⟨gc.name, gc.up, (max 1 (IntKind.i64.wrap (gc.limit - x0))), gc.neutral, gc.rated, gc.heat, gc.amb, gc.most, gc.gain, gc.loss, gc.den⟩)) := Lib.hid (by
    have h := HHF.out.set HGC.out (c' := ⟨gc.name, gc.up, (max 1 (IntKind.i64.wrap (gc.limit - x0))), gc.neutral, gc.rated, gc.heat, gc.amb, gc.most, gc.gain, gc.loss, gc.den⟩) (j := 2) (by omega) (u := .int .i64 (max 1 (IntKind.i64.wrap (gc.limit - x0)))) rfl (fun i hi => by (rcases i with _ | _ | _ | i) <;> first | rfl | exact absurd rfl hi)
    exact h)
  clear hWa HDd HFZ
  go_wp2_with fail
  have v0 : W6a.cell? ⟨g, kk * 11 + 3, none⟩ = some (.int .i64 gc.neutral) := (HD.out.ow.cell (i := kk * 11 + 3) (by have := HOL.out; omega)).trans (by exact congrArg some (HHF.out kk ⟨gc.name, gc.up, (max 1 (IntKind.i64.wrap (gc.limit - x0))), gc.neutral, gc.rated, gc.heat, gc.amb, gc.most, gc.gain, gc.loss, gc.den⟩ 3 _ (List.getElem?_set_self HSL.out) rfl))
  have v1 := HD.out.bb.2.1
  have HFZ : Hid (W6a.drew.frozen? ⟨g, kk * 11 + 3, none⟩ = false) := Lib.hid (HD.out.ow.drew.frozen _)
  refine region_z (S := fun w' => w'.cell? ⟨g, kk * 11 + 3, none⟩ = some (.int .i64 gc.neutral) ∧ w'.cell? ⟨X + 1, 1, none⟩ = some (.int .u8 x1)) [12] (by kernel_rfl) ⟨v0, v1⟩ (fun hHeld => ?_)
  obtain ⟨wd, hwd⟩ : ∃ wd, wd = W6a.drew := ⟨_, rfl⟩
  have HDd : Hid (DrM w wd X a1 n1 c1 a2 n2 c2 a3 n3 c3 a4 n4 c4 a5 n5 c5 s Y g cY (cY * 11) (fun j => if j = kk * 11 + 2 then .int .i64 (max 1 (IntKind.i64.wrap (gc.limit - x0))) else F j) (X + 1) x0 x1 x2) := Lib.hid (by rw [hwd]; exact HD.out.keep (below_drew _))
  rw [← hwd] at HFZ hHeld ⊢
  clear hwd v0 v1 HD
  refine wpAnyZ_take (i := 0) (v := .pointer (some ⟨g, kk * 11, none⟩)) [10, 11, 12] rfl (by kernel_rfl) (by kernel_rfl) (by kernel_rfl) (by kernel_rfl) (fun _ _ _ h => h) (Or.inl ⟨by kernel_rfl, fun w' hSw => ?_⟩) hHeld ?_
  · have s0 := hSw.1
    have s1 := hSw.2
    clear hHeld hSw
    go_simp
  simp only [Act.put, List.getElem_toArray, List.getElem_cons_zero, List.getElem_cons_succ, List.setIfInBounds_toArray, List.set_cons_zero, List.set_cons_succ]
  refine wpAnyZ_take (i := 1) (v := .pointer (some ⟨g, kk * 11, none⟩)) [2, 3, 4, 8, 9, 12] rfl (by kernel_rfl) (by kernel_rfl) (by kernel_rfl) (by kernel_rfl) (fun _ _ _ h => h) (Or.inl ⟨by kernel_rfl, fun w' hSw => ?_⟩) hHeld ?_
  · have s0 := hSw.1
    have s1 := hSw.2
    clear hHeld hSw
    go_simp
  simp only [Act.put, List.getElem_toArray, List.getElem_cons_zero, List.getElem_cons_succ, List.setIfInBounds_toArray, List.set_cons_zero, List.set_cons_succ]
  refine wpAnyZ_take (i := 2) (v := .pointer (some ⟨g, kk * 11, none⟩)) [3, 4, 8, 9, 12] rfl (by kernel_rfl) (by kernel_rfl) (by kernel_rfl) (by kernel_rfl) (fun _ _ _ h => h) (Or.inl ⟨by kernel_rfl, fun w' hSw => ?_⟩) hHeld ?_
  · have s0 := hSw.1
    have s1 := hSw.2
    clear hHeld hSw
    go_simp
  simp only [Act.put, List.getElem_toArray, List.getElem_cons_zero, List.getElem_cons_succ, List.setIfInBounds_toArray, List.set_cons_zero, List.set_cons_succ]
  refine wpAnyZ_take (i := 3) (v := .pointer (some ⟨g, kk * 11 + 3, none⟩)) [4, 8, 9, 12] rfl (by kernel_rfl) (by kernel_rfl) (by kernel_rfl) (by kernel_rfl) (fun _ _ _ h => h) (Or.inl ⟨by kernel_rfl, fun w' hSw => ?_⟩) hHeld ?_
  · have s0 := hSw.1
    have s1 := hSw.2
    clear hHeld hSw
    go_simp
  simp only [Act.put, List.getElem_toArray, List.getElem_cons_zero, List.getElem_cons_succ, List.setIfInBounds_toArray, List.set_cons_zero, List.set_cons_succ]
  refine wpAnyZ_take (i := 4) (v := .int .i64 gc.neutral) [8, 9, 12] rfl (by kernel_rfl) (by kernel_rfl) (by kernel_rfl) (by kernel_rfl) (fun _ _ _ h => h) (Or.inl ⟨by kernel_rfl, fun w' hSw => ?_⟩) hHeld ?_
  · have s0 := hSw.1
    have s1 := hSw.2
    clear hHeld hSw
    go_simp
  simp only [Act.put, List.getElem_toArray, List.getElem_cons_zero, List.getElem_cons_succ, List.setIfInBounds_toArray, List.set_cons_zero, List.set_cons_succ]
  refine wpAnyZ_take (i := 5) (v := .pointer (some ⟨X + 1, 1, none⟩)) [6, 7, 8, 9, 12] rfl (by kernel_rfl) (by kernel_rfl) (by kernel_rfl) (by kernel_rfl) (fun _ _ _ h => h) (Or.inl ⟨by kernel_rfl, fun w' hSw => ?_⟩) hHeld ?_
  · have s0 := hSw.1
    have s1 := hSw.2
    clear hHeld hSw
    go_simp
  simp only [Act.put, List.getElem_toArray, List.getElem_cons_zero, List.getElem_cons_succ, List.setIfInBounds_toArray, List.set_cons_zero, List.set_cons_succ]
  refine wpAnyZ_take (i := 6) (v := .int .u8 x1) [7, 8, 9, 12] rfl (by kernel_rfl) (by kernel_rfl) (by kernel_rfl) (by kernel_rfl) (fun _ _ _ h => h) (Or.inl ⟨by kernel_rfl, fun w' hSw => ?_⟩) hHeld ?_
  · have s0 := hSw.1
    have s1 := hSw.2
    clear hHeld hSw
    go_simp
  simp only [Act.put, List.getElem_toArray, List.getElem_cons_zero, List.getElem_cons_succ, List.setIfInBounds_toArray, List.set_cons_zero, List.set_cons_succ]
  refine wpAnyZ_take (i := 7) (v := .int .i64 x1) [8, 9, 12] rfl (by kernel_rfl) (by kernel_rfl) (by kernel_rfl) (by kernel_rfl) (fun _ _ _ h => h) (Or.inl ⟨by kernel_rfl, fun w' hSw => ?_⟩) hHeld ?_
  · have s0 := hSw.1
    have s1 := hSw.2
    clear hHeld hSw
    have hb := HB1.out
    have hw : IntKind.i64.wrap x1 = x1 := IntWalk.i64_in _ (by omega)
    go_simp
  simp only [Act.put, List.getElem_toArray, List.getElem_cons_zero, List.getElem_cons_succ, List.setIfInBounds_toArray, List.set_cons_zero, List.set_cons_succ]
  refine wpAnyZ_take (i := 8) (v := .int .i64 (IntKind.i64.wrap (gc.neutral - x1))) [9, 12] rfl (by kernel_rfl) (by kernel_rfl) (by kernel_rfl) (by kernel_rfl) (fun _ _ _ h => h) (Or.inl ⟨by kernel_rfl, fun w' hSw => ?_⟩) hHeld ?_
  · have s0 := hSw.1
    have s1 := hSw.2
    clear hHeld hSw
    go_simp
  simp only [Act.put, List.getElem_toArray, List.getElem_cons_zero, List.getElem_cons_succ, List.setIfInBounds_toArray, List.set_cons_zero, List.set_cons_succ]
  refine wpAnyZ_take (i := 9) (v := .int .i64 (max 1 (IntKind.i64.wrap (gc.neutral - x1)))) [12] rfl (by kernel_rfl) (by kernel_rfl) (by kernel_rfl) (by kernel_rfl) (fun _ _ _ h => h) (Or.inl ⟨by kernel_rfl, fun w' hSw => ?_⟩) hHeld ?_
  · have s0 := hSw.1
    have s1 := hSw.2
    clear hHeld hSw
    by_cases hz : 1 < (IntKind.i64.wrap (gc.neutral - x1))
    · have hz2 : max 1 (IntKind.i64.wrap (gc.neutral - x1)) = (IntKind.i64.wrap (gc.neutral - x1)) := by omega
      go_simp
      all_goals (first | omega | (intro hh; omega) | skip)
    · have hz2 : max 1 (IntKind.i64.wrap (gc.neutral - x1)) = 1 := by omega
      go_simp
      all_goals (first | omega | (intro hh; omega) | skip)
  simp only [Act.put, List.getElem_toArray, List.getElem_cons_zero, List.getElem_cons_succ, List.setIfInBounds_toArray, List.set_cons_zero, List.set_cons_succ]
  refine wpAnyZ_take (i := 10) (v := .pointer (some ⟨g, kk * 11, none⟩)) [11, 12] rfl (by kernel_rfl) (by kernel_rfl) (by kernel_rfl) (by kernel_rfl) (fun _ _ _ h => h) (Or.inl ⟨by kernel_rfl, fun w' hSw => ?_⟩) hHeld ?_
  · have s0 := hSw.1
    have s1 := hSw.2
    clear hHeld hSw
    go_simp
  simp only [Act.put, List.getElem_toArray, List.getElem_cons_zero, List.getElem_cons_succ, List.setIfInBounds_toArray, List.set_cons_zero, List.set_cons_succ]
  refine wpAnyZ_take (i := 11) (v := .pointer (some ⟨g, kk * 11 + 3, none⟩)) [12] rfl (by kernel_rfl) (by kernel_rfl) (by kernel_rfl) (by kernel_rfl) (fun _ _ _ h => h) (Or.inl ⟨by kernel_rfl, fun w' hSw => ?_⟩) hHeld ?_
  · have s0 := hSw.1
    have s1 := hSw.2
    clear hHeld hSw
    go_simp
  simp only [Act.put, List.getElem_toArray, List.getElem_cons_zero, List.getElem_cons_succ, List.setIfInBounds_toArray, List.set_cons_zero, List.set_cons_succ]
  refine wpAnyZ_last (i := 12) (by kernel_rfl) rfl (by kernel_rfl) (fun K' hK => ?_)
  obtain ⟨s0, s1⟩ := hHeld
  have hF := HFZ.out
  go_simp
  refine hK.out _ _ ?_
  clear hK K' hF
  try simp only [Act.put, List.getElem_toArray, List.getElem_cons_zero, List.getElem_cons_succ, List.setIfInBounds_toArray, List.set_cons_zero, List.set_cons_succ]
  refine wpAnyZ_done (by kernel_rfl) ?_ _
  go_step
  go_step
  refine wp_world (fun W => DrM w W X a1 n1 c1 a2 n2 c2 a3 n3 c3 a4 n4 c4 a5 n5 c5 s Y g cY (cY * 11) (fun j => if j = kk * 11 + 3 then .int .i64 (max 1 (IntKind.i64.wrap (gc.neutral - x1))) else (fun j => if j = kk * 11 + 2 then .int .i64 (max 1 (IntKind.i64.wrap (gc.limit - x0))) else F j) j) (X + 1) x0 x1 x2) (HDd.out.set HS.out (kk * 11 + 3) _) (fun W6aa hWa => ?_)
  have HD := Lib.hid hWa
  have HHF : Hid (HoldsC (fun j => if j = kk * 11 + 3 then .int .i64 (max 1 (IntKind.i64.wrap (gc.neutral - x1))) else (fun j => if j = kk * 11 + 2 then .int .i64 (max 1 (IntKind.i64.wrap (gc.limit - x0))) else F j) j) (s.cons.set kk ⟨gc.name, gc.up, (max 1 (IntKind.i64.wrap (gc.limit - x0))), (max 1 (IntKind.i64.wrap (gc.neutral - x1))), gc.rated, gc.heat, gc.amb, gc.most, gc.gain, gc.loss, gc.den⟩)) := Lib.hid (by
    have h := HHF.out.set2 HSL.out (c'' := ⟨gc.name, gc.up, (max 1 (IntKind.i64.wrap (gc.limit - x0))), (max 1 (IntKind.i64.wrap (gc.neutral - x1))), gc.rated, gc.heat, gc.amb, gc.most, gc.gain, gc.loss, gc.den⟩) (j := 3) (by omega) (u := .int .i64 (max 1 (IntKind.i64.wrap (gc.neutral - x1)))) rfl (fun i hi => by (rcases i with _ | _ | _ | _ | i) <;> first | rfl | exact absurd rfl hi)
    exact h)
  clear hWa HDd HFZ
  have v0 : W6aa.cell? ⟨g, kk * 11 + 4, none⟩ = some (.int .i64 gc.rated) := (HD.out.ow.cell (i := kk * 11 + 4) (by have := HOL.out; omega)).trans (by exact congrArg some (HHF.out kk ⟨gc.name, gc.up, (max 1 (IntKind.i64.wrap (gc.limit - x0))), (max 1 (IntKind.i64.wrap (gc.neutral - x1))), gc.rated, gc.heat, gc.amb, gc.most, gc.gain, gc.loss, gc.den⟩ 4 _ (List.getElem?_set_self HSL.out) rfl))
  by_cases hra : 0 < gc.rated
  · have HRA := Lib.hid hra
    go_wp2_with fail
    clear v0 hra
    have v0 : W6aa.cell? ⟨g, kk * 11 + 4, none⟩ = some (.int .i64 gc.rated) := (HD.out.ow.cell (i := kk * 11 + 4) (by have := HOL.out; omega)).trans (by exact congrArg some (HHF.out kk ⟨gc.name, gc.up, (max 1 (IntKind.i64.wrap (gc.limit - x0))), (max 1 (IntKind.i64.wrap (gc.neutral - x1))), gc.rated, gc.heat, gc.amb, gc.most, gc.gain, gc.loss, gc.den⟩ 4 _ (List.getElem?_set_self HSL.out) rfl))
    have v1 := HD.out.bb.2.2
    have HFZ : Hid (W6aa.drew.frozen? ⟨g, kk * 11 + 4, none⟩ = false) := Lib.hid (HD.out.ow.drew.frozen _)
    refine region_z (S := fun w' => w'.cell? ⟨g, kk * 11 + 4, none⟩ = some (.int .i64 gc.rated) ∧ w'.cell? ⟨X + 1, 2, none⟩ = some (.int .u8 x2)) [14] (by kernel_rfl) ⟨v0, v1⟩ (fun hHeld => ?_)
    obtain ⟨wd, hwd⟩ : ∃ wd, wd = W6aa.drew := ⟨_, rfl⟩
    have HDd : Hid (DrM w wd X a1 n1 c1 a2 n2 c2 a3 n3 c3 a4 n4 c4 a5 n5 c5 s Y g cY (cY * 11) (fun j => if j = kk * 11 + 3 then .int .i64 (max 1 (IntKind.i64.wrap (gc.neutral - x1))) else (fun j => if j = kk * 11 + 2 then .int .i64 (max 1 (IntKind.i64.wrap (gc.limit - x0))) else F j) j) (X + 1) x0 x1 x2) := Lib.hid (by rw [hwd]; exact HD.out.keep (below_drew _))
    rw [← hwd] at HFZ hHeld ⊢
    clear hwd v0 v1 HD
    refine wpAnyZ_take (i := 0) (v := .pointer (some ⟨g, kk * 11, none⟩)) [11, 12, 13, 14] rfl (by kernel_rfl) (by kernel_rfl) (by kernel_rfl) (by kernel_rfl) (fun _ _ _ h => h) (Or.inl ⟨by kernel_rfl, fun w' hSw => ?_⟩) hHeld ?_
    · have s0 := hSw.1
      have s1 := hSw.2
      clear hHeld hSw
      go_simp
    simp only [Act.put, List.getElem_toArray, List.getElem_cons_zero, List.getElem_cons_succ, List.setIfInBounds_toArray, List.set_cons_zero, List.set_cons_succ]
    refine wpAnyZ_take (i := 1) (v := .pointer (some ⟨g, kk * 11, none⟩)) [2, 3, 4, 5, 9, 10, 14] rfl (by kernel_rfl) (by kernel_rfl) (by kernel_rfl) (by kernel_rfl) (fun _ _ _ h => h) (Or.inl ⟨by kernel_rfl, fun w' hSw => ?_⟩) hHeld ?_
    · have s0 := hSw.1
      have s1 := hSw.2
      clear hHeld hSw
      go_simp
    simp only [Act.put, List.getElem_toArray, List.getElem_cons_zero, List.getElem_cons_succ, List.setIfInBounds_toArray, List.set_cons_zero, List.set_cons_succ]
    refine wpAnyZ_take (i := 2) (v := .pointer (some ⟨g, kk * 11, none⟩)) [3, 4, 5, 9, 10, 14] rfl (by kernel_rfl) (by kernel_rfl) (by kernel_rfl) (by kernel_rfl) (fun _ _ _ h => h) (Or.inl ⟨by kernel_rfl, fun w' hSw => ?_⟩) hHeld ?_
    · have s0 := hSw.1
      have s1 := hSw.2
      clear hHeld hSw
      go_simp
    simp only [Act.put, List.getElem_toArray, List.getElem_cons_zero, List.getElem_cons_succ, List.setIfInBounds_toArray, List.set_cons_zero, List.set_cons_succ]
    refine wpAnyZ_take (i := 3) (v := .pointer (some ⟨g, kk * 11 + 4, none⟩)) [4, 5, 9, 10, 14] rfl (by kernel_rfl) (by kernel_rfl) (by kernel_rfl) (by kernel_rfl) (fun _ _ _ h => h) (Or.inl ⟨by kernel_rfl, fun w' hSw => ?_⟩) hHeld ?_
    · have s0 := hSw.1
      have s1 := hSw.2
      clear hHeld hSw
      go_simp
    simp only [Act.put, List.getElem_toArray, List.getElem_cons_zero, List.getElem_cons_succ, List.setIfInBounds_toArray, List.set_cons_zero, List.set_cons_succ]
    refine wpAnyZ_take (i := 4) (v := .pointer (some ⟨g, kk * 11 + 4, none⟩)) [5, 9, 10, 14] rfl (by kernel_rfl) (by kernel_rfl) (by kernel_rfl) (by kernel_rfl) (fun _ _ _ h => h) (Or.inl ⟨by kernel_rfl, fun w' hSw => ?_⟩) hHeld ?_
    · have s0 := hSw.1
      have s1 := hSw.2
      clear hHeld hSw
      go_simp
    simp only [Act.put, List.getElem_toArray, List.getElem_cons_zero, List.getElem_cons_succ, List.setIfInBounds_toArray, List.set_cons_zero, List.set_cons_succ]
    refine wpAnyZ_take (i := 5) (v := .int .i64 gc.rated) [9, 10, 14] rfl (by kernel_rfl) (by kernel_rfl) (by kernel_rfl) (by kernel_rfl) (fun _ _ _ h => h) (Or.inl ⟨by kernel_rfl, fun w' hSw => ?_⟩) hHeld ?_
    · have s0 := hSw.1
      have s1 := hSw.2
      clear hHeld hSw
      go_simp
    simp only [Act.put, List.getElem_toArray, List.getElem_cons_zero, List.getElem_cons_succ, List.setIfInBounds_toArray, List.set_cons_zero, List.set_cons_succ]
    refine wpAnyZ_take (i := 6) (v := .pointer (some ⟨X + 1, 2, none⟩)) [7, 8, 9, 10, 14] rfl (by kernel_rfl) (by kernel_rfl) (by kernel_rfl) (by kernel_rfl) (fun _ _ _ h => h) (Or.inl ⟨by kernel_rfl, fun w' hSw => ?_⟩) hHeld ?_
    · have s0 := hSw.1
      have s1 := hSw.2
      clear hHeld hSw
      go_simp
    simp only [Act.put, List.getElem_toArray, List.getElem_cons_zero, List.getElem_cons_succ, List.setIfInBounds_toArray, List.set_cons_zero, List.set_cons_succ]
    refine wpAnyZ_take (i := 7) (v := .int .u8 x2) [8, 9, 10, 14] rfl (by kernel_rfl) (by kernel_rfl) (by kernel_rfl) (by kernel_rfl) (fun _ _ _ h => h) (Or.inl ⟨by kernel_rfl, fun w' hSw => ?_⟩) hHeld ?_
    · have s0 := hSw.1
      have s1 := hSw.2
      clear hHeld hSw
      go_simp
    simp only [Act.put, List.getElem_toArray, List.getElem_cons_zero, List.getElem_cons_succ, List.setIfInBounds_toArray, List.set_cons_zero, List.set_cons_succ]
    refine wpAnyZ_take (i := 8) (v := .int .i64 x2) [9, 10, 14] rfl (by kernel_rfl) (by kernel_rfl) (by kernel_rfl) (by kernel_rfl) (fun _ _ _ h => h) (Or.inl ⟨by kernel_rfl, fun w' hSw => ?_⟩) hHeld ?_
    · have s0 := hSw.1
      have s1 := hSw.2
      clear hHeld hSw
      have hb := HB2.out
      have hw : IntKind.i64.wrap x2 = x2 := IntWalk.i64_in _ (by omega)
      go_simp
    simp only [Act.put, List.getElem_toArray, List.getElem_cons_zero, List.getElem_cons_succ, List.setIfInBounds_toArray, List.set_cons_zero, List.set_cons_succ]
    refine wpAnyZ_take (i := 9) (v := .int .i64 (IntKind.i64.wrap (gc.rated - x2))) [10, 14] rfl (by kernel_rfl) (by kernel_rfl) (by kernel_rfl) (by kernel_rfl) (fun _ _ _ h => h) (Or.inl ⟨by kernel_rfl, fun w' hSw => ?_⟩) hHeld ?_
    · have s0 := hSw.1
      have s1 := hSw.2
      clear hHeld hSw
      go_simp
    simp only [Act.put, List.getElem_toArray, List.getElem_cons_zero, List.getElem_cons_succ, List.setIfInBounds_toArray, List.set_cons_zero, List.set_cons_succ]
    refine wpAnyZ_take (i := 10) (v := .int .i64 (max 1 (IntKind.i64.wrap (gc.rated - x2)))) [14] rfl (by kernel_rfl) (by kernel_rfl) (by kernel_rfl) (by kernel_rfl) (fun _ _ _ h => h) (Or.inl ⟨by kernel_rfl, fun w' hSw => ?_⟩) hHeld ?_
    · have s0 := hSw.1
      have s1 := hSw.2
      clear hHeld hSw
      by_cases hz : 1 < (IntKind.i64.wrap (gc.rated - x2))
      · have hz2 : max 1 (IntKind.i64.wrap (gc.rated - x2)) = (IntKind.i64.wrap (gc.rated - x2)) := by omega
        go_simp
        all_goals (first | omega | (intro hh; omega) | skip)
      · have hz2 : max 1 (IntKind.i64.wrap (gc.rated - x2)) = 1 := by omega
        go_simp
        all_goals (first | omega | (intro hh; omega) | skip)
    simp only [Act.put, List.getElem_toArray, List.getElem_cons_zero, List.getElem_cons_succ, List.setIfInBounds_toArray, List.set_cons_zero, List.set_cons_succ]
    refine wpAnyZ_take (i := 11) (v := .pointer (some ⟨g, kk * 11, none⟩)) [12, 13, 14] rfl (by kernel_rfl) (by kernel_rfl) (by kernel_rfl) (by kernel_rfl) (fun _ _ _ h => h) (Or.inl ⟨by kernel_rfl, fun w' hSw => ?_⟩) hHeld ?_
    · have s0 := hSw.1
      have s1 := hSw.2
      clear hHeld hSw
      go_simp
    simp only [Act.put, List.getElem_toArray, List.getElem_cons_zero, List.getElem_cons_succ, List.setIfInBounds_toArray, List.set_cons_zero, List.set_cons_succ]
    refine wpAnyZ_take (i := 12) (v := .pointer (some ⟨g, kk * 11 + 4, none⟩)) [13, 14] rfl (by kernel_rfl) (by kernel_rfl) (by kernel_rfl) (by kernel_rfl) (fun _ _ _ h => h) (Or.inl ⟨by kernel_rfl, fun w' hSw => ?_⟩) hHeld ?_
    · have s0 := hSw.1
      have s1 := hSw.2
      clear hHeld hSw
      go_simp
    simp only [Act.put, List.getElem_toArray, List.getElem_cons_zero, List.getElem_cons_succ, List.setIfInBounds_toArray, List.set_cons_zero, List.set_cons_succ]
    refine wpAnyZ_take (i := 13) (v := .pointer (some ⟨g, kk * 11 + 4, none⟩)) [14] rfl (by kernel_rfl) (by kernel_rfl) (by kernel_rfl) (by kernel_rfl) (fun _ _ _ h => h) (Or.inl ⟨by kernel_rfl, fun w' hSw => ?_⟩) hHeld ?_
    · have s0 := hSw.1
      have s1 := hSw.2
      clear hHeld hSw
      go_simp
    simp only [Act.put, List.getElem_toArray, List.getElem_cons_zero, List.getElem_cons_succ, List.setIfInBounds_toArray, List.set_cons_zero, List.set_cons_succ]
    refine wpAnyZ_last (i := 14) (by kernel_rfl) rfl (by kernel_rfl) (fun K' hK => ?_)
    obtain ⟨s0, s1⟩ := hHeld
    have hF := HFZ.out
    go_simp
    refine hK.out _ _ ?_
    clear hK K' hF
    try simp only [Act.put, List.getElem_toArray, List.getElem_cons_zero, List.getElem_cons_succ, List.setIfInBounds_toArray, List.set_cons_zero, List.set_cons_succ]
    refine wpAnyZ_done (by kernel_rfl) ?_ _
    go_step
    go_step
    refine wp_world (fun W => DrM w W X a1 n1 c1 a2 n2 c2 a3 n3 c3 a4 n4 c4 a5 n5 c5 s Y g cY (cY * 11) (fun j => if j = kk * 11 + 4 then .int .i64 (max 1 (IntKind.i64.wrap (gc.rated - x2))) else (fun j => if j = kk * 11 + 3 then .int .i64 (max 1 (IntKind.i64.wrap (gc.neutral - x1))) else (fun j => if j = kk * 11 + 2 then .int .i64 (max 1 (IntKind.i64.wrap (gc.limit - x0))) else F j) j) j) (X + 1) x0 x1 x2) (HDd.out.set HS.out (kk * 11 + 4) _) (fun W6aaa hWa => ?_)
    have HD := Lib.hid hWa
    have HHF : Hid (HoldsC (fun j => if j = kk * 11 + 4 then .int .i64 (max 1 (IntKind.i64.wrap (gc.rated - x2))) else (fun j => if j = kk * 11 + 3 then .int .i64 (max 1 (IntKind.i64.wrap (gc.neutral - x1))) else (fun j => if j = kk * 11 + 2 then .int .i64 (max 1 (IntKind.i64.wrap (gc.limit - x0))) else F j) j) j) (s.cons.set kk ⟨gc.name, gc.up, (max 1 (IntKind.i64.wrap (gc.limit - x0))), (max 1 (IntKind.i64.wrap (gc.neutral - x1))), (max 1 (IntKind.i64.wrap (gc.rated - x2))), gc.heat, gc.amb, gc.most, gc.gain, gc.loss, gc.den⟩)) := Lib.hid (by
      have h := HHF.out.set2 HSL.out (c'' := ⟨gc.name, gc.up, (max 1 (IntKind.i64.wrap (gc.limit - x0))), (max 1 (IntKind.i64.wrap (gc.neutral - x1))), (max 1 (IntKind.i64.wrap (gc.rated - x2))), gc.heat, gc.amb, gc.most, gc.gain, gc.loss, gc.den⟩) (j := 4) (by omega) (u := .int .i64 (max 1 (IntKind.i64.wrap (gc.rated - x2)))) rfl (fun i hi => by (rcases i with _ | _ | _ | _ | _ | i) <;> first | rfl | exact absurd rfl hi)
      exact h)
    clear hWa HDd HFZ
    have RD : Hid (∀ W, DrM w W X a1 n1 c1 a2 n2 c2 a3 n3 c3 a4 n4 c4 a5 n5 c5 s Y g cY (cY * 11) (fun j => if j = kk * 11 + 4 then .int .i64 (max 1 (IntKind.i64.wrap (gc.rated - x2))) else (fun j => if j = kk * 11 + 3 then .int .i64 (max 1 (IntKind.i64.wrap (gc.neutral - x1))) else (fun j => if j = kk * 11 + 2 then .int .i64 (max 1 (IntKind.i64.wrap (gc.limit - x0))) else F j) j) j) (X + 1) x0 x1 x2 → RdSite W (some ⟨g, 0, none⟩) a2 a3 a4 a5 n1 n2 n3 n4 n5 (setS s kk (derC gc x0 x1 x2))) := Lib.hid (fun W h => by
      have hd : derC gc x0 x1 x2 = ⟨gc.name, gc.up, (max 1 (IntKind.i64.wrap (gc.limit - x0))), (max 1 (IntKind.i64.wrap (gc.neutral - x1))), (max 1 (IntKind.i64.wrap (gc.rated - x2))), gc.heat, gc.amb, gc.most, gc.gain, gc.loss, gc.den⟩ := by unfold derC; rw [if_pos HRA.out]
      rw [hd]
      refine rdSite_set h.lw.rs (HHF.out.rd h.ow (by rw [List.length_set, HCL.out]; have := hlc; omega)) (fun g hg => ?_)
      rw [HGC.out] at hg
      injection hg with hg
      rw [← hg])
    have RC2 : Hid (∀ W, DrM w W X a1 n1 c1 a2 n2 c2 a3 n3 c3 a4 n4 c4 a5 n5 c5 s Y g cY (cY * 11) (fun j => if j = kk * 11 + 4 then .int .i64 (max 1 (IntKind.i64.wrap (gc.rated - x2))) else (fun j => if j = kk * 11 + 3 then .int .i64 (max 1 (IntKind.i64.wrap (gc.neutral - x1))) else (fun j => if j = kk * 11 + 2 then .int .i64 (max 1 (IntKind.i64.wrap (gc.limit - x0))) else F j) j) j) (X + 1) x0 x1 x2 → ∀ (i : Nat) (gx : GCon), (s.cons.set kk (derC gc x0 x1 x2))[i]? = some gx → W.cell? ⟨g, i * 11 + 2, none⟩ = some (.int .i64 gx.limit)) := Lib.hid (fun W h i gx hx => by
      have hd : derC gc x0 x1 x2 = ⟨gc.name, gc.up, (max 1 (IntKind.i64.wrap (gc.limit - x0))), (max 1 (IntKind.i64.wrap (gc.neutral - x1))), (max 1 (IntKind.i64.wrap (gc.rated - x2))), gc.heat, gc.amb, gc.most, gc.gain, gc.loss, gc.den⟩ := by unfold derC; rw [if_pos HRA.out]
      have hil := (List.getElem?_eq_some_iff.1 hx).1
      rw [List.length_set, HCL.out] at hil
      rw [hd] at hx
      exact (h.ow.cell (i := i * 11 + 2) (by have := hlc; omega)).trans (congrArg some (HHF.out i gx 2 _ hx rfl)))
    have RC3 : Hid (∀ W, DrM w W X a1 n1 c1 a2 n2 c2 a3 n3 c3 a4 n4 c4 a5 n5 c5 s Y g cY (cY * 11) (fun j => if j = kk * 11 + 4 then .int .i64 (max 1 (IntKind.i64.wrap (gc.rated - x2))) else (fun j => if j = kk * 11 + 3 then .int .i64 (max 1 (IntKind.i64.wrap (gc.neutral - x1))) else (fun j => if j = kk * 11 + 2 then .int .i64 (max 1 (IntKind.i64.wrap (gc.limit - x0))) else F j) j) j) (X + 1) x0 x1 x2 → ∀ (i : Nat) (gx : GCon), (s.cons.set kk (derC gc x0 x1 x2))[i]? = some gx → W.cell? ⟨g, i * 11 + 3, none⟩ = some (.int .i64 gx.neutral)) := Lib.hid (fun W h i gx hx => by
      have hd : derC gc x0 x1 x2 = ⟨gc.name, gc.up, (max 1 (IntKind.i64.wrap (gc.limit - x0))), (max 1 (IntKind.i64.wrap (gc.neutral - x1))), (max 1 (IntKind.i64.wrap (gc.rated - x2))), gc.heat, gc.amb, gc.most, gc.gain, gc.loss, gc.den⟩ := by unfold derC; rw [if_pos HRA.out]
      have hil := (List.getElem?_eq_some_iff.1 hx).1
      rw [List.length_set, HCL.out] at hil
      rw [hd] at hx
      exact (h.ow.cell (i := i * 11 + 3) (by have := hlc; omega)).trans (congrArg some (HHF.out i gx 3 _ hx rfl)))
    have HRE : Hid (which.tmod n1 = (kk : Int)) := HKE
    obtain ⟨FX, hFX⟩ : ∃ FX : Nat → Value, FX = (fun j => if j = kk * 11 + 4 then .int .i64 (max 1 (IntKind.i64.wrap (gc.rated - x2))) else (fun j => if j = kk * 11 + 3 then .int .i64 (max 1 (IntKind.i64.wrap (gc.neutral - x1))) else (fun j => if j = kk * 11 + 2 then .int .i64 (max 1 (IntKind.i64.wrap (gc.limit - x0))) else F j) j) j) := ⟨_, rfl⟩
    rw [← hFX] at HD RD RC2 RC3
    clear hFX HHF
    have HM := Lib.hid HD.out.lw
    have hlX : X < W6aaa.heap.size := World.block_lt_of_cell? W6aaa _ HM.out.k0
    obtain ⟨k0, k1, k2, k3, k4⟩ : W6aaa.cell? ⟨X, 0, none⟩ = some (.slice a1 n1 c1) ∧ W6aaa.cell? ⟨X, 1, none⟩ = some (.slice a2 n2 c2) ∧ W6aaa.cell? ⟨X, 2, none⟩ = some (.slice a3 n3 c3) ∧ W6aaa.cell? ⟨X, 3, none⟩ = some (.slice a4 n4 c4) ∧ W6aaa.cell? ⟨X, 4, none⟩ = some (.slice a5 n5 c5) := ⟨HM.out.k0, HM.out.k1, HM.out.k2, HM.out.k3, HM.out.k4⟩
    go_wp2_with fail
    refine (r4Valid_any a1 a2 a3 a4 a5 n1 c1 n2 c2 n3 c3 n4 c4 n5 c5 s W6aaa (Lib.hid HM.out.rs)).mono ?_
    rintro e w7 ⟨rfl, hb⟩
    have HD := Lib.hid (HD.out.keep hb)
    clear hb k0 k1 k2 k3 k4
    obtain ⟨j0, j1, j2, j3, j4⟩ := HD.out.yy
    go_wp2_with fail
    refine (r4Valid_any (some ⟨g, 0, none⟩) a2 a3 a4 a5 n1 cY n2 c2 n3 c3 n4 c4 n5 c5 (setS s kk (derC gc x0 x1 x2)) w7 (Lib.hid (RD.out w7 HD.out))).mono ?_
    rintro e w8 ⟨rfl, hb⟩
    have HD := Lib.hid (HD.out.keep hb)
    clear hb j0 j1 j2 j3 j4
    have hbel := HD.out.lw.bel
    cases hv1 : okSB keyL s
    · go_wp2_with fail
      go_ret
      exact ⟨rfl, hbel⟩
    cases hv2 : okSB keyL (setS s kk (derC gc x0 x1 x2))
    · go_wp2_with fail
      go_ret
      exact ⟨rfl, hbel⟩
    have HV1 := Lib.hid hv1
    have HV2 := Lib.hid hv2
    clear hv1 hv2 hbel
    go_wp2_with fail
    go_loopg [7, 13] n1 (fun g1 v7 v13 wr => ∃ i : Nat, v13 = .int .i64 i ∧ i ≤ n1 ∧ n1 - i ≤ g1 ∧ v7 = .bool true ∧ Hid (DrM w wr X a1 n1 c1 a2 n2 c2 a3 n3 c3 a4 n4 c4 a5 n5 c5 s Y g cY (cY * 11) FX (X + 1) x0 x1 x2))
    case atStart => exact ⟨0, by go_num, by omega, by omega, rfl, HD⟩
    case round =>
      obtain ⟨i, rfl, hi, hg1, rfl, HD⟩ := hrel
      have HM := Lib.hid HD.out.lw
      have hlX : X < wr.heap.size := World.block_lt_of_cell? wr _ HM.out.k0
      obtain ⟨k0, k1, k2, k3, k4⟩ : wr.cell? ⟨X, 0, none⟩ = some (.slice a1 n1 c1) ∧ wr.cell? ⟨X, 1, none⟩ = some (.slice a2 n2 c2) ∧ wr.cell? ⟨X, 2, none⟩ = some (.slice a3 n3 c3) ∧ wr.cell? ⟨X, 3, none⟩ = some (.slice a4 n4 c4) ∧ wr.cell? ⟨X, 4, none⟩ = some (.slice a5 n5 c5) := ⟨HM.out.k0, HM.out.k1, HM.out.k2, HM.out.k3, HM.out.k4⟩
      by_cases hlt : i < n1
      · have hltz : (i : Int) < (n1 : Int) := by omega
        have HCO : Hid (okCo s (i : Int) = true) := Lib.hid (okCo_yes HV1.out ⟨by omega, by have := HCL.out; omega⟩)
        have HCO2 : Hid (okCo (setS s kk (derC gc x0 x1 x2)) (i : Int) = true) := Lib.hid (okCo_yes HV2.out ⟨by omega, by show (i : Int) < ((s.cons.set kk (derC gc x0 x1 x2)).length : Nat); rw [List.length_set]; have := HCL.out; omega⟩)
        go_wp2_with fail
        refine (limLimit_any a1 a2 a3 a4 a5 n1 c1 n2 c2 n3 c3 n4 c4 n5 c5 s (i : Int) wr (Lib.hid HM.out.rs)).mono ?_
        rintro e w9 ⟨rfl, hb⟩
        rw [limO_yes HCO.out, HCO.out, errT, Int.toNat_natCast]
        have HD := Lib.hid (HD.out.keep hb)
        clear hb k0 k1 k2 k3 k4 HM hlX
        obtain ⟨j0, j1, j2, j3, j4⟩ := HD.out.yy
        go_wp2_with fail
        refine (limLimit_any (some ⟨g, 0, none⟩) a2 a3 a4 a5 n1 cY n2 c2 n3 c3 n4 c4 n5 c5 (setS s kk (derC gc x0 x1 x2)) (i : Int) w9 (Lib.hid (RD.out w9 HD.out))).mono ?_
        rintro e wa ⟨rfl, hb⟩
        rw [limO_yes HCO2.out, HCO2.out, errT, Int.toNat_natCast]
        have HD := Lib.hid (HD.out.keep hb)
        clear hb j0 j1 j2 j3 j4
        have HLA : Hid (limAt (setS s kk (derC gc x0 x1 x2)) i = if i = kk then limV (derC gc x0 x1 x2) else limAt s i) := Lib.hid (limAt_set HSL.out i)
        have hgi : ∃ gi, s.cons[i]? = some gi := ⟨_, List.getElem?_eq_getElem (by have := HCL.out; omega)⟩
        obtain ⟨gi, hgi⟩ := hgi
        obtain ⟨gx, hgx, hl2, hl3⟩ : ∃ gx : GCon, (s.cons.set kk (derC gc x0 x1 x2))[i]? = some gx ∧ limAt (setS s kk (derC gc x0 x1 x2)) i ≤ gx.limit ∧ limAt (setS s kk (derC gc x0 x1 x2)) i ≤ gx.neutral := by
          have h1 : i < (s.cons.set kk (derC gc x0 x1 x2)).length := by rw [List.length_set]; have := HCL.out; omega
          refine ⟨_, List.getElem?_eq_getElem h1, ?_, ?_⟩
          all_goals
            unfold limAt setS
            dsimp only
            rw [List.getElem?_eq_getElem h1]
          · exact (limV_limit _).1
          · exact (limV_limit _).2.1
        have hle : limAt (setS s kk (derC gc x0 x1 x2)) i ≤ limAt s i ∧ (i ≠ kk → limAt (setS s kk (derC gc x0 x1 x2)) i = limAt s i) := by
          rw [HLA.out]
          by_cases e : i = kk
          · rw [if_pos e]
            refine ⟨?_, fun h => absurd e h⟩
            have hoc : OkC gc := (okSB_iff.1 HV1.out).okC HGC.out
            have h2 := limV_der hoc HB0.out HB1.out HB2.out
            unfold limAt
            rw [e, HGC.out]
            exact h2
          · rw [if_neg e]
            exact ⟨Int.le_refl _, fun _ => rfl⟩
        obtain ⟨la, hla⟩ : ∃ x, x = limAt s i := ⟨_, rfl⟩
        obtain ⟨lb, hlb⟩ : ∃ x, x = limAt (setS s kk (derC gc x0 x1 x2)) i := ⟨_, rfl⟩
        rw [← hla, ← hlb]
        rw [← hla, ← hlb] at hle
        rw [← hlb] at hl2 hl3
        obtain ⟨hle1, hle2⟩ := hle
        have d2 : wa.cell? ⟨g, i * 11 + 2, none⟩ = some (.int .i64 gx.limit) := RC2.out wa HD.out i gx hgx
        have d3 : wa.cell? ⟨g, i * 11 + 3, none⟩ = some (.int .i64 gx.neutral) := RC3.out wa HD.out i gx hgx
        have j0 := HD.out.yy.1
        have k0 := HD.out.lw.k0
        generalize gx.limit = lx at *
        generalize gx.neutral = nx at *
        have q0 : decide (lb ≤ la) = true := decide_eq_true hle1
        have q2 : decide (lb ≤ lx) = true := decide_eq_true hl2
        have q3 : decide (lb ≤ nx) = true := decide_eq_true hl3
        clear hla hlb hgx hgi HLA
        have HIK : Hid (i = kk ↔ (i : Int) = (kk : Int)) := Lib.hid (by omega)
        by_cases hab : la = lb
        · subst hab
          have q4 : decide (la = la) = true := decide_eq_true rfl
          have q5 : (la == la) = true := by simp
          clear hle2 HIK
          go_wp2_with fail
          go_roundg (n1 - (i + 1))
          case measure => omega
          case rel => exact ⟨i + 1, by go_num, by omega, by omega, rfl, HD⟩
        · have hik : i = kk := by
            rcases Nat.decEq i kk with h | h
            · exact absurd (hle2 h).symm hab
            · exact h
          subst hik
          have q4 : decide (la = lb) = false := decide_eq_false hab
          have q5 : (la == lb) = false := by simpa using hab
          have q6 : decide ((i : Int) = (i : Int)) = true := decide_eq_true rfl
          have hrem := HRE.out
          clear hle2 HIK
          go_wp2_with fail
          go_roundg (n1 - (i + 1))
          case measure => omega
          case rel => exact ⟨i + 1, by go_num, by omega, by omega, rfl, HD⟩
      · have hltz : ¬ (i : Int) < (n1 : Int) := by omega
        go_wp2_with fail
        go_ret
        exact ⟨rfl, HD.out.lw.bel⟩
  · have HRA := Lib.hid hra
    have RD : Hid (∀ W, DrM w W X a1 n1 c1 a2 n2 c2 a3 n3 c3 a4 n4 c4 a5 n5 c5 s Y g cY (cY * 11) (fun j => if j = kk * 11 + 3 then .int .i64 (max 1 (IntKind.i64.wrap (gc.neutral - x1))) else (fun j => if j = kk * 11 + 2 then .int .i64 (max 1 (IntKind.i64.wrap (gc.limit - x0))) else F j) j) (X + 1) x0 x1 x2 → RdSite W (some ⟨g, 0, none⟩) a2 a3 a4 a5 n1 n2 n3 n4 n5 (setS s kk (derC gc x0 x1 x2))) := Lib.hid (fun W h => by
      have hd : derC gc x0 x1 x2 = ⟨gc.name, gc.up, (max 1 (IntKind.i64.wrap (gc.limit - x0))), (max 1 (IntKind.i64.wrap (gc.neutral - x1))), gc.rated, gc.heat, gc.amb, gc.most, gc.gain, gc.loss, gc.den⟩ := by unfold derC; rw [if_neg (show ¬ 0 < gc.rated by have := HRA.out; omega)]
      rw [hd]
      refine rdSite_set h.lw.rs (HHF.out.rd h.ow (by rw [List.length_set, HCL.out]; have := hlc; omega)) (fun g hg => ?_)
      rw [HGC.out] at hg
      injection hg with hg
      rw [← hg])
    have RC2 : Hid (∀ W, DrM w W X a1 n1 c1 a2 n2 c2 a3 n3 c3 a4 n4 c4 a5 n5 c5 s Y g cY (cY * 11) (fun j => if j = kk * 11 + 3 then .int .i64 (max 1 (IntKind.i64.wrap (gc.neutral - x1))) else (fun j => if j = kk * 11 + 2 then .int .i64 (max 1 (IntKind.i64.wrap (gc.limit - x0))) else F j) j) (X + 1) x0 x1 x2 → ∀ (i : Nat) (gx : GCon), (s.cons.set kk (derC gc x0 x1 x2))[i]? = some gx → W.cell? ⟨g, i * 11 + 2, none⟩ = some (.int .i64 gx.limit)) := Lib.hid (fun W h i gx hx => by
      have hd : derC gc x0 x1 x2 = ⟨gc.name, gc.up, (max 1 (IntKind.i64.wrap (gc.limit - x0))), (max 1 (IntKind.i64.wrap (gc.neutral - x1))), gc.rated, gc.heat, gc.amb, gc.most, gc.gain, gc.loss, gc.den⟩ := by unfold derC; rw [if_neg (show ¬ 0 < gc.rated by have := HRA.out; omega)]
      have hil := (List.getElem?_eq_some_iff.1 hx).1
      rw [List.length_set, HCL.out] at hil
      rw [hd] at hx
      exact (h.ow.cell (i := i * 11 + 2) (by have := hlc; omega)).trans (congrArg some (HHF.out i gx 2 _ hx rfl)))
    have RC3 : Hid (∀ W, DrM w W X a1 n1 c1 a2 n2 c2 a3 n3 c3 a4 n4 c4 a5 n5 c5 s Y g cY (cY * 11) (fun j => if j = kk * 11 + 3 then .int .i64 (max 1 (IntKind.i64.wrap (gc.neutral - x1))) else (fun j => if j = kk * 11 + 2 then .int .i64 (max 1 (IntKind.i64.wrap (gc.limit - x0))) else F j) j) (X + 1) x0 x1 x2 → ∀ (i : Nat) (gx : GCon), (s.cons.set kk (derC gc x0 x1 x2))[i]? = some gx → W.cell? ⟨g, i * 11 + 3, none⟩ = some (.int .i64 gx.neutral)) := Lib.hid (fun W h i gx hx => by
      have hd : derC gc x0 x1 x2 = ⟨gc.name, gc.up, (max 1 (IntKind.i64.wrap (gc.limit - x0))), (max 1 (IntKind.i64.wrap (gc.neutral - x1))), gc.rated, gc.heat, gc.amb, gc.most, gc.gain, gc.loss, gc.den⟩ := by unfold derC; rw [if_neg (show ¬ 0 < gc.rated by have := HRA.out; omega)]
      have hil := (List.getElem?_eq_some_iff.1 hx).1
      rw [List.length_set, HCL.out] at hil
      rw [hd] at hx
      exact (h.ow.cell (i := i * 11 + 3) (by have := hlc; omega)).trans (congrArg some (HHF.out i gx 3 _ hx rfl)))
    have HRE : Hid (which.tmod n1 = (kk : Int)) := HKE
    obtain ⟨FX, hFX⟩ : ∃ FX : Nat → Value, FX = (fun j => if j = kk * 11 + 3 then .int .i64 (max 1 (IntKind.i64.wrap (gc.neutral - x1))) else (fun j => if j = kk * 11 + 2 then .int .i64 (max 1 (IntKind.i64.wrap (gc.limit - x0))) else F j) j) := ⟨_, rfl⟩
    rw [← hFX] at HD RD RC2 RC3
    clear hFX HHF
    have HM := Lib.hid HD.out.lw
    have hlX : X < W6aa.heap.size := World.block_lt_of_cell? W6aa _ HM.out.k0
    obtain ⟨k0, k1, k2, k3, k4⟩ : W6aa.cell? ⟨X, 0, none⟩ = some (.slice a1 n1 c1) ∧ W6aa.cell? ⟨X, 1, none⟩ = some (.slice a2 n2 c2) ∧ W6aa.cell? ⟨X, 2, none⟩ = some (.slice a3 n3 c3) ∧ W6aa.cell? ⟨X, 3, none⟩ = some (.slice a4 n4 c4) ∧ W6aa.cell? ⟨X, 4, none⟩ = some (.slice a5 n5 c5) := ⟨HM.out.k0, HM.out.k1, HM.out.k2, HM.out.k3, HM.out.k4⟩
    go_wp2_with fail
    clear v0 hra
    refine (r4Valid_any a1 a2 a3 a4 a5 n1 c1 n2 c2 n3 c3 n4 c4 n5 c5 s W6aa (Lib.hid HM.out.rs)).mono ?_
    rintro e w7 ⟨rfl, hb⟩
    have HD := Lib.hid (HD.out.keep hb)
    clear hb k0 k1 k2 k3 k4
    obtain ⟨j0, j1, j2, j3, j4⟩ := HD.out.yy
    go_wp2_with fail
    refine (r4Valid_any (some ⟨g, 0, none⟩) a2 a3 a4 a5 n1 cY n2 c2 n3 c3 n4 c4 n5 c5 (setS s kk (derC gc x0 x1 x2)) w7 (Lib.hid (RD.out w7 HD.out))).mono ?_
    rintro e w8 ⟨rfl, hb⟩
    have HD := Lib.hid (HD.out.keep hb)
    clear hb j0 j1 j2 j3 j4
    have hbel := HD.out.lw.bel
    cases hv1 : okSB keyL s
    · go_wp2_with fail
      go_ret
      exact ⟨rfl, hbel⟩
    cases hv2 : okSB keyL (setS s kk (derC gc x0 x1 x2))
    · go_wp2_with fail
      go_ret
      exact ⟨rfl, hbel⟩
    have HV1 := Lib.hid hv1
    have HV2 := Lib.hid hv2
    clear hv1 hv2 hbel
    go_wp2_with fail
    go_loopg [7, 13] n1 (fun g1 v7 v13 wr => ∃ i : Nat, v13 = .int .i64 i ∧ i ≤ n1 ∧ n1 - i ≤ g1 ∧ v7 = .bool true ∧ Hid (DrM w wr X a1 n1 c1 a2 n2 c2 a3 n3 c3 a4 n4 c4 a5 n5 c5 s Y g cY (cY * 11) FX (X + 1) x0 x1 x2))
    case atStart => exact ⟨0, by go_num, by omega, by omega, rfl, HD⟩
    case round =>
      obtain ⟨i, rfl, hi, hg1, rfl, HD⟩ := hrel
      have HM := Lib.hid HD.out.lw
      have hlX : X < wr.heap.size := World.block_lt_of_cell? wr _ HM.out.k0
      obtain ⟨k0, k1, k2, k3, k4⟩ : wr.cell? ⟨X, 0, none⟩ = some (.slice a1 n1 c1) ∧ wr.cell? ⟨X, 1, none⟩ = some (.slice a2 n2 c2) ∧ wr.cell? ⟨X, 2, none⟩ = some (.slice a3 n3 c3) ∧ wr.cell? ⟨X, 3, none⟩ = some (.slice a4 n4 c4) ∧ wr.cell? ⟨X, 4, none⟩ = some (.slice a5 n5 c5) := ⟨HM.out.k0, HM.out.k1, HM.out.k2, HM.out.k3, HM.out.k4⟩
      by_cases hlt : i < n1
      · have hltz : (i : Int) < (n1 : Int) := by omega
        have HCO : Hid (okCo s (i : Int) = true) := Lib.hid (okCo_yes HV1.out ⟨by omega, by have := HCL.out; omega⟩)
        have HCO2 : Hid (okCo (setS s kk (derC gc x0 x1 x2)) (i : Int) = true) := Lib.hid (okCo_yes HV2.out ⟨by omega, by show (i : Int) < ((s.cons.set kk (derC gc x0 x1 x2)).length : Nat); rw [List.length_set]; have := HCL.out; omega⟩)
        go_wp2_with fail
        refine (limLimit_any a1 a2 a3 a4 a5 n1 c1 n2 c2 n3 c3 n4 c4 n5 c5 s (i : Int) wr (Lib.hid HM.out.rs)).mono ?_
        rintro e w9 ⟨rfl, hb⟩
        rw [limO_yes HCO.out, HCO.out, errT, Int.toNat_natCast]
        have HD := Lib.hid (HD.out.keep hb)
        clear hb k0 k1 k2 k3 k4 HM hlX
        obtain ⟨j0, j1, j2, j3, j4⟩ := HD.out.yy
        go_wp2_with fail
        refine (limLimit_any (some ⟨g, 0, none⟩) a2 a3 a4 a5 n1 cY n2 c2 n3 c3 n4 c4 n5 c5 (setS s kk (derC gc x0 x1 x2)) (i : Int) w9 (Lib.hid (RD.out w9 HD.out))).mono ?_
        rintro e wa ⟨rfl, hb⟩
        rw [limO_yes HCO2.out, HCO2.out, errT, Int.toNat_natCast]
        have HD := Lib.hid (HD.out.keep hb)
        clear hb j0 j1 j2 j3 j4
        have HLA : Hid (limAt (setS s kk (derC gc x0 x1 x2)) i = if i = kk then limV (derC gc x0 x1 x2) else limAt s i) := Lib.hid (limAt_set HSL.out i)
        have hgi : ∃ gi, s.cons[i]? = some gi := ⟨_, List.getElem?_eq_getElem (by have := HCL.out; omega)⟩
        obtain ⟨gi, hgi⟩ := hgi
        obtain ⟨gx, hgx, hl2, hl3⟩ : ∃ gx : GCon, (s.cons.set kk (derC gc x0 x1 x2))[i]? = some gx ∧ limAt (setS s kk (derC gc x0 x1 x2)) i ≤ gx.limit ∧ limAt (setS s kk (derC gc x0 x1 x2)) i ≤ gx.neutral := by
          have h1 : i < (s.cons.set kk (derC gc x0 x1 x2)).length := by rw [List.length_set]; have := HCL.out; omega
          refine ⟨_, List.getElem?_eq_getElem h1, ?_, ?_⟩
          all_goals
            unfold limAt setS
            dsimp only
            rw [List.getElem?_eq_getElem h1]
          · exact (limV_limit _).1
          · exact (limV_limit _).2.1
        have hle : limAt (setS s kk (derC gc x0 x1 x2)) i ≤ limAt s i ∧ (i ≠ kk → limAt (setS s kk (derC gc x0 x1 x2)) i = limAt s i) := by
          rw [HLA.out]
          by_cases e : i = kk
          · rw [if_pos e]
            refine ⟨?_, fun h => absurd e h⟩
            have hoc : OkC gc := (okSB_iff.1 HV1.out).okC HGC.out
            have h2 := limV_der hoc HB0.out HB1.out HB2.out
            unfold limAt
            rw [e, HGC.out]
            exact h2
          · rw [if_neg e]
            exact ⟨Int.le_refl _, fun _ => rfl⟩
        obtain ⟨la, hla⟩ : ∃ x, x = limAt s i := ⟨_, rfl⟩
        obtain ⟨lb, hlb⟩ : ∃ x, x = limAt (setS s kk (derC gc x0 x1 x2)) i := ⟨_, rfl⟩
        rw [← hla, ← hlb]
        rw [← hla, ← hlb] at hle
        rw [← hlb] at hl2 hl3
        obtain ⟨hle1, hle2⟩ := hle
        have d2 : wa.cell? ⟨g, i * 11 + 2, none⟩ = some (.int .i64 gx.limit) := RC2.out wa HD.out i gx hgx
        have d3 : wa.cell? ⟨g, i * 11 + 3, none⟩ = some (.int .i64 gx.neutral) := RC3.out wa HD.out i gx hgx
        have j0 := HD.out.yy.1
        have k0 := HD.out.lw.k0
        generalize gx.limit = lx at *
        generalize gx.neutral = nx at *
        have q0 : decide (lb ≤ la) = true := decide_eq_true hle1
        have q2 : decide (lb ≤ lx) = true := decide_eq_true hl2
        have q3 : decide (lb ≤ nx) = true := decide_eq_true hl3
        clear hla hlb hgx hgi HLA
        have HIK : Hid (i = kk ↔ (i : Int) = (kk : Int)) := Lib.hid (by omega)
        by_cases hab : la = lb
        · subst hab
          have q4 : decide (la = la) = true := decide_eq_true rfl
          have q5 : (la == la) = true := by simp
          clear hle2 HIK
          go_wp2_with fail
          go_roundg (n1 - (i + 1))
          case measure => omega
          case rel => exact ⟨i + 1, by go_num, by omega, by omega, rfl, HD⟩
        · have hik : i = kk := by
            rcases Nat.decEq i kk with h | h
            · exact absurd (hle2 h).symm hab
            · exact h
          subst hik
          have q4 : decide (la = lb) = false := decide_eq_false hab
          have q5 : (la == lb) = false := by simpa using hab
          have q6 : decide ((i : Int) = (i : Int)) = true := decide_eq_true rfl
          have hrem := HRE.out
          clear hle2 HIK
          go_wp2_with fail
          go_roundg (n1 - (i + 1))
          case measure => omega
          case rel => exact ⟨i + 1, by go_num, by omega, by omega, rfl, HD⟩
      · have hltz : ¬ (i : Int) < (n1 : Int) := by omega
        go_wp2_with fail
        go_ret
        exact ⟨rfl, HD.out.lw.bel⟩
end Go.Proofs.Ytbalhbpaholakaa
