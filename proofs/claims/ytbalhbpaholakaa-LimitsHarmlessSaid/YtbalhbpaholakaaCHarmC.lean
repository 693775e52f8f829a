/-
fuse.Melts: a fuse that does not melt.
-/
import Derived.Test.YtbalhbpaholakaaCHarmB
namespace Go.Proofs.Ytbalhbpaholakaa
open Go.RowKit Go.Shelf
attribute [local go_sem] Oper.semAt_some
set_option linter.unusedVariables false
set_option linter.unusedSimpArgs false
theorem results_c2 {P : Program} {fn : Func} {a b : Tmp} {ta tb : TypeId} {tmps : Array Value} {ba bb : Nat} {u v : Value} {w : World} (h : fn.results = #[.cell a ta, .cell b tb]) (ha : tmps.getD a undef = .pointer (some ⟨ba, 0, none⟩)) (hb : tmps.getD b undef = .pointer (some ⟨bb, 0, none⟩))
    (hla : (loadVar ta ⟨ba, 0, none⟩).run P w = .ok u w) (hlb : (loadVar tb ⟨bb, 0, none⟩).run P w = .ok v w) :
    (results fn tmps).run P w = .ok (.tuple #[u, v]) w := by
  have ha' : tmps[a]?.getD undef = .pointer (some ⟨ba, 0, none⟩) := by simpa using ha
  have hb' : tmps[b]?.getD undef = .pointer (some ⟨bb, 0, none⟩) := by simpa using hb
  simp [results, h, ha', hb', hla, hlb, asAddr]
theorem load_intH {W : World} {b : Nat} {v : Int} (h : Own W b 3 1 (fun _ => .int .i64 v)) : (loadVar 3 ⟨b, 0, none⟩).run Try.prog W = .ok (.int .i64 v) W := by
  have c0 : W.cell? ⟨b, 0, none⟩ = some (.int .i64 v) := h.cell (i := 0) (by omega)
  go_simp
theorem Own.takenH {w w' : World} {g : Nat} {t : TypeId} {n : Nat} {f : Nat → Value} {B : Nat} (h : Own w g t n f) (hT : Taken B w w') : Own w' g t n f := by
  obtain ⟨cs, hb, hs, hc⟩ := h
  exact ⟨cs, hT.2.2.2.2.2 g _ hb rfl, hs, hc⟩
def FkA (w : World) (M : Nat) (x : Nat) (a' : Act) : Prop := ∃ u0 u1 u3 u6 u7 u10 u11 u12 u13 u14 u15 u16 u17 u18 u19 u20 u21 u22 u23 u24 u25 u26 u27 u28 u29 u30 u31 u32 u33 u34 u35 u36, a' = ⟨List.toArray (u0 :: u1 :: (.pointer (some ⟨w.heap.size, 0, none⟩)) :: u3 :: (.pointer (some ⟨w.heap.size + 1, 0, none⟩)) :: (.pointer (some ⟨w.heap.size + 2, 0, none⟩)) :: u6 :: u7 :: (.pointer (some ⟨M, 0, none⟩)) :: (.int .i64 (x : Nat)) :: u10 :: u11 :: u12 :: u13 :: u14 :: u15 :: u16 :: u17 :: u18 :: u19 :: u20 :: u21 :: u22 :: u23 :: u24 :: u25 :: u26 :: u27 :: u28 :: u29 :: u30 :: u31 :: u32 :: u33 :: u34 :: u35 :: u36 :: []), []⟩
structure FkM (w W : World) (b M : Nat) (c : GCon) : Prop where
  o1 : Own W (w.heap.size + 1) 3 1 (fun _ => .int .i64 0)
  o2 : Own W (w.heap.size + 2) 32 1 (fun _ => .int .i64 0)
  ow : Own W b 112 3 (wfF c)
  km : W.cell? ⟨M, 0, none⟩ = some (.pointer (some ⟨b, 0, none⟩))
  bel : Below w.heap.size w W
theorem FkM.nc {w W W' : World} {b M B : Nat} {c : GCon} (h : FkM w W b M c) (hn : Nc B W W') (hB : w.heap.size ≤ B) : FkM w W' b M c :=
  ⟨h.o1.nc hn, h.o2.nc hn, h.ow.nc hn, cell_nc1 h.km hn, below_nc h.bel (Nat.le_refl _) hn hB⟩
theorem FkM.keep {w W W' : World} {b M : Nat} {c : GCon} (h : FkM w W b M c) (hb : Below W.heap.size W W') : FkM w W' b M c :=
  ⟨h.o1.keep hb h.o1.lt, h.o2.keep hb h.o2.lt, h.ow.keep hb h.ow.lt, (hb.cell (p := ⟨M, 0, none⟩) (World.block_lt_of_cell? _ _ h.km)).trans h.km, below_then h.bel hb⟩
set_option maxRecDepth 100000 in
set_option maxHeartbeats 8000000 in
theorem fuMelts_ok (c : GCon) (hc : OkC c) (A : Option Addr) (n cA : Nat) (xs : List Int) (w : World) (HX : Hid (Rd 1 encI w A xs)) (HN : Hid (xs.length = n)) (hn : n ≤ 10000) (HIN : Hid (∀ i, i < n → (0 ≤ fI xs i ∧ fI xs i ≤ 1000) ∧ (c.rated = 0 ∨ fI xs i ≤ c.rated))) (HAB : Hid (∀ a, A = some a → a.block < w.heap.size)) :
    Calls Try.prog 27 #[.agg #[.int .i64 c.rated, .int .i64 c.heat], .slice A n cA] w fun e w' => e = .returned (.tuple #[.int .i64 (-1), .int .i64 0]) ∧ Below w.heap.size w w' := by
  obtain ⟨W0, hW0⟩ : ∃ W0, W0 = ((w.alloc (.cells #[.int .i64 c.rated, .int .i64 c.heat] 51)).alloc (.cells #[.int .i64 0] 3)).alloc (.cells #[.int .i64 0] 32) := ⟨_, rfl⟩
  have b0 : Below w.heap.size w W0 := by rw [hW0]; exact (((Below.refl _ w).alloc (Nat.le_refl _) _).alloc (by simp) _).alloc (by simp; omega) _
  have q0 : W0.cell? ⟨w.heap.size, 0, none⟩ = some (.int .i64 c.rated) := by rw [hW0]; go_simp
  have q1 : W0.cell? ⟨w.heap.size, 1, none⟩ = some (.int .i64 c.heat) := by rw [hW0]; go_simp
  have o1 : Own W0 (w.heap.size + 1) 3 1 (fun _ => .int .i64 0) := by
    have h := Own.one (w.alloc (.cells #[.int .i64 c.rated, .int .i64 c.heat] 51)) 3 (.int .i64 0)
    rw [World.size_alloc] at h
    rw [hW0]; exact h.alloc _
  have o2 : Own W0 (w.heap.size + 2) 32 1 (fun _ => .int .i64 0) := by
    have h := Own.one ((w.alloc (.cells #[.int .i64 c.rated, .int .i64 c.heat] 51)).alloc (.cells #[.int .i64 0] 3)) 32 (.int .i64 0)
    rw [World.size_alloc, World.size_alloc] at h
    rw [hW0]; exact h
  have z0 : W0.heap.size = w.heap.size + 3 := by rw [hW0]; simp
  have HV := Lib.hid (fuValid_ok c hc W0)
  have HOC := Lib.hid hc
  have HR : Hid (c.rated = 0 ∨ (1 ≤ c.rated ∧ c.rated ≤ 1000)) := Lib.hid (by rcases hc.fuse with h | h; exact .inl h.1; exact .inr h.1)
  have HH : Hid (0 ≤ c.heat) := Lib.hid (by rcases hc.fuse with h | h <;> omega)
  have HW0 := Lib.hid hW0
  clear hW0 hc
  refine (callsIn_wide (n := 5)).1 ?_
  refine callsIn_of_wp_marks Try.func27 rfl trivial ?_ rfl
  refine wpIn_wide.2 ?_
  simp only [Try.ntmps27, List.size_toArray, List.length_cons, List.length_nil, Nat.reduceAdd, Nat.reduceSub, Array.replicate_succ, Array.replicate_zero, List.push_toArray, List.append_toArray, List.nil_append, List.cons_append]
  have hnz : ¬ (10000 : Int) < (n : Int) := by omega
  go_wp2_with fail
  rw [← HW0.out]
  refine HV.out.mono ?_
  rintro e w1 ⟨rfl, hb1⟩
  have HBB := Lib.hid (below_then b0 hb1)
  have HZ1 : Hid (w.heap.size + 3 ≤ w1.heap.size) := Lib.hid (by have := hb1.size; omega)
  have HO1 := Lib.hid (o1.keep hb1 o1.lt)
  have HO2 := Lib.hid (o2.keep hb1 o2.lt)
  have p0 := (hb1.cell (p := ⟨w.heap.size, 0, none⟩) (World.block_lt_of_cell? _ _ q0)).trans q0
  have p1 := (hb1.cell (p := ⟨w.heap.size, 1, none⟩) (World.block_lt_of_cell? _ _ q1)).trans q1
  clear HV b0 hb1 o1 o2 q0 q1 HW0 z0
  go_wp2_with fail
  go_loopg [18] n (fun g1 v18 wr => ∃ k : Nat, v18 = .int .i64 k ∧ k ≤ n ∧ n - k ≤ g1 ∧ w1 = wr)
  case atStart => exact ⟨0, by go_num, by omega, by omega, rfl⟩
  case round =>
    obtain ⟨k, rfl, hk, hg1, rfl⟩ := hrel
    by_cases hlt : k < n
    · have hltz : (k : Int) < (n : Int) := by omega
      obtain ⟨bA, off, hA, hb, hc⟩ := HX.out.int (k := k) (by rw [HN.out]; exact hlt)
      have hc' : w1.cell? ⟨bA, off + k, none⟩ = some (.int .i64 (fI xs k)) := (HBB.out.cell (p := ⟨bA, off + k, none⟩) hb).trans hc
      obtain ⟨⟨h1, h2⟩, _⟩ := HIN.out k hlt
      have HCU := Lib.hid (fuIsCur_yes (fI xs k) h1 h2 w1)
      subst hA
      clear hc h1 h2 hb
      generalize fI xs k = y at *
      go_wp2_with fail
      refine HCU.out.mono ?_
      rintro e w2 ⟨rfl, hw⟩
      subst w2
      go_wp2_with fail
      go_roundg (n - (k + 1))
      case measure => omega
      case rel => exact ⟨k + 1, by go_num, by omega, by omega, rfl⟩
    · have hltz : ¬ (k : Int) < (n : Int) := by omega
      clear hg1
      go_wp2_with fail
      obtain ⟨w2, hw2⟩ : ∃ w2, w2 = (w1.alloc (.cells #[.int .i64 c.rated, .int .i64 c.heat, .int .i64 0] 112)).alloc (.cells #[.pointer (some ⟨w1.heap.size, 0, none⟩)] 110) := ⟨_, rfl⟩
      have b2 : Below w1.heap.size w1 w2 := by rw [hw2]; exact ((Below.refl _ w1).alloc (Nat.le_refl _) _).alloc (by simp) _
      have ow2 : Own w2 w1.heap.size 112 3 (wfF c) := by
        rw [hw2]
        exact (Own.newAt w1 112 _ w1.heap.size rfl rfl (fun i hi => by match i, hi with | 0, _ => rfl | 1, _ => rfl | 2, _ => rfl)).alloc _
      have km2 : w2.cell? ⟨w1.heap.size + 1, 0, none⟩ = some (.pointer (some ⟨w1.heap.size, 0, none⟩)) := by rw [hw2]; go_simp
      have HM2 : Hid (FkM w w2 w1.heap.size (w1.heap.size + 1) c) := Lib.hid ⟨HO1.out.keep b2 HO1.out.lt, HO2.out.keep b2 HO2.out.lt, ow2, km2, below_then HBB.out b2⟩
      rw [← hw2]
      clear hw2 ow2
      refine (fuHeats_any w1.heap.size A n cA w2).mono ?_
      rintro e w3 ⟨rfl, hw3⟩
      have b3 : Below w2.heap.size w2 w3 := by rw [hw3]; exact ((Below.refl _ w2).alloc (Nat.le_refl _) _).alloc (by simp) _
      have z1 : w3.cell? ⟨w2.heap.size + 1, 0, none⟩ = some (.slice A n cA) := by rw [hw3]; go_simp
      have z2 : w3.cell? ⟨w2.heap.size, 0, none⟩ = some (.pointer (some ⟨w1.heap.size, 0, none⟩)) := by rw [hw3]; go_simp
      have HM3 := Lib.hid (HM2.out.keep b3)
      have hws : w.heap.size ≤ w3.heap.size := HM3.out.bel.size
      have HZ3 : Hid (w.heap.size + 3 ≤ w3.heap.size) := Lib.hid (by have := HZ1.out; have := b2.size; have := b3.size; omega)
      obtain ⟨b, hb⟩ : ∃ b, b = w1.heap.size := ⟨_, rfl⟩
      rw [← hb] at HM3 z2 ⊢
      have HX3 := Lib.hid (HX.out.keep HM3.out.bel)
      clear hw3 b2 b3 HM2 p0 p1 km2 HBB HO1 HO2 HZ1 hb
      go_wp2_with fail
      refine range_heats HR.out HN.out (by omega) HIN.out (g := .tmp 31) (p := 32) (q := 33) (w2.heap.size + 1) w2.heap.size b w.heap.size rfl z1 HM3.out.ow HX3.out HAB.out z2 hws (fun pre W' => FkM w W' b (b + 1) c) ?hI HM3.out (fun x a' => FkA w (b + 1) x.1 a') ?assign ?body ?done
      case hI => exact fun pre W W' h hn => h.nc hn hws
      case assign =>
        intro l x W1 K hK
        gi_wp2
        exact ⟨_, _, _, _, _, _, _, _, _, _, _, _, _, _, _, _, _, _, _, _, _, _, _, _, _, _, _, _, _, _, _, _, rfl⟩
      case body =>
        rintro l pre ⟨k, hk⟩ a' W1 m ⟨u0, u1, u3, u6, u7, u10, u11, u12, u13, u14, u15, u16, u17, u18, u19, u20, u21, u22, u23, u24, u25, u26, u27, u28, u29, u30, u31, u32, u33, u34, u35, u36, rfl⟩ hlen
        have HM := Lib.hid m
        have km := m.km
        have HME := Lib.hid (fuMelted_no b c HH.out W1 (m.ow.cell (i := 1) (by omega)) (m.ow.cell (i := 2) (by omega)))
        dsimp only at hlen ⊢
        clear m
        gi_wp2
        refine ⟨trivial, CallsIn.inRound l (callsIn_wide.2 (HME.out.mono ?_))⟩
        rintro e w4 ⟨rfl, q4, hw4⟩
        subst w4
        have HP : Hid (KeepsFrom w3.heap.size W1 (W1.drewN q4) ∧ KpH w.heap.size b w2.heap.size W1 (W1.drewN q4) ∧ FkM w (W1.drewN q4) b (b + 1) c) := Lib.hid
          ⟨keepsFrom_below (below_drewG _ (Below.refl _ _)), ⟨below_drewG _ (Below.refl _ _), rfl, rfl⟩, HM.out.keep (below_drewG _ (Below.refl _ _))⟩
        clear HME km
        gi_wp2
        exact HP.out
      case done =>
        intro D ys W1 hD hS m hdf
        have c10 := m.o1.cell (i := 0) (by omega)
        have c20 := m.o2.cell (i := 0) (by omega)
        have f1 := m.o1.frozen 0
        have f2 := m.o2.frozen 0
        have HZZ : Hid (w.heap.size ≠ w.heap.size + 1) := Lib.hid (by omega)
        have hmd : Mod (fun j => j = w.heap.size + 1 ∨ j = w.heap.size + 2) W1 ((W1.setCell ⟨w.heap.size + 1, 0, none⟩ (.int .i64 (-1))).setCell ⟨w.heap.size + 2, 0, none⟩ (.int .i64 0)) := ((show Mod (fun j => j = w.heap.size + 1 ∨ j = w.heap.size + 2) W1 W1 from Mod.refl _ W1).setCell (p := ⟨w.heap.size + 1, 0, none⟩) (.inl (.inl rfl)) _).setCell (p := ⟨w.heap.size + 2, 0, none⟩) (.inl (.inr rfl)) _
        have HB := Lib.hid (m.bel.trans (hmd.below m.bel.size (fun j _ h => by omega)))
        have r1 : Own ((W1.setCell ⟨w.heap.size + 1, 0, none⟩ (.int .i64 (-1))).setCell ⟨w.heap.size + 2, 0, none⟩ (.int .i64 0)) (w.heap.size + 1) 3 1 (fun _ => .int .i64 (-1)) := (m.o1.set1 _).other (p := ⟨w.heap.size + 2, 0, none⟩) (by show w.heap.size + 1 ≠ w.heap.size + 2; omega) _
        have r2 : Own ((W1.setCell ⟨w.heap.size + 1, 0, none⟩ (.int .i64 (-1))).setCell ⟨w.heap.size + 2, 0, none⟩ (.int .i64 0)) (w.heap.size + 2) 32 1 (fun _ => .int .i64 0) := (m.o2.other (p := ⟨w.heap.size + 1, 0, none⟩) (by show w.heap.size + 2 ≠ w.heap.size + 1; omega) _).set1 _
        have HMK : Hid (Marks (w.heap.size + 3) ((W1.setCell ⟨w.heap.size + 1, 0, none⟩ (.int .i64 (-1))).setCell ⟨w.heap.size + 2, 0, none⟩ (.int .i64 0)) [{ target := .collected D, args := #[] }]) := Lib.hid ⟨[D], rfl, by simp, fun D' hD' => by
          have e : D' = D := by simpa using hD'
          subst e
          have hdl := (Array.getElem?_eq_some_iff.1 hdf).1
          have hz := HZ3.out
          exact ⟨by omega, Nat.lt_of_lt_of_le hdl hmd.size, (hmd.block D' hdl (by omega)).trans hdf⟩⟩
        have HR1 := Lib.hid r1
        have HR2 := Lib.hid r2
        clear m hS hdf hmd r1 r2
        go_wp2_with fail
        refine leaves_marks (B := w.heap.size + 3) _ _ HMK.out (fun W3 hT => ?_)
        have t1 := HR1.out.takenH hT
        have t2 := HR2.out.takenH hT
        refine ⟨_, results_c2 (a := 4) (b := 5) (ta := 3) (tb := 32) (ba := w.heap.size + 1) (bb := w.heap.size + 2) (by kernel_rfl) rfl rfl (load_intH t1) (load_errno t2), rfl, HB.out.trans (taken_below1 hT (by omega))⟩
end Go.Proofs.Ytbalhbpaholakaa
