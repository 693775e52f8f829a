/-
tree.has, over a way.
-/
import Derived.Test.YtjlfnhfiiailgaaCTreeB
namespace Go.Proofs.Ytjlfnhfiiailgaa
open Go.RowKit Go.Shelf
attribute [local go_sem] Oper.semAt_some
set_option linter.unusedVariables false
set_option linter.unusedSimpArgs false
theorem results_c1 {P : Program} {fn : Func} {a : Tmp} {ty : TypeId} {tmps : Array Value} {b : Nat} {u : Value} {w : World} (h : fn.results = #[.cell a ty]) (ha : tmps.getD a undef = .pointer (some ⟨b, 0, none⟩)) (hl : (loadVar ty ⟨b, 0, none⟩).run P w = .ok u w) :
    (results fn tmps).run P w = .ok u w := by
  have ha' : tmps[a]?.getD undef = .pointer (some ⟨b, 0, none⟩) := by simpa using ha
  simp [results, h, ha', hl, asAddr]
theorem load_bool {W : World} {b : Nat} {v : Bool} (h : Own W b 4 1 (fun _ => .bool v)) : (loadVar 4 ⟨b, 0, none⟩).run Try.prog W = .ok (.bool v) W := by
  have c0 := h.cell (i := 0) (by omega)
  go_simp
theorem Own.set1 {w : World} {g : Nat} {t : TypeId} {v : Value} (h : Own w g t 1 (fun _ => v)) (u : Value) : Own (w.setCell ⟨g, 0, none⟩ u) g t 1 (fun _ => u) :=
  (h.set 0 u).congr (fun i hi => by
    have h0 : i = 0 := by omega
    simp [h0])
/-- What a round of has leaves: the box of the number, the result's cell. -/
structure HaI (w : World) (x : Int) (b : Bool) (W : World) : Prop where
  bx : Own W w.heap.size 3 1 (fun _ => .int .i64 x)
  rs : Own W (w.heap.size + 1) 4 1 (fun _ => .bool b)
  bel : Below w.heap.size w W
theorem HaI.nc {w W W' : World} {x : Int} {b : Bool} {B : Nat} (h : HaI w x b W) (hn : Nc B W W') (hB : w.heap.size ≤ B) : HaI w x b W' :=
  ⟨h.bx.nc hn, h.rs.nc hn, below_nc h.bel (Nat.le_refl _) hn hB⟩
def HaA (w : World) (x : Nat) (a' : Act) : Prop := ∃ u0 u1 u2 u6 u7 u8 u9 u10 : Value, a' = ⟨List.toArray (u0 :: u1 :: u2 :: (.pointer (some ⟨w.heap.size, 0, none⟩)) :: (.pointer (some ⟨w.heap.size + 1, 0, none⟩)) :: (.int .i64 (x : Nat)) :: u6 :: u7 :: u8 :: u9 :: u10 :: []), []⟩
set_option maxRecDepth 100000 in
set_option maxHeartbeats 4000000 in
theorem trHas_any (bc bs : Nat) (cs : List GCon) (hu : OkUps cs) (c0 : Nat) (hc : c0 < cs.length) (a1 : Option Addr) (n1 c1 : Nat) (hn1 : cs.length = n1) (hm1 : n1 ≤ 16) (one : Int) (w : World)
    (hbc : w.cell? ⟨bc, 0, none⟩ = some (.int .i64 (c0 : Nat))) (hbs : w.cell? ⟨bs, 0, none⟩ = some (.slice a1 n1 c1)) (hR : Rd 11 encCon w a1 cs) (hA : ∀ a, a1 = some a → a.block < w.heap.size) :
    Calls Try.prog 35 #[.func (.func 39) #[] #[.pointer (some ⟨bc, 0, none⟩), .pointer (some ⟨bs, 0, none⟩)], .int .i64 one] w fun e w' => e = .returned (.bool (decide (one ∈ pthI cs c0))) ∧ Below w.heap.size w w' := by
  have lc := World.block_lt_of_cell? w _ hbc
  have ls := World.block_lt_of_cell? w _ hbs
  dsimp only at lc ls
  refine (callsIn_wide (n := 5)).1 ?_
  refine callsIn_of_wp_marks Try.func35 rfl trivial ?_ rfl
  refine wpIn_wide.2 ?_
  simp only [Try.ntmps35, List.size_toArray, List.length_cons, List.length_nil, Nat.reduceAdd, Nat.reduceSub, Array.replicate_succ, Array.replicate_zero, List.push_toArray, List.append_toArray, List.nil_append, List.cons_append]
  go_wp2_with fail
  obtain ⟨W0, hW0⟩ : ∃ W0, W0 = (w.alloc (.cells #[.int .i64 one] 3)).alloc (.cells #[.bool false] 4) := ⟨_, rfl⟩
  have b0 : Below w.heap.size w W0 := by rw [hW0]; exact ((Below.refl _ w).alloc (Nat.le_refl _) _).alloc (by simp) _
  have hO1 : Own W0 w.heap.size 3 1 (fun _ => .int .i64 one) := by rw [hW0]; exact (Own.one _ _ _).alloc _
  have hO2 : Own W0 (w.heap.size + 1) 4 1 (fun _ => .bool false) := by
    have h := Own.one (w.alloc (.cells #[.int .i64 one] 3)) 4 (.bool false)
    rw [World.size_alloc] at h
    rw [hW0]; exact h
  have hs0 : w.heap.size + 1 < W0.heap.size := hO2.lt
  rw [← hW0]
  clear hW0
  have z0 := (b0.cell (p := ⟨bc, 0, none⟩) lc).trans hbc
  have z1 := (b0.cell (p := ⟨bs, 0, none⟩) ls).trans hbs
  refine range_way hu hc hn1 (by omega) (g := .tmp 6) (p := 7) bc bs w.heap.size rfl z0 z1 (hR.keep b0) hA b0.size (fun pre W' => Hid (¬ one ∈ wayI pre) ∧ HaI w one false W') (fun c pre W' => c = .ret ∧ Hid (one ∈ wayI pre) ∧ HaI w one true W') ?hI ?hIx ?h0 (fun x a' => HaA w x.1 a') ?assign ?body ?done ?stop
  case hI => exact fun pre W W' h hn => ⟨h.1, h.2.nc hn b0.size⟩
  case hIx => exact fun c pre W W' h hn => ⟨h.1, h.2.1, h.2.2.nc hn b0.size⟩
  case h0 => exact ⟨Lib.hid (by simp [wayI]), hO1, hO2, b0⟩
  case assign =>
    intro l x W1 K hK
    gi_wp2
    exact ⟨_, _, _, _, _, _, _, _, rfl⟩
  case body =>
    rintro l pre ⟨k, hk⟩ a' W1 ⟨hno, o1, o2, o3⟩ ⟨u0, u1, u2, u6, u7, u8, u9, u10, rfl⟩ hlen
    dsimp only at hlen ⊢
    have q0 := o1.cell (i := 0) (by omega)
    have q1 := o2.cell (i := 0) (by omega)
    have qf := o2.frozen 0
    have l2 := o2.lt
    have HW : Hid (wayI (pre ++ [(⟨k, hk⟩ : WayAt cs c0)]) = wayI pre ++ [((k : Nat) : Int)]) := Lib.hid (wayI_snoc _ _)
    by_cases e : ((k : Nat) : Int) = one
    · have hbl : Below w.heap.size W1 (W1.setCell ⟨w.heap.size + 1, 0, none⟩ (.bool true)) := ((Mod.refl (fun j => j = w.heap.size + 1) W1).setCell (p := ⟨w.heap.size + 1, 0, none⟩) (.inl rfl) _).below (by omega) (fun j _ h => by omega)
      have HP : Hid (KeepsFrom W0.heap.size W1 (W1.setCell ⟨w.heap.size + 1, 0, none⟩ (.bool true)) ∧ (Hid (one ∈ wayI (pre ++ [(⟨k, hk⟩ : WayAt cs c0)])) ∧ HaI w one true (W1.setCell ⟨w.heap.size + 1, 0, none⟩ (.bool true)))) := Lib.hid (by
        refine ⟨⟨hbl.size, fun q o hq ho hoc => ?_⟩, Lib.hid ?_, ?_⟩
        · rw [← ho]
          exact ((Mod.refl (fun j => j = w.heap.size + 1) W1).setCell (p := ⟨w.heap.size + 1, 0, none⟩) (.inl rfl) _).block q (Array.getElem?_eq_some_iff.1 ho).1 (by omega)
        · rw [HW.out, ← e]
          simp
        · exact ⟨o1.other (by show w.heap.size ≠ w.heap.size + 1; omega) _, o2.set1 _, o3.trans hbl⟩)
      clear hbl o1 o2
      have he : decide (((k : Nat) : Int) = one) = true := by simpa using e
      gi_wp2
      exact ⟨HP.out.1, rfl, HP.out.2⟩
    · have HP : Hid (KeepsFrom W0.heap.size W1 W1 ∧ KpW w.heap.size bs W1 W1 ∧ (Hid (¬ one ∈ wayI (pre ++ [(⟨k, hk⟩ : WayAt cs c0)])) ∧ HaI w one false W1)) := Lib.hid ⟨KeepsFrom.refl _ _, ⟨Below.refl _ _, rfl⟩, Lib.hid (by
        rw [HW.out]
        intro h
        rcases List.mem_append.1 h with h | h
        · exact hno.out h
        · simp at h; exact e h.symm), ⟨o1, o2, o3⟩⟩
      clear o1 o2
      gi_wp2
      exact HP.out
  case done =>
    intro D ys W1 hD hS hi hdf
    obtain ⟨hno, o1, o2, o3⟩ := hi
    have hno2 := hno.out
    rw [wayI_all hS] at hno2
    have HE : Hid (decide (one ∈ pthI cs c0) = false) := Lib.hid (by simpa using hno2)
    have q1 := o2.cell (i := 0) (by omega)
    have qf := o2.frozen 0
    have hw0 : w.heap.size + 1 < D := by omega
    have hset2 : Own (W1.setCell ⟨w.heap.size + 1, 0, none⟩ (.bool false)) (w.heap.size + 1) 4 1 (fun _ => .bool false) := o2.set1 _
    have HO := Lib.hid hset2
    have hm1 : Mod (fun j => j = w.heap.size + 1) W1 (W1.setCell ⟨w.heap.size + 1, 0, none⟩ (.bool false)) := (Mod.refl (fun j => j = w.heap.size + 1) W1).setCell (p := ⟨w.heap.size + 1, 0, none⟩) (.inl rfl) _
    have HB : Hid (Below w.heap.size w (W1.setCell ⟨w.heap.size + 1, 0, none⟩ (.bool false))) := Lib.hid (o3.trans (hm1.below o3.size (fun j _ h => by omega)))
    have hdl := (Array.getElem?_eq_some_iff.1 hdf).1
    have hmk : Marks (w.heap.size + 2) (W1.setCell ⟨w.heap.size + 1, 0, none⟩ (.bool false)) [{ target := .collected D, args := #[] }] := ⟨[D], rfl, by simp, fun D' hD' => by
      have e : D' = D := by simpa using hD'
      subst e
      exact ⟨by omega, Nat.lt_of_lt_of_le hdl hm1.size, (hm1.block D' hdl (by omega)).trans hdf⟩⟩
    have HMK := Lib.hid hmk
    clear o1 o2 hmk hdf o3 hset2 hm1
    go_wp2_with fail
    refine leaves_marks (B := w.heap.size + 2) _ _ HMK.out (fun W3 hT => ?_)
    refine ⟨_, results_c1 (a := 4) (ty := 4) (b := w.heap.size + 1) (by kernel_rfl) rfl (load_bool (hT.own HO.out)), by rw [HE.out], HB.out.trans (taken_below1 hT (by omega))⟩
  case stop =>
    intro D c pre W1 hD hS hi hdf
    obtain ⟨rfl, hin, o1, o2, o3⟩ := hi
    have HE : Hid (decide (one ∈ pthI cs c0) = true) := Lib.hid (by
      simp only [decide_eq_true_eq]
      have h := hin.out
      unfold wayI at h
      obtain ⟨y, hy, hye⟩ := List.mem_map.1 h
      unfold pthI
      exact List.mem_map.2 ⟨y.1, y.2, hye⟩)
    have hw0 : w.heap.size + 1 < D := by omega
    have HO := Lib.hid o2
    have HB := Lib.hid o3
    have hdl := (Array.getElem?_eq_some_iff.1 hdf).1
    have hmk : Marks (w.heap.size + 2) W1 [{ target := .collected D, args := #[] }] := ⟨[D], rfl, by simp, fun D' hD' => by
      have e : D' = D := by simpa using hD'
      subst e
      exact ⟨by omega, hdl, hdf⟩⟩
    have HMK := Lib.hid hmk
    clear o1 o2 hmk hdf o3
    refine wpIn_wide.2 ?_
    go_wp2_with fail
    refine leaves_marks (B := w.heap.size + 2) _ _ HMK.out (fun W3 hT => ?_)
    refine ⟨_, results_c1 (a := 4) (ty := 4) (b := w.heap.size + 1) (by kernel_rfl) rfl (load_bool (hT.own HO.out)), by rw [HE.out], HB.out.trans (taken_below1 hT (by omega))⟩
end Go.Proofs.Ytjlfnhfiiailgaa
