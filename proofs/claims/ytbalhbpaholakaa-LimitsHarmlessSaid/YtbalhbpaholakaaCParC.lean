/-
parser.Valid of a source with one item, and a site's goodName; walked.
-/
import Derived.Test.YtbalhbpaholakaaCParB
namespace Go.Proofs.Ytbalhbpaholakaa
open Go.RowKit
set_option linter.unusedVariables false
set_option linter.unusedSimpArgs false
set_option maxRecDepth 100000 in
set_option maxHeartbeats 8000000 in
theorem paItem_any (s : ByteArray) (bl : Nat) (x : Int) (w : World) (hs : s.size ≤ 9223372036854775807) (hc : w.cell? ⟨bl, 0, none⟩ = some (.int .i64 x)) (hf : w.frozen? ⟨bl, 0, none⟩ = false) (hx0 : 0 ≤ x) (hx1 : x ≤ 2000) :
    Calls Try.prog 121 #[.agg #[.int .i64 2, .string s, .int .i64 3, .int .i64 0, .slice none 0 0], .pointer (some ⟨bl, 0, none⟩)] w fun e w' => e = .returned (.bool (okNameB keyL s)) ∧ Mod (fun q => q = bl) w w' := by
  have lb := World.block_lt_of_cell? w _ hc
  dsimp only at lb
  have HGOOD := Lib.hid (fun w => paGood_any s w hs)
  go_enter Try.func121, Try.ntmps121
  go_wp2_with fail
  refine (HGOOD.out _).mono ?_
  rintro e w1 ⟨rfl, rfl⟩
  cases hg : okNameB keyL s
  · have HF := Lib.hid hg
    clear hg
    go_wp2_with fail
    go_ret
    exact ⟨ret_bool HF.out.symm, (Mod.refl _ w).alloc _⟩
  · have HG := Lib.hid hg
    clear hg
    have hc2 : (w.alloc (.cells #[.int .i64 2, .string s, .int .i64 3, .int .i64 0, .slice none 0 0] 152)).cell? ⟨bl, 0, none⟩ = some (.int .i64 x) := (((Below.refl _ w).alloc (Nat.le_refl _) _).cell (p := ⟨bl, 0, none⟩) lb).trans hc
    have hf2 : (w.alloc (.cells #[.int .i64 2, .string s, .int .i64 3, .int .i64 0, .slice none 0 0] 152)).frozen? ⟨bl, 0, none⟩ = false := (((Below.refl _ w).alloc (Nat.le_refl _) _).frozen (p := ⟨bl, 0, none⟩) lb).trans hf
    have hne : bl ≠ w.heap.size := by omega
    have h37 : (w.setCell ⟨bl, 0, none⟩ (.int .i64 x)).cell? ⟨bl, 0, none⟩ = some (.int .i64 x) := World.cell?_setCell_same _ _ _ hc
    clear hc hf
    have hxn : ¬ x < 0 := by omega
    go_wp2_with fail
    go_big_region
    go_wp2_with fail
    have HMD : Hid (Mod (fun q => q = bl) w (((w.setCell ⟨bl, 0, none⟩ (.int .i64 x)).alloc (.cells #[.int .i64 2, .string s, .int .i64 3, .int .i64 0, .slice none 0 0] 152)).drew)) := Lib.hid (((Mod.refl (fun q => q = bl) w).setCell (p := ⟨bl, 0, none⟩) (.inl rfl) _).alloc _).drew
    go_loopg [5, 7, 42] 0 (fun g1 v5 v7 v42 wr => v42 = .int .i64 0 ∧ v5 = .bool false ∧ Hid (Mod (fun q => q = bl) w wr))
    case atStart => exact ⟨by go_num, rfl, HMD⟩
    case round =>
      obtain ⟨rfl, rfl, HM⟩ := hrel
      go_wp2_with fail
      go_ret
      exact ⟨ret_bool HG.out.symm, HM.out⟩
set_option maxRecDepth 100000 in
set_option maxHeartbeats 8000000 in
theorem paValid_one (s : ByteArray) (b : Nat) (w : World) (hs : s.size ≤ 9223372036854775807) (k0 : w.cell? ⟨b, 0, none⟩ = some (.int .i64 2)) (k1 : w.cell? ⟨b, 1, none⟩ = some (.string s)) (k2 : w.cell? ⟨b, 2, none⟩ = some (.int .i64 3)) (k3 : w.cell? ⟨b, 3, none⟩ = some (.int .i64 0)) (k4 : w.cell? ⟨b, 4, none⟩ = some (.slice none 0 0)) :
    Calls Try.prog 103 #[.agg #[.int .i64 1, .string ByteArray.empty, .int .i64 0, .int .i64 0, .slice (some ⟨b, 0, none⟩) 1 1]] w fun e w' => e = .returned (.bool (okNameB keyL s)) ∧ Below w.heap.size w w' := by
  have lb := World.block_lt_of_cell? w _ k0
  dsimp only at lb
  go_enter Try.func103, Try.ntmps103
  go_wp2_with fail
  go_loopg [5, 30] 1 (fun g1 v5 v30 wr => ∃ k : Nat, v30 = .int .i64 k ∧ k ≤ 1 ∧ 1 - k ≤ g1 ∧ Hid (k = 1 → okNameB keyL s = true) ∧ Hid (Below w.heap.size w wr) ∧ Hid ((wr.cell? ⟨w.heap.size + 1, 0, none⟩ = some (.int .i64 1498) ∧ wr.frozen? ⟨w.heap.size + 1, 0, none⟩ = false) ∨ k = 1))
  case atStart => exact ⟨0, by go_num, by omega, by omega, Lib.hid (fun h => by omega), Lib.hid (((Below.refl _ w).alloc (Nat.le_refl _) _).alloc (by simp) _), Lib.hid (.inl ⟨by go_simp, by go_simp⟩)⟩
  case round =>
    obtain ⟨k, rfl, hk, hg1, HT, HB, HL⟩ := hrel
    by_cases hlt : k < 1
    · have hk0 : k = 0 := by omega
      subst hk0
      obtain ⟨hc, hfz⟩ : wr.cell? ⟨w.heap.size + 1, 0, none⟩ = some (.int .i64 1498) ∧ wr.frozen? ⟨w.heap.size + 1, 0, none⟩ = false := by
        rcases HL.out with h | h
        · exact h
        · omega
      have q0 := (HB.out.cell (p := ⟨b, 0, none⟩) lb).trans k0
      have q1 := (HB.out.cell (p := ⟨b, 1, none⟩) lb).trans k1
      have q2 := (HB.out.cell (p := ⟨b, 2, none⟩) lb).trans k2
      have q3 := (HB.out.cell (p := ⟨b, 3, none⟩) lb).trans k3
      have q4 := (HB.out.cell (p := ⟨b, 4, none⟩) lb).trans k4
      have lc := World.block_lt_of_cell? wr _ hc
      dsimp only at lc
      have al : Below wr.heap.size wr (wr.alloc (.cells #[.int .i64 2, .string s, .int .i64 3, .int .i64 0, .slice none 0 0] 152)) := (Below.refl _ _).alloc (Nat.le_refl _) _
      have hCall := Lib.hid (paItem_any s (w.heap.size + 1) 1498 (wr.alloc (.cells #[.int .i64 2, .string s, .int .i64 3, .int .i64 0, .slice none 0 0] 152)) hs ((al.cell (p := ⟨w.heap.size + 1, 0, none⟩) lc).trans hc) ((al.frozen (p := ⟨w.heap.size + 1, 0, none⟩) lc).trans hfz) (by omega) (by omega))
      have HBA := Lib.hid (HB.out.trans (al.mono HB.out.size))
      clear hc HT HL k0 k1 k2 k3 k4 al
      go_wp2_with fail
      refine hCall.out.mono ?_
      rintro e w6 ⟨rfl, hm⟩
      have HB6 : Hid (Below w.heap.size w w6) := Lib.hid (HBA.out.trans (hm.below HBA.out.size (fun q _ hq => by omega)))
      cases hg : okNameB keyL s
      · have HF := Lib.hid hg
        clear hg
        go_wp2_with fail
        go_ret
        exact ⟨ret_bool HF.out.symm, HB6.out⟩
      · have HF := Lib.hid hg
        clear hg
        go_wp2_with fail
        go_roundg 0
        case measure => omega
        case rel => exact ⟨1, by go_num, by omega, by omega, Lib.hid (fun _ => HF.out), HB6, Lib.hid (.inr rfl)⟩
    · have hk1 : k = 1 := by omega
      subst hk1
      have HF := Lib.hid (HT.out rfl)
      go_wp2_with fail
      go_ret
      exact ⟨ret_bool HF.out.symm, HB.out⟩
set_option maxRecDepth 100000 in
set_option maxHeartbeats 8000000 in
theorem stGood_any (s : ByteArray) (w : World) (hs : s.size ≤ 9223372036854775807) : Calls Try.prog 78 #[.string s] w fun e w' => e = .returned (.bool (okNameB keyL s)) ∧ Below w.heap.size w w' := by
  obtain ⟨W, hW⟩ : ∃ W, W = (w.alloc (.cells #[.int .i64 2, .string s, .int .i64 3, .int .i64 0, .slice none 0 0] 152)).alloc (.cells #[.int .i64 2, .string s, .int .i64 3, .int .i64 0, .slice none 0 0] 152) := ⟨_, rfl⟩
  have hb : Below w.heap.size w W := by rw [hW]; exact ((Below.refl _ w).alloc (Nat.le_refl _) _).alloc (by simp) _
  have hc := Lib.hid (paValid_one s (w.heap.size + 1) W hs (by rw [hW]; go_simp) (by rw [hW]; go_simp) (by rw [hW]; go_simp) (by rw [hW]; go_simp) (by rw [hW]; go_simp))
  have HW := Lib.hid hW.symm
  have HB := Lib.hid hb
  clear hW hb
  go_enter Try.func78, Try.ntmps78
  go_wp2_with fail
  rw [HW.out]
  refine hc.out.mono ?_
  rintro e w1 ⟨rfl, hb1⟩
  have HF := Lib.hid (HB.out.trans (hb1.mono HB.out.size))
  go_wp2_with fail
  go_ret
  exact ⟨rfl, HF.out⟩
end Go.Proofs.Ytbalhbpaholakaa
