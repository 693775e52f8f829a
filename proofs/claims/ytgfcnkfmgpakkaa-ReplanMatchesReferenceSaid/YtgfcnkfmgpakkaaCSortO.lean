/-
slices.Sort at []int for at most twelve numbers.
-/
import Derived.Test.YtgfcnkfmgpakkaaGSort
import Derived.Test.YtgfcnkfmgpakkaaGRepA
namespace Go.Proofs.Ytgfcnkfmgpakkaa
open Go.RowKit
set_option linter.unusedVariables false
set_option linter.unusedSimpArgs false
/-- f' is f, in order between a and b. -/
structure SrtO (a b : Nat) (f f' : Nat → Int) : Prop where
  perm : (seg f' a b).Perm (seg f a b)
  out : ∀ k, k < a ∨ b ≤ k → f' k = f k
  sorted : ∀ p q, a ≤ p → p < q → q < b → f' p ≤ f' q
theorem SrtO.small {a b : Nat} {f : Nat → Int} (h : b ≤ a + 1) : SrtO a b f f := ⟨.refl _, fun _ _ => rfl, fun p q _ _ _ => by omega⟩
structure InsO (a i j : Nat) (f h : Nat → Int) : Prop where
  out : ∀ k, k < a ∨ i < k → h k = f k
  perm : (seg h a (i + 1)).Perm (seg f a (i + 1))
  rest : ∀ p q, a ≤ p → p < q → q ≤ i → p ≠ j → q ≠ j → h p ≤ h q
  past : ∀ q, j < q → q ≤ i → h j ≤ h q
theorem InsO.start {a i : Nat} {f f' : Nat → Int} (ha : a ≤ i) (h : SrtO a i f f') : InsO a i i f f' := by
  refine ⟨fun k hk => h.out k (by omega), ?_, fun p q h1 h2 h3 h4 h5 => h.sorted p q h1 h2 (by omega), fun q h1 h2 => by omega⟩
  rw [seg_snoc f' ha, seg_snoc f ha, h.out i (by omega)]; exact h.perm.append_right _
theorem InsO.step {a i j : Nat} {f h : Nat → Int} (H : InsO a i (j + 1) f h) (ha : a ≤ j) (hi : j + 1 ≤ i) (hk : h (j + 1) < h j) : InsO a i j f (exch h (j + 1) j) := by
  have ev : ∀ k, k ≠ j → k ≠ j + 1 → exch h (j + 1) j k = h k := fun k h1 h2 => by unfold exch; rw [if_neg h2, if_neg h1]
  have e3 : exch h (j + 1) j j = h (j + 1) := by unfold exch; rw [if_neg (by omega), if_pos rfl]
  have e4 : exch h (j + 1) j (j + 1) = h j := by unfold exch; rw [if_pos rfl]
  refine ⟨fun k hk => by rw [ev k (by omega) (by omega)]; exact H.out k hk, (exch_perm h ha (by omega)).trans H.perm, ?_, ?_⟩
  · intro p q h1 h2 h3 h4 h5
    by_cases hp : p = j + 1
    · subst hp; rw [e4, ev q (by omega) (by omega)]; exact H.rest j q (by omega) (by omega) h3 (by omega) (by omega)
    · by_cases hq : q = j + 1
      · subst hq; rw [e4, ev p h4 hp]; exact H.rest p j h1 (by omega) (by omega) hp (by omega)
      · rw [ev p h4 hp, ev q h5 hq]; exact H.rest p q h1 h2 h3 hp hq
  · intro q h1 h2
    rw [e3]
    by_cases hq : q = j + 1
    · subst hq; rw [e4]; omega
    · rw [ev q (by omega) hq]; exact H.past q (by omega) h2
theorem InsO.stop {a i j : Nat} {f h : Nat → Int} (H : InsO a i j f h) (ha : a ≤ j) (hi : j ≤ i) (hs : j = a ∨ ¬ h j < h (j - 1)) : SrtO a (i + 1) f h := by
  refine ⟨H.perm, fun k hk => H.out k (by omega), ?_⟩
  intro p q h1 h2 h3
  by_cases hp : p = j
  · subst hp; exact H.past q h2 (by omega)
  · by_cases hq : q = j
    · subst hq
      rcases hs with hs | hs
      · omega
      · by_cases hpq : p = q - 1
        · subst hpq; omega
        · have := H.rest p (q - 1) h1 (by omega) (by omega) hp (by omega)
          omega
    · exact H.rest p q h1 h2 (by omega) hp hq
set_option maxRecDepth 100000 in
set_option maxHeartbeats 1600000 in
theorem cLess_any (x y : Int) (w : World) : Calls Try.prog 110 #[.int .i64 x, .int .i64 y] w fun e w' => e = .returned (.bool (decide (x < y))) ∧ w = w' := by
  go_enter Try.func110, Try.ntmps110
  go_wp2_with (go_at_call 127; refine (cIsNaN_any _ _).mono ?_; rintro e w' ⟨rfl, rfl⟩)
  go_ret
  exact ⟨rfl, rfl⟩
def SortPostO (b : Nat) (f : Nat → Int) (w0 : World) (g n : Nat) (e : Ending) (w' : World) : Prop := e = .returned (.tuple #[]) ∧ ∃ f', SrtO 0 b f f' ∧ SortP w0 g n f' w'
set_option maxRecDepth 100000 in
set_option maxHeartbeats 4000000 in
theorem sInsOrd_any (g n cap a b : Nat) (A B : Int) (f : Nat → Int) (w0 w : World) (eA : A = a) (eB : B = b) (S0 : SortP w0 g n f w) (ha0 : a = 0) (hab : a ≤ b) (hb : b ≤ n) (hn : n ≤ 1000000) :
    Calls Try.prog 104 #[.slice (some ⟨g, 0, none⟩) n cap, .int .i64 A, .int .i64 B] w (SortPostO b f w0 g n) := by
  subst eA eB
  have S := Lib.hid S0
  have HA := Lib.hid ha0
  clear S0 ha0
  go_enter Try.func104, Try.ntmps104
  go_wp2
  go_loopg [6] (b - a) (fun g1 vi wr => ∃ (i : Nat) (f1 : Nat → Int), vi = .int .i64 i ∧ a < i ∧ i ≤ b + 1 ∧ b + 1 - i ≤ g1 + 1 ∧ Hid (SrtO a (min i b) f f1) ∧ Hid (SortP w0 g n f1 wr))
  case atStart => exact ⟨a + 1, f, by go_num, by omega, by omega, by omega, Lib.hid (SrtO.small (by omega)), S⟩
  case round =>
    clear S
    obtain ⟨i, f1, rfl, hai, hib, hg1, HS, S1⟩ := hrel
    by_cases hlt : i < b
    · have hltz : (i : Int) < (b : Int) := by omega
      go_wp2
      go_loopg [7] i (fun g2 vj wr2 => ∃ (j : Nat) (f2 : Nat → Int), vj = .int .i64 j ∧ a ≤ j ∧ j ≤ i ∧ j ≤ g2 ∧ Hid (InsO a i j f f2) ∧ Hid (SortP w0 g n f2 wr2))
      case atStart =>
        have HS' := HS.out
        rw [show min i b = i from by omega] at HS'
        exact ⟨i, f1, rfl, by omega, Nat.le_refl _, Nat.le_refl _, Lib.hid (InsO.start (by omega) HS'), S1⟩
      case round =>
        clear S1 HS
        obtain ⟨j, f2, rfl, haj, hji, hg2, HI, SJ⟩ := hrel
        by_cases hja : j = a
        · subst hja
          have hjad : ¬ (j : Int) < (j : Int) := by omega
          have HS := Lib.hid (HI.out.stop haj hji (Or.inl rfl))
          go_wp2_with fail
          have hgd : decide ((j : Int) < (j : Int)) = false := by simp
          go_quiet (fail)
          have S2 := Lib.hid (SJ.out.drewN nq)
          clear SJ HI
          generalize wr.drewN nq = w2 at S2 ⊢
          clear nq
          go_wp2
          go_roundg (b - (i + 1))
          case measure => omega
          case rel => exact ⟨i + 1, f2, by go_num, by omega, by omega, by omega, Lib.hid (by rw [show min (i + 1) b = i + 1 from by omega]; exact HS.out), S2⟩
        · obtain ⟨jp, rfl⟩ : ∃ q, j = q + 1 := ⟨j - 1, by omega⟩
          by_cases hk : f2 (jp + 1) < f2 jp
          · have hv : decide (f2 (jp + 1) < f2 jp) = true := decide_eq_true hk
            have HK := Lib.hid hk
            clear hk
            have hjad : (a : Int) < (jp : Int) + 1 := by omega
            have pa : (0 : Int) ≤ (jp : Int) + 1 := by omega
            have ba : (jp : Int) + 1 < (n : Int) := by omega
            have ra : IntKind.i64.wrap ((jp : Int) + 1) = (jp : Int) + 1 := by rw [IntKind.wrap_i64]; omega
            have pc1 : (0 : Int) ≤ (jp : Int) := by omega
            have bc1 : (jp : Int) < (n : Int) := by omega
            have rc : IntKind.i64.wrap (jp : Int) = (jp : Int) := by rw [IntKind.wrap_i64]; omega
            have la := SJ.out.own.cell (i := jp + 1) (by omega)
            have lb := SJ.out.own.cell (i := jp) (by omega)
            have lg : g < wr.heap.size := SJ.out.own.lt
            go_upto_region 4 with (fail)
            refine region_z (S := fun w' => Below wr.heap.size wr w') [] (by kernel_rfl) (Below.refl _ _).drew (fun hHeld => ?_)
            refine wpAnyZ_take (i := 0) (v := .int .i64 ((jp : Int) + 1)) [] rfl (by kernel_rfl) (by kernel_rfl) (by kernel_rfl) (by kernel_rfl) (fun _ _ _ h => h) (Or.inl ⟨by kernel_rfl, fun w' hSw => ?_⟩) hHeld ?_
            · clear hHeld
              go_simp
            simp only [Act.put, List.setIfInBounds_toArray, List.set_cons_zero, List.set_cons_succ]
            refine wpAnyZ_take (i := 1) (v := .int .i64 (a : Int)) [] rfl (by kernel_rfl) (by kernel_rfl) (by kernel_rfl) (by kernel_rfl) (fun _ _ _ h => h) (Or.inl ⟨by kernel_rfl, fun w' hSw => ?_⟩) hHeld ?_
            · clear hHeld
              go_simp
            simp only [Act.put, List.setIfInBounds_toArray, List.set_cons_zero, List.set_cons_succ]
            refine wpAnyZ_take (i := 2) (v := .bool true) [] rfl (by kernel_rfl) (by kernel_rfl) (by kernel_rfl) (by kernel_rfl) (fun _ _ _ h => h) (Or.inl ⟨by kernel_rfl, fun w' hSw => ?_⟩) hHeld ?_
            · clear hHeld
              go_simp
              first | done | omega | (simp; omega)
            simp only [Act.put, List.setIfInBounds_toArray, List.set_cons_zero, List.set_cons_succ]
            refine wpAnyZ_take (i := 3) (v := .bool true) [] rfl (by kernel_rfl) (by kernel_rfl) (by kernel_rfl) (by kernel_rfl) (fun _ _ _ h => h) (Or.inl ⟨by kernel_rfl, fun w' hSw => ?_⟩) hHeld ?_
            · clear hHeld
              go_simp
            simp only [Act.put, List.setIfInBounds_toArray, List.set_cons_zero, List.set_cons_succ]
            refine wpAnyZ_take (i := 4) (v := .slice (some ⟨g, 0, none⟩) n cap) [] rfl (by kernel_rfl) (by kernel_rfl) (by kernel_rfl) (by kernel_rfl) (fun _ _ _ h => h) (Or.inl ⟨by kernel_rfl, fun w' hSw => ?_⟩) hHeld ?_
            · clear hHeld
              go_simp
            simp only [Act.put, List.setIfInBounds_toArray, List.set_cons_zero, List.set_cons_succ]
            refine wpAnyZ_take (i := 5) (v := .int .i64 ((jp : Int) + 1)) [] rfl (by kernel_rfl) (by kernel_rfl) (by kernel_rfl) (by kernel_rfl) (fun _ _ _ h => h) (Or.inl ⟨by kernel_rfl, fun w' hSw => ?_⟩) hHeld ?_
            · clear hHeld
              go_simp
            simp only [Act.put, List.setIfInBounds_toArray, List.set_cons_zero, List.set_cons_succ]
            refine wpAnyZ_take (i := 6) (v := .pointer (some ⟨g, jp + 1, none⟩)) [] rfl (by kernel_rfl) (by kernel_rfl) (by kernel_rfl) (by kernel_rfl) (fun _ _ _ h => h) (Or.inl ⟨by kernel_rfl, fun w' hSw => ?_⟩) hHeld ?_
            · clear hHeld
              go_simp
            simp only [Act.put, List.setIfInBounds_toArray, List.set_cons_zero, List.set_cons_succ]
            refine wpAnyZ_take (i := 7) (v := .int .i64 (f2 (jp + 1))) [] rfl (by kernel_rfl) (by kernel_rfl) (by kernel_rfl) (by kernel_rfl) (fun _ _ _ h => h) (Or.inl ⟨by kernel_rfl, fun w' hSw => ?_⟩) hHeld ?_
            · clear hHeld
              have s0 := (hSw.cell (p := ⟨g, jp + 1, none⟩) lg).trans la
              go_simp
            simp only [Act.put, List.setIfInBounds_toArray, List.set_cons_zero, List.set_cons_succ]
            refine wpAnyZ_take (i := 8) (v := .slice (some ⟨g, 0, none⟩) n cap) [] rfl (by kernel_rfl) (by kernel_rfl) (by kernel_rfl) (by kernel_rfl) (fun _ _ _ h => h) (Or.inl ⟨by kernel_rfl, fun w' hSw => ?_⟩) hHeld ?_
            · clear hHeld
              go_simp
            simp only [Act.put, List.setIfInBounds_toArray, List.set_cons_zero, List.set_cons_succ]
            refine wpAnyZ_take (i := 9) (v := .int .i64 ((jp : Int) + 1)) [] rfl (by kernel_rfl) (by kernel_rfl) (by kernel_rfl) (by kernel_rfl) (fun _ _ _ h => h) (Or.inl ⟨by kernel_rfl, fun w' hSw => ?_⟩) hHeld ?_
            · clear hHeld
              go_simp
            simp only [Act.put, List.setIfInBounds_toArray, List.set_cons_zero, List.set_cons_succ]
            refine wpAnyZ_take (i := 10) (v := .int .i64 (jp : Int)) [] rfl (by kernel_rfl) (by kernel_rfl) (by kernel_rfl) (by kernel_rfl) (fun _ _ _ h => h) (Or.inl ⟨by kernel_rfl, fun w' hSw => ?_⟩) hHeld ?_
            · clear hHeld
              go_simp
            simp only [Act.put, List.setIfInBounds_toArray, List.set_cons_zero, List.set_cons_succ]
            refine wpAnyZ_take (i := 11) (v := .pointer (some ⟨g, jp, none⟩)) [] rfl (by kernel_rfl) (by kernel_rfl) (by kernel_rfl) (by kernel_rfl) (fun _ _ _ h => h) (Or.inl ⟨by kernel_rfl, fun w' hSw => ?_⟩) hHeld ?_
            · clear hHeld
              go_simp
            simp only [Act.put, List.setIfInBounds_toArray, List.set_cons_zero, List.set_cons_succ]
            refine wpAnyZ_take (i := 12) (v := .int .i64 (f2 jp)) [] rfl (by kernel_rfl) (by kernel_rfl) (by kernel_rfl) (by kernel_rfl) (fun _ _ _ h => h) (Or.inl ⟨by kernel_rfl, fun w' hSw => ?_⟩) hHeld ?_
            · clear hHeld
              have s0 := (hSw.cell (p := ⟨g, jp, none⟩) lg).trans lb
              go_simp
            simp only [Act.put, List.setIfInBounds_toArray, List.set_cons_zero, List.set_cons_succ]
            refine wpAnyZ_one (i := 13) (by kernel_rfl) rfl (fun K' hK => ?_)
            rw [if_pos (by kernel_rfl)]
            go_simp
            refine (cLess_any _ _ _).mono ?_
            rintro e y1 ⟨rfl, hw⟩
            have hHeld' : Below wr.heap.size wr y1 := by rw [← hw]; exact hHeld
            clear hw hHeld
            refine hK.out _ _ ?_ (fun hHeld => ?_)
            · exact hHeld'
            clear hK K' hHeld'
            rw [hv]
            try simp only [Act.put, List.setIfInBounds_toArray, List.set_cons_zero, List.set_cons_succ]
            refine wpAnyZ_one (i := 14) (by kernel_rfl) rfl (fun K' hK => ?_)
            go_simp
            refine hK.out _ _ ?_ (fun hHeld => ?_)
            · exact hHeld
            clear hK K'
            try simp only [Act.put, List.setIfInBounds_toArray, List.set_cons_zero, List.set_cons_succ]
            refine wpAnyZ_done (by kernel_rfl) ?_ _
            have S2 := Lib.hid (SJ.out.below hHeld)
            clear hHeld la lb SJ lg
            go_step
            have H3 := Lib.hid (S2.out.exch (jp + 1) jp _ _ rfl rfl (by omega))
            have la := S2.out.own.cell (i := jp + 1) (by omega)
            have lb := S2.out.own.cell (i := jp) (by omega)
            have fa := S2.out.own.frozen (jp + 1)
            have fb := S2.out.own.frozen jp
            have lc := (S2.out.own.set (jp + 1) (f2 jp)).cell (i := jp) (by omega)
            clear S2
            go_wp2_with fail
            go_big_region
            clear la lb lc fa fb
            generalize ((y1.setCell ⟨g, jp + 1, none⟩ (.int .i64 (f2 jp))).setCell ⟨g, jp, none⟩ (.int .i64 (f2 (jp + 1)))).drew = w3 at H3 ⊢
            go_wp2
            go_roundg jp
            case measure => omega
            case rel => exact ⟨jp, exch f2 (jp + 1) jp, by first | rfl | go_num, by omega, by omega, Nat.le_refl _, Lib.hid (HI.out.step (by omega) (by omega) HK.out), H3⟩
          · have hv : decide (f2 (jp + 1) < f2 jp) = false := decide_eq_false hk
            have HS := Lib.hid (HI.out.stop haj hji (Or.inr (by simpa using hk)))
            clear hk
            have hjad : (a : Int) < (jp : Int) + 1 := by omega
            have pa : (0 : Int) ≤ (jp : Int) + 1 := by omega
            have ba : (jp : Int) + 1 < (n : Int) := by omega
            have ra : IntKind.i64.wrap ((jp : Int) + 1) = (jp : Int) + 1 := by rw [IntKind.wrap_i64]; omega
            have pc1 : (0 : Int) ≤ (jp : Int) := by omega
            have bc1 : (jp : Int) < (n : Int) := by omega
            have rc : IntKind.i64.wrap (jp : Int) = (jp : Int) := by rw [IntKind.wrap_i64]; omega
            have la := SJ.out.own.cell (i := jp + 1) (by omega)
            have lb := SJ.out.own.cell (i := jp) (by omega)
            have lg : g < wr.heap.size := SJ.out.own.lt
            go_upto_region 4 with (fail)
            refine region_z (S := fun w' => Below wr.heap.size wr w') [] (by kernel_rfl) (Below.refl _ _).drew (fun hHeld => ?_)
            refine wpAnyZ_take (i := 0) (v := .int .i64 ((jp : Int) + 1)) [] rfl (by kernel_rfl) (by kernel_rfl) (by kernel_rfl) (by kernel_rfl) (fun _ _ _ h => h) (Or.inl ⟨by kernel_rfl, fun w' hSw => ?_⟩) hHeld ?_
            · clear hHeld
              go_simp
            simp only [Act.put, List.setIfInBounds_toArray, List.set_cons_zero, List.set_cons_succ]
            refine wpAnyZ_take (i := 1) (v := .int .i64 (a : Int)) [] rfl (by kernel_rfl) (by kernel_rfl) (by kernel_rfl) (by kernel_rfl) (fun _ _ _ h => h) (Or.inl ⟨by kernel_rfl, fun w' hSw => ?_⟩) hHeld ?_
            · clear hHeld
              go_simp
            simp only [Act.put, List.setIfInBounds_toArray, List.set_cons_zero, List.set_cons_succ]
            refine wpAnyZ_take (i := 2) (v := .bool true) [] rfl (by kernel_rfl) (by kernel_rfl) (by kernel_rfl) (by kernel_rfl) (fun _ _ _ h => h) (Or.inl ⟨by kernel_rfl, fun w' hSw => ?_⟩) hHeld ?_
            · clear hHeld
              go_simp
              first | done | omega | (simp; omega)
            simp only [Act.put, List.setIfInBounds_toArray, List.set_cons_zero, List.set_cons_succ]
            refine wpAnyZ_take (i := 3) (v := .bool true) [] rfl (by kernel_rfl) (by kernel_rfl) (by kernel_rfl) (by kernel_rfl) (fun _ _ _ h => h) (Or.inl ⟨by kernel_rfl, fun w' hSw => ?_⟩) hHeld ?_
            · clear hHeld
              go_simp
            simp only [Act.put, List.setIfInBounds_toArray, List.set_cons_zero, List.set_cons_succ]
            refine wpAnyZ_take (i := 4) (v := .slice (some ⟨g, 0, none⟩) n cap) [] rfl (by kernel_rfl) (by kernel_rfl) (by kernel_rfl) (by kernel_rfl) (fun _ _ _ h => h) (Or.inl ⟨by kernel_rfl, fun w' hSw => ?_⟩) hHeld ?_
            · clear hHeld
              go_simp
            simp only [Act.put, List.setIfInBounds_toArray, List.set_cons_zero, List.set_cons_succ]
            refine wpAnyZ_take (i := 5) (v := .int .i64 ((jp : Int) + 1)) [] rfl (by kernel_rfl) (by kernel_rfl) (by kernel_rfl) (by kernel_rfl) (fun _ _ _ h => h) (Or.inl ⟨by kernel_rfl, fun w' hSw => ?_⟩) hHeld ?_
            · clear hHeld
              go_simp
            simp only [Act.put, List.setIfInBounds_toArray, List.set_cons_zero, List.set_cons_succ]
            refine wpAnyZ_take (i := 6) (v := .pointer (some ⟨g, jp + 1, none⟩)) [] rfl (by kernel_rfl) (by kernel_rfl) (by kernel_rfl) (by kernel_rfl) (fun _ _ _ h => h) (Or.inl ⟨by kernel_rfl, fun w' hSw => ?_⟩) hHeld ?_
            · clear hHeld
              go_simp
            simp only [Act.put, List.setIfInBounds_toArray, List.set_cons_zero, List.set_cons_succ]
            refine wpAnyZ_take (i := 7) (v := .int .i64 (f2 (jp + 1))) [] rfl (by kernel_rfl) (by kernel_rfl) (by kernel_rfl) (by kernel_rfl) (fun _ _ _ h => h) (Or.inl ⟨by kernel_rfl, fun w' hSw => ?_⟩) hHeld ?_
            · clear hHeld
              have s0 := (hSw.cell (p := ⟨g, jp + 1, none⟩) lg).trans la
              go_simp
            simp only [Act.put, List.setIfInBounds_toArray, List.set_cons_zero, List.set_cons_succ]
            refine wpAnyZ_take (i := 8) (v := .slice (some ⟨g, 0, none⟩) n cap) [] rfl (by kernel_rfl) (by kernel_rfl) (by kernel_rfl) (by kernel_rfl) (fun _ _ _ h => h) (Or.inl ⟨by kernel_rfl, fun w' hSw => ?_⟩) hHeld ?_
            · clear hHeld
              go_simp
            simp only [Act.put, List.setIfInBounds_toArray, List.set_cons_zero, List.set_cons_succ]
            refine wpAnyZ_take (i := 9) (v := .int .i64 ((jp : Int) + 1)) [] rfl (by kernel_rfl) (by kernel_rfl) (by kernel_rfl) (by kernel_rfl) (fun _ _ _ h => h) (Or.inl ⟨by kernel_rfl, fun w' hSw => ?_⟩) hHeld ?_
            · clear hHeld
              go_simp
            simp only [Act.put, List.setIfInBounds_toArray, List.set_cons_zero, List.set_cons_succ]
            refine wpAnyZ_take (i := 10) (v := .int .i64 (jp : Int)) [] rfl (by kernel_rfl) (by kernel_rfl) (by kernel_rfl) (by kernel_rfl) (fun _ _ _ h => h) (Or.inl ⟨by kernel_rfl, fun w' hSw => ?_⟩) hHeld ?_
            · clear hHeld
              go_simp
            simp only [Act.put, List.setIfInBounds_toArray, List.set_cons_zero, List.set_cons_succ]
            refine wpAnyZ_take (i := 11) (v := .pointer (some ⟨g, jp, none⟩)) [] rfl (by kernel_rfl) (by kernel_rfl) (by kernel_rfl) (by kernel_rfl) (fun _ _ _ h => h) (Or.inl ⟨by kernel_rfl, fun w' hSw => ?_⟩) hHeld ?_
            · clear hHeld
              go_simp
            simp only [Act.put, List.setIfInBounds_toArray, List.set_cons_zero, List.set_cons_succ]
            refine wpAnyZ_take (i := 12) (v := .int .i64 (f2 jp)) [] rfl (by kernel_rfl) (by kernel_rfl) (by kernel_rfl) (by kernel_rfl) (fun _ _ _ h => h) (Or.inl ⟨by kernel_rfl, fun w' hSw => ?_⟩) hHeld ?_
            · clear hHeld
              have s0 := (hSw.cell (p := ⟨g, jp, none⟩) lg).trans lb
              go_simp
            simp only [Act.put, List.setIfInBounds_toArray, List.set_cons_zero, List.set_cons_succ]
            refine wpAnyZ_one (i := 13) (by kernel_rfl) rfl (fun K' hK => ?_)
            rw [if_pos (by kernel_rfl)]
            go_simp
            refine (cLess_any _ _ _).mono ?_
            rintro e y1 ⟨rfl, hw⟩
            have hHeld' : Below wr.heap.size wr y1 := by rw [← hw]; exact hHeld
            clear hw hHeld
            refine hK.out _ _ ?_ (fun hHeld => ?_)
            · exact hHeld'
            clear hK K' hHeld'
            rw [hv]
            try simp only [Act.put, List.setIfInBounds_toArray, List.set_cons_zero, List.set_cons_succ]
            refine wpAnyZ_one (i := 14) (by kernel_rfl) rfl (fun K' hK => ?_)
            go_simp
            refine hK.out _ _ ?_ (fun hHeld => ?_)
            · exact hHeld
            clear hK K'
            try simp only [Act.put, List.setIfInBounds_toArray, List.set_cons_zero, List.set_cons_succ]
            refine wpAnyZ_done (by kernel_rfl) ?_ _
            have S2 := Lib.hid (SJ.out.below hHeld)
            clear hHeld la lb SJ lg
            go_step
            clear HI
            go_wp2
            go_roundg (b - (i + 1))
            case measure => omega
            case rel => exact ⟨i + 1, f2, by go_num, by omega, by omega, by omega, Lib.hid (by rw [show min (i + 1) b = i + 1 from by omega]; exact HS.out), S2⟩
    · have HS2 : Hid (SrtO 0 b f f1) := Lib.hid (by have := HS.out; rw [HA.out] at this; rwa [show min i b = b from by omega] at this)
      go_wp2
      go_end0
      exact ⟨rfl, f1, HS2.out, S1.out⟩
set_option maxRecDepth 100000 in
set_option maxHeartbeats 4000000 in
theorem sPdq_few (g n cap : Nat) (f : Nat → Int) (w0 w : World) (lim : Int) (S0 : SortP w0 g n f w) (hn : n ≤ 12) :
    Calls Try.prog 90 #[.slice (some ⟨g, 0, none⟩) n cap, .int .i64 0, .int .i64 n, .int .i64 lim] w (SortPostO n f w0 g n) := by
  have S := Lib.hid S0
  clear S0
  go_enter Try.func90, Try.ntmps90
  go_wp2
  go_loopg [1, 2] 0 (fun g1 v1 v2 wr => v1 = .int .i64 0 ∧ v2 = .int .i64 n ∧ Hid (SortP w0 g n f wr))
  case atStart => exact ⟨rfl, rfl, S⟩
  case round =>
    clear S
    obtain ⟨rfl, rfl, S⟩ := hrel
    have h12 : (n : Int) ≤ 12 := by omega
    go_wp2_with fail
    refine (sInsOrd_any g n cap 0 n 0 n f w0 _ rfl rfl S.out rfl (by omega) (Nat.le_refl _) (by omega)).mono ?_
    rintro e w1 ⟨rfl, h⟩
    have H := Lib.hid h
    clear h S
    go_wp2_with fail
    go_end0
    exact ⟨rfl, H.out⟩
set_option maxRecDepth 100000 in
set_option maxHeartbeats 8000000 in
theorem bLen64_few (n : Nat) (w : World) (hn : n ≤ 12) : Calls Try.prog 114 #[.int .u64 n] w fun e w' => ∃ v, e = .returned (.int .i64 v) ∧ w' = w := by
  have hc : n = 0 ∨ n = 1 ∨ n = 2 ∨ n = 3 ∨ n = 4 ∨ n = 5 ∨ n = 6 ∨ n = 7 ∨ n = 8 ∨ n = 9 ∨ n = 10 ∨ n = 11 ∨ n = 12 := by omega
  clear hn
  rcases hc with rfl | rfl | rfl | rfl | rfl | rfl | rfl | rfl | rfl | rfl | rfl | rfl | rfl
  all_goals
    go_enter Try.func114, Try.ntmps114
    go_wp2_with fail
    go_ret
    exact ⟨_, rfl, rfl⟩
set_option maxRecDepth 100000 in
set_option maxHeartbeats 4000000 in
theorem bLen_few (n : Nat) (w : World) (hn : n ≤ 12) : Calls Try.prog 91 #[.int .u64 n] w fun e w' => ∃ v, e = .returned (.int .i64 v) ∧ w' = w := by
  go_enter Try.func91, Try.ntmps91
  go_wp2_with fail
  refine (bLen64_few n w hn).mono ?_
  rintro e w1 ⟨v, rfl, rfl⟩
  go_wp2_with fail
  go_ret
  exact ⟨v, rfl, rfl⟩
set_option maxRecDepth 100000 in
set_option maxHeartbeats 4000000 in
theorem sSort_few (g n cap : Nat) (f : Nat → Int) (w0 w : World) (S0 : SortP w0 g n f w) (hn : n ≤ 12) :
    Calls Try.prog 76 #[.slice (some ⟨g, 0, none⟩) n cap] w (SortPostO n f w0 g n) := by
  have S := Lib.hid S0
  clear S0
  go_enter Try.func76, Try.ntmps76
  go_wp2_with fail
  refine (bLen_few n w hn).mono ?_
  rintro e w1 ⟨v, rfl, rfl⟩
  go_wp2_with fail
  refine (sPdq_few g n cap f w0 _ v S.out hn).mono ?_
  rintro e w1 ⟨rfl, h⟩
  have H := Lib.hid h
  clear h S
  go_wp2_with fail
  go_end0
  exact ⟨rfl, H.out⟩
end Go.Proofs.Ytgfcnkfmgpakkaa
