/-
Several texts in one: RepD, RepE.
-/
import Derived.Test.YtgfcnkfmgpakkaaGRepA
import Derived.Test.YtgfcnkfmgpakkaaGPlanH
import Derived.Test.YtgfcnkfmgpakkaaCPlanQ
import Derived.Test.YtgfcnkfmgpakkaaGAdmC
import Derived.Deep.LoopGhost
/-
explains, of the program and of the reference, walked.
-/
namespace Go.Proofs.Ytgfcnkfmgpakkaa
open Go.RowKit
set_option linter.unusedVariables false
set_option linter.unusedSimpArgs false
noncomputable def explB (js : List GJob) (sup : List Int) (c : List Int × List Int) (i : Int) (kept : List Int) : Bool := @decide (expl js sup c i kept) (Classical.propDecidable _)
theorem explB_iff {js : List GJob} {sup : List Int} {c : List Int × List Int} {i : Int} {kept : List Int} : explB js sup c i kept = true ↔ expl js sup c i kept := by
  unfold explB
  exact @decide_eq_true_iff _ (Classical.propDecidable _)
theorem explB_not {js : List GJob} {sup : List Int} {c : List Int × List Int} {i : Int} {kept : List Int} (h : ¬ expl js sup c i kept) : explB js sup c i kept = false := by
  cases e : explB js sup c i kept
  · rfl
  · exact absurd (explB_iff.1 e) h
set_option maxRecDepth 100000 in
set_option maxHeartbeats 4000000 in
theorem rExpl_any (A A2 A3 A4 A5 : Option Addr) (c N c2 T c3 N3 c4 N4 c5 M : Nat) (js : List GJob) (sup cj cs kept : List Int) (i : Int) (w : World) (hR : Rd 5 encJ w A js) (HN : Hid (js.length = N)) (hl : N ≤ 9223372036854775807) (hR2 : Rd 1 encI w A2 sup) (HN2 : Hid (sup.length = T)) (hl2 : T ≤ 9223372036854775807)
    (hR3 : Rd 1 encI w A3 cj) (HN3 : Hid (cj.length = N3)) (hl3 : N3 ≤ 9223372036854775807) (hR4 : Rd 1 encI w A4 cs) (HN4 : Hid (cs.length = N4)) (hl4 : N4 ≤ 9223372036854775807) (hR5 : Rd 1 encI w A5 kept) (HN5 : Hid (kept.length = M)) (hl5 : M ≤ 9223372036854775807) :
    Calls Try.prog 79 #[.slice A N c, .slice A2 T c2, .agg #[.slice A3 N3 c3, .slice A4 N4 c4], .int .i64 i, .slice A5 M c5] w fun e w' => e = .returned (.bool (explB js sup (cj, cs) i kept)) ∧ Below w.heap.size w w' := by
  have a0 : Below w.heap.size w (w.alloc (.cells #[.slice A3 N3 c3, .slice A4 N4 c4] 30)) := (Below.refl _ w).alloc (Nat.le_refl _) _
  have k0 : (w.alloc (.cells #[.slice A3 N3 c3, .slice A4 N4 c4] 30)).cell? ⟨w.heap.size, 0, none⟩ = some (.slice A3 N3 c3) := by go_simp
  have k1 : (w.alloc (.cells #[.slice A3 N3 c3, .slice A4 N4 c4] 30)).cell? ⟨w.heap.size, 1, none⟩ = some (.slice A4 N4 c4) := by go_simp
  have ls : w.heap.size < (w.alloc (.cells #[.slice A3 N3 c3, .slice A4 N4 c4] 30)).heap.size := by simp
  go_enter Try.func79, Try.ntmps79
  go_wp2_with fail
  refine (plCheckCut_any A A2 A3 A4 c N c2 T c3 N3 c4 N4 js sup cj cs _ (hR.keep a0) HN hl (hR2.keep a0) HN2 hl2 (hR3.keep a0) HN3 hl3 (hR4.keep a0) HN4 hl4).mono ?_
  rintro e W ⟨rfl, hb⟩
  have bW := Lib.hid (below_then a0 hb)
  have q0 := (hb.cell (p := ⟨w.heap.size, 0, none⟩) ls).trans k0
  clear hb a0 k0 k1 ls
  cases hc : cutPB js sup cj cs
  · have HF : Hid (explB js sup (cj, cs) i kept = false) := Lib.hid (explB_not (fun h => by have := h.1; simp only at this; rw [hc] at this; cases this))
    go_wp2_with fail
    go_ret
    exact ⟨ret_bool HF.out.symm, bW.out⟩
  have HC := Lib.hid hc
  clear hc
  go_wp2_with fail
  refine (sContains_any A3 c3 N3 cj i W (hR3.keep bW.out) HN3 hl3).mono ?_
  rintro e w' ⟨rfl, hw'⟩
  rw [hw']
  clear hw'
  cases hi : hasB cj i
  · have HF : Hid (explB js sup (cj, cs) i kept = false) := Lib.hid (explB_not (fun h => by have := hasB_iff.2 h.2.1; simp only at this; rw [hi] at this; cases this))
    go_wp2_with fail
    go_ret
    exact ⟨ret_bool HF.out.symm, bW.out⟩
  have HI : Hid (i ∈ cj) := Lib.hid (hasB_iff.1 hi)
  clear hi
  have HR3 := Lib.hid (hR3.keep bW.out)
  have HR5 := Lib.hid (hR5.keep bW.out)
  go_wp2
  go_loopg [12, 28] N3 (fun g1 v12 v28 wr => ∃ k : Nat, v28 = .int .i64 k ∧ k ≤ N3 ∧ N3 - k ≤ g1 ∧ Hid (∀ m, m < k → fAt cj m = i ∨ fAt cj m ∈ kept) ∧ W = wr)
  case atStart => exact ⟨0, by go_num, by omega, by omega, Lib.hid (fun m hm => by omega), rfl⟩
  case round =>
    obtain ⟨k, rfl, hk, hg1, HA, rfl⟩ := hrel
    by_cases hlt : k < N3
    · have hltz : (k : Int) < (N3 : Int) := by omega
      obtain ⟨b, off, hA, hbl, hc0⟩ := HR3.out.int (k := k) (by rw [HN3.out]; exact hlt)
      subst hA
      have hc1 : W.cell? ⟨b, off + k, none⟩ = some (.int .i64 (fAt cj k)) := hc0
      have hmem : fAt cj k ∈ cj := fAt_mem (by rw [HN3.out]; exact hlt)
      obtain ⟨x, hx⟩ : ∃ x, x = fAt cj k := ⟨_, rfl⟩
      rw [← hx] at hc1 hmem
      have HX := Lib.hid hx
      have HMEM := Lib.hid hmem
      clear hc0 hx hmem
      by_cases he : x = i
      · have HA2 : Hid (∀ m, m < k + 1 → fAt cj m = i ∨ fAt cj m ∈ kept) := Lib.hid (fun m hm => by
          by_cases e : m = k
          · subst e; left; rw [← HX.out]; exact he
          · exact HA.out m (by omega))
        have hne : (x != i) = false := by simp [he]
        clear he
        go_wp2_with fail
        go_roundg (N3 - (k + 1))
        case measure => omega
        case rel => exact ⟨k + 1, by go_num, by omega, by omega, HA2, rfl⟩
      · have hne : (x != i) = true := by simp [he]
        go_wp2_with fail
        refine (sContains_any A5 c5 M kept x W HR5.out HN5 hl5).mono ?_
        rintro e w' ⟨rfl, hw'⟩
        rw [hw']
        clear hw'
        cases hb : hasB kept x
        · have HF : Hid (explB js sup (cj, cs) i kept = false) := Lib.hid (explB_not (fun h => by
            rcases h.2.2 x HMEM.out with e | e
            · exact he e
            · rw [hasB_iff.2 e] at hb; cases hb))
          clear he hb
          go_wp2_with fail
          go_ret
          exact ⟨ret_bool HF.out.symm, bW.out⟩
        · have HA2 : Hid (∀ m, m < k + 1 → fAt cj m = i ∨ fAt cj m ∈ kept) := Lib.hid (fun m hm => by
            by_cases e : m = k
            · subst e; right; rw [← HX.out]; exact hasB_iff.1 hb
            · exact HA.out m (by omega))
          clear he hb
          go_wp2_with fail
          go_roundg (N3 - (k + 1))
          case measure => omega
          case rel => exact ⟨k + 1, by go_num, by omega, by omega, HA2, rfl⟩
    · have hltz : ¬ (k : Int) < (N3 : Int) := by omega
      have HF : Hid (explB js sup (cj, cs) i kept = true) := Lib.hid (explB_iff.2 ⟨HC.out, HI.out, fun x hx => by
        obtain ⟨m, hm, e⟩ := mem_fAt hx
        rw [HN3.out] at hm
        rw [← e]
        exact HA.out m (by omega)⟩)
      clear HA
      go_wp2
      go_ret
      exact ⟨ret_bool HF.out.symm, bW.out⟩
set_option maxRecDepth 100000 in
set_option maxHeartbeats 4000000 in
theorem rrExpl_any (A A2 A3 A4 A5 : Option Addr) (c N c2 T c3 N3 c4 N4 c5 M : Nat) (js : List GJob) (sup cj cs kept : List Int) (i : Int) (w : World) (hR : Rd 5 encJ w A js) (HN : Hid (js.length = N)) (hl : N ≤ 9223372036854775807) (hR2 : Rd 1 encI w A2 sup) (HN2 : Hid (sup.length = T)) (hl2 : T ≤ 9223372036854775807)
    (hR3 : Rd 1 encI w A3 cj) (HN3 : Hid (cj.length = N3)) (hl3 : N3 ≤ 9223372036854775807) (hR4 : Rd 1 encI w A4 cs) (HN4 : Hid (cs.length = N4)) (hl4 : N4 ≤ 9223372036854775807) (hR5 : Rd 1 encI w A5 kept) (HN5 : Hid (kept.length = M)) (hl5 : M ≤ 9223372036854775807) :
    Calls Try.prog 80 #[.slice A N c, .slice A2 T c2, .agg #[.slice A3 N3 c3, .slice A4 N4 c4], .int .i64 i, .slice A5 M c5] w fun e w' => e = .returned (.bool (explB js sup (cj, cs) i kept)) ∧ Below w.heap.size w w' := by
  have a0 : Below w.heap.size w (w.alloc (.cells #[.slice A3 N3 c3, .slice A4 N4 c4] 30)) := (Below.refl _ w).alloc (Nat.le_refl _) _
  have k0 : (w.alloc (.cells #[.slice A3 N3 c3, .slice A4 N4 c4] 30)).cell? ⟨w.heap.size, 0, none⟩ = some (.slice A3 N3 c3) := by go_simp
  have k1 : (w.alloc (.cells #[.slice A3 N3 c3, .slice A4 N4 c4] 30)).cell? ⟨w.heap.size, 1, none⟩ = some (.slice A4 N4 c4) := by go_simp
  have ls : w.heap.size < (w.alloc (.cells #[.slice A3 N3 c3, .slice A4 N4 c4] 30)).heap.size := by simp
  go_enter Try.func80, Try.ntmps80
  go_wp2_with fail
  refine (rrHas_any A3 c3 N3 cj i _ (hR3.keep a0) HN3 hl3).mono ?_
  rintro e w' ⟨rfl, hw'⟩
  rw [hw']
  clear hw'
  cases hi : hasB cj i
  · have HF : Hid (explB js sup (cj, cs) i kept = false) := Lib.hid (explB_not (fun h => by have := hasB_iff.2 h.2.1; simp only at this; rw [hi] at this; cases this))
    have HB := Lib.hid a0
    clear a0
    go_wp2_with fail
    go_ret
    exact ⟨ret_bool HF.out.symm, HB.out⟩
  have HI : Hid (i ∈ cj) := Lib.hid (hasB_iff.1 hi)
  clear hi
  go_wp2_with fail
  refine (rpCheckCut_any A A2 A3 A4 c N c2 T c3 N3 c4 N4 js sup cj cs _ (hR.keep a0) HN hl (hR2.keep a0) HN2 hl2 (hR3.keep a0) HN3 hl3 (hR4.keep a0) HN4 hl4).mono ?_
  rintro e W ⟨rfl, hb⟩
  have bW := Lib.hid (below_then a0 hb)
  have q0 := (hb.cell (p := ⟨w.heap.size, 0, none⟩) ls).trans k0
  clear hb a0 k0 k1 ls
  cases hc : cutPB js sup cj cs
  · have HF : Hid (explB js sup (cj, cs) i kept = false) := Lib.hid (explB_not (fun h => by have := h.1; simp only at this; rw [hc] at this; cases this))
    go_wp2_with fail
    go_ret
    exact ⟨ret_bool HF.out.symm, bW.out⟩
  have HC := Lib.hid hc
  clear hc
  have HR3 := Lib.hid (hR3.keep bW.out)
  have HR5 := Lib.hid (hR5.keep bW.out)
  go_wp2
  go_loopg [11] N3 (fun g1 v11 wr => ∃ k : Nat, v11 = .int .i64 k ∧ k ≤ N3 ∧ N3 - k ≤ g1 ∧ Hid (∀ m, m < k → fAt cj m = i ∨ fAt cj m ∈ kept) ∧ W = wr)
  case atStart => exact ⟨0, by go_num, by omega, by omega, Lib.hid (fun m hm => by omega), rfl⟩
  case round =>
    obtain ⟨k, rfl, hk, hg1, HA, rfl⟩ := hrel
    by_cases hlt : k < N3
    · have hltz : (k : Int) < (N3 : Int) := by omega
      obtain ⟨b, off, hA, hbl, hc0⟩ := HR3.out.int (k := k) (by rw [HN3.out]; exact hlt)
      subst hA
      have hc1 : W.cell? ⟨b, off + k, none⟩ = some (.int .i64 (fAt cj k)) := hc0
      have hmem : fAt cj k ∈ cj := fAt_mem (by rw [HN3.out]; exact hlt)
      obtain ⟨x, hx⟩ : ∃ x, x = fAt cj k := ⟨_, rfl⟩
      rw [← hx] at hc1 hmem
      have HX := Lib.hid hx
      have HMEM := Lib.hid hmem
      clear hc0 hx hmem
      by_cases he : x = i
      · have HA2 : Hid (∀ m, m < k + 1 → fAt cj m = i ∨ fAt cj m ∈ kept) := Lib.hid (fun m hm => by
          by_cases e : m = k
          · subst e; left; rw [← HX.out]; exact he
          · exact HA.out m (by omega))
        have hne : (x != i) = false := by simp [he]
        clear he
        go_wp2_with fail
        go_roundg (N3 - (k + 1))
        case measure => omega
        case rel => exact ⟨k + 1, by go_num, by omega, by omega, HA2, rfl⟩
      · have hne : (x != i) = true := by simp [he]
        go_wp2_with fail
        refine (rrHas_any A5 c5 M kept x W HR5.out HN5 hl5).mono ?_
        rintro e w' ⟨rfl, hw'⟩
        rw [hw']
        clear hw'
        cases hb : hasB kept x
        · have HF : Hid (explB js sup (cj, cs) i kept = false) := Lib.hid (explB_not (fun h => by
            rcases h.2.2 x HMEM.out with e | e
            · exact he e
            · rw [hasB_iff.2 e] at hb; cases hb))
          clear he hb
          go_wp2_with fail
          go_ret
          exact ⟨ret_bool HF.out.symm, bW.out⟩
        · have HA2 : Hid (∀ m, m < k + 1 → fAt cj m = i ∨ fAt cj m ∈ kept) := Lib.hid (fun m hm => by
            by_cases e : m = k
            · subst e; right; rw [← HX.out]; exact hasB_iff.1 hb
            · exact HA.out m (by omega))
          clear he hb
          go_wp2_with fail
          go_roundg (N3 - (k + 1))
          case measure => omega
          case rel => exact ⟨k + 1, by go_num, by omega, by omega, HA2, rfl⟩
    · have hltz : ¬ (k : Int) < (N3 : Int) := by omega
      have HF : Hid (explB js sup (cj, cs) i kept = true) := Lib.hid (explB_iff.2 ⟨HC.out, HI.out, fun x hx => by
        obtain ⟨m, hm, e⟩ := mem_fAt hx
        rw [HN3.out] at hm
        rw [← e]
        exact HA.out m (by omega)⟩)
      clear HA
      go_wp2
      go_ret
      exact ⟨ret_bool HF.out.symm, bW.out⟩
end Go.Proofs.Ytgfcnkfmgpakkaa
/-
replan.Check, walked.
-/
namespace Go.Proofs.Ytgfcnkfmgpakkaa
open Go.RowKit
set_option linter.unusedVariables false
set_option linter.unusedSimpArgs false
/-- The two slices of a cut. -/
structure CutV where
  a : Option Addr
  n : Nat
  c : Nat
  a' : Option Addr
  n' : Nat
  c' : Nat
def encCut (v : CutV) : List Value := [.slice v.a v.n v.c, .slice v.a' v.n' v.c']
def CutRow (w : World) (v : CutV) (c : List Int × List Int) : Prop := c.1.length = v.n ∧ v.n ≤ 9223372036854775807 ∧ Rd 1 encI w v.a c.1 ∧ c.2.length = v.n' ∧ v.n' ≤ 9223372036854775807 ∧ Rd 1 encI w v.a' c.2
/-- A slice of cuts that reads as C; vs are their slices. -/
structure RdC (w : World) (A : Option Addr) (vs : List CutV) (C : List (List Int × List Int)) : Prop where
  top : Rd 2 encCut w A vs
  len : vs.length = C.length
  row : ∀ (k : Nat) (v : CutV) (c : List Int × List Int), vs[k]? = some v → C[k]? = some c → CutRow w v c
theorem CutRow.keep {w w' : World} {v : CutV} {c : List Int × List Int} (h : CutRow w v c) (hb : Below w.heap.size w w') : CutRow w' v c :=
  ⟨h.1, h.2.1, h.2.2.1.keep hb, h.2.2.2.1, h.2.2.2.2.1, h.2.2.2.2.2.keep hb⟩
theorem RdC.keep {w w' : World} {A : Option Addr} {vs : List CutV} {C : List (List Int × List Int)} (h : RdC w A vs C) (hb : Below w.heap.size w w') : RdC w' A vs C :=
  ⟨h.top.keep hb, h.len, fun k v c h1 h2 => (h.row k v c h1 h2).keep hb⟩
theorem RdC.nil {w : World} {A : Option Addr} : RdC w A [] [] := ⟨Rd.nil, rfl, fun k v c h => by simp at h⟩
theorem RdC.at_ {w : World} {A : Option Addr} {vs : List CutV} {C : List (List Int × List Int)} (h : RdC w A vs C) {k : Nat} (hk : k < C.length) :
    ∃ b off v c, A = some ⟨b, off, none⟩ ∧ b < w.heap.size ∧ C[k]? = some c ∧ w.cell? ⟨b, off + k * 2, none⟩ = some (.slice v.a v.n v.c) ∧ w.cell? ⟨b, off + k * 2 + 1, none⟩ = some (.slice v.a' v.n' v.c') ∧ CutRow w v c := by
  obtain ⟨b, off, v, hA, hlt, hv, hc⟩ := h.top.at_ (k := k) (by rw [h.len]; exact hk)
  have hcc : C[k]? = some C[k] := List.getElem?_eq_getElem hk
  exact ⟨b, off, v, C[k], hA, hlt, hcc, hc 0 _ rfl, hc 1 _ rfl, h.row k v _ hv hcc⟩
theorem RdC.tail1 {w : World} {b off : Nat} {vs : List CutV} {C : List (List Int × List Int)} (h : RdC w (some ⟨b, off, none⟩) vs C) : RdC w (some ⟨b, off + 2, none⟩) vs.tail C.tail := by
  refine ⟨fun hn => ?_, by rw [List.length_tail, List.length_tail, h.len], fun k v c h1 h2 => ?_⟩
  · rw [List.length_tail] at hn
    obtain ⟨b', off', e, hlt, hcell⟩ := h.top (by omega)
    injection e with e
    injection e with e1 e2
    subst e1 e2
    refine ⟨b, off + 2, rfl, hlt, fun k x hx j v hv => ?_⟩
    have hx' : vs[k + 1]? = some x := by rw [List.getElem?_tail] at hx; exact hx
    have := hcell (k + 1) x hx' j v hv
    have e : off + (k + 1) * 2 + j = off + 2 + k * 2 + j := by omega
    rw [e] at this
    exact this
  · rw [List.getElem?_tail] at h1 h2
    exact h.row _ v c h1 h2
theorem rd_take {w : World} {A : Option Addr} {xs : List Int} (h : Rd 1 encI w A xs) (k : Nat) : Rd 1 encI w A (xs.take k) := by
  intro hn
  rw [List.length_take] at hn
  obtain ⟨b, off, e, hlt, hc⟩ := h (by omega)
  refine ⟨b, off, e, hlt, fun m x hx j v hv => hc m x ?_ j v hv⟩
  rw [List.getElem?_take] at hx
  split at hx
  · exact hx
  · cases hx
theorem chk_sub {js : List GJob} {sup ord kept : List Int} {cuts : List (List Int × List Int)} : ∀ {k a b : Nat}, k ≤ ord.length → chkTo js sup kept cuts ord k = some (a, b) → ∀ x, x ∈ kept.take a → x ∈ ord
  | 0, a, b, _, h => by
    unfold chkTo at h
    simp at h
    obtain ⟨rfl, rfl⟩ := h
    intro x hx
    simp at hx
  | k + 1, a, b, hk, h => by
    have hi : ord[k]? = some ord[k] := List.getElem?_eq_getElem (by omega)
    rw [chkTo_succ hi] at h
    cases hs : chkTo js sup kept cuts ord k with
    | none => rw [hs] at h; simp [stepC] at h
    | some ab =>
      obtain ⟨a', b'⟩ := ab
      rw [hs] at h
      have ih := chk_sub (by omega) hs
      by_cases c : kept[a']? = some ord[k]
      · rw [stepC_keep c] at h
        simp at h
        obtain ⟨rfl, rfl⟩ := h
        intro x hx
        rw [take_snocM c] at hx
        rcases List.mem_append.1 hx with e | e
        · exact ih x e
        · simp at e; subst e; exact List.getElem_mem _
      · by_cases d : explO js sup cuts[b']? ord[k] (kept.take a')
        · rw [stepC_cut c d] at h
          simp at h
          obtain ⟨rfl, rfl⟩ := h
          exact ih
        · rw [stepC_bad c d] at h
          cases h
/-- A step that fails. -/
theorem chkB_bad {js : List GJob} {sup ord kept : List Int} {cuts : List (List Int × List Int)} {k a b : Nat} {i : Int} (hi : ord[k]? = some i) (hs : chkTo js sup kept cuts ord k = some (a, b)) (h : ¬ kept[a]? = some i) (he : ¬ explO js sup cuts[b]? i (kept.take a)) : chkB js sup ord kept cuts = false :=
  chkB_not (fun x => by
    obtain ⟨_, _, ⟨b', h3⟩, _⟩ := x
    have h1 : chkTo js sup kept cuts ord (k + 1) = none := by rw [chkTo_succ hi, hs, stepC_bad h he]
    rw [chkTo_none (m := ord.length) (by have := (List.getElem?_eq_some_iff.1 hi).1; omega) h1] at h3
    cases h3)
theorem chkB_short {js : List GJob} {sup ord kept : List Int} {cuts : List (List Int × List Int)} {a b : Nat} (hs : chkTo js sup kept cuts ord ord.length = some (a, b)) (h : a ≠ kept.length) : chkB js sup ord kept cuts = false :=
  chkB_not (fun x => by
    obtain ⟨_, _, ⟨b', h3⟩, _⟩ := x
    rw [hs] at h3
    injection h3 with h3
    injection h3 with h3 _
    exact h h3)
theorem wrap_over {x : Int} (h0 : 9223372036854775807 < x) (h1 : x ≤ 18446744073709551614) : wrap64 x = x - 18446744073709551616 := by
  unfold wrap64
  omega
set_option maxRecDepth 100000 in
set_option maxHeartbeats 8000000 in
theorem rCheck_any (A A2 A5 A6 : Option Addr) (c N c2 T c5 M c6 Nc : Nat) (js : List GJob) (sup kept ord : List Int) (vs : List CutV) (C : List (List Int × List Int)) (w : World) (hR : Rd 5 encJ w A js) (HN : Hid (js.length = N)) (hl : N ≤ 9223372036854775807) (hR2 : Rd 1 encI w A2 sup) (HN2 : Hid (sup.length = T)) (hl2 : T ≤ 9223372036854775807)
    (hR5 : Rd 1 encI w A5 kept) (HN5 : Hid (kept.length = M)) (hl5 : M ≤ c5 ∧ c5 ≤ 9223372036854775807) (hR6 : RdC w A6 vs C) (HN6 : Hid (C.length = Nc)) (hl6 : Nc ≤ c6 ∧ c6 ≤ 9223372036854775807) (HO : Hid (okP js sup = true → IsOrd js ord)) :
    Calls Try.prog 40 #[.slice A N c, .slice A2 T c2, .slice A5 M c5, .slice A6 Nc c6] w fun e w' => e = .returned (.bool (chkB js sup ord kept C)) ∧ Below w.heap.size w w' := by
  go_enter Try.func40, Try.ntmps40
  go_wp2
  go_step3
  go_wp2_with fail
  refine (plValid_any A A2 c N c2 T js sup w hR HN hl hR2 HN2 hl2).mono ?_
  rintro e w1 ⟨rfl, b1⟩
  cases hok : okP js sup
  · have HF : Hid (chkB js sup ord kept C = false) := Lib.hid (chkB_not (fun h => by rw [hok] at h; cases h.1))
    go_wp2_with fail
    try rw [Exit.noGoto_ret]
    go_ret
    exact ⟨ret_bool HF.out.symm, b1⟩
  obtain ⟨⟨t1, t2⟩, _, _⟩ := okP_iff.1 hok
  rw [HN.out] at t1
  rw [HN2.out] at t2
  have HOK := Lib.hid hok
  have HO := Lib.hid (HO.out hok)
  have B1 := Lib.hid b1
  clear hok b1
  by_cases hsum : M + Nc = N
  case neg =>
    have HF : Hid (chkB js sup ord kept C = false) := Lib.hid (chkB_not (fun h => by have := h.2.1; rw [HN5.out, HN6.out, HN.out] at this; exact hsum this))
    by_cases hbig : (M : Int) + (Nc : Int) ≤ 9223372036854775807
    · have hne : ((M : Int) + (Nc : Int) != (N : Int)) = true := by rw [bne_iff_ne]; omega
      clear hsum
      go_wp2_with fail
      try rw [Exit.noGoto_ret]
      go_ret
      exact ⟨ret_bool HF.out.symm, B1.out⟩
    · have hwrap : wrap64 ((M : Int) + (Nc : Int)) = (M : Int) + (Nc : Int) - 18446744073709551616 := wrap_over (by omega) (by omega)
      have hne : ((M : Int) + (Nc : Int) - 18446744073709551616 != (N : Int)) = true := by rw [bne_iff_ne]; omega
      clear hsum
      go_wp2_with fail
      try rw [Exit.noGoto_ret]
      go_ret
      exact ⟨ret_bool HF.out.symm, B1.out⟩
  have hne : ((M : Int) + (Nc : Int) != (N : Int)) = false := by rw [bne_eq_false_iff_eq]; omega
  have HS := Lib.hid hsum
  have hMs : M ≤ 12 := by omega
  have hNs : Nc ≤ 12 := by omega
  clear hsum
  go_wp2_with fail
  go_step3
  go_wp2_with fail
  refine (rInOrder_any A c N js w1 (hR.keep B1.out) HN t1).mono ?_
  rintro e w2 ⟨ao, dord, ord', rfl, ro, ho', hb2⟩
  obtain rfl := order_unique ho' HO.out
  have B2 := Lib.hid (below_then B1.out hb2)
  have HRO := Lib.hid ro
  have HLO : Hid (ord'.length = N) := Lib.hid (by rw [ho'.len, HN.out])
  have HST0 : Hid (RdC w2 A6 (vs.drop 0) (C.drop 0)) := Lib.hid (hR6.keep B2.out)
  have HR := Lib.hid (hR.keep B2.out)
  have HR2 := Lib.hid (hR2.keep B2.out)
  have HR5 := Lib.hid (hR5.keep B2.out)
  have HC0 : Hid (chkTo js sup kept C ord' 0 = some (0, 0)) := Lib.hid (by simp [chkTo])
  clear ho' hb2 ro hR hR2 hR5 hR6 B1
  go_wp2
  go_loopg [3, 9, 11, 12, 33] N (fun g1 v3 v9 v11 v12 v33 wr => ∃ (k a b nb cb : Nat) (Ab : Option Addr), v33 = .int .i64 k ∧ v9 = .int .i64 a ∧ v3 = .slice Ab nb cb ∧ k ≤ N ∧ N - k ≤ g1 ∧ nb = Nc - b ∧ b ≤ Nc ∧ a ≤ M ∧ nb ≤ cb ∧ Hid (chkTo js sup kept C ord' k = some (a, b)) ∧ Hid (RdC w2 Ab (vs.drop b) (C.drop b)) ∧ Hid (Below w2.heap.size w2 wr))
  case atStart => exact ⟨0, 0, 0, Nc, c6, A6, by go_num, by go_num, rfl, by omega, by omega, by omega, by omega, by omega, hl6.1, HC0, HST0, Lib.hid (Below.refl _ _)⟩
  case round =>
    clear HC0 HST0
    obtain ⟨k, a, b, nb, cb, Ab, rfl, rfl, rfl, hk, hg1, hnb', hbN, haM, hcb, HC, HD, HB⟩ := hrel
    have HNB := Lib.hid hnb'
    clear hnb'
    by_cases hlt : k < N
    · have hltz : (k : Int) < (N : Int) := by omega
      obtain ⟨bo, oo, i, hao, hbo, hi, hio⟩ := (HRO.out.keep HB.out).at_ (k := k) (by rw [HLO.out]; exact hlt)
      subst hao
      have hio0 : wr.cell? ⟨bo, oo + k, none⟩ = some (.int .i64 i) := by have := hio 0 _ rfl; simpa using this
      have HI := Lib.hid hi
      clear hio hi
      have HRw := Lib.hid (HR.out.keep HB.out)
      by_cases hK : kept[a]? = some i
      · have haM2 : a < M := by rw [← HN5.out]; exact (List.getElem?_eq_some_iff.1 hK).1
        have haz : (a : Int) < (M : Int) := by omega
        obtain ⟨b5, o5, h5, hb5, hc5⟩ := (HR5.out.keep HB.out).int (k := a) (by rw [HN5.out]; exact haM2)
        have hc5' : wr.cell? ⟨b5, o5 + a, none⟩ = some (.int .i64 i) := by rw [hc5, hK]; rfl
        subst h5
        have HC2 : Hid (chkTo js sup kept C ord' (k + 1) = some (a + 1, b)) := Lib.hid (by rw [chkTo_succ HI.out, HC.out, stepC_keep hK])
        clear hc5 hK HC
        go_wp2_with fail
        go_roundg (N - (k + 1))
        case measure => omega
        case rel => exact ⟨k + 1, a + 1, b, nb, cb, Ab, by go_num, by go_num, rfl, by omega, by omega, HNB.out, hbN, by omega, hcb, HC2, HD, HB⟩
      · have HK := Lib.hid hK
        have HG : Hid (¬ a < M ∨ (a < M ∧ ∃ y, y ≠ i ∧ kept[a]? = some y)) := Lib.hid (by
          by_cases h : a < M
          · right
            refine ⟨h, kept[a]'(by rw [HN5.out]; exact h), fun e => hK ?_, List.getElem?_eq_getElem _⟩
            rw [← e]; exact List.getElem?_eq_getElem _
          · exact .inl h)
        clear hK
        rcases HG.out with hg | ⟨hg, y, hy, hky⟩
        · have haz : ¬ (a : Int) < (M : Int) := by omega
          clear HG
          go_upto_region 10 with (fail)
          have hnb := HNB.out
          rcases Nat.eq_zero_or_pos nb with h0 | h0
          · have HT : Hid (chkB js sup ord' kept C = false) := Lib.hid (chkB_bad HI.out HC.out HK.out (by rw [List.getElem?_eq_none (by rw [HN6.out]; omega)]; exact fun h => h))
            have HBw := Lib.hid (below_then B2.out HB.out)
            have hz : ((nb : Int) == 0) = true := by simp [h0]
            clear HC HD HB hnb h0
            go_wp2_with fail
            go_quiet (fail)
            go_wp2
            try rw [Exit.noGoto_ret]
            go_ret
            exact ⟨ret_bool HT.out.symm, below_drewN HBw.out _⟩
          · have hnz : ((nb : Int) == 0) = false := by simp; omega
            have hnb0 : (0 : Int) < (nb : Int) := by omega
            have hnb1 : (1 : Int) ≤ (nb : Int) := by omega
            obtain ⟨bc, oc, v, cu, hAb, lc0, hcu, v0', v1', hrow⟩ := (HD.out.keep HB.out).at_ (k := 0) (by rw [List.length_drop, HN6.out]; omega)
            subst hAb
            have lc : bc < wr.heap.size := lc0
            have v0 : wr.cell? ⟨bc, oc, none⟩ = some (.slice v.a v.n v.c) := by simpa using v0'
            have v1 : wr.cell? ⟨bc, oc + 1, none⟩ = some (.slice v.a' v.n' v.c') := by simpa using v1'
            have hcb' : C[b]? = some cu := by rw [List.getElem?_drop] at hcu; simpa using hcu
            have HCU := Lib.hid hcb'
            have HV := Lib.hid hrow
            have HKT := Lib.hid (rd_take (HR5.out.keep HB.out) a)
            have HKL : Hid ((kept.take a).length = a) := Lib.hid (by rw [List.length_take, HN5.out]; omega)
            have HR := Lib.hid (HR.out.keep HB.out)
            have HR2 := Lib.hid (HR2.out.keep HB.out)
            have haz2 : (a : Int) ≤ (c5 : Int) := by omega
            have ha0 : (0 : Int) ≤ (a : Int) := by omega
            clear hcu v0' v1' hcb' hrow lc0 hnb
            refine region_z (S := fun w' => Below wr.heap.size wr w') [] (by kernel_rfl) (Below.refl _ _).drew (fun hHeld => ?_)
            refine wpAnyZ_take (i := 0) (v := .slice (some ⟨bc, oc, none⟩) nb cb) [] rfl (by kernel_rfl) (by kernel_rfl) (by kernel_rfl) (by kernel_rfl) (fun _ _ _ h => h) (Or.inl ⟨by kernel_rfl, fun w' hSw => ?_⟩) hHeld ?_
            · clear hHeld
              go_simp
            simp only [Act.put, List.setIfInBounds_toArray, List.set_cons_zero, List.set_cons_succ]
            refine wpAnyZ_take (i := 1) (v := .int .i64 nb) [] rfl (by kernel_rfl) (by kernel_rfl) (by kernel_rfl) (by kernel_rfl) (fun _ _ _ h => h) (Or.inl ⟨by kernel_rfl, fun w' hSw => ?_⟩) hHeld ?_
            · clear hHeld
              go_simp
            simp only [Act.put, List.setIfInBounds_toArray, List.set_cons_zero, List.set_cons_succ]
            refine wpAnyZ_take (i := 2) (v := .bool false) [] rfl (by kernel_rfl) (by kernel_rfl) (by kernel_rfl) (by kernel_rfl) (fun _ _ _ h => h) (Or.inl ⟨by kernel_rfl, fun w' hSw => ?_⟩) hHeld ?_
            · clear hHeld
              go_simp
              first | done | exact hnz | simpa using hnz
            simp only [Act.put, List.setIfInBounds_toArray, List.set_cons_zero, List.set_cons_succ]
            refine wpAnyZ_take (i := 3) (v := .bool false) [] rfl (by kernel_rfl) (by kernel_rfl) (by kernel_rfl) (by kernel_rfl) (fun _ _ _ h => h) (Or.inl ⟨by kernel_rfl, fun w' hSw => ?_⟩) hHeld ?_
            · clear hHeld
              go_simp
            simp only [Act.put, List.setIfInBounds_toArray, List.set_cons_zero, List.set_cons_succ]
            refine wpAnyZ_take (i := 4) (v := .slice A N c) [] rfl (by kernel_rfl) (by kernel_rfl) (by kernel_rfl) (by kernel_rfl) (fun _ _ _ h => h) (Or.inl ⟨by kernel_rfl, fun w' hSw => ?_⟩) hHeld ?_
            · clear hHeld
              go_simp
            simp only [Act.put, List.setIfInBounds_toArray, List.set_cons_zero, List.set_cons_succ]
            refine wpAnyZ_take (i := 5) (v := .slice A2 T c2) [] rfl (by kernel_rfl) (by kernel_rfl) (by kernel_rfl) (by kernel_rfl) (fun _ _ _ h => h) (Or.inl ⟨by kernel_rfl, fun w' hSw => ?_⟩) hHeld ?_
            · clear hHeld
              go_simp
            simp only [Act.put, List.setIfInBounds_toArray, List.set_cons_zero, List.set_cons_succ]
            refine wpAnyZ_take (i := 6) (v := .slice (some ⟨bc, oc, none⟩) nb cb) [] rfl (by kernel_rfl) (by kernel_rfl) (by kernel_rfl) (by kernel_rfl) (fun _ _ _ h => h) (Or.inl ⟨by kernel_rfl, fun w' hSw => ?_⟩) hHeld ?_
            · clear hHeld
              go_simp
            simp only [Act.put, List.setIfInBounds_toArray, List.set_cons_zero, List.set_cons_succ]
            refine wpAnyZ_take (i := 7) (v := .pointer (some ⟨bc, oc, none⟩)) [] rfl (by kernel_rfl) (by kernel_rfl) (by kernel_rfl) (by kernel_rfl) (fun _ _ _ h => h) (Or.inl ⟨by kernel_rfl, fun w' hSw => ?_⟩) hHeld ?_
            · clear hHeld
              go_simp
            simp only [Act.put, List.setIfInBounds_toArray, List.set_cons_zero, List.set_cons_succ]
            refine wpAnyZ_take (i := 8) (v := .agg #[.slice v.a v.n v.c, .slice v.a' v.n' v.c']) [] rfl (by kernel_rfl) (by kernel_rfl) (by kernel_rfl) (by kernel_rfl) (fun _ _ _ h => h) (Or.inl ⟨by kernel_rfl, fun w' hSw => ?_⟩) hHeld ?_
            · clear hHeld
              have s0 := (hSw.cell (p := ⟨bc, oc, none⟩) lc).trans v0
              have s1 := (hSw.cell (p := ⟨bc, oc + 1, none⟩) lc).trans v1
              go_simp
            simp only [Act.put, List.setIfInBounds_toArray, List.set_cons_zero, List.set_cons_succ]
            refine wpAnyZ_take (i := 9) (v := .int .i64 i) [] rfl (by kernel_rfl) (by kernel_rfl) (by kernel_rfl) (by kernel_rfl) (fun _ _ _ h => h) (Or.inl ⟨by kernel_rfl, fun w' hSw => ?_⟩) hHeld ?_
            · clear hHeld
              go_simp
            simp only [Act.put, List.setIfInBounds_toArray, List.set_cons_zero, List.set_cons_succ]
            refine wpAnyZ_take (i := 10) (v := .slice A5 M c5) [] rfl (by kernel_rfl) (by kernel_rfl) (by kernel_rfl) (by kernel_rfl) (fun _ _ _ h => h) (Or.inl ⟨by kernel_rfl, fun w' hSw => ?_⟩) hHeld ?_
            · clear hHeld
              go_simp
            simp only [Act.put, List.setIfInBounds_toArray, List.set_cons_zero, List.set_cons_succ]
            refine wpAnyZ_take (i := 11) (v := .int .i64 a) [] rfl (by kernel_rfl) (by kernel_rfl) (by kernel_rfl) (by kernel_rfl) (fun _ _ _ h => h) (Or.inl ⟨by kernel_rfl, fun w' hSw => ?_⟩) hHeld ?_
            · clear hHeld
              go_simp
            simp only [Act.put, List.setIfInBounds_toArray, List.set_cons_zero, List.set_cons_succ]
            refine wpAnyZ_take (i := 12) (v := .slice A5 a c5) [] rfl (by kernel_rfl) (by kernel_rfl) (by kernel_rfl) (by kernel_rfl) (fun _ _ _ h => h) (Or.inl ⟨by kernel_rfl, fun w' hSw => ?_⟩) hHeld ?_
            · clear hHeld
              go_simp
              first | done | (cases A5 <;> simp [Addr.add]) | (split <;> (cases A5 <;> simp [Addr.add]))
            simp only [Act.put, List.setIfInBounds_toArray, List.set_cons_zero, List.set_cons_succ]
            refine wpAnyZ_one (i := 13) (by kernel_rfl) rfl (fun K' hK => ?_)
            rw [if_pos (by kernel_rfl)]
            go_simp
            refine (rExpl_any A A2 v.a v.a' A5 c N c2 T v.c v.n v.c' v.n' c5 a js sup cu.1 cu.2 (kept.take a) i _ (HR.out.keep hHeld) HN hl (HR2.out.keep hHeld) HN2 hl2 (HV.out.2.2.1.keep hHeld) (Lib.hid HV.out.1) HV.out.2.1 (HV.out.2.2.2.2.2.keep hHeld) (Lib.hid HV.out.2.2.2.1) HV.out.2.2.2.2.1 (HKT.out.keep hHeld) HKL (by omega)).mono ?_
            rintro e y1 ⟨rfl, hb1⟩
            have hHeld' := below_then hHeld hb1
            clear hHeld hb1
            refine hK.out _ _ ?_ (fun hHeld => ?_)
            · exact hHeld'
            clear hK K'
            try simp only [Act.put, List.setIfInBounds_toArray, List.set_cons_zero, List.set_cons_succ]
            clear hHeld'
            refine wpAnyZ_take (i := 14) (v := .bool (!(explB js sup cu i (kept.take a)))) [] rfl (by kernel_rfl) (by kernel_rfl) (by kernel_rfl) (by kernel_rfl) (fun _ _ _ h => h) (Or.inl ⟨by kernel_rfl, fun w' hSw => ?_⟩) hHeld ?_
            · clear hHeld
              go_simp
            simp only [Act.put, List.setIfInBounds_toArray, List.set_cons_zero, List.set_cons_succ]
            refine wpAnyZ_one (i := 15) (by kernel_rfl) rfl (fun K' hK => ?_)
            go_simp
            refine hK.out _ _ ?_ (fun hHeld => ?_)
            · exact hHeld
            clear hK K'
            try simp only [Act.put, List.setIfInBounds_toArray, List.set_cons_zero, List.set_cons_succ]
            refine wpAnyZ_done (by kernel_rfl) ?_ _
            have HB2 := Lib.hid (HB.out.trans (hHeld.mono HB.out.size))
            clear hHeld HB
            go_step
            cases hx : explB js sup cu i (kept.take a)
            · have HT : Hid (chkB js sup ord' kept C = false) := Lib.hid (chkB_bad HI.out HC.out HK.out (by rw [HCU.out]; exact fun h => by have := explB_iff.2 h; rw [hx] at this; cases this))
              have HBw := Lib.hid (below_then B2.out HB2.out)
              clear HC HD HB2 HR HR2 hx
              go_wp2_with fail
              try rw [Exit.noGoto_ret]
              go_ret
              exact ⟨ret_bool HT.out.symm, HBw.out⟩
            · have HC2 : Hid (chkTo js sup kept C ord' (k + 1) = some (a, b + 1)) := Lib.hid (by rw [chkTo_succ HI.out, HC.out, stepC_cut HK.out (by rw [HCU.out]; exact explB_iff.1 hx)])
              have HDT := Lib.hid HD.out.tail1
              have hnb := HNB.out
              by_cases hc1 : cb = 1
              · have HD2 : Hid (RdC w2 (some ⟨bc, oc, none⟩) (vs.drop (b + 1)) (C.drop (b + 1))) := Lib.hid (by
                  have e1 : C.drop (b + 1) = [] := List.drop_eq_nil_of_le (by rw [HN6.out]; omega)
                  have e2 : vs.drop (b + 1) = [] := List.drop_eq_nil_of_le (by
                    have := HD.out.len
                    rw [List.length_drop, List.length_drop, HN6.out] at this
                    omega)
                  rw [e1, e2]; exact RdC.nil)
                subst hc1
                clear HC HD HR HR2 hx HDT v0 v1 hnb
                go_wp2_with fail
                go_roundg (N - (k + 1))
                case measure => omega
                case rel => have hnb := HNB.out; exact ⟨k + 1, a, b + 1, 0, 0, some ⟨bc, oc, none⟩, by go_num, rfl, rfl, by omega, by omega, by omega, by omega, haM, by omega, HC2, HD2, HB2⟩
              · have HD2 : Hid (RdC w2 (some ⟨bc, oc + 2, none⟩) (vs.drop (b + 1)) (C.drop (b + 1))) := Lib.hid (by
                  have := HDT.out
                  rwa [List.tail_drop, List.tail_drop] at this)
                clear HC HD HR HR2 hx HDT v0 v1 hnb
                go_wp2_with fail
                go_roundg (N - (k + 1))
                case measure => omega
                case rel => have hnb := HNB.out; exact ⟨k + 1, a, b + 1, nb - 1, cb - 1, some ⟨bc, oc + 2, none⟩, by go_num, rfl, rfl, by omega, by omega, by omega, by omega, haM, by omega, HC2, HD2, HB2⟩
        · have haz : (a : Int) < (M : Int) := by omega
          obtain ⟨b5, o5, h5, hb5, hc5⟩ := (HR5.out.keep HB.out).int (k := a) (by rw [HN5.out]; exact hg)
          have hc5' : wr.cell? ⟨b5, o5 + a, none⟩ = some (.int .i64 y) := by rw [hc5, hky]; rfl
          have hyi : (y == i) = false := by simp [hy]
          have H5 := Lib.hid h5
          have hc5'' := hc5'
          clear hc5 hc5' hky hy HG
          subst h5
          go_upto_region 10 with (fail)
          clear hc5'' hyi
          have hnb := HNB.out
          rcases Nat.eq_zero_or_pos nb with h0 | h0
          · have HT : Hid (chkB js sup ord' kept C = false) := Lib.hid (chkB_bad HI.out HC.out HK.out (by rw [List.getElem?_eq_none (by rw [HN6.out]; omega)]; exact fun h => h))
            have HBw := Lib.hid (below_then B2.out HB.out)
            have hz : ((nb : Int) == 0) = true := by simp [h0]
            clear HC HD HB hnb h0
            go_wp2_with fail
            go_quiet (fail)
            go_wp2
            try rw [Exit.noGoto_ret]
            go_ret
            exact ⟨ret_bool HT.out.symm, below_drewN HBw.out _⟩
          · have hnz : ((nb : Int) == 0) = false := by simp; omega
            have hnb0 : (0 : Int) < (nb : Int) := by omega
            have hnb1 : (1 : Int) ≤ (nb : Int) := by omega
            obtain ⟨bc, oc, v, cu, hAb, lc0, hcu, v0', v1', hrow⟩ := (HD.out.keep HB.out).at_ (k := 0) (by rw [List.length_drop, HN6.out]; omega)
            subst hAb
            have lc : bc < wr.heap.size := lc0
            have v0 : wr.cell? ⟨bc, oc, none⟩ = some (.slice v.a v.n v.c) := by simpa using v0'
            have v1 : wr.cell? ⟨bc, oc + 1, none⟩ = some (.slice v.a' v.n' v.c') := by simpa using v1'
            have hcb' : C[b]? = some cu := by rw [List.getElem?_drop] at hcu; simpa using hcu
            have HCU := Lib.hid hcb'
            have HV := Lib.hid hrow
            have HKT := Lib.hid (rd_take (HR5.out.keep HB.out) a)
            have HKL : Hid ((kept.take a).length = a) := Lib.hid (by rw [List.length_take, HN5.out]; omega)
            have HR := Lib.hid (HR.out.keep HB.out)
            have HR2 := Lib.hid (HR2.out.keep HB.out)
            have haz2 : (a : Int) ≤ (c5 : Int) := by omega
            have ha0 : (0 : Int) ≤ (a : Int) := by omega
            clear hcu v0' v1' hcb' hrow lc0 hnb
            refine region_z (S := fun w' => Below wr.heap.size wr w') [] (by kernel_rfl) (Below.refl _ _).drew (fun hHeld => ?_)
            refine wpAnyZ_take (i := 0) (v := .slice (some ⟨bc, oc, none⟩) nb cb) [] rfl (by kernel_rfl) (by kernel_rfl) (by kernel_rfl) (by kernel_rfl) (fun _ _ _ h => h) (Or.inl ⟨by kernel_rfl, fun w' hSw => ?_⟩) hHeld ?_
            · clear hHeld
              go_simp
            simp only [Act.put, List.setIfInBounds_toArray, List.set_cons_zero, List.set_cons_succ]
            refine wpAnyZ_take (i := 1) (v := .int .i64 nb) [] rfl (by kernel_rfl) (by kernel_rfl) (by kernel_rfl) (by kernel_rfl) (fun _ _ _ h => h) (Or.inl ⟨by kernel_rfl, fun w' hSw => ?_⟩) hHeld ?_
            · clear hHeld
              go_simp
            simp only [Act.put, List.setIfInBounds_toArray, List.set_cons_zero, List.set_cons_succ]
            refine wpAnyZ_take (i := 2) (v := .bool false) [] rfl (by kernel_rfl) (by kernel_rfl) (by kernel_rfl) (by kernel_rfl) (fun _ _ _ h => h) (Or.inl ⟨by kernel_rfl, fun w' hSw => ?_⟩) hHeld ?_
            · clear hHeld
              go_simp
              first | done | exact hnz | simpa using hnz
            simp only [Act.put, List.setIfInBounds_toArray, List.set_cons_zero, List.set_cons_succ]
            refine wpAnyZ_take (i := 3) (v := .bool false) [] rfl (by kernel_rfl) (by kernel_rfl) (by kernel_rfl) (by kernel_rfl) (fun _ _ _ h => h) (Or.inl ⟨by kernel_rfl, fun w' hSw => ?_⟩) hHeld ?_
            · clear hHeld
              go_simp
            simp only [Act.put, List.setIfInBounds_toArray, List.set_cons_zero, List.set_cons_succ]
            refine wpAnyZ_take (i := 4) (v := .slice A N c) [] rfl (by kernel_rfl) (by kernel_rfl) (by kernel_rfl) (by kernel_rfl) (fun _ _ _ h => h) (Or.inl ⟨by kernel_rfl, fun w' hSw => ?_⟩) hHeld ?_
            · clear hHeld
              go_simp
            simp only [Act.put, List.setIfInBounds_toArray, List.set_cons_zero, List.set_cons_succ]
            refine wpAnyZ_take (i := 5) (v := .slice A2 T c2) [] rfl (by kernel_rfl) (by kernel_rfl) (by kernel_rfl) (by kernel_rfl) (fun _ _ _ h => h) (Or.inl ⟨by kernel_rfl, fun w' hSw => ?_⟩) hHeld ?_
            · clear hHeld
              go_simp
            simp only [Act.put, List.setIfInBounds_toArray, List.set_cons_zero, List.set_cons_succ]
            refine wpAnyZ_take (i := 6) (v := .slice (some ⟨bc, oc, none⟩) nb cb) [] rfl (by kernel_rfl) (by kernel_rfl) (by kernel_rfl) (by kernel_rfl) (fun _ _ _ h => h) (Or.inl ⟨by kernel_rfl, fun w' hSw => ?_⟩) hHeld ?_
            · clear hHeld
              go_simp
            simp only [Act.put, List.setIfInBounds_toArray, List.set_cons_zero, List.set_cons_succ]
            refine wpAnyZ_take (i := 7) (v := .pointer (some ⟨bc, oc, none⟩)) [] rfl (by kernel_rfl) (by kernel_rfl) (by kernel_rfl) (by kernel_rfl) (fun _ _ _ h => h) (Or.inl ⟨by kernel_rfl, fun w' hSw => ?_⟩) hHeld ?_
            · clear hHeld
              go_simp
            simp only [Act.put, List.setIfInBounds_toArray, List.set_cons_zero, List.set_cons_succ]
            refine wpAnyZ_take (i := 8) (v := .agg #[.slice v.a v.n v.c, .slice v.a' v.n' v.c']) [] rfl (by kernel_rfl) (by kernel_rfl) (by kernel_rfl) (by kernel_rfl) (fun _ _ _ h => h) (Or.inl ⟨by kernel_rfl, fun w' hSw => ?_⟩) hHeld ?_
            · clear hHeld
              have s0 := (hSw.cell (p := ⟨bc, oc, none⟩) lc).trans v0
              have s1 := (hSw.cell (p := ⟨bc, oc + 1, none⟩) lc).trans v1
              go_simp
            simp only [Act.put, List.setIfInBounds_toArray, List.set_cons_zero, List.set_cons_succ]
            refine wpAnyZ_take (i := 9) (v := .int .i64 i) [] rfl (by kernel_rfl) (by kernel_rfl) (by kernel_rfl) (by kernel_rfl) (fun _ _ _ h => h) (Or.inl ⟨by kernel_rfl, fun w' hSw => ?_⟩) hHeld ?_
            · clear hHeld
              go_simp
            simp only [Act.put, List.setIfInBounds_toArray, List.set_cons_zero, List.set_cons_succ]
            refine wpAnyZ_take (i := 10) (v := .slice (some ⟨b5, o5, none⟩) M c5) [] rfl (by kernel_rfl) (by kernel_rfl) (by kernel_rfl) (by kernel_rfl) (fun _ _ _ h => h) (Or.inl ⟨by kernel_rfl, fun w' hSw => ?_⟩) hHeld ?_
            · clear hHeld
              go_simp
            simp only [Act.put, List.setIfInBounds_toArray, List.set_cons_zero, List.set_cons_succ]
            refine wpAnyZ_take (i := 11) (v := .int .i64 a) [] rfl (by kernel_rfl) (by kernel_rfl) (by kernel_rfl) (by kernel_rfl) (fun _ _ _ h => h) (Or.inl ⟨by kernel_rfl, fun w' hSw => ?_⟩) hHeld ?_
            · clear hHeld
              go_simp
            simp only [Act.put, List.setIfInBounds_toArray, List.set_cons_zero, List.set_cons_succ]
            refine wpAnyZ_take (i := 12) (v := .slice (some ⟨b5, o5, none⟩) a c5) [] rfl (by kernel_rfl) (by kernel_rfl) (by kernel_rfl) (by kernel_rfl) (fun _ _ _ h => h) (Or.inl ⟨by kernel_rfl, fun w' hSw => ?_⟩) hHeld ?_
            · clear hHeld
              go_simp
              first | done | (simp [Addr.add]) | (split <;> (simp [Addr.add]))
            simp only [Act.put, List.setIfInBounds_toArray, List.set_cons_zero, List.set_cons_succ]
            refine wpAnyZ_one (i := 13) (by kernel_rfl) rfl (fun K' hK => ?_)
            rw [if_pos (by kernel_rfl)]
            go_simp
            refine (rExpl_any A A2 v.a v.a' (some ⟨b5, o5, none⟩) c N c2 T v.c v.n v.c' v.n' c5 a js sup cu.1 cu.2 (kept.take a) i _ (HR.out.keep hHeld) HN hl (HR2.out.keep hHeld) HN2 hl2 (HV.out.2.2.1.keep hHeld) (Lib.hid HV.out.1) HV.out.2.1 (HV.out.2.2.2.2.2.keep hHeld) (Lib.hid HV.out.2.2.2.1) HV.out.2.2.2.2.1 (HKT.out.keep hHeld) HKL (by omega)).mono ?_
            rintro e y1 ⟨rfl, hb1⟩
            have hHeld' := below_then hHeld hb1
            clear hHeld hb1
            refine hK.out _ _ ?_ (fun hHeld => ?_)
            · exact hHeld'
            clear hK K'
            try simp only [Act.put, List.setIfInBounds_toArray, List.set_cons_zero, List.set_cons_succ]
            clear hHeld'
            refine wpAnyZ_take (i := 14) (v := .bool (!(explB js sup cu i (kept.take a)))) [] rfl (by kernel_rfl) (by kernel_rfl) (by kernel_rfl) (by kernel_rfl) (fun _ _ _ h => h) (Or.inl ⟨by kernel_rfl, fun w' hSw => ?_⟩) hHeld ?_
            · clear hHeld
              go_simp
            simp only [Act.put, List.setIfInBounds_toArray, List.set_cons_zero, List.set_cons_succ]
            refine wpAnyZ_one (i := 15) (by kernel_rfl) rfl (fun K' hK => ?_)
            go_simp
            refine hK.out _ _ ?_ (fun hHeld => ?_)
            · exact hHeld
            clear hK K'
            try simp only [Act.put, List.setIfInBounds_toArray, List.set_cons_zero, List.set_cons_succ]
            refine wpAnyZ_done (by kernel_rfl) ?_ _
            have HB2 := Lib.hid (HB.out.trans (hHeld.mono HB.out.size))
            clear hHeld HB
            go_step
            cases hx : explB js sup cu i (kept.take a)
            · have HT : Hid (chkB js sup ord' kept C = false) := Lib.hid (chkB_bad HI.out HC.out HK.out (by rw [HCU.out]; exact fun h => by have := explB_iff.2 h; rw [hx] at this; cases this))
              have HBw := Lib.hid (below_then B2.out HB2.out)
              clear HC HD HB2 HR HR2 hx
              go_wp2_with fail
              try rw [Exit.noGoto_ret]
              go_ret
              exact ⟨ret_bool HT.out.symm, HBw.out⟩
            · have HC2 : Hid (chkTo js sup kept C ord' (k + 1) = some (a, b + 1)) := Lib.hid (by rw [chkTo_succ HI.out, HC.out, stepC_cut HK.out (by rw [HCU.out]; exact explB_iff.1 hx)])
              have HDT := Lib.hid HD.out.tail1
              have hnb := HNB.out
              by_cases hc1 : cb = 1
              · have HD2 : Hid (RdC w2 (some ⟨bc, oc, none⟩) (vs.drop (b + 1)) (C.drop (b + 1))) := Lib.hid (by
                  have e1 : C.drop (b + 1) = [] := List.drop_eq_nil_of_le (by rw [HN6.out]; omega)
                  have e2 : vs.drop (b + 1) = [] := List.drop_eq_nil_of_le (by
                    have := HD.out.len
                    rw [List.length_drop, List.length_drop, HN6.out] at this
                    omega)
                  rw [e1, e2]; exact RdC.nil)
                subst hc1
                clear HC HD HR HR2 hx HDT v0 v1 hnb
                go_wp2_with fail
                go_roundg (N - (k + 1))
                case measure => omega
                case rel => have hnb := HNB.out; exact ⟨k + 1, a, b + 1, 0, 0, some ⟨bc, oc, none⟩, by go_num, rfl, rfl, by omega, by omega, by omega, by omega, haM, by omega, HC2, HD2, HB2⟩
              · have HD2 : Hid (RdC w2 (some ⟨bc, oc + 2, none⟩) (vs.drop (b + 1)) (C.drop (b + 1))) := Lib.hid (by
                  have := HDT.out
                  rwa [List.tail_drop, List.tail_drop] at this)
                clear HC HD HR HR2 hx HDT v0 v1 hnb
                go_wp2_with fail
                go_roundg (N - (k + 1))
                case measure => omega
                case rel => have hnb := HNB.out; exact ⟨k + 1, a, b + 1, nb - 1, cb - 1, some ⟨bc, oc + 2, none⟩, by go_num, rfl, rfl, by omega, by omega, by omega, by omega, haM, by omega, HC2, HD2, HB2⟩
    · have hltz : ¬ (k : Int) < (N : Int) := by omega
      have hkN : k = ord'.length := by rw [HLO.out]; omega
      by_cases ha : a = M
      · subst ha
        have hC := HC.out
        rw [hkN] at hC
        have HV : Hid (ValidL js.length kept) := Lib.hid (fun x hx => HO.out.valid x (chk_sub (Nat.le_refl _) hC x (by rw [List.take_of_length_le (by rw [HN5.out]; omega)]; exact hx)))
        have HEND : Hid (Met (someJ js kept) sup → chkB js sup ord' kept C = true) := Lib.hid (fun hm => chkB_iff.2 ⟨HOK.out, by rw [HN5.out, HN6.out, HN.out]; exact HS.out, ⟨b, by rw [HN5.out]; exact hC⟩, hm⟩)
        have HOK2 : Hid (okP (someJ js kept) sup = true) := Lib.hid (okP_some HOK.out HV.out (by rw [HN5.out]; omega))
        have HL2 : Hid ((someJ js kept).length = a) := Lib.hid (by rw [someJ_len, HN5.out])
        have HBw := Lib.hid (below_then B2.out HB.out)
        have hCall := Lib.hid (rSome_any A A5 c N c5 a js kept wr (HR.out.keep HB.out) HN hl (HR5.out.keep HB.out) HN5 (by omega) HV)
        have HR2w := Lib.hid (HR2.out.keep HB.out)
        clear hC HC HD HB
        go_wp2_with fail
        refine hCall.out.mono ?_
        rintro e w3 ⟨asx, ds, rfl, rs, hb3⟩
        have hCall2 := Lib.hid (plSchedule_any asx A2 ds a c2 T (someJ js kept) sup w3 rs HL2 (by omega) (HR2w.out.keep hb3) HN2 hl2)
        have HB3 := Lib.hid (below_then HBw.out hb3)
        clear rs hb3 hCall
        go_wp2_with fail
        refine hCall2.out.mono ?_
        rintro e w4 ⟨hb4, hpost⟩
        obtain ⟨a0, l0, d0, a3, n3, d3, a4, n4, d4, er, rfl, hst⟩ := schedTuple HOK2.out hpost
        have HE : Hid (Below w.heap.size w (w4.alloc (.cells #[.slice a3 n3 d3, .slice a4 n4 d4] 30))) := Lib.hid ((below_then HB3.out hb4).alloc (below_then HB3.out hb4).size _)
        clear hpost hb4 hCall2
        rcases hst with ⟨hm, rfl⟩ | ⟨hm, rfl⟩
        · have HT := Lib.hid (HEND.out hm)
          clear hm
          go_wp2_with fail
          try rw [Exit.noGoto_ret]
          go_ret
          exact ⟨ret_bool HT.out.symm, HE.out⟩
        · have HT : Hid (chkB js sup ord' kept C = false) := Lib.hid (chkB_not (fun h => hm h.2.2.2))
          clear hm
          go_wp2_with fail
          try rw [Exit.noGoto_ret]
          go_ret
          exact ⟨ret_bool HT.out.symm, HE.out⟩
      · have HT : Hid (chkB js sup ord' kept C = false) := Lib.hid (chkB_short (by have := HC.out; rwa [hkN] at this) (by rw [HN5.out]; exact ha))
        have haz : ((a : Int) != (M : Int)) = true := by rw [bne_iff_ne]; omega
        have HBw := Lib.hid (below_then B2.out HB.out)
        clear ha HC HD HB
        go_wp2
        try rw [Exit.noGoto_ret]
        go_ret
        exact ⟨ret_bool HT.out.symm, HBw.out⟩
end Go.Proofs.Ytgfcnkfmgpakkaa
