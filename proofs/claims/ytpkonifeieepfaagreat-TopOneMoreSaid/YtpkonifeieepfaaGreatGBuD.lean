/-
Several texts in one: BuD, BuE, BuF.
-/
import Derived.Test.YtpkonifeieepfaaGreatGBuA
import Derived.Test.YtpkonifeieepfaaGreatGLSiteV
/-
site.Build: the rules.
-/
namespace Go.Proofs.YtpkonifeieepfaaGreat
open Go.RowKit
set_option linter.unusedVariables false
set_option linter.unusedSimpArgs false
theorem strL_ne {a b : ByteArray} (h : a.data.toList ≠ b.data.toList) : strL a ≠ strL b := fun e => h (by injection e)
/-- A rule: its key, its kinds, whether it is optional, its function and what this has caught. -/
structure RuleR where
  key : ByteArray
  ks : List Int
  opt : Bool
  FA : Nat
  cs : Array Value
def RuleAt (W : World) (BB Mb : Nat) (f : Lit → Option Value) (r : RuleR) : Prop := ∃ A n c, f (strL r.key) = some (.agg #[.slice A n c, .bool r.opt, .func (.func r.FA) #[] r.cs]) ∧ Rd 1 encI W A r.ks ∧ r.ks.length = n ∧ (∀ a, A = some a → a.block ≠ Mb ∧ BB ≤ a.block)
/-- A map that holds exactly these rules. -/
def RulesU (W : World) (BB Mb n : Nat) (L : List RuleR) : Prop := ∃ f, ValM Tryz.prog 9 W Mb n f ∧ (∀ r ∈ L, RuleAt W BB Mb f r) ∧ ∀ kl, WideAt.IsKeyLit kl → (∃ r ∈ L, kl = strL r.key) ∨ f kl = none
theorem RulesU.mod {M : Nat → Prop} {W W' : World} {BB Mb n : Nat} {L : List RuleR} (h : RulesU W BB Mb n L) (hm : Mod M W W') (hM : ∀ j, j < W.heap.size → ¬ M j) : RulesU W' BB Mb n L := by
  obtain ⟨f, h1, h2, h3⟩ := h
  refine ⟨f, h1.mod hm (hM _ h1.lt), fun r hr => ?_, h3⟩
  obtain ⟨A, n, c, q1, q2, q3, q4⟩ := h2 r hr
  refine ⟨A, n, c, q1, fun h0 => ?_, q3, q4⟩
  obtain ⟨b, off, e, hb, hc⟩ := q2 h0
  exact ⟨b, off, e, Nat.lt_of_lt_of_le hb hm.size, fun k x hx j v hv => (hm.cell (p := ⟨b, _, none⟩) hb (hM b hb)).trans (hc k x hx j v hv)⟩
theorem RulesU.keep {W W' : World} {BB Mb n : Nat} {L : List RuleR} (h : RulesU W BB Mb n L) (hb : Below W.heap.size W W') : RulesU W' BB Mb n L := h.mod (Mod.of_below hb) (fun j hj => by omega)
theorem RulesU.made (w : World) (BB : Nat) : RulesU (w.alloc (.map #[] 0)) BB w.heap.size 0 [] := ⟨_, ValM.made w, fun r hr => absurd hr (by simp), fun kl _ => Or.inr rfl⟩
theorem RulesU.put {W : World} {BB Mb n : Nat} {L : List RuleR} (h : RulesU W BB Mb n L) (r : RuleR) (A : Option Addr) (m c : Nat) (hn : n < 1000000) (hr : Rd 1 encI W A r.ks) (hm : r.ks.length = m) (hA : ∀ a, A = some a → a.block ≠ Mb ∧ BB ≤ a.block) (hk : r.key.size ≤ 8000) (hfr : (L.all (fun q => q.key.data.toList != r.key.data.toList)) = true) :
    ∃ w', (Instr.mapUpdate 94 (.map (some Mb)) (.string r.key) (.agg #[.slice A m c, .bool r.opt, .func (.func r.FA) #[] r.cs])).run Tryz.prog W = .ok () w' ∧ Hid (RulesU w' BB Mb (n + 1) (r :: L)) ∧ Hid (Mod (fun q => q = Mb) W w') := by
  obtain ⟨f, h1, h2, h3⟩ := h
  obtain ⟨w', hrun, hv, hmd⟩ := h1.put (Go.Maps.string_keyed Tryz.underlying9) Tryz.underlying94 hn (key := .string r.key) (v := .agg #[.slice A m c, .bool r.opt, .func (.func r.FA) #[] r.cs]) (kl := strL r.key) (WideMaps.keyOf_string_mk Tryz.underlying9 (by unfold maxLen; omega)) (by trivial)
  rw [List.all_eq_true] at hfr
  have rdk : ∀ {A : Option Addr} {ks : List Int}, Rd 1 encI W A ks → (∀ a, A = some a → a.block ≠ Mb ∧ BB ≤ a.block) → Rd 1 encI w' A ks := fun q2 q4 => q2.mod hmd.out (fun a ha _ => (q4 a ha).1)
  refine ⟨w', hrun, Lib.hid ⟨_, hv.out, fun q hq => ?_, fun kl hkl => ?_⟩, hmd⟩
  · rcases List.mem_cons.1 hq with rfl | hq
    · exact ⟨A, m, c, putF_same, rdk hr hA, hm, hA⟩
    · obtain ⟨A', n', c', q1, q2, q3, q4⟩ := h2 q hq
      refine ⟨A', n', c', ?_, rdk q2 q4, q3, q4⟩
      rw [putF_other (strL_ne (by have := hfr q hq; simpa using this))]
      exact q1
  · by_cases e : kl = strL r.key
    · exact .inl ⟨r, by simp, e⟩
    · rw [putF_other e]
      rcases h3 kl hkl with ⟨q, hq, e'⟩ | h
      · exact .inl ⟨q, by simp [hq], e'⟩
      · exact .inr h
/-- The rules, all in the blocks from lo to hi. -/
def RulesB (W : World) (lo hi Mb : Nat) (L : List RuleR) : Prop := ∃ f n, (lo ≤ Mb ∧ Mb < hi) ∧ ValM Tryz.prog 9 W Mb n f ∧ (∀ r ∈ L, ∃ A n c, f (strL r.key) = some (.agg #[.slice A n c, .bool r.opt, .func (.func r.FA) #[] r.cs]) ∧ Rd 1 encI W A r.ks ∧ r.ks.length = n ∧ (∀ a, A = some a → lo ≤ a.block ∧ a.block < hi)) ∧ ∀ kl, WideAt.IsKeyLit kl → (∃ r ∈ L, kl = strL r.key) ∨ f kl = none
theorem RulesU.bound {W : World} {BB Mb n : Nat} {L : List RuleR} (h : RulesU W BB Mb n L) (hb : BB ≤ Mb) (hne : ∀ r ∈ L, 0 < r.ks.length) : RulesB W BB W.heap.size Mb L := by
  obtain ⟨f, h1, h2, h3⟩ := h
  refine ⟨f, n, ⟨hb, h1.lt⟩, h1, fun r hr => ?_, h3⟩
  obtain ⟨A, m, c, q1, q2, q3, q4⟩ := h2 r hr
  refine ⟨A, m, c, q1, q2, q3, fun a ha => ⟨(q4 a ha).2, ?_⟩⟩
  obtain ⟨b, off, e, hbl, _⟩ := q2 (hne r hr)
  rw [ha] at e
  injection e with e
  rw [e]
  exact hbl
theorem RulesB.mod {M : Nat → Prop} {W W' : World} {lo hi Mb : Nat} {L : List RuleR} (h : RulesB W lo hi Mb L) (hm : Mod M W W') (hM : ∀ j, lo ≤ j → j < hi → ¬ M j) : RulesB W' lo hi Mb L := by
  obtain ⟨f, n, h0, h1, h2, h3⟩ := h
  refine ⟨f, n, h0, h1.mod hm (hM _ h0.1 h0.2), fun r hr => ?_, h3⟩
  obtain ⟨A, m, c, q1, q2, q3, q4⟩ := h2 r hr
  exact ⟨A, m, c, q1, q2.mod hm (fun a ha _ => hM _ (q4 a ha).1 (q4 a ha).2), q3, q4⟩
theorem RulesB.keep {W W' : World} {lo hi Mb : Nat} {L : List RuleR} (h : RulesB W lo hi Mb L) (hb : Below W.heap.size W W') : RulesB W' lo hi Mb L := by
  obtain ⟨f, n, h0, h1, h2, h3⟩ := h
  refine ⟨f, n, h0, h1.keep hb, fun r hr => ?_, h3⟩
  obtain ⟨A, m, c, q1, q2, q3, q4⟩ := h2 r hr
  exact ⟨A, m, c, q1, q2.keep hb, q3, q4⟩
def ruleC (Sa Bb : Nat) : List RuleR := [⟨⟨#[102, 114, 111, 109]⟩, [2], false, 116, #[.pointer (some ⟨Bb, 0, none⟩)]⟩, ⟨⟨#[116, 104, 101, 114, 109, 97, 108]⟩, [1, 2], true, 115, #[]⟩, ⟨⟨#[102, 117, 115, 101]⟩, [1, 2], true, 114, #[.pointer (some ⟨Sa, 0, none⟩)]⟩, ⟨⟨#[110, 101, 117, 116, 114, 97, 108]⟩, [1, 2], false, 113, #[.pointer (some ⟨Sa, 0, none⟩)]⟩, ⟨⟨#[108, 105, 109, 105, 116]⟩, [1, 2], false, 112, #[.pointer (some ⟨Sa, 0, none⟩)]⟩]
def ruleT (Sa Bb Sc : Nat) : List RuleR := [⟨⟨#[99, 104, 97, 114, 103, 101, 114]⟩, [6], false, 71, #[]⟩, ⟨⟨#[102, 97, 108, 108, 98, 97, 99, 107]⟩, [5], false, 70, #[]⟩, ⟨⟨#[97, 109, 112, 115]⟩, [5], false, 69, #[.pointer (some ⟨Sc, 0, none⟩)]⟩, ⟨⟨#[112, 104, 97, 115, 101, 115]⟩, [5], false, 67, #[]⟩, ⟨⟨#[97, 116]⟩, [5], false, 66, #[]⟩, ⟨⟨#[99, 97, 114, 100]⟩, [4], false, 64, #[]⟩, ⟨⟨#[114, 97, 110, 107]⟩, [4], false, 62, #[]⟩, ⟨⟨#[111, 119, 110, 101, 114]⟩, [4, 5], false, 60, #[]⟩] ++ ruleC Sa Bb
theorem rd_alloc1 (W : World) (a : Int) : Rd 1 encI (W.alloc (.cells #[.int .i64 a] 3)) (some ⟨W.heap.size, 0, none⟩) [a] :=
  (Own.new W 3 #[.int .i64 a] undef).rd (by show 1 * 1 ≤ 1; omega) (fun _ => rfl) (fun k y hy j u hu => by
    match k, hy with
    | 0, hy =>
      obtain rfl : _ = y := by simpa using hy
      match j, hu with
      | 0, hu => simp [encI] at hu; rw [← hu]; rfl
      | j + 1, hu => simp [encI] at hu
    | k + 1, hy => simp at hy)
theorem rd_alloc2 (W : World) (a b : Int) : Rd 1 encI (W.alloc (.cells #[.int .i64 a, .int .i64 b] 3)) (some ⟨W.heap.size, 0, none⟩) [a, b] :=
  (Own.new W 3 #[.int .i64 a, .int .i64 b] undef).rd (by show 2 * 1 ≤ 2; omega) (fun _ => rfl) (fun k y hy j u hu => by
    match k, hy with
    | 0, hy =>
      obtain rfl : _ = y := by simpa using hy
      match j, hu with
      | 0, hu => simp [encI] at hu; rw [← hu]; rfl
      | j + 1, hu => simp [encI] at hu
    | 1, hy =>
      obtain rfl : _ = y := by simpa using hy
      match j, hu with
      | 0, hu => simp [encI] at hu; rw [← hu]; rfl
      | j + 1, hu => simp [encI] at hu
    | k + 2, hy => simp at hy)
set_option maxRecDepth 100000 in
set_option maxHeartbeats 8000000 in
theorem stCRules_ok (w : World) : Calls Tryz.prog 59 #[] w fun e w' => ∃ Mb Sa Bb, e = .returned (.map (some Mb)) ∧ RulesU w' w.heap.size Mb 5 (ruleC Sa Bb) ∧ w'.cell? ⟨Sa, 0, none⟩ = some (.int .i64 1) ∧ w'.cell? ⟨Sa, 1, none⟩ = some (.int .i64 1000) ∧ Sa ≠ Mb ∧ w.heap.size ≤ Mb ∧ Below w.heap.size w w' := by
  have hmf : ∀ (fn : Fn) (first cap : Array Value) (w : World), (Instr.makeFunc fn first cap).run Tryz.prog w = .ok (.func fn first cap) w := fun _ _ _ _ => rfl
  go_enter Tryz.func59, Tryz.ntmps59
  go_upto_region 3 with (fail)
  obtain ⟨W0, hW0⟩ : ∃ W, W = ((w.alloc (.cells #[.int .i64 1, .int .i64 2] 3)).alloc (.cells #[.slice (some ⟨w.heap.size, 0, none⟩) 2 2] 29)).alloc (.cells #[.int .i64 1, .int .i64 1000] 133) := ⟨_, rfl⟩
  obtain ⟨S1, hS1⟩ : ∃ S, S = w.heap.size := ⟨_, rfl⟩
  have hb0 : Below w.heap.size w W0 := by rw [hW0]; exact (((Below.refl _ _).alloc (Nat.le_refl _) _).alloc (by simp) _).alloc (by simp; omega) _
  have HR0 : Hid (Rd 1 encI W0 (some ⟨S1, 0, none⟩) [1, 2]) := Lib.hid (by rw [hW0, hS1]; exact ((rd_alloc2 w 1 2).keep ((Below.refl _ _).alloc (Nat.le_refl _) _)).keep ((Below.refl _ _).alloc (Nat.le_refl _) _))
  have y0 : W0.cell? ⟨S1 + 1, 0, none⟩ = some (.slice (some ⟨S1, 0, none⟩) 2 2) := by rw [hW0, hS1]; go_simp
  have a0 : W0.cell? ⟨S1 + 2, 0, none⟩ = some (.int .i64 1) := by rw [hW0, hS1]; go_simp
  have a1 : W0.cell? ⟨S1 + 2, 1, none⟩ = some (.int .i64 1000) := by rw [hW0, hS1]; go_simp
  have hs0 : S1 + 2 < W0.heap.size := by rw [hW0, hS1]; simp
  rw [← hW0, ← hS1, show S1 + 1 + 1 = S1 + 2 from rfl]
  have HSW : Hid (w.heap.size = S1) := Lib.hid hS1.symm
  have HB0 := Lib.hid hb0
  have HA0 := Lib.hid a0
  have HA1 := Lib.hid a1
  clear hW0 hS1 hb0 a0 a1
  have hbm : Below W0.heap.size W0 (W0.alloc (.map #[] 0)) := (Below.refl _ _).alloc (Nat.le_refl _) _
  have HSL : Hid (S1 + 2 < W0.heap.size) := Lib.hid hs0
  have HWM : Hid (Mod (fun q => q = W0.heap.size) W0 (W0.alloc (.map #[] 0))) := Lib.hid (modB hbm)
  have HY0 := Lib.hid y0
  have HWm := HWM
  have ym : (W0.alloc (.map #[] 0)).cell? ⟨S1 + 1, 0, none⟩ = some (.slice (some ⟨S1, 0, none⟩) 2 2) := (HWm.out.cell (p := ⟨S1 + 1, 0, none⟩) (by have := HSL.out; show S1 + 1 < W0.heap.size; omega) (by have := HSL.out; show S1 + 1 ≠ W0.heap.size; omega)).trans HY0.out
  have lm : S1 + 1 < (W0.alloc (.map #[] 0)).heap.size := World.block_lt_of_cell? _ _ ym
  obtain ⟨w1, pu1, HU1, HM1⟩ := RulesU.put (RulesU.made W0 w.heap.size) (⟨⟨#[108, 105, 109, 105, 116]⟩, [1, 2], false, 112, #[.pointer (some ⟨S1 + 2, 0, none⟩)]⟩ : RuleR) (some ⟨S1, 0, none⟩) 2 2 (by omega) (HR0.out.mod HWm.out (fun a ha _ e => by injection ha with ha; have := HSL.out; rw [← ha] at e; simp at e; omega)) rfl (fun a ha => by injection ha with ha; rw [← ha]; have := HSL.out; have := HSW.out; exact ⟨by show S1 ≠ W0.heap.size; omega, by show w.heap.size ≤ S1; omega⟩) (by dsimp only; decide) (by rfl)
  dsimp only at pu1
  have HW1 : Hid (Mod (fun q => q = W0.heap.size) W0 w1) := Lib.hid (HWm.out.trans HM1.out)
  have y1 : w1.cell? ⟨S1 + 1, 0, none⟩ = some (.slice (some ⟨S1, 0, none⟩) 2 2) := (HW1.out.cell (p := ⟨S1 + 1, 0, none⟩) (by have := HSL.out; show S1 + 1 < W0.heap.size; omega) (by have := HSL.out; show S1 + 1 ≠ W0.heap.size; omega)).trans HY0.out
  have l1 : S1 + 1 < w1.heap.size := World.block_lt_of_cell? _ _ y1
  obtain ⟨w2, pu2, HU2, HM2⟩ := RulesU.put (HU1.out) (⟨⟨#[110, 101, 117, 116, 114, 97, 108]⟩, [1, 2], false, 113, #[.pointer (some ⟨S1 + 2, 0, none⟩)]⟩ : RuleR) (some ⟨S1, 0, none⟩) 2 2 (by omega) (HR0.out.mod HW1.out (fun a ha _ e => by injection ha with ha; have := HSL.out; rw [← ha] at e; simp at e; omega)) rfl (fun a ha => by injection ha with ha; rw [← ha]; have := HSL.out; have := HSW.out; exact ⟨by show S1 ≠ W0.heap.size; omega, by show w.heap.size ≤ S1; omega⟩) (by dsimp only; decide) (by rfl)
  dsimp only at pu2
  have HW2 : Hid (Mod (fun q => q = W0.heap.size) W0 w2) := Lib.hid (HW1.out.trans HM2.out)
  have y2 : w2.cell? ⟨S1 + 1, 0, none⟩ = some (.slice (some ⟨S1, 0, none⟩) 2 2) := (HW2.out.cell (p := ⟨S1 + 1, 0, none⟩) (by have := HSL.out; show S1 + 1 < W0.heap.size; omega) (by have := HSL.out; show S1 + 1 ≠ W0.heap.size; omega)).trans HY0.out
  have l2 : S1 + 1 < w2.heap.size := World.block_lt_of_cell? _ _ y2
  obtain ⟨w3, pu3, HU3, HM3⟩ := RulesU.put (HU2.out) (⟨⟨#[102, 117, 115, 101]⟩, [1, 2], true, 114, #[.pointer (some ⟨S1 + 2, 0, none⟩)]⟩ : RuleR) (some ⟨S1, 0, none⟩) 2 2 (by omega) (HR0.out.mod HW2.out (fun a ha _ e => by injection ha with ha; have := HSL.out; rw [← ha] at e; simp at e; omega)) rfl (fun a ha => by injection ha with ha; rw [← ha]; have := HSL.out; have := HSW.out; exact ⟨by show S1 ≠ W0.heap.size; omega, by show w.heap.size ≤ S1; omega⟩) (by dsimp only; decide) (by rfl)
  dsimp only at pu3
  have HW3 : Hid (Mod (fun q => q = W0.heap.size) W0 w3) := Lib.hid (HW2.out.trans HM3.out)
  have y3 : w3.cell? ⟨S1 + 1, 0, none⟩ = some (.slice (some ⟨S1, 0, none⟩) 2 2) := (HW3.out.cell (p := ⟨S1 + 1, 0, none⟩) (by have := HSL.out; show S1 + 1 < W0.heap.size; omega) (by have := HSL.out; show S1 + 1 ≠ W0.heap.size; omega)).trans HY0.out
  have l3 : S1 + 1 < w3.heap.size := World.block_lt_of_cell? _ _ y3
  obtain ⟨w4, pu4, HU4, HM4⟩ := RulesU.put (HU3.out) (⟨⟨#[116, 104, 101, 114, 109, 97, 108]⟩, [1, 2], true, 115, #[]⟩ : RuleR) (some ⟨S1, 0, none⟩) 2 2 (by omega) (HR0.out.mod HW3.out (fun a ha _ e => by injection ha with ha; have := HSL.out; rw [← ha] at e; simp at e; omega)) rfl (fun a ha => by injection ha with ha; rw [← ha]; have := HSL.out; have := HSW.out; exact ⟨by show S1 ≠ W0.heap.size; omega, by show w.heap.size ≤ S1; omega⟩) (by dsimp only; decide) (by rfl)
  dsimp only at pu4
  have HW4 : Hid (Mod (fun q => q = W0.heap.size) W0 w4) := Lib.hid (HW3.out.trans HM4.out)
  have hb5 : Below w4.heap.size w4 (w4.alloc (.cells #[.int .i64 2] 3)) := (Below.refl _ _).alloc (Nat.le_refl _) _
  have HR5 := rd_alloc1 w4 2
  have HM4L : Hid (W0.heap.size < w4.heap.size) := Lib.hid (by obtain ⟨f, h, _⟩ := HU4.out; exact h.lt)
  obtain ⟨w5, pu5, HU5, HM5⟩ := RulesU.put (HU4.out.keep hb5) (⟨⟨#[102, 114, 111, 109]⟩, [2], false, 116, #[.pointer (some ⟨S1 + 1, 0, none⟩)]⟩ : RuleR) (some ⟨w4.heap.size, 0, none⟩) 1 1 (by omega) HR5 rfl (fun a ha => by injection ha with ha; rw [← ha]; have := HM4L.out; have := HSL.out; have := HSW.out; exact ⟨by show w4.heap.size ≠ W0.heap.size; omega, by show w.heap.size ≤ w4.heap.size; omega⟩) (by dsimp only; decide) (by rfl)
  dsimp only at pu5
  have HW5 : Hid (Mod (fun q => q = W0.heap.size) W0 w5) := Lib.hid ((HW4.out.trans (modB hb5)).trans HM5.out)
  clear hb5 HR5 hbm
  have hmkm : ∀ W : World, (Instr.makeMap 94 none).run Tryz.prog W = .ok (.map (some W.heap.size)) (W.alloc (.map #[] 0)) := fun W => run_makeMap 94 W
  go_wp2_with fail
  go_ret
  refine ⟨W0.heap.size, S1 + 2, S1 + 1, rfl, HU5.out, (HW5.out.cell (p := ⟨S1 + 2, 0, none⟩) (by have := HSL.out; exact this) (by have := HSL.out; show S1 + 2 ≠ W0.heap.size; omega)).trans HA0.out, (HW5.out.cell (p := ⟨S1 + 2, 1, none⟩) (by have := HSL.out; exact this) (by have := HSL.out; show S1 + 2 ≠ W0.heap.size; omega)).trans HA1.out, by have := HSL.out; omega, HB0.out.size, HB0.out.trans (HW5.out.below (by have := HSL.out; have := HSW.out; omega) (fun k _ e => by have := HSL.out; have := HSW.out; omega))⟩
set_option maxRecDepth 100000 in
set_option maxHeartbeats 8000000 in
theorem stRules_ok (w : World) : Calls Tryz.prog 28 #[] w fun e w' => ∃ Mb Sa Bb Sc, e = .returned (.map (some Mb)) ∧ RulesU w' w.heap.size Mb 13 (ruleT Sa Bb Sc) ∧ w'.cell? ⟨Sa, 0, none⟩ = some (.int .i64 1) ∧ w'.cell? ⟨Sa, 1, none⟩ = some (.int .i64 1000) ∧ w'.cell? ⟨Sc, 0, none⟩ = some (.int .i64 1) ∧ w'.cell? ⟨Sc, 1, none⟩ = some (.int .i64 80) ∧ w.heap.size ≤ Mb ∧ Below w.heap.size w w' := by
  have hmf : ∀ (fn : Fn) (first cap : Array Value) (w : World), (Instr.makeFunc fn first cap).run Tryz.prog w = .ok (.func fn first cap) w := fun _ _ _ _ => rfl
  go_enter Tryz.func28, Tryz.ntmps28
  go_wp2_with fail
  refine (stCRules_ok w).mono ?_
  rintro e w1 ⟨Mb, Sa, Bb, rfl, hu, ha0, ha1, hane, hmb, hb1⟩
  have HU := Lib.hid hu
  have HA0 := Lib.hid ha0
  have HA1 := Lib.hid ha1
  have HNE : Hid (Sa ≠ Mb ∧ w.heap.size ≤ Mb) := Lib.hid ⟨hane, hmb⟩
  have HB1 := Lib.hid hb1
  clear hu ha0 ha1 hane hmb hb1
  go_upto_region 3 with (fail)
  obtain ⟨W2, hW2⟩ : ∃ W, W = w1.alloc (.cells #[.int .i64 1, .int .i64 80] 133) := ⟨_, rfl⟩
  obtain ⟨Sc, hSc⟩ : ∃ S, S = w1.heap.size := ⟨_, rfl⟩
  have hb2 : Below w1.heap.size w1 W2 := by rw [hW2]; exact (Below.refl _ _).alloc (Nat.le_refl _) _
  have c0 : W2.cell? ⟨Sc, 0, none⟩ = some (.int .i64 1) := by rw [hW2, hSc]; go_simp
  have c1 : W2.cell? ⟨Sc, 1, none⟩ = some (.int .i64 80) := by rw [hW2, hSc]; go_simp
  rw [← hW2, ← hSc]
  have HC0 := Lib.hid c0
  have HC1 := Lib.hid c1
  have HU2 := Lib.hid (HU.out.keep hb2)
  have HMb2 : Hid (Mb < Sc) := Lib.hid (by obtain ⟨f, h, _⟩ := HU.out; have := h.lt; omega)
  have HA02 := Lib.hid ((hb2.cell (p := ⟨Sa, 0, none⟩) (World.block_lt_of_cell? _ _ HA0.out)).trans HA0.out)
  have HA12 := Lib.hid ((hb2.cell (p := ⟨Sa, 1, none⟩) (World.block_lt_of_cell? _ _ HA1.out)).trans HA1.out)
  have HB2 : Hid (Below w.heap.size w W2) := Lib.hid (below_then HB1.out hb2)
  have HS2 : Hid (Mb < W2.heap.size) := Lib.hid (by have := World.block_lt_of_cell? _ _ c0; have := HMb2.out; simp at *; omega)
  clear hW2 hSc hb2 c0 c1 HU HA0 HA1 HB1
  have HV0 : Hid (Mod (fun q => q = Mb) W2 W2) := Lib.hid (Mod.refl _ _)
  have hba1 : Below W2.heap.size W2 (W2.alloc (.cells #[.int .i64 4, .int .i64 5] 3)) := (Below.refl _ _).alloc (Nat.le_refl _) _
  have HR1 : Hid (Rd 1 encI (W2.alloc (.cells #[.int .i64 4, .int .i64 5] 3)) (some ⟨W2.heap.size, 0, none⟩) [4, 5]) := Lib.hid (rd_alloc2 W2 4 5)
  have HMG1 : Hid (Mb < W2.heap.size) := Lib.hid (by obtain ⟨f, h, _⟩ := HU2.out; exact h.lt)
  have HUa1 := Lib.hid ((HU2.out).keep hba1)
  have HVa1 : Hid (Mod (fun q => q = Mb) W2 (W2.alloc (.cells #[.int .i64 4, .int .i64 5] 3))) := Lib.hid (HV0.out.trans (modB hba1))
  obtain ⟨v1, pu1, HU_1, HM1⟩ := RulesU.put (HUa1.out) (⟨⟨#[111, 119, 110, 101, 114]⟩, [4, 5], false, 60, #[]⟩ : RuleR) (some ⟨W2.heap.size, 0, none⟩) 2 2 (by omega) (HR1.out) rfl (fun a ha => by injection ha with ha; rw [← ha]; have := HMG1.out; have := HNE.out; exact ⟨by show W2.heap.size ≠ Mb; omega, by show w.heap.size ≤ W2.heap.size; omega⟩) (by dsimp only; decide) (by rfl)
  dsimp only at pu1
  have HV1 : Hid (Mod (fun q => q = Mb) W2 v1) := Lib.hid (HVa1.out.trans HM1.out)
  have hba2 : Below v1.heap.size v1 (v1.alloc (.cells #[.int .i64 4] 3)) := (Below.refl _ _).alloc (Nat.le_refl _) _
  have HR2 : Hid (Rd 1 encI (v1.alloc (.cells #[.int .i64 4] 3)) (some ⟨v1.heap.size, 0, none⟩) [4]) := Lib.hid (rd_alloc1 v1 4)
  have HMG2 : Hid (Mb < v1.heap.size) := Lib.hid (by obtain ⟨f, h, _⟩ := HU_1.out; exact h.lt)
  have HUa2 := Lib.hid ((HU_1.out).keep hba2)
  have HVa2 : Hid (Mod (fun q => q = Mb) W2 (v1.alloc (.cells #[.int .i64 4] 3))) := Lib.hid (HV1.out.trans (modB hba2))
  obtain ⟨v2, pu2, HU_2, HM2⟩ := RulesU.put (HUa2.out) (⟨⟨#[114, 97, 110, 107]⟩, [4], false, 62, #[]⟩ : RuleR) (some ⟨v1.heap.size, 0, none⟩) 1 1 (by omega) (HR2.out) rfl (fun a ha => by injection ha with ha; rw [← ha]; have := HMG2.out; have := HNE.out; exact ⟨by show v1.heap.size ≠ Mb; omega, by show w.heap.size ≤ v1.heap.size; omega⟩) (by dsimp only; decide) (by rfl)
  dsimp only at pu2
  have HV2 : Hid (Mod (fun q => q = Mb) W2 v2) := Lib.hid (HVa2.out.trans HM2.out)
  have hba3 : Below v2.heap.size v2 (v2.alloc (.cells #[.int .i64 4] 3)) := (Below.refl _ _).alloc (Nat.le_refl _) _
  have HR3 : Hid (Rd 1 encI (v2.alloc (.cells #[.int .i64 4] 3)) (some ⟨v2.heap.size, 0, none⟩) [4]) := Lib.hid (rd_alloc1 v2 4)
  have HMG3 : Hid (Mb < v2.heap.size) := Lib.hid (by obtain ⟨f, h, _⟩ := HU_2.out; exact h.lt)
  have HUa3 := Lib.hid ((HU_2.out).keep hba3)
  have HVa3 : Hid (Mod (fun q => q = Mb) W2 (v2.alloc (.cells #[.int .i64 4] 3))) := Lib.hid (HV2.out.trans (modB hba3))
  obtain ⟨v3, pu3, HU_3, HM3⟩ := RulesU.put (HUa3.out) (⟨⟨#[99, 97, 114, 100]⟩, [4], false, 64, #[]⟩ : RuleR) (some ⟨v2.heap.size, 0, none⟩) 1 1 (by omega) (HR3.out) rfl (fun a ha => by injection ha with ha; rw [← ha]; have := HMG3.out; have := HNE.out; exact ⟨by show v2.heap.size ≠ Mb; omega, by show w.heap.size ≤ v2.heap.size; omega⟩) (by dsimp only; decide) (by rfl)
  dsimp only at pu3
  have HV3 : Hid (Mod (fun q => q = Mb) W2 v3) := Lib.hid (HVa3.out.trans HM3.out)
  have hba4 : Below v3.heap.size v3 (v3.alloc (.cells #[.int .i64 5] 3)) := (Below.refl _ _).alloc (Nat.le_refl _) _
  have HR4 : Hid (Rd 1 encI (v3.alloc (.cells #[.int .i64 5] 3)) (some ⟨v3.heap.size, 0, none⟩) [5]) := Lib.hid (rd_alloc1 v3 5)
  have HMG4 : Hid (Mb < v3.heap.size) := Lib.hid (by obtain ⟨f, h, _⟩ := HU_3.out; exact h.lt)
  have HUa4 := Lib.hid ((HU_3.out).keep hba4)
  have HVa4 : Hid (Mod (fun q => q = Mb) W2 (v3.alloc (.cells #[.int .i64 5] 3))) := Lib.hid (HV3.out.trans (modB hba4))
  obtain ⟨v4, pu4, HU_4, HM4⟩ := RulesU.put (HUa4.out) (⟨⟨#[97, 116]⟩, [5], false, 66, #[]⟩ : RuleR) (some ⟨v3.heap.size, 0, none⟩) 1 1 (by omega) (HR4.out) rfl (fun a ha => by injection ha with ha; rw [← ha]; have := HMG4.out; have := HNE.out; exact ⟨by show v3.heap.size ≠ Mb; omega, by show w.heap.size ≤ v3.heap.size; omega⟩) (by dsimp only; decide) (by rfl)
  dsimp only at pu4
  have HV4 : Hid (Mod (fun q => q = Mb) W2 v4) := Lib.hid (HVa4.out.trans HM4.out)
  obtain ⟨v5, pu5, HU_5, HM5⟩ := RulesU.put (HU_4.out) (⟨⟨#[112, 104, 97, 115, 101, 115]⟩, [5], false, 67, #[]⟩ : RuleR) (some ⟨v3.heap.size, 0, none⟩) 1 1 (by omega) ((HR4.out).mod HM4.out (fun a ha _ e => by injection ha with ha; rw [← ha] at e; have := HMG4.out; simp at e; omega)) rfl (fun a ha => by injection ha with ha; rw [← ha]; have := HMG4.out; have := HNE.out; exact ⟨by show v3.heap.size ≠ Mb; omega, by show w.heap.size ≤ v3.heap.size; omega⟩) (by dsimp only; decide) (by rfl)
  dsimp only at pu5
  have HV5 : Hid (Mod (fun q => q = Mb) W2 v5) := Lib.hid (HV4.out.trans HM5.out)
  obtain ⟨v6, pu6, HU_6, HM6⟩ := RulesU.put (HU_5.out) (⟨⟨#[97, 109, 112, 115]⟩, [5], false, 69, #[.pointer (some ⟨Sc, 0, none⟩)]⟩ : RuleR) (some ⟨v3.heap.size, 0, none⟩) 1 1 (by omega) (((HR4.out).mod HM4.out (fun a ha _ e => by injection ha with ha; rw [← ha] at e; have := HMG4.out; simp at e; omega)).mod HM5.out (fun a ha _ e => by injection ha with ha; rw [← ha] at e; have := HMG4.out; simp at e; omega)) rfl (fun a ha => by injection ha with ha; rw [← ha]; have := HMG4.out; have := HNE.out; exact ⟨by show v3.heap.size ≠ Mb; omega, by show w.heap.size ≤ v3.heap.size; omega⟩) (by dsimp only; decide) (by rfl)
  dsimp only at pu6
  have HV6 : Hid (Mod (fun q => q = Mb) W2 v6) := Lib.hid (HV5.out.trans HM6.out)
  obtain ⟨v7, pu7, HU_7, HM7⟩ := RulesU.put (HU_6.out) (⟨⟨#[102, 97, 108, 108, 98, 97, 99, 107]⟩, [5], false, 70, #[]⟩ : RuleR) (some ⟨v3.heap.size, 0, none⟩) 1 1 (by omega) ((((HR4.out).mod HM4.out (fun a ha _ e => by injection ha with ha; rw [← ha] at e; have := HMG4.out; simp at e; omega)).mod HM5.out (fun a ha _ e => by injection ha with ha; rw [← ha] at e; have := HMG4.out; simp at e; omega)).mod HM6.out (fun a ha _ e => by injection ha with ha; rw [← ha] at e; have := HMG4.out; simp at e; omega)) rfl (fun a ha => by injection ha with ha; rw [← ha]; have := HMG4.out; have := HNE.out; exact ⟨by show v3.heap.size ≠ Mb; omega, by show w.heap.size ≤ v3.heap.size; omega⟩) (by dsimp only; decide) (by rfl)
  dsimp only at pu7
  have HV7 : Hid (Mod (fun q => q = Mb) W2 v7) := Lib.hid (HV6.out.trans HM7.out)
  have hba8 : Below v7.heap.size v7 (v7.alloc (.cells #[.int .i64 6] 3)) := (Below.refl _ _).alloc (Nat.le_refl _) _
  have HR8 : Hid (Rd 1 encI (v7.alloc (.cells #[.int .i64 6] 3)) (some ⟨v7.heap.size, 0, none⟩) [6]) := Lib.hid (rd_alloc1 v7 6)
  have HMG8 : Hid (Mb < v7.heap.size) := Lib.hid (by obtain ⟨f, h, _⟩ := HU_7.out; exact h.lt)
  have HUa8 := Lib.hid ((HU_7.out).keep hba8)
  have HVa8 : Hid (Mod (fun q => q = Mb) W2 (v7.alloc (.cells #[.int .i64 6] 3))) := Lib.hid (HV7.out.trans (modB hba8))
  obtain ⟨v8, pu8, HU_8, HM8⟩ := RulesU.put (HUa8.out) (⟨⟨#[99, 104, 97, 114, 103, 101, 114]⟩, [6], false, 71, #[]⟩ : RuleR) (some ⟨v7.heap.size, 0, none⟩) 1 1 (by omega) (HR8.out) rfl (fun a ha => by injection ha with ha; rw [← ha]; have := HMG8.out; have := HNE.out; exact ⟨by show v7.heap.size ≠ Mb; omega, by show w.heap.size ≤ v7.heap.size; omega⟩) (by dsimp only; decide) (by rfl)
  dsimp only at pu8
  have HV8 : Hid (Mod (fun q => q = Mb) W2 v8) := Lib.hid (HVa8.out.trans HM8.out)
  go_wp2_with fail
  go_ret
  refine ⟨Mb, Sa, Bb, Sc, rfl, HU_8.out, (HV8.out.cell (p := ⟨Sa, 0, none⟩) (World.block_lt_of_cell? _ _ HA02.out) HNE.out.1).trans HA02.out, (HV8.out.cell (p := ⟨Sa, 1, none⟩) (World.block_lt_of_cell? _ _ HA12.out) HNE.out.1).trans HA12.out, (HV8.out.cell (p := ⟨Sc, 0, none⟩) (World.block_lt_of_cell? _ _ HC0.out) (by have := HMb2.out; show Sc ≠ Mb; omega)).trans HC0.out, (HV8.out.cell (p := ⟨Sc, 1, none⟩) (World.block_lt_of_cell? _ _ HC1.out) (by have := HMb2.out; show Sc ≠ Mb; omega)).trans HC1.out, HNE.out.2, HB2.out.trans (HV8.out.below HB2.out.size (fun k _ e => by have := HNE.out.2; omega))⟩
end Go.Proofs.YtpkonifeieepfaaGreat
/-
site.Build: one attribute.
-/
namespace Go.Proofs.YtpkonifeieepfaaGreat
open Go.RowKit
set_option linter.unusedVariables false
set_option linter.unusedSimpArgs false
def numsOk (x : Nd Lf) (sp : List (Int × Int)) : Bool := x.kids.length == sp.length && x.kids.all (fun y => y.kind == 6) && (List.range sp.length).all (fun i => inside (kN x.kids i) (sp[i]?.getD (0, 0)).1 (sp[i]?.getD (0, 0)).2)
theorem numsOk_iff {x : Nd Lf} {sp : List (Int × Int)} (h : numsOk x sp = true) : x.kids.length = sp.length ∧ (∀ y ∈ x.kids, y.kind = 6) ∧ ∀ (k : Nat) (p : Int × Int), sp[k]? = some p → inside (kN x.kids k) p.1 p.2 = true := by
  unfold numsOk at h
  simp only [Bool.and_eq_true, beq_iff_eq, List.all_eq_true, List.mem_range] at h
  refine ⟨h.1.1, h.1.2, fun k p hp => ?_⟩
  have h1 := h.2 k (List.getElem?_eq_some_iff.1 hp).1
  rw [hp] at h1
  exact h1
/-- The things that are counted: name, kind, index. -/
def thF (th : List (ByteArray × Int × Int)) : Lit → Option Value
  | .string l => (th.find? (fun e => e.1.data.toList == l)).map (fun e => .agg #[.int .i64 e.2.1, .int .i64 e.2.2])
  | _ => none
def nameOk (th : List (ByteArray × Int × Int)) (ks : List Int) (x : Nd Lf) : Option Int := match x.kids with
  | [y] => if y.kind == 5 && decide (y.name.size ≤ 8000) then (match th.find? (fun e => e.1.data.toList == y.name.data.toList) with
    | some e => if ks.contains e.2.1 then some e.2.2 else none
    | none => none) else none
  | _ => none
theorem nameOk_iff {th : List (ByteArray × Int × Int)} {ks : List Int} {x : Nd Lf} {ix : Int} (h : nameOk th ks x = some ix) : ∃ nm kd, (∃ y, x.kids = [y] ∧ y.kind = 5 ∧ y.name = nm) ∧ nm.size ≤ 8000 ∧ thF th (strL nm) = some (.agg #[.int .i64 kd, .int .i64 ix]) ∧ ks.contains kd = true := by
  unfold nameOk at h
  split at h
  · rename_i y hy
    by_cases g : (y.kind == 5 && decide (y.name.size ≤ 8000)) = true
    · rw [if_pos g] at h
      simp only [Bool.and_eq_true, beq_iff_eq, decide_eq_true_eq] at g
      cases hf : th.find? (fun e => e.1.data.toList == y.name.data.toList) with
      | none => rw [hf] at h; cases h
      | some e =>
        rw [hf] at h
        simp only at h
        by_cases hc : ks.contains e.2.1 = true
        · rw [if_pos hc] at h
          injection h with h
          refine ⟨y.name, e.2.1, ⟨y, hy, g.1, rfl⟩, g.2, ?_, hc⟩
          show (th.find? (fun e => e.1.data.toList == y.name.data.toList)).map _ = _
          rw [hf, ← h]
          rfl
        · rw [if_neg hc] at h; cases h
    · rw [if_neg g] at h; cases h
  · cases h
/-- What an attribute makes of what is read of an item. -/
def stepA (th : List (ByteArray × Int × Int)) (kind : Int) (x : Nd Lf) (s : RSt) : Option RSt :=
  if x.name.data.toList == [108, 105, 109, 105, 116] then (if (kind == 1 || kind == 2) && numsOk x [(1, 1000)] then some { s with con := { s.con with limit := kN x.kids 0 } } else none) else
  if x.name.data.toList == [110, 101, 117, 116, 114, 97, 108] then (if (kind == 1 || kind == 2) && numsOk x [(1, 1000)] then some { s with con := { s.con with neutral := kN x.kids 0 } } else none) else
  if x.name.data.toList == [102, 117, 115, 101] then (if (kind == 1 || kind == 2) && numsOk x [(1, 1000), (0, 1000000)] then some { s with con := { s.con with rated := kN x.kids 0, heat := kN x.kids 1 } } else none) else
  if x.name.data.toList == [97, 109, 112, 115] then (if (kind == 5) && numsOk x [(1, 80), (1, 80), (1, 80)] then some { s with chg := { s.chg with mn := kN x.kids 0, mx := kN x.kids 1, step := kN x.kids 2 } } else none) else
  if x.name.data.toList == [102, 97, 108, 108, 98, 97, 99, 107] then (if (kind == 5) && numsOk x [(0, 80)] then some { s with chg := { s.chg with fb := kN x.kids 0 } } else none) else
  if x.name.data.toList == [111, 119, 110, 101, 114] then (if (kind == 4 || kind == 5) then (nameOk th [3] x).map (fun ix => { s with ctr := { s.ctr with own := ix }, chg := { s.chg with own := ix } }) else none) else
  if x.name.data.toList == [97, 116] then (if (kind == 5) then (nameOk th [1, 2] x).map (fun ix => { s with chg := { s.chg with place := ix } }) else none) else
  if x.name.data.toList == [112, 104, 97, 115, 101, 115] then (if kind == 5 && numsOk x [(1, 1)] then some { s with chg := { s.chg with ph := 1 } } else none) else none
set_option maxRecDepth 100000 in
set_option maxHeartbeats 8000000 in
theorem stR5_ok (a hI : NH) (x : Nd Lf) (lo hi Rr Bd hb : Nat) (s : RSt) (w : World) (hok : okNd okLf w lo hi a x) (hhi : hi ≤ w.heap.size) (HR : Hid (RdgM w Rr Bd hI hb s)) (hl : x.kids.length = 1) (hk : ∀ y ∈ x.kids, y.kind = 6) (hv : kN x.kids 0 = 1) :
    Calls Tryz.prog 67 #[.pointer (some ⟨Rr, 0, none⟩), nhV a] w fun e w' => e = .returned (.tuple #[]) ∧ RdgM w' Rr Bd hI hb { s with chg := { s.chg with ph := 1 } } ∧ Mod (fun j => j = Rr) w w' := by
  obtain ⟨W0, hW0⟩ : ∃ W, W = w.alloc (.cells #[.int .i64 a.kind, .string a.name, .int .i64 a.n, .int .i64 (a.pos : Nat), .slice a.a a.len a.c] 49) := ⟨_, rfl⟩
  obtain ⟨X, hX⟩ : ∃ X, X = w.heap.size := ⟨_, rfl⟩
  have hb0 : Below w.heap.size w W0 := by rw [hW0]; exact (Below.refl _ _).alloc (Nat.le_refl _) _
  have HX0 : Hid (Own W0 X 49 5 (nodeF a.kind a.name a.n a.pos (.slice a.a a.len a.c))) := Lib.hid (by rw [hW0]; exact nodeF_new _ _ _ _ _ _ _ hX.symm)
  have HB0 := Lib.hid hb0
  have HW0 := Lib.hid hW0
  have HX := Lib.hid hX
  have HR0 := Lib.hid (HR.out.keep hb0 HR.out.lt)
  have HCN := Lib.hid (stPhases_ok a x lo hi W0 ((okNd_firm okLf_firm).calm hok (Calm.of (Mod.of_below hb0) (fun j _ h2 h3 => by omega))) (by have := hb0.size; omega) hl hk hv)
  rw [show nhV a = .agg #[.int .i64 a.kind, .string a.name, .int .i64 a.n, .int .i64 (a.pos : Nat), .slice a.a a.len a.c] from rfl] at HCN ⊢
  clear hb0 hW0 hX hok hhi hl hk hv HR
  go_enter Tryz.func67, Tryz.ntmps67
  go_upto_region 1 with (fail)
  rw [← HW0.out, ← HX.out]
  clear HW0
  have x0 : W0.cell? ⟨X, 0, none⟩ = some (.int .i64 a.kind) := HX0.out.cell (i := 0) (by omega)
  have x1 : W0.cell? ⟨X, 1, none⟩ = some (.string a.name) := HX0.out.cell (i := 1) (by omega)
  have x2 : W0.cell? ⟨X, 2, none⟩ = some (.int .i64 a.n) := HX0.out.cell (i := 2) (by omega)
  have x3 : W0.cell? ⟨X, 3, none⟩ = some (.int .i64 (a.pos : Nat)) := HX0.out.cell (i := 3) (by omega)
  have x4 : W0.cell? ⟨X, 4, none⟩ = some (.slice a.a a.len a.c) := HX0.out.cell (i := 4) (by omega)
  have hXl : X < W0.heap.size := HX0.out.lt
  go_wp2_with fail
  refine HCN.out.mono ?_
  rintro e W2 ⟨rfl, hb2⟩
  have HR2 := Lib.hid (HR0.out.keep hb2 HR0.out.lt)
  have HMo2 : Hid (Mod (fun j => j = Rr) w W2) := Lib.hid ((modB HB0.out).trans (modB hb2))
  have r24 : W2.cell? ⟨Rr, 24, none⟩ = some (.int .i64 s.chg.ph) := HR2.out.cell (i := 24) (by omega)
  have f24 := HR2.out.frozen 24
  have hRl : Rr < W2.heap.size := HR2.out.lt
  clear hb2 HR0 HCN x0 x1 x2 x3 x4 hXl
  go_wp2_with fail
  go_end0
  exact ⟨rfl, RdgM.set HR2.out 24 (.int .i64 1) (by decide), HMo2.out.setCell (p := ⟨Rr, 24, none⟩) (.inl rfl) _⟩
/-- What lies ready for an attribute. -/
structure AttrM (W : World) (a hI : NH) (x : Nd Lf) (lo hi Rr Bd hb Tb nt Sa Sc : Nat) (th : List (ByteArray × Int × Int)) (s : RSt) : Prop where
  ok : okNd okLf W lo hi a x
  hi : hi ≤ W.heap.size
  rd : RdgM W Rr Bd hI hb s
  b7 : W.cell? ⟨Bd, 7, none⟩ = some (.map (some Tb))
  th : ValM Tryz.prog 9 W Tb nt (thF th)
  a0 : W.cell? ⟨Sa, 0, none⟩ = some (.int .i64 1)
  a1 : W.cell? ⟨Sa, 1, none⟩ = some (.int .i64 1000)
  c0 : W.cell? ⟨Sc, 0, none⟩ = some (.int .i64 1)
  c1 : W.cell? ⟨Sc, 1, none⟩ = some (.int .i64 80)
set_option maxRecDepth 100000 in
set_option maxHeartbeats 8000000 in
theorem stepA_rule (Sa Bb Sc : Nat) {th : List (ByteArray × Int × Int)} {kind : Int} {x : Nd Lf} {s s' : RSt} (hs : stepA th kind x s = some s') : ∃ r ∈ ruleT Sa Bb Sc, r.key.data.toList = x.name.data.toList ∧ r.ks.contains kind = true ∧ (∀ (args : Array Value) (W : World), (callFunc r.FA args).run Tryz.prog W = .ok (.enter r.FA args) W) ∧
    ∀ (a hI : NH) (lo hi Rr Bd hb Tb nt : Nat) (W : World), AttrM W a hI x lo hi Rr Bd hb Tb nt Sa Sc th s → Calls Tryz.prog r.FA (#[.pointer (some ⟨Rr, 0, none⟩), nhV a] ++ r.cs) W fun e w' => e = .returned (.tuple #[]) ∧ RdgM w' Rr Bd hI hb s' ∧ Mod (fun j => j = Rr) W w' := by
  unfold stepA at hs
  by_cases e : (x.name.data.toList == [108, 105, 109, 105, 116]) = true
  · rw [if_pos e] at hs
    by_cases g : ((kind == 1 || kind == 2) && numsOk x [(1, 1000)]) = true
    · rw [if_pos g] at hs
      injection hs with hs
      subst hs
      rw [Bool.and_eq_true] at g
      obtain ⟨n1, n2, n3⟩ := numsOk_iff g.2
      refine ⟨⟨⟨#[108, 105, 109, 105, 116]⟩, [1, 2], false, 112, #[.pointer (some ⟨Sa, 0, none⟩)]⟩, by simp [ruleT, ruleC], (beq_iff_eq.1 e).symm, by simpa using g.1, fun _ _ => by go_simp, fun a hI lo hi Rr Bd hb Tb nt W h => ?_⟩
      exact stC1_ok a hI x lo hi Rr Bd hb Sa s W h.ok h.hi (Lib.hid h.rd) h.a0 h.a1 n1 n2 n3
    · rw [if_neg g] at hs; cases hs
  rw [if_neg e] at hs
  clear e
  by_cases e : (x.name.data.toList == [110, 101, 117, 116, 114, 97, 108]) = true
  · rw [if_pos e] at hs
    by_cases g : ((kind == 1 || kind == 2) && numsOk x [(1, 1000)]) = true
    · rw [if_pos g] at hs
      injection hs with hs
      subst hs
      rw [Bool.and_eq_true] at g
      obtain ⟨n1, n2, n3⟩ := numsOk_iff g.2
      refine ⟨⟨⟨#[110, 101, 117, 116, 114, 97, 108]⟩, [1, 2], false, 113, #[.pointer (some ⟨Sa, 0, none⟩)]⟩, by simp [ruleT, ruleC], (beq_iff_eq.1 e).symm, by simpa using g.1, fun _ _ => by go_simp, fun a hI lo hi Rr Bd hb Tb nt W h => ?_⟩
      exact stC2_ok a hI x lo hi Rr Bd hb Sa s W h.ok h.hi (Lib.hid h.rd) h.a0 h.a1 n1 n2 n3
    · rw [if_neg g] at hs; cases hs
  rw [if_neg e] at hs
  clear e
  by_cases e : (x.name.data.toList == [102, 117, 115, 101]) = true
  · rw [if_pos e] at hs
    by_cases g : ((kind == 1 || kind == 2) && numsOk x [(1, 1000), (0, 1000000)]) = true
    · rw [if_pos g] at hs
      injection hs with hs
      subst hs
      rw [Bool.and_eq_true] at g
      obtain ⟨n1, n2, n3⟩ := numsOk_iff g.2
      refine ⟨⟨⟨#[102, 117, 115, 101]⟩, [1, 2], true, 114, #[.pointer (some ⟨Sa, 0, none⟩)]⟩, by simp [ruleT, ruleC], (beq_iff_eq.1 e).symm, by simpa using g.1, fun _ _ => by go_simp, fun a hI lo hi Rr Bd hb Tb nt W h => ?_⟩
      exact stC3_ok a hI x lo hi Rr Bd hb Sa s W h.ok h.hi (Lib.hid h.rd) h.a0 h.a1 n1 n2 n3
    · rw [if_neg g] at hs; cases hs
  rw [if_neg e] at hs
  clear e
  by_cases e : (x.name.data.toList == [97, 109, 112, 115]) = true
  · rw [if_pos e] at hs
    by_cases g : ((kind == 5) && numsOk x [(1, 80), (1, 80), (1, 80)]) = true
    · rw [if_pos g] at hs
      injection hs with hs
      subst hs
      rw [Bool.and_eq_true] at g
      obtain ⟨n1, n2, n3⟩ := numsOk_iff g.2
      refine ⟨⟨⟨#[97, 109, 112, 115]⟩, [5], false, 69, #[.pointer (some ⟨Sc, 0, none⟩)]⟩, by simp [ruleT, ruleC], (beq_iff_eq.1 e).symm, by simpa using g.1, fun _ _ => by go_simp, fun a hI lo hi Rr Bd hb Tb nt W h => ?_⟩
      exact stR6_ok a hI x lo hi Rr Bd hb Sc s W h.ok h.hi (Lib.hid h.rd) h.c0 h.c1 n1 n2 n3
    · rw [if_neg g] at hs; cases hs
  rw [if_neg e] at hs
  clear e
  by_cases e : (x.name.data.toList == [102, 97, 108, 108, 98, 97, 99, 107]) = true
  · rw [if_pos e] at hs
    by_cases g : ((kind == 5) && numsOk x [(0, 80)]) = true
    · rw [if_pos g] at hs
      injection hs with hs
      subst hs
      rw [Bool.and_eq_true] at g
      obtain ⟨n1, n2, n3⟩ := numsOk_iff g.2
      refine ⟨⟨⟨#[102, 97, 108, 108, 98, 97, 99, 107]⟩, [5], false, 70, #[]⟩, by simp [ruleT, ruleC], (beq_iff_eq.1 e).symm, by simpa using g.1, fun _ _ => by go_simp, fun a hI lo hi Rr Bd hb Tb nt W h => ?_⟩
      exact stR7_ok a hI x lo hi Rr Bd hb  s W h.ok h.hi (Lib.hid h.rd) n1 n2 n3
    · rw [if_neg g] at hs; cases hs
  rw [if_neg e] at hs
  clear e
  by_cases e : (x.name.data.toList == [111, 119, 110, 101, 114]) = true
  · rw [if_pos e] at hs
    by_cases g : (kind == 4 || kind == 5) = true
    · rw [if_pos g] at hs
      obtain ⟨ix, hn, hs⟩ := Option.map_eq_some_iff.1 hs
      subst hs
      obtain ⟨nm, kd, n1, n2, n3, n4⟩ := nameOk_iff hn
      refine ⟨⟨⟨#[111, 119, 110, 101, 114]⟩, [4, 5], false, 60, #[]⟩, by simp [ruleT, ruleC], (beq_iff_eq.1 e).symm, by simpa using g, fun _ _ => by go_simp, fun a hI lo hi Rr Bd hb Tb nt W h => ?_⟩
      exact stR1_ok a hI x lo hi Rr Bd hb Tb nt s nm kd ix (thF th) W h.ok h.hi (Lib.hid h.rd) h.b7 (Lib.hid h.th) n3 n1 n2 n4
    · rw [if_neg g] at hs; cases hs
  rw [if_neg e] at hs
  clear e
  by_cases e : (x.name.data.toList == [97, 116]) = true
  · rw [if_pos e] at hs
    by_cases g : (kind == 5) = true
    · rw [if_pos g] at hs
      obtain ⟨ix, hn, hs⟩ := Option.map_eq_some_iff.1 hs
      subst hs
      obtain ⟨nm, kd, n1, n2, n3, n4⟩ := nameOk_iff hn
      refine ⟨⟨⟨#[97, 116]⟩, [5], false, 66, #[]⟩, by simp [ruleT, ruleC], (beq_iff_eq.1 e).symm, by simpa using g, fun _ _ => by go_simp, fun a hI lo hi Rr Bd hb Tb nt W h => ?_⟩
      exact stR4_ok a hI x lo hi Rr Bd hb Tb nt s nm kd ix (thF th) W h.ok h.hi (Lib.hid h.rd) h.b7 (Lib.hid h.th) n3 n1 n2 n4
    · rw [if_neg g] at hs; cases hs
  rw [if_neg e] at hs
  clear e
  by_cases e : (x.name.data.toList == [112, 104, 97, 115, 101, 115]) = true
  · rw [if_pos e] at hs
    by_cases g : (kind == 5 && numsOk x [(1, 1)]) = true
    · rw [if_pos g] at hs
      injection hs with hs
      subst hs
      rw [Bool.and_eq_true] at g
      obtain ⟨n1, n2, n3⟩ := numsOk_iff g.2
      have n4 : kN x.kids 0 = 1 := by have := inside_iff.1 (n3 0 (1, 1) rfl); simp at this; omega
      refine ⟨⟨⟨#[112, 104, 97, 115, 101, 115]⟩, [5], false, 67, #[]⟩, by simp [ruleT, ruleC], (beq_iff_eq.1 e).symm, by simpa using g.1, fun _ _ => by go_simp, fun a hI lo hi Rr Bd hb Tb nt W h => ?_⟩
      exact stR5_ok a hI x lo hi Rr Bd hb s W h.ok h.hi (Lib.hid h.rd) n1 n2 n4
    · rw [if_neg g] at hs; cases hs
  rw [if_neg e] at hs
  cases hs
end Go.Proofs.YtpkonifeieepfaaGreat
/-
site.Build: the attributes of an item.
-/
namespace Go.Proofs.YtpkonifeieepfaaGreat
open Go.RowKit
set_option linter.unusedVariables false
set_option linter.unusedSimpArgs false
def runA (th : List (ByteArray × Int × Int)) (kind : Int) : List (Nd Lf) → List (List UInt8) → RSt → Option (RSt × List (List UInt8))
  | [], seen, s => some (s, seen)
  | x :: r, seen, s => if x.kind == 3 && !seen.contains x.name.data.toList && decide (x.name.size ≤ 8000) then (match stepA th kind x s with
      | some s' => runA th kind r (seen ++ [x.name.data.toList]) s'
      | none => none) else none
theorem runA_cons {th : List (ByteArray × Int × Int)} {kind : Int} {x : Nd Lf} {r : List (Nd Lf)} {seen : List (List UInt8)} {s : RSt} {z : RSt × List (List UInt8)} (h : runA th kind (x :: r) seen s = some z) : x.kind = 3 ∧ x.name.data.toList ∉ seen ∧ x.name.size ≤ 8000 ∧ ∃ s', stepA th kind x s = some s' ∧ runA th kind r (seen ++ [x.name.data.toList]) s' = some z := by
  unfold runA at h
  by_cases g : (x.kind == 3 && !seen.contains x.name.data.toList && decide (x.name.size ≤ 8000)) = true
  · rw [if_pos g] at h
    simp only [Bool.and_eq_true, beq_iff_eq, Bool.not_eq_true', decide_eq_true_eq] at g
    refine ⟨g.1.1, fun hm => ?_, g.2, ?_⟩
    · have := g.1.2
      rw [Bool.eq_false_iff] at this
      exact this (List.contains_iff_mem.2 hm)
    · cases hs : stepA th kind x s with
      | none => rw [hs] at h; cases h
      | some s' => rw [hs] at h; exact ⟨s', rfl, h⟩
  · rw [if_neg g] at h; cases h
theorem SetM.modA {P : Program} {k e : TypeId} {M : Nat → Prop} {w w' : World} {b n : Nat} {l : List Lit} (h : SetM P k e w b n l) (hm : Mod M w w') (hb : ¬ M b) : SetM P k e w' b n l := by
  obtain ⟨D, ⟨es, clock, h1, h2⟩, h3⟩ := h
  have hlt := World.ownsMap.lt ⟨es, clock, h1, h2⟩
  exact ⟨D, ⟨es, clock, (hm.block b hlt hb).trans h1, h2⟩, h3⟩
theorem inS_str {l : List (List UInt8)} {s : ByteArray} : inS (l.map Lit.string) (strL s) = true ↔ s.data.toList ∈ l := by
  rw [inS_iff]
  unfold strL
  simp
theorem zeroRule (w : World) : ∃ z, (zeroValue 140).run Tryz.prog w = .ok z w := ⟨.agg #[.slice none 0 0, .bool false, .nilFunc], by kernel_rfl⟩
set_option maxRecDepth 100000 in
set_option maxHeartbeats 8000000 in
theorem stAttrs_ok (hI : NH) (hs : List NH) (xs : List (Nd Lf)) (lo hi lr hr F Rr Bd hb Tb nt Mb Sa Bb Sc : Nat) (th : List (ByteArray × Int × Int)) (s sF : RSt) (seenF : List (List UInt8)) (w : World)
    (HR : Hid (RdgM w Rr Bd hI hb s)) (HG : Hid (GrT (okNd okLf) w lo hi (.slice hI.a hI.len hI.c) hs xs)) (HU : Hid (RulesB w lr hr Mb (ruleT Sa Bb Sc))) (HH : Hid (SetM Tryz.prog 9 4 w hb 0 []))
    (HB7 : Hid (w.cell? ⟨Bd, 7, none⟩ = some (.map (some Tb)))) (HTH : Hid (ValM Tryz.prog 9 w Tb nt (thF th))) (HS : Hid (w.cell? ⟨Sa, 0, none⟩ = some (.int .i64 1) ∧ w.cell? ⟨Sa, 1, none⟩ = some (.int .i64 1000) ∧ w.cell? ⟨Sc, 0, none⟩ = some (.int .i64 1) ∧ w.cell? ⟨Sc, 1, none⟩ = some (.int .i64 80)))
    (HX : Hid (hi ≤ F ∧ hr ≤ F ∧ Bd < F ∧ Tb < F ∧ Sa < F ∧ Sc < F ∧ F ≤ Rr ∧ F ≤ hb ∧ Rr ≠ hb ∧ F ≤ w.heap.size)) (hrun : runA th hI.n xs [] s = some (sF, seenF)) (hlen : hI.len ≤ 2000) :
    Calls Tryz.prog 74 #[.pointer (some ⟨Rr, 0, none⟩), .map (some Mb)] w fun e w' => e = .returned (.tuple #[]) ∧ RdgM w' Rr Bd hI hb sF ∧ (∃ n, SetM Tryz.prog 9 4 w' hb n (seenF.map Lit.string)) ∧ Mod (fun j => j = Rr ∨ j = hb) w w' := by
  have r5 : w.cell? ⟨Rr, 5, none⟩ = some (.slice hI.a hI.len hI.c) := HR.out.cell (i := 5) (by omega)
  have hRl : Rr < w.heap.size := HR.out.lt
  obtain ⟨hln, hhln⟩ : ∃ n, n = hI.len := ⟨_, rfl⟩
  have HLN := Lib.hid hhln
  obtain ⟨aI, haI⟩ : ∃ a, a = hI.a := ⟨_, rfl⟩
  rw [← hhln] at r5 hlen
  rw [← haI] at r5
  have HXL : Hid (xs.length = hln) := Lib.hid (by rw [hhln, ← HG.out.len]; exact HG.out.rd.1)
  have HG : Hid (GrT (okNd okLf) w lo hi (.slice aI hln hI.c) hs xs) := Lib.hid (by rw [haI, hhln]; exact HG.out)
  have HRUN : Hid (runA th hI.n (xs.drop 0) [] s = some (sF, seenF)) := Lib.hid hrun
  clear hrun hhln haI
  go_enter Tryz.func74, Tryz.ntmps74
  go_wp2_with fail
  go_loopg [14] hln (fun g1 v14 wr => ∃ (i : Nat) (si : RSt) (seen : List (List UInt8)), v14 = .int .i64 i ∧ i ≤ hln ∧ hln - i ≤ g1 ∧ Hid (RdgM wr Rr Bd hI hb si) ∧ Hid (SetM Tryz.prog 9 4 wr hb i (seen.map Lit.string)) ∧ Hid (Mod (fun j => j = Rr ∨ j = hb) w wr) ∧ Hid (runA th hI.n (xs.drop i) seen si = some (sF, seenF)))
  case atStart => exact ⟨0, s, [], by go_num, by omega, by omega, HR, HH, Lib.hid (Mod.refl _ _), HRUN⟩
  case round =>
    clear r5 hRl
    obtain ⟨i, si, seen, rfl, hi', hg1, HRi, HHi, HMi, HRUNi⟩ := hrel
    by_cases hlt : i < hln
    · have hltz : (i : Int) < (hln : Int) := by omega
      have HGr := Lib.hid (HG.out.calm (okNd_firm okLf_firm) (Calm.of HMi.out (fun j h1 h2 e => by have := HX.out; omega)))
      obtain ⟨hl', hr'⟩ := HGr.out.rd
      obtain ⟨b, off, y, hA, hbl, hx, d0, d1, d2, d3, d4⟩ := node_at hr' (k := i) (by rw [hl']; exact hlt)
      have hkx : i < xs.length := by have := HXL.out; omega
      obtain ⟨l1, h1', q1, q2, q3, q4⟩ := HGr.out.mem i y xs[i] hx (List.getElem?_eq_getElem hkx)
      have hdrop := HRUNi.out
      rw [List.drop_eq_getElem_cons hkx] at hdrop
      obtain ⟨u1, u2, u3, s', u4, u5⟩ := runA_cons hdrop
      obtain ⟨r, hrm, hrk, hrc, hcf, hcl⟩ := stepA_rule Sa Bb Sc u4
      have hyk : y.kind = 3 := by rw [q4.1]; exact u1
      have hyn : y.name = xs[i].name := q4.2.1
      have HQ4 := Lib.hid q4
      have HQH : Hid (h1' ≤ hi) := Lib.hid q3
      obtain ⟨xi, hxi⟩ : ∃ x, x = xs[i] := ⟨_, rfl⟩
      rw [← hxi] at HQ4 hyn u2 u3 u5 hrk hcl
      have HYY : Hid (∃ y0 : NH, y0 = y) := Lib.hid ⟨y, rfl⟩
      obtain ⟨ykk, yna, ynn, ypo, ya, yln, yc⟩ := y
      have hyk : ykk = 3 := hyk
      subst hyk
      dsimp only at d0 d1 d2 d3 d4
      replace hyn : yna = xi.name := hyn
      have HA := Lib.hid hA
      have hka : r.key.data.toList = yna.data.toList := by rw [hyn]; exact hrk
      have HSZ : Hid (yna.size ≤ 8000) := Lib.hid (by rw [hyn]; exact u3)
      have HNS : Hid (yna.data.toList ∉ seen) := Lib.hid (by rw [hyn]; exact u2)
      have HU5 : Hid (runA th hI.n (xs.drop (i + 1)) (seen ++ [yna.data.toList]) s' = some (sF, seenF)) := Lib.hid (by rw [hyn]; exact u5)
      have HUi : Hid (RulesB wr lr hr Mb (ruleT Sa Bb Sc)) := Lib.hid (HU.out.mod HMi.out (fun j h1 h2 e => by have := HX.out; omega))
      obtain ⟨rA, rn, rc, hval, hrks, hrn, hrb⟩ : ∃ A n c, (∀ W, Below wr.heap.size wr W → (Instr.lookup 94 (.map (some Mb)) (.string yna) true).run Tryz.prog W = .ok (.tuple #[.agg #[.slice A n c, .bool r.opt, .func (.func r.FA) #[] r.cs], .bool true]) W) ∧ Rd 1 encI wr A r.ks ∧ r.ks.length = n ∧ True := by
        obtain ⟨f, n0, _, hv, hat, _⟩ := HUi.out
        obtain ⟨A, m, c, q1', q2', q3', q4'⟩ := hat r hrm
        refine ⟨A, m, c, fun W hbW => ?_, q2', q3', trivial⟩
        obtain ⟨z, hz⟩ := zeroRule W
        have h := (hv.keep hbW).look (Go.Maps.string_keyed Tryz.underlying9) Tryz.underlying94 hz (key := .string yna) (kl := strL yna) (WideMaps.keyOf_string_mk Tryz.underlying9 (by have := HSZ.out; unfold maxLen; omega)) (by trivial)
        rw [show strL yna = strL r.key from by unfold strL; rw [hka], q1'] at h
        exact h
      obtain ⟨ro, hro⟩ : ∃ x, x = r.opt := ⟨_, rfl⟩
      obtain ⟨rF, hrF⟩ : ∃ x, x = r.FA := ⟨_, rfl⟩
      obtain ⟨rcs, hrcs⟩ : ∃ x, x = r.cs := ⟨_, rfl⟩
      obtain ⟨rks, hrks'⟩ : ∃ x, x = r.ks := ⟨_, rfl⟩
      rw [← hro, ← hrF, ← hrcs] at hval
      rw [← hrks'] at hrks hrn hrc
      rw [← hrF] at hcf
      rw [← hrF, ← hrcs] at hcl
      have HRKi := Lib.hid hrks
      have HRN := Lib.hid hrn
      have HKC : Hid (rks.contains hI.n = true) := Lib.hid hrc
      have HVAL := Lib.hid hval
      have HCL := Lib.hid hcl
      have hrn100 : rn ≤ 100 := by
        have h : r.ks.length ≤ 100 := by
          simp only [ruleT, ruleC, List.cons_append, List.nil_append, List.mem_cons, List.not_mem_nil, or_false] at hrm
          rcases hrm with h | h | h | h | h | h | h | h | h | h | h | h | h <;> (rw [h]; simp)
        rw [← hrn, hrks']; exact h
      subst hA
      clear hx hl' hr' hkx q1 q2 q3 q4 hdrop u1 u2 u3 u4 u5 hrm hrk hrc hcl hyn hxi hka hval hrks hrn hrb hro hrF hrcs hrks' HYY
      have hRl : Rr < wr.heap.size := HRi.out.lt
      go_upto_region 4 with (fail)
      obtain ⟨W1, hW1⟩ : ∃ W, W = wr.alloc (.cells #[.int .i64 3, .string yna, .int .i64 ynn, .int .i64 (ypo : Nat), .slice ya yln yc] 49) := ⟨_, rfl⟩
      obtain ⟨N, hN⟩ : ∃ N, N = wr.heap.size := ⟨_, rfl⟩
      have hb1 : Below wr.heap.size wr W1 := by rw [hW1]; exact (Below.refl _ _).alloc (Nat.le_refl _) _
      have y0 : W1.cell? ⟨N, 0, none⟩ = some (.int .i64 3) := by rw [hW1, hN]; go_simp
      have y1 : W1.cell? ⟨N, 1, none⟩ = some (.string yna) := by rw [hW1, hN]; go_simp
      have y2 : W1.cell? ⟨N, 2, none⟩ = some (.int .i64 ynn) := by rw [hW1, hN]; go_simp
      have y3 : W1.cell? ⟨N, 3, none⟩ = some (.int .i64 (ypo : Nat)) := by rw [hW1, hN]; go_simp
      have y4 : W1.cell? ⟨N, 4, none⟩ = some (.slice ya yln yc) := by rw [hW1, hN]; go_simp
      have hNl : N < W1.heap.size := by rw [hW1, hN]; simp
      have HNO : Hid (Own W1 N 49 5 (nodeF 3 yna ynn ypo (.slice ya yln yc))) := Lib.hid (by rw [hW1]; exact nodeF_new _ _ _ _ _ _ _ hN.symm)
      have HB1 := Lib.hid hb1
      have HNW : Hid (N = wr.heap.size) := Lib.hid hN
      rw [← hW1, ← hN]
      clear hW1 hN d0 d1 d2 d3 d4 hbl
      have hlk := HVAL.out W1 hb1
      clear hb1
      go_upto_region 5 with (fail)
      clear hlk
      obtain ⟨W2, hW2⟩ : ∃ W, W = W1.alloc (.cells #[.slice rA rn rc, .bool ro, .func (.func rF) #[] rcs] 140) := ⟨_, rfl⟩
      obtain ⟨Z, hZ⟩ : ∃ Z, Z = W1.heap.size := ⟨_, rfl⟩
      have hb2 : Below W1.heap.size W1 W2 := by rw [hW2]; exact (Below.refl _ _).alloc (Nat.le_refl _) _
      have z0 : W2.cell? ⟨Z, 0, none⟩ = some (.slice rA rn rc) := by rw [hW2, hZ]; go_simp
      have z1 : W2.cell? ⟨Z, 1, none⟩ = some (.bool ro) := by rw [hW2, hZ]; go_simp
      have z2 : W2.cell? ⟨Z, 2, none⟩ = some (.func (.func rF) #[] rcs) := by rw [hW2, hZ]; go_simp
      have hZl : Z < W2.heap.size := by rw [hW2, hZ]; simp
      have HBr2 : Hid (Below wr.heap.size wr W2) := Lib.hid (below_then HB1.out hb2)
      rw [← hW2, ← hZ]
      have HZG : Hid (wr.heap.size ≤ Z) := Lib.hid (by rw [hZ]; exact HB1.out.size)
      have HY1 : Hid (Below W1.heap.size W1 W2) := Lib.hid hb2
      clear hW2 hZ hb2
      have HR2 := Lib.hid (HRi.out.keep HBr2.out hRl)
      have HRK := Lib.hid (HRKi.out.keep HBr2.out)
      have r3 : W2.cell? ⟨Rr, 3, none⟩ = some (.int .i64 hI.n) := HR2.out.cell (i := 3) (by omega)
      have hRl : Rr < W2.heap.size := HR2.out.lt
      refine region_z (S := fun w' => Below W2.heap.size W2 w') [] (by kernel_rfl) (show Below W2.heap.size W2 W2.drew from below_drewN' W2) (fun hHeld => ?_)
      obtain ⟨wd, hwd⟩ : ∃ wd, wd = W2.drew := ⟨_, rfl⟩
      rw [← hwd] at hHeld ⊢
      clear hwd
      refine wpAnyZ_take (i := 0) (v := .bool true) [] rfl (by kernel_rfl) (by kernel_rfl) (by kernel_rfl) (by kernel_rfl) (fun _ _ _ h => h) (Or.inl ⟨by kernel_rfl, fun w' hSw => ?_⟩) hHeld ?_
      · have s0 := (hSw.cell (p := ⟨Rr, 3, none⟩) hRl).trans r3
        have s1 : Rr < w'.heap.size := Nat.lt_of_lt_of_le hRl hSw.size
        have s2 := (hSw.cell (p := ⟨Z, 0, none⟩) hZl).trans z0
        have s3 := (hSw.cell (p := ⟨Z, 1, none⟩) hZl).trans z1
        have s4 := (hSw.cell (p := ⟨Z, 2, none⟩) hZl).trans z2
        have s5 : Z < w'.heap.size := Nat.lt_of_lt_of_le hZl hSw.size
        clear hHeld hSw
        go_simp
      simp only [Act.put, List.getElem_toArray, List.getElem_cons_zero, List.getElem_cons_succ, List.setIfInBounds_toArray, List.set_cons_zero, List.set_cons_succ]
      refine wpAnyZ_take (i := 1) (v := .bool false) [] rfl (by kernel_rfl) (by kernel_rfl) (by kernel_rfl) (by kernel_rfl) (fun _ _ _ h => h) (Or.inl ⟨by kernel_rfl, fun w' hSw => ?_⟩) hHeld ?_
      · have s0 := (hSw.cell (p := ⟨Rr, 3, none⟩) hRl).trans r3
        have s1 : Rr < w'.heap.size := Nat.lt_of_lt_of_le hRl hSw.size
        have s2 := (hSw.cell (p := ⟨Z, 0, none⟩) hZl).trans z0
        have s3 := (hSw.cell (p := ⟨Z, 1, none⟩) hZl).trans z1
        have s4 := (hSw.cell (p := ⟨Z, 2, none⟩) hZl).trans z2
        have s5 : Z < w'.heap.size := Nat.lt_of_lt_of_le hZl hSw.size
        clear hHeld hSw
        go_simp
      simp only [Act.put, List.getElem_toArray, List.getElem_cons_zero, List.getElem_cons_succ, List.setIfInBounds_toArray, List.set_cons_zero, List.set_cons_succ]
      refine wpAnyZ_take (i := 2) (v := .bool false) [] rfl (by kernel_rfl) (by kernel_rfl) (by kernel_rfl) (by kernel_rfl) (fun _ _ _ h => h) (Or.inl ⟨by kernel_rfl, fun w' hSw => ?_⟩) hHeld ?_
      · have s0 := (hSw.cell (p := ⟨Rr, 3, none⟩) hRl).trans r3
        have s1 : Rr < w'.heap.size := Nat.lt_of_lt_of_le hRl hSw.size
        have s2 := (hSw.cell (p := ⟨Z, 0, none⟩) hZl).trans z0
        have s3 := (hSw.cell (p := ⟨Z, 1, none⟩) hZl).trans z1
        have s4 := (hSw.cell (p := ⟨Z, 2, none⟩) hZl).trans z2
        have s5 : Z < w'.heap.size := Nat.lt_of_lt_of_le hZl hSw.size
        clear hHeld hSw
        go_simp
      simp only [Act.put, List.getElem_toArray, List.getElem_cons_zero, List.getElem_cons_succ, List.setIfInBounds_toArray, List.set_cons_zero, List.set_cons_succ]
      refine wpAnyZ_take (i := 3) (v := .agg #[.slice rA rn rc, .bool ro, .func (.func rF) #[] rcs]) [] rfl (by kernel_rfl) (by kernel_rfl) (by kernel_rfl) (by kernel_rfl) (fun _ _ _ h => h) (Or.inl ⟨by kernel_rfl, fun w' hSw => ?_⟩) hHeld ?_
      · have s0 := (hSw.cell (p := ⟨Rr, 3, none⟩) hRl).trans r3
        have s1 : Rr < w'.heap.size := Nat.lt_of_lt_of_le hRl hSw.size
        have s2 := (hSw.cell (p := ⟨Z, 0, none⟩) hZl).trans z0
        have s3 := (hSw.cell (p := ⟨Z, 1, none⟩) hZl).trans z1
        have s4 := (hSw.cell (p := ⟨Z, 2, none⟩) hZl).trans z2
        have s5 : Z < w'.heap.size := Nat.lt_of_lt_of_le hZl hSw.size
        clear hHeld hSw
        go_simp
      simp only [Act.put, List.getElem_toArray, List.getElem_cons_zero, List.getElem_cons_succ, List.setIfInBounds_toArray, List.set_cons_zero, List.set_cons_succ]
      refine wpAnyZ_take (i := 4) (v := .pointer (some ⟨Rr, 0, none⟩)) [] rfl (by kernel_rfl) (by kernel_rfl) (by kernel_rfl) (by kernel_rfl) (fun _ _ _ h => h) (Or.inl ⟨by kernel_rfl, fun w' hSw => ?_⟩) hHeld ?_
      · have s0 := (hSw.cell (p := ⟨Rr, 3, none⟩) hRl).trans r3
        have s1 : Rr < w'.heap.size := Nat.lt_of_lt_of_le hRl hSw.size
        have s2 := (hSw.cell (p := ⟨Z, 0, none⟩) hZl).trans z0
        have s3 := (hSw.cell (p := ⟨Z, 1, none⟩) hZl).trans z1
        have s4 := (hSw.cell (p := ⟨Z, 2, none⟩) hZl).trans z2
        have s5 : Z < w'.heap.size := Nat.lt_of_lt_of_le hZl hSw.size
        clear hHeld hSw
        go_simp
      simp only [Act.put, List.getElem_toArray, List.getElem_cons_zero, List.getElem_cons_succ, List.setIfInBounds_toArray, List.set_cons_zero, List.set_cons_succ]
      refine wpAnyZ_take (i := 5) (v := .pointer (some ⟨Rr, 0, none⟩)) [] rfl (by kernel_rfl) (by kernel_rfl) (by kernel_rfl) (by kernel_rfl) (fun _ _ _ h => h) (Or.inl ⟨by kernel_rfl, fun w' hSw => ?_⟩) hHeld ?_
      · have s0 := (hSw.cell (p := ⟨Rr, 3, none⟩) hRl).trans r3
        have s1 : Rr < w'.heap.size := Nat.lt_of_lt_of_le hRl hSw.size
        have s2 := (hSw.cell (p := ⟨Z, 0, none⟩) hZl).trans z0
        have s3 := (hSw.cell (p := ⟨Z, 1, none⟩) hZl).trans z1
        have s4 := (hSw.cell (p := ⟨Z, 2, none⟩) hZl).trans z2
        have s5 : Z < w'.heap.size := Nat.lt_of_lt_of_le hZl hSw.size
        clear hHeld hSw
        go_simp
      simp only [Act.put, List.getElem_toArray, List.getElem_cons_zero, List.getElem_cons_succ, List.setIfInBounds_toArray, List.set_cons_zero, List.set_cons_succ]
      refine wpAnyZ_take (i := 6) (v := .pointer (some ⟨Rr, 1, none⟩)) [] rfl (by kernel_rfl) (by kernel_rfl) (by kernel_rfl) (by kernel_rfl) (fun _ _ _ h => h) (Or.inl ⟨by kernel_rfl, fun w' hSw => ?_⟩) hHeld ?_
      · have s0 := (hSw.cell (p := ⟨Rr, 3, none⟩) hRl).trans r3
        have s1 : Rr < w'.heap.size := Nat.lt_of_lt_of_le hRl hSw.size
        have s2 := (hSw.cell (p := ⟨Z, 0, none⟩) hZl).trans z0
        have s3 := (hSw.cell (p := ⟨Z, 1, none⟩) hZl).trans z1
        have s4 := (hSw.cell (p := ⟨Z, 2, none⟩) hZl).trans z2
        have s5 : Z < w'.heap.size := Nat.lt_of_lt_of_le hZl hSw.size
        clear hHeld hSw
        go_simp
      simp only [Act.put, List.getElem_toArray, List.getElem_cons_zero, List.getElem_cons_succ, List.setIfInBounds_toArray, List.set_cons_zero, List.set_cons_succ]
      refine wpAnyZ_take (i := 7) (v := .pointer (some ⟨Rr, 3, none⟩)) [] rfl (by kernel_rfl) (by kernel_rfl) (by kernel_rfl) (by kernel_rfl) (fun _ _ _ h => h) (Or.inl ⟨by kernel_rfl, fun w' hSw => ?_⟩) hHeld ?_
      · have s0 := (hSw.cell (p := ⟨Rr, 3, none⟩) hRl).trans r3
        have s1 : Rr < w'.heap.size := Nat.lt_of_lt_of_le hRl hSw.size
        have s2 := (hSw.cell (p := ⟨Z, 0, none⟩) hZl).trans z0
        have s3 := (hSw.cell (p := ⟨Z, 1, none⟩) hZl).trans z1
        have s4 := (hSw.cell (p := ⟨Z, 2, none⟩) hZl).trans z2
        have s5 : Z < w'.heap.size := Nat.lt_of_lt_of_le hZl hSw.size
        clear hHeld hSw
        go_simp
      simp only [Act.put, List.getElem_toArray, List.getElem_cons_zero, List.getElem_cons_succ, List.setIfInBounds_toArray, List.set_cons_zero, List.set_cons_succ]
      refine wpAnyZ_take (i := 8) (v := .int .i64 hI.n) [] rfl (by kernel_rfl) (by kernel_rfl) (by kernel_rfl) (by kernel_rfl) (fun _ _ _ h => h) (Or.inl ⟨by kernel_rfl, fun w' hSw => ?_⟩) hHeld ?_
      · have s0 := (hSw.cell (p := ⟨Rr, 3, none⟩) hRl).trans r3
        have s1 : Rr < w'.heap.size := Nat.lt_of_lt_of_le hRl hSw.size
        have s2 := (hSw.cell (p := ⟨Z, 0, none⟩) hZl).trans z0
        have s3 := (hSw.cell (p := ⟨Z, 1, none⟩) hZl).trans z1
        have s4 := (hSw.cell (p := ⟨Z, 2, none⟩) hZl).trans z2
        have s5 : Z < w'.heap.size := Nat.lt_of_lt_of_le hZl hSw.size
        clear hHeld hSw
        go_simp
      simp only [Act.put, List.getElem_toArray, List.getElem_cons_zero, List.getElem_cons_succ, List.setIfInBounds_toArray, List.set_cons_zero, List.set_cons_succ]
      refine wpAnyZ_one (i := 9) (by kernel_rfl) rfl (fun K' hK => ?_)
      go_simp
      refine (stOf_any rA rn rc (.bool ro) (.func (.func rF) #[] rcs) rks hI.n wd (HRK.out.keep hHeld) HRN.out (by omega) ⟨ro, rfl⟩ ⟨rF, #[], rcs, rfl⟩).mono ?_
      rintro e W3 ⟨rfl, hb3⟩
      rw [HKC.out]
      have hbb : Below W2.heap.size W2 W3 := below_then hHeld hb3
      clear hb3
      refine hK.out _ _ ?_ (fun hHeld' => ?_)
      · exact hbb
      clear hK K' hHeld hbb
      have hHeld := hHeld'
      clear hHeld'
      try simp only [Act.put, List.getElem_toArray, List.getElem_cons_zero, List.getElem_cons_succ, List.setIfInBounds_toArray, List.set_cons_zero, List.set_cons_succ]
      refine wpAnyZ_take (i := 10) (v := .bool false) [] rfl (by kernel_rfl) (by kernel_rfl) (by kernel_rfl) (by kernel_rfl) (fun _ _ _ h => h) (Or.inl ⟨by kernel_rfl, fun w' hSw => ?_⟩) hHeld ?_
      · have s0 := hSw
        clear hHeld hSw
        go_simp
      simp only [Act.put, List.getElem_toArray, List.getElem_cons_zero, List.getElem_cons_succ, List.setIfInBounds_toArray, List.set_cons_zero, List.set_cons_succ]
      refine wpAnyZ_take (i := 11) (v := .bool false) [] rfl (by kernel_rfl) (by kernel_rfl) (by kernel_rfl) (by kernel_rfl) (fun _ _ _ h => h) (Or.inl ⟨by kernel_rfl, fun w' hSw => ?_⟩) hHeld ?_
      · have s0 := hSw
        clear hHeld hSw
        go_simp
      simp only [Act.put, List.getElem_toArray, List.getElem_cons_zero, List.getElem_cons_succ, List.setIfInBounds_toArray, List.set_cons_zero, List.set_cons_succ]
      refine wpAnyZ_done (by kernel_rfl) ?_ _
      go_step
      go_step
      have HB3 : Hid (Below wr.heap.size wr W3) := Lib.hid (below_then HBr2.out hHeld)
      have HY3 : Hid (Below W1.heap.size W1 W3) := Lib.hid (below_then HY1.out hHeld)
      have HZ3 : Hid (W3.cell? ⟨Z, 2, none⟩ = some (.func (.func rF) #[] rcs) ∧ Z < W3.heap.size) := Lib.hid ⟨(hHeld.cell (p := ⟨Z, 2, none⟩) hZl).trans z2, Nat.lt_of_lt_of_le hZl hHeld.size⟩
      clear r3 hRl z0 z1 z2 hZl hHeld y0 y2 y3 y4 HR2 HRK
      have y1 : W3.cell? ⟨N, 1, none⟩ = some (.string yna) := (HY3.out.cell (p := ⟨N, 1, none⟩) hNl).trans y1
      have hNl : N < W3.heap.size := Nat.lt_of_lt_of_le hNl HY3.out.size
      have HR3 := Lib.hid (HRi.out.keep HB3.out HRi.out.lt)
      have HH3 := Lib.hid (HHi.out.keep HB3.out)
      have r6 : W3.cell? ⟨Rr, 6, none⟩ = some (.map (some hb)) := HR3.out.cell (i := 6) (by omega)
      have hRl : Rr < W3.heap.size := HR3.out.lt
      have HLB : Hid (∀ W, Below W3.heap.size W3 W → (Instr.lookup 90 (.map (some hb)) (.string yna) false).run Tryz.prog W = .ok (.bool false) W) := Lib.hid (fun W hbW => by
        have h := (HH3.out.keep hbW).look strK Tryz.underlying90 Tryz.underlying4 (by go_simp) (key := .string yna) (kl := strL yna) (WideMaps.keyOf_string_mk Tryz.underlying9 (by have := HSZ.out; unfold maxLen; omega)) (by trivial)
        rw [show inS (seen.map Lit.string) (strL yna) = false from by rw [Bool.eq_false_iff]; intro h2; exact HNS.out (inS_str.1 h2)] at h
        exact h)
      go_upto_region 7 with (fail)
      refine region_z (S := fun w' => Below W3.heap.size W3 w') [] (by kernel_rfl) (show Below W3.heap.size W3 W3.drew from below_drewN' W3) (fun hHeld => ?_)
      obtain ⟨wd, hwd⟩ : ∃ wd, wd = W3.drew := ⟨_, rfl⟩
      rw [← hwd] at hHeld ⊢
      clear hwd
      refine wpAnyZ_take (i := 0) (v := .pointer (some ⟨Rr, 0, none⟩)) [] rfl (by kernel_rfl) (by kernel_rfl) (by kernel_rfl) (by kernel_rfl) (fun _ _ _ h => h) (Or.inl ⟨by kernel_rfl, fun w' hSw => ?_⟩) hHeld ?_
      · have s0 := (hSw.cell (p := ⟨Rr, 6, none⟩) hRl).trans r6
        have s1 : Rr < w'.heap.size := Nat.lt_of_lt_of_le hRl hSw.size
        have s2 := (hSw.cell (p := ⟨N, 1, none⟩) hNl).trans y1
        have s3 : N < w'.heap.size := Nat.lt_of_lt_of_le hNl hSw.size
        have s4 : (Instr.lookup 90 (.map (some hb)) (.string yna) false).run Tryz.prog w' = .ok (.bool false) w' := HLB.out w' hSw
        clear hHeld hSw
        go_simp
      simp only [Act.put, List.getElem_toArray, List.getElem_cons_zero, List.getElem_cons_succ, List.setIfInBounds_toArray, List.set_cons_zero, List.set_cons_succ]
      refine wpAnyZ_take (i := 1) (v := .pointer (some ⟨Rr, 0, none⟩)) [] rfl (by kernel_rfl) (by kernel_rfl) (by kernel_rfl) (by kernel_rfl) (fun _ _ _ h => h) (Or.inl ⟨by kernel_rfl, fun w' hSw => ?_⟩) hHeld ?_
      · have s0 := (hSw.cell (p := ⟨Rr, 6, none⟩) hRl).trans r6
        have s1 : Rr < w'.heap.size := Nat.lt_of_lt_of_le hRl hSw.size
        have s2 := (hSw.cell (p := ⟨N, 1, none⟩) hNl).trans y1
        have s3 : N < w'.heap.size := Nat.lt_of_lt_of_le hNl hSw.size
        have s4 : (Instr.lookup 90 (.map (some hb)) (.string yna) false).run Tryz.prog w' = .ok (.bool false) w' := HLB.out w' hSw
        clear hHeld hSw
        go_simp
      simp only [Act.put, List.getElem_toArray, List.getElem_cons_zero, List.getElem_cons_succ, List.setIfInBounds_toArray, List.set_cons_zero, List.set_cons_succ]
      refine wpAnyZ_take (i := 2) (v := .pointer (some ⟨Rr, 6, none⟩)) [] rfl (by kernel_rfl) (by kernel_rfl) (by kernel_rfl) (by kernel_rfl) (fun _ _ _ h => h) (Or.inl ⟨by kernel_rfl, fun w' hSw => ?_⟩) hHeld ?_
      · have s0 := (hSw.cell (p := ⟨Rr, 6, none⟩) hRl).trans r6
        have s1 : Rr < w'.heap.size := Nat.lt_of_lt_of_le hRl hSw.size
        have s2 := (hSw.cell (p := ⟨N, 1, none⟩) hNl).trans y1
        have s3 : N < w'.heap.size := Nat.lt_of_lt_of_le hNl hSw.size
        have s4 : (Instr.lookup 90 (.map (some hb)) (.string yna) false).run Tryz.prog w' = .ok (.bool false) w' := HLB.out w' hSw
        clear hHeld hSw
        go_simp
      simp only [Act.put, List.getElem_toArray, List.getElem_cons_zero, List.getElem_cons_succ, List.setIfInBounds_toArray, List.set_cons_zero, List.set_cons_succ]
      refine wpAnyZ_take (i := 3) (v := .map (some hb)) [] rfl (by kernel_rfl) (by kernel_rfl) (by kernel_rfl) (by kernel_rfl) (fun _ _ _ h => h) (Or.inl ⟨by kernel_rfl, fun w' hSw => ?_⟩) hHeld ?_
      · have s0 := (hSw.cell (p := ⟨Rr, 6, none⟩) hRl).trans r6
        have s1 : Rr < w'.heap.size := Nat.lt_of_lt_of_le hRl hSw.size
        have s2 := (hSw.cell (p := ⟨N, 1, none⟩) hNl).trans y1
        have s3 : N < w'.heap.size := Nat.lt_of_lt_of_le hNl hSw.size
        have s4 : (Instr.lookup 90 (.map (some hb)) (.string yna) false).run Tryz.prog w' = .ok (.bool false) w' := HLB.out w' hSw
        clear hHeld hSw
        go_simp
      simp only [Act.put, List.getElem_toArray, List.getElem_cons_zero, List.getElem_cons_succ, List.setIfInBounds_toArray, List.set_cons_zero, List.set_cons_succ]
      refine wpAnyZ_take (i := 4) (v := .pointer (some ⟨N, 1, none⟩)) [] rfl (by kernel_rfl) (by kernel_rfl) (by kernel_rfl) (by kernel_rfl) (fun _ _ _ h => h) (Or.inl ⟨by kernel_rfl, fun w' hSw => ?_⟩) hHeld ?_
      · have s0 := (hSw.cell (p := ⟨Rr, 6, none⟩) hRl).trans r6
        have s1 : Rr < w'.heap.size := Nat.lt_of_lt_of_le hRl hSw.size
        have s2 := (hSw.cell (p := ⟨N, 1, none⟩) hNl).trans y1
        have s3 : N < w'.heap.size := Nat.lt_of_lt_of_le hNl hSw.size
        have s4 : (Instr.lookup 90 (.map (some hb)) (.string yna) false).run Tryz.prog w' = .ok (.bool false) w' := HLB.out w' hSw
        clear hHeld hSw
        go_simp
      simp only [Act.put, List.getElem_toArray, List.getElem_cons_zero, List.getElem_cons_succ, List.setIfInBounds_toArray, List.set_cons_zero, List.set_cons_succ]
      refine wpAnyZ_take (i := 5) (v := .string yna) [] rfl (by kernel_rfl) (by kernel_rfl) (by kernel_rfl) (by kernel_rfl) (fun _ _ _ h => h) (Or.inl ⟨by kernel_rfl, fun w' hSw => ?_⟩) hHeld ?_
      · have s0 := (hSw.cell (p := ⟨Rr, 6, none⟩) hRl).trans r6
        have s1 : Rr < w'.heap.size := Nat.lt_of_lt_of_le hRl hSw.size
        have s2 := (hSw.cell (p := ⟨N, 1, none⟩) hNl).trans y1
        have s3 : N < w'.heap.size := Nat.lt_of_lt_of_le hNl hSw.size
        have s4 : (Instr.lookup 90 (.map (some hb)) (.string yna) false).run Tryz.prog w' = .ok (.bool false) w' := HLB.out w' hSw
        clear hHeld hSw
        go_simp
      simp only [Act.put, List.getElem_toArray, List.getElem_cons_zero, List.getElem_cons_succ, List.setIfInBounds_toArray, List.set_cons_zero, List.set_cons_succ]
      refine wpAnyZ_take (i := 6) (v := .bool false) [] rfl (by kernel_rfl) (by kernel_rfl) (by kernel_rfl) (by kernel_rfl) (fun _ _ _ h => h) (Or.inl ⟨by kernel_rfl, fun w' hSw => ?_⟩) hHeld ?_
      · have s0 := (hSw.cell (p := ⟨Rr, 6, none⟩) hRl).trans r6
        have s1 : Rr < w'.heap.size := Nat.lt_of_lt_of_le hRl hSw.size
        have s2 := (hSw.cell (p := ⟨N, 1, none⟩) hNl).trans y1
        have s3 : N < w'.heap.size := Nat.lt_of_lt_of_le hNl hSw.size
        have s4 : (Instr.lookup 90 (.map (some hb)) (.string yna) false).run Tryz.prog w' = .ok (.bool false) w' := HLB.out w' hSw
        clear hHeld hSw
        go_simp
      simp only [Act.put, List.getElem_toArray, List.getElem_cons_zero, List.getElem_cons_succ, List.setIfInBounds_toArray, List.set_cons_zero, List.set_cons_succ]
      refine wpAnyZ_done (by kernel_rfl) ?_ _
      go_step
      go_step
      obtain ⟨W4, hW4⟩ : ∃ W, W = wd := ⟨_, rfl⟩
      rw [← hW4] at hHeld ⊢
      clear hW4
      have y1 : W4.cell? ⟨N, 1, none⟩ = some (.string yna) := (hHeld.cell (p := ⟨N, 1, none⟩) hNl).trans y1
      have hNl : N < W4.heap.size := Nat.lt_of_lt_of_le hNl hHeld.size
      have r6 : W4.cell? ⟨Rr, 6, none⟩ = some (.map (some hb)) := (hHeld.cell (p := ⟨Rr, 6, none⟩) hRl).trans r6
      have hRl : Rr < W4.heap.size := Nat.lt_of_lt_of_le hRl hHeld.size
      have HH4 := Lib.hid (HH3.out.keep hHeld)
      have HB4 : Hid (Below wr.heap.size wr W4) := Lib.hid (below_then HB3.out hHeld)
      have HY4 : Hid (Below W1.heap.size W1 W4) := Lib.hid (below_then HY3.out hHeld)
      have HZ4 : Hid (W4.cell? ⟨Z, 2, none⟩ = some (.func (.func rF) #[] rcs) ∧ Z < W4.heap.size) := Lib.hid ⟨(hHeld.cell (p := ⟨Z, 2, none⟩) HZ3.out.2).trans HZ3.out.1, Nat.lt_of_lt_of_le HZ3.out.2 hHeld.size⟩
      clear hHeld HLB HH3 HR3 HB3 HY3 HZ3
      go_upto_region 9 with (fail)
      refine region_z (S := fun w' => Below W4.heap.size W4 w') [6] (by kernel_rfl) (show Below W4.heap.size W4 W4.drew from below_drewN' W4) (fun hHeld => ?_)
      obtain ⟨wd, hwd⟩ : ∃ wd, wd = W4.drew := ⟨_, rfl⟩
      rw [← hwd] at hHeld ⊢
      clear hwd
      refine wpAnyZ_take (i := 0) (v := .pointer (some ⟨Rr, 0, none⟩)) [1, 2, 3, 6] rfl (by kernel_rfl) (by kernel_rfl) (by kernel_rfl) (by kernel_rfl) (fun _ _ _ h => h) (Or.inl ⟨by kernel_rfl, fun w' hSw => ?_⟩) hHeld ?_
      · have s0 := (hSw.cell (p := ⟨Rr, 6, none⟩) hRl).trans r6
        have s1 : Rr < w'.heap.size := Nat.lt_of_lt_of_le hRl hSw.size
        have s2 := (hSw.cell (p := ⟨N, 1, none⟩) hNl).trans y1
        have s3 : N < w'.heap.size := Nat.lt_of_lt_of_le hNl hSw.size
        clear hHeld hSw
        go_simp
      simp only [Act.put, List.getElem_toArray, List.getElem_cons_zero, List.getElem_cons_succ, List.setIfInBounds_toArray, List.set_cons_zero, List.set_cons_succ]
      refine wpAnyZ_take (i := 1) (v := .pointer (some ⟨Rr, 0, none⟩)) [2, 3, 6] rfl (by kernel_rfl) (by kernel_rfl) (by kernel_rfl) (by kernel_rfl) (fun _ _ _ h => h) (Or.inl ⟨by kernel_rfl, fun w' hSw => ?_⟩) hHeld ?_
      · have s0 := (hSw.cell (p := ⟨Rr, 6, none⟩) hRl).trans r6
        have s1 : Rr < w'.heap.size := Nat.lt_of_lt_of_le hRl hSw.size
        have s2 := (hSw.cell (p := ⟨N, 1, none⟩) hNl).trans y1
        have s3 : N < w'.heap.size := Nat.lt_of_lt_of_le hNl hSw.size
        clear hHeld hSw
        go_simp
      simp only [Act.put, List.getElem_toArray, List.getElem_cons_zero, List.getElem_cons_succ, List.setIfInBounds_toArray, List.set_cons_zero, List.set_cons_succ]
      refine wpAnyZ_take (i := 2) (v := .pointer (some ⟨Rr, 6, none⟩)) [3, 6] rfl (by kernel_rfl) (by kernel_rfl) (by kernel_rfl) (by kernel_rfl) (fun _ _ _ h => h) (Or.inl ⟨by kernel_rfl, fun w' hSw => ?_⟩) hHeld ?_
      · have s0 := (hSw.cell (p := ⟨Rr, 6, none⟩) hRl).trans r6
        have s1 : Rr < w'.heap.size := Nat.lt_of_lt_of_le hRl hSw.size
        have s2 := (hSw.cell (p := ⟨N, 1, none⟩) hNl).trans y1
        have s3 : N < w'.heap.size := Nat.lt_of_lt_of_le hNl hSw.size
        clear hHeld hSw
        go_simp
      simp only [Act.put, List.getElem_toArray, List.getElem_cons_zero, List.getElem_cons_succ, List.setIfInBounds_toArray, List.set_cons_zero, List.set_cons_succ]
      refine wpAnyZ_take (i := 3) (v := .map (some hb)) [6] rfl (by kernel_rfl) (by kernel_rfl) (by kernel_rfl) (by kernel_rfl) (fun _ _ _ h => h) (Or.inl ⟨by kernel_rfl, fun w' hSw => ?_⟩) hHeld ?_
      · have s0 := (hSw.cell (p := ⟨Rr, 6, none⟩) hRl).trans r6
        have s1 : Rr < w'.heap.size := Nat.lt_of_lt_of_le hRl hSw.size
        have s2 := (hSw.cell (p := ⟨N, 1, none⟩) hNl).trans y1
        have s3 : N < w'.heap.size := Nat.lt_of_lt_of_le hNl hSw.size
        clear hHeld hSw
        go_simp
      simp only [Act.put, List.getElem_toArray, List.getElem_cons_zero, List.getElem_cons_succ, List.setIfInBounds_toArray, List.set_cons_zero, List.set_cons_succ]
      refine wpAnyZ_take (i := 4) (v := .pointer (some ⟨N, 1, none⟩)) [5, 6] rfl (by kernel_rfl) (by kernel_rfl) (by kernel_rfl) (by kernel_rfl) (fun _ _ _ h => h) (Or.inl ⟨by kernel_rfl, fun w' hSw => ?_⟩) hHeld ?_
      · have s0 := (hSw.cell (p := ⟨Rr, 6, none⟩) hRl).trans r6
        have s1 : Rr < w'.heap.size := Nat.lt_of_lt_of_le hRl hSw.size
        have s2 := (hSw.cell (p := ⟨N, 1, none⟩) hNl).trans y1
        have s3 : N < w'.heap.size := Nat.lt_of_lt_of_le hNl hSw.size
        clear hHeld hSw
        go_simp
      simp only [Act.put, List.getElem_toArray, List.getElem_cons_zero, List.getElem_cons_succ, List.setIfInBounds_toArray, List.set_cons_zero, List.set_cons_succ]
      refine wpAnyZ_take (i := 5) (v := .string yna) [6] rfl (by kernel_rfl) (by kernel_rfl) (by kernel_rfl) (by kernel_rfl) (fun _ _ _ h => h) (Or.inl ⟨by kernel_rfl, fun w' hSw => ?_⟩) hHeld ?_
      · have s0 := (hSw.cell (p := ⟨Rr, 6, none⟩) hRl).trans r6
        have s1 : Rr < w'.heap.size := Nat.lt_of_lt_of_le hRl hSw.size
        have s2 := (hSw.cell (p := ⟨N, 1, none⟩) hNl).trans y1
        have s3 : N < w'.heap.size := Nat.lt_of_lt_of_le hNl hSw.size
        clear hHeld hSw
        go_simp
      simp only [Act.put, List.getElem_toArray, List.getElem_cons_zero, List.getElem_cons_succ, List.setIfInBounds_toArray, List.set_cons_zero, List.set_cons_succ]
      obtain ⟨W5, hpu, HS5, HM5⟩ := (HH4.out.keep hHeld).put strK Tryz.underlying90 Tryz.underlying4 (by omega) (key := .string yna) (kl := strL yna) (WideMaps.keyOf_string_mk Tryz.underlying9 (by have := HSZ.out; unfold maxLen; omega)) (by trivial)
      refine wpAnyZ_last (i := 6) (by kernel_rfl) rfl (by kernel_rfl) (fun K' hK => ?_)
      go_simp
      refine hK.out _ _ ?_
      clear hK K' hpu
      try simp only [Act.put, List.getElem_toArray, List.getElem_cons_zero, List.getElem_cons_succ, List.setIfInBounds_toArray, List.set_cons_zero, List.set_cons_succ]
      refine wpAnyZ_done (by kernel_rfl) ?_ _
      go_step
      go_step
      have HM5r : Hid (Mod (fun j => j = Rr ∨ j = hb) w W5) := Lib.hid (((HMi.out.trans (modB HB4.out)).trans (modB hHeld)).trans (HM5.out.mono (fun j _ e => .inr e)))
      have HBd : Hid (Below wr.heap.size wr wd) := Lib.hid (below_then HB4.out hHeld)
      have HYd : Hid (Below W1.heap.size W1 wd) := Lib.hid (below_then HY4.out hHeld)
      have hbN : hb < wr.heap.size := HHi.out.lt
      have HNb : Hid (N ≠ hb ∧ Z ≠ hb ∧ Rr ≠ hb) := Lib.hid ⟨by have := HNW.out; omega, by have := HZG.out; omega, HX.out.2.2.2.2.2.2.2.2.1⟩
      have HR5 : Hid (RdgM W5 Rr Bd hI hb si) := Lib.hid ((HRi.out.keep HBd.out HRi.out.lt).mod HM5.out HNb.out.2.2)
      have HN5 : Hid (Own W5 N 49 5 (nodeF 3 yna ynn ypo (.slice ya yln yc))) := Lib.hid ((HNO.out.keep HYd.out HNO.out.lt).mod HM5.out HNb.out.1)
      have z2 : W5.cell? ⟨Z, 2, none⟩ = some (.func (.func rF) #[] rcs) := (HM5.out.cell (p := ⟨Z, 2, none⟩) (Nat.lt_of_lt_of_le HZ4.out.2 hHeld.size) HNb.out.2.1).trans ((hHeld.cell (p := ⟨Z, 2, none⟩) HZ4.out.2).trans HZ4.out.1)
      have hZl : Z < W5.heap.size := World.block_lt_of_cell? _ _ z2
      have HS5b : Hid (SetM Tryz.prog 9 4 W5 hb (i + 1) ((seen ++ [yna.data.toList]).map Lit.string)) := Lib.hid (by rw [List.map_append, List.map_singleton]; exact HS5.out)
      clear y1 hNl r6 hRl hHeld hbN HS5
      have y0 : W5.cell? ⟨N, 0, none⟩ = some (.int .i64 3) := HN5.out.cell (i := 0) (by omega)
      have y1 : W5.cell? ⟨N, 1, none⟩ = some (.string yna) := HN5.out.cell (i := 1) (by omega)
      have y2 : W5.cell? ⟨N, 2, none⟩ = some (.int .i64 ynn) := HN5.out.cell (i := 2) (by omega)
      have y3 : W5.cell? ⟨N, 3, none⟩ = some (.int .i64 (ypo : Nat)) := HN5.out.cell (i := 3) (by omega)
      have y4 : W5.cell? ⟨N, 4, none⟩ = some (.slice ya yln yc) := HN5.out.cell (i := 4) (by omega)
      have hNl : N < W5.heap.size := HN5.out.lt
      have HC5 := Lib.hid (HCL.out ⟨3, yna, ynn, ypo, ya, yln, yc⟩ hI l1 h1' Rr Bd hb Tb nt W5 ⟨(okNd_firm okLf_firm).calm HQ4.out (Calm.of (((modB HBd.out) : Mod (fun j => j = hb) wr wd).trans HM5.out) (fun j h1 h2 e => by have := HX.out; have := HQH.out; omega)), by have := HM5r.out.size; have := HX.out; have := HQH.out; omega, HR5.out, (HM5r.out.cell (p := ⟨Bd, 7, none⟩) (World.block_lt_of_cell? _ _ HB7.out) (by have := HX.out; show ¬ (Bd = Rr ∨ Bd = hb); omega)).trans HB7.out, HTH.out.mod HM5r.out (by have := HX.out; omega), (HM5r.out.cell (p := ⟨Sa, 0, none⟩) (World.block_lt_of_cell? _ _ HS.out.1) (by have := HX.out; show ¬ (Sa = Rr ∨ Sa = hb); omega)).trans HS.out.1, (HM5r.out.cell (p := ⟨Sa, 1, none⟩) (World.block_lt_of_cell? _ _ HS.out.2.1) (by have := HX.out; show ¬ (Sa = Rr ∨ Sa = hb); omega)).trans HS.out.2.1, (HM5r.out.cell (p := ⟨Sc, 0, none⟩) (World.block_lt_of_cell? _ _ HS.out.2.2.1) (by have := HX.out; show ¬ (Sc = Rr ∨ Sc = hb); omega)).trans HS.out.2.2.1, (HM5r.out.cell (p := ⟨Sc, 1, none⟩) (World.block_lt_of_cell? _ _ HS.out.2.2.2) (by have := HX.out; show ¬ (Sc = Rr ∨ Sc = hb); omega)).trans HS.out.2.2.2⟩)
      rw [show nhV ⟨3, yna, ynn, ypo, ya, yln, yc⟩ = .agg #[.int .i64 3, .string yna, .int .i64 ynn, .int .i64 (ypo : Nat), .slice ya yln yc] from rfl] at HC5
      go_wp2_with fail
      refine HC5.out.mono ?_
      rintro e W6 ⟨rfl, hr6, hm6⟩
      have HR6 := Lib.hid hr6
      have HM6 : Hid (Mod (fun j => j = Rr ∨ j = hb) w W6) := Lib.hid (HM5r.out.trans (hm6.mono (fun j _ e => .inl e)))
      have HS6 := Lib.hid (HS5b.out.modA hm6 (fun e => HNb.out.2.2 e.symm))
      clear hr6 hm6 HC5
      go_wp2_with fail
      go_roundg (hln - (i + 1))
      case measure => omega
      case rel => exact ⟨i + 1, s', _, by go_num, by omega, by omega, HR6, HS6, HM6, HU5⟩
    · have hltz : ¬ (i : Int) < (hln : Int) := by omega
      have HE : Hid (si = sF ∧ seen = seenF) := Lib.hid (by
        have h := HRUNi.out
        rw [List.drop_of_length_le (by have := HXL.out; omega)] at h
        unfold runA at h
        injection h with h
        injection h with h1 h2
        exact ⟨h1, h2⟩)
      go_wp2_with fail
      go_end0
      exact ⟨rfl, by rw [← HE.out.1]; exact HRi.out, ⟨i, by rw [← HE.out.2]; exact HHi.out⟩, HMi.out⟩
end Go.Proofs.YtpkonifeieepfaaGreat
