/-
Two controllers: what may be alive.
-/
import Derived.Test.YtkbbapefgifagaaGreatDoorCTwZ2
namespace Go.Proofs.YtkbbapefgifagaaGreatDoor
open Go.RowKit
set_option linter.unusedVariables false
set_option linter.unusedSimpArgs false
set_option maxRecDepth 100000 in
set_option maxHeartbeats 8000000 in
theorem r7Alive_low (H n nL cL bC oC c4 : Nat) (aL : Option Addr) (ls : List Lse) (tick : Int) (w : World) (k9 : w.cell? ⟨H, 9, none⟩ = some (.slice aL nL cL)) (k7 : w.cell? ⟨H, 7, none⟩ = some (.slice (some ⟨bC, oC, none⟩) n c4)) (HX : Hid (Rd 5 encLse w aL ls)) (HNL : Hid (ls.length = nL)) (HO : Hid (LsOk ls)) (HFT : Hid (∀ x ∈ ls, x.frm ≤ tick)) (HCG : Hid (∀ x ∈ ls, x.chg < (n : Int))) (hn : n ≤ 4) (ht0 : 0 ≤ tick) (ht1 : tick ≤ 100000) :
    Calls Tryz.prog 6 #[.pointer (some ⟨H, 0, none⟩), .int .i64 tick] w fun e w' => e = .returned (.int .i64 (alvS n tick ls)) ∧ Below w.heap.size w w' := by
  have HAB : Hid (∀ i, 0 ≤ (alvF (exL tick ls)) i ∧ (alvF (exL tick ls)) i ≤ 80) := Lib.hid (alvF_bd (fun x hx => HO.out.ok x (List.mem_filter.1 hx).1))
  go_enter Tryz.func6, Tryz.ntmps6
  go_upto_region 1 with (fail)
  refine region_z (S := fun w' => Below w.heap.size w w') [] (by kernel_rfl) ((Below.refl _ _).drew) (fun hHeld => ?_)
  refine zt (i := 0) (v := .pointer (some ⟨H, 0, none⟩)) [] (fun w' hSw => ?_) hHeld ?_
  · clear hHeld hSw
    go_simp
  simp only [Act.put, zl0, zl1, zl2, zl3, zl4, zl5]
  refine zt (i := 1) (v := .pointer (some ⟨H, 0, none⟩)) [] (fun w' hSw => ?_) hHeld ?_
  · clear hHeld hSw
    go_simp
  simp only [Act.put, zl0, zl1, zl2, zl3, zl4, zl5]
  refine zt (i := 2) (v := .pointer (some ⟨H, 9, none⟩)) [] (fun w' hSw => ?_) hHeld ?_
  · clear hHeld hSw
    go_simp
  simp only [Act.put, zl0, zl1, zl2, zl3, zl4, zl5]
  refine zt (i := 3) (v := .slice aL nL cL) [] (fun w' hSw => ?_) hHeld ?_
  · have s9' := (hSw.cell (zb k9)).trans k9
    have ls9 := zb s9'
    dsimp only at ls9
    clear hHeld hSw
    go_simp
  simp only [Act.put, zl0, zl1, zl2, zl3, zl4, zl5]
  refine zt (i := 4) (v := .pointer (some ⟨H, 0, none⟩)) [] (fun w' hSw => ?_) hHeld ?_
  · clear hHeld hSw
    go_simp
  simp only [Act.put, zl0, zl1, zl2, zl3, zl4, zl5]
  refine zt (i := 5) (v := .pointer (some ⟨H, 0, none⟩)) [] (fun w' hSw => ?_) hHeld ?_
  · clear hHeld hSw
    go_simp
  simp only [Act.put, zl0, zl1, zl2, zl3, zl4, zl5]
  refine zt (i := 6) (v := .pointer (some ⟨H, 4, none⟩)) [] (fun w' hSw => ?_) hHeld ?_
  · clear hHeld hSw
    go_simp
  simp only [Act.put, zl0, zl1, zl2, zl3, zl4, zl5]
  refine zt (i := 7) (v := .pointer (some ⟨H, 7, none⟩)) [] (fun w' hSw => ?_) hHeld ?_
  · clear hHeld hSw
    go_simp
  simp only [Act.put, zl0, zl1, zl2, zl3, zl4, zl5]
  refine zt (i := 8) (v := .slice (some ⟨bC, oC, none⟩) n c4) [] (fun w' hSw => ?_) hHeld ?_
  · have s7' := (hSw.cell (zb k7)).trans k7
    have ls7 := zb s7'
    dsimp only at ls7
    clear hHeld hSw
    go_simp
  simp only [Act.put, zl0, zl1, zl2, zl3, zl4, zl5]
  refine zt (i := 9) (v := .int .i64 (n : Nat)) [] (fun w' hSw => ?_) hHeld ?_
  · clear hHeld hSw
    go_simp
  simp only [Act.put, zl0, zl1, zl2, zl3, zl4, zl5]
  refine zt (i := 10) (v := .int .i64 tick) [] (fun w' hSw => ?_) hHeld ?_
  · clear hHeld hSw
    go_simp
  simp only [Act.put, zl0, zl1, zl2, zl3, zl4, zl5]
  refine zo 11 (fun K' hK => ?_)
  go_simp
  refine (leAlive_ok aL nL cL ls n tick _ (Lib.hid (HX.out.keep hHeld)) HNL HO HFT HCG (by omega) ht0 (by omega)).mono ?_
  rintro e w2 ⟨A, rfl, hA, hAO, hbk⟩
  have HAO := Lib.hid hAO
  refine hK.out _ _ ?_ (fun hHeld' => ?_)
  · exact hHeld.trans (hbk.mono hHeld.size)
  clear hK K' hHeld hbk hA hAO
  have hHeld := hHeld'
  clear hHeld'
  try simp only [Act.put, zl0, zl1, zl2, zl3, zl4, zl5]
  refine zt (i := 12) (v := .tuple #[.slice (some ⟨A, 0, none⟩) n n, .int .i64 0]) [] (fun w' hSw => ?_) hHeld ?_
  · clear hHeld hSw
    go_simp
  simp only [Act.put, zl0, zl1, zl2, zl3, zl4, zl5]
  refine zt (i := 13) (v := .slice (some ⟨A, 0, none⟩) n n) [] (fun w' hSw => ?_) hHeld ?_
  · clear hHeld hSw
    go_simp
  simp only [Act.put, zl0, zl1, zl2, zl3, zl4, zl5]
  refine zt (i := 14) (v := .int .i64 0) [] (fun w' hSw => ?_) hHeld ?_
  · clear hHeld hSw
    go_simp
  simp only [Act.put, zl0, zl1, zl2, zl3, zl4, zl5]
  refine zt (i := 15) (v := .slice (some ⟨A, 0, none⟩) n n) [] (fun w' hSw => ?_) hHeld ?_
  · clear hHeld hSw
    go_simp
  simp only [Act.put, zl0, zl1, zl2, zl3, zl4, zl5]
  refine zt (i := 16) (v := .int .i64 0) [] (fun w' hSw => ?_) hHeld ?_
  · clear hHeld hSw
    go_simp
  simp only [Act.put, zl0, zl1, zl2, zl3, zl4, zl5]
  refine wpAnyZ_done (by kernel_rfl) ?_ _
  have HB := Lib.hid hHeld
  clear hHeld k9 k7
  obtain ⟨f, hf⟩ : ∃ f, f = alvF (exL tick ls) := ⟨_, rfl⟩
  have HV : Hid (alvS n tick ls = sumN f n) := Lib.hid (by rw [hf]; rfl)
  rw [← hf] at HAO HAB
  clear hf
  have HSB : Hid (∀ k, k ≤ n → 0 ≤ sumN f k ∧ sumN f k ≤ 80 * k) := Lib.hid (sumN_bd (fun i _ => HAB.out i))
  go_wp2_with fail
  go_loopg [7, 27] (n + 1) (fun g1 v7 v27 wr => ∃ k : Nat, v7 = .int .i64 (sumN f k) ∧ v27 = .int .i64 (k : Nat) ∧ k ≤ n ∧ n - k ≤ g1 ∧ wr = w2)
  case atStart => exact ⟨0, by simp [sumN], by go_num, by omega, by omega, rfl⟩
  case round =>
    obtain ⟨k, rfl, rfl, hk, hg1, rfl⟩ := hrel
    by_cases hlt : k < n
    · have hltz : (k : Int) < (n : Int) := by omega
      have c0 := HAO.out.cell hlt
      have lA := HAO.out.lt
      have h1 := HSB.out k (by omega)
      have h2 := HAB.out k
      have ws : IntKind.i64.wrap (sumN f k + f k) = sumN f k + f k := IntWalk.i64_in _ (by omega)
      have HS : Hid (sumN f (k + 1) = sumN f k + f k) := Lib.hid rfl
      clear h1 h2
      go_wp2_with fail
      go_roundg (n - (k + 1))
      case measure => omega
      case rel => exact ⟨k + 1, by rw [HS.out], by go_num, by omega, by omega, rfl⟩
    · have hltz : ¬ (k : Int) < (n : Int) := by omega
      have hkn : k = n := by omega
      subst hkn
      go_wp2_with fail
      go_ret
      exact ⟨by rw [HV.out]; rfl, HB.out⟩
theorem r7Alive_ok {B : Nat} {M N : Nat → Prop} {H n : Nat} {x : Hf} {A : HfAd} {tick : Int} {r : Nat} {w : World} (ho : Own w H 44 15 (hfF (hfL n x A))) (hx : HfX B M N H n x A w) (ok : HfOk n tick r x) (hn : n ≤ 4) (ht0 : 0 ≤ tick) (ht1 : tick ≤ 100000) :
    Calls Tryz.prog 6 #[.pointer (some ⟨H, 0, none⟩), .int .i64 tick] w fun e w' => e = .returned (.int .i64 (alvS n tick x.ls)) ∧ Below w.heap.size w w' :=
  r7Alive_low H n A.nL A.cL A.bC A.oC A.c4 A.aL x.ls tick w (ho.cell (i := 9) (by omega)) (ho.cell (i := 7) (by omega)) (Lib.hid hx.ls) (Lib.hid hx.ll) (Lib.hid ok.ls) (Lib.hid ok.fr) (Lib.hid ok.cg) hn ht0 ht1
end Go.Proofs.YtkbbapefgifagaaGreatDoor
