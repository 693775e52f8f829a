/-
Several texts in one: PsI, PsJ, PsP, PsQ, PsR.
-/
import Derived.Test.YtoekpdnpncgeeaaGreatGPsE
import Derived.Test.YtoekpdnpncgeeaaGreatGBase
/-
The parser: what ends items.
-/
namespace Go.Proofs.YtoekpdnpncgeeaaGreat
open Go.RowKit
set_option linter.unusedVariables false
set_option linter.unusedSimpArgs false
theorem punP_some {toks : List Tok} {x : List UInt8} {p : Nat} (h : punP toks x p = true) : ∃ t, toks[p]? = some t ∧ t.kind = 3 ∧ t.text.toList = x := by
  unfold punP at h
  cases ht : toks[p]? with
  | none => rw [ht] at h; cases h
  | some t => rw [ht] at h; simp at h; exact ⟨t, rfl, h.1, h.2⟩
set_option maxRecDepth 100000 in
set_option maxHeartbeats 8000000 in
theorem paItemF3_ok {Y : Type} (ok : World → Nat → Nat → NH → Y → Prop) (R X : Nat) (aT : Option Addr) (nT cT : Nat) (toks : List Tok) (len p : Nat) (w : World) (HM : Hid (PaM w R aT nT cT toks len p)) (hX : w.cell? ⟨X, 0, none⟩ = some (.pointer (some ⟨R, 0, none⟩))) (hXR : X ≠ R) (hp : punP toks [59] p = true) :
    Calls Tryz.prog 98 #[.pointer (some ⟨X, 0, none⟩)] w (KidPost ok w R aT nT cT toks len (p + 1) []) := by
  obtain ⟨t, ht, hk, hx⟩ := punP_some hp
  have HT := Lib.hid ht
  have HK : Hid (t.kind = 3 ∧ t.text.toList = [59]) := Lib.hid ⟨hk, hx⟩
  have hXl : X < w.heap.size := World.block_lt_of_cell? _ _ hX
  clear ht hk hx hp
  go_enter Tryz.func98, Tryz.ntmps98
  go_wp2_with fail
  refine region_z (S := fun w' => w'.cell? ⟨X, 0, none⟩ = some (.pointer (some ⟨R, 0, none⟩))) [] (by kernel_rfl) hX (fun hHeld => ?_)
  refine wpAnyZ_take (i := 0) (v := .pointer (some ⟨R, 0, none⟩)) [2] rfl (by kernel_rfl) (by kernel_rfl) (by kernel_rfl) (by kernel_rfl) (fun _ _ _ h => h) (Or.inl ⟨by kernel_rfl, fun w' hSw => ?_⟩) hHeld ?_
  · have s0 := hSw
    clear hHeld hSw
    go_simp
  simp only [Act.put, List.getElem_toArray, List.getElem_cons_zero, List.getElem_cons_succ, List.setIfInBounds_toArray, List.set_cons_zero, List.set_cons_succ]
  refine wpAnyZ_one (i := 1) (by kernel_rfl) rfl (fun K' hK => ?_)
  go_simp
  refine (paPunct_any ⟨#[59]⟩ w.drew).mono ?_
  rintro e w1 ⟨rfl, hw1⟩
  have hb1 : Below w.heap.size w w1 := by rw [hw1]; exact ((below_drew w).alloc (Nat.le_refl _) _)
  obtain ⟨B, hB⟩ : ∃ B, B = w.heap.size := ⟨_, rfl⟩
  have hc1 : w1.cell? ⟨B, 0, none⟩ = some (.string ⟨#[59]⟩) := by rw [hw1, hB]; go_simp
  have hl1 : B < w1.heap.size := by rw [hw1, hB]; simp
  have HM1 := Lib.hid (HM.out.keep hb1)
  have x1 : w1.cell? ⟨X, 0, none⟩ = some (.pointer (some ⟨R, 0, none⟩)) := (hb1.cell (p := ⟨X, 0, none⟩) hXl).trans hX
  have HMo1 : Hid (Mod (fun j => j = R) w w1) := Lib.hid (modB hb1)
  try rw [show w.drew.heap.size = w.heap.size from rfl]
  rw [← hB]
  clear hw1 hb1 hB
  refine hK.out _ _ ?_ (fun hHeld' => ?_)
  · exact x1
  clear hK K' hHeld
  have hHeld := hHeld'
  clear hHeld'
  try simp only [Act.put, List.getElem_toArray, List.getElem_cons_zero, List.getElem_cons_succ, List.setIfInBounds_toArray, List.set_cons_zero, List.set_cons_succ]
  refine wpAnyZ_one (i := 2) (by kernel_rfl) rfl (fun K' hK => ?_)
  go_simp
  refine (paTake_any R aT nT cT toks len p 114 (.pointer (some ⟨B, 0, none⟩)) t w1 HM1 HT.out (by rw [HK.out.1]; omega) cf_punct1 (Lib.hid (fun W hbW => by
    refine (paPunct1_any t B ⟨#[59]⟩ W (Nat.lt_of_lt_of_le hl1 hbW.size) ((hbW.cell (p := ⟨B, 0, none⟩) hl1).trans hc1)).mono ?_
    rintro e w' ⟨rfl, hb⟩
    refine ⟨?_, hb⟩
    rw [HK.out.1, HK.out.2, show (⟨#[59]⟩ : ByteArray).toList = [59] by kernel_rfl]
    rfl))).mono ?_
  rintro e w2 ⟨rfl, hM2, hmo2⟩
  have HM2 := Lib.hid hM2
  have HMo2 : Hid (Mod (fun j => j = R) w w2) := Lib.hid (HMo1.out.trans hmo2)
  have x2 : w2.cell? ⟨X, 0, none⟩ = some (.pointer (some ⟨R, 0, none⟩)) := (hmo2.cell (p := ⟨X, 0, none⟩) (World.block_lt_of_cell? _ _ x1) (by show X ≠ R; exact hXR)).trans x1
  clear hM2 hmo2
  refine hK.out _ _ ?_ (fun hHeld' => ?_)
  · exact x2
  clear hK K' hHeld
  have hHeld := hHeld'
  clear hHeld'
  try simp only [Act.put, List.getElem_toArray, List.getElem_cons_zero, List.getElem_cons_succ, List.setIfInBounds_toArray, List.set_cons_zero, List.set_cons_succ]
  refine wpAnyZ_done (by kernel_rfl) ?_ _
  go_step
  go_step
  go_wp2_with fail
  go_ret
  exact ⟨none, 0, 0, [], rfl, GrL.nil _ _, HM2.out, HMo2.out⟩
theorem cf_paItemF3 (args : Array Value) (W : World) : (callFunc 98 args).run Tryz.prog W = .ok (.enter 98 args) W := by go_simp
set_option maxRecDepth 100000 in
set_option maxHeartbeats 8000000 in
theorem paItemF2_ok {Y : Type} (ok : World → Nat → Nat → NH → Y → Prop) (R X : Nat) (aT : Option Addr) (nT cT : Nat) (toks : List Tok) (len p : Nat) (w : World) (HM : Hid (PaM w R aT nT cT toks len p)) (hX : w.cell? ⟨X, 0, none⟩ = some (.pointer (some ⟨R, 0, none⟩))) (hXR : X ≠ R) (hp : punP toks [123] p = true) :
    Calls Tryz.prog 94 #[.pointer (some ⟨X, 0, none⟩)] w (KidPost ok w R aT nT cT toks len (p + 1) []) := by
  obtain ⟨t, ht, hk, hx⟩ := punP_some hp
  have HT := Lib.hid ht
  have HK : Hid (t.kind = 3 ∧ t.text.toList = [123]) := Lib.hid ⟨hk, hx⟩
  have hXl : X < w.heap.size := World.block_lt_of_cell? _ _ hX
  clear ht hk hx hp
  go_enter Tryz.func94, Tryz.ntmps94
  go_wp2_with fail
  refine region_z (S := fun w' => w'.cell? ⟨X, 0, none⟩ = some (.pointer (some ⟨R, 0, none⟩))) [] (by kernel_rfl) hX (fun hHeld => ?_)
  refine wpAnyZ_take (i := 0) (v := .pointer (some ⟨R, 0, none⟩)) [2] rfl (by kernel_rfl) (by kernel_rfl) (by kernel_rfl) (by kernel_rfl) (fun _ _ _ h => h) (Or.inl ⟨by kernel_rfl, fun w' hSw => ?_⟩) hHeld ?_
  · have s0 := hSw
    clear hHeld hSw
    go_simp
  simp only [Act.put, List.getElem_toArray, List.getElem_cons_zero, List.getElem_cons_succ, List.setIfInBounds_toArray, List.set_cons_zero, List.set_cons_succ]
  refine wpAnyZ_one (i := 1) (by kernel_rfl) rfl (fun K' hK => ?_)
  go_simp
  refine (paPunct_any ⟨#[123]⟩ w.drew).mono ?_
  rintro e w1 ⟨rfl, hw1⟩
  have hb1 : Below w.heap.size w w1 := by rw [hw1]; exact ((below_drew w).alloc (Nat.le_refl _) _)
  obtain ⟨B, hB⟩ : ∃ B, B = w.heap.size := ⟨_, rfl⟩
  have hc1 : w1.cell? ⟨B, 0, none⟩ = some (.string ⟨#[123]⟩) := by rw [hw1, hB]; go_simp
  have hl1 : B < w1.heap.size := by rw [hw1, hB]; simp
  have HM1 := Lib.hid (HM.out.keep hb1)
  have x1 : w1.cell? ⟨X, 0, none⟩ = some (.pointer (some ⟨R, 0, none⟩)) := (hb1.cell (p := ⟨X, 0, none⟩) hXl).trans hX
  have HMo1 : Hid (Mod (fun j => j = R) w w1) := Lib.hid (modB hb1)
  try rw [show w.drew.heap.size = w.heap.size from rfl]
  rw [← hB]
  clear hw1 hb1 hB
  refine hK.out _ _ ?_ (fun hHeld' => ?_)
  · exact x1
  clear hK K' hHeld
  have hHeld := hHeld'
  clear hHeld'
  try simp only [Act.put, List.getElem_toArray, List.getElem_cons_zero, List.getElem_cons_succ, List.setIfInBounds_toArray, List.set_cons_zero, List.set_cons_succ]
  refine wpAnyZ_one (i := 2) (by kernel_rfl) rfl (fun K' hK => ?_)
  go_simp
  refine (paTake_any R aT nT cT toks len p 114 (.pointer (some ⟨B, 0, none⟩)) t w1 HM1 HT.out (by rw [HK.out.1]; omega) cf_punct1 (Lib.hid (fun W hbW => by
    refine (paPunct1_any t B ⟨#[123]⟩ W (Nat.lt_of_lt_of_le hl1 hbW.size) ((hbW.cell (p := ⟨B, 0, none⟩) hl1).trans hc1)).mono ?_
    rintro e w' ⟨rfl, hb⟩
    refine ⟨?_, hb⟩
    rw [HK.out.1, HK.out.2, show (⟨#[123]⟩ : ByteArray).toList = [123] by kernel_rfl]
    rfl))).mono ?_
  rintro e w2 ⟨rfl, hM2, hmo2⟩
  have HM2 := Lib.hid hM2
  have HMo2 : Hid (Mod (fun j => j = R) w w2) := Lib.hid (HMo1.out.trans hmo2)
  have x2 : w2.cell? ⟨X, 0, none⟩ = some (.pointer (some ⟨R, 0, none⟩)) := (hmo2.cell (p := ⟨X, 0, none⟩) (World.block_lt_of_cell? _ _ x1) (by show X ≠ R; exact hXR)).trans x1
  clear hM2 hmo2
  refine hK.out _ _ ?_ (fun hHeld' => ?_)
  · exact x2
  clear hK K' hHeld
  have hHeld := hHeld'
  clear hHeld'
  try simp only [Act.put, List.getElem_toArray, List.getElem_cons_zero, List.getElem_cons_succ, List.setIfInBounds_toArray, List.set_cons_zero, List.set_cons_succ]
  refine wpAnyZ_done (by kernel_rfl) ?_ _
  go_step
  go_step
  go_wp2_with fail
  go_ret
  exact ⟨none, 0, 0, [], rfl, GrL.nil _ _, HM2.out, HMo2.out⟩
theorem cf_paItemF2 (args : Array Value) (W : World) : (callFunc 94 args).run Tryz.prog W = .ok (.enter 94 args) W := by go_simp
end Go.Proofs.YtoekpdnpncgeeaaGreat
/-
The parser: an item.
-/
namespace Go.Proofs.YtoekpdnpncgeeaaGreat
open Go.RowKit
set_option linter.unusedVariables false
set_option linter.unusedSimpArgs false
theorem kindD_eq (s : ByteArray) : kindN s = kindD s := by
  unfold kindN kindD
  simp only [beq_iff_eq]
theorem below_drewN' (w : World) : Below w.heap.size w w.drew := ⟨rfl, rfl, rfl, Nat.le_refl _, fun _ _ => rfl⟩
theorem itemP_some {toks : List Tok} {p q : Nat} {x : Nd (Nd Lf)} (h : itemP toks p = some (x, q)) : ∃ t u, toks[p]? = some t ∧ toks[p + 1]? = some u ∧ t.kind = 1 ∧ kindD t.text ≠ 0 ∧ u.kind = 1 ∧ nkD u.text = true ∧
    (kindD t.text ≠ 7 → punP toks [59] (attrsP toks (toks.length - (p + 2)) (p + 2)).2 = true ∧ x = ⟨2, u.text, kindD t.text, t.pos, (attrsP toks (toks.length - (p + 2)) (p + 2)).1⟩ ∧ q = (attrsP toks (toks.length - (p + 2)) (p + 2)).2 + 1) := by
  unfold itemP at h
  cases ht : toks[p]? with
  | none => rw [ht] at h; simp at h
  | some t =>
    cases hu : toks[p + 1]? with
    | none => rw [ht, hu] at h; simp at h
    | some u =>
      rw [ht, hu] at h
      simp only at h
      by_cases hc : (t.kind == 1 && kindD t.text != 0 && u.kind == 1 && nkD u.text) = true
      · rw [if_pos hc] at h
        simp only [Bool.and_eq_true, beq_iff_eq, bne_iff_ne] at hc
        refine ⟨t, u, rfl, rfl, hc.1.1.1, hc.1.1.2, hc.1.2, hc.2, fun h7 => ?_⟩
        rw [if_neg (by simpa using h7)] at h
        by_cases hp : punP toks [59] (attrsP toks (toks.length - (p + 2)) (p + 2)).2 = true
        · rw [if_pos hp] at h
          injection h with h
          injection h with h1 h2
          exact ⟨hp, h1.symm, h2.symm⟩
        · rw [if_neg hp] at h; cases h
      · rw [if_neg hc] at h; cases h
theorem cf_itemF1 (args : Array Value) (W : World) : (callFunc 91 args).run Tryz.prog W = .ok (.enter 91 args) W := by go_simp
theorem cf_notKey (args : Array Value) (W : World) : (callFunc 93 args).run Tryz.prog W = .ok (.enter 93 args) W := by go_simp
theorem okNd_wide {X : Type} {ok : World → Nat → Nat → NH → X → Prop} {W : World} {lo hi lo' hi' : Nat} {h : NH} {x : Nd X} (k : okNd ok W lo hi h x) (h1 : lo' ≤ lo) (h2 : hi ≤ hi') : okNd ok W lo' hi' h x := by
  refine ⟨k.1, k.2.1, k.2.2.1, k.2.2.2.1, ?_⟩
  obtain ⟨hs, g⟩ := k.2.2.2.2
  refine ⟨hs, ⟨g.own.1, ?_⟩, fun b hb => Nat.lt_of_lt_of_le (g.top b hb) h2, g.len, fun k x y hx hy => by
    obtain ⟨l, i, a, b, c, d⟩ := g.mem k x y hx hy
    exact ⟨l, i, by omega, b, by omega, d⟩⟩
  rcases g.own.2 with x | ⟨g', cap, cur, hv, hbb, rest⟩
  · exact .inl x
  · exact .inr ⟨g', cap, cur, hv, Nat.le_trans h1 hbb, rest⟩
set_option maxRecDepth 100000 in
set_option maxHeartbeats 8000000 in
/-- A node whose kids are read by two functions. -/
theorem paNode_two {X : Type} {ok : World → Nat → Nat → NH → X → Prop} (hf : Firm ok) (FA FB : Nat) (bd cs bd2 cs2 : Array Value) (R F0 : Nat) (aT : Option Addr) (nT cT : Nat) (toks : List Tok) (len p q q2 : Nat) (t : Tok) (kind : Int) (name : ByteArray) (n : Int) (xs xs2 : List X) (w : World) (HM : Hid (PaM w R aT nT cT toks len p)) (hF : w.cell? ⟨F0, 0, none⟩ = some (.func (.func FA) bd cs)) (hF2 : w.cell? ⟨F0, 1, none⟩ = some (.func (.func FB) bd2 cs2)) (hR : F0 ≠ R) (hxs : xs.length + xs2.length ≤ 90000)
    (hCF : ∀ (args : Array Value) (W : World), (callFunc FA args).run Tryz.prog W = .ok (.enter FA args) W) (hCF2 : ∀ (args : Array Value) (W : World), (callFunc FB args).run Tryz.prog W = .ok (.enter FB args) W) (HC : Hid (∀ W, Mod (fun j => j = R) w W → PaM W R aT nT cT toks len p → Calls Tryz.prog FA (bd ++ cs) W (KidPost ok W R aT nT cT toks len q xs))) (HC2 : Hid (∀ W, Mod (fun j => j = R) w W → PaM W R aT nT cT toks len q → Calls Tryz.prog FB (bd2 ++ cs2) W (KidPost ok W R aT nT cT toks len q2 xs2))) :
    Calls Tryz.prog 31 #[tokV t, .int .i64 kind, .string name, .int .i64 n, .slice (some ⟨F0, 0, none⟩) 2 2] w fun e w' => ∃ h : NH, e = .returned (nhV h) ∧ okNd ok w' w.heap.size w'.heap.size h ⟨kind, name, n, t.pos, xs ++ xs2⟩ ∧ PaM w' R aT nT cT toks len q2 ∧ Mod (fun j => j = R) w w' := by
  have h1 := paNode_any (X := X) hf R aT nT cT toks len t kind name n 2 (some ⟨F0, 0, none⟩) 2 (fun i => if i = 0 then FA else FB) (fun i => if i = 0 then bd else bd2) (fun i => if i = 0 then cs else cs2) (fun i => if i = 0 then p else if i = 1 then q else q2) (fun i => if i = 0 then xs else if i = 1 then xs2 else []) w HM (Lib.hid (fun i hi => by
    match i, hi with
    | 0, _ => exact ⟨F0, 0, rfl, World.block_lt_of_cell? _ _ hF, hF, hR⟩
    | 1, _ => exact ⟨F0, 0, rfl, World.block_lt_of_cell? _ _ hF, hF2, hR⟩)) (by omega) (Lib.hid (fun i hi => by
    match i, hi with
    | 0, _ => exact ⟨by simp [kidsF], by show xs.length ≤ 90000; omega⟩
    | 1, _ => exact ⟨by simp [kidsF]; omega, by show xs2.length ≤ 90000; omega⟩
    | 2, _ => exact ⟨by simp [kidsF]; omega, by simp⟩)) (fun i => by
    by_cases h : i = 0
    · subst h; exact hCF
    · simp only [if_neg h]; exact hCF2) (Lib.hid (fun i hi W h1 h2 => by
    match i, hi with
    | 0, _ => exact HC.out W h1 h2
    | 1, _ => exact HC2.out W h1 h2))
  refine h1.mono ?_
  rintro e w4 ⟨na, nl, nc, nhs, rfl, hg4, hp4, hmo4⟩
  refine ⟨_, rfl, ⟨rfl, rfl, rfl, rfl, nhs, ?_⟩, hp4, hmo4⟩
  have : kidsF (fun i : Nat => if i = 0 then xs else if i = 1 then xs2 else []) 2 = xs ++ xs2 := by simp [kidsF]
  rw [this] at hg4
  exact hg4.tree
set_option maxRecDepth 100000 in
set_option maxHeartbeats 8000000 in
theorem paItemF_ok (R : Nat) (aT : Option Addr) (nT cT : Nat) (toks : List Tok) (len p q : Nat) (x : Nd (Nd Lf)) (w : World) (HM : Hid (PaM w R aT nT cT toks len p)) (hit : itemP toks p = some (x, q)) (h7 : x.n ≠ 7) :
    Calls Tryz.prog 64 #[.pointer (some ⟨R, 0, none⟩)] w fun e w' => ∃ h : NH, e = .returned (nhV h) ∧ okNd (okNd okLf) w' w.heap.size w'.heap.size h x ∧ PaM w' R aT nT cT toks len q ∧ Mod (fun j => j = R) w w' := by
  have HI := Lib.hid (itemP_some hit)
  obtain ⟨t, u, ht, hu, hkt, hkd, hku, hnk, hrest⟩ := HI.out
  have hk7 : kindD t.text ≠ 7 := fun e => by
    have := hit
    unfold itemP at this
    rw [ht, hu] at this
    simp only [hkt, hku, hnk, e, beq_self_eq_true, Bool.and_true, Bool.true_and, bne_iff_ne, ne_eq, if_true] at this
    rw [if_pos (by decide)] at this
    split at this
    · obtain ⟨y, _, hy⟩ := Option.map_eq_some_iff.1 this
      injection hy with hy _
      rw [← hy] at h7
      exact h7 rfl
    · cases this
  obtain ⟨hpun, hx, hq⟩ := hrest hk7
  have HLN : Hid (toks.length = nT ∧ nT ≤ 2000) := Lib.hid ⟨HM.out.ln.1, HM.out.ln.2.1⟩
  have hp2 : p + 2 ≤ toks.length := by have := (List.getElem?_eq_some_iff.1 hu).1; omega
  obtain ⟨kd, hkde⟩ : ∃ kd, kd = kindD t.text := ⟨_, rfl⟩
  obtain ⟨ap, hap⟩ : ∃ ap, ap = attrsP toks (toks.length - (p + 2)) (p + 2) := ⟨_, rfl⟩
  have HAP := Lib.hid hap
  have HAL : Hid (ap.1.length ≤ 2000 ∧ p + 2 ≤ ap.2) := Lib.hid (by have := attrsP_le toks (toks.length - (p + 2)) (p + 2) hp2; rw [hap]; have := HLN.out; omega)
  rw [← hap] at hpun hx hq
  rw [← hkde] at hx
  have HKDE := Lib.hid hkde
  have HPUN := Lib.hid hpun
  have HKD := Lib.hid hkd
  have HNK := Lib.hid hnk
  have HTt := Lib.hid ht
  have HTu := Lib.hid hu
  have HKt := Lib.hid hkt
  have HKu := Lib.hid hku
  have HP2 := Lib.hid hp2
  subst hx hq
  have h7b : (kd == 7) = false := by rw [beq_eq_false_iff_ne, hkde]; exact hk7
  clear HI ht hu hkt hkd hku hnk hrest hk7 hpun hap hkde hit h7 hp2
  obtain ⟨X, hX⟩ : ∃ X, X = w.heap.size := ⟨_, rfl⟩
  obtain ⟨w0, hw0⟩ : ∃ W, W = (w.alloc (.cells #[.pointer (some ⟨R, 0, none⟩)] 85)).alloc (.cells #[.int .i64 0, .string ⟨#[]⟩, .int .i64 0, .int .i64 0, .slice none 0 0] 56) := ⟨_, rfl⟩
  have hb0 : Below w.heap.size w w0 := by rw [hw0]; exact ((Below.refl _ _).alloc (Nat.le_refl _) _).alloc (by simp) _
  have HX0 : Hid (Own w0 X 85 1 (fun _ => .pointer (some ⟨R, 0, none⟩))) := Lib.hid (by rw [hw0, hX]; exact (Own.one _ _ _).alloc _)
  have HN0 : Hid (Own w0 (X + 1) 56 5 (nodeF 0 ⟨#[]⟩ 0 0 (.slice none 0 0))) := Lib.hid (by rw [hw0]; exact nodeF_new _ 0 ⟨#[]⟩ 0 0 _ _ (by simp [hX]))
  have HXR : Hid (R < X ∧ X + 1 < w0.heap.size ∧ w.heap.size = X) := Lib.hid ⟨by rw [hX]; exact HM.out.ow.lt, HN0.out.lt, hX.symm⟩
  have HM := Lib.hid (HM.out.keep hb0)
  have HMw : Hid (Mod (fun j => j = R) w w0) := Lib.hid (modB hb0)
  have x0 : w0.cell? ⟨X, 0, none⟩ = some (.pointer (some ⟨R, 0, none⟩)) := HX0.out.cell (i := 0) (by omega)
  have hXl : X < w0.heap.size := HX0.out.lt
  have HW0 := Lib.hid hw0
  have HX := Lib.hid hX
  clear hb0 hw0 hX
  go_enter Tryz.func64, Tryz.ntmps64
  go_upto_region 1 with (fail)
  try simp only [World.size_alloc]
  rw [← HW0.out, ← HX.out]
  clear HW0
  go_cut [3] (fun v3 wx => ∃ Z, v3 = .pointer (some ⟨Z, 0, none⟩) ∧ Hid (Own wx Z 90 4 (tokF t)) ∧ Hid (PaM wx R aT nT cT toks len (p + 1)) ∧ Hid (Mod (fun j => j = R) w0 wx) ∧ Hid (w0.heap.size ≤ Z))
  case first =>
    refine region_z (S := fun w' => w'.cell? ⟨X, 0, none⟩ = some (.pointer (some ⟨R, 0, none⟩))) [] (by kernel_rfl) x0 (fun hHeld => ?_)
    obtain ⟨wd, hwd⟩ : ∃ wd, wd = w0.drew := ⟨_, rfl⟩
    rw [← hwd] at hHeld ⊢
    have HM : Hid (PaM wd R aT nT cT toks len p) := Lib.hid (by rw [hwd]; exact ⟨HM.out.ow, HM.out.tk, HM.out.ln, HM.out.ne⟩)
    have HMo : Hid (Mod (fun j => j = R) w0 wd) := Lib.hid (by rw [hwd]; exact (Mod.refl _ w0).drew)
    clear hwd
    refine wpAnyZ_take (i := 0) (v := .pointer (some ⟨R, 0, none⟩)) [2, 4] rfl (by kernel_rfl) (by kernel_rfl) (by kernel_rfl) (by kernel_rfl) (fun _ _ _ h => h) (Or.inl ⟨by kernel_rfl, fun w' hSw => ?_⟩) hHeld ?_
    · have s0 := hSw
      clear hHeld hSw
      go_simp
    simp only [Act.put, List.getElem_toArray, List.getElem_cons_zero, List.getElem_cons_succ, List.setIfInBounds_toArray, List.set_cons_zero, List.set_cons_succ]
    refine wpAnyZ_two (i := 1) (k := 3) (by kernel_rfl) rfl rfl (fun K' hK => ?_) (fun K' hK => ?_)
    · go_simp
      refine (paWordF_any (.func (.func 91) #[] #[]) _ 91 rfl).mono ?_
      rintro e v1 ⟨rfl, hw⟩
      have hb : Below wd.heap.size wd v1 := by rw [hw]; exact (Below.refl _ _).alloc (Nat.le_refl _) _
      obtain ⟨B1, hB⟩ : ∃ B, B = wd.heap.size := ⟨_, rfl⟩
      have HCB1 : Hid (v1.cell? ⟨B1, 0, none⟩ = some (.func (.func 91) #[] #[]) ∧ B1 < v1.heap.size) := Lib.hid (by rw [hw, hB]; exact ⟨by go_simp, by simp⟩)
      have HM := Lib.hid (HM.out.keep hb)
      have x1 : v1.cell? ⟨X, 0, none⟩ = some (.pointer (some ⟨R, 0, none⟩)) := (hb.cell (p := ⟨X, 0, none⟩) (World.block_lt_of_cell? _ _ hHeld)).trans hHeld
      have HMo := Lib.hid (HMo.out.trans (modB hb))
      try rw [show wd.drew.heap.size = wd.heap.size from rfl]
      rw [← hB]
      clear hw hb hB
      refine hK.out _ _ ?_ (fun hHeld' => ?_)
      · exact x1
      clear x1
      clear hK K' hHeld
      have hHeld := hHeld'
      clear hHeld'
      try simp only [Act.put, List.getElem_toArray, List.getElem_cons_zero, List.getElem_cons_succ, List.setIfInBounds_toArray, List.set_cons_zero, List.set_cons_succ]
      refine wpAnyZ_two (i := 2) (k := 3) (by kernel_rfl) rfl rfl (fun K' hK => ?_) (fun K' hK => ?_)
      · go_simp
        refine (paTake_any R aT nT cT toks len p 112 (.pointer (some ⟨B1, 0, none⟩)) t v1 HM HTt.out (by rw [HKt.out]; omega) cf_word1 (Lib.hid (fun W hbW => by
          refine paWordF1_ok t B1 91 true W HKt.out (Nat.lt_of_lt_of_le HCB1.out.2 hbW.size) ((hbW.cell (p := ⟨B1, 0, none⟩) HCB1.out.2).trans HCB1.out.1) cf_itemF1 (Lib.hid (fun W => ?_))
          exact (paItemF1_any t.text W).mono (fun e w' h => ⟨by rw [h.1, kindD_eq]; exact congrArg (fun b => Ending.returned (Value.bool b)) (bne_iff_ne.2 HKD.out), by rw [h.2]; exact Below.refl _ _⟩)))).mono ?_
        rintro e v2 ⟨rfl, hM, hmo⟩
        have HM := Lib.hid hM
        have x1 : v2.cell? ⟨X, 0, none⟩ = some (.pointer (some ⟨R, 0, none⟩)) := (hmo.cell (p := ⟨X, 0, none⟩) (World.block_lt_of_cell? _ _ hHeld) (by show X ≠ R; have := HXR.out; omega)).trans hHeld
        have HMo := Lib.hid (HMo.out.trans hmo)
        refine hK.out _ _ ?_ (fun hHeld' => ?_)
        · exact x1
        clear x1 hM hmo
        clear hK K' hHeld
        have hHeld := hHeld'
        clear hHeld'
        try simp only [Act.put, List.getElem_toArray, List.getElem_cons_zero, List.getElem_cons_succ, List.setIfInBounds_toArray, List.set_cons_zero, List.set_cons_succ]
        refine wpAnyZ_one (i := 3) (by kernel_rfl) rfl (fun K' hK => ?_)
        obtain ⟨v3, hw⟩ : ∃ W, W = v2.alloc (.cells #[.int .i64 0, .string ⟨#[]⟩, .int .i64 0, .int .i64 0] 90) := ⟨_, rfl⟩
        go_simp
        rw [← hw]
        have hb : Below v2.heap.size v2 v3 := by rw [hw]; exact (Below.refl _ _).alloc (Nat.le_refl _) _
        obtain ⟨Z, hZ⟩ : ∃ Z, Z = v2.heap.size := ⟨_, rfl⟩
        have HO : Hid (Own v3 Z 90 4 (tokF ⟨0, ⟨#[]⟩, 0, 0⟩)) := Lib.hid (by rw [hw, hZ]; exact own_tok _ 0 0 0 ⟨#[]⟩ _ rfl)
        have HZ : Hid (w0.heap.size ≤ Z) := Lib.hid (by rw [hZ]; exact HMo.out.size)
        try rw [show v2.drew.heap.size = v2.heap.size from rfl]
        rw [← hZ]
        have HM := Lib.hid (HM.out.keep hb)
        have x1 : v3.cell? ⟨X, 0, none⟩ = some (.pointer (some ⟨R, 0, none⟩)) := (hb.cell (p := ⟨X, 0, none⟩) (World.block_lt_of_cell? _ _ hHeld)).trans hHeld
        have HMo := Lib.hid (HMo.out.trans (modB hb))

        clear hw hb hZ
        refine hK.out _ _ ?_ (fun hHeld' => ?_)
        · exact x1
        clear x1
        clear hK K' hHeld
        have hHeld := hHeld'
        clear hHeld'
        try simp only [Act.put, List.getElem_toArray, List.getElem_cons_zero, List.getElem_cons_succ, List.setIfInBounds_toArray, List.set_cons_zero, List.set_cons_succ]
        refine wpAnyZ_one (i := 4) (by kernel_rfl) rfl (fun K' hK => ?_)
        have y0 : v3.cell? ⟨Z, 0, none⟩ = some (.int .i64 0) := HO.out.cell (i := 0) (by omega)
        have y1 : v3.cell? ⟨Z, 1, none⟩ = some (.string ⟨#[]⟩) := HO.out.cell (i := 1) (by omega)
        have y2 : v3.cell? ⟨Z, 2, none⟩ = some (.int .i64 0) := HO.out.cell (i := 2) (by omega)
        have y3 : v3.cell? ⟨Z, 3, none⟩ = some (.int .i64 (0 : Nat)) := HO.out.cell (i := 3) (by omega)
        have f0 := HO.out.frozen 0
        have f1 := HO.out.frozen 1
        have f2 := HO.out.frozen 2
        have f3 := HO.out.frozen 3
        have hZl : Z < v3.heap.size := HO.out.lt
        rw [show tokV t = .agg #[.int .i64 t.kind, .string t.text, .int .i64 t.n, .int .i64 (t.pos : Nat)] from rfl]
        go_simp
        obtain ⟨v4, hw⟩ : ∃ W, W = (((v3.setCell ⟨Z, 0, none⟩ (.int .i64 t.kind)).setCell ⟨Z, 1, none⟩ (.string t.text)).setCell ⟨Z, 2, none⟩ (.int .i64 t.n)).setCell ⟨Z, 3, none⟩ (.int .i64 (t.pos : Nat)) := ⟨_, rfl⟩
        have HO : Hid (Own v4 Z 90 4 (tokF t)) := Lib.hid (by rw [hw]; exact HO.out.setTok t.kind t.n t.pos t.text)
        have hmz : Mod (fun j => j = Z) v3 v4 := by rw [hw]; exact ((((show Mod (fun j => j = Z) v3 v3 from Mod.refl _ v3).setCell (p := ⟨Z, 0, none⟩) (.inl rfl) _).setCell (p := ⟨Z, 1, none⟩) (.inl rfl) _).setCell (p := ⟨Z, 2, none⟩) (.inl rfl) _).setCell (p := ⟨Z, 3, none⟩) (.inl rfl) _
        rw [← hw]
        have HM := Lib.hid (HM.out.mod hmz (fun j hj e => by have := HXR.out; have := HZ.out; omega))
        have HMo := Lib.hid (HMo.out.trans2 hmz (fun j hj e => by have := HZ.out; omega))
        have x1 : v4.cell? ⟨X, 0, none⟩ = some (.pointer (some ⟨R, 0, none⟩)) := (hmz.cell (p := ⟨X, 0, none⟩) (World.block_lt_of_cell? _ _ hHeld) (by have := HXR.out; have := HZ.out; show X ≠ Z; omega)).trans hHeld
        clear hw hmz y0 y1 y2 y3 f0 f1 f2 f3 hZl
        refine hK.out _ _ ?_ (fun hHeld' => ?_)
        · exact x1
        clear x1
        clear hK K' hHeld
        have hHeld := hHeld'
        clear hHeld'
        try simp only [Act.put, List.getElem_toArray, List.getElem_cons_zero, List.getElem_cons_succ, List.setIfInBounds_toArray, List.set_cons_zero, List.set_cons_succ]
        refine wpAnyZ_done (by kernel_rfl) ?_ _
        go_wp2_with fail
        go_meet
        exact ⟨Z, rfl, HO, HM, HMo, HZ⟩
      · obtain ⟨v2, hw⟩ : ∃ W, W = v1.alloc (.cells #[.int .i64 0, .string ⟨#[]⟩, .int .i64 0, .int .i64 0] 90) := ⟨_, rfl⟩
        go_simp
        rw [← hw]
        have hb : Below v1.heap.size v1 v2 := by rw [hw]; exact (Below.refl _ _).alloc (Nat.le_refl _) _
        obtain ⟨Z, hZ⟩ : ∃ Z, Z = v1.heap.size := ⟨_, rfl⟩
        have HO : Hid (Own v2 Z 90 4 (tokF ⟨0, ⟨#[]⟩, 0, 0⟩)) := Lib.hid (by rw [hw, hZ]; exact own_tok _ 0 0 0 ⟨#[]⟩ _ rfl)
        have HZ : Hid (w0.heap.size ≤ Z) := Lib.hid (by rw [hZ]; exact HMo.out.size)
        try rw [show v1.drew.heap.size = v1.heap.size from rfl]
        rw [← hZ]
        have HM := Lib.hid (HM.out.keep hb)
        have x1 : v2.cell? ⟨X, 0, none⟩ = some (.pointer (some ⟨R, 0, none⟩)) := (hb.cell (p := ⟨X, 0, none⟩) (World.block_lt_of_cell? _ _ hHeld)).trans hHeld
        have HMo := Lib.hid (HMo.out.trans (modB hb))
        have HCB1 : Hid (v2.cell? ⟨B1, 0, none⟩ = some (.func (.func 91) #[] #[]) ∧ B1 < v2.heap.size) := Lib.hid ⟨(hb.cell (p := ⟨B1, 0, none⟩) HCB1.out.2).trans HCB1.out.1, Nat.lt_of_lt_of_le HCB1.out.2 hb.size⟩
        clear hw hb hZ
        refine hK.out _ _ ?_ (fun hHeld' => ?_)
        · exact x1
        clear x1
        clear hK K' hHeld
        have hHeld := hHeld'
        clear hHeld'
        try simp only [Act.put, List.getElem_toArray, List.getElem_cons_zero, List.getElem_cons_succ, List.setIfInBounds_toArray, List.set_cons_zero, List.set_cons_succ]
        refine wpAnyZ_one (i := 2) (by kernel_rfl) rfl (fun K' hK => ?_)
        go_simp
        refine (paTake_any R aT nT cT toks len p 112 (.pointer (some ⟨B1, 0, none⟩)) t v2 HM HTt.out (by rw [HKt.out]; omega) cf_word1 (Lib.hid (fun W hbW => by
          refine paWordF1_ok t B1 91 true W HKt.out (Nat.lt_of_lt_of_le HCB1.out.2 hbW.size) ((hbW.cell (p := ⟨B1, 0, none⟩) HCB1.out.2).trans HCB1.out.1) cf_itemF1 (Lib.hid (fun W => ?_))
          exact (paItemF1_any t.text W).mono (fun e w' h => ⟨by rw [h.1, kindD_eq]; exact congrArg (fun b => Ending.returned (Value.bool b)) (bne_iff_ne.2 HKD.out), by rw [h.2]; exact Below.refl _ _⟩)))).mono ?_
        rintro e v3 ⟨rfl, hM, hmo⟩
        have HM := Lib.hid hM
        have x1 : v3.cell? ⟨X, 0, none⟩ = some (.pointer (some ⟨R, 0, none⟩)) := (hmo.cell (p := ⟨X, 0, none⟩) (World.block_lt_of_cell? _ _ hHeld) (by show X ≠ R; have := HXR.out; omega)).trans hHeld
        have HMo := Lib.hid (HMo.out.trans hmo)
        have HO := Lib.hid (HO.out.mod hmo (by have := HXR.out; have := HZ.out; omega))
        refine hK.out _ _ ?_ (fun hHeld' => ?_)
        · exact x1
        clear x1 hM hmo
        clear hK K' hHeld
        have hHeld := hHeld'
        clear hHeld'
        try simp only [Act.put, List.getElem_toArray, List.getElem_cons_zero, List.getElem_cons_succ, List.setIfInBounds_toArray, List.set_cons_zero, List.set_cons_succ]
        refine wpAnyZ_one (i := 4) (by kernel_rfl) rfl (fun K' hK => ?_)
        have y0 : v3.cell? ⟨Z, 0, none⟩ = some (.int .i64 0) := HO.out.cell (i := 0) (by omega)
        have y1 : v3.cell? ⟨Z, 1, none⟩ = some (.string ⟨#[]⟩) := HO.out.cell (i := 1) (by omega)
        have y2 : v3.cell? ⟨Z, 2, none⟩ = some (.int .i64 0) := HO.out.cell (i := 2) (by omega)
        have y3 : v3.cell? ⟨Z, 3, none⟩ = some (.int .i64 (0 : Nat)) := HO.out.cell (i := 3) (by omega)
        have f0 := HO.out.frozen 0
        have f1 := HO.out.frozen 1
        have f2 := HO.out.frozen 2
        have f3 := HO.out.frozen 3
        have hZl : Z < v3.heap.size := HO.out.lt
        rw [show tokV t = .agg #[.int .i64 t.kind, .string t.text, .int .i64 t.n, .int .i64 (t.pos : Nat)] from rfl]
        go_simp
        obtain ⟨v4, hw⟩ : ∃ W, W = (((v3.setCell ⟨Z, 0, none⟩ (.int .i64 t.kind)).setCell ⟨Z, 1, none⟩ (.string t.text)).setCell ⟨Z, 2, none⟩ (.int .i64 t.n)).setCell ⟨Z, 3, none⟩ (.int .i64 (t.pos : Nat)) := ⟨_, rfl⟩
        have HO : Hid (Own v4 Z 90 4 (tokF t)) := Lib.hid (by rw [hw]; exact HO.out.setTok t.kind t.n t.pos t.text)
        have hmz : Mod (fun j => j = Z) v3 v4 := by rw [hw]; exact ((((show Mod (fun j => j = Z) v3 v3 from Mod.refl _ v3).setCell (p := ⟨Z, 0, none⟩) (.inl rfl) _).setCell (p := ⟨Z, 1, none⟩) (.inl rfl) _).setCell (p := ⟨Z, 2, none⟩) (.inl rfl) _).setCell (p := ⟨Z, 3, none⟩) (.inl rfl) _
        rw [← hw]
        have HM := Lib.hid (HM.out.mod hmz (fun j hj e => by have := HXR.out; have := HZ.out; omega))
        have HMo := Lib.hid (HMo.out.trans2 hmz (fun j hj e => by have := HZ.out; omega))
        have x1 : v4.cell? ⟨X, 0, none⟩ = some (.pointer (some ⟨R, 0, none⟩)) := (hmz.cell (p := ⟨X, 0, none⟩) (World.block_lt_of_cell? _ _ hHeld) (by have := HXR.out; have := HZ.out; show X ≠ Z; omega)).trans hHeld
        clear hw hmz y0 y1 y2 y3 f0 f1 f2 f3 hZl
        refine hK.out _ _ ?_ (fun hHeld' => ?_)
        · exact x1
        clear x1
        clear hK K' hHeld
        have hHeld := hHeld'
        clear hHeld'
        try simp only [Act.put, List.getElem_toArray, List.getElem_cons_zero, List.getElem_cons_succ, List.setIfInBounds_toArray, List.set_cons_zero, List.set_cons_succ]
        refine wpAnyZ_done (by kernel_rfl) ?_ _
        go_wp2_with fail
        go_meet
        exact ⟨Z, rfl, HO, HM, HMo, HZ⟩
    · obtain ⟨v1, hw⟩ : ∃ W, W = wd.alloc (.cells #[.int .i64 0, .string ⟨#[]⟩, .int .i64 0, .int .i64 0] 90) := ⟨_, rfl⟩
      go_simp
      rw [← hw]
      have hb : Below wd.heap.size wd v1 := by rw [hw]; exact (Below.refl _ _).alloc (Nat.le_refl _) _
      obtain ⟨Z, hZ⟩ : ∃ Z, Z = wd.heap.size := ⟨_, rfl⟩
      have HO : Hid (Own v1 Z 90 4 (tokF ⟨0, ⟨#[]⟩, 0, 0⟩)) := Lib.hid (by rw [hw, hZ]; exact own_tok _ 0 0 0 ⟨#[]⟩ _ rfl)
      have HZ : Hid (w0.heap.size ≤ Z) := Lib.hid (by rw [hZ]; exact HMo.out.size)
      try rw [show wd.drew.heap.size = wd.heap.size from rfl]
      rw [← hZ]
      have HM := Lib.hid (HM.out.keep hb)
      have x1 : v1.cell? ⟨X, 0, none⟩ = some (.pointer (some ⟨R, 0, none⟩)) := (hb.cell (p := ⟨X, 0, none⟩) (World.block_lt_of_cell? _ _ hHeld)).trans hHeld
      have HMo := Lib.hid (HMo.out.trans (modB hb))

      clear hw hb hZ
      refine hK.out _ _ ?_ (fun hHeld' => ?_)
      · exact x1
      clear x1
      clear hK K' hHeld
      have hHeld := hHeld'
      clear hHeld'
      try simp only [Act.put, List.getElem_toArray, List.getElem_cons_zero, List.getElem_cons_succ, List.setIfInBounds_toArray, List.set_cons_zero, List.set_cons_succ]
      refine wpAnyZ_one (i := 1) (by kernel_rfl) rfl (fun K' hK => ?_)
      go_simp
      refine (paWordF_any (.func (.func 91) #[] #[]) _ 91 rfl).mono ?_
      rintro e v2 ⟨rfl, hw⟩
      have hb : Below v1.heap.size v1 v2 := by rw [hw]; exact (Below.refl _ _).alloc (Nat.le_refl _) _
      obtain ⟨B2, hB⟩ : ∃ B, B = v1.heap.size := ⟨_, rfl⟩
      have HCB2 : Hid (v2.cell? ⟨B2, 0, none⟩ = some (.func (.func 91) #[] #[]) ∧ B2 < v2.heap.size) := Lib.hid (by rw [hw, hB]; exact ⟨by go_simp, by simp⟩)
      have HM := Lib.hid (HM.out.keep hb)
      have x1 : v2.cell? ⟨X, 0, none⟩ = some (.pointer (some ⟨R, 0, none⟩)) := (hb.cell (p := ⟨X, 0, none⟩) (World.block_lt_of_cell? _ _ hHeld)).trans hHeld
      have HMo := Lib.hid (HMo.out.trans (modB hb))
      have HO := Lib.hid (HO.out.keep hb HO.out.lt)
      try rw [show v1.drew.heap.size = v1.heap.size from rfl]
      rw [← hB]
      clear hw hb hB
      refine hK.out _ _ ?_ (fun hHeld' => ?_)
      · exact x1
      clear x1
      clear hK K' hHeld
      have hHeld := hHeld'
      clear hHeld'
      try simp only [Act.put, List.getElem_toArray, List.getElem_cons_zero, List.getElem_cons_succ, List.setIfInBounds_toArray, List.set_cons_zero, List.set_cons_succ]
      refine wpAnyZ_one (i := 2) (by kernel_rfl) rfl (fun K' hK => ?_)
      go_simp
      refine (paTake_any R aT nT cT toks len p 112 (.pointer (some ⟨B2, 0, none⟩)) t v2 HM HTt.out (by rw [HKt.out]; omega) cf_word1 (Lib.hid (fun W hbW => by
        refine paWordF1_ok t B2 91 true W HKt.out (Nat.lt_of_lt_of_le HCB2.out.2 hbW.size) ((hbW.cell (p := ⟨B2, 0, none⟩) HCB2.out.2).trans HCB2.out.1) cf_itemF1 (Lib.hid (fun W => ?_))
        exact (paItemF1_any t.text W).mono (fun e w' h => ⟨by rw [h.1, kindD_eq]; exact congrArg (fun b => Ending.returned (Value.bool b)) (bne_iff_ne.2 HKD.out), by rw [h.2]; exact Below.refl _ _⟩)))).mono ?_
      rintro e v3 ⟨rfl, hM, hmo⟩
      have HM := Lib.hid hM
      have x1 : v3.cell? ⟨X, 0, none⟩ = some (.pointer (some ⟨R, 0, none⟩)) := (hmo.cell (p := ⟨X, 0, none⟩) (World.block_lt_of_cell? _ _ hHeld) (by show X ≠ R; have := HXR.out; omega)).trans hHeld
      have HMo := Lib.hid (HMo.out.trans hmo)
      have HO := Lib.hid (HO.out.mod hmo (by have := HXR.out; have := HZ.out; omega))
      refine hK.out _ _ ?_ (fun hHeld' => ?_)
      · exact x1
      clear x1 hM hmo
      clear hK K' hHeld
      have hHeld := hHeld'
      clear hHeld'
      try simp only [Act.put, List.getElem_toArray, List.getElem_cons_zero, List.getElem_cons_succ, List.setIfInBounds_toArray, List.set_cons_zero, List.set_cons_succ]
      refine wpAnyZ_one (i := 4) (by kernel_rfl) rfl (fun K' hK => ?_)
      have y0 : v3.cell? ⟨Z, 0, none⟩ = some (.int .i64 0) := HO.out.cell (i := 0) (by omega)
      have y1 : v3.cell? ⟨Z, 1, none⟩ = some (.string ⟨#[]⟩) := HO.out.cell (i := 1) (by omega)
      have y2 : v3.cell? ⟨Z, 2, none⟩ = some (.int .i64 0) := HO.out.cell (i := 2) (by omega)
      have y3 : v3.cell? ⟨Z, 3, none⟩ = some (.int .i64 (0 : Nat)) := HO.out.cell (i := 3) (by omega)
      have f0 := HO.out.frozen 0
      have f1 := HO.out.frozen 1
      have f2 := HO.out.frozen 2
      have f3 := HO.out.frozen 3
      have hZl : Z < v3.heap.size := HO.out.lt
      rw [show tokV t = .agg #[.int .i64 t.kind, .string t.text, .int .i64 t.n, .int .i64 (t.pos : Nat)] from rfl]
      go_simp
      obtain ⟨v4, hw⟩ : ∃ W, W = (((v3.setCell ⟨Z, 0, none⟩ (.int .i64 t.kind)).setCell ⟨Z, 1, none⟩ (.string t.text)).setCell ⟨Z, 2, none⟩ (.int .i64 t.n)).setCell ⟨Z, 3, none⟩ (.int .i64 (t.pos : Nat)) := ⟨_, rfl⟩
      have HO : Hid (Own v4 Z 90 4 (tokF t)) := Lib.hid (by rw [hw]; exact HO.out.setTok t.kind t.n t.pos t.text)
      have hmz : Mod (fun j => j = Z) v3 v4 := by rw [hw]; exact ((((show Mod (fun j => j = Z) v3 v3 from Mod.refl _ v3).setCell (p := ⟨Z, 0, none⟩) (.inl rfl) _).setCell (p := ⟨Z, 1, none⟩) (.inl rfl) _).setCell (p := ⟨Z, 2, none⟩) (.inl rfl) _).setCell (p := ⟨Z, 3, none⟩) (.inl rfl) _
      rw [← hw]
      have HM := Lib.hid (HM.out.mod hmz (fun j hj e => by have := HXR.out; have := HZ.out; omega))
      have HMo := Lib.hid (HMo.out.trans2 hmz (fun j hj e => by have := HZ.out; omega))
      have x1 : v4.cell? ⟨X, 0, none⟩ = some (.pointer (some ⟨R, 0, none⟩)) := (hmz.cell (p := ⟨X, 0, none⟩) (World.block_lt_of_cell? _ _ hHeld) (by have := HXR.out; have := HZ.out; show X ≠ Z; omega)).trans hHeld
      clear hw hmz y0 y1 y2 y3 f0 f1 f2 f3 hZl
      refine hK.out _ _ ?_ (fun hHeld' => ?_)
      · exact x1
      clear x1
      clear hK K' hHeld
      have hHeld := hHeld'
      clear hHeld'
      try simp only [Act.put, List.getElem_toArray, List.getElem_cons_zero, List.getElem_cons_succ, List.setIfInBounds_toArray, List.set_cons_zero, List.set_cons_succ]
      refine wpAnyZ_done (by kernel_rfl) ?_ _
      go_wp2_with fail
      go_meet
      exact ⟨Z, rfl, HO, HM, HMo, HZ⟩
  case rest =>
    clear HM x0 hXl
    obtain ⟨Z, rfl, HO, HM, HMo0, HZ⟩ := hcut
    have x0 : wc.cell? ⟨X, 0, none⟩ = some (.pointer (some ⟨R, 0, none⟩)) := (HMo0.out.cell (p := ⟨X, 0, none⟩) HX0.out.lt (by have := HXR.out; show X ≠ R; omega)).trans (HX0.out.cell (i := 0) (by omega))
    have hXl : X < wc.heap.size := World.block_lt_of_cell? _ _ x0
    go_upto_region 2 with (fail)
    refine region_z (S := fun w' => w'.cell? ⟨X, 0, none⟩ = some (.pointer (some ⟨R, 0, none⟩))) [] (by kernel_rfl) x0 (fun hHeld => ?_)
    obtain ⟨wd, hwd⟩ : ∃ wd, wd = wc.drew := ⟨_, rfl⟩
    rw [← hwd] at hHeld ⊢
    have HM : Hid (PaM wd R aT nT cT toks len (p + 1)) := Lib.hid (by rw [hwd]; exact ⟨HM.out.ow, HM.out.tk, HM.out.ln, HM.out.ne⟩)
    have HMo : Hid (Mod (fun j => j = R) wc wd) := Lib.hid (by rw [hwd]; exact (Mod.refl _ wc).drew)
    clear hwd
    have hfd : ∀ W : World, (Instr.field 90 (tokV u) 1).run Tryz.prog W = .ok (.string u.text) W := fun W => by with_unfolding_all rfl
    refine wpAnyZ_take (i := 0) (v := .pointer (some ⟨R, 0, none⟩)) [2, 3, 4] rfl (by kernel_rfl) (by kernel_rfl) (by kernel_rfl) (by kernel_rfl) (fun _ _ _ h => h) (Or.inl ⟨by kernel_rfl, fun w' hSw => ?_⟩) hHeld ?_
    · have s0 := hSw
      clear hHeld hSw
      go_simp
    simp only [Act.put, List.getElem_toArray, List.getElem_cons_zero, List.getElem_cons_succ, List.setIfInBounds_toArray, List.set_cons_zero, List.set_cons_succ]
    refine wpAnyZ_one (i := 1) (by kernel_rfl) rfl (fun K' hK => ?_)
    go_simp
    refine (paWordF_any (.func (.func 93) #[] #[]) _ 93 rfl).mono ?_
    rintro e v1 ⟨rfl, hw⟩
    have hb : Below wd.heap.size wd v1 := by rw [hw]; exact (Below.refl _ _).alloc (Nat.le_refl _) _
    obtain ⟨B1, hB⟩ : ∃ B, B = wd.heap.size := ⟨_, rfl⟩
    have HCB1 : Hid (v1.cell? ⟨B1, 0, none⟩ = some (.func (.func 93) #[] #[]) ∧ B1 < v1.heap.size) := Lib.hid (by rw [hw, hB]; exact ⟨by go_simp, by simp⟩)
    have HM := Lib.hid (HM.out.keep hb)
    have x1 : v1.cell? ⟨X, 0, none⟩ = some (.pointer (some ⟨R, 0, none⟩)) := (hb.cell (p := ⟨X, 0, none⟩) (World.block_lt_of_cell? _ _ hHeld)).trans hHeld
    have HMo := Lib.hid (HMo.out.trans (modB hb))
    try rw [show wd.drew.heap.size = wd.heap.size from rfl]
    rw [← hB]
    clear hw hb hB
    refine hK.out _ _ ?_ (fun hHeld' => ?_)
    · exact x1
    clear x1
    clear hK K' hHeld
    have hHeld := hHeld'
    clear hHeld'
    try simp only [Act.put, List.getElem_toArray, List.getElem_cons_zero, List.getElem_cons_succ, List.setIfInBounds_toArray, List.set_cons_zero, List.set_cons_succ]
    refine wpAnyZ_one (i := 2) (by kernel_rfl) rfl (fun K' hK => ?_)
    go_simp
    refine (paTake_any R aT nT cT toks len (p + 1) 112 (.pointer (some ⟨B1, 0, none⟩)) u v1 HM HTu.out (by rw [HKu.out]; omega) cf_word1 (Lib.hid (fun W hbW => by
      refine paWordF1_ok u B1 93 true W HKu.out (Nat.lt_of_lt_of_le HCB1.out.2 hbW.size) ((hbW.cell (p := ⟨B1, 0, none⟩) HCB1.out.2).trans HCB1.out.1) cf_notKey (Lib.hid (fun W => ?_))
      exact (paNotKey_any u.text W).mono (fun e w' h => ⟨by rw [h.1, inD_eq]; exact congrArg (fun b => Ending.returned (Value.bool b)) HNK.out, by rw [h.2]; exact Below.refl _ _⟩)))).mono ?_
    rintro e v2 ⟨rfl, hM, hmo⟩
    have HM := Lib.hid hM
    have x1 : v2.cell? ⟨X, 0, none⟩ = some (.pointer (some ⟨R, 0, none⟩)) := (hmo.cell (p := ⟨X, 0, none⟩) (World.block_lt_of_cell? _ _ hHeld) (by show X ≠ R; have := HXR.out; omega)).trans hHeld
    have HMo := Lib.hid (HMo.out.trans hmo)
    refine hK.out _ _ ?_ (fun hHeld' => ?_)
    · exact x1
    clear x1 hM hmo
    clear hK K' hHeld
    have hHeld := hHeld'
    clear hHeld'
    try simp only [Act.put, List.getElem_toArray, List.getElem_cons_zero, List.getElem_cons_succ, List.setIfInBounds_toArray, List.set_cons_zero, List.set_cons_succ]
    refine wpAnyZ_take (i := 3) (v := .string u.text) [4] rfl (by kernel_rfl) (by kernel_rfl) (by kernel_rfl) (by kernel_rfl) (fun _ _ _ h => h) (Or.inl ⟨by kernel_rfl, fun w' hSw => ?_⟩) hHeld ?_
    · have s0 := hSw
      clear hHeld hSw
      go_simp
    simp only [Act.put, List.getElem_toArray, List.getElem_cons_zero, List.getElem_cons_succ, List.setIfInBounds_toArray, List.set_cons_zero, List.set_cons_succ]
    refine wpAnyZ_take (i := 4) (v := .string u.text) [] rfl (by kernel_rfl) (by kernel_rfl) (by kernel_rfl) (by kernel_rfl) (fun _ _ _ h => h) (Or.inl ⟨by kernel_rfl, fun w' hSw => ?_⟩) hHeld ?_
    · have s0 := hSw
      clear hHeld hSw
      go_simp
    simp only [Act.put, List.getElem_toArray, List.getElem_cons_zero, List.getElem_cons_succ, List.setIfInBounds_toArray, List.set_cons_zero, List.set_cons_succ]
    refine wpAnyZ_done (by kernel_rfl) ?_ _
    go_step
    go_step
    have HMo2 : Hid (Mod (fun j => j = R) w0 v2) := Lib.hid (HMo0.out.trans HMo.out)
    have HO2 := Lib.hid (HO.out.mod HMo.out (by have := HXR.out; have := HZ.out; omega))
    have HX2 := Lib.hid (HX0.out.mod HMo2.out (by have := HXR.out; omega))
    have HN2 := Lib.hid (HN0.out.mod HMo2.out (by have := HXR.out; omega))
    clear HO HMo0 HMo x0 hXl
    obtain ⟨tk, tx, tn, tp⟩ := t
    have y0 : v2.cell? ⟨Z, 0, none⟩ = some (.int .i64 tk) := HO2.out.cell (i := 0) (by omega)
    have y1 : v2.cell? ⟨Z, 1, none⟩ = some (.string tx) := HO2.out.cell (i := 1) (by omega)
    have y2 : v2.cell? ⟨Z, 2, none⟩ = some (.int .i64 tn) := HO2.out.cell (i := 2) (by omega)
    have y3 : v2.cell? ⟨Z, 3, none⟩ = some (.int .i64 (tp : Nat)) := HO2.out.cell (i := 3) (by omega)
    have hZl : Z < v2.heap.size := HO2.out.lt
    have x0 : v2.cell? ⟨X, 0, none⟩ = some (.pointer (some ⟨R, 0, none⟩)) := HX2.out.cell (i := 0) (by omega)
    have hXl : X < v2.heap.size := HX2.out.lt
    go_wp2_with fail
    refine (paKindN_any tx v2).mono ?_
    rintro e v3 ⟨rfl, hv3⟩
    rw [hv3, kindD_eq, show kindD tx = kd from HKDE.out.symm]
    clear hv3 v3
    go_wp2_with fail
    obtain ⟨w8, hw8⟩ : ∃ W, W = v2.alloc (.cells #[.func (.func 96) #[.pointer (some ⟨R, 0, none⟩)] #[], .func (.func 98) #[] #[.pointer (some ⟨X, 0, none⟩)]] 91) := ⟨_, rfl⟩
    rw [← hw8]
    have hb8 : Below v2.heap.size v2 w8 := by rw [hw8]; exact (Below.refl _ _).alloc (Nat.le_refl _) _
    obtain ⟨F0, hF0⟩ : ∃ F, F = v2.heap.size := ⟨_, rfl⟩
    have HF8 : Hid (w8.cell? ⟨F0, 0, none⟩ = some (.func (.func 96) #[.pointer (some ⟨R, 0, none⟩)] #[]) ∧ w8.cell? ⟨F0, 1, none⟩ = some (.func (.func 98) #[] #[.pointer (some ⟨X, 0, none⟩)])) := Lib.hid (by rw [hw8, hF0]; exact ⟨by go_simp, by go_simp⟩)
    rw [← hF0]
    have HM8 := Lib.hid (HM.out.keep hb8)
    have HX8 := Lib.hid (HX2.out.keep hb8 HX2.out.lt)
    have HN8 := Lib.hid (HN2.out.keep hb8 HN2.out.lt)
    have HMo8 : Hid (Mod (fun j => j = R) w0 w8) := Lib.hid (HMo2.out.trans (modB hb8))
    have HFX : Hid (X + 1 < F0 ∧ F0 < w8.heap.size) := Lib.hid ⟨by rw [hF0]; exact HN2.out.lt, by rw [hw8, hF0]; simp⟩
    clear hw8 hb8 hF0 HM HX2 HN2 HO2 HMo2 y0 y1 y2 y3 hZl x0 hXl
    have HCA : Hid (∀ W, Mod (fun j => j = R) w8 W → PaM W R aT nT cT toks len (p + 2) → Calls Tryz.prog 96 (#[.pointer (some ⟨R, 0, none⟩)] ++ #[]) W (KidPost (okNd okLf) W R aT nT cT toks len ap.2 ap.1)) := Lib.hid (fun W hmW hPW => by
      have h := paAttrs_ok R aT nT cT toks len (p + 2) W (Lib.hid hPW) HP2.out
      rw [← HAP.out] at h
      exact h)
    have HCB : Hid (∀ W, Mod (fun j => j = R) w8 W → PaM W R aT nT cT toks len ap.2 → Calls Tryz.prog 98 (#[] ++ #[.pointer (some ⟨X, 0, none⟩)]) W (KidPost (okNd okLf) W R aT nT cT toks len (ap.2 + 1) [])) := Lib.hid (fun W hmW hPW => by
      exact paItemF3_ok (okNd okLf) R X aT nT cT toks len ap.2 W (Lib.hid hPW) ((hmW.cell (p := ⟨X, 0, none⟩) HX8.out.lt (by have := HXR.out; show X ≠ R; omega)).trans (HX8.out.cell (i := 0) (by omega))) (by have := HXR.out; omega) HPUN.out)
    refine (paNode_two (okNd_firm okLf_firm) 96 98 _ _ _ _ R F0 aT nT cT toks len (p + 2) ap.2 (ap.2 + 1) ⟨tk, tx, tn, tp⟩ 2 u.text kd ap.1 [] w8 HM8 HF8.out.1 HF8.out.2 (by have := HFX.out; have := HXR.out; omega) (by have := HAL.out; simp; omega) cf_attrs cf_paItemF3 HCA HCB).mono ?_
    rintro e w9 ⟨h, rfl, hok, hM9, hmo9⟩
    rw [List.append_nil] at hok
    have HM9 := Lib.hid hM9
    have HMo9 : Hid (Mod (fun j => j = R) w0 w9) := Lib.hid (HMo8.out.trans hmo9)
    have HN9 := Lib.hid (HN8.out.mod hmo9 (by have := HXR.out; omega))
    have HS9 : Hid (w8.heap.size ≤ w9.heap.size) := Lib.hid hmo9.size
    have HOK := Lib.hid hok
    obtain ⟨hkk, hna, hnn, hpo, ha, hln, hc⟩ := h
    clear hM9 hmo9 hok HM8 HX8 HN8 HMo8 HCA HCB
    have z0 : w9.cell? ⟨X + 1, 0, none⟩ = some (.int .i64 0) := HN9.out.cell (i := 0) (by omega)
    have z1 : w9.cell? ⟨X + 1, 1, none⟩ = some (.string ⟨#[]⟩) := HN9.out.cell (i := 1) (by omega)
    have z2 : w9.cell? ⟨X + 1, 2, none⟩ = some (.int .i64 0) := HN9.out.cell (i := 2) (by omega)
    have z3 : w9.cell? ⟨X + 1, 3, none⟩ = some (.int .i64 (0 : Nat)) := HN9.out.cell (i := 3) (by omega)
    have z4 : w9.cell? ⟨X + 1, 4, none⟩ = some (.slice none 0 0) := HN9.out.cell (i := 4) (by omega)
    have f0 := HN9.out.frozen 0
    have f1 := HN9.out.frozen 1
    have f2 := HN9.out.frozen 2
    have f3 := HN9.out.frozen 3
    have f4 := HN9.out.frozen 4
    have hNl : X + 1 < w9.heap.size := HN9.out.lt
    rw [show nhV ⟨hkk, hna, hnn, hpo, ha, hln, hc⟩ = .agg #[.int .i64 hkk, .string hna, .int .i64 hnn, .int .i64 (hpo : Nat), .slice ha hln hc] from rfl]
    go_wp2_with fail
    have hoX := nodeF_all HN9.out hkk hnn hpo hna (.slice ha hln hc)
    refine bodyPost_ret (results_c1T (a := 2) (ty := 56) (b := X + 1) (by kernel_rfl) rfl (node_load hoX)) rfl ?_
    have hXM : Mod (fun j => j = X + 1) w9 (((((w9.setCell ⟨X + 1, 0, none⟩ (.int .i64 hkk)).setCell ⟨X + 1, 1, none⟩ (.string hna)).setCell ⟨X + 1, 2, none⟩ (.int .i64 hnn)).setCell ⟨X + 1, 3, none⟩ (.int .i64 (hpo : Nat))).setCell ⟨X + 1, 4, none⟩ (.slice ha hln hc)) := (((((show Mod (fun j => j = X + 1) w9 w9 from Mod.refl _ w9).setCell (p := ⟨X + 1, 0, none⟩) (.inl rfl) _).setCell (p := ⟨X + 1, 1, none⟩) (.inl rfl) _).setCell (p := ⟨X + 1, 2, none⟩) (.inl rfl) _).setCell (p := ⟨X + 1, 3, none⟩) (.inl rfl) _).setCell (p := ⟨X + 1, 4, none⟩) (.inl rfl) _
    exact ⟨_, rfl, okNd_wide ((okNd_firm (okNd_firm okLf_firm)).calm HOK.out (Calm.of hXM (fun j hj _ e => by have := HFX.out; omega))) (by have := HFX.out; have := HXR.out; omega) hXM.size, HM9.out.mod hXM (fun j hj e => by have := HXR.out; omega), (HMw.out.trans HMo9.out).trans2 hXM (fun j hj e => by have := HXR.out; omega)⟩
end Go.Proofs.YtoekpdnpncgeeaaGreat
/-
The parser: a part without error.
-/
namespace Go.Proofs.YtoekpdnpncgeeaaGreat
open Go.RowKit
set_option linter.unusedVariables false
set_option linter.unusedSimpArgs false
set_option maxRecDepth 100000 in
set_option maxHeartbeats 4000000 in
theorem paPartF1_idle (a b c : Value) (w : World) : CallsD Tryz.prog 87 #[a, b, c] .returning w fun e u' w' => e = .returned (.tuple #[]) ∧ u' = .returning ∧ w = w' := by
  refine callsD_of_wpS Tryz.func87 rfl fun c₀ cs hu => ?_
  apply wpS_seq
  apply wpS_region
  simp [wpOpsS, go_sem, recoverD, hu, Tryz.ntmps87, Exit.thenS]
  apply wpS_seq
  apply wpS_seq
  apply wpS_region
  simp [wpOpsS, go_sem, Exit.thenS]
  refine wpS_cond (t := true) (by simp [go_sem]) ?_
  rw [if_pos rfl]
  apply wpS_of_wp
  refine wp_ret ?_
  cases c₀
  simp_all [Exit.thenS, bodyPostS, results, Tryz.results87]
set_option maxRecDepth 100000 in
set_option maxHeartbeats 8000000 in
theorem paPartF_ok (FC : Nat) (cs : Array Value) (R : Nat) (w : World) (post : World → World → Prop) (hs : ∀ W w', post W w' → W.heap.size ≤ w'.heap.size ∧ Mod (fun j => j < w.heap.size) W w') (hCF : ∀ (args : Array Value) (W : World), (callFunc FC args).run Tryz.prog W = .ok (.enter FC args) W)
    (HC : Hid (∀ W, Below w.heap.size w W → Calls Tryz.prog FC cs W fun e w' => e = .returned (.tuple #[]) ∧ post W w')) :
    Calls Tryz.prog 62 #[.pointer (some ⟨R, 0, none⟩), .func (.func FC) #[] cs] w fun e w' => e = .returned (.tuple #[.bool true, .string ⟨#[]⟩]) ∧ ∃ W w1, Below w.heap.size w W ∧ post W w1 ∧ Mod (fun j => w.heap.size ≤ j ∧ j < W.heap.size) w1 w' := by
  obtain ⟨X, hX⟩ : ∃ X, X = w.heap.size := ⟨_, rfl⟩
  obtain ⟨W0, hW0⟩ : ∃ W, W = ((w.alloc (.cells #[.pointer (some ⟨R, 0, none⟩)] 85)).alloc (.cells #[.bool false] 4)).alloc (.cells #[.string ⟨#[]⟩] 9) := ⟨_, rfl⟩
  have hb0 : Below w.heap.size w W0 := by rw [hW0]; exact (((Below.refl _ _).alloc (Nat.le_refl _) _).alloc (by simp) _).alloc (by simp; omega) _
  have HG0 : Hid (Own W0 (X + 1) 4 1 (fun _ => .bool false)) := Lib.hid (by rw [hW0]; exact (Own.newAt _ 4 #[.bool false] (X + 1) (by simp [hX]) rfl (fun i hi => by match i, hi with | 0, _ => rfl)).alloc _)
  have HL0 : Hid (Own W0 (X + 2) 9 1 (fun _ => .string ⟨#[]⟩)) := Lib.hid (by rw [hW0]; exact Own.newAt _ 9 #[.string ⟨#[]⟩] (X + 2) (by simp [hX]) rfl (fun i hi => by match i, hi with | 0, _ => rfl))
  have HX := Lib.hid hX
  have HB0 := Lib.hid hb0
  have HW0 := Lib.hid hW0
  have hmf : ∀ (fn : Fn) (first cap : Array Value) (w : World), (Instr.makeFunc fn first cap).run Tryz.prog w = .ok (.func fn first cap) w := fun _ _ _ _ => rfl
  clear hb0 hW0 hX
  go_enter_defers Tryz.func62, Tryz.ntmps62
  go_wp2_with fail
  rw [← HW0.out, ← HX.out, show X + 1 + 1 = X + 2 from rfl]
  refine (HC.out W0 HB0.out).mono ?_
  rintro e w1 ⟨rfl, hpost⟩
  have HPO := Lib.hid hpost
  have hm1 := (hs _ _ hpost).2
  have HG1 := Lib.hid (HG0.out.mod hm1 (by have := HX.out; omega))
  have HL1 := Lib.hid (HL0.out.mod hm1 (by have := HX.out; omega))
  clear hpost hm1
  have g0 : w1.cell? ⟨X + 1, 0, none⟩ = some (.bool false) := HG1.out.cell (i := 0) (by omega)
  have l0 : w1.cell? ⟨X + 2, 0, none⟩ = some (.string ⟨#[]⟩) := HL1.out.cell (i := 0) (by omega)
  have fg := HG1.out.frozen 0
  have fl := HL1.out.frozen 0
  have hgl : X + 1 < w1.heap.size := HG1.out.lt
  have hll : X + 2 < w1.heap.size := HL1.out.lt
  go_wp2_with fail
  refine leaves_cons (f := 87) (args := #[.pointer (some ⟨X, 0, none⟩), .pointer (some ⟨X + 1, 0, none⟩), .pointer (some ⟨X + 2, 0, none⟩)]) (by simp) (by simp [go_sem]) ?_
  refine (paPartF1_idle _ _ _ _).mono ?_
  rintro e u' w'' ⟨rfl, rfl, rfl⟩
  obtain ⟨w2, hw2⟩ : ∃ W, W = (w1.setCell ⟨X + 1, 0, none⟩ (.bool true)).setCell ⟨X + 2, 0, none⟩ (.string ⟨#[]⟩) := ⟨_, rfl⟩
  have HG2 : Hid (w2.cell? ⟨X + 1, 0, none⟩ = some (.bool true)) := Lib.hid (by rw [hw2]; exact ((HG1.out.set1 (.bool true)).other (p := ⟨X + 2, 0, none⟩) (by show X + 1 ≠ X + 2; omega) _).cell (i := 0) (by omega))
  have HL2 : Hid (w2.cell? ⟨X + 2, 0, none⟩ = some (.string ⟨#[]⟩)) := Lib.hid (by rw [hw2]; exact ((HL1.out.other (p := ⟨X + 1, 0, none⟩) (by show X + 2 ≠ X + 1; omega) _).set1 _).cell (i := 0) (by omega))
  have HF : Hid (∃ W w1, Below w.heap.size w W ∧ post W w1 ∧ Mod (fun j => w.heap.size ≤ j ∧ j < W.heap.size) w1 w2) := Lib.hid ⟨W0, w1, HB0.out, HPO.out, by
    rw [hw2]
    exact ((show Mod (fun j => w.heap.size ≤ j ∧ j < W0.heap.size) w1 w1 from Mod.refl _ w1).setCell (p := ⟨X + 1, 0, none⟩) (.inl (by have := HX.out; have := HG0.out.lt; show w.heap.size ≤ X + 1 ∧ X + 1 < W0.heap.size; omega)) _).setCell (p := ⟨X + 2, 0, none⟩) (.inl (by have := HX.out; have := HL0.out.lt; show w.heap.size ≤ X + 2 ∧ X + 2 < W0.heap.size; omega)) _⟩
  try rw [← hw2]
  clear hw2 g0 l0 fg fl hgl hll
  have e1 := HG2.out
  have e2 := HL2.out
  simp [Leaves, settle, results, Tryz.results62, go_sem, e1, e2]
  obtain ⟨W, w3, h1, h2, h3⟩ := HF.out
  exact ⟨W, h1, w3, h2, h3⟩
end Go.Proofs.YtoekpdnpncgeeaaGreat
/-
The parser: all items.
-/
namespace Go.Proofs.YtoekpdnpncgeeaaGreat
open Go.RowKit
set_option linter.unusedVariables false
set_option linter.unusedSimpArgs false
/-- Where the reading of items ends. -/
def itemsE (toks : List Tok) : Nat → Nat → Nat
  | 0, p => p
  | f + 1, p => if p < toks.length then (match itemP toks p with
      | some (_, q) => itemsE toks f q
      | none => p) else p
theorem itemsE_end {toks : List Tok} {f p : Nat} (hp : ¬ p < toks.length) : itemsE toks f p = p := by
  cases f with
  | zero => rfl
  | succ f => unfold itemsE; rw [if_neg hp]
theorem itemsP_end {toks : List Tok} {f p : Nat} {xs : List (Nd (Nd Lf))} (h : itemsP toks f p = some xs) (hp : ¬ p < toks.length) : xs = [] := by
  cases f with
  | zero => unfold itemsP at h; rw [if_neg hp] at h; injection h with h; exact h.symm
  | succ f => unfold itemsP at h; rw [if_neg hp] at h; injection h with h; exact h.symm
theorem itemsP_at {toks : List Tok} {f p : Nat} {xs : List (Nd (Nd Lf))} (h : itemsP toks f p = some xs) (hp : p < toks.length) : ∃ f' n q r, f = f' + 1 ∧ itemP toks p = some (n, q) ∧ itemsP toks f' q = some r ∧ xs = n :: r ∧ itemsE toks f p = itemsE toks f' q := by
  cases f with
  | zero => unfold itemsP at h; rw [if_pos hp] at h; cases h
  | succ f =>
    unfold itemsP at h
    rw [if_pos hp] at h
    cases hi : itemP toks p with
    | none => rw [hi] at h; cases h
    | some nq =>
      obtain ⟨n, q⟩ := nq
      rw [hi] at h
      obtain ⟨r, h1, h2⟩ := Option.map_eq_some_iff.1 h
      refine ⟨f, n, q, r, rfl, rfl, h1, h2.symm, ?_⟩
      conv =>
        lhs
        unfold itemsE
        rw [if_pos hp, hi]
/-- What an item's reader returns. -/
def ItemR (R : Nat) (aT : Option Addr) (nT cT : Nat) (toks : List Tok) (len q : Nat) (x : Nd (Nd Lf)) (w : World) (e : Ending) (w' : World) : Prop := ∃ h : NH, e = .returned (nhV h) ∧ okNd (okNd okLf) w' w.heap.size w'.heap.size h x ∧ PaM w' R aT nT cT toks len q ∧ Mod (fun j => j = R) w w'
/-- All items of these tokens can be read. -/
def ItemsR (R : Nat) (aT : Option Addr) (nT cT : Nat) (toks : List Tok) (len : Nat) : Prop := ∀ p q x W, itemP toks p = some (x, q) → PaM W R aT nT cT toks len p → Calls Tryz.prog 64 #[.pointer (some ⟨R, 0, none⟩)] W (ItemR R aT nT cT toks len q x W)
def ItPost (R N : Nat) (aT : Option Addr) (nT cT : Nat) (toks : List Tok) (len q : Nat) (x : Nd (Nd Lf)) (B : Nat) (W w' : World) : Prop := N < B ∧ R < B ∧ ∃ h : NH, Own w' N 56 5 (nodeF h.kind h.name h.n h.pos (.slice h.a h.len h.c)) ∧ okNd (okNd okLf) w' W.heap.size w'.heap.size h x ∧ PaM w' R aT nT cT toks len q ∧ Mod (fun j => j = R ∨ j = N) W w'
set_option maxRecDepth 100000 in
set_option maxHeartbeats 8000000 in
theorem paItems1_ok (R N X B : Nat) (aT : Option Addr) (nT cT : Nat) (toks : List Tok) (len p q : Nat) (x : Nd (Nd Lf)) (w : World) (HM : Hid (PaM w R aT nT cT toks len p)) (HN : Hid (Own w N 56 5 (nodeF 0 ⟨#[]⟩ 0 0 (.slice none 0 0)))) (hX : w.cell? ⟨X, 0, none⟩ = some (.pointer (some ⟨R, 0, none⟩))) (HB : Hid (R < N ∧ N < B ∧ B ≤ w.heap.size)) (HI : Hid (ItemsR R aT nT cT toks len)) (hit : itemP toks p = some (x, q)) :
    Calls Tryz.prog 63 #[.pointer (some ⟨X, 0, none⟩), .pointer (some ⟨N, 0, none⟩)] w fun e w' => e = .returned (.tuple #[]) ∧ ItPost R N aT nT cT toks len q x B w w' := by
  have HC := Lib.hid (HI.out p q x w hit HM.out)
  have hXl : X < w.heap.size := World.block_lt_of_cell? _ _ hX
  clear hit
  go_enter Tryz.func63, Tryz.ntmps63
  go_wp2_with fail
  refine HC.out.mono ?_
  rintro e w1 ⟨h, rfl, hok, hM1, hmo1⟩
  have HOK := Lib.hid hok
  have HM1 := Lib.hid hM1
  have HMo1 := Lib.hid hmo1
  have HN1 := Lib.hid (HN.out.mod hmo1 (by have := HB.out; omega))
  clear hok hM1 hmo1 hX hXl
  obtain ⟨hkk, hna, hnn, hpo, ha, hln, hc⟩ := h
  rw [show nhV ⟨hkk, hna, hnn, hpo, ha, hln, hc⟩ = .agg #[.int .i64 hkk, .string hna, .int .i64 hnn, .int .i64 (hpo : Nat), .slice ha hln hc] from rfl]
  have z0 : w1.cell? ⟨N, 0, none⟩ = some (.int .i64 0) := HN1.out.cell (i := 0) (by omega)
  have z1 : w1.cell? ⟨N, 1, none⟩ = some (.string ⟨#[]⟩) := HN1.out.cell (i := 1) (by omega)
  have z2 : w1.cell? ⟨N, 2, none⟩ = some (.int .i64 0) := HN1.out.cell (i := 2) (by omega)
  have z3 : w1.cell? ⟨N, 3, none⟩ = some (.int .i64 (0 : Nat)) := HN1.out.cell (i := 3) (by omega)
  have z4 : w1.cell? ⟨N, 4, none⟩ = some (.slice none 0 0) := HN1.out.cell (i := 4) (by omega)
  have f0 := HN1.out.frozen 0
  have f1 := HN1.out.frozen 1
  have f2 := HN1.out.frozen 2
  have f3 := HN1.out.frozen 3
  have f4 := HN1.out.frozen 4
  have hNl : N < w1.heap.size := HN1.out.lt
  go_wp2_with fail
  go_end0
  refine ⟨rfl, ?_⟩
  have hXM : Mod (fun j => j = N) w1 (((((w1.setCell ⟨N, 0, none⟩ (.int .i64 hkk)).setCell ⟨N, 1, none⟩ (.string hna)).setCell ⟨N, 2, none⟩ (.int .i64 hnn)).setCell ⟨N, 3, none⟩ (.int .i64 (hpo : Nat))).setCell ⟨N, 4, none⟩ (.slice ha hln hc)) := (((((show Mod (fun j => j = N) w1 w1 from Mod.refl _ w1).setCell (p := ⟨N, 0, none⟩) (.inl rfl) _).setCell (p := ⟨N, 1, none⟩) (.inl rfl) _).setCell (p := ⟨N, 2, none⟩) (.inl rfl) _).setCell (p := ⟨N, 3, none⟩) (.inl rfl) _).setCell (p := ⟨N, 4, none⟩) (.inl rfl) _
  have hb := HB.out
  exact ⟨hb.2.1, by omega, ⟨hkk, hna, hnn, hpo, ha, hln, hc⟩, nodeF_all HN1.out hkk hnn hpo hna (.slice ha hln hc), okNd_wide ((okNd_firm (okNd_firm okLf_firm)).calm HOK.out (Calm.of hXM (fun j hj _ e => by omega))) (Nat.le_refl _) hXM.size, HM1.out.mod hXM (fun j hj e => by omega), (HMo1.out.mono (fun j _ e => .inl e)).trans (hXM.mono (fun j _ e => .inr e))⟩
theorem cf_items1 (args : Array Value) (W : World) : (callFunc 63 args).run Tryz.prog W = .ok (.enter 63 args) W := by go_simp
set_option maxRecDepth 100000 in
theorem paFull_any (R : Nat) (aT : Option Addr) (nT cT : Nat) (toks : List Tok) (len p : Nat) (w : World) (HM : Hid (PaM w R aT nT cT toks len p)) : Calls Tryz.prog 61 #[.pointer (some ⟨R, 0, none⟩)] w fun e w' => e = .returned (.bool false) ∧ w' = w := by
  obtain ⟨k0, k1, k2, k3⟩ := HM.out.cells
  have hRl : R < w.heap.size := HM.out.ow.lt
  go_enter Tryz.func61, Tryz.ntmps61
  go_wp2_with fail
  go_ret
  exact ⟨rfl, rfl⟩
set_option maxRecDepth 100000 in
set_option maxHeartbeats 8000000 in
theorem paItems_ok (R : Nat) (aT : Option Addr) (nT cT : Nat) (toks : List Tok) (len f : Nat) (xs : List (Nd (Nd Lf))) (w : World) (HM : Hid (PaM w R aT nT cT toks len 0)) (HI : Hid (ItemsR R aT nT cT toks len)) (hit : itemsP toks f 0 = some xs) (hf : xs.length ≤ 90000) :
    Calls Tryz.prog 32 #[.pointer (some ⟨R, 0, none⟩)] w (KidPost (okNd (okNd okLf)) w R aT nT cT toks len (itemsE toks f 0) xs) := by
  have HLN : Hid (toks.length = nT ∧ nT ≤ 2000) := Lib.hid ⟨HM.out.ln.1, HM.out.ln.2.1⟩
  have HRL : Hid (R < w.heap.size) := Lib.hid HM.out.ow.lt
  have HALL : Hid (itemsP toks f 0 = some xs) := Lib.hid hit
  have HXL := Lib.hid hf
  clear hit hf
  obtain ⟨X, hX⟩ : ∃ X, X = w.heap.size := ⟨_, rfl⟩
  obtain ⟨W0, hW0⟩ : ∃ W, W = w.alloc (.cells #[.pointer (some ⟨R, 0, none⟩)] 85) := ⟨_, rfl⟩
  have hb0 : Below w.heap.size w W0 := by rw [hW0]; exact (Below.refl _ _).alloc (Nat.le_refl _) _
  have HX0 : Hid (Own W0 X 85 1 (fun _ => .pointer (some ⟨R, 0, none⟩))) := Lib.hid (by rw [hW0, hX]; exact Own.one _ _ _)
  have HM0 := Lib.hid (HM.out.keep hb0)
  have HMo0 : Hid (Mod (fun j => j = R) w W0) := Lib.hid (modB hb0)
  have HXR : Hid (R < X ∧ w.heap.size ≤ X ∧ X < W0.heap.size) := Lib.hid ⟨by rw [hX]; exact HRL.out, by omega, HX0.out.lt⟩
  have HW0 := Lib.hid hW0
  have HX := Lib.hid hX
  clear hb0 hW0 hX
  go_enter Tryz.func32, Tryz.ntmps32
  go_upto_region 1 with (fail)
  rw [← HW0.out, ← HX.out]
  clear HW0
  go_wp2_with fail
  go_loopg [3] f (fun g1 v3 wr => ∃ (q f' : Nat) (v : Value) (hs : List NH) (acc r : List (Nd (Nd Lf))), v3 = v ∧ f' ≤ g1 ∧ Hid (GrL (okNd (okNd okLf)) wr (X + 1) v hs acc) ∧ Hid (PaM wr R aT nT cT toks len q) ∧ Hid (Mod (fun j => j = R) w wr) ∧ Hid (Own wr X 85 1 (fun _ => .pointer (some ⟨R, 0, none⟩))) ∧ Hid (itemsP toks f' q = some r ∧ acc ++ r = xs ∧ itemsE toks f' q = itemsE toks f 0))
  case atStart => exact ⟨0, f, _, [], [], xs, rfl, Nat.le_refl _, Lib.hid (GrL.nil _ _), HM0, HMo0, HX0, Lib.hid ⟨HALL.out, rfl, rfl⟩⟩
  case round =>
    clear HM0 HMo0 HX0 HALL
    obtain ⟨q, f', v, hs, acc, r, rfl, hg1, HG, HM, HMo, HX, HA⟩ := hrel
    obtain ⟨va, vc, hv⟩ := HG.out.own.shape
    obtain ⟨vn, hvn⟩ : ∃ vn, vn = hs.length := ⟨_, rfl⟩
    rw [← hvn] at hv
    clear hvn
    subst hv
    have HLA : Hid (acc.length ≤ 90000) := Lib.hid (by have h1 := HXL.out; rw [← HA.out.2.1, List.length_append] at h1; omega)
    obtain ⟨k0, k1, k2, k3⟩ := HM.out.cells
    have hRl : R < wr.heap.size := HM.out.ow.lt
    have x0 : wr.cell? ⟨X, 0, none⟩ = some (.pointer (some ⟨R, 0, none⟩)) := HX.out.cell (i := 0) (by omega)
    have hXl : X < wr.heap.size := HX.out.lt
    by_cases hlt : q < nT
    · have hltz : (q : Int) < (nT : Int) := by omega
      have hltd : decide ((q : Int) < (nT : Int)) = true := decide_eq_true hltz
      obtain ⟨f2, x, q2, r2, hf2, hix, hir, hxr, hqe⟩ := itemsP_at HA.out.1 (by rw [HLN.out.1]; exact hlt)
      subst hf2
      have HA2 : Hid (itemsP toks f2 q2 = some r2 ∧ (acc ++ [x]) ++ r2 = xs ∧ itemsE toks f2 q2 = itemsE toks f 0) := Lib.hid ⟨hir, by rw [List.append_assoc, List.singleton_append, ← hxr]; exact HA.out.2.1, by rw [← hqe]; exact HA.out.2.2⟩
      have HIX := Lib.hid hix
      clear hix hir hxr hqe
      go_wp2_with fail
      go_quiet (first | (go_at_call 61; exact Calls.quiet_of_same (paFull_any R aT nT cT toks len q _ (Lib.hid ⟨HM.out.ow, HM.out.tk, HM.out.ln, HM.out.ne⟩))))
      go_step
      go_step
      refine wp_world (fun V => Below wr.heap.size wr V) (below_drewG _ (Below.refl _ _)) (fun V hbV => ?_)
      have HG := Lib.hid (HG.out.keep (okNd_firm (okNd_firm okLf_firm)) hbV)
      have HM := Lib.hid (HM.out.keep hbV)
      have HX := Lib.hid (HX.out.keep hbV HX.out.lt)
      have HMo : Hid (Mod (fun j => j = R) w V) := Lib.hid (HMo.out.trans (modB hbV))
      clear k0 k1 k2 k3 hRl x0 hXl hbV
      go_upto_region 4 with (fail)
      obtain ⟨W1, hW1⟩ : ∃ W, W = V.alloc (.cells #[.int .i64 0, .string ⟨#[]⟩, .int .i64 0, .int .i64 0, .slice none 0 0] 56) := ⟨_, rfl⟩
      obtain ⟨N, hN⟩ : ∃ N, N = V.heap.size := ⟨_, rfl⟩
      have hb1 : Below V.heap.size V W1 := by rw [hW1]; exact (Below.refl _ _).alloc (Nat.le_refl _) _
      have HN : Hid (Own W1 N 56 5 (nodeF 0 ⟨#[]⟩ 0 0 (.slice none 0 0))) := Lib.hid (by rw [hW1]; exact nodeF_new _ 0 ⟨#[]⟩ 0 0 _ _ hN.symm)
      rw [← hW1, ← hN]
      have HBV := Lib.hid hb1
      have HNV := Lib.hid hN
      have HM1 := Lib.hid (HM.out.keep hb1)
      have HX1 := Lib.hid (HX.out.keep hb1 HX.out.lt)
      have HMo1 : Hid (Mod (fun j => j = R) w W1) := Lib.hid (HMo.out.trans (modB hb1))
      have HNX : Hid (X < N ∧ (∀ b, (Value.slice va vn vc).ownBlock = some b → b < N)) := Lib.hid ⟨by rw [hN]; exact HX.out.lt, fun b hb => by rw [hN]; exact (World.ownsRow.lt HG.out.own b hb).2⟩
      clear hW1 hN hb1 HM HX HMo
      have x0 : W1.cell? ⟨X, 0, none⟩ = some (.pointer (some ⟨R, 0, none⟩)) := HX1.out.cell (i := 0) (by omega)
      have hXl : X < W1.heap.size := HX1.out.lt
      go_wp2_with fail
      refine (paPartF_ok 63 #[.pointer (some ⟨X, 0, none⟩), .pointer (some ⟨N, 0, none⟩)] R W1 (ItPost R N aT nT cT toks len q2 x W1.heap.size) (fun W w' h => ?_) cf_items1 (Lib.hid (fun W hbW => ?_))).mono ?_
      · obtain ⟨h1, h2, h, h3, h4, h5, h6⟩ := h
        exact ⟨h6.size, h6.mono (fun j _ e => by rcases e with e | e <;> omega)⟩
      · exact paItems1_ok R N X W1.heap.size aT nT cT toks len q q2 x W (Lib.hid (HM1.out.keep hbW)) (Lib.hid (HN.out.keep hbW HN.out.lt)) ((hbW.cell (p := ⟨X, 0, none⟩) HX1.out.lt).trans (HX1.out.cell (i := 0) (by omega))) (Lib.hid ⟨by have := HNX.out.1; have := HXR.out; omega, HN.out.lt, hbW.size⟩) HI HIX.out
      rintro e w4 ⟨rfl, W, w3, hbW, hpo, hm4⟩
      obtain ⟨hp1, hp2, hh, hp3, hp4, hp5, hp6⟩ := hpo
      obtain ⟨hkk, hna, hnn, hpo, ha, hln, hc⟩ := hh
      have HN4 : Hid (Own w4 N 56 5 (nodeF hkk hna hnn hpo (.slice ha hln hc))) := Lib.hid (hp3.mod hm4 (by omega))
      have HOK4 : Hid (okNd (okNd okLf) w4 W.heap.size w3.heap.size ⟨hkk, hna, hnn, hpo, ha, hln, hc⟩ x) := Lib.hid ((okNd_firm (okNd_firm okLf_firm)).calm hp4 (Calm.of hm4 (fun j h1 h2 e => by omega)))
      have HM4 : Hid (PaM w4 R aT nT cT toks len q2) := Lib.hid (hp5.mod hm4 (fun j hj e => by omega))
      have hmw : Mod (fun j => j = R ∨ j = N) W1 w4 := ((modB hbW).trans hp6).trans2 hm4 (fun j hj e => by omega)
      have hmV : Mod (fun j => j = R) V w4 := (show Mod (fun j => j = R) V W1 from modB HBV.out).trans2 hmw (fun j hj e => by have := HNV.out; rcases e with e | e <;> omega)
      have HG4 := Lib.hid (HG.out.mod (okNd_firm (okNd_firm okLf_firm)) hmV (fun j hj _ e => by have := HXR.out; omega))
      have HX4 := Lib.hid (HX1.out.mod hmw (by have := HXR.out; have := HNX.out.1; omega))
      have HMo4 : Hid (Mod (fun j => j = R) w w4) := Lib.hid (HMo1.out.trans2 hmw (fun j hj e => by have := HXR.out; have := HNX.out.1; omega))
      have HSW : Hid (N < W.heap.size ∧ W.heap.size ≤ w3.heap.size ∧ w3.heap.size ≤ w4.heap.size) := Lib.hid ⟨Nat.lt_of_lt_of_le HN.out.lt hbW.size, hp6.size, hm4.size⟩
      clear hbW hp1 hp2 hp3 hp4 hp5 hp6 hm4 hmw hmV HG HX1 HMo1 HM1 HN x0 hXl
      obtain ⟨ap, v', w6, av, aw, HG6, HM6, HB6⟩ := app_node (okNd_firm (okNd_firm okLf_firm)) HG4.out (by have := HSW.out; have := HNX.out.1; omega) (by rw [HG4.out.len]; have := HLA.out; omega) ⟨hkk, hna, hnn, hpo, ha, hln, hc⟩ x (lo := W.heap.size) (hi := w3.heap.size) (by have := HSW.out; have := HNX.out.1; omega) HSW.out.2.1 HSW.out.2.2 (fun b hb => .inl (by have := HNX.out.2 b hb; have := HSW.out; omega)) HOK4.out
      have HP6 : Hid (PaM w6 R aT nT cT toks len q2) := Lib.hid (HM4.out.mod HM6.out (fun j hj e => by have := (World.ownsRow.lt HG4.out.own _ e).1; have := HXR.out; omega))
      have HMo6 : Hid (Mod (fun j => j = R) w w6) := Lib.hid (HMo4.out.trans2 HM6.out (fun j hj e => by have := (World.ownsRow.lt HG4.out.own _ e).1; have := HXR.out; omega))
      have HX6 := Lib.hid (HX4.out.mod HM6.out (fun e => by have := (World.ownsRow.lt HG4.out.own _ e).1; omega))
      have y0 : w4.cell? ⟨N, 0, none⟩ = some (.int .i64 hkk) := HN4.out.cell (i := 0) (by omega)
      have y1 : w4.cell? ⟨N, 1, none⟩ = some (.string hna) := HN4.out.cell (i := 1) (by omega)
      have y2 : w4.cell? ⟨N, 2, none⟩ = some (.int .i64 hnn) := HN4.out.cell (i := 2) (by omega)
      have y3 : w4.cell? ⟨N, 3, none⟩ = some (.int .i64 (hpo : Nat)) := HN4.out.cell (i := 3) (by omega)
      have y4 : w4.cell? ⟨N, 4, none⟩ = some (.slice ha hln hc) := HN4.out.cell (i := 4) (by omega)
      have hNl : N < w4.heap.size := HN4.out.lt
      clear HG4 HX4 HMo4 HM4 HM6 HB6 HOK4
      go_wp2_with fail
      go_roundg f2
      case measure => omega
      case rel => exact ⟨q2, f2, _, _, acc ++ [x], r2, rfl, Nat.le_refl _, HG6, HP6, HMo6, HX6, HA2⟩
    · have hltz : ¬ (q : Int) < (nT : Int) := by omega
      have hltd : decide ((q : Int) < (nT : Int)) = false := decide_eq_false hltz
      have HE : Hid (acc = xs) := Lib.hid (by
        have h1 := itemsP_end HA.out.1 (by rw [HLN.out.1]; exact hlt)
        have h2 := HA.out.2.1
        rw [h1, List.append_nil] at h2
        exact h2)
      have HQE : Hid (q = itemsE toks f 0) := Lib.hid (by rw [← HA.out.2.2, itemsE_end (by rw [HLN.out.1]; exact hlt)])
      go_wp2_with fail
      go_quiet (fail)
      go_step
      go_step
      refine wp_world (fun V => Below wr.heap.size wr V) (below_drewG _ (Below.refl _ _)) (fun V hbV => ?_)
      have HG := Lib.hid (HG.out.keep (okNd_firm (okNd_firm okLf_firm)) hbV)
      have HM := Lib.hid (HM.out.keep hbV)
      have HMo : Hid (Mod (fun j => j = R) w V) := Lib.hid (HMo.out.trans (modB hbV))
      clear k0 k1 k2 k3 hRl x0 hXl hbV
      go_wp2_with fail
      go_ret
      exact ⟨va, vn, vc, hs, rfl, by rw [← HE.out]; exact HG.out.base (by have := HXR.out; omega), by rw [← HQE.out]; exact HM.out, HMo.out⟩
end Go.Proofs.YtoekpdnpncgeeaaGreat
/-
The parser: counting nodes; Parse.
-/
namespace Go.Proofs.YtoekpdnpncgeeaaGreat
open Go.RowKit
set_option linter.unusedVariables false
set_option linter.unusedSimpArgs false
def szNd {X : Type} (sz : X → Nat) (x : Nd X) : Nat := 1 + (x.kids.map sz).sum
theorem sum_take_succ : ∀ (l : List Nat) (i : Nat) (s : Nat), l[i]? = some s → (l.take (i + 1)).sum = (l.take i).sum + s
  | a :: l, 0, s, h => by simp at h; simp [h]
  | a :: l, i + 1, s, h => by
    have := sum_take_succ l i s (by simpa using h)
    simp only [List.take_succ_cons, List.sum_cons]
    omega
theorem sum_take_le : ∀ (l : List Nat) (i : Nat), (l.take i).sum ≤ l.sum
  | [], i => by simp
  | a :: l, 0 => by simp
  | a :: l, i + 1 => by have := sum_take_le l i; simp only [List.take_succ_cons, List.sum_cons]; omega
theorem len_le_sum {X : Type} {sz : X → Nat} (hz : ∀ x, 1 ≤ sz x) : ∀ l : List X, l.length ≤ (l.map sz).sum
  | [] => by simp
  | a :: l => by have h1 := len_le_sum hz l; have h2 := hz a; simp only [List.length_cons, List.map_cons, List.sum_cons]; omega
/-- count of nodes of a kind. -/
def CountOk {X : Type} (ok : World → Nat → Nat → NH → X → Prop) (sz : X → Nat) : Prop := ∀ (W : World) (lo hi : Nat) (h : NH) (x : X) (lim : Nat), ok W lo hi h x → hi ≤ W.heap.size → sz x ≤ lim → lim ≤ 2000 → Calls Tryz.prog 33 #[nhV h, .int .i64 (lim : Nat)] W fun e w' => e = .returned (.int .i64 (sz x : Nat)) ∧ Below W.heap.size W w'
theorem node_at {W : World} {A : Option Addr} {hs : List NH} (h : Rd 5 encNH W A hs) {k : Nat} (hk : k < hs.length) : ∃ b off x, A = some ⟨b, off, none⟩ ∧ b < W.heap.size ∧ hs[k]? = some x ∧ W.cell? ⟨b, off + k * 5, none⟩ = some (.int .i64 x.kind) ∧ W.cell? ⟨b, off + k * 5 + 1, none⟩ = some (.string x.name) ∧ W.cell? ⟨b, off + k * 5 + 2, none⟩ = some (.int .i64 x.n) ∧ W.cell? ⟨b, off + k * 5 + 3, none⟩ = some (.int .i64 (x.pos : Nat)) ∧ W.cell? ⟨b, off + k * 5 + 4, none⟩ = some (.slice x.a x.len x.c) := by
  obtain ⟨b, off, x, hA, hb, hx, hc⟩ := h.at_ (k := k) hk
  exact ⟨b, off, x, hA, hb, hx, hc 0 _ rfl, hc 1 _ rfl, hc 2 _ rfl, hc 3 _ rfl, hc 4 _ rfl⟩
set_option maxRecDepth 100000 in
set_option maxHeartbeats 8000000 in
theorem paCount_core (h : NH) (hs : List NH) (ss : List Nat) (lim : Nat) (w : World) (hl : hs.length = h.len) (hr : Rd 5 encNH w h.a hs) (hss : ss.length = hs.length) (hlim : 1 + ss.sum ≤ lim) (hlim2 : lim ≤ 2000) (h90 : hs.length ≤ 90000)
    (HC : Hid (∀ (k : Nat) (hk : NH) (s : Nat), hs[k]? = some hk → ss[k]? = some s → ∀ (W : World) (lm : Nat), Below w.heap.size w W → s ≤ lm → lm ≤ 2000 → Calls Tryz.prog 33 #[nhV hk, .int .i64 (lm : Nat)] W fun e w' => e = .returned (.int .i64 (s : Nat)) ∧ Below W.heap.size W w')) :
    Calls Tryz.prog 33 #[nhV h, .int .i64 (lim : Nat)] w fun e w' => e = .returned (.int .i64 ((1 + ss.sum : Nat) : Nat)) ∧ Below w.heap.size w w' := by
  obtain ⟨hkk, hna, hnn, hpo, ha, hln, hc⟩ := h
  rw [show nhV ⟨hkk, hna, hnn, hpo, ha, hln, hc⟩ = .agg #[.int .i64 hkk, .string hna, .int .i64 hnn, .int .i64 (hpo : Nat), .slice ha hln hc] from rfl]
  have hl : hs.length = hln := hl
  have hr : Rd 5 encNH w ha hs := hr
  obtain ⟨X, hX⟩ : ∃ X, X = w.heap.size := ⟨_, rfl⟩
  obtain ⟨W0, hW0⟩ : ∃ W, W = w.alloc (.cells #[.int .i64 hkk, .string hna, .int .i64 hnn, .int .i64 (hpo : Nat), .slice ha hln hc] 56) := ⟨_, rfl⟩
  have hb0 : Below w.heap.size w W0 := by rw [hW0]; exact (Below.refl _ _).alloc (Nat.le_refl _) _
  have x4 : W0.cell? ⟨X, 4, none⟩ = some (.slice ha hln hc) := by rw [hW0, hX]; go_simp
  have hXl : X < W0.heap.size := by rw [hW0, hX]; simp
  have HB0 := Lib.hid hb0
  have HR := Lib.hid hr
  have HL := Lib.hid hl
  have h90 : hln ≤ 90000 := by omega
  have HSS := Lib.hid hss
  have HLM : Hid (1 + ss.sum ≤ lim ∧ lim ≤ 2000) := Lib.hid ⟨hlim, hlim2⟩
  have HW0 := Lib.hid hW0
  have HX := Lib.hid hX
  clear hb0 hr hl hss hlim hlim2 hW0 hX
  go_enter Tryz.func33, Tryz.ntmps33
  go_upto_region 1 with (fail)
  rw [← HW0.out, ← HX.out]
  clear HW0
  go_wp2_with fail
  go_loopg [5, 11] hln (fun g1 v5 v11 wr => ∃ (i : Nat), v5 = .int .i64 ((1 + (ss.take i).sum : Nat) : Nat) ∧ v11 = .int .i64 i ∧ i ≤ hln ∧ hln - i ≤ g1 ∧ Hid (Below w.heap.size w wr))
  case atStart => exact ⟨0, by simp, by go_num, by omega, by omega, HB0⟩
  case round =>
    obtain ⟨i, rfl, rfl, hi, hg1, HB⟩ := hrel
    obtain ⟨S, hS⟩ : ∃ S, S = 1 + (ss.take i).sum := ⟨_, rfl⟩
    rw [← hS]
    have HS := Lib.hid hS
    clear hS
    by_cases hlt : i < hln
    · have hltz : (i : Int) < (hln : Int) := by omega
      obtain ⟨b, off, x, hA, hbl, hx, d0, d1, d2, d3, d4⟩ := node_at (HR.out.keep HB.out) (k := i) (by rw [HL.out]; exact hlt)
      have HA := Lib.hid hA
      obtain ⟨s, hs1⟩ : ∃ s, ss[i]? = some s := ⟨_, List.getElem?_eq_getElem (by rw [HSS.out, HL.out]; exact hlt)⟩
      have HST : Hid (1 + (ss.take (i + 1)).sum = S + s ∧ S + s ≤ lim) := Lib.hid (by
        have h1 := sum_take_succ ss i s hs1
        have h2 := sum_take_le ss (i + 1)
        have h3 := HLM.out
        have h4 := HS.out
        omega)
      have HCk := Lib.hid (HC.out i x s hx hs1)
      have hSl : S ≤ lim := by have := HST.out; omega
      have hSz : ¬ (lim : Int) < (S : Int) := by omega
      have hll : lim ≤ 2000 := HLM.out.2
      have hsub : IntKind.i64.wrap ((lim : Int) - (S : Int)) = ((lim - S : Nat) : Int) := by rw [IntWalk.i64_in _ (by omega)]; omega
      have hadd : IntKind.i64.wrap ((S : Int) + (s : Int)) = ((S + s : Nat) : Int) := by rw [IntWalk.i64_in _ (by have := HST.out; omega)]; omega
      obtain ⟨xkk, xna, xnn, xpo, xa, xln, xc⟩ := x
      rw [show nhV ⟨xkk, xna, xnn, xpo, xa, xln, xc⟩ = .agg #[.int .i64 xkk, .string xna, .int .i64 xnn, .int .i64 (xpo : Nat), .slice xa xln xc] from rfl] at HCk
      subst hA
      dsimp only at d0 d1 d2 d3 d4
      clear hx hs1
      go_upto_region 5 with (fail)
      obtain ⟨W1, hW1⟩ : ∃ W, W = wr.alloc (.cells #[.int .i64 xkk, .string xna, .int .i64 xnn, .int .i64 (xpo : Nat), .slice xa xln xc] 56) := ⟨_, rfl⟩
      obtain ⟨N, hN⟩ : ∃ N, N = wr.heap.size := ⟨_, rfl⟩
      have hb1 : Below wr.heap.size wr W1 := by rw [hW1]; exact (Below.refl _ _).alloc (Nat.le_refl _) _
      have y0 : W1.cell? ⟨N, 0, none⟩ = some (.int .i64 xkk) := by rw [hW1, hN]; go_simp
      have y1 : W1.cell? ⟨N, 1, none⟩ = some (.string xna) := by rw [hW1, hN]; go_simp
      have y2 : W1.cell? ⟨N, 2, none⟩ = some (.int .i64 xnn) := by rw [hW1, hN]; go_simp
      have y3 : W1.cell? ⟨N, 3, none⟩ = some (.int .i64 (xpo : Nat)) := by rw [hW1, hN]; go_simp
      have y4 : W1.cell? ⟨N, 4, none⟩ = some (.slice xa xln xc) := by rw [hW1, hN]; go_simp
      have hNl : N < W1.heap.size := by rw [hW1, hN]; simp
      have HB1 : Hid (Below w.heap.size w W1) := Lib.hid (below_then HB.out hb1)
      rw [← hW1, ← hN]
      clear hW1 hN hb1 d0 d1 d2 d3 d4 hbl x4 hXl
      go_wp2_with fail
      refine (HCk.out W1 (lim - S) HB1.out (by have := HST.out; omega) (by omega)).mono ?_
      rintro e W2 ⟨rfl, hb2⟩
      have HB2 : Hid (Below w.heap.size w W2) := Lib.hid (below_then HB1.out hb2)
      clear hb2
      go_wp2_with fail
      go_roundg (hln - (i + 1))
      case measure => omega
      case rel => exact ⟨i + 1, by rw [HST.out.1]; exact congrArg (Value.int IntKind.i64) (by omega), by go_num, by omega, by omega, HB2⟩
    · have hltz : ¬ (i : Int) < (hln : Int) := by omega
      have HE : Hid (S = 1 + ss.sum) := Lib.hid (by rw [HS.out, List.take_of_length_le (by rw [HSS.out, HL.out]; omega)])
      go_wp2_with fail
      go_ret
      exact ⟨congrArg (fun z => Ending.returned (Value.int IntKind.i64 z)) (by have := HE.out; omega), HB.out⟩
theorem countOk_leaf : CountOk okLf (fun _ => 1) := fun W lo hi h x lim hok _ h1 h2 => by
  have h0 : h.len = 0 := hok.2.2.2.2
  exact (paCount_core h [] [] lim W (by rw [h0]; rfl) Rd.nil rfl (by simpa using h1) h2 (by simp) (Lib.hid (fun k hk s h => by simp at h))).mono (fun e w' h => ⟨h.1, h.2⟩)
theorem countOk_node {X : Type} {ok : World → Nat → Nat → NH → X → Prop} {sz : X → Nat} (hf : Firm ok) (hz : ∀ x, 1 ≤ sz x) (h : CountOk ok sz) : CountOk (okNd ok) (szNd sz) := fun W lo hi n x lim hok hhi h1 h2 => by
  obtain ⟨_, _, _, _, hs, g⟩ := hok
  obtain ⟨hl, hr⟩ := g.rd
  refine (paCount_core n hs (x.kids.map sz) lim W hl hr (by rw [List.length_map, g.len]) h1 h2 (by have h3 := len_le_sum hz x.kids; unfold szNd at h1; rw [g.len]; omega) (Lib.hid (fun k hk s hhk hs2 W' lm hb hs3 hlm => ?_))).mono (fun e w' h => ⟨h.1, h.2⟩)
  rw [List.getElem?_map] at hs2
  obtain ⟨y, hy, rfl⟩ := Option.map_eq_some_iff.1 hs2
  obtain ⟨lo', hi', q1, q2, q3, q4⟩ := g.mem k hk y hhk hy
  exact h W' lo' hi' hk y lm (hf.calm q4 (Calm.of (Mod.of_below hb) (fun j _ h2 h3 => by omega))) (by have := hb.size; omega) hs3 hlm
/-- What Parse returns for a source without errors. -/
def PrsPost (w : World) (x : Nd (Nd (Nd Lf))) (e : Ending) (w' : World) : Prop := ∃ h : NH, e = .returned (.tuple #[nhV h, .slice none 0 0]) ∧ okNd (okNd (okNd okLf)) w' w.heap.size w'.heap.size h x ∧ Below w.heap.size w w'
def szR : Nd (Nd (Nd Lf)) → Nat := szNd (szNd (szNd (fun _ => 1)))
theorem szNd_pos {X : Type} (sz : X → Nat) (x : Nd X) : 1 ≤ szNd sz x := by unfold szNd; omega
theorem countOk_root : CountOk (okNd (okNd (okNd okLf))) szR := countOk_node (okNd_firm (okNd_firm okLf_firm)) (szNd_pos _) (countOk_node (okNd_firm okLf_firm) (szNd_pos _) (countOk_node okLf_firm (fun _ => Nat.le_refl 1) countOk_leaf))
theorem results_ctT {P : Program} {fn : Func} {a t : Tmp} {ty : TypeId} {tmps : Array Value} {b : Nat} {x : Value} {w : World} (h : fn.results = #[.cell a ty, .tmp t]) (ha : tmps.getD a undef = .pointer (some ⟨b, 0, none⟩)) (hl : (loadVar ty ⟨b, 0, none⟩).run P w = .ok x w) :
    (results fn tmps).run P w = .ok (.tuple #[x, tmps.getD t undef]) w := by
  have ha' : tmps[a]?.getD undef = .pointer (some ⟨b, 0, none⟩) := by simpa using ha
  simp [results, h, ha', hl, asAddr]
theorem cf_items (args : Array Value) (W : World) : (callFunc 32 args).run Tryz.prog W = .ok (.enter 32 args) W := by go_simp
set_option maxRecDepth 100000 in
set_option maxHeartbeats 8000000 in
theorem paParse_ok (s : ByteArray) (f : Nat) (toks : List Tok) (fi : Nat) (xs : List (Nd (Nd Lf))) (w : World) (hs : s.size ≤ 8000) (hlex : lexGo s f 0 = some toks) (htl : toks.length ≤ 1900) (hit : itemsP toks fi 0 = some xs) (hsz : szR ⟨1, ⟨#[]⟩, 0, 0, xs⟩ ≤ 1500) (HI : Hid (∀ R aT nT cT, ItemsR R aT nT cT toks s.size)) :
    Calls Tryz.prog 15 #[.string s] w (PrsPost w ⟨1, ⟨#[]⟩, 0, 0, xs⟩) := by
  have HXL : Hid (xs.length ≤ 1500) := Lib.hid (by have h1 : 1 + (xs.map (szNd (szNd (fun _ => 1)))).sum ≤ 1500 := hsz; have h2 := len_le_sum (szNd_pos (szNd (fun _ => 1))) xs; omega)
  have hn8 : s.size ≤ 8000 := hs
  obtain ⟨X, hX⟩ : ∃ X, X = w.heap.size := ⟨_, rfl⟩
  obtain ⟨W0, hW0⟩ : ∃ W, W = w.alloc (.cells #[.int .i64 0, .string ⟨#[]⟩, .int .i64 0, .int .i64 0, .slice none 0 0] 56) := ⟨_, rfl⟩
  have hb0 : Below w.heap.size w W0 := by rw [hW0]; exact (Below.refl _ _).alloc (Nat.le_refl _) _
  have HN0 : Hid (Own W0 X 56 5 (nodeF 0 ⟨#[]⟩ 0 0 (.slice none 0 0))) := Lib.hid (by rw [hW0]; exact nodeF_new _ 0 ⟨#[]⟩ 0 0 _ _ hX.symm)
  have HLX := Lib.hid (lxLex_ok s f toks W0 hs hlex htl)
  have HB0 := Lib.hid hb0
  have HIT := Lib.hid hit
  have HSZ := Lib.hid hsz
  have HTL := Lib.hid htl
  have HW0 := Lib.hid hW0
  have HX := Lib.hid hX
  clear hb0 hit hsz htl hW0 hX hs hlex
  go_enter Tryz.func15, Tryz.ntmps15
  go_upto_region 1 with (fail)
  rw [← HW0.out, ← HX.out]
  clear HW0
  go_wp2_with fail
  refine HLX.out.mono ?_
  rintro e w1 ⟨v, rfl, hown, hb1⟩
  have HOW := Lib.hid hown
  have HN1 := Lib.hid (HN0.out.keep hb1 HN0.out.lt)
  have HB1 : Hid (Below w.heap.size w w1) := Lib.hid (below_then HB0.out hb1)
  have HX1 : Hid (X < W0.heap.size ∧ W0.heap.size ≤ w1.heap.size) := Lib.hid ⟨HN0.out.lt, hb1.size⟩
  obtain ⟨sa, sc, hv, hrd⟩ := hown.rd encTok_len
  obtain ⟨nT, hnT⟩ : ∃ n, n = toks.length := ⟨_, rfl⟩
  rw [← hnT] at hv
  have HRD := Lib.hid hrd
  have HNT := Lib.hid hnT
  have HSA : Hid (∀ a, sa = some a → 0 < toks.length → a.block < w1.heap.size) := Lib.hid (fun a ha h0 => by
    obtain ⟨b, off, e, hl, _⟩ := hrd h0
    rw [ha] at e
    injection e with e
    rw [e]; exact hl)
  have HSB : Hid (∀ a, sa = some a → a.block < w1.heap.size) := Lib.hid (fun a ha => by
    refine (World.ownsRow.lt hown a.block ?_).2
    rw [hv, ha]
    rfl)
  subst hv
  clear hown hb1 hrd hnT HLX HN0
  go_upto_region 5 with (fail)
  obtain ⟨w2, hw2⟩ : ∃ W, W = w1.alloc (.cells #[.slice sa nT sc, .int .i64 0, .int .i64 (s.size : Nat), .slice none 0 0] 87) := ⟨_, rfl⟩
  obtain ⟨R, hR⟩ : ∃ R, R = w1.heap.size := ⟨_, rfl⟩
  have hb2 : Below w1.heap.size w1 w2 := by rw [hw2]; exact (Below.refl _ _).alloc (Nat.le_refl _) _
  have HM2 : Hid (PaM w2 R sa nT sc toks s.size 0) := Lib.hid ⟨by rw [hw2]; exact Own.newAt _ 87 _ R hR.symm rfl (fun i hi => by match i, hi with | 0, _ => rfl | 1, _ => rfl | 2, _ => rfl | 3, _ => rfl), HRD.out.keep hb2, ⟨HNT.out.symm, by have := HTL.out; have := HNT.out; omega, hn8⟩, fun a ha => by rw [hR]; exact HSB.out a ha⟩
  have HN2 := Lib.hid (HN1.out.keep hb2 HN1.out.lt)
  have HB2 : Hid (Below w.heap.size w w2) := Lib.hid (below_then HB1.out hb2)
  have HXR : Hid (X < R ∧ w.heap.size ≤ X ∧ R < w2.heap.size) := Lib.hid ⟨by have := HX1.out; omega, by have := HX.out; omega, HM2.out.ow.lt⟩
  rw [← hw2, ← hR]
  clear hw2 hR hb2 HN1 HB1 HOW HRD HSA HSB HB0 HX1
  go_wp2_with fail
  obtain ⟨w3, hw3⟩ : ∃ W, W = w2.alloc (.cells #[.func (.func 32) #[.pointer (some ⟨R, 0, none⟩)] #[]] 91) := ⟨_, rfl⟩
  rw [← hw3]
  have hb3 : Below w2.heap.size w2 w3 := by rw [hw3]; exact (Below.refl _ _).alloc (Nat.le_refl _) _
  obtain ⟨F0, hF0⟩ : ∃ F, F = w2.heap.size := ⟨_, rfl⟩
  have HF3 : Hid (w3.cell? ⟨F0, 0, none⟩ = some (.func (.func 32) #[.pointer (some ⟨R, 0, none⟩)] #[])) := Lib.hid (by rw [hw3, hF0]; go_simp)
  rw [← hF0]
  have HM3 := Lib.hid (HM2.out.keep hb3)
  have HN3 := Lib.hid (HN2.out.keep hb3 HN2.out.lt)
  have HB3 : Hid (Below w.heap.size w w3) := Lib.hid (below_then HB2.out hb3)
  have HRF : Hid (R < F0 ∧ F0 < w3.heap.size ∧ w2.heap.size ≤ w3.heap.size) := Lib.hid ⟨by have := HXR.out; omega, World.block_lt_of_cell? _ _ HF3.out, hb3.size⟩
  clear hw3 hb3 hF0 HM2 HN2 HB2
  have HCA : Hid (∀ W, Mod (fun j => j = R) w3 W → PaM W R sa nT sc toks s.size 0 → Calls Tryz.prog 32 (#[.pointer (some ⟨R, 0, none⟩)] ++ #[]) W (KidPost (okNd (okNd okLf)) W R sa nT sc toks s.size (itemsE toks fi 0) xs)) := Lib.hid (fun W hmW hPW => paItems_ok R sa nT sc toks s.size fi xs W (Lib.hid hPW) (Lib.hid (HI.out R sa nT sc)) HIT.out (by have := HXL.out; omega))
  refine (paNode_one (okNd_firm (okNd_firm okLf_firm)) 32 #[.pointer (some ⟨R, 0, none⟩)] #[] R F0 sa nT sc toks s.size 0 (itemsE toks fi 0) ⟨0, ⟨#[]⟩, 0, 0⟩ 1 ⟨#[]⟩ 0 xs w3 HM3 HF3.out (by have := HRF.out; omega) (by have := HXL.out; omega) cf_items HCA).mono ?_
  rintro e w4 ⟨h, rfl, hok, hM4, hmo4⟩
  have HOK := Lib.hid hok
  have HM4 := Lib.hid hM4
  have HN4 := Lib.hid (HN3.out.mod hmo4 (by have := HXR.out; omega))
  have HB4 : Hid (Below w.heap.size w w4) := Lib.hid (HB3.out.trans (hmo4.below (by have := HXR.out; have := HRF.out; omega) (fun k _ e => by have := HXR.out; omega)))
  have HS4 : Hid (w3.heap.size ≤ w4.heap.size) := Lib.hid hmo4.size
  clear hok hM4 hmo4 HM3 HN3 HB3 HCA HF3
  obtain ⟨hkk, hna, hnn, hpo, ha, hln, hc⟩ := h
  rw [show nhV ⟨hkk, hna, hnn, hpo, ha, hln, hc⟩ = .agg #[.int .i64 hkk, .string hna, .int .i64 hnn, .int .i64 (hpo : Nat), .slice ha hln hc] from rfl]
  go_upto_region 6 with (fail)
  obtain ⟨w5, hw5⟩ : ∃ W, W = w4.alloc (.cells #[.int .i64 hkk, .string hna, .int .i64 hnn, .int .i64 (hpo : Nat), .slice ha hln hc] 56) := ⟨_, rfl⟩
  obtain ⟨Z, hZ⟩ : ∃ Z, Z = w4.heap.size := ⟨_, rfl⟩
  have hb5 : Below w4.heap.size w4 w5 := by rw [hw5]; exact (Below.refl _ _).alloc (Nat.le_refl _) _
  have HZ5 : Hid (Own w5 Z 56 5 (nodeF hkk hna hnn hpo (.slice ha hln hc))) := Lib.hid (by rw [hw5]; exact nodeF_new _ hkk hna hnn hpo _ _ hZ.symm)
  rw [← hw5, ← hZ]
  have HM5 := Lib.hid (HM4.out.keep hb5)
  have HN5 := Lib.hid (HN4.out.keep hb5 HN4.out.lt)
  have HB5 : Hid (Below w.heap.size w w5) := Lib.hid (below_then HB4.out hb5)
  have HOK5 : Hid (okNd (okNd (okNd okLf)) w5 w3.heap.size w4.heap.size ⟨hkk, hna, hnn, hpo, ha, hln, hc⟩ ⟨1, ⟨#[]⟩, 0, 0, xs⟩) := Lib.hid ((okNd_firm (okNd_firm (okNd_firm okLf_firm))).calm HOK.out (Calm.of (Mod.of_below hb5) (fun j _ h2 h3 => by omega)))
  have HS5 : Hid (w4.heap.size ≤ w5.heap.size) := Lib.hid hb5.size
  clear hw5 hZ hb5 HM4 HN4 HB4 HOK
  obtain ⟨k0, k1, k2, k3⟩ := HM5.out.cells
  have hRl : R < w5.heap.size := HM5.out.ow.lt
  have y0 : w5.cell? ⟨Z, 0, none⟩ = some (.int .i64 hkk) := HZ5.out.cell (i := 0) (by omega)
  have y1 : w5.cell? ⟨Z, 1, none⟩ = some (.string hna) := HZ5.out.cell (i := 1) (by omega)
  have y2 : w5.cell? ⟨Z, 2, none⟩ = some (.int .i64 hnn) := HZ5.out.cell (i := 2) (by omega)
  have y3 : w5.cell? ⟨Z, 3, none⟩ = some (.int .i64 (hpo : Nat)) := HZ5.out.cell (i := 3) (by omega)
  have y4 : w5.cell? ⟨Z, 4, none⟩ = some (.slice ha hln hc) := HZ5.out.cell (i := 4) (by omega)
  have hZl : Z < w5.heap.size := HZ5.out.lt
  obtain ⟨sz, hsz⟩ : ∃ z, z = szR ⟨1, ⟨#[]⟩, 0, 0, xs⟩ := ⟨_, rfl⟩
  have HCN := Lib.hid (countOk_root w5 w3.heap.size w4.heap.size ⟨hkk, hna, hnn, hpo, ha, hln, hc⟩ _ 1500 HOK5.out HS5.out HSZ.out (by omega))
  rw [← hsz, show nhV ⟨hkk, hna, hnn, hpo, ha, hln, hc⟩ = .agg #[.int .i64 hkk, .string hna, .int .i64 hnn, .int .i64 (hpo : Nat), .slice ha hln hc] from rfl] at HCN
  have hszl : ¬ (1500 : Int) < (sz : Int) := by rw [hsz]; have := HSZ.out; omega
  clear hsz
  go_wp2_with fail
  refine HCN.out.mono ?_
  rintro e w6 ⟨rfl, hb6⟩
  have HN6 := Lib.hid (HN5.out.keep hb6 HN5.out.lt)
  have HZ6 := Lib.hid (HZ5.out.keep hb6 HZ5.out.lt)
  have HB6 : Hid (Below w.heap.size w w6) := Lib.hid (below_then HB5.out hb6)
  have HOK6 : Hid (okNd (okNd (okNd okLf)) w6 w3.heap.size w4.heap.size ⟨hkk, hna, hnn, hpo, ha, hln, hc⟩ ⟨1, ⟨#[]⟩, 0, 0, xs⟩) := Lib.hid ((okNd_firm (okNd_firm (okNd_firm okLf_firm))).calm HOK5.out (Calm.of (Mod.of_below hb6) (fun j _ h2 h3 => by have := HS5.out; omega)))
  have HS6 : Hid (w4.heap.size ≤ w6.heap.size) := Lib.hid (by have := HS5.out; have := hb6.size; omega)
  clear hb6 HN5 HZ5 HB5 HOK5 HCN HM5 k0 k1 k2 k3 hRl y0 y1 y2 y3 y4 hZl
  have y0 : w6.cell? ⟨Z, 0, none⟩ = some (.int .i64 hkk) := HZ6.out.cell (i := 0) (by omega)
  have y1 : w6.cell? ⟨Z, 1, none⟩ = some (.string hna) := HZ6.out.cell (i := 1) (by omega)
  have y2 : w6.cell? ⟨Z, 2, none⟩ = some (.int .i64 hnn) := HZ6.out.cell (i := 2) (by omega)
  have y3 : w6.cell? ⟨Z, 3, none⟩ = some (.int .i64 (hpo : Nat)) := HZ6.out.cell (i := 3) (by omega)
  have y4 : w6.cell? ⟨Z, 4, none⟩ = some (.slice ha hln hc) := HZ6.out.cell (i := 4) (by omega)
  have hZl : Z < w6.heap.size := HZ6.out.lt
  have z0 : w6.cell? ⟨X, 0, none⟩ = some (.int .i64 0) := HN6.out.cell (i := 0) (by omega)
  have z1 : w6.cell? ⟨X, 1, none⟩ = some (.string ⟨#[]⟩) := HN6.out.cell (i := 1) (by omega)
  have z2 : w6.cell? ⟨X, 2, none⟩ = some (.int .i64 0) := HN6.out.cell (i := 2) (by omega)
  have z3 : w6.cell? ⟨X, 3, none⟩ = some (.int .i64 (0 : Nat)) := HN6.out.cell (i := 3) (by omega)
  have z4 : w6.cell? ⟨X, 4, none⟩ = some (.slice none 0 0) := HN6.out.cell (i := 4) (by omega)
  have f0 := HN6.out.frozen 0
  have f1 := HN6.out.frozen 1
  have f2 := HN6.out.frozen 2
  have f3 := HN6.out.frozen 3
  have f4 := HN6.out.frozen 4
  have hNl : X < w6.heap.size := HN6.out.lt
  go_wp2_with fail
  have hoX := nodeF_all HN6.out hkk hnn hpo hna (.slice ha hln hc)
  refine bodyPost_ret (results_ctT (a := 2) (t := 3) (ty := 56) (b := X) (by kernel_rfl) rfl (node_load hoX)) rfl ?_
  have hXM : Mod (fun j => j = X) w6 (((((w6.setCell ⟨X, 0, none⟩ (.int .i64 hkk)).setCell ⟨X, 1, none⟩ (.string hna)).setCell ⟨X, 2, none⟩ (.int .i64 hnn)).setCell ⟨X, 3, none⟩ (.int .i64 (hpo : Nat))).setCell ⟨X, 4, none⟩ (.slice ha hln hc)) := (((((show Mod (fun j => j = X) w6 w6 from Mod.refl _ w6).setCell (p := ⟨X, 0, none⟩) (.inl rfl) _).setCell (p := ⟨X, 1, none⟩) (.inl rfl) _).setCell (p := ⟨X, 2, none⟩) (.inl rfl) _).setCell (p := ⟨X, 3, none⟩) (.inl rfl) _).setCell (p := ⟨X, 4, none⟩) (.inl rfl) _
  exact ⟨⟨hkk, hna, hnn, hpo, ha, hln, hc⟩, rfl, okNd_wide ((okNd_firm (okNd_firm (okNd_firm okLf_firm))).calm HOK6.out (Calm.of hXM (fun j hj _ e => by have := HXR.out; have := HRF.out; omega))) (by have := HXR.out; have := HRF.out; omega) (by have := HS6.out; have := hXM.size; omega), HB6.out.trans (hXM.below (by have := HB6.out.size; omega) (fun k _ e => by have := HXR.out; omega))⟩
end Go.Proofs.YtoekpdnpncgeeaaGreat
