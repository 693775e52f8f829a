/-
headSiteR14: the parser, the site, two proofs.
-/
import Derived.Test.YtpkonifeieepfaaGreatCPsS
import Derived.Test.YtpkonifeieepfaaGreatGLPrV
import Derived.Test.YtpkonifeieepfaaGreatGLRefA
namespace Go.Proofs.YtpkonifeieepfaaGreat
open Go.RowKit
set_option linter.unusedVariables false
set_option linter.unusedSimpArgs false
theorem siS_ok : OkSite keyL siS := by
  refine ⟨(show 1 ≤ 1 by decide), (show 1 ≤ 16 by decide), (show 1 ≤ 8 by decide), (show 0 ≤ 32 by decide), (show 2 ≤ 16 by decide), (show 0 ≤ 24 by decide), ⟨?_, ?_⟩, ?_, ?_, List.nodup_nil, ?_, ?_⟩
  · intro x hx
    have hx' : x ∈ [(⟨#[102]⟩ : ByteArray), ⟨#[111]⟩, ⟨#[120]⟩, ⟨#[121]⟩] := hx
    simp only [List.mem_cons, List.not_mem_nil, or_false] at hx'
    rcases hx' with rfl | rfl | rfl | rfl <;> exact okNameS (by decide) (by decide)
  · have e : (allNames siS).map (·.toList) = [[102], [111], [120], [121]] := by
      show [(⟨#[102]⟩ : ByteArray), ⟨#[111]⟩, ⟨#[120]⟩, ⟨#[121]⟩].map (·.toList) = _
      simp only [List.map_cons, List.map_nil, ByteArray.toList_eq]
    rw [e]
    decide
  · intro i c hc
    match i, hc with
    | 0, hc => cases hc; decide
    | i + 1, hc => cases hc
  · intro c hc; cases hc
  · intro c hc
    have hc' : c ∈ siS.chgs := hc
    simp only [siS, List.mem_cons, List.not_mem_nil, or_false] at hc'
    rcases hc' with rfl | rfl
    · show okChg 1 1 ⟨⟨#[120]⟩, 0, 1, 6, 32, 1, 0, 0⟩ = true; decide
    · show okChg 1 1 ⟨⟨#[121]⟩, 0, 1, 6, 32, 1, 6, 0⟩ = true; decide
  · intro c hc; cases hc
theorem si_load {a b : Int} (ha : 0 ≤ a ∧ a ≤ 80) (hb : 0 ≤ b ∧ b ≤ 80) : loadB siS [a, b] = true := by
  refine loadB_yes (okSB_iff.2 siS_ok) (curB_iff.2 ⟨rfl, fun i hi => ?_⟩)
  have hi' : i < 2 := hi
  match i, hi' with
  | 0, _ => exact ha
  | 1, _ => exact hb
theorem si_vio64 : vioO siS [32, 32] = some 0 := vioO_at (si_load (by decide) (by decide)) (by decide) (fun i hi => by omega) (by rfl)
theorem si_vio50 : vioO siS [32, 18] = none := vioO_all (si_load (by decide) (by decide)) (fun t ht => by
  have ht' : t < 3 := ht
  match t, ht' with
  | 0, _ => rfl
  | 1, _ => rfl
  | 2, _ => rfl)
theorem si_sort {v : Nat → Int} (h : Sorts (keyW [32, 32]) 0 2 (fI [0, 1]) v) : ∀ j, j < 2 → v j = (j : Int) := by
  have hm : ∀ k, k < 2 → v k = 0 ∨ v k = 1 := fun k hk => by
    obtain ⟨j, h1, h2, h3⟩ := h.mem (Nat.zero_le k) hk
    rw [h3]
    match j, h2 with
    | 0, _ => exact .inl rfl
    | 1, _ => exact .inr rfl
  have k0 : keyW [32, 32] 0 = 32 := rfl
  have k1 : keyW [32, 32] 1 = 32 := rfl
  have s1 := h.sorted 0 1 (by omega) (by omega) (by omega)
  unfold klt at s1
  have m0 := hm 0 (by omega)
  have m1 := hm 1 (by omega)
  have hv : v 0 = 0 ∧ v 1 = 1 := by
    rcases m0 with e0 | e0 <;> rcases m1 with e1 | e1 <;> rw [e0, e1] at s1 <;> rw [e0, e1] <;> simp only [k0, k1] at s1 <;> omega
  intro j hj
  match j, hj with
  | 0, _ => exact hv.1
  | 1, _ => exact hv.2
theorem outW_congrS {f v v' : Nat → Int} {L : Int} {k : Nat} (h : ∀ j, j < k → v j = v' j) (i : Nat) : outW f v L k i = outW f v' L k i := by
  unfold outW
  refine S_congr (fun j hj => ?_)
  have hp : preS f v j = preS f v' j := by
    unfold preS
    exact S_congr (fun m hm => by rw [h m (by omega)])
  unfold cutW
  rw [h j hj, hp]
theorem si_wit {ws : List Int} (h : IsWit siS [32, 32] 0 ws) : ws = [32, 19] := by
  obtain ⟨v, h1, h2⟩ := h
  have h3 := si_sort h1
  rw [h2]
  show rowN (outW (fI [32, 32]) v 51 2) 2 = _
  rw [rowN_congr (fun i _ => outW_congrS h3 i)]
  rfl
theorem si_prove64 {ps : List R3} {ws : List Int} {er : Int} (h : PvR siS [32, 32] ps ws er) : ws = [32, 19] ∧ er = 13 := by
  rcases h with ⟨h, _⟩ | ⟨_, t, h1, h2, h3, h4⟩ | ⟨_, h, _⟩
  · rw [si_load (by decide) (by decide)] at h; cases h
  · rw [si_vio64] at h1
    injection h1 with h1
    subst h1
    exact ⟨si_wit h4, h3⟩
  · rw [si_vio64] at h; cases h
theorem si_prove50 {ps : List R3} {ws : List Int} {er : Int} (h : PvR siS [32, 18] ps ws er) : er = 0 := by
  rcases h with ⟨h, _⟩ | ⟨_, t, h1, _⟩ | ⟨_, _, h1, h2, h3⟩
  · rw [si_load (by decide) (by decide)] at h; cases h
  · rw [si_vio50] at h1; cases h1
  · exact h3
set_option maxRecDepth 100000 in
set_option maxHeartbeats 16000000 in
theorem tpHead_any (w : World) : Calls Tryz.prog 5 #[] w fun e w' => e = .returned (.bool true) ∧ Below w.heap.size w w' := by
  go_enter Tryz.func5, Tryz.ntmps5
  go_wp2_with fail
  refine (parseS _).mono ?_
  rintro e wp ⟨⟨hkk, hna, hnn, hpo, ha, hln, hc⟩, rfl, hok, hb⟩
  have HOK := Lib.hid hok
  have HB := Lib.hid hb
  clear hok hb
  rw [show nhV ⟨hkk, hna, hnn, hpo, ha, hln, hc⟩ = .agg #[.int .i64 hkk, .string hna, .int .i64 hnn, .int .i64 (hpo : Nat), .slice ha hln hc] from rfl]
  go_wp2_with fail
  refine (buildS ⟨hkk, hna, hnn, hpo, ha, hln, hc⟩ w.heap.size wp.heap.size _ ((okNd_firm (okNd_firm (okNd_firm okLf_firm))).calm HOK.out (Calm.of (Mod.of_below ((Below.refl _ wp).alloc (Nat.le_refl _) _)) (fun j _ h2 h3 => by omega))) (by simp)).mono ?_
  rintro e w2 ⟨a1, c1, a2, c2, a4, c4, rfl, hs, hb⟩
  rw [show siS.cons.length = 1 from rfl, show siS.owns.length = 1 from rfl, show siS.chgs.length = 2 from rfl] at hs ⊢
  have HB := Lib.hid (below_then (below_then HB.out ((Below.refl _ wp).alloc (Nat.le_refl _) (.cells #[.int .i64 hkk, .string hna, .int .i64 hnn, .int .i64 (hpo : Nat), .slice ha hln hc] 49))) hb)
  have HS := Lib.hid hs
  clear hs hb HOK
  go_upto_region 3 with (fail)
  obtain ⟨W3, hW3⟩ : ∃ W, W = w2.alloc (.cells #[.slice a1 1 c1, .slice a2 1 c2, .slice none 0 0, .slice a4 2 c4, .slice none 0 0] 28) := ⟨_, rfl⟩
  obtain ⟨Y, hY⟩ : ∃ Y, Y = w2.heap.size := ⟨_, rfl⟩
  have hb : Below w2.heap.size w2 W3 := by rw [hW3]; exact (Below.refl _ _).alloc (Nat.le_refl _) _
  have HY : Hid (Own W3 Y 28 5 (siF (.slice a1 1 c1) (.slice a2 1 c2) (.slice none 0 0) (.slice a4 2 c4) (.slice none 0 0))) := Lib.hid (by rw [hW3]; exact Own.newAt _ 28 _ _ hY.symm (n := 5) rfl (fun i hi => by match i, hi with | 0, _ => rfl | 1, _ => rfl | 2, _ => rfl | 3, _ => rfl | 4, _ => rfl))
  rw [← hW3, ← hY]
  have HB := Lib.hid (below_then HB.out hb)
  have HS := Lib.hid (HS.out.keep hb)
  clear hb hW3 hY
  have y0 : W3.cell? ⟨Y, 0, none⟩ = some (.slice a1 1 c1) := HY.out.cell (i := 0) (by omega)
  have y1 : W3.cell? ⟨Y, 1, none⟩ = some (.slice a2 1 c2) := HY.out.cell (i := 1) (by omega)
  have y2 : W3.cell? ⟨Y, 2, none⟩ = some (.slice none 0 0) := HY.out.cell (i := 2) (by omega)
  have y3 : W3.cell? ⟨Y, 3, none⟩ = some (.slice a4 2 c4) := HY.out.cell (i := 3) (by omega)
  have y4 : W3.cell? ⟨Y, 4, none⟩ = some (.slice none 0 0) := HY.out.cell (i := 4) (by omega)
  have hYl : Y < W3.heap.size := HY.out.lt
  obtain ⟨V4, hV4⟩ : ∃ W, W = W3.alloc (.cells #[.int .i64 32, .int .i64 32] 3) := ⟨_, rfl⟩
  obtain ⟨L4, hL4⟩ : ∃ L, L = W3.heap.size := ⟨_, rfl⟩
  have hx := rd_litI W3 #[.int .i64 32, .int .i64 32] [32, 32] rfl
  have hb : Below W3.heap.size W3 V4 := by rw [hV4]; exact (Below.refl _ _).alloc (Nat.le_refl _) _
  rw [← hV4, ← hL4] at hx
  have HX := Lib.hid hx
  have HB := Lib.hid (below_then HB.out hb)
  have HSv := Lib.hid (HS.out.keep hb)
  have HYv := Lib.hid (HY.out.keep hb HY.out.lt)
  have HV4 := Lib.hid hV4
  have HL4 := Lib.hid hL4
  clear hx hb hV4 hL4
  go_wp2_with fail
  rw [← HV4.out, ← HL4.out]
  clear HV4 HL4 y0 y1 y2 y3 y4 hYl
  refine (prProve_any a1 a2 none a4 none 1 c1 1 c2 0 0 2 c4 0 0 (some ⟨L4, 0, none⟩) 2 2 siS [32, 32] V4 HSv HX (Lib.hid rfl) (by omega)).mono ?_
  rintro e w4 ⟨ap4, np4, cp4, aw4, nw4, cw4, ps, ws, er, rfl, hp, hpl, hw, hwl, hR, hb⟩
  obtain ⟨rfl, rfl⟩ := si_prove64 hR.out
  have HB := Lib.hid (below_then HB.out hb)
  have HS := Lib.hid (HSv.out.keep hb)
  have HY := Lib.hid (HYv.out.keep hb HYv.out.lt)
  have HW := Lib.hid hw
  obtain rfl : 2 = nw4 := hwl
  clear hw
  clear hp hpl hR hb HSv HYv HX
  obtain ⟨X4, hX4⟩ : ∃ W, W = w4.alloc (.cells #[.slice ap4 np4 cp4] 34) := ⟨_, rfl⟩
  have hb : Below w4.heap.size w4 X4 := by rw [hX4]; exact (Below.refl _ _).alloc (Nat.le_refl _) _
  have HX4 := Lib.hid hX4
  have HB := Lib.hid (below_then HB.out hb)
  have HS := Lib.hid (HS.out.keep hb)
  have HY := Lib.hid (HY.out.keep hb HY.out.lt)
  have HW := Lib.hid (HW.out.keep hb)
  clear hb hX4
  go_upto_region 4 with (fail)
  rw [← HX4.out]
  clear HX4
  have y0 : X4.cell? ⟨Y, 0, none⟩ = some (.slice a1 1 c1) := HY.out.cell (i := 0) (by omega)
  have y1 : X4.cell? ⟨Y, 1, none⟩ = some (.slice a2 1 c2) := HY.out.cell (i := 1) (by omega)
  have y2 : X4.cell? ⟨Y, 2, none⟩ = some (.slice none 0 0) := HY.out.cell (i := 2) (by omega)
  have y3 : X4.cell? ⟨Y, 3, none⟩ = some (.slice a4 2 c4) := HY.out.cell (i := 3) (by omega)
  have y4 : X4.cell? ⟨Y, 4, none⟩ = some (.slice none 0 0) := HY.out.cell (i := 4) (by omega)
  have hYl : Y < X4.heap.size := HY.out.lt
  obtain ⟨V5, hV5⟩ : ∃ W, W = X4.alloc (.cells #[.int .i64 32, .int .i64 18] 3) := ⟨_, rfl⟩
  obtain ⟨L5, hL5⟩ : ∃ L, L = X4.heap.size := ⟨_, rfl⟩
  have hx := rd_litI X4 #[.int .i64 32, .int .i64 18] [32, 18] rfl
  have hb : Below X4.heap.size X4 V5 := by rw [hV5]; exact (Below.refl _ _).alloc (Nat.le_refl _) _
  rw [← hV5, ← hL5] at hx
  have HX := Lib.hid hx
  have HB := Lib.hid (below_then HB.out hb)
  have hb0 := hb
  have HSv := Lib.hid (HS.out.keep hb)
  have HYv := Lib.hid (HY.out.keep hb HY.out.lt)
  have HV5 := Lib.hid hV5
  have HL5 := Lib.hid hL5
  clear hx hb hV5 hL5
  go_wp2_with fail
  rw [← HV5.out, ← HL5.out]
  clear HV5 HL5 y0 y1 y2 y3 y4 hYl
  refine (prProve_any a1 a2 none a4 none 1 c1 1 c2 0 0 2 c4 0 0 (some ⟨L5, 0, none⟩) 2 2 siS [32, 18] V5 HSv HX (Lib.hid rfl) (by omega)).mono ?_
  rintro e w5 ⟨ap5, np5, cp5, aw5, nw5, cw5, ps, ws, er, rfl, hp, hpl, hw, hwl, hR, hb⟩
  obtain rfl := si_prove50 hR.out
  have HB := Lib.hid (below_then HB.out hb)
  have HS := Lib.hid (HSv.out.keep hb)
  have HY := Lib.hid (HYv.out.keep hb HYv.out.lt)
  have HW := Lib.hid ((HW.out.keep hb0).keep hb)
  clear hw hwl hb0
  clear hp hpl hR hb HSv HYv HX
  obtain ⟨X5, hX5⟩ : ∃ W, W = w5.alloc (.cells #[.slice ap5 np5 cp5] 34) := ⟨_, rfl⟩
  have hb : Below w5.heap.size w5 X5 := by rw [hX5]; exact (Below.refl _ _).alloc (Nat.le_refl _) _
  have HX5 := Lib.hid hX5
  have HB := Lib.hid (below_then HB.out hb)
  have HS := Lib.hid (HS.out.keep hb)
  have HY := Lib.hid (HY.out.keep hb HY.out.lt)
  have HW := Lib.hid (HW.out.keep hb)
  clear hb hX5
  go_upto_region 5 with (fail)
  rw [← HX5.out]
  clear HX5
  obtain ⟨V6, hV6⟩ : ∃ W, W = X5.alloc (.cells #[.int .i64 32, .int .i64 19] 3) := ⟨_, rfl⟩
  obtain ⟨L6, hL6⟩ : ∃ L, L = X5.heap.size := ⟨_, rfl⟩
  have hx := rd_litI X5 #[.int .i64 32, .int .i64 19] [32, 19] rfl
  have hb : Below X5.heap.size X5 V6 := by rw [hV6]; exact (Below.refl _ _).alloc (Nat.le_refl _) _
  rw [← hV6, ← hL6] at hx
  have HX := Lib.hid hx
  have HB := Lib.hid (below_then HB.out hb)
  have HW := Lib.hid (HW.out.keep hb)
  have HV6 := Lib.hid hV6
  have HL6 := Lib.hid hL6
  clear hx hb hV6 hL6
  go_wp2_with fail
  rw [← HV6.out, ← HL6.out]
  clear HV6 HL6
  refine (r4Ints_any aw4 (some ⟨L6, 0, none⟩) 2 cw4 2 2 [32, 19] [32, 19] V6 HW HX (Lib.hid rfl) (Lib.hid rfl) (by omega)).mono ?_
  rintro e w7 ⟨rfl, hb⟩
  rw [decide_eq_true rfl]
  have HB := Lib.hid (below_then HB.out hb)
  clear hb
  go_wp2_with fail
  go_ret
  exact ⟨rfl, HB.out⟩
end Go.Proofs.YtpkonifeieepfaaGreat
