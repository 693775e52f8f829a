/-
Two controllers: the arm of sending.
-/
import Derived.Test.YtkbbapefgifagaaGreatDoorGTwZ6
namespace Go.Proofs.YtkbbapefgifagaaGreatDoor
open Go.RowKit
set_option linter.unusedVariables false
set_option linter.unusedSimpArgs false
set_option maxRecDepth 100000 in
set_option maxHeartbeats 16000000 in
theorem arm4_ok {k0 k1 k2 k3 k4 k5 k6 k7 k8 k9 k10 k11 k12 k14 u15 u16 u20 u21 u22 u23 u24 u25 u26 u27 u28 u29 u30 u31 u32 k33 k34 k35 k36 k37 k38 k39 k40 k41 k42 k43 k44 k45 k46 k47 k48 k49 k50 k51 k52 k53 k54 k55 k56 k57 k58 k59 k60 u61 u62 u63 u64 u65 u66 u67 u68 u69 u70 u71 u72 u73 u74 u75 u76 u77 u78 u79 u80 u81 u82 u83 u84 u85 u86 u87 u88 u89 u90 u91 u92 u93 u94 u95 u96 u97 u98 u99 u100 u101 u102 u103 u104 u105 u106 u107 u108 u109 u110 u111 u112 u113 u114 u115 u116 u117 u118 u119 u120 u121 u122 u123 u124 u125 u126 u127 u128 u129 u130 u131 u132 u133 u134 u135 u136 u137 u138 u139 u140 u141 u142 u143 u144 u145 u146 u147 u148 u149 u150 u151 u152 u153 u154 u155 u156 u157 u158 u159 u160 u161 u162 u163 u164 u165 u166 u167 u168 u169 u170 u171 u172 u173 u174 u175 u176 u177 u178 u179 u180 u181 u182 u183 u184 u185 u186 u187 u188 u189 u190 u191 u192 u193 u194 u195 u196 u197 u198 u199 u200 u201 u202 u203 u204 u205 u206 u207 u208 u209 u210 u211 u212 u213 u214 u215 u216 u217 u218 u219 u220 u221 u222 u223 u224 u225 u226 u227 u228 u229 u230 u231 u232 u233 u234 u235 u236 u237 u238 u239 u240 u241 u242 u243 u244 u245 u246 u247 u248 u249 u250 u251 u252 u253 u254 u255 u256 u257 u258 u259 u260 u261 u262 u263 u264 u265 u266 u267 u268 u269 u270 u271 u272 u273 u274 u275 u276 u277 u278 u279 u280 u281 u282 u283 u284 u285 u286 u287 u288 u289 u290 u291 u292 u293 u294 u295 u296 u297 u298 u299 u300 u301 u302 u303 u304 u305 u306 u307 u308 u309 u310 u311 u312 u313 u314 u315 u316 u317 u318 u319 u320 u321 k322 : Value} (B L H Ho n m : Nat) (lf : Nat → Value) (tot tick pick : Int) (r : Nat) (x y : Hf) (w : World) (K : Act → World → Prop) (HP : Hid (Pair B L lf H Ho n m x y w)) (HTW : Hid (Two n m tot tick r x y)) (hr : r < 200) (hn0 : 0 < n) (hn4 : n ≤ 4) (hm0 : 0 < m) (hm4 : m ≤ 4) (hp0 : 0 ≤ pick) (hp1 : pick ≤ 255) (hH1 : 1 < H) (hH2 : 1 < Ho)
    (HK : Hid (∀ (g : Nat → Value) (x' y' : Hf) (W : World), Hid (Pair B L lf H Ho n m x' y' W) → Hid (Two n m tot tick (r + 1) x' y') → Hid (Below B w W) → K ⟨List.toArray (frP k0 k1 k2 k3 k4 k5 k6 k7 k8 k9 k10 k11 k12 (.int .i64 tick) k14 k33 k34 k35 k36 k37 k38 k39 k40 k41 k42 k43 k44 k45 k46 k47 k48 k49 k50 k51 k52 k53 k54 k55 k56 k57 k58 k59 k60 k322 g), []⟩ W)) :
    Code.wp Tryz.prog arm4 (Exit.then K (fun _ _ _ => False)) ⟨List.toArray (k0 :: k1 :: k2 :: k3 :: k4 :: k5 :: k6 :: k7 :: k8 :: k9 :: k10 :: k11 :: k12 :: (.int .i64 tick) :: k14 :: u15 :: u16 :: (.pointer (some ⟨H, 0, none⟩)) :: (.pointer (some ⟨Ho, 0, none⟩)) :: (.int .i64 pick) :: u20 :: u21 :: u22 :: u23 :: u24 :: u25 :: u26 :: u27 :: u28 :: u29 :: u30 :: u31 :: u32 :: k33 :: k34 :: k35 :: k36 :: k37 :: k38 :: k39 :: k40 :: k41 :: k42 :: k43 :: k44 :: k45 :: k46 :: k47 :: k48 :: k49 :: k50 :: k51 :: k52 :: k53 :: k54 :: k55 :: k56 :: k57 :: k58 :: k59 :: k60 :: u61 :: u62 :: u63 :: u64 :: u65 :: u66 :: u67 :: u68 :: u69 :: u70 :: u71 :: u72 :: u73 :: u74 :: u75 :: u76 :: u77 :: u78 :: u79 :: u80 :: u81 :: u82 :: u83 :: u84 :: u85 :: u86 :: u87 :: u88 :: u89 :: u90 :: u91 :: u92 :: u93 :: u94 :: u95 :: u96 :: u97 :: u98 :: u99 :: u100 :: u101 :: u102 :: u103 :: u104 :: u105 :: u106 :: u107 :: u108 :: u109 :: u110 :: u111 :: u112 :: u113 :: u114 :: u115 :: u116 :: u117 :: u118 :: u119 :: u120 :: u121 :: u122 :: u123 :: u124 :: u125 :: u126 :: u127 :: u128 :: u129 :: u130 :: u131 :: u132 :: u133 :: u134 :: u135 :: u136 :: u137 :: u138 :: u139 :: u140 :: u141 :: u142 :: u143 :: u144 :: u145 :: u146 :: u147 :: u148 :: u149 :: u150 :: u151 :: u152 :: u153 :: u154 :: u155 :: u156 :: u157 :: u158 :: u159 :: u160 :: u161 :: u162 :: u163 :: u164 :: u165 :: u166 :: u167 :: u168 :: u169 :: u170 :: u171 :: u172 :: u173 :: u174 :: u175 :: u176 :: u177 :: u178 :: u179 :: u180 :: u181 :: u182 :: u183 :: u184 :: u185 :: u186 :: u187 :: u188 :: u189 :: u190 :: u191 :: u192 :: u193 :: u194 :: u195 :: u196 :: u197 :: u198 :: u199 :: u200 :: u201 :: u202 :: u203 :: u204 :: u205 :: u206 :: u207 :: u208 :: u209 :: u210 :: u211 :: u212 :: u213 :: u214 :: u215 :: u216 :: u217 :: u218 :: u219 :: u220 :: u221 :: u222 :: u223 :: u224 :: u225 :: u226 :: u227 :: u228 :: u229 :: u230 :: u231 :: u232 :: u233 :: u234 :: u235 :: u236 :: u237 :: u238 :: u239 :: u240 :: u241 :: u242 :: u243 :: u244 :: u245 :: u246 :: u247 :: u248 :: u249 :: u250 :: u251 :: u252 :: u253 :: u254 :: u255 :: u256 :: u257 :: u258 :: u259 :: u260 :: u261 :: u262 :: u263 :: u264 :: u265 :: u266 :: u267 :: u268 :: u269 :: u270 :: u271 :: u272 :: u273 :: u274 :: u275 :: u276 :: u277 :: u278 :: u279 :: u280 :: u281 :: u282 :: u283 :: u284 :: u285 :: u286 :: u287 :: u288 :: u289 :: u290 :: u291 :: u292 :: u293 :: u294 :: u295 :: u296 :: u297 :: u298 :: u299 :: u300 :: u301 :: u302 :: u303 :: u304 :: u305 :: u306 :: u307 :: u308 :: u309 :: u310 :: u311 :: u312 :: u313 :: u314 :: u315 :: u316 :: u317 :: u318 :: u319 :: u320 :: u321 :: k322 :: []), []⟩ w := by
  obtain ⟨M0, M1, A0, A1, hpc⟩ := HP.out
  have HBB := Lib.hid hpc.hB
  obtain ⟨hv, hhv⟩ : ∃ v, v = x.sh.hav := ⟨_, rfl⟩
  have q0 : w.cell? ⟨H, 0, none⟩ = some (.int .i64 hv) := by rw [hhv]; exact hpc.ox.cell (i := 0) (by omega)
  have lH : H < w.heap.size := hpc.ox.lt
  have HTB : Hid (0 ≤ tick ∧ tick ≤ 100000) := Lib.hid ⟨HTW.out.t0, by have := HTW.out.t1; have := HTW.out.r1; omega⟩
  obtain ⟨al, hal⟩ : ∃ v, v = alvS n tick x.ls := ⟨_, rfl⟩
  have hb1 : 0 ≤ hv ∧ hv ≤ 198 := by rw [hhv]; exact HTW.out.hav
  have hb2 : 0 ≤ al ∧ al ≤ hv := by rw [hal, hhv]; exact ⟨alvS_nn HTW.out.hx.ls, HTW.out.hx.al⟩
  obtain ⟨fr, hfr⟩ : ∃ v, v = hv - al := ⟨_, rfl⟩
  have wfr : IntKind.i64.wrap (hv - alvS n tick x.ls) = fr := by rw [← hal, IntWalk.i64_in _ (by omega)]; exact hfr.symm
  have HFR := Lib.hid (And.intro hfr (And.intro hal hhv))
  have hfb : 0 ≤ fr ∧ fr ≤ 198 := by omega
  clear hfr hal hhv hb1 hb2
  obtain ⟨hf0, hf1⟩ := hfb
  conv => arg 2; whnf
  go_upto_region 20 with (fail)
  refine region_z (S := fun w' => Below w.heap.size w w') [] (by kernel_rfl) ((Below.refl _ _).drew) (fun hHeld => ?_)
  refine zt (i := 0) (v := .pointer (some ⟨H, 0, none⟩)) [] (fun w' hSw => ?_) hHeld ?_
  · clear hHeld hSw
    go_simp
  simp only [Act.put, zl0, zl1, zl2, zl3, zl4, zl5]
  refine zt (i := 1) (v := .pointer (some ⟨H, 0, none⟩)) [] (fun w' hSw => ?_) hHeld ?_
  · clear hHeld hSw
    go_simp
  simp only [Act.put, zl0, zl1, zl2, zl3, zl4, zl5]
  refine zt (i := 2) (v := .pointer (some ⟨H, 0, none⟩)) [] (fun w' hSw => ?_) hHeld ?_
  · clear hHeld hSw
    go_simp
  simp only [Act.put, zl0, zl1, zl2, zl3, zl4, zl5]
  refine zt (i := 3) (v := .pointer (some ⟨H, 0, none⟩)) [] (fun w' hSw => ?_) hHeld ?_
  · clear hHeld hSw
    go_simp
  simp only [Act.put, zl0, zl1, zl2, zl3, zl4, zl5]
  refine zt (i := 4) (v := .int .i64 hv) [] (fun w' hSw => ?_) hHeld ?_
  · have s0' := (hSw.cell (zb q0)).trans q0
    have ls0 := zb s0'
    dsimp only at ls0
    clear hHeld hSw
    go_simp
  simp only [Act.put, zl0, zl1, zl2, zl3, zl4, zl5]
  refine zt (i := 5) (v := .pointer (some ⟨H, 0, none⟩)) [] (fun w' hSw => ?_) hHeld ?_
  · clear hHeld hSw
    go_simp
  simp only [Act.put, zl0, zl1, zl2, zl3, zl4, zl5]
  refine zt (i := 6) (v := .int .i64 tick) [] (fun w' hSw => ?_) hHeld ?_
  · clear hHeld hSw
    go_simp
  simp only [Act.put, zl0, zl1, zl2, zl3, zl4, zl5]
  refine zo 7 (fun K' hK => ?_)
  go_simp
  refine (r7Alive_ok (hpc.ox.keep hHeld hpc.ox.lt) (hpc.xx.keep hn0 hHeld) HTW.out.hx hn4 HTB.out.1 HTB.out.2).mono ?_
  rintro e w1 ⟨rfl, hbk⟩
  refine hK.out _ _ ?_ (fun hHeld' => ?_)
  · exact hHeld.trans (hbk.mono hHeld.size)
  clear hK K' hHeld hbk
  have hHeld := hHeld'
  clear hHeld'
  try simp only [Act.put, zl0, zl1, zl2, zl3, zl4, zl5]
  refine zt (i := 8) (v := .int .i64 fr) [] (fun w' hSw => ?_) hHeld ?_
  · clear hHeld hSw
    go_simp
    first | done | exact wfr | (simp [wfr])
  simp only [Act.put, zl0, zl1, zl2, zl3, zl4, zl5]
  refine zt (i := 9) (v := .int .i64 fr) [] (fun w' hSw => ?_) hHeld ?_
  · clear hHeld hSw
    go_simp
  simp only [Act.put, zl0, zl1, zl2, zl3, zl4, zl5]
  refine wpAnyZ_done (by kernel_rfl) ?_ _
  have HB1 := Lib.hid hHeld
  have HTW1 := Lib.hid (hpc.keep hn0 hm0 hHeld)
  clear hHeld q0 lH wfr hpc HP
  go_upto_region 22 with (fail)
  obtain ⟨z, hz⟩ : ∃ z : Int, z = (if fr < 1 + pick % 20 then fr else 1 + pick % 20) := ⟨_, rfl⟩
  have hzb : z ≤ fr ∧ z ≤ 20 := by rw [hz]; split <;> omega
  rw [← hz]
  clear hz
  obtain ⟨hz1, hz2⟩ := hzb
  by_cases hz0 : 0 < z
  · have p0 : w1.cell? ⟨H, 0, none⟩ = some (.int .i64 x.sh.hav) := HTW1.out.ox.cell (i := 0) (by omega)
    have p1 : w1.cell? ⟨H, 1, none⟩ = some (.int .i64 x.sh.nxt) := HTW1.out.ox.cell (i := 1) (by omega)
    have p2 : w1.cell? ⟨H, 2, none⟩ = some (.slice A0.aO A0.nO A0.cO) := HTW1.out.ox.cell (i := 2) (by omega)
    have p3 : w1.cell? ⟨H, 3, none⟩ = some (.slice A0.aI A0.nI A0.cI) := HTW1.out.ox.cell (i := 3) (by omega)
    have lH : H < w1.heap.size := HTW1.out.ox.lt
    go_wp2_with fail
    refine (shSend_ok A0.aO A0.nO A0.cO A0.aI A0.nI A0.cI x.sh z w1 (Lib.hid HTW1.out.xx.sh) (Lib.hid HTW.out.hx.sh) (by omega) (by omega) (by have := HFR.out; have := alvS_nn (n := n) (tick := tick) HTW.out.hx.ls; omega) (by have := HTW.out.hx.nx; have := HTW.out.hx.sl; omega)).mono ?_
    clear p0 p1 p2 p3
    rintro e w2 (⟨hlen, gP, gI, rfl, hgP, hgI, hrd, hb2⟩ | ⟨hlen, rfl, hb2⟩)
    · obtain ⟨nu, hnu⟩ : ∃ v, v = x.sh.nxt := ⟨_, rfl⟩
      obtain ⟨h2, hh2⟩ : ∃ v, v = x.sh.hav - z := ⟨_, rfl⟩
      rw [← hnu, ← hh2] at hrd
      rw [← hnu, ← hh2]
      obtain ⟨w3, hw3⟩ : ∃ W, W = (w2.alloc (.cells #[.int .i64 h2, .int .i64 (nu + 1), .slice (some ⟨gP, 0, none⟩) (A0.nO + 1) (A0.nO + 1), .slice (some ⟨gI, 0, none⟩) A0.nI A0.nI] 32)).alloc (.cells #[.int .i64 nu, .int .i64 z] 47) := ⟨_, rfl⟩
      obtain ⟨X, hX⟩ : ∃ X, X = w2.heap.size := ⟨_, rfl⟩
      have hb3 : Below w2.heap.size w2 w3 := by rw [hw3]; exact ((Below.refl _ _).alloc (Nat.le_refl _) _).alloc (by simp) _
      obtain ⟨d0, d1, d2, d3, b0, b1⟩ : w3.cell? ⟨X, 0, none⟩ = some (.int .i64 h2) ∧ w3.cell? ⟨X, 1, none⟩ = some (.int .i64 (nu + 1)) ∧ w3.cell? ⟨X, 2, none⟩ = some (.slice (some ⟨gP, 0, none⟩) (A0.nO + 1) (A0.nO + 1)) ∧ w3.cell? ⟨X, 3, none⟩ = some (.slice (some ⟨gI, 0, none⟩) A0.nI A0.nI) ∧ w3.cell? ⟨X + 1, 0, none⟩ = some (.int .i64 nu) ∧ w3.cell? ⟨X + 1, 1, none⟩ = some (.int .i64 z) := by rw [hw3, hX]; exact ⟨by go_simp, by go_simp, by go_simp, by go_simp, by go_simp, by go_simp⟩
      have HP3 := Lib.hid ((HTW1.out.keep hn0 hm0 hb2).keep hn0 hm0 hb3)
      have HRD3 := Lib.hid (hrd.keep hb3)
      have HB3 := Lib.hid (below_then (below_then HB1.out hb2) hb3)
      have HGG := Lib.hid (And.intro hgP hgI)
      have HLEN := Lib.hid hlen
      have HNU := Lib.hid (And.intro hnu hh2)
      have HXW : Hid (w1.heap.size ≤ X) := Lib.hid (by rw [hX]; exact hb2.size)
      have HW3 := Lib.hid (And.intro hw3.symm hX.symm)
      clear hb2 hb3 hrd hgP hgI hlen hw3 hX hnu hh2
      go_upto_region 24 with (fail)
      try simp only [World.size_alloc]
      rw [HW3.out.1, HW3.out.2]
      clear HW3
      obtain ⟨x2, hx2⟩ : ∃ x2 : Hf, x2 = { x with sh := (⟨h2, nu + 1, x.sh.out ++ [(⟨nu, z⟩ : Trn)], x.sh.inn⟩ : Shr) } := ⟨_, rfl⟩
      have hsh := HP3.out.share (cO := A0.nO + 1) (cI := A0.nI) hn0 hm0 HRD3.out (z := w1.heap.size) (fun k hk => hk.elim (HTW1.out.b0 k) (HTW1.out.b1 k)) (fun p e => by injection e with e; subst e; exact HGG.out.1) (fun p e => by injection e with e; subst e; exact HGG.out.2)
      rw [← hx2] at hsh
      have HX2 := Lib.hid hx2
      have HSH := Lib.hid hsh
      have c0 := HP3.out.ox.cell (i := 0) (by omega)
      have c1 := HP3.out.ox.cell (i := 1) (by omega)
      have c2 := HP3.out.ox.cell (i := 2) (by omega)
      have c3 := HP3.out.ox.cell (i := 3) (by omega)
      have f0 := HP3.out.ox.frozen 0
      have f1 := HP3.out.ox.frozen 1
      have f2 := HP3.out.ox.frozen 2
      have f3 := HP3.out.ox.frozen 3
      have l3 := HP3.out.ox.lt
      have lX := zb d0
      clear hsh hx2 lH
      go_upto_region 26 with (fail)
      have hfold : (((w3.setCell ⟨H, 0, none⟩ (.int .i64 h2)).setCell ⟨H, 1, none⟩ (.int .i64 (nu + 1))).setCell ⟨H, 2, none⟩ (.slice (some ⟨gP, 0, none⟩) (A0.nO + 1) (A0.nO + 1))).setCell ⟨H, 3, none⟩ (.slice (some ⟨gI, 0, none⟩) A0.nI A0.nI) = shW w3 H h2 (nu + 1) (.slice (some ⟨gP, 0, none⟩) (A0.nO + 1) (A0.nO + 1)) (.slice (some ⟨gI, 0, none⟩) A0.nI A0.nI) := rfl
      rw [hfold]
      clear hfold c0 c1 c2 c3 f0 f1 f2 f3 l3 d0 d1 d2 d3 lX
      obtain ⟨w4, hw4⟩ : ∃ W, W = shW w3 H h2 (nu + 1) (.slice (some ⟨gP, 0, none⟩) (A0.nO + 1) (A0.nO + 1)) (.slice (some ⟨gI, 0, none⟩) A0.nI A0.nI) := ⟨_, rfl⟩
      rw [← hw4]
      have hm4' : Mod (fun k => k = H) w3 w4 := by rw [hw4]; exact shW_mod _ _ _ _ _ _
      have HPV := Lib.hid (show PairC _ _ _ _ _ _ _ _ _ _ _ _ _ w4 from by rw [hw4]; exact HSH.out.1)
      have HBV : Hid (Below B w3 w4) := Lib.hid (by rw [hw4]; exact HSH.out.2)
      have hXH : X + 1 ≠ H := by have := HXW.out; have := HTW1.out.ox.lt; omega
      have e0 := (hm4'.cell (zb b0) hXH).trans b0
      have e1 := (hm4'.cell (zb b1) hXH).trans b1
      clear b0 b1 hm4' hXH hw4 HSH
      have b0 := e0
      have b1 := e1
      clear e0 e1
      have HLE : Hid (x2.sent.length ≤ 1000) := Lib.hid (by rw [HX2.out]; have := HTW.out.hx.sl; show x.sent.length ≤ 1000; omega)
      obtain ⟨sa, sc, hsv⟩ := HPV.out.xx.oS.shape
      obtain ⟨sn, hsn⟩ : ∃ k, k = x2.sent.length := ⟨_, rfl⟩
      rw [← hsn] at hsv
      have q13 : w4.cell? ⟨H, 13, none⟩ = some (.slice sa sn sc) := by rw [← hsv]; exact HPV.out.ox.cell (i := 13) (by omega)
      have HOS : Hid (OwnR 47 2 encTrn w4 B (.slice sa sn sc) x2.sent) := Lib.hid (by rw [← hsv]; exact HPV.out.xx.oS)
      have HSV := Lib.hid hsv
      clear hsv hsn
      refine region_k (S := fun w' => Below w4.heap.size w4 w') [7, 10] (by kernel_rfl) ((Below.refl _ _).drew) (fun hHeld => ?_)
      refine wpAnyK_pure (i := 0) (v := .pointer (some ⟨H, 0, none⟩)) rfl (by kernel_rfl) (by kernel_rfl) (by kernel_rfl) (fun _ _ _ h => h) (Or.inl ⟨by kernel_rfl, fun w' _ => ?_⟩) ?_
      · clear hHeld
        go_simp
      simp only [Act.put, zl0, zl1, zl2, zl3, zl4, zl5]
      refine wpAnyK_pure (i := 1) (v := .pointer (some ⟨H, 0, none⟩)) rfl (by kernel_rfl) (by kernel_rfl) (by kernel_rfl) (fun _ _ _ h => h) (Or.inl ⟨by kernel_rfl, fun w' _ => ?_⟩) ?_
      · clear hHeld
        go_simp
      simp only [Act.put, zl0, zl1, zl2, zl3, zl4, zl5]
      refine wpAnyK_pure (i := 2) (v := .pointer (some ⟨H, 0, none⟩)) rfl (by kernel_rfl) (by kernel_rfl) (by kernel_rfl) (fun _ _ _ h => h) (Or.inl ⟨by kernel_rfl, fun w' _ => ?_⟩) ?_
      · clear hHeld
        go_simp
      simp only [Act.put, zl0, zl1, zl2, zl3, zl4, zl5]
      refine wpAnyK_pure (i := 3) (v := .pointer (some ⟨H, 13, none⟩)) rfl (by kernel_rfl) (by kernel_rfl) (by kernel_rfl) (fun _ _ _ h => h) (Or.inl ⟨by kernel_rfl, fun w' _ => ?_⟩) ?_
      · clear hHeld
        go_simp
      simp only [Act.put, zl0, zl1, zl2, zl3, zl4, zl5]
      refine kt (i := 4) (v := .slice sa sn sc) [7, 10] (fun w' hSw => ?_) hHeld ?_
      · have q13'' := (hSw.cell (zb q13)).trans q13
        have lq13 := zb q13''
        dsimp only at lq13
        clear hHeld hSw
        go_simp
      simp only [Act.put, zl0, zl1, zl2, zl3, zl4, zl5]
      refine kt (i := 5) (v := .agg #[.int .i64 nu, .int .i64 z]) [6, 7, 10] (fun w' hSw => ?_) hHeld ?_
      · have b0' := (hSw.cell (zb b0)).trans b0
        have lb0 := zb b0'
        dsimp only at lb0
        have b1' := (hSw.cell (zb b1)).trans b1
        have lb1 := zb b1'
        dsimp only at lb1
        clear hHeld hSw
        go_simp
      simp only [Act.put, zl0, zl1, zl2, zl3, zl4, zl5]
      refine wpAnyK_one (i := 6) (by kernel_rfl) rfl (fun K' hK => ?_)
      go_simp
      refine hK.out _ _ (fun h => h.alloc h.size _) ?_
      clear hK K'
      try simp only [Act.put, zl0, zl1, zl2, zl3, zl4, zl5]
      have HHd := Lib.hid hHeld
      have HPd := Lib.hid (HPV.out.keep hn0 hm0 hHeld)
      have HLd := Lib.hid (HOS.out.keep hHeld)
      obtain ⟨ap, v', w6, av, aw, HL6⟩ := app_trn (⟨nu, z⟩ : Trn) HLd.out HPd.out.hB (by have := HLE.out; omega)
      have hsh := HL6.out.1.shape
      refine wpAnyK_last (i := 7) (by kernel_rfl) rfl (by kernel_rfl) (fun K' hK => ?_)
      rw [if_pos (by rfl)]
      refine append_go rfl rfl ap av aw ?_
      refine hK.out _ _ ?_
      clear hK K' ap av aw
      try simp only [Act.put, zl0, zl1, zl2, zl3, zl4, zl5]
      obtain ⟨sa', sc', hsv'⟩ := hsh
      obtain ⟨sn', hsn'⟩ : ∃ k, k = (x2.sent ++ [(⟨nu, z⟩ : Trn)]).length := ⟨_, rfl⟩
      rw [← hsn'] at hsv'
      subst hsv'
      clear hsn'
      refine wpAnyK_pure (i := 8) (v := .pointer (some ⟨H, 0, none⟩)) rfl (by kernel_rfl) (by kernel_rfl) (by kernel_rfl) (fun _ _ _ h => h) (Or.inl ⟨by kernel_rfl, fun w' _ => ?_⟩) ?_
      · clear hHeld
        go_simp
      simp only [Act.put, zl0, zl1, zl2, zl3, zl4, zl5]
      refine wpAnyK_pure (i := 9) (v := .pointer (some ⟨H, 13, none⟩)) rfl (by kernel_rfl) (by kernel_rfl) (by kernel_rfl) (fun _ _ _ h => h) (Or.inl ⟨by kernel_rfl, fun w' _ => ?_⟩) ?_
      · clear hHeld
        go_simp
      simp only [Act.put, zl0, zl1, zl2, zl3, zl4, zl5]
      have hkey := HPd.out.sent hn0 hm0 HL6.out.1 (by rw [HSV.out]; exact HL6.out.2.1) (by rw [HSV.out]; exact HL6.out.2.2.elim .inl (fun e => .inr ⟨_, e, Nat.le_succ _⟩))
      have HKEY := Lib.hid hkey
      have HO6 := Lib.hid (HPd.out.ox.mod HL6.out.2.1 (by rw [← HSV.out]; exact HPd.out.xx.sH))
      have c13 := HO6.out.cell (i := 13) (by omega)
      have f13 := HO6.out.frozen 13
      have l13 := HO6.out.lt
      refine wpAnyK_last (i := 10) (by kernel_rfl) rfl (by kernel_rfl) (fun K' hK => ?_)
      go_simp
      refine hK.out _ _ ?_
      clear hK K' hHeld c13 f13 l13 hkey
      try simp only [Act.put, zl0, zl1, zl2, zl3, zl4, zl5]
      refine wpAnyK_done (by kernel_rfl) ?_ _
      have HBD : Hid (Below w4.heap.size w4 (w4.drew)) := Lib.hid ((Below.refl _ _).drew)
      have HFI : Hid (Below B w (w6.setCell ⟨H, 13, none⟩ (.slice sa' sn' sc'))) := Lib.hid ((((HB3.out.mono HBB.out).trans HBV.out).trans (HHd.out.mono HPV.out.hB)).trans HKEY.out.2)
      have HTF : Hid (Two n m tot tick (r + 1) (sendX x z) y) := Lib.hid (HTW.out.send hr (by omega) hz2 (by have := HFR.out; omega) HLEN.out)
      have HPF : Hid (Pair B L lf H Ho n m (sendX x z) y (w6.setCell ⟨H, 13, none⟩ (.slice sa' sn' sc'))) := Lib.hid (by
        obtain ⟨M0', hh⟩ := HKEY.out.1
        have e1 : sendX x z = { x2 with sent := x2.sent ++ [(⟨nu, z⟩ : Trn)] } := by rw [HX2.out, HNU.out.1, HNU.out.2]; rfl
        rw [e1]
        exact ⟨M0', M1, _, A1, hh⟩)
      clear HKEY HO6 HL6 HLd HPd HHd HBD HPV HBV HX2 HNU HSV HOS
      go_wp2_with fail
      refine fr_use (Q := K) (frP k0 k1 k2 k3 k4 k5 k6 k7 k8 k9 k10 k11 k12 (.int .i64 tick) k14 k33 k34 k35 k36 k37 k38 k39 k40 k41 k42 k43 k44 k45 k46 k47 k48 k49 k50 k51 k52 k53 k54 k55 k56 k57 k58 k59 k60 k322) rfl (fun g => ?_)
      exact HK.out g _ _ _ HPF HTF HFI
    · obtain ⟨w3, hw3⟩ : ∃ W, W = (w2.alloc (.cells #[.int .i64 0, .int .i64 0, .slice none 0 0, .slice none 0 0] 32)).alloc (.cells #[.int .i64 0, .int .i64 0] 47) := ⟨_, rfl⟩
      have hb3 : Below w2.heap.size w2 w3 := by rw [hw3]; exact ((Below.refl _ _).alloc (Nat.le_refl _) _).alloc (by simp) _
      have HPF : Hid (Pair B L lf H Ho n m x y w3) := Lib.hid ⟨M0, M1, A0, A1, (HTW1.out.keep hn0 hm0 hb2).keep hn0 hm0 hb3⟩
      have HFI : Hid (Below B w w3) := Lib.hid ((below_then (below_then HB1.out hb2) hb3).mono HBB.out)
      have HTF := Lib.hid (HTW.out.next hr)
      have HW3 := Lib.hid hw3.symm
      clear hb2 hb3 hw3 hlen
      go_upto_region 24 with (fail)
      rw [HW3.out]
      clear HW3
      go_wp2_with fail
      refine fr_use (Q := K) (frP k0 k1 k2 k3 k4 k5 k6 k7 k8 k9 k10 k11 k12 (.int .i64 tick) k14 k33 k34 k35 k36 k37 k38 k39 k40 k41 k42 k43 k44 k45 k46 k47 k48 k49 k50 k51 k52 k53 k54 k55 k56 k57 k58 k59 k60 k322) rfl (fun g => ?_)
      exact HK.out g _ _ _ HPF HTF HFI
  · have HPF : Hid (Pair B L lf H Ho n m x y w1) := Lib.hid ⟨M0, M1, A0, A1, HTW1.out⟩
    have HFI : Hid (Below B w w1) := Lib.hid (HB1.out.mono HBB.out)
    have HTF := Lib.hid (HTW.out.next hr)
    have hz0' : z ≤ 0 := by omega
    go_wp2_with fail
    refine fr_use (Q := K) (frP k0 k1 k2 k3 k4 k5 k6 k7 k8 k9 k10 k11 k12 (.int .i64 tick) k14 k33 k34 k35 k36 k37 k38 k39 k40 k41 k42 k43 k44 k45 k46 k47 k48 k49 k50 k51 k52 k53 k54 k55 k56 k57 k58 k59 k60 k322) rfl (fun g => ?_)
    exact HK.out g _ _ _ HPF HTF HFI
end Go.Proofs.YtkbbapefgifagaaGreatDoor
