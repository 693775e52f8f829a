/-
Two controllers: the arm of acknowledging.
-/
import Derived.Test.YtkbbapefgifagaaGreatDoorCTwZ9
namespace Go.Proofs.YtkbbapefgifagaaGreatDoor
open Go.RowKit
set_option linter.unusedVariables false
set_option linter.unusedSimpArgs false
set_option maxRecDepth 100000 in
set_option maxHeartbeats 16000000 in
theorem arm6_ok {k0 k1 k2 k3 k4 k5 k6 k7 k8 k9 k10 k11 k12 k14 u15 u16 u20 u21 u22 u23 u24 u25 u26 u27 u28 u29 u30 u31 u32 k33 k34 k35 k36 k37 k38 k39 k40 k41 k42 k43 k44 k45 k46 k47 k48 k49 k50 k51 k52 k53 k54 k55 k56 k57 k58 k59 k60 u61 u62 u63 u64 u65 u66 u67 u68 u69 u70 u71 u72 u73 u74 u75 u76 u77 u78 u79 u80 u81 u82 u83 u84 u85 u86 u87 u88 u89 u90 u91 u92 u93 u94 u95 u96 u97 u98 u99 u100 u101 u102 u103 u104 u105 u106 u107 u108 u109 u110 u111 u112 u113 u114 u115 u116 u117 u118 u119 u120 u121 u122 u123 u124 u125 u126 u127 u128 u129 u130 u131 u132 u133 u134 u135 u136 u137 u138 u139 u140 u141 u142 u143 u144 u145 u146 u147 u148 u149 u150 u151 u152 u153 u154 u155 u156 u157 u158 u159 u160 u161 u162 u163 u164 u165 u166 u167 u168 u169 u170 u171 u172 u173 u174 u175 u176 u177 u178 u179 u180 u181 u182 u183 u184 u185 u186 u187 u188 u189 u190 u191 u192 u193 u194 u195 u196 u197 u198 u199 u200 u201 u202 u203 u204 u205 u206 u207 u208 u209 u210 u211 u212 u213 u214 u215 u216 u217 u218 u219 u220 u221 u222 u223 u224 u225 u226 u227 u228 u229 u230 u231 u232 u233 u234 u235 u236 u237 u238 u239 u240 u241 u242 u243 u244 u245 u246 u247 u248 u249 u250 u251 u252 u253 u254 u255 u256 u257 u258 u259 u260 u261 u262 u263 u264 u265 u266 u267 u268 u269 u270 u271 u272 u273 u274 u275 u276 u277 u278 u279 u280 u281 u282 u283 u284 u285 u286 u287 u288 u289 u290 u291 u292 u293 u294 u295 u296 u297 u298 u299 u300 u301 u302 u303 u304 u305 u306 u307 u308 u309 u310 u311 u312 u313 u314 u315 u316 u317 u318 u319 u320 u321 k322 : Value} (B L H Ho n m : Nat) (lf : Nat → Value) (tot tick pick : Int) (r : Nat) (x y : Hf) (w : World) (K : Act → World → Prop) (HP : Hid (Pair B L lf H Ho n m x y w)) (HTW : Hid (Two n m tot tick r x y)) (hr : r < 200) (hn0 : 0 < n) (hn4 : n ≤ 4) (hm0 : 0 < m) (hm4 : m ≤ 4) (hp0 : 0 ≤ pick) (hp1 : pick ≤ 255) (hH1 : 1 < H) (hH2 : 1 < Ho)
    (HK : Hid (∀ (g : Nat → Value) (x' y' : Hf) (W : World), Hid (Pair B L lf H Ho n m x' y' W) → Hid (Two n m tot tick (r + 1) x' y') → Hid (Below B w W) → K ⟨List.toArray (frP k0 k1 k2 k3 k4 k5 k6 k7 k8 k9 k10 k11 k12 (.int .i64 tick) k14 k33 k34 k35 k36 k37 k38 k39 k40 k41 k42 k43 k44 k45 k46 k47 k48 k49 k50 k51 k52 k53 k54 k55 k56 k57 k58 k59 k60 k322 g), []⟩ W)) :
    Code.wp Tryz.prog arm6 (Exit.then K (fun _ _ _ => False)) ⟨List.toArray (k0 :: k1 :: k2 :: k3 :: k4 :: k5 :: k6 :: k7 :: k8 :: k9 :: k10 :: k11 :: k12 :: (.int .i64 tick) :: k14 :: u15 :: u16 :: (.pointer (some ⟨H, 0, none⟩)) :: (.pointer (some ⟨Ho, 0, none⟩)) :: (.int .i64 pick) :: u20 :: u21 :: u22 :: u23 :: u24 :: u25 :: u26 :: u27 :: u28 :: u29 :: u30 :: u31 :: u32 :: k33 :: k34 :: k35 :: k36 :: k37 :: k38 :: k39 :: k40 :: k41 :: k42 :: k43 :: k44 :: k45 :: k46 :: k47 :: k48 :: k49 :: k50 :: k51 :: k52 :: k53 :: k54 :: k55 :: k56 :: k57 :: k58 :: k59 :: k60 :: u61 :: u62 :: u63 :: u64 :: u65 :: u66 :: u67 :: u68 :: u69 :: u70 :: u71 :: u72 :: u73 :: u74 :: u75 :: u76 :: u77 :: u78 :: u79 :: u80 :: u81 :: u82 :: u83 :: u84 :: u85 :: u86 :: u87 :: u88 :: u89 :: u90 :: u91 :: u92 :: u93 :: u94 :: u95 :: u96 :: u97 :: u98 :: u99 :: u100 :: u101 :: u102 :: u103 :: u104 :: u105 :: u106 :: u107 :: u108 :: u109 :: u110 :: u111 :: u112 :: u113 :: u114 :: u115 :: u116 :: u117 :: u118 :: u119 :: u120 :: u121 :: u122 :: u123 :: u124 :: u125 :: u126 :: u127 :: u128 :: u129 :: u130 :: u131 :: u132 :: u133 :: u134 :: u135 :: u136 :: u137 :: u138 :: u139 :: u140 :: u141 :: u142 :: u143 :: u144 :: u145 :: u146 :: u147 :: u148 :: u149 :: u150 :: u151 :: u152 :: u153 :: u154 :: u155 :: u156 :: u157 :: u158 :: u159 :: u160 :: u161 :: u162 :: u163 :: u164 :: u165 :: u166 :: u167 :: u168 :: u169 :: u170 :: u171 :: u172 :: u173 :: u174 :: u175 :: u176 :: u177 :: u178 :: u179 :: u180 :: u181 :: u182 :: u183 :: u184 :: u185 :: u186 :: u187 :: u188 :: u189 :: u190 :: u191 :: u192 :: u193 :: u194 :: u195 :: u196 :: u197 :: u198 :: u199 :: u200 :: u201 :: u202 :: u203 :: u204 :: u205 :: u206 :: u207 :: u208 :: u209 :: u210 :: u211 :: u212 :: u213 :: u214 :: u215 :: u216 :: u217 :: u218 :: u219 :: u220 :: u221 :: u222 :: u223 :: u224 :: u225 :: u226 :: u227 :: u228 :: u229 :: u230 :: u231 :: u232 :: u233 :: u234 :: u235 :: u236 :: u237 :: u238 :: u239 :: u240 :: u241 :: u242 :: u243 :: u244 :: u245 :: u246 :: u247 :: u248 :: u249 :: u250 :: u251 :: u252 :: u253 :: u254 :: u255 :: u256 :: u257 :: u258 :: u259 :: u260 :: u261 :: u262 :: u263 :: u264 :: u265 :: u266 :: u267 :: u268 :: u269 :: u270 :: u271 :: u272 :: u273 :: u274 :: u275 :: u276 :: u277 :: u278 :: u279 :: u280 :: u281 :: u282 :: u283 :: u284 :: u285 :: u286 :: u287 :: u288 :: u289 :: u290 :: u291 :: u292 :: u293 :: u294 :: u295 :: u296 :: u297 :: u298 :: u299 :: u300 :: u301 :: u302 :: u303 :: u304 :: u305 :: u306 :: u307 :: u308 :: u309 :: u310 :: u311 :: u312 :: u313 :: u314 :: u315 :: u316 :: u317 :: u318 :: u319 :: u320 :: u321 :: k322 :: []), []⟩ w := by
  obtain ⟨M0, M1, A0, A1, hpc⟩ := HP.out
  have HBB := Lib.hid hpc.hB
  obtain ⟨ta, tc, hsv, hrd⟩ := hpc.yy.oK.rd encI_len1
  obtain ⟨sn, hsn⟩ : ∃ k, k = y.acks.length := ⟨_, rfl⟩
  rw [← hsn] at hsv
  have q13 : w.cell? ⟨Ho, 14, none⟩ = some (.slice ta sn tc) := by rw [← hsv]; exact hpc.oy.cell (i := 14) (by omega)
  have lo := hpc.oy.lt
  have HPC := Lib.hid hpc
  have HSN : Hid (sn = y.acks.length ∧ sn ≤ 200) := Lib.hid ⟨hsn, by rw [hsn]; have := HTW.out.hy.ak; omega⟩
  have HRD := Lib.hid hrd
  clear hsv hsn hrd hpc HP
  conv => arg 2; whnf
  by_cases hs0 : 0 < sn
  · have hs0z : (0 : Int) < (sn : Int) := by omega
    go_upto_region 37 with (fail)
    obtain ⟨ix, hix⟩ : ∃ ix : Nat, (ix : Int) = pick % (sn : Int) := ⟨(pick % (sn : Int)).toNat, by have := Int.emod_nonneg pick (show (sn : Int) ≠ 0 by omega); omega⟩
    have hixl : ix < sn := by have := Int.emod_lt_of_pos pick hs0z; omega
    obtain ⟨tb, to', nu, rfl, htl, htx, t0⟩ := rdInt_at HRD.out (show ix < y.acks.length by rw [← HSN.out.1]; exact hixl)
    have hixz : (ix : Int) < (sn : Int) := by omega
    have HIX : Hid (pick.tmod (sn : Int) = (ix : Int)) := Lib.hid (by rw [Int.tmod_eq_emod_of_nonneg hp0]; exact hix.symm)
    have HSZ : Hid (¬ sn = 0) := Lib.hid (by omega)
    have hsn2 := HSN.out.2
    clear hix htx
    have p0 : w.cell? ⟨H, 0, none⟩ = some (.int .i64 x.sh.hav) := HPC.out.ox.cell (i := 0) (by omega)
    have p1 : w.cell? ⟨H, 1, none⟩ = some (.int .i64 x.sh.nxt) := HPC.out.ox.cell (i := 1) (by omega)
    have p2 : w.cell? ⟨H, 2, none⟩ = some (.slice A0.aO A0.nO A0.cO) := HPC.out.ox.cell (i := 2) (by omega)
    have p3 : w.cell? ⟨H, 3, none⟩ = some (.slice A0.aI A0.nI A0.cI) := HPC.out.ox.cell (i := 3) (by omega)
    go_cut [28, 29] from 198 to 218 (fun v28 v29 wx => ∃ (X2 : Nat) (er h2 n2 : Int) (aO : Option Addr) (nO cO : Nat) (aI : Option Addr) (nI cI : Nat), v28 = .pointer (some ⟨X2, 0, none⟩) ∧ v29 = .int .i64 er ∧ Hid (Own wx X2 32 4 (shF h2 n2 (.slice aO nO cO) (.slice aI nI cI))) ∧ Hid (w.heap.size ≤ X2) ∧ Hid (ResF (AkF x.sh) w.heap.size er h2 n2 aO nO aI nI wx) ∧ Hid (Below w.heap.size w wx))
    case first =>
      refine region_z (S := fun w' => Below w.heap.size w w') [] (by kernel_rfl) ((Below.refl _ _).drew) (fun hHeld => ?_)
      obtain ⟨wd, hwd⟩ : ∃ wd, wd = w.drew := ⟨_, rfl⟩
      rw [← hwd] at hHeld ⊢
      clear hwd
      refine zt (i := 0) (v := .pointer (some ⟨H, 0, none⟩)) [] (fun w' hSw => ?_) hHeld ?_
      · clear hHeld hSw
        go_simp
      simp only [Act.put, zl0, zl1, zl2, zl3, zl4, zl5]
      refine zt (i := 1) (v := .pointer (some ⟨H, 0, none⟩)) [] (fun w' hSw => ?_) hHeld ?_
      · clear hHeld hSw
        go_simp
      simp only [Act.put, zl0, zl1, zl2, zl3, zl4, zl5]
      refine zt (i := 2) (v := .pointer (some ⟨H, 0, none⟩)) [] (fun w' hSw => ?_) hHeld ?_
      · clear hHeld hSw
        go_simp
      simp only [Act.put, zl0, zl1, zl2, zl3, zl4, zl5]
      refine zt (i := 3) (v := .agg #[.int .i64 x.sh.hav, .int .i64 x.sh.nxt, .slice A0.aO A0.nO A0.cO, .slice A0.aI A0.nI A0.cI]) [] (fun w' hSw => ?_) hHeld ?_
      · have p0' := (hSw.cell (zb p0)).trans p0
        have lp0 := zb p0'
        dsimp only at lp0
        have p1' := (hSw.cell (zb p1)).trans p1
        have lp1 := zb p1'
        dsimp only at lp1
        have p2' := (hSw.cell (zb p2)).trans p2
        have lp2 := zb p2'
        dsimp only at lp2
        have p3' := (hSw.cell (zb p3)).trans p3
        have lp3 := zb p3'
        dsimp only at lp3
        clear hHeld hSw
        go_simp
      simp only [Act.put, zl0, zl1, zl2, zl3, zl4, zl5]
      refine zt (i := 4) (v := .pointer (some ⟨Ho, 0, none⟩)) [] (fun w' hSw => ?_) hHeld ?_
      · clear hHeld hSw
        go_simp
      simp only [Act.put, zl0, zl1, zl2, zl3, zl4, zl5]
      refine zt (i := 5) (v := .pointer (some ⟨Ho, 0, none⟩)) [] (fun w' hSw => ?_) hHeld ?_
      · clear hHeld hSw
        go_simp
      simp only [Act.put, zl0, zl1, zl2, zl3, zl4, zl5]
      refine zt (i := 6) (v := .pointer (some ⟨Ho, 14, none⟩)) [] (fun w' hSw => ?_) hHeld ?_
      · clear hHeld hSw
        go_simp
      simp only [Act.put, zl0, zl1, zl2, zl3, zl4, zl5]
      refine zt (i := 7) (v := .slice (some ⟨tb, to', none⟩) sn tc) [] (fun w' hSw => ?_) hHeld ?_
      · have q13'' := (hSw.cell (zb q13)).trans q13
        have lq13 := zb q13''
        dsimp only at lq13
        clear hHeld hSw
        go_simp
      simp only [Act.put, zl0, zl1, zl2, zl3, zl4, zl5]
      refine zt (i := 8) (v := .int .i64 pick) [] (fun w' hSw => ?_) hHeld ?_
      · clear hHeld hSw
        go_simp
      simp only [Act.put, zl0, zl1, zl2, zl3, zl4, zl5]
      refine zt (i := 9) (v := .pointer (some ⟨Ho, 0, none⟩)) [] (fun w' hSw => ?_) hHeld ?_
      · clear hHeld hSw
        go_simp
      simp only [Act.put, zl0, zl1, zl2, zl3, zl4, zl5]
      refine zt (i := 10) (v := .pointer (some ⟨Ho, 0, none⟩)) [] (fun w' hSw => ?_) hHeld ?_
      · clear hHeld hSw
        go_simp
      simp only [Act.put, zl0, zl1, zl2, zl3, zl4, zl5]
      refine zt (i := 11) (v := .pointer (some ⟨Ho, 14, none⟩)) [] (fun w' hSw => ?_) hHeld ?_
      · clear hHeld hSw
        go_simp
      simp only [Act.put, zl0, zl1, zl2, zl3, zl4, zl5]
      refine zt (i := 12) (v := .slice (some ⟨tb, to', none⟩) sn tc) [] (fun w' hSw => ?_) hHeld ?_
      · have q13'' := (hSw.cell (zb q13)).trans q13
        have lq13 := zb q13''
        dsimp only at lq13
        clear hHeld hSw
        go_simp
      simp only [Act.put, zl0, zl1, zl2, zl3, zl4, zl5]
      refine zt (i := 13) (v := .int .i64 (sn : Nat)) [] (fun w' hSw => ?_) hHeld ?_
      · clear hHeld hSw
        go_simp
      simp only [Act.put, zl0, zl1, zl2, zl3, zl4, zl5]
      refine zt (i := 14) (v := .int .i64 (ix : Nat)) [] (fun w' hSw => ?_) hHeld ?_
      · clear hHeld hSw
        go_simp
        rw [if_neg HSZ.out, HIX.out]
      simp only [Act.put, zl0, zl1, zl2, zl3, zl4, zl5]
      refine zt (i := 15) (v := .pointer (some ⟨tb, to' + ix, none⟩)) [] (fun w' hSw => ?_) hHeld ?_
      · clear hHeld hSw
        go_simp
      simp only [Act.put, zl0, zl1, zl2, zl3, zl4, zl5]
      refine zt (i := 16) (v := .int .i64 nu) [] (fun w' hSw => ?_) hHeld ?_
      · have t0' := (hSw.cell (zb t0)).trans t0
        have lt0 := zb t0'
        dsimp only at lt0
        clear hHeld hSw
        go_simp
      simp only [Act.put, zl0, zl1, zl2, zl3, zl4, zl5]
      refine wpAnyZ_two (i := 17) (k := 21) (by kernel_rfl) rfl rfl (fun K' hK => ?_) (fun K' hK => ?_)
      · go_simp
        refine (shAcked_one A0.aO A0.nO A0.cO A0.aI A0.nI A0.cI x.sh nu _ (Lib.hid (HPC.out.xx.sh.keep hHeld)) (Lib.hid HTW.out.hx.sh)).mono ?_
        rintro e wk ⟨er, h2, n2, aO, nO, cO, aI, nI, cI, rfl, hres, hbk⟩
        have HRES := Lib.hid hres
        have HSW := Lib.hid hHeld.size
        refine hK.out _ _ ?_ (fun hHeld' => ?_)
        · exact hHeld.trans (hbk.mono hHeld.size)
        clear hK K' hres
        clear hHeld hbk
        have hHeld := hHeld'
        clear hHeld'
        try simp only [Act.put, zl0, zl1, zl2, zl3, zl4, zl5]
        refine zt (i := 18) (v := .tuple #[.agg #[.int .i64 h2, .int .i64 n2, .slice aO nO cO, .slice aI nI cI], .int .i64 er]) [] (fun w' hSw => ?_) hHeld ?_
        · clear hHeld hSw
          go_simp
        simp only [Act.put, zl0, zl1, zl2, zl3, zl4, zl5]
        refine zt (i := 19) (v := .agg #[.int .i64 h2, .int .i64 n2, .slice aO nO cO, .slice aI nI cI]) [] (fun w' hSw => ?_) hHeld ?_
        · clear hHeld hSw
          go_simp
        simp only [Act.put, zl0, zl1, zl2, zl3, zl4, zl5]
        refine zt (i := 20) (v := .int .i64 er) [] (fun w' hSw => ?_) hHeld ?_
        · clear hHeld hSw
          go_simp
        simp only [Act.put, zl0, zl1, zl2, zl3, zl4, zl5]
        refine zo 21 (fun K' hK => ?_)
        go_simp
        refine hK.out _ _ ?_ (fun hHeld' => ?_)
        · exact hHeld.alloc hHeld.size _
        clear hK K'
        obtain ⟨WB, hWB⟩ : ∃ W, W = wk.alloc (.cells #[.int .i64 0, .int .i64 0, .slice none 0 0, .slice none 0 0] 32) := ⟨_, rfl⟩
        obtain ⟨X2, hX⟩ : ∃ X, X = wk.heap.size := ⟨_, rfl⟩
        have HXS2 : Hid (w.heap.size ≤ X2) := Lib.hid (by rw [hX]; exact hHeld.size)
        have HX : Hid (Own WB X2 32 4 (shF 0 0 (.slice none 0 0) (.slice none 0 0))) := Lib.hid (by rw [hWB, hX]; exact Own.shr0 _)
        have HWKB : Hid (Below wk.heap.size wk WB) := Lib.hid (by rw [hWB]; exact (Below.refl _ _).alloc (Nat.le_refl _) _)
        have HXW : Hid (wk.heap.size ≤ X2) := Lib.hid (by rw [hX]; exact Nat.le_refl _)
        rw [← hX]
        rw [← hWB] at hHeld' ⊢
        clear hWB hX hHeld
        have hHeld := hHeld'
        clear hHeld'
        try simp only [Act.put, zl0, zl1, zl2, zl3, zl4, zl5]
        refine zo 22 (fun K' hK => ?_)
        have x0 := HX.out.cell (i := 0) (by omega)
        have x1 := HX.out.cell (i := 1) (by omega)
        have x2 := HX.out.cell (i := 2) (by omega)
        have x3 := HX.out.cell (i := 3) (by omega)
        have f0 := HX.out.frozen 0
        have f1 := HX.out.frozen 1
        have f2 := HX.out.frozen 2
        have f3 := HX.out.frozen 3
        have lX := HX.out.lt
        have HX2' := Lib.hid (shF_set HX.out h2 n2 (.slice aO nO cO) (.slice aI nI cI))
        go_simp
        refine hK.out _ _ ?_ (fun hHeld' => ?_)
        · exact (((hHeld.setCell (p := ⟨X2, 0, none⟩) HXS2.out _).setCell (p := ⟨X2, 1, none⟩) HXS2.out _).setCell (p := ⟨X2, 2, none⟩) HXS2.out _).setCell (p := ⟨X2, 3, none⟩) HXS2.out _
        clear hK K' x0 x1 x2 x3 f0 f1 f2 f3 lX
        obtain ⟨WC, hWC⟩ : ∃ W, W = (((WB.setCell ⟨X2, 0, none⟩ (.int .i64 h2)).setCell ⟨X2, 1, none⟩ (.int .i64 n2)).setCell ⟨X2, 2, none⟩ (.slice aO nO cO)).setCell ⟨X2, 3, none⟩ (.slice aI nI cI) := ⟨_, rfl⟩
        have HMX : Hid (Mod (fun k => k = X2) WB WC) := Lib.hid (by rw [hWC]; exact shW_mod WB X2 h2 n2 (.slice aO nO cO) (.slice aI nI cI))
        rw [← hWC] at hHeld' HX2' ⊢
        clear hWC hHeld HX
        have hHeld := hHeld'
        clear hHeld'
        try simp only [Act.put, zl0, zl1, zl2, zl3, zl4, zl5]
        have HRS3 := Lib.hid (ResF.modA (b0 := w.heap.size) HRES.out HWKB.out HMX.out HXW.out HSW.out)
        refine zt (i := 23) (v := .int .i64 er) [] (fun w' hSw => ?_) hHeld ?_
        · clear hHeld hSw
          go_simp
        simp only [Act.put, zl0, zl1, zl2, zl3, zl4, zl5]
        refine wpAnyZ_done (by kernel_rfl) ?_ _
        have HFIN := Lib.hid hHeld
        clear hHeld
        go_wp2_with fail
        go_meet
        exact ⟨X2, er, h2, n2, aO, nO, cO, aI, nI, cI, rfl, rfl, HX2', HXS2, HRS3, HFIN⟩
      · go_simp
        refine hK.out _ _ ?_ (fun hHeld' => ?_)
        · exact hHeld.alloc hHeld.size _
        clear hK K'
        obtain ⟨WB, hWB⟩ : ∃ W, W = wd.alloc (.cells #[.int .i64 0, .int .i64 0, .slice none 0 0, .slice none 0 0] 32) := ⟨_, rfl⟩
        obtain ⟨X2, hX⟩ : ∃ X, X = wd.heap.size := ⟨_, rfl⟩
        have HXS2 : Hid (w.heap.size ≤ X2) := Lib.hid (by rw [hX]; exact hHeld.size)
        have HX : Hid (Own WB X2 32 4 (shF 0 0 (.slice none 0 0) (.slice none 0 0))) := Lib.hid (by rw [hWB, hX]; exact Own.shr0 _)
        rw [← hX]
        rw [← hWB] at hHeld' ⊢
        clear hWB hX hHeld
        have hHeld := hHeld'
        clear hHeld'
        try simp only [Act.put, zl0, zl1, zl2, zl3, zl4, zl5]
        refine zo 17 (fun K' hK => ?_)
        have HXD := Lib.hid HX.out.lt
        go_simp
        refine (shAcked_one A0.aO A0.nO A0.cO A0.aI A0.nI A0.cI x.sh nu _ (Lib.hid (HPC.out.xx.sh.keep hHeld)) (Lib.hid HTW.out.hx.sh)).mono ?_
        rintro e wk ⟨er, h2, n2, aO, nO, cO, aI, nI, cI, rfl, hres, hbk⟩
        have HRES := Lib.hid hres
        have HSW := Lib.hid hHeld.size
        refine hK.out _ _ ?_ (fun hHeld' => ?_)
        · exact hHeld.trans (hbk.mono hHeld.size)
        clear hK K' hres
        have HX := Lib.hid (HX.out.keep hbk HX.out.lt)
        clear hHeld hbk
        have hHeld := hHeld'
        clear hHeld'
        try simp only [Act.put, zl0, zl1, zl2, zl3, zl4, zl5]
        refine zt (i := 18) (v := .tuple #[.agg #[.int .i64 h2, .int .i64 n2, .slice aO nO cO, .slice aI nI cI], .int .i64 er]) [] (fun w' hSw => ?_) hHeld ?_
        · clear hHeld hSw
          go_simp
        simp only [Act.put, zl0, zl1, zl2, zl3, zl4, zl5]
        refine zt (i := 19) (v := .agg #[.int .i64 h2, .int .i64 n2, .slice aO nO cO, .slice aI nI cI]) [] (fun w' hSw => ?_) hHeld ?_
        · clear hHeld hSw
          go_simp
        simp only [Act.put, zl0, zl1, zl2, zl3, zl4, zl5]
        refine zt (i := 20) (v := .int .i64 er) [] (fun w' hSw => ?_) hHeld ?_
        · clear hHeld hSw
          go_simp
        simp only [Act.put, zl0, zl1, zl2, zl3, zl4, zl5]
        refine zo 22 (fun K' hK => ?_)
        have x0 := HX.out.cell (i := 0) (by omega)
        have x1 := HX.out.cell (i := 1) (by omega)
        have x2 := HX.out.cell (i := 2) (by omega)
        have x3 := HX.out.cell (i := 3) (by omega)
        have f0 := HX.out.frozen 0
        have f1 := HX.out.frozen 1
        have f2 := HX.out.frozen 2
        have f3 := HX.out.frozen 3
        have lX := HX.out.lt
        have HX2' := Lib.hid (shF_set HX.out h2 n2 (.slice aO nO cO) (.slice aI nI cI))
        go_simp
        refine hK.out _ _ ?_ (fun hHeld' => ?_)
        · exact (((hHeld.setCell (p := ⟨X2, 0, none⟩) HXS2.out _).setCell (p := ⟨X2, 1, none⟩) HXS2.out _).setCell (p := ⟨X2, 2, none⟩) HXS2.out _).setCell (p := ⟨X2, 3, none⟩) HXS2.out _
        clear hK K' x0 x1 x2 x3 f0 f1 f2 f3 lX
        obtain ⟨WC, hWC⟩ : ∃ W, W = (((wk.setCell ⟨X2, 0, none⟩ (.int .i64 h2)).setCell ⟨X2, 1, none⟩ (.int .i64 n2)).setCell ⟨X2, 2, none⟩ (.slice aO nO cO)).setCell ⟨X2, 3, none⟩ (.slice aI nI cI) := ⟨_, rfl⟩
        have HMX : Hid (Mod (fun k => k = X2) wk WC) := Lib.hid (by rw [hWC]; exact shW_mod wk X2 h2 n2 (.slice aO nO cO) (.slice aI nI cI))
        rw [← hWC] at hHeld' HX2' ⊢
        clear hWC hHeld HX
        have hHeld := hHeld'
        clear hHeld'
        try simp only [Act.put, zl0, zl1, zl2, zl3, zl4, zl5]
        have HRS3 := Lib.hid (ResF.modB (b0 := w.heap.size) HRES.out HMX.out HXD.out HSW.out)
        refine zt (i := 23) (v := .int .i64 er) [] (fun w' hSw => ?_) hHeld ?_
        · clear hHeld hSw
          go_simp
        simp only [Act.put, zl0, zl1, zl2, zl3, zl4, zl5]
        refine wpAnyZ_done (by kernel_rfl) ?_ _
        have HFIN := Lib.hid hHeld
        clear hHeld
        go_wp2_with fail
        go_meet
        exact ⟨X2, er, h2, n2, aO, nO, cO, aI, nI, cI, rfl, rfl, HX2', HXS2, HRS3, HFIN⟩
    case rest =>
      obtain ⟨X2, er, h2, n2, aO, nO, cO, aI, nI, cI, rfl, rfl, HXC, HXS2, HRS, HBc⟩ := hcut
      have HPc := Lib.hid (HPC.out.keep hn0 hm0 HBc.out)
      clear p0 p1 p2 p3 hixz hs0z hixl hs0 q13 t0 lo htl HIX HSZ
      by_cases her : er = 0
      · subst her
        obtain ⟨s', hR, hh, hnx, hrd, hfO, hfI⟩ : ∃ s' : Shr, AkF x.sh s' ∧ s'.hav = h2 ∧ s'.nxt = n2 ∧ RdShr wc aO nO aI nI s' ∧ (∀ p, aO = some p → w.heap.size ≤ p.block) ∧ (∀ p, aI = some p → w.heap.size ≤ p.block) := by
          rcases HRS.out with h | ⟨_, h⟩
          · exact absurd rfl h
          · exact h
        subst hh
        subst hnx
        have hsh := HPc.out.share (cO := cO) (cI := cI) hn0 hm0 hrd (z := w.heap.size) (fun k hk => hk.elim (HPC.out.b0 k) (HPC.out.b1 k)) hfO hfI
        obtain ⟨h2, hh2⟩ : ∃ v, v = s'.hav := ⟨_, rfl⟩
        obtain ⟨n2, hn2⟩ : ∃ v, v = s'.nxt := ⟨_, rfl⟩
        rw [← hh2, ← hn2] at hsh HXC
        have HSH := Lib.hid hsh
        obtain ⟨k, hk⟩ := hR
        have HTF : Hid (Two n m tot tick (r + 1) (ackX x k) y) := Lib.hid (HTW.out.acked hr k)
        have HE : Hid (ackX x k = { x with sh := s' }) := Lib.hid (by rw [hk]; rfl)
        have d0 : wc.cell? ⟨X2, 0, none⟩ = some (.int .i64 h2) := HXC.out.cell (i := 0) (by omega)
        have d1 : wc.cell? ⟨X2, 1, none⟩ = some (.int .i64 n2) := HXC.out.cell (i := 1) (by omega)
        have d2 : wc.cell? ⟨X2, 2, none⟩ = some (.slice aO nO cO) := HXC.out.cell (i := 2) (by omega)
        have d3 : wc.cell? ⟨X2, 3, none⟩ = some (.slice aI nI cI) := HXC.out.cell (i := 3) (by omega)
        have c0 := HPc.out.ox.cell (i := 0) (by omega)
        have c1 := HPc.out.ox.cell (i := 1) (by omega)
        have c2 := HPc.out.ox.cell (i := 2) (by omega)
        have c3 := HPc.out.ox.cell (i := 3) (by omega)
        have f0 := HPc.out.ox.frozen 0
        have f1 := HPc.out.ox.frozen 1
        have f2 := HPc.out.ox.frozen 2
        have f3 := HPc.out.ox.frozen 3
        have l3 := HPc.out.ox.lt
        have lX := HXC.out.lt
        have HPF : Hid (Pair B L lf H Ho n m (ackX x k) y (shW wc H h2 n2 (.slice aO nO cO) (.slice aI nI cI))) := Lib.hid (by rw [HE.out]; exact ⟨M0, M1, _, A1, hsh.1⟩)
        have HFI : Hid (Below B w (shW wc H h2 n2 (.slice aO nO cO) (.slice aI nI cI))) := Lib.hid ((HBc.out.mono HBB.out).trans hsh.2)
        clear hsh hk hh2 hn2 hrd hfO hfI HRS HE
        go_wp2_with fail
        have hfold : (((wc.setCell ⟨H, 0, none⟩ (.int .i64 h2)).setCell ⟨H, 1, none⟩ (.int .i64 n2)).setCell ⟨H, 2, none⟩ (.slice aO nO cO)).setCell ⟨H, 3, none⟩ (.slice aI nI cI) = shW wc H h2 n2 (.slice aO nO cO) (.slice aI nI cI) := rfl
        rw [hfold]
        refine fr_use (Q := K) (frP k0 k1 k2 k3 k4 k5 k6 k7 k8 k9 k10 k11 k12 (.int .i64 tick) k14 k33 k34 k35 k36 k37 k38 k39 k40 k41 k42 k43 k44 k45 k46 k47 k48 k49 k50 k51 k52 k53 k54 k55 k56 k57 k58 k59 k60 k322) rfl (fun g => ?_)
        exact HK.out g _ _ _ HPF HTF HFI
      · have he0 : (er == 0) = false := by simpa using her
        have HPF : Hid (Pair B L lf H Ho n m x y wc) := Lib.hid ⟨M0, M1, A0, A1, HPc.out⟩
        have HFI : Hid (Below B w wc) := Lib.hid (HBc.out.mono HBB.out)
        have HTF := Lib.hid (HTW.out.next hr)
        clear HPc her HRS HXC
        go_wp2_with fail
        refine fr_use (Q := K) (frP k0 k1 k2 k3 k4 k5 k6 k7 k8 k9 k10 k11 k12 (.int .i64 tick) k14 k33 k34 k35 k36 k37 k38 k39 k40 k41 k42 k43 k44 k45 k46 k47 k48 k49 k50 k51 k52 k53 k54 k55 k56 k57 k58 k59 k60 k322) rfl (fun g => ?_)
        exact HK.out g _ _ _ HPF HTF HFI
  · have hs0z : ¬ (0 : Int) < (sn : Int) := by omega
    have HPF : Hid (Pair B L lf H Ho n m x y w) := Lib.hid ⟨M0, M1, A0, A1, HPC.out⟩
    have HFI : Hid (Below B w w) := Lib.hid (Below.refl _ _)
    have HTF := Lib.hid (HTW.out.next hr)
    clear HPC
    go_wp2_with fail
    refine fr_use (Q := K) (frP k0 k1 k2 k3 k4 k5 k6 k7 k8 k9 k10 k11 k12 (.int .i64 tick) k14 k33 k34 k35 k36 k37 k38 k39 k40 k41 k42 k43 k44 k45 k46 k47 k48 k49 k50 k51 k52 k53 k54 k55 k56 k57 k58 k59 k60 k322) rfl (fun g => ?_)
    exact HK.out g _ _ _ HPF HTF HFI
end Go.Proofs.YtkbbapefgifagaaGreatDoor
