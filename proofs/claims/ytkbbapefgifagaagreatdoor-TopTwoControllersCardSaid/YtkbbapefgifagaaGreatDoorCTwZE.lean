/-
Two controllers: a round of the law.
-/
import Derived.Test.YtkbbapefgifagaaGreatDoorGTwZC
import Derived.Deep.CutBlock
namespace Go.Proofs.YtkbbapefgifagaaGreatDoor
open Go.RowKit
set_option linter.unusedVariables false
set_option linter.unusedSimpArgs false
def findSeq (n : Nat) : Code → Option Code
  | .loop c => findSeq n c
  | .seq a b => match a with
    | .region k _ _ => if k = n then some (.seq a b) else findSeq n b
    | _ => match findSeq n a with
      | some c => some c
      | none => findSeq n b
  | .block _ c => findSeq n c
  | .cond _ a b => match findSeq n a with
    | some c => some c
    | none => findSeq n b
  | _ => none
theorem Pair.keepP {B L : Nat} {lf : Nat → Value} {Hx Hy n m : Nat} {x y : Hf} {W W' : World} (h : Pair B L lf Hx Hy n m x y W) (hn : 0 < n) (hm : 0 < m) (hb : Below W.heap.size W W') : Pair B L lf Hx Hy n m x y W' := by
  obtain ⟨M0, M1, A0, A1, h⟩ := h
  exact ⟨M0, M1, A0, A1, h.keep hn hm hb⟩
noncomputable def seq13 : Code := ((Tryz.f3.body.bind (findSeq 13)).getD .skip)
set_option maxRecDepth 100000 in
set_option maxHeartbeats 16000000 in
theorem round_ok {k0 k1 k2 k3 k4 k5 k6 k7 k8 k9 k14 u17 u18 u19 u20 u21 u22 u23 u24 u25 u26 u27 u28 u29 u30 u31 u32 k33 k34 k35 k36 k37 k38 k39 k40 k41 k42 k43 k44 k45 k46 k47 k48 k49 k50 k51 k52 k53 k54 k55 k56 k57 k58 k59 k60 u61 u62 u63 u64 u65 u66 u67 u68 u69 u70 u71 u72 u73 u74 u75 u76 u77 u78 u79 u80 u81 u82 u83 u84 u85 u86 u87 u88 u89 u90 u91 u92 u93 u94 u95 u96 u97 u98 u99 u100 u101 u102 u103 u104 u105 u106 u107 u108 u109 u110 u111 u112 u113 u114 u115 u116 u117 u118 u119 u120 u121 u122 u123 u124 u125 u126 u127 u128 u129 u130 u131 u132 u133 u134 u135 u136 u137 u138 u139 u140 u141 u142 u143 u144 u145 u146 u147 u148 u149 u150 u151 u152 u153 u154 u155 u156 u157 u158 u159 u160 u161 u162 u163 u164 u165 u166 u167 u168 u169 u170 u171 u172 u173 u174 u175 u176 u177 u178 u179 u180 u181 u182 u183 u184 u185 u186 u187 u188 u189 u190 u191 u192 u193 u194 u195 u196 u197 u198 u199 u200 u201 u202 u203 u204 u205 u206 u207 u208 u209 u210 u211 u212 u213 u214 u215 u216 u217 u218 u219 u220 u221 u222 u223 u224 u225 u226 u227 u228 u229 u230 u231 u232 u233 u234 u235 u236 u237 u238 u239 u240 u241 u242 u243 u244 u245 u246 u247 u248 u249 u250 u251 u252 u253 u254 u255 u256 u257 u258 u259 u260 u261 u262 u263 u264 u265 u266 u267 u268 u269 u270 u271 u272 u273 u274 u275 u276 u277 u278 u279 u280 u281 u282 u283 u284 u285 u286 u287 u288 u289 u290 u291 u292 u293 u294 u295 u296 u297 u298 u299 u300 u301 u302 u303 u304 u305 u306 u307 u308 u309 u310 u311 u312 u313 u314 u315 u316 u317 u318 u319 u320 u321 k322 : Value} (B L Hx Hy n m Hh Ho nh no ii jj Y : Nat) (p q tick what pick : Int) (r : Nat) (x y xh xo : Hf) (w : World) (K : Act → World → Prop) (HP : Hid (Pair B L (hfF [.pointer (some ⟨Hx, 0, none⟩), .pointer (some ⟨Hy, 0, none⟩)]) Hx Hy n m x y w)) (HTW : Hid (Two n m (p + q) tick r x y)) (HPh : Hid (Pair B L (hfF [.pointer (some ⟨Hx, 0, none⟩), .pointer (some ⟨Hy, 0, none⟩)]) Hh Ho nh no xh xo w)) (HTh : Hid (Two nh no (p + q) tick r xh xo)) (hr : r < 200) (hn0 : 0 < n) (hn4 : n ≤ 4) (hm0 : 0 < m) (hm4 : m ≤ 4) (hh0 : 0 < nh) (hh4 : nh ≤ 4) (ho0 : 0 < no) (ho4 : no ≤ 4) (hw0 : 0 ≤ what) (hw1 : what ≤ 255) (hp0 : 0 ≤ pick) (hp1 : pick ≤ 255) (hH1 : 1 < Hx) (hH2 : 1 < Hy) (hH3 : 1 < Hh) (hH4 : 1 < Ho) (HT : Hid (hapT w)) (hpp : 0 ≤ p ∧ p ≤ 99) (hqq : 0 ≤ q ∧ q ≤ 99)
    (hij : ii + jj = 1) (hlh : (hfF [.pointer (some ⟨Hx, 0, none⟩), .pointer (some ⟨Hy, 0, none⟩)]) ii = .pointer (some ⟨Hh, 0, none⟩)) (hlo : (hfF [.pointer (some ⟨Hx, 0, none⟩), .pointer (some ⟨Hy, 0, none⟩)]) jj = .pointer (some ⟨Ho, 0, none⟩)) (y0 : w.cell? ⟨Y, 0, none⟩ = some (.int .u8 what)) (y2 : w.cell? ⟨Y, 2, none⟩ = some (.int .u8 pick))
    (HBK : Hid (∀ (x' y' : Hf) (tick' : Int) (r' : Nat) (W : World), Pair B L (hfF [.pointer (some ⟨Hx, 0, none⟩), .pointer (some ⟨Hy, 0, none⟩)]) Hh Ho nh no x' y' W → Two nh no (p + q) tick' r' x' y' → ∃ x2 y2, Hid (Pair B L (hfF [.pointer (some ⟨Hx, 0, none⟩), .pointer (some ⟨Hy, 0, none⟩)]) Hx Hy n m x2 y2 W) ∧ Hid (Two n m (p + q) tick' r' x2 y2)))
    (HK : Hid (∀ (g : Nat → Value) (tick' : Int) (x' y' : Hf) (W : World), Hid (Pair B L (hfF [.pointer (some ⟨Hx, 0, none⟩), .pointer (some ⟨Hy, 0, none⟩)]) Hx Hy n m x' y' W) → Hid (Two n m (p + q) tick' (r + 1) x' y') → Hid (Below B w W) → K ⟨List.toArray (frP k0 k1 k2 k3 k4 k5 k6 k7 k8 k9 (.int .i64 p) (.int .i64 q) (.pointer (some ⟨L, 0, none⟩)) (.int .i64 tick') k14 k33 k34 k35 k36 k37 k38 k39 k40 k41 k42 k43 k44 k45 k46 k47 k48 k49 k50 k51 k52 k53 k54 k55 k56 k57 k58 k59 k60 k322 g), []⟩ W)) :
    Code.wp Tryz.prog seq13 (Exit.then K (fun _ _ _ => False)) ⟨List.toArray (k0 :: k1 :: k2 :: k3 :: k4 :: k5 :: k6 :: k7 :: k8 :: k9 :: (.int .i64 p) :: (.int .i64 q) :: (.pointer (some ⟨L, 0, none⟩)) :: (.int .i64 tick) :: k14 :: (.pointer (some ⟨Y, 0, none⟩)) :: (.int .i64 (ii : Nat)) :: u17 :: u18 :: u19 :: u20 :: u21 :: u22 :: u23 :: u24 :: u25 :: u26 :: u27 :: u28 :: u29 :: u30 :: u31 :: u32 :: k33 :: k34 :: k35 :: k36 :: k37 :: k38 :: k39 :: k40 :: k41 :: k42 :: k43 :: k44 :: k45 :: k46 :: k47 :: k48 :: k49 :: k50 :: k51 :: k52 :: k53 :: k54 :: k55 :: k56 :: k57 :: k58 :: k59 :: k60 :: u61 :: u62 :: u63 :: u64 :: u65 :: u66 :: u67 :: u68 :: u69 :: u70 :: u71 :: u72 :: u73 :: u74 :: u75 :: u76 :: u77 :: u78 :: u79 :: u80 :: u81 :: u82 :: u83 :: u84 :: u85 :: u86 :: u87 :: u88 :: u89 :: u90 :: u91 :: u92 :: u93 :: u94 :: u95 :: u96 :: u97 :: u98 :: u99 :: u100 :: u101 :: u102 :: u103 :: u104 :: u105 :: u106 :: u107 :: u108 :: u109 :: u110 :: u111 :: u112 :: u113 :: u114 :: u115 :: u116 :: u117 :: u118 :: u119 :: u120 :: u121 :: u122 :: u123 :: u124 :: u125 :: u126 :: u127 :: u128 :: u129 :: u130 :: u131 :: u132 :: u133 :: u134 :: u135 :: u136 :: u137 :: u138 :: u139 :: u140 :: u141 :: u142 :: u143 :: u144 :: u145 :: u146 :: u147 :: u148 :: u149 :: u150 :: u151 :: u152 :: u153 :: u154 :: u155 :: u156 :: u157 :: u158 :: u159 :: u160 :: u161 :: u162 :: u163 :: u164 :: u165 :: u166 :: u167 :: u168 :: u169 :: u170 :: u171 :: u172 :: u173 :: u174 :: u175 :: u176 :: u177 :: u178 :: u179 :: u180 :: u181 :: u182 :: u183 :: u184 :: u185 :: u186 :: u187 :: u188 :: u189 :: u190 :: u191 :: u192 :: u193 :: u194 :: u195 :: u196 :: u197 :: u198 :: u199 :: u200 :: u201 :: u202 :: u203 :: u204 :: u205 :: u206 :: u207 :: u208 :: u209 :: u210 :: u211 :: u212 :: u213 :: u214 :: u215 :: u216 :: u217 :: u218 :: u219 :: u220 :: u221 :: u222 :: u223 :: u224 :: u225 :: u226 :: u227 :: u228 :: u229 :: u230 :: u231 :: u232 :: u233 :: u234 :: u235 :: u236 :: u237 :: u238 :: u239 :: u240 :: u241 :: u242 :: u243 :: u244 :: u245 :: u246 :: u247 :: u248 :: u249 :: u250 :: u251 :: u252 :: u253 :: u254 :: u255 :: u256 :: u257 :: u258 :: u259 :: u260 :: u261 :: u262 :: u263 :: u264 :: u265 :: u266 :: u267 :: u268 :: u269 :: u270 :: u271 :: u272 :: u273 :: u274 :: u275 :: u276 :: u277 :: u278 :: u279 :: u280 :: u281 :: u282 :: u283 :: u284 :: u285 :: u286 :: u287 :: u288 :: u289 :: u290 :: u291 :: u292 :: u293 :: u294 :: u295 :: u296 :: u297 :: u298 :: u299 :: u300 :: u301 :: u302 :: u303 :: u304 :: u305 :: u306 :: u307 :: u308 :: u309 :: u310 :: u311 :: u312 :: u313 :: u314 :: u315 :: u316 :: u317 :: u318 :: u319 :: u320 :: u321 :: k322 :: []), []⟩ w := by
  obtain ⟨M0, M1, A0, A1, hpc⟩ := HP.out
  have HBB := Lib.hid hpc.hB
  have ci : w.cell? ⟨L, ii, none⟩ = some (.pointer (some ⟨Hh, 0, none⟩)) := by rw [← hlh]; exact hpc.lc.cell (i := ii) (by omega)
  have cj : w.cell? ⟨L, jj, none⟩ = some (.pointer (some ⟨Ho, 0, none⟩)) := by rw [← hlo]; exact hpc.lc.cell (i := jj) (by omega)
  have lL := hpc.lc.lt
  have lY : Y < w.heap.size := zb y0
  have hi2 : (ii : Int) < 2 := by omega
  have hj2 : (jj : Int) < 2 := by omega
  have HSU : Hid (IntKind.i64.wrap (1 - (ii : Int)) = (jj : Int)) := Lib.hid (by rw [IntWalk.i64_in _ (by omega)]; omega)
  obtain ⟨hp00, hp99⟩ := hpp
  obtain ⟨hq00, hq99⟩ := hqq
  clear hpc hlh hlo
  conv => arg 2; whnf
  go_upto_region 13 with (fail)
  refine region_z (S := fun w' => Below w.heap.size w w') [] (by kernel_rfl) ((Below.refl _ _).drew) (fun hHeld => ?_)
  refine zt (i := 0) (v := .int .i64 (ii : Nat)) [] (fun w' hSw => ?_) hHeld ?_
  · clear hHeld hSw
    go_simp
  simp only [Act.put, zl0, zl1, zl2, zl3, zl4, zl5]
  refine zt (i := 1) (v := .pointer (some ⟨L, ii, none⟩)) [] (fun w' hSw => ?_) hHeld ?_
  · clear hHeld hSw
    go_simp
  simp only [Act.put, zl0, zl1, zl2, zl3, zl4, zl5]
  refine zt (i := 2) (v := .pointer (some ⟨Hh, 0, none⟩)) [] (fun w' hSw => ?_) hHeld ?_
  · have ci'' := (hSw.cell (zb ci)).trans ci
    have lci := zb ci''
    dsimp only at lci
    clear hHeld hSw
    go_simp
  simp only [Act.put, zl0, zl1, zl2, zl3, zl4, zl5]
  refine zt (i := 3) (v := .int .i64 (ii : Nat)) [] (fun w' hSw => ?_) hHeld ?_
  · clear hHeld hSw
    go_simp
  simp only [Act.put, zl0, zl1, zl2, zl3, zl4, zl5]
  refine zt (i := 4) (v := .int .i64 (jj : Nat)) [] (fun w' hSw => ?_) hHeld ?_
  · clear hHeld hSw
    go_simp
    first | done | exact HSU.out | (simp [HSU.out])
  simp only [Act.put, zl0, zl1, zl2, zl3, zl4, zl5]
  refine zt (i := 5) (v := .pointer (some ⟨L, jj, none⟩)) [] (fun w' hSw => ?_) hHeld ?_
  · clear hHeld hSw
    go_simp
  simp only [Act.put, zl0, zl1, zl2, zl3, zl4, zl5]
  refine zt (i := 6) (v := .pointer (some ⟨Ho, 0, none⟩)) [] (fun w' hSw => ?_) hHeld ?_
  · have cj'' := (hSw.cell (zb cj)).trans cj
    have lcj := zb cj''
    dsimp only at lcj
    clear hHeld hSw
    go_simp
  simp only [Act.put, zl0, zl1, zl2, zl3, zl4, zl5]
  refine zt (i := 7) (v := .pointer (some ⟨Hh, 0, none⟩)) [] (fun w' hSw => ?_) hHeld ?_
  · clear hHeld hSw
    go_simp
  simp only [Act.put, zl0, zl1, zl2, zl3, zl4, zl5]
  refine zt (i := 8) (v := .pointer (some ⟨Ho, 0, none⟩)) [] (fun w' hSw => ?_) hHeld ?_
  · clear hHeld hSw
    go_simp
  simp only [Act.put, zl0, zl1, zl2, zl3, zl4, zl5]
  refine wpAnyZ_done (by kernel_rfl) ?_ _
  have HBD := Lib.hid hHeld
  obtain ⟨wd, hwd⟩ : ∃ wd, wd = w.drew := ⟨_, rfl⟩
  rw [← hwd] at HBD hHeld ⊢
  clear hwd hHeld
  have z0 := (HBD.out.cell (zb y0)).trans y0
  have z2 := (HBD.out.cell (zb y2)).trans y2
  have lYd : Y < wd.heap.size := zb z0
  obtain ⟨d, hd⟩ : ∃ d, what % 8 = d := ⟨_, rfl⟩
  have hdb : 0 ≤ d ∧ d ≤ 7 := by omega
  clear y0 y2 ci cj lL lY
  have HPd : Hid (Pair B L (hfF [.pointer (some ⟨Hx, 0, none⟩), .pointer (some ⟨Hy, 0, none⟩)]) Hx Hy n m x y wd) := Lib.hid (HP.out.keepP hn0 hm0 HBD.out)
  have HPhd : Hid (Pair B L (hfF [.pointer (some ⟨Hx, 0, none⟩), .pointer (some ⟨Hy, 0, none⟩)]) Hh Ho nh no xh xo wd) := Lib.hid (HPh.out.keepP hh0 ho0 HBD.out)
  have HTd : Hid (hapT wd) := Lib.hid (hapT_keep HT.out HBD.out)
  have HBd : Hid (Below B w wd) := Lib.hid (HBD.out.mono HBB.out)
  go_upto_block 2 with (fail)
  rw [hd]
  refine wp_normal (fun K' hK' => ?_)
  refine switch_ok B L Hx Hy n m Hh Ho nh no (p + q) tick pick d r x y xh xo wd K' HPd HTW HPhd HTh hr hn0 hn4 hm0 hm4 hh0 hh4 ho0 ho4 hp0 hp1 hH1 hH2 hH3 hH4 HTd HBK (Lib.hid (fun g tick' x' y' W h1 h2 h3 => hK' _ _ ?_))
  clear hK' K' z0 z2 lYd HPd HPhd HTd
  unfold frP
  obtain ⟨M0, M1, A0, A1, hpc⟩ := h1.out
  have HPC := Lib.hid hpc
  have HTW2 := Lib.hid h2.out
  have HTB : Hid (0 ≤ tick' ∧ tick' ≤ 100000) := Lib.hid ⟨h2.out.t0, by have := h2.out.t1; have := h2.out.r1; omega⟩
  have l0 : W.cell? ⟨L, 0, none⟩ = some (.pointer (some ⟨Hx, 0, none⟩)) := hpc.lc.cell (i := 0) (by omega)
  have l1 : W.cell? ⟨L, 1, none⟩ = some (.pointer (some ⟨Hy, 0, none⟩)) := hpc.lc.cell (i := 1) (by omega)
  have lL := hpc.lc.lt
  clear hpc
  go_upto_region 44 with (fail)
  refine region_z (S := fun w' => Below W.heap.size W w') [] (by kernel_rfl) ((Below.refl _ _).drew) (fun hHeld => ?_)
  refine zt (i := 0) (v := .pointer (some ⟨L, 0, none⟩)) [] (fun w' hSw => ?_) hHeld ?_
  · clear hHeld hSw
    go_simp
  simp only [Act.put, zl0, zl1, zl2, zl3, zl4, zl5]
  refine zt (i := 1) (v := .pointer (some ⟨Hx, 0, none⟩)) [] (fun w' hSw => ?_) hHeld ?_
  · have ci'' := (hSw.cell (zb l0)).trans l0
    have lci := zb ci''
    dsimp only at lci
    clear hHeld hSw
    go_simp
  simp only [Act.put, zl0, zl1, zl2, zl3, zl4, zl5]
  refine zt (i := 2) (v := .int .i64 tick') [] (fun w' hSw => ?_) hHeld ?_
  · clear hHeld hSw
    go_simp
  simp only [Act.put, zl0, zl1, zl2, zl3, zl4, zl5]
  refine zt (i := 4) (v := .pointer (some ⟨L, 1, none⟩)) [] (fun w' hSw => ?_) hHeld ?_
  · clear hHeld hSw
    go_simp
  simp only [Act.put, zl0, zl1, zl2, zl3, zl4, zl5]
  refine zt (i := 5) (v := .pointer (some ⟨Hy, 0, none⟩)) [] (fun w' hSw => ?_) hHeld ?_
  · have ci'' := (hSw.cell (zb l1)).trans l1
    have lci := zb ci''
    dsimp only at lci
    clear hHeld hSw
    go_simp
  simp only [Act.put, zl0, zl1, zl2, zl3, zl4, zl5]
  refine zt (i := 6) (v := .int .i64 tick') [] (fun w' hSw => ?_) hHeld ?_
  · clear hHeld hSw
    go_simp
  simp only [Act.put, zl0, zl1, zl2, zl3, zl4, zl5]
  refine zo 3 (fun K' hK => ?_)
  go_simp
  refine (r7Alive_ok (HPC.out.ox.keep hHeld HPC.out.ox.lt) (HPC.out.xx.keep hn0 hHeld) HTW2.out.hx hn4 HTB.out.1 HTB.out.2).mono ?_
  rintro e w1 ⟨rfl, hbk⟩
  refine hK.out _ _ ?_ (fun hHeld' => ?_)
  · exact hHeld.trans (hbk.mono hHeld.size)
  clear hK K' hHeld hbk
  have hHeld := hHeld'
  clear hHeld'
  try simp only [Act.put, zl0, zl1, zl2, zl3, zl4, zl5]
  refine zo 7 (fun K' hK => ?_)
  go_simp
  refine (r7Alive_ok (HPC.out.oy.keep hHeld HPC.out.oy.lt) (HPC.out.yy.keep hm0 hHeld) HTW2.out.hy hm4 HTB.out.1 HTB.out.2).mono ?_
  rintro e w2 ⟨rfl, hbk⟩
  refine hK.out _ _ ?_ (fun hHeld' => ?_)
  · exact hHeld.trans (hbk.mono hHeld.size)
  clear hK K' hHeld hbk
  have hHeld := hHeld'
  clear hHeld'
  try simp only [Act.put, zl0, zl1, zl2, zl3, zl4, zl5]
  refine zt (i := 8) (v := .int .i64 (alvS n tick' x'.ls)) [] (fun w' hSw => ?_) hHeld ?_
  · clear hHeld hSw
    go_simp
  simp only [Act.put, zl0, zl1, zl2, zl3, zl4, zl5]
  refine zt (i := 9) (v := .int .i64 (alvS m tick' y'.ls)) [] (fun w' hSw => ?_) hHeld ?_
  · clear hHeld hSw
    go_simp
  simp only [Act.put, zl0, zl1, zl2, zl3, zl4, zl5]
  refine wpAnyZ_done (by kernel_rfl) ?_ _
  have HBE := Lib.hid hHeld
  obtain ⟨ax, hax⟩ : ∃ a, a = alvS n tick' x'.ls := ⟨_, rfl⟩
  obtain ⟨ay, hay⟩ : ∃ a, a = alvS m tick' y'.ls := ⟨_, rfl⟩
  obtain ⟨vx, hvx⟩ : ∃ a, a = x'.sh.hav := ⟨_, rfl⟩
  obtain ⟨vy, hvy⟩ : ∃ a, a = y'.sh.hav := ⟨_, rfl⟩
  have hp2 := HPC.out.keep hn0 hm0 hHeld
  have q0 : w2.cell? ⟨Hx, 0, none⟩ = some (.int .i64 vx) := by rw [hvx]; exact hp2.ox.cell (i := 0) (by omega)
  have q1 : w2.cell? ⟨Hy, 0, none⟩ = some (.int .i64 vy) := by rw [hvy]; exact hp2.oy.cell (i := 0) (by omega)
  have m0 : w2.cell? ⟨L, 0, none⟩ = some (.pointer (some ⟨Hx, 0, none⟩)) := hp2.lc.cell (i := 0) (by omega)
  have m1 : w2.cell? ⟨L, 1, none⟩ = some (.pointer (some ⟨Hy, 0, none⟩)) := hp2.lc.cell (i := 1) (by omega)
  have lL2 := hp2.lc.lt
  have lX2 : Hx < w2.heap.size := hp2.ox.lt
  have lY2 : Hy < w2.heap.size := hp2.oy.lt
  have e1 : 0 ≤ ax := by rw [hax]; exact alvS_nn HTW2.out.hx.ls
  have e2 : 0 ≤ ay := by rw [hay]; exact alvS_nn HTW2.out.hy.ls
  have e3 : ax ≤ vx := by rw [hax, hvx]; exact HTW2.out.hx.al
  have e4 : ay ≤ vy := by rw [hay, hvy]; exact HTW2.out.hy.al
  have e5 : vx + vy ≤ p + q := by rw [hvx, hvy]; exact HTW2.out.sum
  have HPF : Hid (Pair B L (hfF [.pointer (some ⟨Hx, 0, none⟩), .pointer (some ⟨Hy, 0, none⟩)]) Hx Hy n m x' y' w2) := Lib.hid ⟨M0, M1, A0, A1, hp2⟩
  have HFI : Hid (Below B w w2) := Lib.hid ((HBd.out.trans h3.out).trans (hHeld.mono HPC.out.hB))
  rw [← hax, ← hay]
  have g1 : decide (ax < 0) = false := decide_eq_false (by omega)
  have g2 : decide (ay < 0) = false := decide_eq_false (by omega)
  have g3 : decide (vx < ax) = false := decide_eq_false (by omega)
  have g4 : decide (vy < ay) = false := decide_eq_false (by omega)
  have g5 : decide (p + q < ax + ay) = false := decide_eq_false (by omega)
  have g6 : decide (p + q < vx + vy) = false := decide_eq_false (by omega)
  have wa1 : IntKind.i64.wrap (ax + ay) = ax + ay := IntWalk.i64_in _ (by omega)
  have wa2 : IntKind.i64.wrap (p + q) = p + q := IntWalk.i64_in _ (by omega)
  have wa3 : IntKind.i64.wrap (vx + vy) = vx + vy := IntWalk.i64_in _ (by omega)
  clear hHeld hax hay hvx hvy hp2 l0 l1 lL e1 e2 e3 e4 e5 HPC HTB h1 h3
  go_wp2_with fail
  go_quiet (fail)
  rename_i nq
  have HPN : Hid (Pair B L (hfF [.pointer (some ⟨Hx, 0, none⟩), .pointer (some ⟨Hy, 0, none⟩)]) Hx Hy n m x' y' (w2.drewN nq)) := Lib.hid (HPF.out.keepP hn0 hm0 (below_drewN (Below.refl _ _) nq))
  have HFN : Hid (Below B w (w2.drewN nq)) := Lib.hid (below_drewN HFI.out nq)
  clear q0 q1 m0 m1 lL2 lX2 lY2 g1 g2 g3 g4 g5 g6 wa1 wa2 wa3
  go_wp2_with fail
  refine fr_use (Q := K) (frP k0 k1 k2 k3 k4 k5 k6 k7 k8 k9 (.int .i64 p) (.int .i64 q) (.pointer (some ⟨L, 0, none⟩)) (.int .i64 tick') k14 k33 k34 k35 k36 k37 k38 k39 k40 k41 k42 k43 k44 k45 k46 k47 k48 k49 k50 k51 k52 k53 k54 k55 k56 k57 k58 k59 k60 k322) rfl (fun g => ?_)
  exact HK.out g _ _ _ _ HPN HTW2 HFN
end Go.Proofs.YtkbbapefgifagaaGreatDoor
