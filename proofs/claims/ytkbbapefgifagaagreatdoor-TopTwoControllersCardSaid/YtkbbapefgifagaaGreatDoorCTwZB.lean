/-
Two controllers: the arm of wanting.
-/
import Derived.Test.YtkbbapefgifagaaGreatDoorCTwZA
namespace Go.Proofs.YtkbbapefgifagaaGreatDoor
open Go.RowKit
set_option linter.unusedVariables false
set_option linter.unusedSimpArgs false
theorem rd_dems {b o n : Nat} {wa : Nat → Bool} {W : World} (h : DmOk b o n wa W) : Rd 4 encDm W (some ⟨b, o, none⟩) ((List.range n).map wa) := by
  intro h0
  rw [List.length_map, List.length_range] at h0
  refine ⟨b, o, rfl, zb (h 0 h0).1, fun k y hy j u hu => ?_⟩
  have hk : k < n := by have := (List.getElem?_eq_some_iff.1 hy).1; simpa using this
  rw [List.getElem?_map, List.getElem?_range hk] at hy
  injection hy with hy
  subst hy
  obtain ⟨q0, q1, q2, q3⟩ := h k hk
  match j, hu with
  | 0, hu => injection hu with hu; rw [← hu]; exact q0
  | 1, hu => injection hu with hu; rw [← hu]; exact q1
  | 2, hu => injection hu with hu; rw [← hu]; exact q2
  | 3, hu => injection hu with hu; rw [← hu]; exact q3
  | (j + 4), hu => cases hu
set_option maxRecDepth 100000 in
set_option maxHeartbeats 16000000 in
theorem arm7_ok {k0 k1 k2 k3 k4 k5 k6 k7 k8 k9 k10 k11 k12 k14 u15 u16 u20 u21 u22 u23 u24 u25 u26 u27 u28 u29 u30 u31 u32 k33 k34 k35 k36 k37 k38 k39 k40 k41 k42 k43 k44 k45 k46 k47 k48 k49 k50 k51 k52 k53 k54 k55 k56 k57 k58 k59 k60 u61 u62 u63 u64 u65 u66 u67 u68 u69 u70 u71 u72 u73 u74 u75 u76 u77 u78 u79 u80 u81 u82 u83 u84 u85 u86 u87 u88 u89 u90 u91 u92 u93 u94 u95 u96 u97 u98 u99 u100 u101 u102 u103 u104 u105 u106 u107 u108 u109 u110 u111 u112 u113 u114 u115 u116 u117 u118 u119 u120 u121 u122 u123 u124 u125 u126 u127 u128 u129 u130 u131 u132 u133 u134 u135 u136 u137 u138 u139 u140 u141 u142 u143 u144 u145 u146 u147 u148 u149 u150 u151 u152 u153 u154 u155 u156 u157 u158 u159 u160 u161 u162 u163 u164 u165 u166 u167 u168 u169 u170 u171 u172 u173 u174 u175 u176 u177 u178 u179 u180 u181 u182 u183 u184 u185 u186 u187 u188 u189 u190 u191 u192 u193 u194 u195 u196 u197 u198 u199 u200 u201 u202 u203 u204 u205 u206 u207 u208 u209 u210 u211 u212 u213 u214 u215 u216 u217 u218 u219 u220 u221 u222 u223 u224 u225 u226 u227 u228 u229 u230 u231 u232 u233 u234 u235 u236 u237 u238 u239 u240 u241 u242 u243 u244 u245 u246 u247 u248 u249 u250 u251 u252 u253 u254 u255 u256 u257 u258 u259 u260 u261 u262 u263 u264 u265 u266 u267 u268 u269 u270 u271 u272 u273 u274 u275 u276 u277 u278 u279 u280 u281 u282 u283 u284 u285 u286 u287 u288 u289 u290 u291 u292 u293 u294 u295 u296 u297 u298 u299 u300 u301 u302 u303 u304 u305 u306 u307 u308 u309 u310 u311 u312 u313 u314 u315 u316 u317 u318 u319 u320 u321 k322 : Value} (B L H Ho n m : Nat) (lf : Nat → Value) (tot tick pick : Int) (r : Nat) (x y : Hf) (w : World) (K : Act → World → Prop) (HP : Hid (Pair B L lf H Ho n m x y w)) (HTW : Hid (Two n m tot tick r x y)) (hr : r < 200) (hn0 : 0 < n) (hn4 : n ≤ 4) (hm0 : 0 < m) (hm4 : m ≤ 4) (hp0 : 0 ≤ pick) (hp1 : pick ≤ 255) (hH1 : 1 < H) (hH2 : 1 < Ho)
    (HK : Hid (∀ (g : Nat → Value) (x' y' : Hf) (W : World), Hid (Pair B L lf H Ho n m x' y' W) → Hid (Two n m tot tick (r + 1) x' y') → Hid (Below B w W) → K ⟨List.toArray (frP k0 k1 k2 k3 k4 k5 k6 k7 k8 k9 k10 k11 k12 (.int .i64 tick) k14 k33 k34 k35 k36 k37 k38 k39 k40 k41 k42 k43 k44 k45 k46 k47 k48 k49 k50 k51 k52 k53 k54 k55 k56 k57 k58 k59 k60 k322 g), []⟩ W)) :
    Code.wp Tryz.prog arm7 (Exit.then K (fun _ _ _ => False)) ⟨List.toArray (k0 :: k1 :: k2 :: k3 :: k4 :: k5 :: k6 :: k7 :: k8 :: k9 :: k10 :: k11 :: k12 :: (.int .i64 tick) :: k14 :: u15 :: u16 :: (.pointer (some ⟨H, 0, none⟩)) :: (.pointer (some ⟨Ho, 0, none⟩)) :: (.int .i64 pick) :: u20 :: u21 :: u22 :: u23 :: u24 :: u25 :: u26 :: u27 :: u28 :: u29 :: u30 :: u31 :: u32 :: k33 :: k34 :: k35 :: k36 :: k37 :: k38 :: k39 :: k40 :: k41 :: k42 :: k43 :: k44 :: k45 :: k46 :: k47 :: k48 :: k49 :: k50 :: k51 :: k52 :: k53 :: k54 :: k55 :: k56 :: k57 :: k58 :: k59 :: k60 :: u61 :: u62 :: u63 :: u64 :: u65 :: u66 :: u67 :: u68 :: u69 :: u70 :: u71 :: u72 :: u73 :: u74 :: u75 :: u76 :: u77 :: u78 :: u79 :: u80 :: u81 :: u82 :: u83 :: u84 :: u85 :: u86 :: u87 :: u88 :: u89 :: u90 :: u91 :: u92 :: u93 :: u94 :: u95 :: u96 :: u97 :: u98 :: u99 :: u100 :: u101 :: u102 :: u103 :: u104 :: u105 :: u106 :: u107 :: u108 :: u109 :: u110 :: u111 :: u112 :: u113 :: u114 :: u115 :: u116 :: u117 :: u118 :: u119 :: u120 :: u121 :: u122 :: u123 :: u124 :: u125 :: u126 :: u127 :: u128 :: u129 :: u130 :: u131 :: u132 :: u133 :: u134 :: u135 :: u136 :: u137 :: u138 :: u139 :: u140 :: u141 :: u142 :: u143 :: u144 :: u145 :: u146 :: u147 :: u148 :: u149 :: u150 :: u151 :: u152 :: u153 :: u154 :: u155 :: u156 :: u157 :: u158 :: u159 :: u160 :: u161 :: u162 :: u163 :: u164 :: u165 :: u166 :: u167 :: u168 :: u169 :: u170 :: u171 :: u172 :: u173 :: u174 :: u175 :: u176 :: u177 :: u178 :: u179 :: u180 :: u181 :: u182 :: u183 :: u184 :: u185 :: u186 :: u187 :: u188 :: u189 :: u190 :: u191 :: u192 :: u193 :: u194 :: u195 :: u196 :: u197 :: u198 :: u199 :: u200 :: u201 :: u202 :: u203 :: u204 :: u205 :: u206 :: u207 :: u208 :: u209 :: u210 :: u211 :: u212 :: u213 :: u214 :: u215 :: u216 :: u217 :: u218 :: u219 :: u220 :: u221 :: u222 :: u223 :: u224 :: u225 :: u226 :: u227 :: u228 :: u229 :: u230 :: u231 :: u232 :: u233 :: u234 :: u235 :: u236 :: u237 :: u238 :: u239 :: u240 :: u241 :: u242 :: u243 :: u244 :: u245 :: u246 :: u247 :: u248 :: u249 :: u250 :: u251 :: u252 :: u253 :: u254 :: u255 :: u256 :: u257 :: u258 :: u259 :: u260 :: u261 :: u262 :: u263 :: u264 :: u265 :: u266 :: u267 :: u268 :: u269 :: u270 :: u271 :: u272 :: u273 :: u274 :: u275 :: u276 :: u277 :: u278 :: u279 :: u280 :: u281 :: u282 :: u283 :: u284 :: u285 :: u286 :: u287 :: u288 :: u289 :: u290 :: u291 :: u292 :: u293 :: u294 :: u295 :: u296 :: u297 :: u298 :: u299 :: u300 :: u301 :: u302 :: u303 :: u304 :: u305 :: u306 :: u307 :: u308 :: u309 :: u310 :: u311 :: u312 :: u313 :: u314 :: u315 :: u316 :: u317 :: u318 :: u319 :: u320 :: u321 :: k322 :: []), []⟩ w := by
  obtain ⟨M0, M1, A0, A1, hpc⟩ := HP.out
  have HBB := Lib.hid hpc.hB
  obtain ⟨bD, hbD⟩ : ∃ v, v = A0.bD := ⟨_, rfl⟩
  obtain ⟨oD, hoD⟩ : ∃ v, v = A0.oD := ⟨_, rfl⟩
  obtain ⟨cD, hcD⟩ : ∃ v, v = A0.cD := ⟨_, rfl⟩
  have q11 : w.cell? ⟨H, 11, none⟩ = some (.slice (some ⟨bD, oD, none⟩) n cD) := by rw [hbD, hoD, hcD]; exact hpc.ox.cell (i := 11) (by omega)
  have hdm : DmOk bD oD n x.wa w := by rw [hbD, hoD]; exact hpc.xx.dm
  have lH : H < w.heap.size := hpc.ox.lt
  have HPC := Lib.hid hpc
  have HDM := Lib.hid hdm
  obtain ⟨ix, hix⟩ : ∃ ix : Nat, (ix : Int) = pick % (n : Int) := ⟨(pick % (n : Int)).toNat, by have := Int.emod_nonneg pick (show (n : Int) ≠ 0 by omega); omega⟩
  have hnz : (0 : Int) < (n : Int) := by omega
  have hixl : ix < n := by have := Int.emod_lt_of_pos pick hnz; omega
  have hixz : (ix : Int) < (n : Int) := by omega
  have htm : pick.tmod (n : Int) = (ix : Int) := by rw [Int.tmod_eq_emod_of_nonneg hp0]; exact hix.symm
  have hn0' : ¬ n = 0 := by omega
  have hOl : OwnR 55 4 encDm (w.alloc (.cells #[] 55)) w.heap.size (.slice (some ⟨w.heap.size, 0, none⟩) 0 0) ([] : List Bool) := OwnR.made w #[] 0 (by unfold maxLen; omega) rfl (Nat.le_refl _)
  have hb3 : Below w.heap.size w (w.alloc (.cells #[] 55)) := (Below.refl _ _).alloc (Nat.le_refl _) _
  obtain ⟨ap, v', w4, av, aw, hown, hmod, -⟩ := app_rows (P := Tryz.prog) (ty := 42) (c := cD) (m := n) infoDem Tryz.underlying42 rfl (by omega) encDm_len encDm_one hOl ((rd_dems hdm).keep hb3) (by simp) ⟨_, rfl⟩ hb3.size (by unfold maxLen; simp; omega) (by simp; omega)
  have hb4 : Below w.heap.size w w4 := hb3.trans (hOl.below hmod hb3.size)
  obtain ⟨gg, gc, F, hv', hg, hg1, hgm, hgo, hgF⟩ := hown.open_ encDm_len (by simp; omega)
  rw [show (([] : List Bool) ++ (List.range n).map x.wa).length = n from by simp] at hv' hg1
  subst hv'
  have HG4 := Lib.hid (And.intro hg (And.intro hg1 (And.intro hgo hgF)))
  have HB4 := Lib.hid hb4
  have hO4 := hpc.ox.keep hb4 hpc.ox.lt
  have c11 := hO4.cell (i := 11) (by omega)
  have f11 := hO4.frozen 11
  have l4 := hO4.lt
  have HO4 := Lib.hid hO4
  clear hbD hoD hcD hpc HP hdm hix hOl hb3 hown hmod hb4 hg hg1 hgm hgo hgF hO4
  conv => arg 2; whnf
  go_upto_region 43 with (fail)
  obtain ⟨w5, hw5⟩ : ∃ W, W = w4.setCell ⟨H, 11, none⟩ (.slice (some ⟨gg, 0, none⟩) n gc) := ⟨_, rfl⟩
  have hgH : gg ≠ H := by have := HG4.out.1; omega
  have HO5 : Hid (Own w5 H 44 15 (hfF (hfL n x { A0 with bD := gg, oD := 0, cD := gc }))) := Lib.hid (by rw [hw5]; exact HO4.out.hfSet (i := 11) (by rw [hfL_len]; omega) _)
  have hgo5 : Own w5 gg 55 (gc * 4) F := by rw [hw5]; exact HG4.out.2.2.1.other (by show gg ≠ H; exact hgH) _
  have hm5 : Mod (fun k => k = H) w w5 := by rw [hw5]; exact Mod.setCell (M := fun k => k = H) ((Mod.of_below HB4.out).mono (fun k hk h => by omega)) (p := ⟨H, 11, none⟩) (.inl rfl) _
  have hFc : ∀ i, i < n → F (i * 4) = .bool (x.wa i) ∧ F (i * 4 + 1) = .int .i64 0 ∧ F (i * 4 + 2) = .int .i64 500 ∧ F (i * 4 + 3) = .int .i64 1 := fun i hi => by
    have hx : (([] : List Bool) ++ (List.range n).map x.wa)[i]? = some (x.wa i) := by rw [List.nil_append, List.getElem?_map, List.getElem?_range hi]; rfl
    exact ⟨HG4.out.2.2.2 i _ 0 _ hx rfl, HG4.out.2.2.2 i _ 1 _ hx rfl, HG4.out.2.2.2 i _ 2 _ hx rfl, HG4.out.2.2.2 i _ 3 _ hx rfl⟩
  rw [← hw5]
  clear hw5 c11 f11 l4 HO4 ap av aw q11 lH
  have k11' : w5.cell? ⟨H, 11, none⟩ = some (.slice (some ⟨gg, 0, none⟩) n gc) := HO5.out.cell (i := 11) (by omega)
  have lH5 : H < w5.heap.size := HO5.out.lt
  obtain ⟨b, hbb⟩ : ∃ b, b = x.wa ix := ⟨_, rfl⟩
  have hcb : w5.cell? ⟨gg, ix * 4, none⟩ = some (.bool b) := by rw [hgo5.cell (i := ix * 4) (by have := HG4.out.2.1; omega), (hFc ix hixl).1, hbb]
  have hfb := hgo5.frozen (ix * 4)
  have lg := hgo5.lt
  have HBB2 := Lib.hid hbb
  have HGO5 := Lib.hid hgo5
  have HM5 := Lib.hid hm5
  have HFC := Lib.hid hFc
  have HGH := Lib.hid hgH
  clear hgo5 hm5 hFc hbb hgH htm hn0' hnz
  go_wp2_with fail
  go_still_tail 16, (by kernel_rfl)
  change wpList _ _ _ _ _ w5.drew
  go_wp2_with fail
  obtain ⟨w6, hw6⟩ : ∃ W, W = (w5.setCell ⟨gg, ix * 4, none⟩ (.bool (!b))).drew := ⟨_, rfl⟩
  have hm6 : Mod (fun k => k = H) w w6 := by rw [hw6]; exact (HM5.out.setCell (p := ⟨gg, ix * 4, none⟩) (.inr HG4.out.1) _).drew
  have ho6 : Own w6 H 44 15 (hfF (hfL n { x with wa := fun i => if i = ix then !b else x.wa i } { A0 with bD := gg, oD := 0, cD := gc })) := by rw [hw6]; exact (HO5.out.other (by show H ≠ gg; exact fun e => HGH.out e.symm) _).drew
  have hg6 : Own w6 gg 55 (gc * 4) (fun j => if j = ix * 4 then .bool (!b) else F j) := by rw [hw6]; exact (HGO5.out.set (ix * 4) _).drew
  have hd6 : DmOk gg 0 n (fun i => if i = ix then !b else x.wa i) w6 := by
    intro i hi
    obtain ⟨g0, g1, g2, g3⟩ := HFC.out i hi
    have hgc := HG4.out.2.1
    rw [Nat.zero_add]
    refine ⟨?_, ?_, ?_, ?_⟩
    · rw [hg6.cell (i := i * 4) (by omega)]
      by_cases e : i = ix
      · subst e; dsimp only; rw [if_pos rfl, if_pos rfl]
      · dsimp only; rw [if_neg (by omega), if_neg e, g0]
    · rw [hg6.cell (i := i * 4 + 1) (by omega), if_neg (by omega), g1]
    · rw [hg6.cell (i := i * 4 + 2) (by omega), if_neg (by omega), g2]
    · rw [hg6.cell (i := i * 4 + 3) (by omega), if_neg (by omega), g3]
  have hkey := HPC.out.dems (cD := gc) hn0 hm0 hm6 ho6 hd6 (fun e => by have h1 := e.elim (HPC.out.b0 gg) (HPC.out.b1 gg); have := HG4.out.1; omega)
  have HPF : Hid (Pair B L lf H Ho n m (wantX x (fun i => if i = ix then !b else x.wa i)) y w6) := Lib.hid ⟨M0, M1, _, A1, hkey.1⟩
  have HFI : Hid (Below B w w6) := Lib.hid hkey.2
  have HTF := Lib.hid (HTW.out.want hr (fun i => if i = ix then !b else x.wa i))
  rw [← hw6]
  clear hw6 hm6 ho6 hg6 hd6 hkey k11' hcb hfb lg
  refine fr_use (Q := K) (frP k0 k1 k2 k3 k4 k5 k6 k7 k8 k9 k10 k11 k12 (.int .i64 tick) k14 k33 k34 k35 k36 k37 k38 k39 k40 k41 k42 k43 k44 k45 k46 k47 k48 k49 k50 k51 k52 k53 k54 k55 k56 k57 k58 k59 k60 k322) rfl (fun g => ?_)
  exact HK.out g _ _ _ HPF HTF HFI
end Go.Proofs.YtkbbapefgifagaaGreatDoor
