/-
Two controllers: the arm of receiving.
-/
import Derived.Test.YtkbbapefgifagaaGreatDoorCTwZ8
namespace Go.Proofs.YtkbbapefgifagaaGreatDoor
open Go.RowKit
set_option linter.unusedVariables false
set_option linter.unusedSimpArgs false
theorem Own.trn2 (W : World) (a b : Int) : Own (W.alloc (.cells #[.int .i64 a, .int .i64 b] 47)) W.heap.size 47 2 (trF a b) :=
  Own.newAt _ 47 _ _ rfl (n := 2) rfl (fun i hi => by
    have h : i = 0 ∨ i = 1 := by omega
    rcases h with rfl | rfl <;> rfl)
theorem trF_set {W : World} {X : Nat} {a0 b0 : Int} (h : Own W X 47 2 (trF a0 b0)) (a b : Int) : Own ((W.setCell ⟨X, 0, none⟩ (.int .i64 a)).setCell ⟨X, 1, none⟩ (.int .i64 b)) X 47 2 (trF a b) :=
  ((h.set 0 _).set 1 _).congr (fun i hi => by
    have h : i = 0 ∨ i = 1 := by omega
    rcases h with rfl | rfl <;> rfl)
theorem Own.shr0 (W : World) : Own (W.alloc (.cells #[.int .i64 0, .int .i64 0, .slice none 0 0, .slice none 0 0] 32)) W.heap.size 32 4 (shF 0 0 (.slice none 0 0) (.slice none 0 0)) :=
  Own.newAt _ 32 _ _ rfl (n := 4) rfl (fun i hi => by
    have h : i = 0 ∨ i = 1 ∨ i = 2 ∨ i = 3 := by omega
    rcases h with rfl | rfl | rfl | rfl <;> rfl)
theorem shF_set {W : World} {X : Nat} {a0 b0 : Int} {u0 v0 : Value} (h : Own W X 32 4 (shF a0 b0 u0 v0)) (a b : Int) (u v : Value) : Own ((((W.setCell ⟨X, 0, none⟩ (.int .i64 a)).setCell ⟨X, 1, none⟩ (.int .i64 b)).setCell ⟨X, 2, none⟩ u).setCell ⟨X, 3, none⟩ v) X 32 4 (shF a b u v) :=
  ((((h.set 0 _).set 1 _).set 2 _).set 3 _).congr (fun i hi => by
    have h : i = 0 ∨ i = 1 ∨ i = 2 ∨ i = 3 := by omega
    rcases h with rfl | rfl | rfl | rfl <;> rfl)
/-- What a change of a share returns. -/
def ResF (R : Shr → Prop) (base : Nat) (er h2 n2 : Int) (aO : Option Addr) (nO : Nat) (aI : Option Addr) (nI : Nat) (W : World) : Prop :=
  er ≠ 0 ∨ (er = 0 ∧ ∃ s' : Shr, R s' ∧ s'.hav = h2 ∧ s'.nxt = n2 ∧ RdShr W aO nO aI nI s' ∧ (∀ p, aO = some p → base ≤ p.block) ∧ (∀ p, aI = some p → base ≤ p.block))
theorem ResF.keep {R : Shr → Prop} {base : Nat} {er h2 n2 : Int} {aO : Option Addr} {nO : Nat} {aI : Option Addr} {nI : Nat} {W W' : World} (h : ResF R base er h2 n2 aO nO aI nI W) (hb : Below W.heap.size W W') : ResF R base er h2 n2 aO nO aI nI W' := by
  rcases h with h | ⟨h0, s', h1, h2, h3, h4, h5, h6⟩
  · exact .inl h
  · exact .inr ⟨h0, s', h1, h2, h3, h4.keep hb, h5, h6⟩
theorem ResF.modA {R : Shr → Prop} {base b0 : Nat} {er h2 n2 : Int} {aO : Option Addr} {nO : Nat} {aI : Option Addr} {nI : Nat} {W W1 W2 : World} {X : Nat} (h : ResF R base er h2 n2 aO nO aI nI W) (hb : Below W.heap.size W W1) (hm : Mod (fun k => k = X) W1 W2) (hX : W.heap.size ≤ X) (hb0 : b0 ≤ base) : ResF R b0 er h2 n2 aO nO aI nI W2 := by
  rcases h with h | ⟨h0, s', h1, h2, h3, h4, h5, h6⟩
  · exact .inl h
  · refine .inr ⟨h0, s', h1, h2, h3, ⟨(h4.ro.keep hb).mod hm (fun a e hl hx => ?_), h4.lo, (h4.ri.keep hb).mod hm (fun a e hl hx => ?_), h4.li⟩, fun p e => Nat.le_trans hb0 (h5 p e), fun p e => Nat.le_trans hb0 (h6 p e)⟩
    · have := rd_ltA h4.ro hl e; omega
    · have := rd_ltA h4.ri hl e; omega
theorem ResF.modB {R : Shr → Prop} {base b0 : Nat} {er h2 n2 : Int} {aO : Option Addr} {nO : Nat} {aI : Option Addr} {nI : Nat} {W W2 : World} {X : Nat} (h : ResF R base er h2 n2 aO nO aI nI W) (hm : Mod (fun k => k = X) W W2) (hX : X < base) (hb0 : b0 ≤ base) : ResF R b0 er h2 n2 aO nO aI nI W2 := by
  rcases h with h | ⟨h0, s', h1, h2, h3, h4, h5, h6⟩
  · exact .inl h
  · refine .inr ⟨h0, s', h1, h2, h3, ⟨h4.ro.mod hm (fun a e hl hx => ?_), h4.lo, h4.ri.mod hm (fun a e hl hx => ?_), h4.li⟩, fun p e => Nat.le_trans hb0 (h5 p e), fun p e => Nat.le_trans hb0 (h6 p e)⟩
    · have := h5 a e; omega
    · have := h6 a e; omega
/-- What a transfer that is received does to a share. -/
def RvF (s : Shr) (x : Trn) (s' : Shr) : Prop := x.num ∉ s.inn ∧ s.inn.length < 64 ∧ ∃ k, s' = ⟨s.hav + x.amp, s.nxt, s.out, insL s.inn k x.num⟩ ∧ (insL s.inn k x.num).Pairwise (· < ·)
def AkF (s : Shr) (s' : Shr) : Prop := ∃ k, s' = ⟨s.hav, s.nxt, s.out.take k ++ s.out.drop (k + 1), s.inn⟩
def ShRes (R : Shr → Prop) (w : World) (e : Ending) (w' : World) : Prop := ∃ (er h2 n2 : Int) (aO : Option Addr) (nO cO : Nat) (aI : Option Addr) (nI cI : Nat), e = .returned (.tuple #[.agg #[.int .i64 h2, .int .i64 n2, .slice aO nO cO, .slice aI nI cI], .int .i64 er]) ∧ ResF R w.heap.size er h2 n2 aO nO aI nI w' ∧ Below w.heap.size w w'
theorem shReceive_one (aO : Option Addr) (nO cO : Nat) (aI : Option Addr) (nI cI : Nat) (s : Shr) (x : Trn) (w : World) (HS : Hid (RdShr w aO nO aI nI s)) (HO : Hid (ShOk s)) (HX : Hid (TrnOk x)) (hsum : s.hav + x.amp ≤ 1000) : Calls Tryz.prog 8 #[.agg #[.int .i64 s.hav, .int .i64 s.nxt, .slice aO nO cO, .slice aI nI cI], .agg #[.int .i64 x.num, .int .i64 x.amp]] w (ShRes (RvF s x) w) := by
  refine (shReceive_ok aO nO cO aI nI cI s x w HS HO HX hsum).mono ?_
  rintro e w' (⟨h1, rfl, hb⟩ | ⟨h1, h2, rfl, hb⟩ | ⟨h1, h2, k, gO, gP, rfl, hO, hP, hr, hp, hb⟩)
  · exact ⟨5, 0, 0, none, 0, 0, none, 0, 0, rfl, .inl (by omega), hb⟩
  · exact ⟨10, 0, 0, none, 0, 0, none, 0, 0, rfl, .inl (by omega), hb⟩
  · exact ⟨0, _, _, _, _, _, _, _, _, rfl, .inr ⟨rfl, _, ⟨h1, h2, k, rfl, hp⟩, rfl, rfl, hr, fun p e => by injection e with e; subst e; exact hO, fun p e => by injection e with e; subst e; exact hP⟩, hb⟩
theorem shAcked_one (aO : Option Addr) (nO cO : Nat) (aI : Option Addr) (nI cI : Nat) (s : Shr) (num : Int) (w : World) (HS : Hid (RdShr w aO nO aI nI s)) (HO : Hid (ShOk s)) : Calls Tryz.prog 9 #[.agg #[.int .i64 s.hav, .int .i64 s.nxt, .slice aO nO cO, .slice aI nI cI], .int .i64 num] w (ShRes (AkF s) w) := by
  refine (shAcked_ok aO nO cO aI nI cI s num w HS HO).mono ?_
  rintro e w' (⟨k, gP, gI, rfl, hP, hI, hr, hb⟩ | ⟨rfl, hb⟩)
  · exact ⟨0, _, _, _, _, _, _, _, _, rfl, .inr ⟨rfl, _, ⟨k, rfl⟩, rfl, rfl, hr, fun p e => by injection e with e; subst e; exact hP, fun p e => by injection e with e; subst e; exact hI⟩, hb⟩
  · exact ⟨4, 0, 0, none, 0, 0, none, 0, 0, rfl, .inl (by omega), hb⟩
set_option maxRecDepth 100000 in
set_option maxHeartbeats 16000000 in
theorem arm5_ok {k0 k1 k2 k3 k4 k5 k6 k7 k8 k9 k10 k11 k12 k14 u15 u16 u20 u21 u22 u23 u24 u25 u26 u27 u28 u29 u30 u31 u32 k33 k34 k35 k36 k37 k38 k39 k40 k41 k42 k43 k44 k45 k46 k47 k48 k49 k50 k51 k52 k53 k54 k55 k56 k57 k58 k59 k60 u61 u62 u63 u64 u65 u66 u67 u68 u69 u70 u71 u72 u73 u74 u75 u76 u77 u78 u79 u80 u81 u82 u83 u84 u85 u86 u87 u88 u89 u90 u91 u92 u93 u94 u95 u96 u97 u98 u99 u100 u101 u102 u103 u104 u105 u106 u107 u108 u109 u110 u111 u112 u113 u114 u115 u116 u117 u118 u119 u120 u121 u122 u123 u124 u125 u126 u127 u128 u129 u130 u131 u132 u133 u134 u135 u136 u137 u138 u139 u140 u141 u142 u143 u144 u145 u146 u147 u148 u149 u150 u151 u152 u153 u154 u155 u156 u157 u158 u159 u160 u161 u162 u163 u164 u165 u166 u167 u168 u169 u170 u171 u172 u173 u174 u175 u176 u177 u178 u179 u180 u181 u182 u183 u184 u185 u186 u187 u188 u189 u190 u191 u192 u193 u194 u195 u196 u197 u198 u199 u200 u201 u202 u203 u204 u205 u206 u207 u208 u209 u210 u211 u212 u213 u214 u215 u216 u217 u218 u219 u220 u221 u222 u223 u224 u225 u226 u227 u228 u229 u230 u231 u232 u233 u234 u235 u236 u237 u238 u239 u240 u241 u242 u243 u244 u245 u246 u247 u248 u249 u250 u251 u252 u253 u254 u255 u256 u257 u258 u259 u260 u261 u262 u263 u264 u265 u266 u267 u268 u269 u270 u271 u272 u273 u274 u275 u276 u277 u278 u279 u280 u281 u282 u283 u284 u285 u286 u287 u288 u289 u290 u291 u292 u293 u294 u295 u296 u297 u298 u299 u300 u301 u302 u303 u304 u305 u306 u307 u308 u309 u310 u311 u312 u313 u314 u315 u316 u317 u318 u319 u320 u321 k322 : Value} (B L H Ho n m : Nat) (lf : Nat → Value) (tot tick pick : Int) (r : Nat) (x y : Hf) (w : World) (K : Act → World → Prop) (HP : Hid (Pair B L lf H Ho n m x y w)) (HTW : Hid (Two n m tot tick r x y)) (hr : r < 200) (hn0 : 0 < n) (hn4 : n ≤ 4) (hm0 : 0 < m) (hm4 : m ≤ 4) (hp0 : 0 ≤ pick) (hp1 : pick ≤ 255) (hH1 : 1 < H) (hH2 : 1 < Ho)
    (HK : Hid (∀ (g : Nat → Value) (x' y' : Hf) (W : World), Hid (Pair B L lf H Ho n m x' y' W) → Hid (Two n m tot tick (r + 1) x' y') → Hid (Below B w W) → K ⟨List.toArray (frP k0 k1 k2 k3 k4 k5 k6 k7 k8 k9 k10 k11 k12 (.int .i64 tick) k14 k33 k34 k35 k36 k37 k38 k39 k40 k41 k42 k43 k44 k45 k46 k47 k48 k49 k50 k51 k52 k53 k54 k55 k56 k57 k58 k59 k60 k322 g), []⟩ W)) :
    Code.wp Tryz.prog arm5 (Exit.then K (fun _ _ _ => False)) ⟨List.toArray (k0 :: k1 :: k2 :: k3 :: k4 :: k5 :: k6 :: k7 :: k8 :: k9 :: k10 :: k11 :: k12 :: (.int .i64 tick) :: k14 :: u15 :: u16 :: (.pointer (some ⟨H, 0, none⟩)) :: (.pointer (some ⟨Ho, 0, none⟩)) :: (.int .i64 pick) :: u20 :: u21 :: u22 :: u23 :: u24 :: u25 :: u26 :: u27 :: u28 :: u29 :: u30 :: u31 :: u32 :: k33 :: k34 :: k35 :: k36 :: k37 :: k38 :: k39 :: k40 :: k41 :: k42 :: k43 :: k44 :: k45 :: k46 :: k47 :: k48 :: k49 :: k50 :: k51 :: k52 :: k53 :: k54 :: k55 :: k56 :: k57 :: k58 :: k59 :: k60 :: u61 :: u62 :: u63 :: u64 :: u65 :: u66 :: u67 :: u68 :: u69 :: u70 :: u71 :: u72 :: u73 :: u74 :: u75 :: u76 :: u77 :: u78 :: u79 :: u80 :: u81 :: u82 :: u83 :: u84 :: u85 :: u86 :: u87 :: u88 :: u89 :: u90 :: u91 :: u92 :: u93 :: u94 :: u95 :: u96 :: u97 :: u98 :: u99 :: u100 :: u101 :: u102 :: u103 :: u104 :: u105 :: u106 :: u107 :: u108 :: u109 :: u110 :: u111 :: u112 :: u113 :: u114 :: u115 :: u116 :: u117 :: u118 :: u119 :: u120 :: u121 :: u122 :: u123 :: u124 :: u125 :: u126 :: u127 :: u128 :: u129 :: u130 :: u131 :: u132 :: u133 :: u134 :: u135 :: u136 :: u137 :: u138 :: u139 :: u140 :: u141 :: u142 :: u143 :: u144 :: u145 :: u146 :: u147 :: u148 :: u149 :: u150 :: u151 :: u152 :: u153 :: u154 :: u155 :: u156 :: u157 :: u158 :: u159 :: u160 :: u161 :: u162 :: u163 :: u164 :: u165 :: u166 :: u167 :: u168 :: u169 :: u170 :: u171 :: u172 :: u173 :: u174 :: u175 :: u176 :: u177 :: u178 :: u179 :: u180 :: u181 :: u182 :: u183 :: u184 :: u185 :: u186 :: u187 :: u188 :: u189 :: u190 :: u191 :: u192 :: u193 :: u194 :: u195 :: u196 :: u197 :: u198 :: u199 :: u200 :: u201 :: u202 :: u203 :: u204 :: u205 :: u206 :: u207 :: u208 :: u209 :: u210 :: u211 :: u212 :: u213 :: u214 :: u215 :: u216 :: u217 :: u218 :: u219 :: u220 :: u221 :: u222 :: u223 :: u224 :: u225 :: u226 :: u227 :: u228 :: u229 :: u230 :: u231 :: u232 :: u233 :: u234 :: u235 :: u236 :: u237 :: u238 :: u239 :: u240 :: u241 :: u242 :: u243 :: u244 :: u245 :: u246 :: u247 :: u248 :: u249 :: u250 :: u251 :: u252 :: u253 :: u254 :: u255 :: u256 :: u257 :: u258 :: u259 :: u260 :: u261 :: u262 :: u263 :: u264 :: u265 :: u266 :: u267 :: u268 :: u269 :: u270 :: u271 :: u272 :: u273 :: u274 :: u275 :: u276 :: u277 :: u278 :: u279 :: u280 :: u281 :: u282 :: u283 :: u284 :: u285 :: u286 :: u287 :: u288 :: u289 :: u290 :: u291 :: u292 :: u293 :: u294 :: u295 :: u296 :: u297 :: u298 :: u299 :: u300 :: u301 :: u302 :: u303 :: u304 :: u305 :: u306 :: u307 :: u308 :: u309 :: u310 :: u311 :: u312 :: u313 :: u314 :: u315 :: u316 :: u317 :: u318 :: u319 :: u320 :: u321 :: k322 :: []), []⟩ w := by
  obtain ⟨M0, M1, A0, A1, hpc⟩ := HP.out
  have HBB := Lib.hid hpc.hB
  obtain ⟨ta, tc, hsv, hrd⟩ := hpc.yy.oS.rd encTrn_len
  obtain ⟨sn, hsn⟩ : ∃ k, k = y.sent.length := ⟨_, rfl⟩
  rw [← hsn] at hsv
  have q13 : w.cell? ⟨Ho, 13, none⟩ = some (.slice ta sn tc) := by rw [← hsv]; exact hpc.oy.cell (i := 13) (by omega)
  have lo := hpc.oy.lt
  have HPC := Lib.hid hpc
  have HSN : Hid (sn = y.sent.length ∧ sn ≤ 200) := Lib.hid ⟨hsn, by rw [hsn]; have := HTW.out.hy.sl; omega⟩
  have HRD := Lib.hid hrd
  clear hsv hsn hrd hpc HP
  conv => arg 2; whnf
  by_cases hs0 : 0 < sn
  · have hs0z : (0 : Int) < (sn : Int) := by omega
    go_upto_region 29 with (fail)
    obtain ⟨ix, hix⟩ : ∃ ix : Nat, (ix : Int) = pick % (sn : Int) := ⟨(pick % (sn : Int)).toNat, by have := Int.emod_nonneg pick (show (sn : Int) ≠ 0 by omega); omega⟩
    have hixl : ix < sn := by have := Int.emod_lt_of_pos pick hs0z; omega
    obtain ⟨tb, to', t, rfl, htl, htx, t0, t1⟩ := rdTrn_at HRD.out (show ix < y.sent.length by rw [← HSN.out.1]; exact hixl)
    have hixz : (ix : Int) < (sn : Int) := by omega
    have HMEM := Lib.hid (List.mem_of_getElem? htx)
    obtain ⟨nu, z⟩ := t
    dsimp only at t0 t1
    have HIX : Hid (pick.tmod (sn : Int) = (ix : Int)) := Lib.hid (by rw [Int.tmod_eq_emod_of_nonneg hp0]; exact hix.symm)
    have HSZ : Hid (¬ sn = 0) := Lib.hid (by omega)
    have htr := HTW.out.hy.trn HTW.out.r1 HMEM.out
    have HTO := Lib.hid htr.1
    have HTZ := Lib.hid htr.2
    have hsn2 := HSN.out.2
    clear hix htx htr
    refine region_z (S := fun w' => Below w.heap.size w w') [] (by kernel_rfl) ((Below.refl _ _).drew) (fun hHeld => ?_)
    obtain ⟨wd, hwd⟩ : ∃ wd, wd = w.drew := ⟨_, rfl⟩
    rw [← hwd] at hHeld ⊢
    clear hwd
    refine zt (i := 0) (v := .pointer (some ⟨Ho, 0, none⟩)) [] (fun w' hSw => ?_) hHeld ?_
    · clear hHeld hSw
      go_simp
    simp only [Act.put, zl0, zl1, zl2, zl3, zl4, zl5]
    refine zt (i := 1) (v := .pointer (some ⟨Ho, 0, none⟩)) [] (fun w' hSw => ?_) hHeld ?_
    · clear hHeld hSw
      go_simp
    simp only [Act.put, zl0, zl1, zl2, zl3, zl4, zl5]
    refine zt (i := 2) (v := .pointer (some ⟨Ho, 13, none⟩)) [] (fun w' hSw => ?_) hHeld ?_
    · clear hHeld hSw
      go_simp
    simp only [Act.put, zl0, zl1, zl2, zl3, zl4, zl5]
    refine zt (i := 3) (v := .slice (some ⟨tb, to', none⟩) sn tc) [] (fun w' hSw => ?_) hHeld ?_
    · have q13'' := (hSw.cell (zb q13)).trans q13
      have lq13 := zb q13''
      dsimp only at lq13
      clear hHeld hSw
      go_simp
    simp only [Act.put, zl0, zl1, zl2, zl3, zl4, zl5]
    refine zt (i := 4) (v := .int .i64 pick) [] (fun w' hSw => ?_) hHeld ?_
    · clear hHeld hSw
      go_simp
    simp only [Act.put, zl0, zl1, zl2, zl3, zl4, zl5]
    refine zt (i := 5) (v := .pointer (some ⟨Ho, 0, none⟩)) [] (fun w' hSw => ?_) hHeld ?_
    · clear hHeld hSw
      go_simp
    simp only [Act.put, zl0, zl1, zl2, zl3, zl4, zl5]
    refine zt (i := 6) (v := .pointer (some ⟨Ho, 0, none⟩)) [] (fun w' hSw => ?_) hHeld ?_
    · clear hHeld hSw
      go_simp
    simp only [Act.put, zl0, zl1, zl2, zl3, zl4, zl5]
    refine zt (i := 7) (v := .pointer (some ⟨Ho, 13, none⟩)) [] (fun w' hSw => ?_) hHeld ?_
    · clear hHeld hSw
      go_simp
    simp only [Act.put, zl0, zl1, zl2, zl3, zl4, zl5]
    refine zt (i := 8) (v := .slice (some ⟨tb, to', none⟩) sn tc) [] (fun w' hSw => ?_) hHeld ?_
    · have q13'' := (hSw.cell (zb q13)).trans q13
      have lq13 := zb q13''
      dsimp only at lq13
      clear hHeld hSw
      go_simp
    simp only [Act.put, zl0, zl1, zl2, zl3, zl4, zl5]
    refine zt (i := 9) (v := .int .i64 (sn : Nat)) [] (fun w' hSw => ?_) hHeld ?_
    · clear hHeld hSw
      go_simp
    simp only [Act.put, zl0, zl1, zl2, zl3, zl4, zl5]
    refine zt (i := 10) (v := .int .i64 (ix : Nat)) [] (fun w' hSw => ?_) hHeld ?_
    · clear hHeld hSw
      go_simp
      rw [if_neg HSZ.out, HIX.out]
    simp only [Act.put, zl0, zl1, zl2, zl3, zl4, zl5]
    refine zt (i := 11) (v := .pointer (some ⟨tb, to' + ix * 2, none⟩)) [] (fun w' hSw => ?_) hHeld ?_
    · clear hHeld hSw
      go_simp
    simp only [Act.put, zl0, zl1, zl2, zl3, zl4, zl5]
    refine zt (i := 12) (v := .agg #[.int .i64 nu, .int .i64 z]) [] (fun w' hSw => ?_) hHeld ?_
    · have t0' := (hSw.cell (zb t0)).trans t0
      have lt0 := zb t0'
      dsimp only at lt0
      have t1' := (hSw.cell (zb t1)).trans t1
      have lt1 := zb t1'
      dsimp only at lt1
      clear hHeld hSw
      go_simp
    simp only [Act.put, zl0, zl1, zl2, zl3, zl4, zl5]
    refine zo 13 (fun K' hK => ?_)
    go_simp
    refine hK.out _ _ ?_ (fun hHeld' => ?_)
    · exact hHeld.alloc hHeld.size _
    clear hK K'
    obtain ⟨w1, hw1⟩ : ∃ W, W = wd.alloc (.cells #[.int .i64 0, .int .i64 0] 47) := ⟨_, rfl⟩
    obtain ⟨X, hX⟩ : ∃ X, X = wd.heap.size := ⟨_, rfl⟩
    have HXO : Hid (Own w1 X 47 2 (trF 0 0)) := Lib.hid (by rw [hw1, hX]; exact Own.trn2 wd 0 0)
    rw [← hX]
    rw [← hw1] at hHeld' ⊢
    have HXS : Hid (w.heap.size ≤ X) := Lib.hid (by rw [hX]; exact hHeld.size)
    clear hw1 hX hHeld
    have hHeld := hHeld'
    clear hHeld'
    try simp only [Act.put, zl0, zl1, zl2, zl3, zl4, zl5]
    refine zo 14 (fun K' hK => ?_)
    have x0 := HXO.out.cell (i := 0) (by omega)
    have x1 := HXO.out.cell (i := 1) (by omega)
    have f0 := HXO.out.frozen 0
    have f1 := HXO.out.frozen 1
    have lX := HXO.out.lt
    have HX2 := Lib.hid (trF_set HXO.out nu z)
    go_simp
    refine hK.out _ _ ?_ (fun hHeld' => ?_)
    · exact (hHeld.setCell (p := ⟨X, 0, none⟩) HXS.out _).setCell (p := ⟨X, 1, none⟩) HXS.out _
    clear hK K' hHeld x0 x1 f0 f1 lX HXO
    have hHeld := hHeld'
    clear hHeld'
    try simp only [Act.put, zl0, zl1, zl2, zl3, zl4, zl5]
    refine wpAnyZ_done (by kernel_rfl) ?_ _
    obtain ⟨w2, hw2⟩ : ∃ W, W = (w1.setCell ⟨X, 0, none⟩ (.int .i64 nu)).setCell ⟨X, 1, none⟩ (.int .i64 z) := ⟨_, rfl⟩
    rw [← hw2] at hHeld HX2 ⊢
    clear hw2
    have HB2 := Lib.hid hHeld
    have HP2 := Lib.hid (HPC.out.keep hn0 hm0 hHeld)
    have b0 : w2.cell? ⟨X, 0, none⟩ = some (.int .i64 nu) := HX2.out.cell (i := 0) (by omega)
    have b1 : w2.cell? ⟨X, 1, none⟩ = some (.int .i64 z) := HX2.out.cell (i := 1) (by omega)
    have p0 : w2.cell? ⟨H, 0, none⟩ = some (.int .i64 x.sh.hav) := HP2.out.ox.cell (i := 0) (by omega)
    have p1 : w2.cell? ⟨H, 1, none⟩ = some (.int .i64 x.sh.nxt) := HP2.out.ox.cell (i := 1) (by omega)
    have p2 : w2.cell? ⟨H, 2, none⟩ = some (.slice A0.aO A0.nO A0.cO) := HP2.out.ox.cell (i := 2) (by omega)
    have p3 : w2.cell? ⟨H, 3, none⟩ = some (.slice A0.aI A0.nI A0.cI) := HP2.out.ox.cell (i := 3) (by omega)
    have HP3L : Hid (H < w.heap.size) := Lib.hid HPC.out.ox.lt
    have HSU : Hid (x.sh.hav + (⟨nu, z⟩ : Trn).amp ≤ 1000) := Lib.hid (by have := HTW.out.hav; have := HTZ.out.1; omega)
    clear hHeld q13 t0 t1 lo htl HPC HIX HSZ
    go_upto_region 30 with (fail)
    go_cut [26, 27] from 158 to 166 (fun v26 v27 wx => ∃ (X2 : Nat) (er h2 n2 : Int) (aO : Option Addr) (nO cO : Nat) (aI : Option Addr) (nI cI : Nat), v26 = .pointer (some ⟨X2, 0, none⟩) ∧ v27 = .int .i64 er ∧ Hid (Own wx X2 32 4 (shF h2 n2 (.slice aO nO cO) (.slice aI nI cI))) ∧ Hid (w2.heap.size ≤ X2) ∧ Hid (ResF (RvF x.sh ⟨nu, z⟩) w2.heap.size er h2 n2 aO nO aI nI wx) ∧ Hid (Below w2.heap.size w2 wx))
    case first =>
      refine region_z (S := fun w' => Below w2.heap.size w2 w') [] (by kernel_rfl) ((Below.refl _ _).drew) (fun hHeld => ?_)
      obtain ⟨wd, hwd⟩ : ∃ wd, wd = w2.drew := ⟨_, rfl⟩
      rw [← hwd] at hHeld ⊢
      clear hwd
      refine zt (i := 0) (v := .pointer (some ⟨H, 0, none⟩)) [] (fun w' hSw => ?_) hHeld ?_
      · clear hHeld hSw
        go_simp
      simp only [Act.put, zl0, zl1, zl2, zl3, zl4, zl5]
      refine zt (i := 1) (v := .pointer (some ⟨H, 0, none⟩)) [] (fun w' hSw => ?_) hHeld ?_
      · clear hHeld hSw
        go_simp
      simp only [Act.put, zl0, zl1, zl2, zl3, zl4, zl5]
      refine zt (i := 2) (v := .pointer (some ⟨H, 0, none⟩)) [] (fun w' hSw => ?_) hHeld ?_
      · clear hHeld hSw
        go_simp
      simp only [Act.put, zl0, zl1, zl2, zl3, zl4, zl5]
      refine zt (i := 3) (v := .agg #[.int .i64 x.sh.hav, .int .i64 x.sh.nxt, .slice A0.aO A0.nO A0.cO, .slice A0.aI A0.nI A0.cI]) [] (fun w' hSw => ?_) hHeld ?_
      · have p0' := (hSw.cell (zb p0)).trans p0
        have lp0 := zb p0'
        dsimp only at lp0
        have p1' := (hSw.cell (zb p1)).trans p1
        have lp1 := zb p1'
        dsimp only at lp1
        have p2' := (hSw.cell (zb p2)).trans p2
        have lp2 := zb p2'
        dsimp only at lp2
        have p3' := (hSw.cell (zb p3)).trans p3
        have lp3 := zb p3'
        dsimp only at lp3
        clear hHeld hSw
        go_simp
      simp only [Act.put, zl0, zl1, zl2, zl3, zl4, zl5]
      refine zt (i := 4) (v := .agg #[.int .i64 nu, .int .i64 z]) [] (fun w' hSw => ?_) hHeld ?_
      · have b0' := (hSw.cell (zb b0)).trans b0
        have lb0 := zb b0'
        dsimp only at lb0
        have b1' := (hSw.cell (zb b1)).trans b1
        have lb1 := zb b1'
        dsimp only at lb1
        clear hHeld hSw
        go_simp
      simp only [Act.put, zl0, zl1, zl2, zl3, zl4, zl5]
      refine wpAnyZ_two (i := 5) (k := 9) (by kernel_rfl) rfl rfl (fun K' hK => ?_) (fun K' hK => ?_)
      · go_simp
        refine (shReceive_one A0.aO A0.nO A0.cO A0.aI A0.nI A0.cI x.sh ⟨nu, z⟩ _ (Lib.hid (HP2.out.xx.sh.keep hHeld)) (Lib.hid HTW.out.hx.sh) HTO HSU.out).mono ?_
        rintro e wk ⟨er, h2, n2, aO, nO, cO, aI, nI, cI, rfl, hres, hbk⟩
        have HRES := Lib.hid hres
        have HSW := Lib.hid hHeld.size
        refine hK.out _ _ ?_ (fun hHeld' => ?_)
        · exact hHeld.trans (hbk.mono hHeld.size)
        clear hK K' hres
        clear hHeld hbk
        have hHeld := hHeld'
        clear hHeld'
        try simp only [Act.put, zl0, zl1, zl2, zl3, zl4, zl5]
        refine zt (i := 6) (v := .tuple #[.agg #[.int .i64 h2, .int .i64 n2, .slice aO nO cO, .slice aI nI cI], .int .i64 er]) [] (fun w' hSw => ?_) hHeld ?_
        · clear hHeld hSw
          go_simp
        simp only [Act.put, zl0, zl1, zl2, zl3, zl4, zl5]
        refine zt (i := 7) (v := .agg #[.int .i64 h2, .int .i64 n2, .slice aO nO cO, .slice aI nI cI]) [] (fun w' hSw => ?_) hHeld ?_
        · clear hHeld hSw
          go_simp
        simp only [Act.put, zl0, zl1, zl2, zl3, zl4, zl5]
        refine zt (i := 8) (v := .int .i64 er) [] (fun w' hSw => ?_) hHeld ?_
        · clear hHeld hSw
          go_simp
        simp only [Act.put, zl0, zl1, zl2, zl3, zl4, zl5]
        refine zo 9 (fun K' hK => ?_)
        go_simp
        refine hK.out _ _ ?_ (fun hHeld' => ?_)
        · exact hHeld.alloc hHeld.size _
        clear hK K'
        obtain ⟨WB, hWB⟩ : ∃ W, W = wk.alloc (.cells #[.int .i64 0, .int .i64 0, .slice none 0 0, .slice none 0 0] 32) := ⟨_, rfl⟩
        obtain ⟨X2, hX⟩ : ∃ X, X = wk.heap.size := ⟨_, rfl⟩
        have HXS2 : Hid (w2.heap.size ≤ X2) := Lib.hid (by rw [hX]; exact hHeld.size)
        have HX : Hid (Own WB X2 32 4 (shF 0 0 (.slice none 0 0) (.slice none 0 0))) := Lib.hid (by rw [hWB, hX]; exact Own.shr0 _)
        have HWKB : Hid (Below wk.heap.size wk WB) := Lib.hid (by rw [hWB]; exact (Below.refl _ _).alloc (Nat.le_refl _) _)
        have HXW : Hid (wk.heap.size ≤ X2) := Lib.hid (by rw [hX]; exact Nat.le_refl _)
        rw [← hX]
        rw [← hWB] at hHeld' ⊢
        clear hWB hX hHeld
        have hHeld := hHeld'
        clear hHeld'
        try simp only [Act.put, zl0, zl1, zl2, zl3, zl4, zl5]
        refine zo 10 (fun K' hK => ?_)
        have x0 := HX.out.cell (i := 0) (by omega)
        have x1 := HX.out.cell (i := 1) (by omega)
        have x2 := HX.out.cell (i := 2) (by omega)
        have x3 := HX.out.cell (i := 3) (by omega)
        have f0 := HX.out.frozen 0
        have f1 := HX.out.frozen 1
        have f2 := HX.out.frozen 2
        have f3 := HX.out.frozen 3
        have lX := HX.out.lt
        have HX2' := Lib.hid (shF_set HX.out h2 n2 (.slice aO nO cO) (.slice aI nI cI))
        go_simp
        refine hK.out _ _ ?_ (fun hHeld' => ?_)
        · exact (((hHeld.setCell (p := ⟨X2, 0, none⟩) HXS2.out _).setCell (p := ⟨X2, 1, none⟩) HXS2.out _).setCell (p := ⟨X2, 2, none⟩) HXS2.out _).setCell (p := ⟨X2, 3, none⟩) HXS2.out _
        clear hK K' x0 x1 x2 x3 f0 f1 f2 f3 lX
        obtain ⟨WC, hWC⟩ : ∃ W, W = (((WB.setCell ⟨X2, 0, none⟩ (.int .i64 h2)).setCell ⟨X2, 1, none⟩ (.int .i64 n2)).setCell ⟨X2, 2, none⟩ (.slice aO nO cO)).setCell ⟨X2, 3, none⟩ (.slice aI nI cI) := ⟨_, rfl⟩
        have HMX : Hid (Mod (fun k => k = X2) WB WC) := Lib.hid (by rw [hWC]; exact shW_mod WB X2 h2 n2 (.slice aO nO cO) (.slice aI nI cI))
        rw [← hWC] at hHeld' HX2' ⊢
        clear hWC hHeld HX
        have hHeld := hHeld'
        clear hHeld'
        try simp only [Act.put, zl0, zl1, zl2, zl3, zl4, zl5]
        have HRS3 := Lib.hid (ResF.modA (b0 := w2.heap.size) HRES.out HWKB.out HMX.out HXW.out HSW.out)
        refine zt (i := 11) (v := .int .i64 er) [] (fun w' hSw => ?_) hHeld ?_
        · clear hHeld hSw
          go_simp
        simp only [Act.put, zl0, zl1, zl2, zl3, zl4, zl5]
        refine wpAnyZ_done (by kernel_rfl) ?_ _
        have HFIN := Lib.hid hHeld
        clear hHeld
        go_wp2_with fail
        go_meet
        exact ⟨X2, er, h2, n2, aO, nO, cO, aI, nI, cI, rfl, rfl, HX2', HXS2, HRS3, HFIN⟩
      · go_simp
        refine hK.out _ _ ?_ (fun hHeld' => ?_)
        · exact hHeld.alloc hHeld.size _
        clear hK K'
        obtain ⟨WB, hWB⟩ : ∃ W, W = wd.alloc (.cells #[.int .i64 0, .int .i64 0, .slice none 0 0, .slice none 0 0] 32) := ⟨_, rfl⟩
        obtain ⟨X2, hX⟩ : ∃ X, X = wd.heap.size := ⟨_, rfl⟩
        have HXS2 : Hid (w2.heap.size ≤ X2) := Lib.hid (by rw [hX]; exact hHeld.size)
        have HX : Hid (Own WB X2 32 4 (shF 0 0 (.slice none 0 0) (.slice none 0 0))) := Lib.hid (by rw [hWB, hX]; exact Own.shr0 _)
        rw [← hX]
        rw [← hWB] at hHeld' ⊢
        clear hWB hX hHeld
        have hHeld := hHeld'
        clear hHeld'
        try simp only [Act.put, zl0, zl1, zl2, zl3, zl4, zl5]
        refine zo 5 (fun K' hK => ?_)
        have HXD := Lib.hid HX.out.lt
        go_simp
        refine (shReceive_one A0.aO A0.nO A0.cO A0.aI A0.nI A0.cI x.sh ⟨nu, z⟩ _ (Lib.hid (HP2.out.xx.sh.keep hHeld)) (Lib.hid HTW.out.hx.sh) HTO HSU.out).mono ?_
        rintro e wk ⟨er, h2, n2, aO, nO, cO, aI, nI, cI, rfl, hres, hbk⟩
        have HRES := Lib.hid hres
        have HSW := Lib.hid hHeld.size
        refine hK.out _ _ ?_ (fun hHeld' => ?_)
        · exact hHeld.trans (hbk.mono hHeld.size)
        clear hK K' hres
        have HX := Lib.hid (HX.out.keep hbk HX.out.lt)
        clear hHeld hbk
        have hHeld := hHeld'
        clear hHeld'
        try simp only [Act.put, zl0, zl1, zl2, zl3, zl4, zl5]
        refine zt (i := 6) (v := .tuple #[.agg #[.int .i64 h2, .int .i64 n2, .slice aO nO cO, .slice aI nI cI], .int .i64 er]) [] (fun w' hSw => ?_) hHeld ?_
        · clear hHeld hSw
          go_simp
        simp only [Act.put, zl0, zl1, zl2, zl3, zl4, zl5]
        refine zt (i := 7) (v := .agg #[.int .i64 h2, .int .i64 n2, .slice aO nO cO, .slice aI nI cI]) [] (fun w' hSw => ?_) hHeld ?_
        · clear hHeld hSw
          go_simp
        simp only [Act.put, zl0, zl1, zl2, zl3, zl4, zl5]
        refine zt (i := 8) (v := .int .i64 er) [] (fun w' hSw => ?_) hHeld ?_
        · clear hHeld hSw
          go_simp
        simp only [Act.put, zl0, zl1, zl2, zl3, zl4, zl5]
        refine zo 10 (fun K' hK => ?_)
        have x0 := HX.out.cell (i := 0) (by omega)
        have x1 := HX.out.cell (i := 1) (by omega)
        have x2 := HX.out.cell (i := 2) (by omega)
        have x3 := HX.out.cell (i := 3) (by omega)
        have f0 := HX.out.frozen 0
        have f1 := HX.out.frozen 1
        have f2 := HX.out.frozen 2
        have f3 := HX.out.frozen 3
        have lX := HX.out.lt
        have HX2' := Lib.hid (shF_set HX.out h2 n2 (.slice aO nO cO) (.slice aI nI cI))
        go_simp
        refine hK.out _ _ ?_ (fun hHeld' => ?_)
        · exact (((hHeld.setCell (p := ⟨X2, 0, none⟩) HXS2.out _).setCell (p := ⟨X2, 1, none⟩) HXS2.out _).setCell (p := ⟨X2, 2, none⟩) HXS2.out _).setCell (p := ⟨X2, 3, none⟩) HXS2.out _
        clear hK K' x0 x1 x2 x3 f0 f1 f2 f3 lX
        obtain ⟨WC, hWC⟩ : ∃ W, W = (((wk.setCell ⟨X2, 0, none⟩ (.int .i64 h2)).setCell ⟨X2, 1, none⟩ (.int .i64 n2)).setCell ⟨X2, 2, none⟩ (.slice aO nO cO)).setCell ⟨X2, 3, none⟩ (.slice aI nI cI) := ⟨_, rfl⟩
        have HMX : Hid (Mod (fun k => k = X2) wk WC) := Lib.hid (by rw [hWC]; exact shW_mod wk X2 h2 n2 (.slice aO nO cO) (.slice aI nI cI))
        rw [← hWC] at hHeld' HX2' ⊢
        clear hWC hHeld HX
        have hHeld := hHeld'
        clear hHeld'
        try simp only [Act.put, zl0, zl1, zl2, zl3, zl4, zl5]
        have HRS3 := Lib.hid (ResF.modB (b0 := w2.heap.size) HRES.out HMX.out HXD.out HSW.out)
        refine zt (i := 11) (v := .int .i64 er) [] (fun w' hSw => ?_) hHeld ?_
        · clear hHeld hSw
          go_simp
        simp only [Act.put, zl0, zl1, zl2, zl3, zl4, zl5]
        refine wpAnyZ_done (by kernel_rfl) ?_ _
        have HFIN := Lib.hid hHeld
        clear hHeld
        go_wp2_with fail
        go_meet
        exact ⟨X2, er, h2, n2, aO, nO, cO, aI, nI, cI, rfl, rfl, HX2', HXS2, HRS3, HFIN⟩
    case rest =>
      obtain ⟨X2, er, h2, n2, aO, nO, cO, aI, nI, cI, rfl, rfl, HXC, HXS2, HRS, HBc⟩ := hcut
      have HPc := Lib.hid (HP2.out.keep hn0 hm0 HBc.out)
      have e0 := (HBc.out.cell (zb b0)).trans b0
      have HBcw := Lib.hid (below_then HB2.out HBc.out)
      have HXL : Hid (X < w2.heap.size) := Lib.hid (zb b0)
      clear b0 b1 p0 p1 p2 p3 HX2 hixz hs0z hixl hs0
      have b0 := e0
      clear e0
      by_cases her : er = 0
      · subst her
        obtain ⟨s', hR, hh, hnx, hrd, hfO, hfI⟩ : ∃ s' : Shr, RvF x.sh ⟨nu, z⟩ s' ∧ s'.hav = h2 ∧ s'.nxt = n2 ∧ RdShr wc aO nO aI nI s' ∧ (∀ p, aO = some p → w2.heap.size ≤ p.block) ∧ (∀ p, aI = some p → w2.heap.size ≤ p.block) := by
          rcases HRS.out with h | ⟨_, h⟩
          · exact absurd rfl h
          · exact h
        subst hh
        subst hnx
        have hsh := HPc.out.share (cO := cO) (cI := cI) hn0 hm0 hrd (z := w2.heap.size) (fun k hk => hk.elim (HP2.out.b0 k) (HP2.out.b1 k)) hfO hfI
        obtain ⟨x2, hx2⟩ : ∃ x2 : Hf, x2 = { x with sh := s' } := ⟨_, rfl⟩
        rw [← hx2] at hsh
        obtain ⟨h2, hh2⟩ : ∃ v, v = s'.hav := ⟨_, rfl⟩
        obtain ⟨n2, hn2⟩ : ∃ v, v = s'.nxt := ⟨_, rfl⟩
        rw [← hh2, ← hn2] at hsh HXC
        have HRR := Lib.hid hR
        have HX2' := Lib.hid hx2
        have HSH := Lib.hid hsh
        have d0 : wc.cell? ⟨X2, 0, none⟩ = some (.int .i64 h2) := HXC.out.cell (i := 0) (by omega)
        have d1 : wc.cell? ⟨X2, 1, none⟩ = some (.int .i64 n2) := HXC.out.cell (i := 1) (by omega)
        have d2 : wc.cell? ⟨X2, 2, none⟩ = some (.slice aO nO cO) := HXC.out.cell (i := 2) (by omega)
        have d3 : wc.cell? ⟨X2, 3, none⟩ = some (.slice aI nI cI) := HXC.out.cell (i := 3) (by omega)
        have c0 := HPc.out.ox.cell (i := 0) (by omega)
        have c1 := HPc.out.ox.cell (i := 1) (by omega)
        have c2 := HPc.out.ox.cell (i := 2) (by omega)
        have c3 := HPc.out.ox.cell (i := 3) (by omega)
        have f0 := HPc.out.ox.frozen 0
        have f1 := HPc.out.ox.frozen 1
        have f2 := HPc.out.ox.frozen 2
        have f3 := HPc.out.ox.frozen 3
        have l3 := HPc.out.ox.lt
        have lX := HXC.out.lt
        clear hsh hx2 hR hh2 hn2 hrd hfO hfI HRS
        go_upto_region 34 with (fail)
        have hfold : (((wc.setCell ⟨H, 0, none⟩ (.int .i64 h2)).setCell ⟨H, 1, none⟩ (.int .i64 n2)).setCell ⟨H, 2, none⟩ (.slice aO nO cO)).setCell ⟨H, 3, none⟩ (.slice aI nI cI) = shW wc H h2 n2 (.slice aO nO cO) (.slice aI nI cI) := rfl
        rw [hfold]
        clear hfold c0 c1 c2 c3 f0 f1 f2 f3 l3 d0 d1 d2 d3 lX
        obtain ⟨w4, hw4⟩ : ∃ W, W = shW wc H h2 n2 (.slice aO nO cO) (.slice aI nI cI) := ⟨_, rfl⟩
        rw [← hw4]
        have hm4' : Mod (fun k => k = H) wc w4 := by rw [hw4]; exact shW_mod _ _ _ _ _ _
        have HPV := Lib.hid (show PairC _ _ _ _ _ _ _ _ _ _ _ _ _ w4 from by rw [hw4]; exact HSH.out.1)
        have HBV : Hid (Below B wc w4) := Lib.hid (by rw [hw4]; exact HSH.out.2)
        have hXH : X ≠ H := by have := HXS.out; have := HP3L.out; omega
        have e0 := (hm4'.cell (zb b0) hXH).trans b0
        clear b0 hm4' hXH hw4 HSH
        have b0 := e0
        clear e0
        have HLE : Hid (x2.acks.length ≤ 1000) := Lib.hid (by rw [HX2'.out]; have := HTW.out.hx.ak; show x.acks.length ≤ 1000; omega)
        obtain ⟨sa, sc, hsv⟩ := HPV.out.xx.oK.shape
        obtain ⟨sn, hsn⟩ : ∃ k, k = x2.acks.length := ⟨_, rfl⟩
        rw [← hsn] at hsv
        have q13 : w4.cell? ⟨H, 14, none⟩ = some (.slice sa sn sc) := by rw [← hsv]; exact HPV.out.ox.cell (i := 14) (by omega)
        have HOS : Hid (OwnR 3 1 encI w4 B (.slice sa sn sc) x2.acks) := Lib.hid (by rw [← hsv]; exact HPV.out.xx.oK)
        have HSV := Lib.hid hsv
        clear hsv hsn
        refine region_k (S := fun w' => Below w4.heap.size w4 w') [8, 11] (by kernel_rfl) ((Below.refl _ _).drew) (fun hHeld => ?_)
        refine wpAnyK_pure (i := 0) (v := .pointer (some ⟨H, 0, none⟩)) rfl (by kernel_rfl) (by kernel_rfl) (by kernel_rfl) (fun _ _ _ h => h) (Or.inl ⟨by kernel_rfl, fun w' _ => ?_⟩) ?_
        · clear hHeld
          go_simp
        simp only [Act.put, zl0, zl1, zl2, zl3, zl4, zl5]
        refine wpAnyK_pure (i := 1) (v := .pointer (some ⟨H, 0, none⟩)) rfl (by kernel_rfl) (by kernel_rfl) (by kernel_rfl) (fun _ _ _ h => h) (Or.inl ⟨by kernel_rfl, fun w' _ => ?_⟩) ?_
        · clear hHeld
          go_simp
        simp only [Act.put, zl0, zl1, zl2, zl3, zl4, zl5]
        refine wpAnyK_pure (i := 2) (v := .pointer (some ⟨H, 0, none⟩)) rfl (by kernel_rfl) (by kernel_rfl) (by kernel_rfl) (fun _ _ _ h => h) (Or.inl ⟨by kernel_rfl, fun w' _ => ?_⟩) ?_
        · clear hHeld
          go_simp
        simp only [Act.put, zl0, zl1, zl2, zl3, zl4, zl5]
        refine wpAnyK_pure (i := 3) (v := .pointer (some ⟨H, 14, none⟩)) rfl (by kernel_rfl) (by kernel_rfl) (by kernel_rfl) (fun _ _ _ h => h) (Or.inl ⟨by kernel_rfl, fun w' _ => ?_⟩) ?_
        · clear hHeld
          go_simp
        simp only [Act.put, zl0, zl1, zl2, zl3, zl4, zl5]
        refine kt (i := 4) (v := .slice sa sn sc) [8, 11] (fun w' hSw => ?_) hHeld ?_
        · have q13'' := (hSw.cell (zb q13)).trans q13
          have lq13 := zb q13''
          dsimp only at lq13
          clear hHeld hSw
          go_simp
        simp only [Act.put, zl0, zl1, zl2, zl3, zl4, zl5]
        refine wpAnyK_pure (i := 5) (v := .pointer (some ⟨X, 0, none⟩)) rfl (by kernel_rfl) (by kernel_rfl) (by kernel_rfl) (fun _ _ _ h => h) (Or.inl ⟨by kernel_rfl, fun w' _ => ?_⟩) ?_
        · clear hHeld
          go_simp
        simp only [Act.put, zl0, zl1, zl2, zl3, zl4, zl5]
        refine kt (i := 6) (v := .int .i64 nu) [7, 8, 11] (fun w' hSw => ?_) hHeld ?_
        · have b0' := (hSw.cell (zb b0)).trans b0
          have lb0 := zb b0'
          dsimp only at lb0
          clear hHeld hSw
          go_simp
        simp only [Act.put, zl0, zl1, zl2, zl3, zl4, zl5]
        refine wpAnyK_one (i := 7) (by kernel_rfl) rfl (fun K' hK => ?_)
        go_simp
        refine hK.out _ _ (fun h => h.alloc h.size _) ?_
        clear hK K'
        try simp only [Act.put, zl0, zl1, zl2, zl3, zl4, zl5]
        have HHd := Lib.hid hHeld
        have HPd := Lib.hid (HPV.out.keep hn0 hm0 hHeld)
        have HLd := Lib.hid (HOS.out.keep hHeld)
        obtain ⟨ap, v', w6, av, aw, HL6⟩ := app_ack nu HLd.out HPd.out.hB (by have := HLE.out; omega)
        have hsh := HL6.out.1.shape
        refine wpAnyK_last (i := 8) (by kernel_rfl) rfl (by kernel_rfl) (fun K' hK => ?_)
        rw [if_pos (by rfl)]
        refine append_go rfl rfl ap av aw ?_
        refine hK.out _ _ ?_
        clear hK K' ap av aw
        try simp only [Act.put, zl0, zl1, zl2, zl3, zl4, zl5]
        obtain ⟨sa', sc', hsv'⟩ := hsh
        obtain ⟨sn', hsn'⟩ : ∃ k, k = (x2.acks ++ [nu]).length := ⟨_, rfl⟩
        rw [← hsn'] at hsv'
        subst hsv'
        clear hsn'
        refine wpAnyK_pure (i := 9) (v := .pointer (some ⟨H, 0, none⟩)) rfl (by kernel_rfl) (by kernel_rfl) (by kernel_rfl) (fun _ _ _ h => h) (Or.inl ⟨by kernel_rfl, fun w' _ => ?_⟩) ?_
        · clear hHeld
          go_simp
        simp only [Act.put, zl0, zl1, zl2, zl3, zl4, zl5]
        refine wpAnyK_pure (i := 10) (v := .pointer (some ⟨H, 14, none⟩)) rfl (by kernel_rfl) (by kernel_rfl) (by kernel_rfl) (fun _ _ _ h => h) (Or.inl ⟨by kernel_rfl, fun w' _ => ?_⟩) ?_
        · clear hHeld
          go_simp
        simp only [Act.put, zl0, zl1, zl2, zl3, zl4, zl5]
        have hkey := HPd.out.acks hn0 hm0 HL6.out.1 (by rw [HSV.out]; exact HL6.out.2.1) (by rw [HSV.out]; exact HL6.out.2.2.elim .inl (fun e => .inr ⟨_, e, Nat.le_succ _⟩))
        have HKEY := Lib.hid hkey
        have HO6 := Lib.hid (HPd.out.ox.mod HL6.out.2.1 (by rw [← HSV.out]; exact HPd.out.xx.kH))
        have c13 := HO6.out.cell (i := 14) (by omega)
        have f13 := HO6.out.frozen 14
        have l13 := HO6.out.lt
        refine wpAnyK_last (i := 11) (by kernel_rfl) rfl (by kernel_rfl) (fun K' hK => ?_)
        go_simp
        refine hK.out _ _ ?_
        clear hK K' hHeld c13 f13 l13 hkey
        try simp only [Act.put, zl0, zl1, zl2, zl3, zl4, zl5]
        refine wpAnyK_done (by kernel_rfl) ?_ _
        have HFI : Hid (Below B w (w6.setCell ⟨H, 14, none⟩ (.slice sa' sn' sc'))) := Lib.hid ((((HBcw.out.mono HBB.out).trans HBV.out).trans (HHd.out.mono HPV.out.hB)).trans HKEY.out.2)
        obtain ⟨hno, hl64, k, hsk, hpw⟩ := HRR.out
        have HTF : Hid (Two n m tot tick (r + 1) (recvX x ⟨nu, z⟩ k) y) := Lib.hid (HTW.out.recv hr HMEM.out hno hl64 hpw)
        have HPF : Hid (Pair B L lf H Ho n m (recvX x ⟨nu, z⟩ k) y (w6.setCell ⟨H, 14, none⟩ (.slice sa' sn' sc'))) := Lib.hid (by
          obtain ⟨M0', hh⟩ := HKEY.out.1
          have e1 : recvX x ⟨nu, z⟩ k = { x2 with acks := x2.acks ++ [nu] } := by rw [HX2'.out, hsk]; rfl
          rw [e1]
          exact ⟨M0', M1, _, A1, hh⟩)
        clear HKEY HO6 HL6 HLd HPd HHd HPV HBV HX2' HSV HOS HRR hno hl64 hsk hpw
        go_wp2_with fail
        refine fr_use (Q := K) (frP k0 k1 k2 k3 k4 k5 k6 k7 k8 k9 k10 k11 k12 (.int .i64 tick) k14 k33 k34 k35 k36 k37 k38 k39 k40 k41 k42 k43 k44 k45 k46 k47 k48 k49 k50 k51 k52 k53 k54 k55 k56 k57 k58 k59 k60 k322) rfl (fun g => ?_)
        exact HK.out g _ _ _ HPF HTF HFI
      · have he0 : (er == 0) = false := by simpa using her
        clear HRS HXC
        by_cases her5 : er = 5
        · have he5 : (er == 5) = true := by simpa using her5
          obtain ⟨x2, hx2⟩ : ∃ x2 : Hf, x2 = x := ⟨_, rfl⟩
          have HX2' := Lib.hid hx2
          have HPV := Lib.hid HPc.out
          rw [← hx2] at HPV
          have HLE : Hid (x2.acks.length ≤ 1000) := Lib.hid (by rw [hx2]; have := HTW.out.hx.ak; omega)
          clear hx2 her her5
          go_upto_region 34 with (fail)
          obtain ⟨sa, sc, hsv⟩ := HPV.out.xx.oK.shape
          obtain ⟨sn, hsn⟩ : ∃ k, k = x2.acks.length := ⟨_, rfl⟩
          rw [← hsn] at hsv
          have q13 : wc.cell? ⟨H, 14, none⟩ = some (.slice sa sn sc) := by rw [← hsv]; exact HPV.out.ox.cell (i := 14) (by omega)
          have HOS : Hid (OwnR 3 1 encI wc B (.slice sa sn sc) x2.acks) := Lib.hid (by rw [← hsv]; exact HPV.out.xx.oK)
          have HSV := Lib.hid hsv
          clear hsv hsn
          refine region_k (S := fun w' => Below wc.heap.size wc w') [8, 11] (by kernel_rfl) ((Below.refl _ _).drew) (fun hHeld => ?_)
          refine wpAnyK_pure (i := 0) (v := .pointer (some ⟨H, 0, none⟩)) rfl (by kernel_rfl) (by kernel_rfl) (by kernel_rfl) (fun _ _ _ h => h) (Or.inl ⟨by kernel_rfl, fun w' _ => ?_⟩) ?_
          · clear hHeld
            go_simp
          simp only [Act.put, zl0, zl1, zl2, zl3, zl4, zl5]
          refine wpAnyK_pure (i := 1) (v := .pointer (some ⟨H, 0, none⟩)) rfl (by kernel_rfl) (by kernel_rfl) (by kernel_rfl) (fun _ _ _ h => h) (Or.inl ⟨by kernel_rfl, fun w' _ => ?_⟩) ?_
          · clear hHeld
            go_simp
          simp only [Act.put, zl0, zl1, zl2, zl3, zl4, zl5]
          refine wpAnyK_pure (i := 2) (v := .pointer (some ⟨H, 0, none⟩)) rfl (by kernel_rfl) (by kernel_rfl) (by kernel_rfl) (fun _ _ _ h => h) (Or.inl ⟨by kernel_rfl, fun w' _ => ?_⟩) ?_
          · clear hHeld
            go_simp
          simp only [Act.put, zl0, zl1, zl2, zl3, zl4, zl5]
          refine wpAnyK_pure (i := 3) (v := .pointer (some ⟨H, 14, none⟩)) rfl (by kernel_rfl) (by kernel_rfl) (by kernel_rfl) (fun _ _ _ h => h) (Or.inl ⟨by kernel_rfl, fun w' _ => ?_⟩) ?_
          · clear hHeld
            go_simp
          simp only [Act.put, zl0, zl1, zl2, zl3, zl4, zl5]
          refine kt (i := 4) (v := .slice sa sn sc) [8, 11] (fun w' hSw => ?_) hHeld ?_
          · have q13'' := (hSw.cell (zb q13)).trans q13
            have lq13 := zb q13''
            dsimp only at lq13
            clear hHeld hSw
            go_simp
          simp only [Act.put, zl0, zl1, zl2, zl3, zl4, zl5]
          refine wpAnyK_pure (i := 5) (v := .pointer (some ⟨X, 0, none⟩)) rfl (by kernel_rfl) (by kernel_rfl) (by kernel_rfl) (fun _ _ _ h => h) (Or.inl ⟨by kernel_rfl, fun w' _ => ?_⟩) ?_
          · clear hHeld
            go_simp
          simp only [Act.put, zl0, zl1, zl2, zl3, zl4, zl5]
          refine kt (i := 6) (v := .int .i64 nu) [7, 8, 11] (fun w' hSw => ?_) hHeld ?_
          · have b0' := (hSw.cell (zb b0)).trans b0
            have lb0 := zb b0'
            dsimp only at lb0
            clear hHeld hSw
            go_simp
          simp only [Act.put, zl0, zl1, zl2, zl3, zl4, zl5]
          refine wpAnyK_one (i := 7) (by kernel_rfl) rfl (fun K' hK => ?_)
          go_simp
          refine hK.out _ _ (fun h => h.alloc h.size _) ?_
          clear hK K'
          try simp only [Act.put, zl0, zl1, zl2, zl3, zl4, zl5]
          have HHd := Lib.hid hHeld
          have HPd := Lib.hid (HPV.out.keep hn0 hm0 hHeld)
          have HLd := Lib.hid (HOS.out.keep hHeld)
          obtain ⟨ap, v', w6, av, aw, HL6⟩ := app_ack nu HLd.out HPd.out.hB (by have := HLE.out; omega)
          have hsh := HL6.out.1.shape
          refine wpAnyK_last (i := 8) (by kernel_rfl) rfl (by kernel_rfl) (fun K' hK => ?_)
          rw [if_pos (by rfl)]
          refine append_go rfl rfl ap av aw ?_
          refine hK.out _ _ ?_
          clear hK K' ap av aw
          try simp only [Act.put, zl0, zl1, zl2, zl3, zl4, zl5]
          obtain ⟨sa', sc', hsv'⟩ := hsh
          obtain ⟨sn', hsn'⟩ : ∃ k, k = (x2.acks ++ [nu]).length := ⟨_, rfl⟩
          rw [← hsn'] at hsv'
          subst hsv'
          clear hsn'
          refine wpAnyK_pure (i := 9) (v := .pointer (some ⟨H, 0, none⟩)) rfl (by kernel_rfl) (by kernel_rfl) (by kernel_rfl) (fun _ _ _ h => h) (Or.inl ⟨by kernel_rfl, fun w' _ => ?_⟩) ?_
          · clear hHeld
            go_simp
          simp only [Act.put, zl0, zl1, zl2, zl3, zl4, zl5]
          refine wpAnyK_pure (i := 10) (v := .pointer (some ⟨H, 14, none⟩)) rfl (by kernel_rfl) (by kernel_rfl) (by kernel_rfl) (fun _ _ _ h => h) (Or.inl ⟨by kernel_rfl, fun w' _ => ?_⟩) ?_
          · clear hHeld
            go_simp
          simp only [Act.put, zl0, zl1, zl2, zl3, zl4, zl5]
          have hkey := HPd.out.acks hn0 hm0 HL6.out.1 (by rw [HSV.out]; exact HL6.out.2.1) (by rw [HSV.out]; exact HL6.out.2.2.elim .inl (fun e => .inr ⟨_, e, Nat.le_succ _⟩))
          have HKEY := Lib.hid hkey
          have HO6 := Lib.hid (HPd.out.ox.mod HL6.out.2.1 (by rw [← HSV.out]; exact HPd.out.xx.kH))
          have c13 := HO6.out.cell (i := 14) (by omega)
          have f13 := HO6.out.frozen 14
          have l13 := HO6.out.lt
          refine wpAnyK_last (i := 11) (by kernel_rfl) rfl (by kernel_rfl) (fun K' hK => ?_)
          go_simp
          refine hK.out _ _ ?_
          clear hK K' hHeld c13 f13 l13 hkey
          try simp only [Act.put, zl0, zl1, zl2, zl3, zl4, zl5]
          refine wpAnyK_done (by kernel_rfl) ?_ _
          have HFI : Hid (Below B w (w6.setCell ⟨H, 14, none⟩ (.slice sa' sn' sc'))) := Lib.hid (((HBcw.out.mono HBB.out).trans (HHd.out.mono HPV.out.hB)).trans HKEY.out.2)
          have HTF : Hid (Two n m tot tick (r + 1) (twiceX x nu) y) := Lib.hid (HTW.out.twice hr nu)
          have HPF : Hid (Pair B L lf H Ho n m (twiceX x nu) y (w6.setCell ⟨H, 14, none⟩ (.slice sa' sn' sc'))) := Lib.hid (by
            obtain ⟨M0', hh⟩ := HKEY.out.1
            have e1 : twiceX x nu = { x2 with acks := x2.acks ++ [nu] } := by rw [HX2'.out]; rfl
            rw [e1]
            exact ⟨M0', M1, _, A1, hh⟩)
          clear HKEY HO6 HL6 HLd HPd HHd HPV HX2' HSV HOS
          go_wp2_with fail
          refine fr_use (Q := K) (frP k0 k1 k2 k3 k4 k5 k6 k7 k8 k9 k10 k11 k12 (.int .i64 tick) k14 k33 k34 k35 k36 k37 k38 k39 k40 k41 k42 k43 k44 k45 k46 k47 k48 k49 k50 k51 k52 k53 k54 k55 k56 k57 k58 k59 k60 k322) rfl (fun g => ?_)
          exact HK.out g _ _ _ HPF HTF HFI
        · have he5 : (er == 5) = false := by simpa using her5
          have HPF : Hid (Pair B L lf H Ho n m x y wc) := Lib.hid ⟨M0, M1, A0, A1, HPc.out⟩
          have HFI : Hid (Below B w wc) := Lib.hid (HBcw.out.mono HBB.out)
          have HTF := Lib.hid (HTW.out.next hr)
          clear HPc her her5
          go_wp2_with fail
          refine fr_use (Q := K) (frP k0 k1 k2 k3 k4 k5 k6 k7 k8 k9 k10 k11 k12 (.int .i64 tick) k14 k33 k34 k35 k36 k37 k38 k39 k40 k41 k42 k43 k44 k45 k46 k47 k48 k49 k50 k51 k52 k53 k54 k55 k56 k57 k58 k59 k60 k322) rfl (fun g => ?_)
          exact HK.out g _ _ _ HPF HTF HFI
  · have hs0z : ¬ (0 : Int) < (sn : Int) := by omega
    have HPF : Hid (Pair B L lf H Ho n m x y w) := Lib.hid ⟨M0, M1, A0, A1, HPC.out⟩
    have HFI : Hid (Below B w w) := Lib.hid (Below.refl _ _)
    have HTF := Lib.hid (HTW.out.next hr)
    clear HPC
    go_wp2_with fail
    refine fr_use (Q := K) (frP k0 k1 k2 k3 k4 k5 k6 k7 k8 k9 k10 k11 k12 (.int .i64 tick) k14 k33 k34 k35 k36 k37 k38 k39 k40 k41 k42 k43 k44 k45 k46 k47 k48 k49 k50 k51 k52 k53 k54 k55 k56 k57 k58 k59 k60 k322) rfl (fun g => ?_)
    exact HK.out g _ _ _ HPF HTF HFI
end Go.Proofs.YtkbbapefgifagaaGreatDoor
