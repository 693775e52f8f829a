/-
Several texts in one: TwZC, TwZD.
-/
import Derived.Test.YtkbbapefgifagaaGreatDoorCTwZB
/-
Two controllers: the arm of deciding.
-/
namespace Go.Proofs.YtkbbapefgifagaaGreatDoor
open Go.RowKit
set_option linter.unusedVariables false
set_option linter.unusedSimpArgs false
def findElse (n : Nat) : Code → Option Code
  | .loop c => findElse n c
  | .seq a b => match findElse n a with
    | some c => some c
    | none => findElse n b
  | .block _ c => findElse n c
  | .cond t a b => match t with
    | .tmp k => if k = n then some b else match findElse n a with
      | some c => some c
      | none => findElse n b
    | _ => none
  | _ => none
noncomputable def arm8 : Code := ((Tryz.f3.body.bind (findElse 225)).getD .skip)
/-- A decision, with both in memory. -/
theorem PairC.dec {B L : Nat} {lf : Nat → Value} {Hx Hy n m : Nat} {x y : Hf} {M0 M1 : Nat → Prop} {A0 A1 : HfAd} {W W' : World} {tick : Int} (h : PairC B L lf Hx Hy n m x y M0 M1 A0 A1 W) (hm : 0 < m) {e : Ending} (hd : DcPost B M0 (OrP M0 M1) Hx n x tick W e W') : ∃ A0' ls rs num, PairC B L lf Hx Hy n m (decX x ls rs num) y M0 M1 A0' A1 W' ∧ DecOk n tick x ls rs num ∧ Below B W W' ∧ Mod (fun k => k = Hx) W W' := by
  obtain ⟨_, A', ls, rs, num, ho, hx, hok, hmo⟩ := hd
  have hk := h.upd (P := fun k => k = Hx) hm hmo (fun k e => by rw [e]; exact h.xx.mH) (fun k hk => .inl hk) (fun k hk => Nat.lt_of_lt_of_le (h.b0 k hk) hmo.size) ho hx
  exact ⟨A', ls, rs, num, hk.1, hok, hk.2, hmo⟩
set_option maxRecDepth 100000 in
set_option maxHeartbeats 16000000 in
theorem arm8_ok {k0 k1 k2 k3 k4 k5 k6 k7 k8 k9 k10 k11 k14 u15 u16 u17 u18 u19 u20 u21 u22 u23 u24 u25 u26 u27 u28 u29 u30 u31 u32 k33 k34 k35 k36 k37 k38 k39 k40 k41 k42 k43 k44 k45 k46 k47 k48 k49 k50 k51 k52 k53 k54 k55 k56 k57 k58 k59 k60 u61 u62 u63 u64 u65 u66 u67 u68 u69 u70 u71 u72 u73 u74 u75 u76 u77 u78 u79 u80 u81 u82 u83 u84 u85 u86 u87 u88 u89 u90 u91 u92 u93 u94 u95 u96 u97 u98 u99 u100 u101 u102 u103 u104 u105 u106 u107 u108 u109 u110 u111 u112 u113 u114 u115 u116 u117 u118 u119 u120 u121 u122 u123 u124 u125 u126 u127 u128 u129 u130 u131 u132 u133 u134 u135 u136 u137 u138 u139 u140 u141 u142 u143 u144 u145 u146 u147 u148 u149 u150 u151 u152 u153 u154 u155 u156 u157 u158 u159 u160 u161 u162 u163 u164 u165 u166 u167 u168 u169 u170 u171 u172 u173 u174 u175 u176 u177 u178 u179 u180 u181 u182 u183 u184 u185 u186 u187 u188 u189 u190 u191 u192 u193 u194 u195 u196 u197 u198 u199 u200 u201 u202 u203 u204 u205 u206 u207 u208 u209 u210 u211 u212 u213 u214 u215 u216 u217 u218 u219 u220 u221 u222 u223 u224 u225 u226 u227 u228 u229 u230 u231 u232 u233 u234 u235 u236 u237 u238 u239 u240 u241 u242 u243 u244 u245 u246 u247 u248 u249 u250 u251 u252 u253 u254 u255 u256 u257 u258 u259 u260 u261 u262 u263 u264 u265 u266 u267 u268 u269 u270 u271 u272 u273 u274 u275 u276 u277 u278 u279 u280 u281 u282 u283 u284 u285 u286 u287 u288 u289 u290 u291 u292 u293 u294 u295 u296 u297 u298 u299 u300 u301 u302 u303 u304 u305 u306 u307 u308 u309 u310 u311 u312 u313 u314 u315 u316 u317 u318 u319 u320 u321 k322 : Value} (B L H Ho n m : Nat) (tot tick : Int) (r : Nat) (x y : Hf) (w : World) (K : Act → World → Prop) (HP : Hid (Pair B L (hfF [.pointer (some ⟨H, 0, none⟩), .pointer (some ⟨Ho, 0, none⟩)]) H Ho n m x y w)) (HTW : Hid (Two n m tot tick r x y)) (hr : r < 200) (hn0 : 0 < n) (hn4 : n ≤ 4) (hm0 : 0 < m) (hm4 : m ≤ 4) (hH1 : 1 < H) (hH2 : 1 < Ho) (HT : Hid (hapT w))
    (HK : Hid (∀ (g : Nat → Value) (x' y' : Hf) (W : World), Hid (Pair B L (hfF [.pointer (some ⟨H, 0, none⟩), .pointer (some ⟨Ho, 0, none⟩)]) H Ho n m x' y' W) → Hid (Two n m tot (tick + 1) (r + 1) x' y') → Hid (Below B w W) → K ⟨List.toArray (frP k0 k1 k2 k3 k4 k5 k6 k7 k8 k9 k10 k11 (.pointer (some ⟨L, 0, none⟩)) (.int .i64 (tick + 1)) k14 k33 k34 k35 k36 k37 k38 k39 k40 k41 k42 k43 k44 k45 k46 k47 k48 k49 k50 k51 k52 k53 k54 k55 k56 k57 k58 k59 k60 k322 g), []⟩ W)) :
    Code.wp Tryz.prog arm8 (Exit.then K (fun _ _ _ => False)) ⟨List.toArray (k0 :: k1 :: k2 :: k3 :: k4 :: k5 :: k6 :: k7 :: k8 :: k9 :: k10 :: k11 :: (.pointer (some ⟨L, 0, none⟩)) :: (.int .i64 tick) :: k14 :: u15 :: u16 :: u17 :: u18 :: u19 :: u20 :: u21 :: u22 :: u23 :: u24 :: u25 :: u26 :: u27 :: u28 :: u29 :: u30 :: u31 :: u32 :: k33 :: k34 :: k35 :: k36 :: k37 :: k38 :: k39 :: k40 :: k41 :: k42 :: k43 :: k44 :: k45 :: k46 :: k47 :: k48 :: k49 :: k50 :: k51 :: k52 :: k53 :: k54 :: k55 :: k56 :: k57 :: k58 :: k59 :: k60 :: u61 :: u62 :: u63 :: u64 :: u65 :: u66 :: u67 :: u68 :: u69 :: u70 :: u71 :: u72 :: u73 :: u74 :: u75 :: u76 :: u77 :: u78 :: u79 :: u80 :: u81 :: u82 :: u83 :: u84 :: u85 :: u86 :: u87 :: u88 :: u89 :: u90 :: u91 :: u92 :: u93 :: u94 :: u95 :: u96 :: u97 :: u98 :: u99 :: u100 :: u101 :: u102 :: u103 :: u104 :: u105 :: u106 :: u107 :: u108 :: u109 :: u110 :: u111 :: u112 :: u113 :: u114 :: u115 :: u116 :: u117 :: u118 :: u119 :: u120 :: u121 :: u122 :: u123 :: u124 :: u125 :: u126 :: u127 :: u128 :: u129 :: u130 :: u131 :: u132 :: u133 :: u134 :: u135 :: u136 :: u137 :: u138 :: u139 :: u140 :: u141 :: u142 :: u143 :: u144 :: u145 :: u146 :: u147 :: u148 :: u149 :: u150 :: u151 :: u152 :: u153 :: u154 :: u155 :: u156 :: u157 :: u158 :: u159 :: u160 :: u161 :: u162 :: u163 :: u164 :: u165 :: u166 :: u167 :: u168 :: u169 :: u170 :: u171 :: u172 :: u173 :: u174 :: u175 :: u176 :: u177 :: u178 :: u179 :: u180 :: u181 :: u182 :: u183 :: u184 :: u185 :: u186 :: u187 :: u188 :: u189 :: u190 :: u191 :: u192 :: u193 :: u194 :: u195 :: u196 :: u197 :: u198 :: u199 :: u200 :: u201 :: u202 :: u203 :: u204 :: u205 :: u206 :: u207 :: u208 :: u209 :: u210 :: u211 :: u212 :: u213 :: u214 :: u215 :: u216 :: u217 :: u218 :: u219 :: u220 :: u221 :: u222 :: u223 :: u224 :: u225 :: u226 :: u227 :: u228 :: u229 :: u230 :: u231 :: u232 :: u233 :: u234 :: u235 :: u236 :: u237 :: u238 :: u239 :: u240 :: u241 :: u242 :: u243 :: u244 :: u245 :: u246 :: u247 :: u248 :: u249 :: u250 :: u251 :: u252 :: u253 :: u254 :: u255 :: u256 :: u257 :: u258 :: u259 :: u260 :: u261 :: u262 :: u263 :: u264 :: u265 :: u266 :: u267 :: u268 :: u269 :: u270 :: u271 :: u272 :: u273 :: u274 :: u275 :: u276 :: u277 :: u278 :: u279 :: u280 :: u281 :: u282 :: u283 :: u284 :: u285 :: u286 :: u287 :: u288 :: u289 :: u290 :: u291 :: u292 :: u293 :: u294 :: u295 :: u296 :: u297 :: u298 :: u299 :: u300 :: u301 :: u302 :: u303 :: u304 :: u305 :: u306 :: u307 :: u308 :: u309 :: u310 :: u311 :: u312 :: u313 :: u314 :: u315 :: u316 :: u317 :: u318 :: u319 :: u320 :: u321 :: k322 :: []), []⟩ w := by
  obtain ⟨M0, M1, A0, A1, hpc⟩ := HP.out
  have HBB := Lib.hid hpc.hB
  have HPC := Lib.hid hpc
  have l0 : w.cell? ⟨L, 0, none⟩ = some (.pointer (some ⟨H, 0, none⟩)) := hpc.lc.cell (i := 0) (by omega)
  have lL := hpc.lc.lt
  have ht0 := HTW.out.t0
  have ht1 : tick ≤ 200 := by have := HTW.out.t1; have := HTW.out.r1; omega
  have wt : IntKind.i64.wrap (tick + 1) = tick + 1 := IntWalk.i64_in _ (by omega)
  have HD1 := Lib.hid (r7Decide_ok (tick := tick) (r := r) (Lib.hid hpc.ox) (Lib.hid hpc.xx) (Lib.hid HTW.out.hx) hn0 hn4 ht0 ht1 HTW.out.hav.1 HTW.out.hav.2 (Lib.hid (fun k hk => .inl hk)) (Lib.hid (fun k hk => hk.elim (hpc.b0 k) (hpc.b1 k))) HT hH1)
  clear hpc HP
  conv => arg 2; whnf
  go_wp2_with fail
  refine HD1.out.mono ?_
  intro e w1 hd
  have he : e = .returned (.bool true) := hd.1
  obtain ⟨A0', ls1, rs1, nu1, hp1, hok1, hb1, hmo1⟩ := HPC.out.dec hm0 hd
  subst he
  have hp1s := hp1.swap hn0 hm0
  have HD2 := Lib.hid (r7Decide_ok (tick := tick) (r := r) (Lib.hid hp1s.ox) (Lib.hid hp1s.xx) (Lib.hid HTW.out.hy) hm0 hm4 ht0 ht1 HTW.out.swap.hav.1 HTW.out.swap.hav.2 (Lib.hid (fun k hk => .inl hk)) (Lib.hid (fun k hk => hk.elim (hp1s.b0 k) (hp1s.b1 k))) (Lib.hid (hapT_mod HT.out hmo1 (by omega))) hH2)
  have l1 : w1.cell? ⟨L, 1, none⟩ = some (.pointer (some ⟨Ho, 0, none⟩)) := hp1.lc.cell (i := 1) (by omega)
  have lL1 := hp1.lc.lt
  have HP1 := Lib.hid hp1s
  have HOK1 := Lib.hid (And.intro hok1 hb1)
  clear hd hp1 hok1 hb1 hmo1 hp1s l0 lL HPC HD1
  go_wp2_with fail
  refine HD2.out.mono ?_
  intro e w2 hd
  have he : e = .returned (.bool true) := hd.1
  obtain ⟨A1', ls2, rs2, nu2, hp2, hok2, hb2, hmo2⟩ := HP1.out.dec hn0 hd
  subst he
  have HPF : Hid (Pair B L (hfF [.pointer (some ⟨H, 0, none⟩), .pointer (some ⟨Ho, 0, none⟩)]) H Ho n m (decX x ls1 rs1 nu1) (decX y ls2 rs2 nu2) w2) := Lib.hid ⟨_, _, _, _, hp2.swap hm0 hn0⟩
  have HFI : Hid (Below B w w2) := Lib.hid (HOK1.out.2.trans hb2)
  have HTF := Lib.hid (HTW.out.tick hr HOK1.out.1 hok2)
  clear hd hp2 hok2 hb2 hmo2 HD2 HP1 HOK1 l1 lL1
  go_wp2_with fail
  refine fr_use (Q := K) (frP k0 k1 k2 k3 k4 k5 k6 k7 k8 k9 k10 k11 (.pointer (some ⟨L, 0, none⟩)) (.int .i64 (tick + 1)) k14 k33 k34 k35 k36 k37 k38 k39 k40 k41 k42 k43 k44 k45 k46 k47 k48 k49 k50 k51 k52 k53 k54 k55 k56 k57 k58 k59 k60 k322) rfl (fun g => ?_)
  exact HK.out g _ _ _ HPF HTF HFI
end Go.Proofs.YtkbbapefgifagaaGreatDoor
/-
Two controllers: the law's switch.
-/
namespace Go.Proofs.YtkbbapefgifagaaGreatDoor
open Go.RowKit
set_option linter.unusedVariables false
set_option linter.unusedSimpArgs false
def findBlk (n : Nat) : Code → Option Code
  | .loop c => findBlk n c
  | .seq a b => match findBlk n a with
    | some c => some c
    | none => findBlk n b
  | .block k c => if k = n then some (.block k c) else findBlk n c
  | .cond _ a b => match findBlk n a with
    | some c => some c
    | none => findBlk n b
  | _ => none
noncomputable def blk2 : Code := ((Tryz.f3.body.bind (findBlk 2)).getD .skip)
set_option maxRecDepth 100000 in
set_option maxHeartbeats 16000000 in
theorem switch_ok {k0 k1 k2 k3 k4 k5 k6 k7 k8 k9 k10 k11 k14 u15 u16 u20 u21 u22 u23 u24 u25 u26 u27 u28 u29 u30 u31 u32 k33 k34 k35 k36 k37 k38 k39 k40 k41 k42 k43 k44 k45 k46 k47 k48 k49 k50 k51 k52 k53 k54 k55 k56 k57 k58 k59 k60 u61 u62 u63 u64 u65 u66 u67 u68 u69 u70 u71 u72 u73 u74 u75 u76 u77 u79 u80 u81 u82 u83 u84 u85 u86 u87 u88 u89 u90 u91 u92 u93 u94 u95 u96 u97 u98 u99 u100 u101 u102 u103 u104 u105 u106 u107 u108 u109 u110 u111 u112 u113 u114 u115 u116 u117 u118 u119 u120 u121 u122 u123 u124 u125 u126 u127 u128 u129 u130 u131 u132 u133 u134 u135 u136 u137 u138 u139 u140 u141 u142 u143 u144 u145 u146 u147 u148 u149 u150 u151 u152 u153 u154 u155 u156 u157 u158 u159 u160 u161 u162 u163 u164 u165 u166 u167 u168 u169 u170 u171 u172 u173 u174 u175 u176 u177 u178 u179 u180 u181 u182 u183 u184 u185 u186 u187 u188 u189 u190 u191 u192 u193 u194 u195 u196 u197 u198 u199 u200 u201 u202 u203 u204 u205 u206 u207 u208 u209 u210 u211 u212 u213 u214 u215 u216 u217 u218 u219 u220 u221 u222 u223 u224 u225 u226 u227 u228 u229 u230 u231 u232 u233 u234 u235 u236 u237 u238 u239 u240 u241 u242 u243 u244 u245 u246 u247 u248 u249 u250 u251 u252 u253 u254 u255 u256 u257 u258 u259 u260 u261 u262 u263 u264 u265 u266 u267 u268 u269 u270 u271 u272 u273 u274 u275 u276 u277 u278 u279 u280 u281 u282 u283 u284 u285 u286 u287 u288 u289 u290 u291 u292 u293 u294 u295 u296 u297 u298 u299 u300 u301 u302 u303 u304 u305 u306 u307 u308 u309 u310 u311 u312 u313 u314 u315 u316 u317 u318 u319 u320 u321 k322 : Value} (B L Hx Hy n m Hh Ho nh no : Nat) (tot tick pick d : Int) (r : Nat) (x y xh xo : Hf) (w : World) (K : Act → World → Prop) (HP : Hid (Pair B L (hfF [.pointer (some ⟨Hx, 0, none⟩), .pointer (some ⟨Hy, 0, none⟩)]) Hx Hy n m x y w)) (HTW : Hid (Two n m tot tick r x y)) (HPh : Hid (Pair B L (hfF [.pointer (some ⟨Hx, 0, none⟩), .pointer (some ⟨Hy, 0, none⟩)]) Hh Ho nh no xh xo w)) (HTh : Hid (Two nh no tot tick r xh xo)) (hr : r < 200) (hn0 : 0 < n) (hn4 : n ≤ 4) (hm0 : 0 < m) (hm4 : m ≤ 4) (hh0 : 0 < nh) (hh4 : nh ≤ 4) (ho0 : 0 < no) (ho4 : no ≤ 4) (hp0 : 0 ≤ pick) (hp1 : pick ≤ 255) (hH1 : 1 < Hx) (hH2 : 1 < Hy) (hH3 : 1 < Hh) (hH4 : 1 < Ho) (HT : Hid (hapT w))
    (HBK : Hid (∀ (x' y' : Hf) (tick' : Int) (r' : Nat) (W : World), Pair B L (hfF [.pointer (some ⟨Hx, 0, none⟩), .pointer (some ⟨Hy, 0, none⟩)]) Hh Ho nh no x' y' W → Two nh no tot tick' r' x' y' → ∃ x2 y2, Hid (Pair B L (hfF [.pointer (some ⟨Hx, 0, none⟩), .pointer (some ⟨Hy, 0, none⟩)]) Hx Hy n m x2 y2 W) ∧ Hid (Two n m tot tick' r' x2 y2)))
    (HK : Hid (∀ (g : Nat → Value) (tick' : Int) (x' y' : Hf) (W : World), Hid (Pair B L (hfF [.pointer (some ⟨Hx, 0, none⟩), .pointer (some ⟨Hy, 0, none⟩)]) Hx Hy n m x' y' W) → Hid (Two n m tot tick' (r + 1) x' y') → Hid (Below B w W) → K ⟨List.toArray (frP k0 k1 k2 k3 k4 k5 k6 k7 k8 k9 k10 k11 (.pointer (some ⟨L, 0, none⟩)) (.int .i64 tick') k14 k33 k34 k35 k36 k37 k38 k39 k40 k41 k42 k43 k44 k45 k46 k47 k48 k49 k50 k51 k52 k53 k54 k55 k56 k57 k58 k59 k60 k322 g), []⟩ W)) :
    Code.wp Tryz.prog blk2 (Exit.then K (fun _ _ _ => False)) ⟨List.toArray (k0 :: k1 :: k2 :: k3 :: k4 :: k5 :: k6 :: k7 :: k8 :: k9 :: k10 :: k11 :: (.pointer (some ⟨L, 0, none⟩)) :: (.int .i64 tick) :: k14 :: u15 :: u16 :: (.pointer (some ⟨Hh, 0, none⟩)) :: (.pointer (some ⟨Ho, 0, none⟩)) :: (.int .i64 pick) :: u20 :: u21 :: u22 :: u23 :: u24 :: u25 :: u26 :: u27 :: u28 :: u29 :: u30 :: u31 :: u32 :: k33 :: k34 :: k35 :: k36 :: k37 :: k38 :: k39 :: k40 :: k41 :: k42 :: k43 :: k44 :: k45 :: k46 :: k47 :: k48 :: k49 :: k50 :: k51 :: k52 :: k53 :: k54 :: k55 :: k56 :: k57 :: k58 :: k59 :: k60 :: u61 :: u62 :: u63 :: u64 :: u65 :: u66 :: u67 :: u68 :: u69 :: u70 :: u71 :: u72 :: u73 :: u74 :: u75 :: u76 :: u77 :: (.int .u8 d) :: u79 :: u80 :: u81 :: u82 :: u83 :: u84 :: u85 :: u86 :: u87 :: u88 :: u89 :: u90 :: u91 :: u92 :: u93 :: u94 :: u95 :: u96 :: u97 :: u98 :: u99 :: u100 :: u101 :: u102 :: u103 :: u104 :: u105 :: u106 :: u107 :: u108 :: u109 :: u110 :: u111 :: u112 :: u113 :: u114 :: u115 :: u116 :: u117 :: u118 :: u119 :: u120 :: u121 :: u122 :: u123 :: u124 :: u125 :: u126 :: u127 :: u128 :: u129 :: u130 :: u131 :: u132 :: u133 :: u134 :: u135 :: u136 :: u137 :: u138 :: u139 :: u140 :: u141 :: u142 :: u143 :: u144 :: u145 :: u146 :: u147 :: u148 :: u149 :: u150 :: u151 :: u152 :: u153 :: u154 :: u155 :: u156 :: u157 :: u158 :: u159 :: u160 :: u161 :: u162 :: u163 :: u164 :: u165 :: u166 :: u167 :: u168 :: u169 :: u170 :: u171 :: u172 :: u173 :: u174 :: u175 :: u176 :: u177 :: u178 :: u179 :: u180 :: u181 :: u182 :: u183 :: u184 :: u185 :: u186 :: u187 :: u188 :: u189 :: u190 :: u191 :: u192 :: u193 :: u194 :: u195 :: u196 :: u197 :: u198 :: u199 :: u200 :: u201 :: u202 :: u203 :: u204 :: u205 :: u206 :: u207 :: u208 :: u209 :: u210 :: u211 :: u212 :: u213 :: u214 :: u215 :: u216 :: u217 :: u218 :: u219 :: u220 :: u221 :: u222 :: u223 :: u224 :: u225 :: u226 :: u227 :: u228 :: u229 :: u230 :: u231 :: u232 :: u233 :: u234 :: u235 :: u236 :: u237 :: u238 :: u239 :: u240 :: u241 :: u242 :: u243 :: u244 :: u245 :: u246 :: u247 :: u248 :: u249 :: u250 :: u251 :: u252 :: u253 :: u254 :: u255 :: u256 :: u257 :: u258 :: u259 :: u260 :: u261 :: u262 :: u263 :: u264 :: u265 :: u266 :: u267 :: u268 :: u269 :: u270 :: u271 :: u272 :: u273 :: u274 :: u275 :: u276 :: u277 :: u278 :: u279 :: u280 :: u281 :: u282 :: u283 :: u284 :: u285 :: u286 :: u287 :: u288 :: u289 :: u290 :: u291 :: u292 :: u293 :: u294 :: u295 :: u296 :: u297 :: u298 :: u299 :: u300 :: u301 :: u302 :: u303 :: u304 :: u305 :: u306 :: u307 :: u308 :: u309 :: u310 :: u311 :: u312 :: u313 :: u314 :: u315 :: u316 :: u317 :: u318 :: u319 :: u320 :: u321 :: k322 :: []), []⟩ w := by
  have HKh : Hid (∀ (g : Nat → Value) (x' y' : Hf) (W : World), Hid (Pair B L (hfF [.pointer (some ⟨Hx, 0, none⟩), .pointer (some ⟨Hy, 0, none⟩)]) Hh Ho nh no x' y' W) → Hid (Two nh no tot tick (r + 1) x' y') → Hid (Below B w W) → K ⟨List.toArray (frP k0 k1 k2 k3 k4 k5 k6 k7 k8 k9 k10 k11 (.pointer (some ⟨L, 0, none⟩)) (.int .i64 tick) k14 k33 k34 k35 k36 k37 k38 k39 k40 k41 k42 k43 k44 k45 k46 k47 k48 k49 k50 k51 k52 k53 k54 k55 k56 k57 k58 k59 k60 k322 g), []⟩ W) := Lib.hid (fun g x' y' W h1 h2 h3 => by
    obtain ⟨x2, y2, g1, g2⟩ := HBK.out x' y' tick (r + 1) W h1.out h2.out
    exact HK.out g tick x2 y2 W g1 g2 h3)
  conv => arg 2; whnf
  by_cases h4 : d = 4
  · subst h4
    go_upto_if 93 with (fail)
    go_step
    refine wp_normal (fun K' hK' => ?_)
    refine arm4_ok B L Hh Ho nh no _ tot tick pick r xh xo w K' HPh HTh hr hh0 hh4 ho0 ho4 hp0 hp1 hH3 hH4 (Lib.hid (fun g x' y' W h1 h2 h3 => hK' _ _ (HKh.out g x' y' W h1 h2 h3)))
  have hb4 : (d == 4) = false := by simpa using h4
  by_cases h5 : d = 5
  · subst h5
    go_upto_if 137 with (fail)
    go_step
    refine wp_normal (fun K' hK' => ?_)
    refine arm5_ok B L Hh Ho nh no _ tot tick pick r xh xo w K' HPh HTh hr hh0 hh4 ho0 ho4 hp0 hp1 hH3 hH4 (Lib.hid (fun g x' y' W h1 h2 h3 => hK' _ _ (HKh.out g x' y' W h1 h2 h3)))
  have hb5 : (d == 5) = false := by simpa using h5
  by_cases h6 : d = 6
  · subst h6
    go_upto_if 190 with (fail)
    go_step
    refine wp_normal (fun K' hK' => ?_)
    refine arm6_ok B L Hh Ho nh no _ tot tick pick r xh xo w K' HPh HTh hr hh0 hh4 ho0 ho4 hp0 hp1 hH3 hH4 (Lib.hid (fun g x' y' W h1 h2 h3 => hK' _ _ (HKh.out g x' y' W h1 h2 h3)))
  have hb6 : (d == 6) = false := by simpa using h6
  by_cases h7 : d = 7
  · subst h7
    go_upto_if 225 with (fail)
    go_step
    refine wp_normal (fun K' hK' => ?_)
    refine arm7_ok B L Hh Ho nh no _ tot tick pick r xh xo w K' HPh HTh hr hh0 hh4 ho0 ho4 hp0 hp1 hH3 hH4 (Lib.hid (fun g x' y' W h1 h2 h3 => hK' _ _ (HKh.out g x' y' W h1 h2 h3)))
  have hb7 : (d == 7) = false := by simpa using h7
  go_upto_if 225 with (fail)
  go_step
  refine wp_normal (fun K' hK' => ?_)
  refine arm8_ok B L Hx Hy n m tot tick r x y w K' HP HTW hr hn0 hn4 hm0 hm4 hH1 hH2 HT (Lib.hid (fun g x' y' W h1 h2 h3 => hK' _ _ (HK.out g (tick + 1) x' y' W h1 h2 h3)))
end Go.Proofs.YtkbbapefgifagaaGreatDoor
