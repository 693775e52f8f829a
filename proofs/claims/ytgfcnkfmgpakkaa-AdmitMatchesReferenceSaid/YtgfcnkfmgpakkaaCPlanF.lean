/-
The drawn region of plan.CheckCut that adds the supply of a slot.
-/
import Derived.Test.YtgfcnkfmgpakkaaGPlanC
import Derived.Test.YtgfcnkfmgpakkaaGBase
import Derived.Deep.RegionWith
namespace Go.Proofs.Ytgfcnkfmgpakkaa
open Go.RowKit
set_option linter.unusedVariables false
set_option linter.unusedSimpArgs false
noncomputable def ccReg11 : Code := ((Try.f34.body.bind (findRegion 11)).getD .skip)
set_option maxHeartbeats 4000000 in
set_option maxRecDepth 100000 in
theorem cc11 (W : World) (br b2 o2 d T c2 : Nat) (room s : Int) (K : Act → World → Prop) (hd : (d : Int) < (T : Int)) (hr : -1000000 ≤ room ∧ room ≤ 1000000) (hs : -1000000 ≤ s ∧ s ≤ 1000000) (lr : br < W.heap.size) (l2 : b2 < W.heap.size)
  (cr : W.cell? ⟨br, 0, none⟩ = some (.int .i64 room)) (fz : W.frozen? ⟨br, 0, none⟩ = false) (cs : W.cell? ⟨b2, o2 + d, none⟩ = some (.int .i64 s))
  (u0 u2 u3 u4 u5 u6 u7 u8 u9 u10 u11 u13 u15 u16 u17 u18 u19 u20 u21 u22 u23 u24 u25 u26 u27 u28 u29 u30 u31 u32 u33 u34 u35 u36 u37 u38 u39 u40 u41 u42 u43 u44 u45 u46 u47 u48 u49 u50 u51 u52 u53 u54 u55 u56 u57 u58 u59 u60 u61 u62 u63 u64 u65 u66 u67 u68 u69 u70 u71 u72 u73 u74 u75 u76 u77 u78 u79 u80 u81 u82 u83 u84 u85 u86 u87 u88 u89 u90 u91 u92 u93 u94 u95 u96 : Value)
  (HK : Hid (∀ (v51 v52 v53 v54 v55 v56 v57 : Value), K ⟨List.toArray (u0 :: (.slice (some ⟨b2, o2, none⟩) T c2) :: u2 :: u3 :: u4 :: u5 :: u6 :: u7 :: u8 :: u9 :: u10 :: u11 :: (.pointer (some ⟨br, 0, none⟩)) :: u13 :: (.int .i64 d) :: u15 :: u16 :: u17 :: u18 :: u19 :: u20 :: u21 :: u22 :: u23 :: u24 :: u25 :: u26 :: u27 :: u28 :: u29 :: u30 :: u31 :: u32 :: u33 :: u34 :: u35 :: u36 :: u37 :: u38 :: u39 :: u40 :: u41 :: u42 :: u43 :: u44 :: u45 :: u46 :: u47 :: u48 :: u49 :: u50 :: v51 :: v52 :: v53 :: v54 :: v55 :: v56 :: v57 :: u58 :: u59 :: u60 :: u61 :: u62 :: u63 :: u64 :: u65 :: u66 :: u67 :: u68 :: u69 :: u70 :: u71 :: u72 :: u73 :: u74 :: u75 :: u76 :: u77 :: u78 :: u79 :: u80 :: u81 :: u82 :: u83 :: u84 :: u85 :: u86 :: u87 :: u88 :: u89 :: u90 :: u91 :: u92 :: u93 :: u94 :: u95 :: u96 :: []), []⟩ ((W.setCell ⟨br, 0, none⟩ (.int .i64 (room + s))).alloc (.cells #[.int .i64 room, .int .i64 s] 3)).drew)) :
  Code.wp Try.prog ccReg11 (Exit.then K fun _ _ _ => False) ⟨List.toArray (u0 :: (.slice (some ⟨b2, o2, none⟩) T c2) :: u2 :: u3 :: u4 :: u5 :: u6 :: u7 :: u8 :: u9 :: u10 :: u11 :: (.pointer (some ⟨br, 0, none⟩)) :: u13 :: (.int .i64 d) :: u15 :: u16 :: u17 :: u18 :: u19 :: u20 :: u21 :: u22 :: u23 :: u24 :: u25 :: u26 :: u27 :: u28 :: u29 :: u30 :: u31 :: u32 :: u33 :: u34 :: u35 :: u36 :: u37 :: u38 :: u39 :: u40 :: u41 :: u42 :: u43 :: u44 :: u45 :: u46 :: u47 :: u48 :: u49 :: u50 :: u51 :: u52 :: u53 :: u54 :: u55 :: u56 :: u57 :: u58 :: u59 :: u60 :: u61 :: u62 :: u63 :: u64 :: u65 :: u66 :: u67 :: u68 :: u69 :: u70 :: u71 :: u72 :: u73 :: u74 :: u75 :: u76 :: u77 :: u78 :: u79 :: u80 :: u81 :: u82 :: u83 :: u84 :: u85 :: u86 :: u87 :: u88 :: u89 :: u90 :: u91 :: u92 :: u93 :: u94 :: u95 :: u96 :: []), []⟩ W := by
  have hs2 := plSum_two room s W.drew hr hs
  have hs3 : Calls Try.prog 53 #[.slice (some ⟨W.heap.size, 0, none⟩) 2 2] (W.alloc (.cells #[.int .i64 room, .int .i64 s] 3)).drew fun e w' => e = .returned (.int .i64 (room + s)) ∧ w' = (W.alloc (.cells #[.int .i64 room, .int .i64 s] 3)).drew := hs2
  have HS := Lib.hid hs3
  clear hs2 hs3
  conv => arg 2; whnf
  go_region_with (refine (HS.out).mono ?_; rintro e w' ⟨rfl, rfl⟩)
  all_goals
    simp only [Exit.then, List.setIfInBounds_toArray, List.set_cons_zero, List.set_cons_succ]
    exact HK.out _ _ _ _ _ _ _
end Go.Proofs.Ytgfcnkfmgpakkaa
