/-
The second region of FlowAnotherEdge.
-/
import Derived.Test.YtcnhkcbkeneobaaFlowT2
import Derived.Test.YtcnhkcbkeneobaaAppE4
namespace Go.Proofs.Ytcnhkcbkeneobaa
open Go.RowKit
set_option linter.unusedVariables false
noncomputable def anoReg6 : Code := ((Try.f9.body.bind (findRegion 6)).getD .skip)
set_option maxHeartbeats 4000000 in
set_option maxRecDepth 100000 in
theorem anoReg6_ok (wc : World) (bg N c : Nat) (A : Option Addr) (es : List GEdge) (s t x y z : Int) (K : Act → World → Prop) (mc : Array Value)
  (hmk : ∀ W : World, (Instr.makeSlice 22 (.int .i64 0) (.int .i64 512)).run Try.prog W = .ok (.slice (some ⟨W.heap.size, 0, none⟩) 0 512) (W.alloc (.cells mc 39))) (hmcs : mc.size = 512 * 3)
  (k1 : wc.cell? ⟨bg, 1, none⟩ = some (.slice A N c)) (l : bg < wc.heap.size) (r : Rd 3 encE wc A es) (HN : Hid (es.length = N)) (hN : N ≤ 509)
  (u0 u7 u8 u9 u10 u11 u12 u13 u14 u15 u16 u17 u18 u19 u20 u21 u22 u23 u24 u25 u26 u27 u28 u29 u30 u31 u32 u33 u34 u35 u36 u37 u38 u39 u40 u41 u42 u43 u44 u45 u46 u47 u48 u49 u50 u51 u52 u53 u54 u55 u56 u57 u58 u59 u60 u61 u62 u63 u64 u65 u66 u67 u68 u69 u70 u71 u72 u73 u74 u75 u76 u77 u78 u79 u80 u81 u82 u83 u84 u85 u86 u87 u88 u89 u90 u91 u92 u93 u94 u95 u96 u97 u98 u99 u100 u101 u102 u103 u104 u105 u106 u107 u108 u109 u110 u111 u112 u113 u114 u115 u116 u117 u118 u119 u120 u121 u122 u123 u124 u125 u126 u127 u128 u129 u130 u131 u132 u133 u134 u135 u136 u137 u138 u139 u140 u141 u142 u143 u144 u145 u146 u147 u148 u149 u150 u151 u152 : Value)
  (HK : Hid (∀ (W' : World) (v16 v81 v82 v83 v84 v85 v86 v87 v88 v89 v90 v91 v92 v93 v94 : Value), Hid (OwnE W' wc.heap.size v16 (es ++ [⟨y, s, x⟩, ⟨t, z, x⟩])) → Below wc.heap.size wc W' → K ⟨List.toArray (u0 :: (.int .i64 s) :: (.int .i64 t) :: (.int .i64 x) :: (.int .i64 y) :: (.int .i64 z) :: (.pointer (some ⟨bg, 0, none⟩)) :: u7 :: u8 :: u9 :: u10 :: u11 :: u12 :: u13 :: u14 :: u15 :: v16 :: u17 :: u18 :: u19 :: u20 :: u21 :: u22 :: u23 :: u24 :: u25 :: u26 :: u27 :: u28 :: u29 :: u30 :: u31 :: u32 :: u33 :: u34 :: u35 :: u36 :: u37 :: u38 :: u39 :: u40 :: u41 :: u42 :: u43 :: u44 :: u45 :: u46 :: u47 :: u48 :: u49 :: u50 :: u51 :: u52 :: u53 :: u54 :: u55 :: u56 :: u57 :: u58 :: u59 :: u60 :: u61 :: u62 :: u63 :: u64 :: u65 :: u66 :: u67 :: u68 :: u69 :: u70 :: u71 :: u72 :: u73 :: u74 :: u75 :: u76 :: u77 :: u78 :: u79 :: u80 :: v81 :: v82 :: v83 :: v84 :: v85 :: v86 :: v87 :: v88 :: v89 :: v90 :: v91 :: v92 :: v93 :: v94 :: u95 :: u96 :: u97 :: u98 :: u99 :: u100 :: u101 :: u102 :: u103 :: u104 :: u105 :: u106 :: u107 :: u108 :: u109 :: u110 :: u111 :: u112 :: u113 :: u114 :: u115 :: u116 :: u117 :: u118 :: u119 :: u120 :: u121 :: u122 :: u123 :: u124 :: u125 :: u126 :: u127 :: u128 :: u129 :: u130 :: u131 :: u132 :: u133 :: u134 :: u135 :: u136 :: u137 :: u138 :: u139 :: u140 :: u141 :: u142 :: u143 :: u144 :: u145 :: u146 :: u147 :: u148 :: u149 :: u150 :: u151 :: u152 :: []), []⟩ W')) :
  Code.wp Try.prog anoReg6 (Exit.then K fun _ _ _ => False) ⟨List.toArray (u0 :: (.int .i64 s) :: (.int .i64 t) :: (.int .i64 x) :: (.int .i64 y) :: (.int .i64 z) :: (.pointer (some ⟨bg, 0, none⟩)) :: u7 :: u8 :: u9 :: u10 :: u11 :: u12 :: u13 :: u14 :: u15 :: u16 :: u17 :: u18 :: u19 :: u20 :: u21 :: u22 :: u23 :: u24 :: u25 :: u26 :: u27 :: u28 :: u29 :: u30 :: u31 :: u32 :: u33 :: u34 :: u35 :: u36 :: u37 :: u38 :: u39 :: u40 :: u41 :: u42 :: u43 :: u44 :: u45 :: u46 :: u47 :: u48 :: u49 :: u50 :: u51 :: u52 :: u53 :: u54 :: u55 :: u56 :: u57 :: u58 :: u59 :: u60 :: u61 :: u62 :: u63 :: u64 :: u65 :: u66 :: u67 :: u68 :: u69 :: u70 :: u71 :: u72 :: u73 :: u74 :: u75 :: u76 :: u77 :: u78 :: u79 :: u80 :: u81 :: u82 :: u83 :: u84 :: u85 :: u86 :: u87 :: u88 :: u89 :: u90 :: u91 :: u92 :: u93 :: u94 :: u95 :: u96 :: u97 :: u98 :: u99 :: u100 :: u101 :: u102 :: u103 :: u104 :: u105 :: u106 :: u107 :: u108 :: u109 :: u110 :: u111 :: u112 :: u113 :: u114 :: u115 :: u116 :: u117 :: u118 :: u119 :: u120 :: u121 :: u122 :: u123 :: u124 :: u125 :: u126 :: u127 :: u128 :: u129 :: u130 :: u131 :: u132 :: u133 :: u134 :: u135 :: u136 :: u137 :: u138 :: u139 :: u140 :: u141 :: u142 :: u143 :: u144 :: u145 :: u146 :: u147 :: u148 :: u149 :: u150 :: u151 :: u152 :: []), []⟩ wc := by
  obtain ⟨wa, hwa⟩ : ∃ wa, wa = ((wc.alloc (.cells #[.int .i64 y, .int .i64 s, .int .i64 x, .int .i64 t, .int .i64 z, .int .i64 x] 39)).alloc (.cells mc 39)).drew := ⟨_, rfl⟩
  have ba : Below wc.heap.size wc wa := by rw [hwa]; exact Below.drew (((Below.refl _ _).alloc (Nat.le_refl _) _).alloc (by simp) _)
  have oa : OwnE wa wc.heap.size (.slice (some ⟨wc.heap.size + 1, 0, none⟩) 0 512) [] := by
    have h := OwnR.made (t := 39) (sz := 3) (enc := encE) (base := wc.heap.size) (wc.alloc (.cells #[.int .i64 y, .int .i64 s, .int .i64 x, .int .i64 t, .int .i64 z, .int .i64 x] 39)) mc 512 (by unfold maxLen; omega) hmcs (by simp)
    rw [World.size_alloc] at h
    rw [hwa]
    exact h
  obtain ⟨pa1, va1, Wa1, pa2, pa3, pa4, va2, Wa2, pa5, pa6, pa7, pa8, pa9⟩ := app_ab (c := c) (L := wc.heap.size) (m := 2) oa (r.keep ba) HN.out (by omega) ba.size (by rw [hwa]; exact (rd_two wc y s x t z x).keep (Below.drew ((Below.refl _ _).alloc (Nat.le_refl _) _))) rfl (by omega) (by simp [Value.ownBlock])
  have ka1 : Wa1.cell? ⟨bg, 1, none⟩ = some (.slice A N c) := ((ba.trans pa8).cell (p := ⟨bg, 1, none⟩) l).trans k1
  have ka2 : Wa2.cell? ⟨bg, 1, none⟩ = some (.slice A N c) := ((ba.trans pa9).cell (p := ⟨bg, 1, none⟩) l).trans k1
  have fa := ba.trans pa9
  rw [hwa] at pa1 pa2 pa3
  obtain ⟨wb, hwb⟩ : ∃ wb, wb = ((wc.alloc (.cells mc 39)).alloc (.cells #[.int .i64 y, .int .i64 s, .int .i64 x, .int .i64 t, .int .i64 z, .int .i64 x] 39)).drew := ⟨_, rfl⟩
  have bb : Below wc.heap.size wc wb := by rw [hwb]; exact Below.drew (((Below.refl _ _).alloc (Nat.le_refl _) _).alloc (by simp) _)
  have om := OwnR.made (t := 39) (sz := 3) (enc := encE) (base := wc.heap.size) wc mc 512 (by unfold maxLen; omega) hmcs (Nat.le_refl _)
  have ob : OwnE wb wc.heap.size (.slice (some ⟨wc.heap.size, 0, none⟩) 0 512) [] := by
    rw [hwb]
    exact om.alloc _
  obtain ⟨pb1, vb1, Wb1, pb2, pb3, pb4, vb2, Wb2, pb5, pb6, pb7, pb8, pb9⟩ := app_ab (c := c) (L := wc.heap.size + 1) (m := 2) ob (r.keep bb) HN.out (by omega) bb.size (by
    have h := rd_two (wc.alloc (.cells mc 39)) y s x t z x
    rw [World.size_alloc] at h
    rw [hwb]
    exact h) rfl (by omega) (by simp [Value.ownBlock])
  have kb1 : Wb1.cell? ⟨bg, 1, none⟩ = some (.slice A N c) := ((bb.trans pb8).cell (p := ⟨bg, 1, none⟩) l).trans k1
  have kb2 : Wb2.cell? ⟨bg, 1, none⟩ = some (.slice A N c) := ((bb.trans pb9).cell (p := ⟨bg, 1, none⟩) l).trans k1
  have fb := bb.trans pb9
  rw [hwb] at pb1 pb2 pb3
  obtain ⟨wd', hwd⟩ : ∃ wd', wd' = (wc.alloc (.cells mc 39)).drew := ⟨_, rfl⟩
  have bc : Below wc.heap.size wc wd' := by rw [hwd]; exact Below.drew ((Below.refl _ _).alloc (Nat.le_refl _) _)
  have oc : OwnE wd' wc.heap.size (.slice (some ⟨wc.heap.size, 0, none⟩) 0 512) [] := by
    rw [hwd]
    exact om
  obtain ⟨pc1, vc1, Wc1, pc2, pc3, pc4, vc2, Wc2, pc5, pc6, pc7, pc8, pc9⟩ := app_c (c := c) (m := 2) (ys := [⟨y, s, x⟩, ⟨t, z, x⟩]) (lit := #[.int .i64 y, .int .i64 s, .int .i64 x, .int .i64 t, .int .i64 z, .int .i64 x]) oc (r.keep bc) HN.out (by omega) bc.size (by simp [encE]) rfl (by omega)
  have kc1 : Wc1.cell? ⟨bg, 1, none⟩ = some (.slice A N c) := ((bc.trans pc8).cell (p := ⟨bg, 1, none⟩) l).trans k1
  have kc3 : (Wc1.alloc (.cells #[.int .i64 y, .int .i64 s, .int .i64 x, .int .i64 t, .int .i64 z, .int .i64 x] 39)).cell? ⟨bg, 1, none⟩ = some (.slice A N c) := ((Below.alloc (bc.trans pc8) (bc.trans pc8).size (.cells #[.int .i64 y, .int .i64 s, .int .i64 x, .int .i64 t, .int .i64 z, .int .i64 x] 39)).cell (p := ⟨bg, 1, none⟩) l).trans k1
  have kc2 : Wc2.cell? ⟨bg, 1, none⟩ = some (.slice A N c) := ((bc.trans pc9).cell (p := ⟨bg, 1, none⟩) l).trans k1
  have fc := bc.trans pc9
  rw [hwd] at pc1 pc2 pc3
  clear hwa hwb hwd ba bb bc oa ob oc om pa8 pa9 pb8 pb9 pc8 pc9
  conv => arg 2; whnf
  go_region_held3 (fun w' => w'.cell? ⟨bg, 1, none⟩ = some (.slice A N c)) (first | exact k1 | exact ka1 | exact ka2 | exact kb1 | exact kb2 | exact kc1 | exact kc2 | exact kc3 | (refine Eq.trans (Below.cell (B := wc.heap.size) (w := wc) (p := ⟨bg, 1, none⟩) ?_ l) k1; repeat (first | exact Below.refl _ _ | refine Below.drew ?_ | refine Below.alloc ?_ (by first | (simp; done) | (simp; omega)) _ | refine Below.setCell ?_ (by first | (simp; done) | (simp; omega)) _))) (fail)
  all_goals
    first
      | exact HK.out _ _ _ _ _ _ _ _ _ _ _ _ _ _ _ _ pa7 fa
      | exact HK.out _ _ _ _ _ _ _ _ _ _ _ _ _ _ _ _ pb7 fb
      | exact HK.out _ _ _ _ _ _ _ _ _ _ _ _ _ _ _ _ pc7 fc
end Go.Proofs.Ytcnhkcbkeneobaa
