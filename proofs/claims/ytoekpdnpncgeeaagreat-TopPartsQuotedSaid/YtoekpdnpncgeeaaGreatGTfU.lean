/-
Several texts in one: TfU, TfV, TqHd.
-/
import Derived.Test.YtoekpdnpncgeeaaGreatGTfR
import Derived.Test.YtoekpdnpncgeeaaGreatGDy
import Derived.Test.YtoekpdnpncgeeaaGreatGLApp
import Derived.Test.YtoekpdnpncgeeaaGreatCPsU
import Derived.Test.YtoekpdnpncgeeaaGreatGBlF
import Derived.Test.YtoekpdnpncgeeaaGreatGLp
import Derived.Test.YtoekpdnpncgeeaaGreatGQuD
/-
tariff.Build: the articles of a tariff.
-/
namespace Go.Proofs.YtoekpdnpncgeeaaGreat
open Go.RowKit Go.Maps
set_option linter.unusedVariables false
set_option linter.unusedSimpArgs false
theorem encArt_len (x : Art) : (encArt x).length = 7 := rfl
theorem encArt_one (x : Art) (u : Value) (h : u ∈ encArt x) : u.oneCell' = true := by
  simp only [encArt, List.mem_cons, List.not_mem_nil, or_false] at h
  rcases h with rfl | rfl | rfl | rfl | rfl | rfl | rfl <;> rfl
/-- The article of the tariff's source. -/
def artV : Art := ⟨3, 7, 0, 1440, 100, 1, 10⟩
theorem infoArt : (Tryz.prog.info? 49).map (fun i => (i.zero, i.size, i.bytes)) = some (some (.agg #[.int .i64 0, .int .i64 0, .int .i64 0, .int .i64 0, .int .i64 0, .int .i64 0, .int .i64 0]), 7, 56) := by kernel_rfl
theorem app_art {w : World} {base : Nat} {v : Value} {xs : List Art} (a : Art) (h : OwnR 49 7 encArt w base v xs) (hb : base ≤ w.heap.size) (hl : xs.length ≤ 100000) :
    Appends Tryz.prog (w.alloc (.cells #[.int .i64 a.kind, .int .i64 a.days, .int .i64 a.frm, .int .i64 a.till, .int .i64 a.price, .int .i64 a.unit, .int .i64 a.free] 49)) 22 22 v (.slice (some ⟨w.heap.size, 0, none⟩) 1 1) ∧
    ∃ v' w1, appV Tryz.prog (w.alloc (.cells #[.int .i64 a.kind, .int .i64 a.days, .int .i64 a.frm, .int .i64 a.till, .int .i64 a.price, .int .i64 a.unit, .int .i64 a.free] 49)) 22 22 v (.slice (some ⟨w.heap.size, 0, none⟩) 1 1) = v' ∧
      appW Tryz.prog (w.alloc (.cells #[.int .i64 a.kind, .int .i64 a.days, .int .i64 a.frm, .int .i64 a.till, .int .i64 a.price, .int .i64 a.unit, .int .i64 a.free] 49)) 22 22 v (.slice (some ⟨w.heap.size, 0, none⟩) 1 1) = w1 ∧ Hid (OwnR 49 7 encArt w1 base v' (xs ++ [a])) ∧ Hid (Aside base v v' w w1) :=
  app_lit infoArt Tryz.underlying22 rfl (by omega) encArt_len encArt_one h hb rfl rfl (by omega) (by omega)
theorem results_tc {P : Program} {fn : Func} {t a : Tmp} {ty : TypeId} {tmps : Array Value} {b : Nat} {u : Value} {w : World} (h : fn.results = #[.tmp t, .cell a ty]) (ha : tmps.getD a undef = .pointer (some ⟨b, 0, none⟩)) (hl : (loadVar ty ⟨b, 0, none⟩).run P w = .ok u w) :
    (results fn tmps).run P w = .ok (.tuple #[tmps.getD t undef, u]) w := by
  have ha' : tmps[a]?.getD undef = .pointer (some ⟨b, 0, none⟩) := by simpa using ha
  simp [results, h, ha', hl, asAddr]
theorem load_diag {w : World} {b : Nat} {z0 z1 : Int} (h0 : w.cell? ⟨b, 0, none⟩ = some (.int .i64 z0)) (h1 : w.cell? ⟨b, 1, none⟩ = some (.int .i64 z1)) : (loadVar 84 ⟨b, 0, none⟩).run Tryz.prog w = .ok (.agg #[.int .i64 z0, .int .i64 z1]) w := by go_simp
/-- A node that is read. -/
structure NdAt (w : World) (b o : Nat) (k : Int) (nm : ByteArray) (n p : Int) (v : Value) : Prop where
  n0 : w.cell? ⟨b, o, none⟩ = some (.int .i64 k)
  n1 : w.cell? ⟨b, o + 1, none⟩ = some (.string nm)
  n2 : w.cell? ⟨b, o + 2, none⟩ = some (.int .i64 n)
  n3 : w.cell? ⟨b, o + 3, none⟩ = some (.int .i64 p)
  n4 : w.cell? ⟨b, o + 4, none⟩ = some v
theorem NdAt.mod {M : Nat → Prop} {w w' : World} {b o : Nat} {k n p : Int} {nm : ByteArray} {v : Value} (h : NdAt w b o k nm n p v) (hm : Mod M w w') (hM : ¬ M b) : NdAt w' b o k nm n p v := by
  have hb : b < w.heap.size := World.block_lt_of_cell? _ _ h.n0
  have g : ∀ i v, w.cell? ⟨b, i, none⟩ = some v → w'.cell? ⟨b, i, none⟩ = some v := fun i v hv => (hm.cell (p := ⟨b, i, none⟩) hb hM).trans hv
  exact ⟨g _ _ h.n0, g _ _ h.n1, g _ _ h.n2, g _ _ h.n3, g _ _ h.n4⟩
theorem NdAt.keep {w w' : World} {b o : Nat} {k n p : Int} {nm : ByteArray} {v : Value} (h : NdAt w b o k nm n p v) (hb : Below w.heap.size w w') : NdAt w' b o k nm n p v :=
  h.mod (modB (M := fun _ => False) hb) (fun x => x)
/-- The articles read. -/
def ArsPost (w : World) (e : Ending) (w' : World) : Prop := ∃ A c, e = .returned (.tuple #[.slice A 1 c, .agg #[.int .i64 0, .int .i64 0]]) ∧ Rd 7 encArt w' A [artV] ∧ (∀ a, A = some a → w.heap.size ≤ a.block) ∧ Below w.heap.size w w'
set_option maxRecDepth 100000 in
set_option maxHeartbeats 8000000 in
theorem tfArticles_ok (bK oK cK b o0 o1 o2 o3 o4 c : Nat) (nm : ByteArray) (p1 p0 : Int) (w : World) (HK : Hid (KvM w b o0 o1 o2 o3 o4)) (HO : Hid (o1 = o0 + 5 ∧ o2 = o1 + 5 ∧ o3 = o2 + 5 ∧ o4 = o3 + 5)) (hc : 5 ≤ c) (HD : Hid (NdAt w bK oK 4 ⟨#[116, 105, 109, 101]⟩ 0 p0 (.slice (some ⟨b, o0, none⟩) 5 c))) :
    Calls Tryz.prog 35 #[.agg #[.int .i64 2, .string nm, .int .i64 7, .int .i64 p1, .slice (some ⟨bK, oK, none⟩) 1 cK]] w (ArsPost w) := by
  obtain ⟨X, hX⟩ : ∃ X, X = w.heap.size := ⟨_, rfl⟩
  obtain ⟨W0, hW0⟩ : ∃ W, W = (w.alloc (.cells #[.int .i64 2, .string nm, .int .i64 7, .int .i64 p1, .slice (some ⟨bK, oK, none⟩) 1 cK] 56)).alloc (.cells #[.int .i64 0, .int .i64 0] 84) := ⟨_, rfl⟩
  have hb0 : Below w.heap.size w W0 := by rw [hW0]; exact ((Below.refl _ _).alloc (Nat.le_refl _) _).alloc (by simp) _
  have HR0 : Hid (Own W0 (X + 1) 84 2 (fun _ => .int .i64 0)) := Lib.hid (by rw [hW0, hX]; exact Own.newAt _ 84 _ _ (by simp) (n := 2) rfl (fun i hi => by match i, hi with | 0, _ => rfl | 1, _ => rfl))
  have x4 : W0.cell? ⟨X, 4, none⟩ = some (.slice (some ⟨bK, oK, none⟩) 1 cK) := by rw [hW0, hX]; go_simp
  have hXl : X < W0.heap.size := by rw [hW0, hX]; simp; omega
  have HBK : Hid (b < w.heap.size ∧ bK < w.heap.size) := Lib.hid ⟨World.block_lt_of_cell? _ _ HK.out.a0, World.block_lt_of_cell? _ _ HD.out.n0⟩
  have HB0 := Lib.hid hb0
  have HK0 := Lib.hid (HK.out.mod (modB (M := fun _ => False) hb0) (fun h => h))
  have HD0 := Lib.hid (HD.out.keep hb0)
  have HX : Hid (w.heap.size = X) := Lib.hid hX.symm
  have HXE := Lib.hid hX
  have HW0 := Lib.hid hW0
  have HO0 : Hid (OwnR 49 7 encArt W0 (X + 2) (.slice none 0 0) []) := Lib.hid (OwnR.nil _ _)
  clear hb0 hX hW0
  go_enter Tryz.func35, Tryz.ntmps35
  go_upto_region 1 with (fail)
  try simp only [World.size_alloc]
  rw [← HW0.out, ← HXE.out]
  clear HW0
  go_wp2_with fail
  clear x4 hXl
  go_loopg [4, 5, 13] 1 (fun g1 v4 v5 v13 wr => ∃ i A n C, v4 = .slice A n C ∧ v5 = .bool false ∧ v13 = .int .i64 (i : Nat) ∧ i ≤ 1 ∧ 1 - i ≤ g1 ∧ (i = 0 → A = none ∧ n = 0 ∧ C = 0) ∧ Hid (OwnR 49 7 encArt wr (X + 2) (.slice A n C) ([artV].take i)) ∧ Hid (KvM wr b o0 o1 o2 o3 o4) ∧ Hid (NdAt wr bK oK 4 ⟨#[116, 105, 109, 101]⟩ 0 p0 (.slice (some ⟨b, o0, none⟩) 5 c)) ∧ Hid (Own wr (X + 1) 84 2 (fun _ => .int .i64 0)) ∧ Hid (Below w.heap.size w wr))
  case atStart => exact ⟨0, none, 0, 0, rfl, rfl, by go_num, by omega, by omega, fun _ => ⟨rfl, rfl, rfl⟩, HO0, HK0, HD0, HR0, HB0⟩
  case round =>
    clear HO0 HK0 HD0 HR0 HB0
    obtain ⟨i, A, n, C, rfl, rfl, rfl, hi, hg1, hA0, HOW, HK, HD, HR, HB⟩ := hrel
    have h01 : i = 0 ∨ i = 1 := by omega
    rcases h01 with rfl | rfl
    · obtain ⟨rfl, rfl, rfl⟩ := hA0 rfl
      have k0 := HD.out.n0
      have k1 := HD.out.n1
      have k2 := HD.out.n2
      have k3 := HD.out.n3
      have k4 := HD.out.n4
      have hKl : bK < wr.heap.size := World.block_lt_of_cell? _ _ k0
      go_upto_region 6 with (fail)
      obtain ⟨N, hN⟩ : ∃ N, N = wr.heap.size := ⟨_, rfl⟩
      obtain ⟨W1, hW1⟩ : ∃ W, W = wr.alloc (.cells #[.int .i64 4, .string ⟨#[116, 105, 109, 101]⟩, .int .i64 0, .int .i64 p0, .slice (some ⟨b, o0, none⟩) 5 c] 56) := ⟨_, rfl⟩
      have hb1 : Below wr.heap.size wr W1 := by rw [hW1]; exact (Below.refl _ _).alloc (Nat.le_refl _) _
      have HN : Hid (NdAt W1 N 0 4 ⟨#[116, 105, 109, 101]⟩ 0 p0 (.slice (some ⟨b, o0, none⟩) 5 c)) := Lib.hid (by rw [hW1, hN]; exact ⟨by go_simp, by go_simp, by go_simp, by go_simp, by go_simp⟩)
      rw [← hW1, ← hN]
      have HK1 := Lib.hid (HK.out.mod (modB (M := fun _ => False) hb1) (fun h => h))
      have HD1 := Lib.hid (HD.out.keep hb1)
      have HR1 := Lib.hid (HR.out.keep hb1 HR.out.lt)
      have HO1 := Lib.hid (HOW.out.mod (modB (M := fun _ => False) hb1) (fun _ _ h => h))
      have HB1 : Hid (Below w.heap.size w W1) := Lib.hid (below_then HB.out hb1)
      clear hW1 hN hb1 k0 k1 k2 k3 k4 hKl HK HD HR HB
      have n0 : W1.cell? ⟨N, 0, none⟩ = some (.int .i64 4) := HN.out.n0
      have n1 : W1.cell? ⟨N, 1, none⟩ = some (.string ⟨#[116, 105, 109, 101]⟩) := HN.out.n1
      have n2 : W1.cell? ⟨N, 2, none⟩ = some (.int .i64 0) := HN.out.n2
      have n3 : W1.cell? ⟨N, 3, none⟩ = some (.int .i64 p0) := HN.out.n3
      have n4 : W1.cell? ⟨N, 4, none⟩ = some (.slice (some ⟨b, o0, none⟩) 5 c) := HN.out.n4
      have hNl : N < W1.heap.size := World.block_lt_of_cell? _ _ n0
      go_wp2_with fail
      refine (tfRead_ok b o0 o1 o2 o3 o4 c 0 p0 W1 HK1 HO hc).mono ?_
      rintro e W2 ⟨rfl, hb2⟩
      have hb2 := hb2.out
      have HK2 := Lib.hid (HK1.out.mod (modB (M := fun _ => False) hb2) (fun h => h))
      have HD2 := Lib.hid (HD1.out.keep hb2)
      have HR2 := Lib.hid (HR1.out.keep hb2 HR1.out.lt)
      have HO2 := Lib.hid (HO1.out.mod (modB (M := fun _ => False) hb2) (fun _ _ h => h))
      have HB2 : Hid (Below w.heap.size w W2) := Lib.hid (below_then HB1.out hb2)
      clear hb2 n0 n1 n2 n3 n4 hNl HK1 HD1 HR1 HB1 HO1 HN
      go_upto_region 11 with (fail)
      obtain ⟨Y, hY⟩ : ∃ Y, Y = W2.heap.size := ⟨_, rfl⟩
      obtain ⟨W3, hW3⟩ : ∃ W, W = W2.alloc (.cells #[.int .i64 3, .int .i64 7, .int .i64 0, .int .i64 1440, .int .i64 100, .int .i64 1, .int .i64 10] 49) := ⟨_, rfl⟩
      have hb3 : Below W2.heap.size W2 W3 := by rw [hW3]; exact (Below.refl _ _).alloc (Nat.le_refl _) _
      have HA3 : Hid (ArtM W2 W3 Y artV) := Lib.hid (by rw [hW3, hY]; exact ArtM.box (a := artV) (Below.refl _ _))
      rw [← hW3, ← hY]
      have HK3 := Lib.hid (HK2.out.mod (modB (M := fun _ => False) hb3) (fun h => h))
      have HD3 := Lib.hid (HD2.out.keep hb3)
      have HR3 := Lib.hid (HR2.out.keep hb3 HR2.out.lt)
      have HO3 := Lib.hid (HO2.out.mod (modB (M := fun _ => False) hb3) (fun _ _ h => h))
      have HB3 : Hid (Below w.heap.size w W3) := Lib.hid (below_then HB2.out hb3)
      clear hW3 hY hb3 HK2 HD2 HR2 HB2 HO2
      have y0 : W3.cell? ⟨Y, 0, none⟩ = some (.int .i64 3) := HA3.out.k0
      have y1 : W3.cell? ⟨Y, 1, none⟩ = some (.int .i64 7) := HA3.out.k1
      have y2 : W3.cell? ⟨Y, 2, none⟩ = some (.int .i64 0) := HA3.out.k2
      have y3 : W3.cell? ⟨Y, 3, none⟩ = some (.int .i64 1440) := HA3.out.k3
      have y4 : W3.cell? ⟨Y, 4, none⟩ = some (.int .i64 100) := HA3.out.k4
      have y5 : W3.cell? ⟨Y, 5, none⟩ = some (.int .i64 1) := HA3.out.k5
      have y6 : W3.cell? ⟨Y, 6, none⟩ = some (.int .i64 10) := HA3.out.k6
      have hYl : Y < W3.heap.size := World.block_lt_of_cell? _ _ y0
      go_wp2_with fail
      refine (tfArt_any artV W3).mono ?_
      rintro e W4 ⟨rfl, hb4⟩
      rw [show artB artV = true by kernel_rfl]
      have HK4 := Lib.hid (HK3.out.mod (modB (M := fun _ => False) hb4) (fun h => h))
      have HD4 := Lib.hid (HD3.out.keep hb4)
      have HR4 := Lib.hid (HR3.out.keep hb4 HR3.out.lt)
      have HO4 := Lib.hid (HO3.out.mod (modB (M := fun _ => False) hb4) (fun _ _ h => h))
      have HB4 : Hid (Below w.heap.size w W4) := Lib.hid (below_then HB3.out hb4)
      have HA4 := Lib.hid (HA3.out.keep hb4)
      clear hb4 y0 y1 y2 y3 y4 y5 y6 hYl HK3 HD3 HR3 HB3 HO3 HA3
      have y0 : W4.cell? ⟨Y, 0, none⟩ = some (.int .i64 3) := HA4.out.k0
      have y1 : W4.cell? ⟨Y, 1, none⟩ = some (.int .i64 7) := HA4.out.k1
      have y2 : W4.cell? ⟨Y, 2, none⟩ = some (.int .i64 0) := HA4.out.k2
      have y3 : W4.cell? ⟨Y, 3, none⟩ = some (.int .i64 1440) := HA4.out.k3
      have y4 : W4.cell? ⟨Y, 4, none⟩ = some (.int .i64 100) := HA4.out.k4
      have y5 : W4.cell? ⟨Y, 5, none⟩ = some (.int .i64 1) := HA4.out.k5
      have y6 : W4.cell? ⟨Y, 6, none⟩ = some (.int .i64 10) := HA4.out.k6
      have hYl : Y < W4.heap.size := World.block_lt_of_cell? _ _ y0
      obtain ⟨ap, v', W5, av, aw, HO5, HA5⟩ := app_art artV HO4.out (by have := HR4.out.lt; omega) (by decide)
      dsimp only [artV] at ap av aw
      obtain ⟨va, vc, hv'⟩ := HO5.out.shape
      rw [show ([artV].take 0 ++ [artV]).length = 1 from rfl] at hv'
      subst hv'
      have HB5 : Hid (Below (X + 2) W4 W5) := Lib.hid HA5.out.bel
      have HK5 := Lib.hid (HK4.out.mod (Mod.of_below HB5.out) (by have := HBK.out; have := HX.out; omega))
      have HD5 := Lib.hid (HD4.out.mod (Mod.of_below HB5.out) (by have := HBK.out; have := HX.out; omega))
      have HR5 := Lib.hid (HR4.out.keep HB5.out (by omega))
      have HBW : Hid (Below w.heap.size w W5) := Lib.hid (HB4.out.trans (HB5.out.mono (by have := HX.out; omega)))
      clear HK4 HD4 HR4 HB4 HA4 HA5
      go_wp2_with fail
      go_roundg 0
      case measure => omega
      case rel => exact ⟨1, va, 1, vc, rfl, rfl, by go_num, by omega, by omega, (fun h => by omega), Lib.hid HO5.out, HK5, HD5, HR5, HBW⟩
    · have hn : n = 1 := by
        obtain ⟨va, vc, hv⟩ := HOW.out.shape
        injection hv
      subst hn
      clear hA0
      have g0 := HR.out.frozen 0
      have g1 := HR.out.frozen 1
      have r0 : wr.cell? ⟨X + 1, 0, none⟩ = some (.int .i64 0) := HR.out.cell (i := 0) (by omega)
      have r1 : wr.cell? ⟨X + 1, 1, none⟩ = some (.int .i64 0) := HR.out.cell (i := 1) (by omega)
      have hRl : X + 1 < wr.heap.size := HR.out.lt
      go_wp2_with fail
      refine bodyPost_ret (results_tc (t := 2) (a := 3) (ty := 84) (b := X + 1) (by kernel_rfl) rfl (load_diag (w := (wr.setCell ⟨X + 1, 0, none⟩ (.int .i64 0)).setCell ⟨X + 1, 1, none⟩ (.int .i64 0)) (z0 := 0) (z1 := 0) (by go_simp) (by go_simp))) rfl ?_
      have hm : Mod (fun j => j = X + 1) wr ((wr.setCell ⟨X + 1, 0, none⟩ (.int .i64 0)).setCell ⟨X + 1, 1, none⟩ (.int .i64 0)) := ((show Mod (fun j => j = X + 1) wr wr from Mod.refl _ wr).setCell (p := ⟨X + 1, 0, none⟩) (.inl rfl) _).setCell (p := ⟨X + 1, 1, none⟩) (.inl rfl) _
      have HO9 := HOW.out.mod hm (fun j hj e => by have := (World.ownsRow.lt HOW.out j hj).1; omega)
      obtain ⟨A', c', e, hr⟩ := HO9.rd encArt_len
      injection e with e1 e2 e3
      refine ⟨A, C, rfl, by rw [e1]; exact hr, fun a ha => ?_, ((show Mod (fun q => q = X + 1) w wr from modB HB.out).trans hm).below (Nat.le_refl _) (fun j h1 h2 => by have := HX.out; omega)⟩
      have := (World.ownsRow.lt HO9 a.block (by rw [ha]; rfl)).1
      have := HX.out
      omega
end Go.Proofs.YtoekpdnpncgeeaaGreat
/-
tariff.Build of the tariff's source.
-/
namespace Go.Proofs.YtoekpdnpncgeeaaGreat
open Go.RowKit Go.Maps
set_option linter.unusedVariables false
set_option linter.unusedSimpArgs false
theorem nd_kid {X : Type} {ok : World → Nat → Nat → NH → X → Prop} {w : World} {lo hi n c : Nat} {a : Option Addr} {hs : List NH} {xs : List X} (h : GrT ok w lo hi (.slice a n c) hs xs) {k : Nat} (hk : k < n) : ∃ b off x y lo' hi', a = some ⟨b, off, none⟩ ∧ xs[k]? = some y ∧ NdAt w b (off + k * 5) x.kind x.name x.n x.pos (.slice x.a x.len x.c) ∧ ok w lo' hi' x y ∧ hi' ≤ hi ∧ n ≤ c := by
  obtain ⟨hl, hr⟩ := h.rd
  obtain ⟨b, off, x, hA, hb, hx, d0, d1, d2, d3, d4⟩ := node_at hr (k := k) (by omega)
  have hy : ∃ y, xs[k]? = some y := ⟨_, List.getElem?_eq_getElem (by rw [← h.len]; omega)⟩
  obtain ⟨y, hy⟩ := hy
  obtain ⟨lo', hi', h1, h2, h3, h4⟩ := h.mem k x y hx hy
  refine ⟨b, off, x, y, lo', hi', hA, hy, ⟨d0, d1, d2, d3, d4⟩, h4, h3, ?_⟩
  rcases h.own.2 with z | ⟨g, cap, cur, hv, _, _, hn, _⟩
  · rw [hA] at z; cases z.1
  · injection hv with e1 e2 e3
    omega
theorem grt_len {X : Type} {ok : World → Nat → Nat → NH → X → Prop} {w : World} {lo hi n c : Nat} {a : Option Addr} {hs : List NH} {xs : List X} (h : GrT ok w lo hi (.slice a n c) hs xs) : n = xs.length := by
  obtain ⟨hl, hr⟩ := h.rd
  rw [← hl, h.len]
theorem tree_mem {w : World} {lo hi : Nat} {h : NH} (hok : okNd (okNd (okNd okLf)) w lo hi h rootT) : ∃ bR oR cR bK oK cK b o0 c, h = ⟨1, ⟨#[]⟩, 0, 0, some ⟨bR, oR, none⟩, 1, cR⟩ ∧ NdAt w bR oR 2 ⟨#[116]⟩ 7 0 (.slice (some ⟨bK, oK, none⟩) 1 cK) ∧ NdAt w bK oK 4 ⟨#[116, 105, 109, 101]⟩ 0 11 (.slice (some ⟨b, o0, none⟩) 5 c) ∧ KvM w b o0 (o0 + 5) (o0 + 5 + 5) (o0 + 5 + 5 + 5) (o0 + 5 + 5 + 5 + 5) ∧ 5 ≤ c := by
  obtain ⟨hk, hn, hnn, hp, a, n, c⟩ := h
  obtain ⟨e1, e2, e3, e4, hs, g⟩ := hok
  dsimp only at e1 e2 e3 e4 g
  have hl : n = 1 := grt_len g
  subst hl
  obtain ⟨bR, oR, x, y, lo1, hi1, hA, hy, hx, hxo, _, _⟩ := nd_kid g (k := 0) (by omega)
  have hy : y = itemT := by simpa [rootT, treeT] using hy.symm
  subst hy
  obtain ⟨xk, xn, xnn, xp, xa, xl, xc⟩ := x
  obtain ⟨f1, f2, f3, f4, hs1, g1⟩ := hxo
  dsimp only at f1 f2 f3 f4 g1 hx
  have hl : xl = 1 := grt_len g1
  subst hl
  obtain ⟨bK, oK, z, y2, lo2, hi2, hA2, hy2, hz, hzo, _, _⟩ := nd_kid g1 (k := 0) (by omega)
  have hy2 : y2 = artT := by simpa [itemT] using hy2.symm
  subst hy2
  obtain ⟨zk, zn, znn, zp, za, zl, zc⟩ := z
  obtain ⟨q1, q2, q3, q4, hs2, g2⟩ := hzo
  dsimp only at q1 q2 q3 q4 g2 hz
  have hl : zl = 5 := grt_len g2
  subst hl
  obtain ⟨b, o0, v0, u0, _, _, hA3, hu0, hv0, hvo0, _, hcc⟩ := nd_kid g2 (k := 0) (by omega)
  obtain ⟨b1, o1, v1, u1, _, _, hB1, hu1, hv1, hvo1, _, _⟩ := nd_kid g2 (k := 1) (by omega)
  obtain ⟨b2, o2, v2, u2, _, _, hB2, hu2, hv2, hvo2, _, _⟩ := nd_kid g2 (k := 2) (by omega)
  obtain ⟨b3, o3, v3, u3, _, _, hB3, hu3, hv3, hvo3, _, _⟩ := nd_kid g2 (k := 3) (by omega)
  obtain ⟨b4, o4, v4, u4, _, _, hB4, hu4, hv4, hvo4, _, _⟩ := nd_kid g2 (k := 4) (by omega)
  rw [hA3] at hB1 hB2 hB3 hB4
  injection hB1 with hB1; injection hB1 with i1 i2; subst i1 i2
  injection hB2 with hB2; injection hB2 with i1 i2; subst i1 i2
  injection hB3 with hB3; injection hB3 with i1 i2; subst i1 i2
  injection hB4 with hB4; injection hB4 with i1 i2; subst i1 i2
  subst hA hA2 hA3
  injection hu0 with hu0; subst hu0
  injection hu1 with hu1; subst hu1
  injection hu2 with hu2; subst hu2
  injection hu3 with hu3; subst hu3
  injection hu4 with hu4; subst hu4
  obtain ⟨a1, a2, a3, a4, _⟩ := hvo0
  obtain ⟨b1', b2', b3', b4', _⟩ := hvo1
  obtain ⟨c1, c2, c3, c4, _⟩ := hvo2
  obtain ⟨d1, d2, d3, d4, _⟩ := hvo3
  obtain ⟨k1, k2, k3, k4, _⟩ := hvo4
  refine ⟨bR, oR, c, bK, oK, xc, b, o0, zc, ?_, ?_, ?_, ?_, hcc⟩
  · rw [e1, e2, e3, e4]; rfl
  · have := hx
    rw [f1, f2, f3, f4] at this
    exact this
  · have := hz
    rw [q1, q2, q3, q4] at this
    exact this
  · have h0 := hv0; have h1 := hv1; have h2 := hv2; have h3 := hv3; have h4 := hv4
    rw [a1, a2, a3, a4] at h0
    rw [b1', b2', b3', b4'] at h1
    rw [c1, c2, c3, c4] at h2
    rw [d1, d2, d3, d4] at h3
    rw [k1, k2, k3, k4] at h4
    exact ⟨h0.n0, h0.n2, h1.n0, h1.n1, h2.n0, h2.n2, h3.n0, h3.n1, h4.n0, h4.n2⟩
/-- A tariff's row. -/
structure TrR where
  nm : ByteArray
  a : Option Addr
  n : Nat
  c : Nat
def encTr (x : TrR) : List Value := [.string x.nm, .slice x.a x.n x.c]
theorem encTr_len (x : TrR) : (encTr x).length = 2 := rfl
theorem encTr_one (x : TrR) (u : Value) (h : u ∈ encTr x) : u.oneCell' = true := by
  simp only [encTr, List.mem_cons, List.not_mem_nil, or_false] at h
  rcases h with rfl | rfl <;> rfl
theorem infoTr : (Tryz.prog.info? 24).map (fun i => (i.zero, i.size, i.bytes)) = some (some (.agg #[.string ⟨#[]⟩, .slice none 0 0]), 2, 40) := by kernel_rfl
theorem app_tr {w : World} {base : Nat} {v : Value} {xs : List TrR} (a : TrR) (h : OwnR 24 2 encTr w base v xs) (hb : base ≤ w.heap.size) (hl : xs.length ≤ 100000) :
    Appends Tryz.prog (w.alloc (.cells #[.string a.nm, .slice a.a a.n a.c] 24)) 60 60 v (.slice (some ⟨w.heap.size, 0, none⟩) 1 1) ∧
    ∃ v' w1, appV Tryz.prog (w.alloc (.cells #[.string a.nm, .slice a.a a.n a.c] 24)) 60 60 v (.slice (some ⟨w.heap.size, 0, none⟩) 1 1) = v' ∧
      appW Tryz.prog (w.alloc (.cells #[.string a.nm, .slice a.a a.n a.c] 24)) 60 60 v (.slice (some ⟨w.heap.size, 0, none⟩) 1 1) = w1 ∧ Hid (OwnR 24 2 encTr w1 base v' (xs ++ [a])) ∧ Hid (Aside base v v' w w1) :=
  app_lit infoTr Tryz.underlying60 rfl (by omega) encTr_len encTr_one h hb rfl rfl (by omega) (by omega)
theorem own_base {α : Type} {t : TypeId} {sz : Nat} {enc : α → List Value} {w : World} {b b' : Nat} {v : Value} {xs : List α} (h : OwnR t sz enc w b v xs) (hb : b' ≤ b) : OwnR t sz enc w b' v xs := by
  refine ⟨h.1, ?_⟩
  rcases h.2 with x | ⟨g', cap, cur, hv, hbb, rest⟩
  · exact .inl x
  · exact .inr ⟨g', cap, cur, hv, Nat.le_trans hb hbb, rest⟩
/-- What Build returns for the tariff's source. -/
def BdPost (w : World) (e : Ending) (w' : World) : Prop := ∃ b off c A cA, e = .returned (.tuple #[.slice (some ⟨b, off, none⟩) 1 c, .slice none 0 0]) ∧ b < w'.heap.size ∧ w'.cell? ⟨b, off, none⟩ = some (.string ⟨#[116]⟩) ∧ w'.cell? ⟨b, off + 1, none⟩ = some (.slice A 1 cA) ∧ RdTrf w' ⟨#[116]⟩ A 1 [artV] ∧ Below w.heap.size w w'
set_option maxRecDepth 100000 in
set_option maxHeartbeats 8000000 in
theorem tfBuild_ok (h : NH) (lo hi : Nat) (w : World) (hok : okNd (okNd (okNd okLf)) w lo hi h rootT) (hhi : hi ≤ w.heap.size) : Calls Tryz.prog 16 #[nhV h] w (BdPost w) := by
  obtain ⟨bR, oR, cR, bK, oK, cK, b, o0, c, hh, hI, hA, hK, hc⟩ := tree_mem hok
  have HOK : Hid (okNd (okNd (okNd okLf)) w lo hi h rootT ∧ hi ≤ w.heap.size) := Lib.hid ⟨hok, hhi⟩
  have HV : Hid (∀ W, Below w.heap.size w W → Calls Tryz.prog 34 #[nhV h] W fun e w' => e = .returned (.bool true) ∧ Below W.heap.size W w') := Lib.hid (fun W hb => paValid_ok h rootT lo hi W ((okNd_firm (okNd_firm (okNd_firm okLf_firm))).calm HOK.out.1 (Calm.of (show Mod (fun _ => False) w W from modB hb) (fun _ _ _ h => h))) (Nat.le_trans HOK.out.2 hb.size) vrT_ok)
  clear hok hhi HOK
  rw [hh] at HV ⊢
  rw [show nhV ⟨1, ⟨#[]⟩, 0, 0, some ⟨bR, oR, none⟩, 1, cR⟩ = .agg #[.int .i64 1, .string ⟨#[]⟩, .int .i64 0, .int .i64 0, .slice (some ⟨bR, oR, none⟩) 1 cR] from rfl] at HV ⊢
  clear hh h
  have HBL : Hid (bR < w.heap.size ∧ bK < w.heap.size ∧ b < w.heap.size) := Lib.hid ⟨World.block_lt_of_cell? _ _ hI.n0, World.block_lt_of_cell? _ _ hA.n0, World.block_lt_of_cell? _ _ hK.a0⟩
  have HT : Hid (NdAt w bR oR 2 ⟨#[116]⟩ 7 0 (.slice (some ⟨bK, oK, none⟩) 1 cK) ∧ NdAt w bK oK 4 ⟨#[116, 105, 109, 101]⟩ 0 11 (.slice (some ⟨b, o0, none⟩) 5 c) ∧ KvM w b o0 (o0 + 5) (o0 + 5 + 5) (o0 + 5 + 5 + 5) (o0 + 5 + 5 + 5 + 5) ∧ 5 ≤ c) := Lib.hid ⟨hI, hA, hK, hc⟩
  have HTK : Hid (∀ W, Below w.heap.size w W → NdAt W bR oR 2 ⟨#[116]⟩ 7 0 (.slice (some ⟨bK, oK, none⟩) 1 cK) ∧ NdAt W bK oK 4 ⟨#[116, 105, 109, 101]⟩ 0 11 (.slice (some ⟨b, o0, none⟩) 5 c) ∧ KvM W b o0 (o0 + 5) (o0 + 5 + 5) (o0 + 5 + 5 + 5) (o0 + 5 + 5 + 5 + 5)) := Lib.hid (fun W hb => ⟨HT.out.1.keep hb, HT.out.2.1.keep hb, HT.out.2.2.1.mod (modB (M := fun _ => False) hb) (fun h => h)⟩)
  have HC5 : Hid (5 ≤ c) := Lib.hid hc
  clear hI hA hK hc HT
  obtain ⟨X, hX⟩ : ∃ X, X = w.heap.size := ⟨_, rfl⟩
  obtain ⟨W0, hW0⟩ : ∃ W, W = w.alloc (.cells #[.int .i64 1, .string ⟨#[]⟩, .int .i64 0, .int .i64 0, .slice (some ⟨bR, oR, none⟩) 1 cR] 56) := ⟨_, rfl⟩
  have hb0 : Below w.heap.size w W0 := by rw [hW0]; exact (Below.refl _ _).alloc (Nat.le_refl _) _
  have HX0 : Hid (NdAt W0 X 0 1 ⟨#[]⟩ 0 0 (.slice (some ⟨bR, oR, none⟩) 1 cR)) := Lib.hid (by rw [hW0, hX]; exact ⟨by go_simp, by go_simp, by go_simp, by go_simp, by go_simp⟩)
  have HX : Hid (w.heap.size = X) := Lib.hid hX.symm
  have HXE := Lib.hid hX
  have HW0 := Lib.hid hW0
  have HB0 := Lib.hid hb0
  clear hb0 hX hW0
  have hmk : ∀ W : World, (Instr.makeMap 94 none).run Tryz.prog W = .ok (.map (some W.heap.size)) (W.alloc (.map #[] 0)) := fun W => run_makeMap 94 W
  go_enter Tryz.func16, Tryz.ntmps16
  go_upto_region 1 with (fail)
  rw [← HW0.out, ← HXE.out]
  clear HW0
  have x0 : W0.cell? ⟨X, 0, none⟩ = some (.int .i64 1) := HX0.out.n0
  have x1 : W0.cell? ⟨X, 1, none⟩ = some (.string ⟨#[]⟩) := HX0.out.n1
  have x2 : W0.cell? ⟨X, 2, none⟩ = some (.int .i64 0) := HX0.out.n2
  have x3 : W0.cell? ⟨X, 3, none⟩ = some (.int .i64 0) := HX0.out.n3
  have x4 : W0.cell? ⟨X, 4, none⟩ = some (.slice (some ⟨bR, oR, none⟩) 1 cR) := HX0.out.n4
  have hXl : X < W0.heap.size := World.block_lt_of_cell? _ _ x0
  go_wp2_with fail
  refine (HV.out W0 HB0.out).mono ?_
  rintro e W1 ⟨rfl, hb1⟩
  have HX1 := Lib.hid (HX0.out.keep hb1)
  have HB1 : Hid (Below w.heap.size w W1) := Lib.hid (below_then HB0.out hb1)
  clear hb1 x0 x1 x2 x3 x4 hXl HX0 HB0 HV
  go_upto_region 5 with (fail)
  obtain ⟨Mb, hMb⟩ : ∃ M, M = W1.heap.size := ⟨_, rfl⟩
  obtain ⟨W2, hW2⟩ : ∃ W, W = W1.alloc (.map #[] 0) := ⟨_, rfl⟩
  have hb2 : Below W1.heap.size W1 W2 := by rw [hW2]; exact (Below.refl _ _).alloc (Nat.le_refl _) _
  have HM2 : Hid (ValM Tryz.prog 9 W2 Mb 0 (fun _ => none)) := Lib.hid (by rw [hW2, hMb]; exact ValM.made _)
  have HX2 := Lib.hid (HX1.out.keep hb2)
  have HB2 : Hid (Below w.heap.size w W2) := Lib.hid (below_then HB1.out hb2)
  have HMX : Hid (X < Mb ∧ Mb < W2.heap.size) := Lib.hid ⟨by rw [hMb]; exact World.block_lt_of_cell? _ _ HX1.out.n0, HM2.out.lt⟩
  have HW2 := Lib.hid hW2
  have HME := Lib.hid hMb
  clear hb2 hW2 hMb HX1 HB1
  go_upto_region 6 with (fail)
  rw [← HW2.out, ← HME.out]
  clear HW2 HME hmk
  have x4 : W2.cell? ⟨X, 4, none⟩ = some (.slice (some ⟨bR, oR, none⟩) 1 cR) := HX2.out.n4
  have hXl : X < W2.heap.size := World.block_lt_of_cell? _ _ x4
  go_wp2_with fail
  clear x4 hXl
  go_loopg [4, 5, 7, 21] 1 (fun g1 v4 v5 v7 v21 wr => ∃ i A n C aT cT, v4 = .slice A n C ∧ v5 = .slice none 0 0 ∧ v7 = .int .i64 (i : Nat) ∧ v21 = .int .i64 (i : Nat) ∧ i ≤ 1 ∧ 1 - i ≤ g1 ∧ (i = 0 → A = none ∧ n = 0 ∧ C = 0) ∧ Hid (OwnR 24 2 encTr wr (Mb + 1) (.slice A n C) ([(⟨⟨#[116]⟩, aT, 1, cT⟩ : TrR)].take i)) ∧ Hid (i = 0 → ValM Tryz.prog 9 wr Mb 0 (fun _ => none)) ∧ Hid (i = 1 → Rd 7 encArt wr aT [artV]) ∧ Hid (Below w.heap.size w wr))
  case atStart => exact ⟨0, none, 0, 0, none, 0, rfl, rfl, by go_num, by go_num, by omega, by omega, fun _ => ⟨rfl, rfl, rfl⟩, Lib.hid (OwnR.nil _ _), Lib.hid (fun _ => HM2.out), Lib.hid (fun h => by omega), HB2⟩
  case round =>
    clear HM2 HX2 HB2
    obtain ⟨i, A, n, C, aT, cT, rfl, rfl, rfl, rfl, hi, hg1, hA0, HOW, HM, HRA, HB⟩ := hrel
    have h01 : i = 0 ∨ i = 1 := by omega
    rcases h01 with rfl | rfl
    · obtain ⟨rfl, rfl, rfl⟩ := hA0 rfl
      have HM := Lib.hid (HM.out rfl)
      clear HRA
      have HI := Lib.hid (HTK.out wr HB.out).1
      have k0 := HI.out.n0
      have k1 := HI.out.n1
      have k2 := HI.out.n2
      have k3 := HI.out.n3
      have k4 := HI.out.n4
      have hKl : bR < wr.heap.size := World.block_lt_of_cell? _ _ k0
      go_upto_region 10 with (fail)
      obtain ⟨N, hN⟩ : ∃ N, N = wr.heap.size := ⟨_, rfl⟩
      obtain ⟨W3, hW3⟩ : ∃ W, W = wr.alloc (.cells #[.int .i64 2, .string ⟨#[116]⟩, .int .i64 7, .int .i64 0, .slice (some ⟨bK, oK, none⟩) 1 cK] 56) := ⟨_, rfl⟩
      have hb3 : Below wr.heap.size wr W3 := by rw [hW3]; exact (Below.refl _ _).alloc (Nat.le_refl _) _
      have HN : Hid (NdAt W3 N 0 2 ⟨#[116]⟩ 7 0 (.slice (some ⟨bK, oK, none⟩) 1 cK)) := Lib.hid (by rw [hW3, hN]; exact ⟨by go_simp, by go_simp, by go_simp, by go_simp, by go_simp⟩)
      rw [← hW3, ← hN]
      have HNM : Hid (Mb < N) := Lib.hid (by rw [hN]; exact HM.out.lt)
      have HM3 := Lib.hid (HM.out.keep hb3)
      have HB3 : Hid (Below w.heap.size w W3) := Lib.hid (below_then HB.out hb3)
      clear hW3 hN hb3 k0 k1 k2 k3 k4 hKl HI HM HB
      have n2 : W3.cell? ⟨N, 2, none⟩ = some (.int .i64 7) := HN.out.n2
      have hNl : N < W3.heap.size := World.block_lt_of_cell? _ _ n2
      go_upto_region 14 with (fail)
      obtain ⟨D, hD⟩ : ∃ D, D = W3.heap.size := ⟨_, rfl⟩
      obtain ⟨W4, hW4⟩ : ∃ W, W = W3.alloc (.cells #[.int .i64 0, .int .i64 0] 84) := ⟨_, rfl⟩
      have hb4 : Below W3.heap.size W3 W4 := by rw [hW4]; exact (Below.refl _ _).alloc (Nat.le_refl _) _
      have HD4 : Hid (Own W4 D 84 2 (fun _ => .int .i64 0)) := Lib.hid (by rw [hW4, hD]; exact Own.newAt _ 84 _ _ rfl (n := 2) rfl (fun i hi => by match i, hi with | 0, _ => rfl | 1, _ => rfl))
      rw [← hW4, ← hD]
      have HN4 := Lib.hid (HN.out.keep hb4)
      have HM4 := Lib.hid (HM3.out.keep hb4)
      have HB4 : Hid (Below w.heap.size w W4) := Lib.hid (below_then HB3.out hb4)
      have HDN : Hid (Mb < D ∧ N < D) := Lib.hid ⟨by rw [hD]; exact HM3.out.lt, by rw [hD]; exact hNl⟩
      clear hW4 hD hb4 n2 hNl HN HM3 HB3
      have n0 : W4.cell? ⟨N, 0, none⟩ = some (.int .i64 2) := HN4.out.n0
      have n1 : W4.cell? ⟨N, 1, none⟩ = some (.string ⟨#[116]⟩) := HN4.out.n1
      have n2 : W4.cell? ⟨N, 2, none⟩ = some (.int .i64 7) := HN4.out.n2
      have n3 : W4.cell? ⟨N, 3, none⟩ = some (.int .i64 0) := HN4.out.n3
      have n4 : W4.cell? ⟨N, 4, none⟩ = some (.slice (some ⟨bK, oK, none⟩) 1 cK) := HN4.out.n4
      have hNl : N < W4.heap.size := World.block_lt_of_cell? _ _ n0
      have hlk : (Instr.lookup 94 (.map (some Mb)) (.string ⟨#[116]⟩) false).run Tryz.prog W4 = .ok (.bool false) W4 := HM4.out.look1 kSt Tryz.underlying94 (z := .bool false) (by go_simp) (keyS (s := ⟨#[116]⟩) (by decide)) (by trivial)
      go_wp2_with fail
      refine (tfArticles_ok bK oK cK b o0 (o0 + 5) (o0 + 5 + 5) (o0 + 5 + 5 + 5) (o0 + 5 + 5 + 5 + 5) c ⟨#[116]⟩ 0 11 W4 (Lib.hid (HTK.out W4 HB4.out).2.2) (Lib.hid ⟨rfl, rfl, rfl, rfl⟩) HC5.out (Lib.hid (HTK.out W4 HB4.out).2.1)).mono ?_
      rintro e W5 ⟨A, cA, rfl, hR, hfr, hb5⟩
      have HR5 := Lib.hid hR
      have HFR : Hid (∀ a, A = some a → D < a.block) := Lib.hid (fun a ha => by have := hfr a ha; have := HD4.out.lt; omega)
      have HN5 := Lib.hid (HN4.out.keep hb5)
      have HM5 := Lib.hid (HM4.out.keep hb5)
      have HD5 := Lib.hid (HD4.out.keep hb5 HD4.out.lt)
      have HB5 : Hid (Below w.heap.size w W5) := Lib.hid (below_then HB4.out hb5)
      clear hR hfr hb5 n0 n1 n2 n3 n4 hNl hlk HN4 HM4 HD4 HB4
      have d0 : W5.cell? ⟨D, 0, none⟩ = some (.int .i64 0) := HD5.out.cell (i := 0) (by omega)
      have d1 : W5.cell? ⟨D, 1, none⟩ = some (.int .i64 0) := HD5.out.cell (i := 1) (by omega)
      have f0 := HD5.out.frozen 0
      have f1 := HD5.out.frozen 1
      have hDl : D < W5.heap.size := HD5.out.lt
      go_upto_region 18 with (fail)
      obtain ⟨W6, hW6⟩ : ∃ W, W = (W5.setCell ⟨D, 0, none⟩ (.int .i64 0)).setCell ⟨D, 1, none⟩ (.int .i64 0) := ⟨_, rfl⟩
      have HD6 : Hid (Own W6 D 84 2 (fun _ => .int .i64 0)) := Lib.hid (by rw [hW6]; exact ((HD5.out.set 0 _).set 1 _).congr (fun i hi => by match i, hi with | 0, _ => rfl | 1, _ => rfl))
      have hm6 : Mod (fun j => j = D) W5 W6 := by rw [hW6]; exact ((show Mod (fun j => j = D) W5 W5 from Mod.refl _ W5).setCell (p := ⟨D, 0, none⟩) (.inl rfl) _).setCell (p := ⟨D, 1, none⟩) (.inl rfl) _
      rw [← hW6]
      have HR6 := Lib.hid (HR5.out.mod hm6 (fun a ha _ => by have := HFR.out a ha; omega))
      have HN6 := Lib.hid (HN5.out.mod hm6 (by have := HDN.out; omega))
      have HM6 := Lib.hid (HM5.out.mod hm6 (by have := HDN.out; omega))
      have HB6 : Hid (Below w.heap.size w W6) := Lib.hid (((show Mod (fun q => q = D) w W5 from modB HB5.out).trans hm6).below (Nat.le_refl _) (fun j h1 h2 => by have := HDN.out; have := HMX.out; have := HX.out; omega))
      clear hW6 hm6 d0 d1 f0 f1 hDl HR5 HN5 HM5 HD5 HB5
      obtain ⟨W7, hpu, HM7, HMd⟩ := HM6.out.put kSt Tryz.underlying94 (by omega) (key := .string ⟨#[116]⟩) (v := .bool true) (kl := sLt ⟨#[116]⟩) (keyS (s := ⟨#[116]⟩) (by decide)) (by trivial)
      have HR7 := Lib.hid (HR6.out.mod HMd.out (fun a ha _ => by have := HFR.out a ha; have := HDN.out; omega))
      have HN7 := Lib.hid (HN6.out.mod HMd.out (by have := HNM.out; omega))
      have HD7 := Lib.hid (HD6.out.mod HMd.out (by have := HDN.out; omega))
      have HB7 : Hid (Below w.heap.size w W7) := Lib.hid (((show Mod (fun q => q = Mb) w W6 from modB HB6.out).trans HMd.out).below (Nat.le_refl _) (fun j h1 h2 => by have := HMX.out; have := HX.out; omega))
      have n0 : W6.cell? ⟨N, 0, none⟩ = some (.int .i64 2) := HN6.out.n0
      have n1 : W6.cell? ⟨N, 1, none⟩ = some (.string ⟨#[116]⟩) := HN6.out.n1
      have hNl : N < W6.heap.size := World.block_lt_of_cell? _ _ n0
      go_upto_region 19 with (fail)
      clear n0 n1 hNl hpu HM6 HR6 HN6 HD6 HB6 HMd HM7
      have n0 : W7.cell? ⟨N, 0, none⟩ = some (.int .i64 2) := HN7.out.n0
      have n1 : W7.cell? ⟨N, 1, none⟩ = some (.string ⟨#[116]⟩) := HN7.out.n1
      have hNl : N < W7.heap.size := World.block_lt_of_cell? _ _ n0
      have d0 : W7.cell? ⟨D, 0, none⟩ = some (.int .i64 0) := HD7.out.cell (i := 0) (by omega)
      have hDl : D < W7.heap.size := HD7.out.lt
      obtain ⟨ap, v', W8, av, aw, HO8, HA8⟩ := app_tr (w := W7) (base := W7.heap.size) (v := .slice none 0 0) (xs := []) ⟨⟨#[116]⟩, A, 1, cA⟩ (OwnR.nil _ _) (Nat.le_refl _) (by decide)
      dsimp only at ap av aw
      obtain ⟨va, vc, hv'⟩ := HO8.out.shape
      rw [show (([] : List TrR) ++ [(⟨⟨#[116]⟩, A, 1, cA⟩ : TrR)]).length = 1 from rfl] at hv'
      subst hv'
      have HB8 : Hid (Mod (fun _ => False) W7 W8) := Lib.hid (modB HA8.out.bel)
      have HR8 := Lib.hid (HR7.out.mod HB8.out (fun _ _ _ h => h))
      have HBW : Hid (Below w.heap.size w W8) := Lib.hid (((show Mod (fun _ => False) w W7 from modB HB7.out).trans HB8.out).below (Nat.le_refl _) (fun j h1 h2 => h2.elim))
      clear HA8 HB8
      go_wp2_with fail
      go_roundg 0
      case measure => omega
      case rel => exact ⟨1, va, 1, vc, A, cA, rfl, rfl, by go_num, by go_num, by omega, by omega, (fun h => by omega), Lib.hid (own_base HO8.out (by have := HDN.out; omega)), Lib.hid (fun h => by omega), Lib.hid (fun _ => HR8.out), HBW⟩
    · have hn : n = 1 := by
        obtain ⟨va, vc, hv⟩ := HOW.out.shape
        injection hv
      subst hn
      have HRB : Hid (Rd 7 encArt wr aT [artV]) := Lib.hid (HRA.out rfl)
      clear hA0 HM HRA
      go_wp2_with fail
      go_ret2
      have HOW2 := HOW.out
      obtain ⟨A', c', e, hr⟩ := HOW2.rd encTr_len
      injection e with e1 e2 e3
      subst e1
      obtain ⟨bb, off, x, hA, hbl, hx, hcc⟩ := hr.at_ (k := 0) (by simp)
      have hx : x = ⟨⟨#[116]⟩, aT, 1, cT⟩ := by simpa using hx.symm
      subst hx
      have c0 := hcc 0 _ rfl
      have c1 := hcc 1 _ rfl
      subst hA
      refine ⟨bb, off, C, aT, cT, rfl, hbl, by simpa using c0, by simpa using c1, ⟨HRB.out, rfl, by decide, by decide⟩, HB.out⟩
end Go.Proofs.YtoekpdnpncgeeaaGreat
/-
headTariffR14: the tariff of the source, its prices and its quote.
-/
namespace Go.Proofs.YtoekpdnpncgeeaaGreat
open Go.RowKit
set_option linter.unusedVariables false
set_option linter.unusedSimpArgs false
def calZ : Cal := ⟨0, [], []⟩
def sesT : Ses := ⟨0, 25, 20, []⟩
theorem trfB_T : trfB ⟨#[116]⟩ [artV] = true := by unfold trfB; rw [okNameT]; kernel_rfl
set_option maxRecDepth 100000 in
theorem price_T0 : priceR ⟨#[116]⟩ [artV] calZ sesT [] = (1500, 0) := by
  have hE : billE ⟨#[116]⟩ [artV] calZ (partS sesT 0 25) = 0 := by unfold billE; rw [trfB_T]; kernel_rfl
  have hV : (billV ⟨#[116]⟩ [artV] calZ (partS sesT 0 25)).total = 1500 := by unfold billV billO; rw [trfB_T]; kernel_rfl
  unfold priceR
  rw [trfB_T, if_pos (by kernel_rfl)]
  unfold priceT
  rw [show sesT.frm = 0 from rfl, show sesT.till = 25 from rfl, if_pos hE, hV]
  rfl
set_option maxRecDepth 100000 in
theorem price_T1 : priceR ⟨#[116]⟩ [artV] calZ sesT [10] = (500, 0) := by
  have hE : billE ⟨#[116]⟩ [artV] calZ (partS sesT 0 10) = 0 := by unfold billE; rw [trfB_T]; kernel_rfl
  have hV : (billV ⟨#[116]⟩ [artV] calZ (partS sesT 0 10)).total = 0 := by unfold billV billO; rw [trfB_T]; kernel_rfl
  have hE2 : billE ⟨#[116]⟩ [artV] calZ (partS sesT 10 25) = 0 := by unfold billE; rw [trfB_T]; kernel_rfl
  have hV2 : (billV ⟨#[116]⟩ [artV] calZ (partS sesT 10 25)).total = 500 := by unfold billV billO; rw [trfB_T]; kernel_rfl
  unfold priceR
  rw [trfB_T, if_pos (by kernel_rfl)]
  unfold priceT
  rw [show sesT.frm = 0 from rfl, if_pos hE, hV]
  unfold priceT
  rw [show sesT.till = 25 from rfl, if_pos hE2, hV2]
  rfl
set_option maxRecDepth 100000 in
theorem quo_T : quoR ⟨#[116]⟩ [artV] calZ 0 25 0 = (1500, 0) := by
  unfold quoR
  rw [trfB_T]
  kernel_rfl
theorem calZ_rd (w : World) : RdCal w none 0 none 0 calZ := by
  constructor <;> first | exact Rd.nil | rfl | decide
theorem sesT_rd (w : World) : RdSes w none 0 sesT := by
  constructor <;> first | exact Rd.nil | rfl | decide | exact (fun x hx => by cases hx)
set_option maxRecDepth 100000 in
set_option maxHeartbeats 16000000 in
theorem tpHead20 (w : World) : Calls Tryz.prog 6 #[] w fun e w' => e = .returned (.bool true) ∧ Below w.heap.size w w' := by
  go_enter Tryz.func6, Tryz.ntmps6
  go_wp2_with fail
  refine (parseT _).mono ?_
  rintro e wp ⟨⟨hkk, hna, hnn, hpo, ha, hln, hc⟩, rfl, hok, hb⟩
  have HOK := Lib.hid hok
  have HB := Lib.hid hb
  clear hok hb
  rw [show nhV ⟨hkk, hna, hnn, hpo, ha, hln, hc⟩ = .agg #[.int .i64 hkk, .string hna, .int .i64 hnn, .int .i64 (hpo : Nat), .slice ha hln hc] from rfl]
  go_wp2_with fail
  refine (tfBuild_ok ⟨hkk, hna, hnn, hpo, ha, hln, hc⟩ w.heap.size wp.heap.size _ ((okNd_firm (okNd_firm (okNd_firm okLf_firm))).calm HOK.out (Calm.of (Mod.of_below ((Below.refl _ wp).alloc (Nat.le_refl _) _)) (fun j _ h2 h3 => by omega))) (by simp)).mono ?_
  rintro e w2 ⟨b, off, c, A, cA, rfl, hbl, h0, h1, hr, hb⟩
  have HB := Lib.hid (below_then (below_then HB.out ((Below.refl _ wp).alloc (Nat.le_refl _) (.cells #[.int .i64 hkk, .string hna, .int .i64 hnn, .int .i64 (hpo : Nat), .slice ha hln hc] 56))) hb)
  have HT0 : Hid (w2.cell? ⟨b, off, none⟩ = some (.string ⟨#[116]⟩) ∧ w2.cell? ⟨b, off + 1, none⟩ = some (.slice A 1 cA) ∧ RdTrf w2 ⟨#[116]⟩ A 1 [artV]) := Lib.hid ⟨h0, h1, hr⟩
  clear hbl h0 h1 hr hb HOK
  go_upto_region 6 with (fail)
  obtain ⟨W3, hW3⟩ : ∃ W, W = w2.alloc (.cells #[.int .i64 0, .int .i64 25, .int .i64 20, .slice none 0 0] 31) := ⟨_, rfl⟩
  obtain ⟨S, hS⟩ : ∃ S, S = w2.heap.size := ⟨_, rfl⟩
  have hb3 : Below w2.heap.size w2 W3 := by rw [hW3]; exact (Below.refl _ _).alloc (Nat.le_refl _) _
  have HS : Hid (Own W3 S 31 4 (fun i => ([.int .i64 0, .int .i64 25, .int .i64 20, .slice none 0 0] : List Value)[i]?.getD undef)) := Lib.hid (by rw [hW3]; exact Own.newAt _ 31 _ _ hS.symm (n := 4) rfl (fun i hi => by match i, hi with | 0, _ => rfl | 1, _ => rfl | 2, _ => rfl | 3, _ => rfl))
  rw [← hW3, ← hS]
  have hbl := World.block_lt_of_cell? _ _ HT0.out.1
  have HT : Hid (W3.cell? ⟨b, off, none⟩ = some (.string ⟨#[116]⟩) ∧ W3.cell? ⟨b, off + 1, none⟩ = some (.slice A 1 cA) ∧ RdTrf W3 ⟨#[116]⟩ A 1 [artV]) := Lib.hid ⟨(hb3.cell (p := ⟨b, off, none⟩) hbl).trans HT0.out.1, (hb3.cell (p := ⟨b, off + 1, none⟩) hbl).trans HT0.out.2.1, HT0.out.2.2.keep hb3⟩
  have HB := Lib.hid (below_then HB.out hb3)
  clear hW3 hS hb3 hbl HT0
  have t0 : W3.cell? ⟨b, off, none⟩ = some (.string ⟨#[116]⟩) := HT.out.1
  have t1 : W3.cell? ⟨b, off + 1, none⟩ = some (.slice A 1 cA) := HT.out.2.1
  have s0 : W3.cell? ⟨S, 0, none⟩ = some (.int .i64 0) := HS.out.cell (i := 0) (by omega)
  have s1 : W3.cell? ⟨S, 1, none⟩ = some (.int .i64 25) := HS.out.cell (i := 1) (by omega)
  have s2 : W3.cell? ⟨S, 2, none⟩ = some (.int .i64 20) := HS.out.cell (i := 2) (by omega)
  have s3 : W3.cell? ⟨S, 3, none⟩ = some (.slice none 0 0) := HS.out.cell (i := 3) (by omega)
  have hbl : b < W3.heap.size := World.block_lt_of_cell? _ _ t0
  have hSl : S < W3.heap.size := HS.out.lt
  refine region_z (S := fun w' => Below W3.heap.size W3 w') [] (by kernel_rfl) (below_drewN' W3) (fun hHeld => ?_)
  refine wpAnyZ_take (i := 0) (v := .slice (some ⟨b, off, none⟩) 1 c) [1, 2, 5, 6, 7, 8, 9, 10] rfl (by kernel_rfl) (by kernel_rfl) (by kernel_rfl) (by kernel_rfl) (fun _ _ _ h => h) (Or.inl ⟨by kernel_rfl, fun w' hSw => ?_⟩) hHeld ?_
  · have t0 := (hSw.cell (p := ⟨b, off, none⟩) hbl).trans t0
    have t1 := (hSw.cell (p := ⟨b, off + 1, none⟩) hbl).trans t1
    have s0 := (hSw.cell (p := ⟨S, 0, none⟩) hSl).trans s0
    have s1 := (hSw.cell (p := ⟨S, 1, none⟩) hSl).trans s1
    have s2 := (hSw.cell (p := ⟨S, 2, none⟩) hSl).trans s2
    have s3 := (hSw.cell (p := ⟨S, 3, none⟩) hSl).trans s3
    have hbl := Nat.lt_of_lt_of_le hbl hSw.size
    have hSl := Nat.lt_of_lt_of_le hSl hSw.size
    clear hHeld hSw
    go_simp
  simp only [Act.put, List.getElem_toArray, List.getElem_cons_zero, List.getElem_cons_succ, List.setIfInBounds_toArray, List.set_cons_zero, List.set_cons_succ]
  refine wpAnyZ_take (i := 1) (v := .pointer (some ⟨b, off, none⟩)) [2, 5, 6, 7, 8, 9, 10] rfl (by kernel_rfl) (by kernel_rfl) (by kernel_rfl) (by kernel_rfl) (fun _ _ _ h => h) (Or.inl ⟨by kernel_rfl, fun w' hSw => ?_⟩) hHeld ?_
  · have t0 := (hSw.cell (p := ⟨b, off, none⟩) hbl).trans t0
    have t1 := (hSw.cell (p := ⟨b, off + 1, none⟩) hbl).trans t1
    have s0 := (hSw.cell (p := ⟨S, 0, none⟩) hSl).trans s0
    have s1 := (hSw.cell (p := ⟨S, 1, none⟩) hSl).trans s1
    have s2 := (hSw.cell (p := ⟨S, 2, none⟩) hSl).trans s2
    have s3 := (hSw.cell (p := ⟨S, 3, none⟩) hSl).trans s3
    have hbl := Nat.lt_of_lt_of_le hbl hSw.size
    have hSl := Nat.lt_of_lt_of_le hSl hSw.size
    clear hHeld hSw
    go_simp
  simp only [Act.put, List.getElem_toArray, List.getElem_cons_zero, List.getElem_cons_succ, List.setIfInBounds_toArray, List.set_cons_zero, List.set_cons_succ]
  refine wpAnyZ_take (i := 2) (v := .agg #[.string ⟨#[116]⟩, .slice A 1 cA]) [5, 6, 7, 8, 9, 10] rfl (by kernel_rfl) (by kernel_rfl) (by kernel_rfl) (by kernel_rfl) (fun _ _ _ h => h) (Or.inl ⟨by kernel_rfl, fun w' hSw => ?_⟩) hHeld ?_
  · have t0 := (hSw.cell (p := ⟨b, off, none⟩) hbl).trans t0
    have t1 := (hSw.cell (p := ⟨b, off + 1, none⟩) hbl).trans t1
    have s0 := (hSw.cell (p := ⟨S, 0, none⟩) hSl).trans s0
    have s1 := (hSw.cell (p := ⟨S, 1, none⟩) hSl).trans s1
    have s2 := (hSw.cell (p := ⟨S, 2, none⟩) hSl).trans s2
    have s3 := (hSw.cell (p := ⟨S, 3, none⟩) hSl).trans s3
    have hbl := Nat.lt_of_lt_of_le hbl hSw.size
    have hSl := Nat.lt_of_lt_of_le hSl hSw.size
    clear hHeld hSw
    go_simp
  simp only [Act.put, List.getElem_toArray, List.getElem_cons_zero, List.getElem_cons_succ, List.setIfInBounds_toArray, List.set_cons_zero, List.set_cons_succ]
  refine wpAnyZ_take (i := 3) (v := .agg #[.int .i64 0, .slice none 0 0, .slice none 0 0]) [5, 6, 7, 8, 9, 10] rfl (by kernel_rfl) (by kernel_rfl) (by kernel_rfl) (by kernel_rfl) (fun _ _ _ h => h) (Or.inl ⟨by kernel_rfl, fun w' hSw => ?_⟩) hHeld ?_
  · have t0 := (hSw.cell (p := ⟨b, off, none⟩) hbl).trans t0
    have t1 := (hSw.cell (p := ⟨b, off + 1, none⟩) hbl).trans t1
    have s0 := (hSw.cell (p := ⟨S, 0, none⟩) hSl).trans s0
    have s1 := (hSw.cell (p := ⟨S, 1, none⟩) hSl).trans s1
    have s2 := (hSw.cell (p := ⟨S, 2, none⟩) hSl).trans s2
    have s3 := (hSw.cell (p := ⟨S, 3, none⟩) hSl).trans s3
    have hbl := Nat.lt_of_lt_of_le hbl hSw.size
    have hSl := Nat.lt_of_lt_of_le hSl hSw.size
    clear hHeld hSw
    go_simp
  simp only [Act.put, List.getElem_toArray, List.getElem_cons_zero, List.getElem_cons_succ, List.setIfInBounds_toArray, List.set_cons_zero, List.set_cons_succ]
  refine wpAnyZ_take (i := 4) (v := .agg #[.int .i64 0, .int .i64 25, .int .i64 20, .slice none 0 0]) [5, 6, 7, 8, 9, 10] rfl (by kernel_rfl) (by kernel_rfl) (by kernel_rfl) (by kernel_rfl) (fun _ _ _ h => h) (Or.inl ⟨by kernel_rfl, fun w' hSw => ?_⟩) hHeld ?_
  · have t0 := (hSw.cell (p := ⟨b, off, none⟩) hbl).trans t0
    have t1 := (hSw.cell (p := ⟨b, off + 1, none⟩) hbl).trans t1
    have s0 := (hSw.cell (p := ⟨S, 0, none⟩) hSl).trans s0
    have s1 := (hSw.cell (p := ⟨S, 1, none⟩) hSl).trans s1
    have s2 := (hSw.cell (p := ⟨S, 2, none⟩) hSl).trans s2
    have s3 := (hSw.cell (p := ⟨S, 3, none⟩) hSl).trans s3
    have hbl := Nat.lt_of_lt_of_le hbl hSw.size
    have hSl := Nat.lt_of_lt_of_le hSl hSw.size
    clear hHeld hSw
    go_simp
  simp only [Act.put, List.getElem_toArray, List.getElem_cons_zero, List.getElem_cons_succ, List.setIfInBounds_toArray, List.set_cons_zero, List.set_cons_succ]
  refine wpAnyZ_one (i := 5) (by kernel_rfl) rfl (fun K' hK => ?_)
  go_simp
  refine (lhPrice_any ⟨#[116]⟩ A 1 cA [artV] none 0 0 none 0 0 calZ none 0 0 sesT none 0 0 [] W3.drew (Lib.hid (HT.out.2.2.keep hHeld)) (Lib.hid (calZ_rd _)) (Lib.hid (sesT_rd _)) Rd.nil rfl (by decide) (by intro x hx; simp at hx; try omega)).mono ?_
  rintro e W4 ⟨rfl, hb⟩
  rw [price_T0]
  have hb2 : Below W3.heap.size W3 W4 := below_then hHeld hb
  have HB := Lib.hid (below_then HB.out hb2)
  have HS := Lib.hid (HS.out.keep hb2 HS.out.lt)
  have HT : Hid (W4.cell? ⟨b, off, none⟩ = some (.string ⟨#[116]⟩) ∧ W4.cell? ⟨b, off + 1, none⟩ = some (.slice A 1 cA) ∧ RdTrf W4 ⟨#[116]⟩ A 1 [artV]) := Lib.hid ⟨(hb2.cell (p := ⟨b, off, none⟩) hbl).trans t0, (hb2.cell (p := ⟨b, off + 1, none⟩) hbl).trans t1, HT.out.2.2.keep hb2⟩
  refine hK.out _ _ ?_ (fun hHeld' => ?_)
  · exact hb2
  clear hK K' hHeld hb hb2 t0 t1 s0 s1 s2 s3 hbl hSl
  have hHeld := hHeld'
  clear hHeld'
  try simp only [Act.put, List.getElem_toArray, List.getElem_cons_zero, List.getElem_cons_succ, List.setIfInBounds_toArray, List.set_cons_zero, List.set_cons_succ]
  refine wpAnyZ_take (i := 6) (v := .tuple #[.int .i64 1500, .int .i64 0]) [7, 8, 9, 10] rfl (by kernel_rfl) (by kernel_rfl) (by kernel_rfl) (by kernel_rfl) (fun _ _ _ h => h) (Or.inl ⟨by kernel_rfl, fun w' hSw => ?_⟩) hHeld ?_
  · clear hHeld hSw
    go_simp
  simp only [Act.put, List.getElem_toArray, List.getElem_cons_zero, List.getElem_cons_succ, List.setIfInBounds_toArray, List.set_cons_zero, List.set_cons_succ]
  refine wpAnyZ_take (i := 7) (v := .int .i64 1500) [9] rfl (by kernel_rfl) (by kernel_rfl) (by kernel_rfl) (by kernel_rfl) (fun _ _ _ h => h) (Or.inl ⟨by kernel_rfl, fun w' hSw => ?_⟩) hHeld ?_
  · clear hHeld hSw
    go_simp
  simp only [Act.put, List.getElem_toArray, List.getElem_cons_zero, List.getElem_cons_succ, List.setIfInBounds_toArray, List.set_cons_zero, List.set_cons_succ]
  refine wpAnyZ_take (i := 8) (v := .int .i64 0) [10] rfl (by kernel_rfl) (by kernel_rfl) (by kernel_rfl) (by kernel_rfl) (fun _ _ _ h => h) (Or.inl ⟨by kernel_rfl, fun w' hSw => ?_⟩) hHeld ?_
  · clear hHeld hSw
    go_simp
  simp only [Act.put, List.getElem_toArray, List.getElem_cons_zero, List.getElem_cons_succ, List.setIfInBounds_toArray, List.set_cons_zero, List.set_cons_succ]
  refine wpAnyZ_take (i := 9) (v := .int .i64 1500) [10] rfl (by kernel_rfl) (by kernel_rfl) (by kernel_rfl) (by kernel_rfl) (fun _ _ _ h => h) (Or.inl ⟨by kernel_rfl, fun w' hSw => ?_⟩) hHeld ?_
  · clear hHeld hSw
    go_simp
  simp only [Act.put, List.getElem_toArray, List.getElem_cons_zero, List.getElem_cons_succ, List.setIfInBounds_toArray, List.set_cons_zero, List.set_cons_succ]
  refine wpAnyZ_take (i := 10) (v := .int .i64 0) [] rfl (by kernel_rfl) (by kernel_rfl) (by kernel_rfl) (by kernel_rfl) (fun _ _ _ h => h) (Or.inl ⟨by kernel_rfl, fun w' hSw => ?_⟩) hHeld ?_
  · clear hHeld hSw
    go_simp
  simp only [Act.put, List.getElem_toArray, List.getElem_cons_zero, List.getElem_cons_succ, List.setIfInBounds_toArray, List.set_cons_zero, List.set_cons_succ]
  clear hHeld
  refine wpAnyZ_done (by kernel_rfl) ?_ _
  go_upto_region 7 with (fail)
  have t0 : W4.cell? ⟨b, off, none⟩ = some (.string ⟨#[116]⟩) := HT.out.1
  have t1 : W4.cell? ⟨b, off + 1, none⟩ = some (.slice A 1 cA) := HT.out.2.1
  have s0 : W4.cell? ⟨S, 0, none⟩ = some (.int .i64 0) := HS.out.cell (i := 0) (by omega)
  have s1 : W4.cell? ⟨S, 1, none⟩ = some (.int .i64 25) := HS.out.cell (i := 1) (by omega)
  have s2 : W4.cell? ⟨S, 2, none⟩ = some (.int .i64 20) := HS.out.cell (i := 2) (by omega)
  have s3 : W4.cell? ⟨S, 3, none⟩ = some (.slice none 0 0) := HS.out.cell (i := 3) (by omega)
  have hbl : b < W4.heap.size := World.block_lt_of_cell? _ _ t0
  have hSl : S < W4.heap.size := HS.out.lt
  refine region_z (S := fun w' => Below W4.heap.size W4 w') [] (by kernel_rfl) (below_drewN' W4) (fun hHeld => ?_)
  refine wpAnyZ_take (i := 0) (v := .slice (some ⟨b, off, none⟩) 1 c) [1, 2, 6, 7, 8, 9, 10, 11] rfl (by kernel_rfl) (by kernel_rfl) (by kernel_rfl) (by kernel_rfl) (fun _ _ _ h => h) (Or.inl ⟨by kernel_rfl, fun w' hSw => ?_⟩) hHeld ?_
  · have t0 := (hSw.cell (p := ⟨b, off, none⟩) hbl).trans t0
    have t1 := (hSw.cell (p := ⟨b, off + 1, none⟩) hbl).trans t1
    have s0 := (hSw.cell (p := ⟨S, 0, none⟩) hSl).trans s0
    have s1 := (hSw.cell (p := ⟨S, 1, none⟩) hSl).trans s1
    have s2 := (hSw.cell (p := ⟨S, 2, none⟩) hSl).trans s2
    have s3 := (hSw.cell (p := ⟨S, 3, none⟩) hSl).trans s3
    have hbl := Nat.lt_of_lt_of_le hbl hSw.size
    have hSl := Nat.lt_of_lt_of_le hSl hSw.size
    clear hHeld hSw
    go_simp
  simp only [Act.put, List.getElem_toArray, List.getElem_cons_zero, List.getElem_cons_succ, List.setIfInBounds_toArray, List.set_cons_zero, List.set_cons_succ]
  refine wpAnyZ_take (i := 1) (v := .pointer (some ⟨b, off, none⟩)) [2, 6, 7, 8, 9, 10, 11] rfl (by kernel_rfl) (by kernel_rfl) (by kernel_rfl) (by kernel_rfl) (fun _ _ _ h => h) (Or.inl ⟨by kernel_rfl, fun w' hSw => ?_⟩) hHeld ?_
  · have t0 := (hSw.cell (p := ⟨b, off, none⟩) hbl).trans t0
    have t1 := (hSw.cell (p := ⟨b, off + 1, none⟩) hbl).trans t1
    have s0 := (hSw.cell (p := ⟨S, 0, none⟩) hSl).trans s0
    have s1 := (hSw.cell (p := ⟨S, 1, none⟩) hSl).trans s1
    have s2 := (hSw.cell (p := ⟨S, 2, none⟩) hSl).trans s2
    have s3 := (hSw.cell (p := ⟨S, 3, none⟩) hSl).trans s3
    have hbl := Nat.lt_of_lt_of_le hbl hSw.size
    have hSl := Nat.lt_of_lt_of_le hSl hSw.size
    clear hHeld hSw
    go_simp
  simp only [Act.put, List.getElem_toArray, List.getElem_cons_zero, List.getElem_cons_succ, List.setIfInBounds_toArray, List.set_cons_zero, List.set_cons_succ]
  refine wpAnyZ_take (i := 2) (v := .agg #[.string ⟨#[116]⟩, .slice A 1 cA]) [6, 7, 8, 9, 10, 11] rfl (by kernel_rfl) (by kernel_rfl) (by kernel_rfl) (by kernel_rfl) (fun _ _ _ h => h) (Or.inl ⟨by kernel_rfl, fun w' hSw => ?_⟩) hHeld ?_
  · have t0 := (hSw.cell (p := ⟨b, off, none⟩) hbl).trans t0
    have t1 := (hSw.cell (p := ⟨b, off + 1, none⟩) hbl).trans t1
    have s0 := (hSw.cell (p := ⟨S, 0, none⟩) hSl).trans s0
    have s1 := (hSw.cell (p := ⟨S, 1, none⟩) hSl).trans s1
    have s2 := (hSw.cell (p := ⟨S, 2, none⟩) hSl).trans s2
    have s3 := (hSw.cell (p := ⟨S, 3, none⟩) hSl).trans s3
    have hbl := Nat.lt_of_lt_of_le hbl hSw.size
    have hSl := Nat.lt_of_lt_of_le hSl hSw.size
    clear hHeld hSw
    go_simp
  simp only [Act.put, List.getElem_toArray, List.getElem_cons_zero, List.getElem_cons_succ, List.setIfInBounds_toArray, List.set_cons_zero, List.set_cons_succ]
  refine wpAnyZ_take (i := 3) (v := .agg #[.int .i64 0, .slice none 0 0, .slice none 0 0]) [6, 7, 8, 9, 10, 11] rfl (by kernel_rfl) (by kernel_rfl) (by kernel_rfl) (by kernel_rfl) (fun _ _ _ h => h) (Or.inl ⟨by kernel_rfl, fun w' hSw => ?_⟩) hHeld ?_
  · have t0 := (hSw.cell (p := ⟨b, off, none⟩) hbl).trans t0
    have t1 := (hSw.cell (p := ⟨b, off + 1, none⟩) hbl).trans t1
    have s0 := (hSw.cell (p := ⟨S, 0, none⟩) hSl).trans s0
    have s1 := (hSw.cell (p := ⟨S, 1, none⟩) hSl).trans s1
    have s2 := (hSw.cell (p := ⟨S, 2, none⟩) hSl).trans s2
    have s3 := (hSw.cell (p := ⟨S, 3, none⟩) hSl).trans s3
    have hbl := Nat.lt_of_lt_of_le hbl hSw.size
    have hSl := Nat.lt_of_lt_of_le hSl hSw.size
    clear hHeld hSw
    go_simp
  simp only [Act.put, List.getElem_toArray, List.getElem_cons_zero, List.getElem_cons_succ, List.setIfInBounds_toArray, List.set_cons_zero, List.set_cons_succ]
  refine wpAnyZ_take (i := 4) (v := .agg #[.int .i64 0, .int .i64 25, .int .i64 20, .slice none 0 0]) [6, 7, 8, 9, 10, 11] rfl (by kernel_rfl) (by kernel_rfl) (by kernel_rfl) (by kernel_rfl) (fun _ _ _ h => h) (Or.inl ⟨by kernel_rfl, fun w' hSw => ?_⟩) hHeld ?_
  · have t0 := (hSw.cell (p := ⟨b, off, none⟩) hbl).trans t0
    have t1 := (hSw.cell (p := ⟨b, off + 1, none⟩) hbl).trans t1
    have s0 := (hSw.cell (p := ⟨S, 0, none⟩) hSl).trans s0
    have s1 := (hSw.cell (p := ⟨S, 1, none⟩) hSl).trans s1
    have s2 := (hSw.cell (p := ⟨S, 2, none⟩) hSl).trans s2
    have s3 := (hSw.cell (p := ⟨S, 3, none⟩) hSl).trans s3
    have hbl := Nat.lt_of_lt_of_le hbl hSw.size
    have hSl := Nat.lt_of_lt_of_le hSl hSw.size
    clear hHeld hSw
    go_simp
  simp only [Act.put, List.getElem_toArray, List.getElem_cons_zero, List.getElem_cons_succ, List.setIfInBounds_toArray, List.set_cons_zero, List.set_cons_succ]
  refine wpAnyZ_one (i := 5) (by kernel_rfl) rfl (fun K' hK => ?_)
  go_simp
  obtain ⟨Q1, hQ1⟩ : ∃ W, W = (W4.alloc (.cells #[.int .i64 10] 3)).drew := ⟨_, rfl⟩
  obtain ⟨L, hL⟩ : ∃ L, L = W4.heap.size := ⟨_, rfl⟩
  have hx := (rd_litI W4 #[.int .i64 10] [10] rfl).keep (below_drewN' _)
  have hq : Below W4.heap.size W4 Q1 := by rw [hQ1]; exact below_drewG' ((Below.refl _ _).alloc (Nat.le_refl _) _)
  rw [← hQ1, ← hL] at hx
  try rw [show W4.drew.heap.size = W4.heap.size from rfl]
  rw [← hQ1, ← hL]
  have HX := Lib.hid hx
  clear hx hQ1 hL
  refine hK.out _ _ ?_ (fun hHeld' => ?_)
  · exact hq
  clear hK K' hHeld
  have hHeld := hHeld'
  clear hHeld' hq
  try simp only [Act.put, List.getElem_toArray, List.getElem_cons_zero, List.getElem_cons_succ, List.setIfInBounds_toArray, List.set_cons_zero, List.set_cons_succ]
  refine wpAnyZ_one (i := 6) (by kernel_rfl) rfl (fun K' hK => ?_)
  go_simp
  refine (lhPrice_any ⟨#[116]⟩ A 1 cA [artV] none 0 0 none 0 0 calZ none 0 0 sesT (some ⟨L, 0, none⟩) 1 1 [10] Q1 (Lib.hid (HT.out.2.2.keep hHeld)) (Lib.hid (calZ_rd _)) (Lib.hid (sesT_rd _)) HX.out rfl (by decide) (by intro x hx; simp at hx; try omega)).mono ?_
  rintro e W5 ⟨rfl, hb⟩
  rw [price_T1]
  have hb2 : Below W4.heap.size W4 W5 := below_then hHeld hb
  have HB := Lib.hid (below_then HB.out hb2)
  have HS := Lib.hid (HS.out.keep hb2 HS.out.lt)
  have HT : Hid (W5.cell? ⟨b, off, none⟩ = some (.string ⟨#[116]⟩) ∧ W5.cell? ⟨b, off + 1, none⟩ = some (.slice A 1 cA) ∧ RdTrf W5 ⟨#[116]⟩ A 1 [artV]) := Lib.hid ⟨(hb2.cell (p := ⟨b, off, none⟩) hbl).trans t0, (hb2.cell (p := ⟨b, off + 1, none⟩) hbl).trans t1, HT.out.2.2.keep hb2⟩
  refine hK.out _ _ ?_ (fun hHeld' => ?_)
  · exact hb2
  clear hK K' hHeld hb hb2 t0 t1 s0 s1 s2 s3 hbl hSl
  have hHeld := hHeld'
  clear hHeld'
  try simp only [Act.put, List.getElem_toArray, List.getElem_cons_zero, List.getElem_cons_succ, List.setIfInBounds_toArray, List.set_cons_zero, List.set_cons_succ]
  refine wpAnyZ_take (i := 7) (v := .tuple #[.int .i64 500, .int .i64 0]) [8, 9, 10, 11] rfl (by kernel_rfl) (by kernel_rfl) (by kernel_rfl) (by kernel_rfl) (fun _ _ _ h => h) (Or.inl ⟨by kernel_rfl, fun w' hSw => ?_⟩) hHeld ?_
  · clear hHeld hSw
    go_simp
  simp only [Act.put, List.getElem_toArray, List.getElem_cons_zero, List.getElem_cons_succ, List.setIfInBounds_toArray, List.set_cons_zero, List.set_cons_succ]
  refine wpAnyZ_take (i := 8) (v := .int .i64 500) [10] rfl (by kernel_rfl) (by kernel_rfl) (by kernel_rfl) (by kernel_rfl) (fun _ _ _ h => h) (Or.inl ⟨by kernel_rfl, fun w' hSw => ?_⟩) hHeld ?_
  · clear hHeld hSw
    go_simp
  simp only [Act.put, List.getElem_toArray, List.getElem_cons_zero, List.getElem_cons_succ, List.setIfInBounds_toArray, List.set_cons_zero, List.set_cons_succ]
  refine wpAnyZ_take (i := 9) (v := .int .i64 0) [11] rfl (by kernel_rfl) (by kernel_rfl) (by kernel_rfl) (by kernel_rfl) (fun _ _ _ h => h) (Or.inl ⟨by kernel_rfl, fun w' hSw => ?_⟩) hHeld ?_
  · clear hHeld hSw
    go_simp
  simp only [Act.put, List.getElem_toArray, List.getElem_cons_zero, List.getElem_cons_succ, List.setIfInBounds_toArray, List.set_cons_zero, List.set_cons_succ]
  refine wpAnyZ_take (i := 10) (v := .int .i64 500) [11] rfl (by kernel_rfl) (by kernel_rfl) (by kernel_rfl) (by kernel_rfl) (fun _ _ _ h => h) (Or.inl ⟨by kernel_rfl, fun w' hSw => ?_⟩) hHeld ?_
  · clear hHeld hSw
    go_simp
  simp only [Act.put, List.getElem_toArray, List.getElem_cons_zero, List.getElem_cons_succ, List.setIfInBounds_toArray, List.set_cons_zero, List.set_cons_succ]
  refine wpAnyZ_take (i := 11) (v := .int .i64 0) [] rfl (by kernel_rfl) (by kernel_rfl) (by kernel_rfl) (by kernel_rfl) (fun _ _ _ h => h) (Or.inl ⟨by kernel_rfl, fun w' hSw => ?_⟩) hHeld ?_
  · clear hHeld hSw
    go_simp
  simp only [Act.put, List.getElem_toArray, List.getElem_cons_zero, List.getElem_cons_succ, List.setIfInBounds_toArray, List.set_cons_zero, List.set_cons_succ]
  clear hHeld
  refine wpAnyZ_done (by kernel_rfl) ?_ _
  have t0 : W5.cell? ⟨b, off, none⟩ = some (.string ⟨#[116]⟩) := HT.out.1
  have t1 : W5.cell? ⟨b, off + 1, none⟩ = some (.slice A 1 cA) := HT.out.2.1
  have s0 : W5.cell? ⟨S, 0, none⟩ = some (.int .i64 0) := HS.out.cell (i := 0) (by omega)
  have s1 : W5.cell? ⟨S, 1, none⟩ = some (.int .i64 25) := HS.out.cell (i := 1) (by omega)
  have s2 : W5.cell? ⟨S, 2, none⟩ = some (.int .i64 20) := HS.out.cell (i := 2) (by omega)
  have s3 : W5.cell? ⟨S, 3, none⟩ = some (.slice none 0 0) := HS.out.cell (i := 3) (by omega)
  have hbl : b < W5.heap.size := World.block_lt_of_cell? _ _ t0
  have hSl : S < W5.heap.size := HS.out.lt
  go_wp2_with fail
  refine (qQuote_any ⟨#[116]⟩ A 1 cA [artV] none 0 0 none 0 0 calZ 0 25 0 W5 (Lib.hid HT.out.2.2) (Lib.hid (calZ_rd _)) (by decide) (by decide)).mono ?_
  rintro e W6 ⟨rfl, hb⟩
  rw [quo_T]
  have HB := Lib.hid (below_then HB.out hb)
  clear hb t0 t1 s0 s1 s2 s3 hbl hSl
  go_wp2_with fail
  go_ret
  exact ⟨rfl, HB.out⟩
end Go.Proofs.YtoekpdnpncgeeaaGreat
