/-
Several texts in one: TwO, TwP, TwQ.
-/
import Derived.Test.YtkbbapefgifagaaGreatDoorGTwK
/-
Two controllers: share.Valid.
-/
namespace Go.Proofs.YtkbbapefgifagaaGreatDoor
open Go.RowKit
set_option linter.unusedVariables false
set_option linter.unusedSimpArgs false
set_option maxRecDepth 100000 in
set_option maxHeartbeats 8000000 in
theorem shValid_ok (aO : Option Addr) (nO cO : Nat) (aI : Option Addr) (nI cI : Nat) (s : Shr) (w : World) (HS : Hid (RdShr w aO nO aI nI s)) (HO : Hid (ShOk s)) : Calls Tryz.prog 14 #[.agg #[.int .i64 s.hav, .int .i64 s.nxt, .slice aO nO cO, .slice aI nI cI]] w fun e w' => e = .returned (.bool true) ∧ Below w.heap.size w w' := by
  have ho64 : nO ≤ 64 := by rw [← HS.out.lo]; exact HO.out.lo
  have hi64 : nI ≤ 64 := by rw [← HS.out.li]; exact HO.out.li
  obtain ⟨h1, h2, n1, n2⟩ : 0 ≤ s.hav ∧ s.hav ≤ 1000 ∧ 1 ≤ s.nxt ∧ s.nxt ≤ 1000001 := ⟨HO.out.h1, HO.out.h2, HO.out.n1, HO.out.n2⟩
  obtain ⟨W0, hW0⟩ : ∃ W, W = w.alloc (.cells #[.int .i64 s.hav, .int .i64 s.nxt, .slice aO nO cO, .slice aI nI cI] 32) := ⟨_, rfl⟩
  obtain ⟨S, hS⟩ : ∃ S, S = w.heap.size := ⟨_, rfl⟩
  have HM : Hid (ShM w W0 S aO nO cO aI nI cI s) := Lib.hid (by rw [hW0, hS]; exact ShM.box (Below.refl _ _) HS.out)
  have HW0 := Lib.hid (And.intro hW0.symm hS.symm)
  clear hW0 hS
  go_enter Tryz.func14, Tryz.ntmps14
  go_upto_region 1 with (fail)
  rw [HW0.out.1, HW0.out.2]
  clear HW0
  obtain ⟨z0, z1, z2, z3⟩ : W0.cell? ⟨S, 0, none⟩ = some (.int .i64 s.hav) ∧ W0.cell? ⟨S, 1, none⟩ = some (.int .i64 s.nxt) ∧ W0.cell? ⟨S, 2, none⟩ = some (.slice aO nO cO) ∧ W0.cell? ⟨S, 3, none⟩ = some (.slice aI nI cI) := ⟨HM.out.k0, HM.out.k1, HM.out.k2, HM.out.k3⟩
  have hlS : S < W0.heap.size := World.block_lt_of_cell? W0 _ z0
  go_wp2_with fail
  clear z0 z1 z2 z3 hlS
  go_loopg [40] nO (fun g1 v40 wr => ∃ i : Nat, v40 = .int .i64 i ∧ i ≤ nO ∧ nO - i ≤ g1 ∧ Hid (ShM w wr S aO nO cO aI nI cI s))
  case atStart => exact ⟨0, by go_num, by omega, by omega, HM⟩
  case round =>
    clear HM
    obtain ⟨i, rfl, hi, hg1, HM⟩ := hrel
    by_cases hlt : i < nO
    · have hltz : (i : Int) < (nO : Int) := by omega
      obtain ⟨bb, off, x, hA, hlb, hgx, c0, c1⟩ := rdTrn_at HM.out.rd.ro (show i < s.out.length by rw [HS.out.lo]; exact hlt)
      have HX := Lib.hid (HO.out.oo x (List.mem_of_getElem? hgx))
      have hxn : ¬ s.nxt ≤ x.num := by have := HX.out.2; omega
      obtain ⟨W1, hW1⟩ : ∃ W, W = wr.alloc (.cells #[.int .i64 x.num, .int .i64 x.amp] 47) := ⟨_, rfl⟩
      obtain ⟨Y, hY⟩ : ∃ Y, Y = wr.heap.size := ⟨_, rfl⟩
      have hb1 : Below wr.heap.size wr W1 := by rw [hW1]; exact (Below.refl _ _).alloc (Nat.le_refl _) _
      have y0 : W1.cell? ⟨Y, 0, none⟩ = some (.int .i64 x.num) := by rw [hW1, hY]; go_simp
      have y1 : W1.cell? ⟨Y, 1, none⟩ = some (.int .i64 x.amp) := by rw [hW1, hY]; go_simp
      have hlY : Y < W1.heap.size := zb y0
      have HW1 := Lib.hid (And.intro hW1.symm hY.symm)
      have HM := Lib.hid (HM.out.keep hb1)
      clear hb1
      subst hA
      clear hgx hW1 hY
      go_upto_region 8 with (fail)
      rw [HW1.out.1, HW1.out.2]
      clear HW1 c0 c1
      go_wp2_with fail
      refine (shValT_ok x W1 HX.out.1).mono ?_
      rintro e w2 ⟨rfl, hb2⟩
      have y0 := (hb2.cell (p := ⟨Y, 0, none⟩) hlY).trans y0
      have hlY : Y < w2.heap.size := zb y0
      have HM := Lib.hid (HM.out.keep hb2)
      clear hb2 y1
      obtain ⟨z0, z1, z2, z3⟩ : w2.cell? ⟨S, 0, none⟩ = some (.int .i64 s.hav) ∧ w2.cell? ⟨S, 1, none⟩ = some (.int .i64 s.nxt) ∧ w2.cell? ⟨S, 2, none⟩ = some (.slice (some ⟨bb, off, none⟩) nO cO) ∧ w2.cell? ⟨S, 3, none⟩ = some (.slice aI nI cI) := ⟨HM.out.k0, HM.out.k1, HM.out.k2, HM.out.k3⟩
      have hlS : S < w2.heap.size := World.block_lt_of_cell? w2 _ z0
      go_wp2_with fail
      clear z0 z1 z2 z3 hlS
      go_roundg (nO - (i + 1))
      case measure => omega
      case rel => exact ⟨i + 1, by go_num, by omega, by omega, HM⟩
    · have hltz : ¬ (i : Int) < (nO : Int) := by omega
      obtain ⟨z0, z1, z2, z3⟩ : wr.cell? ⟨S, 0, none⟩ = some (.int .i64 s.hav) ∧ wr.cell? ⟨S, 1, none⟩ = some (.int .i64 s.nxt) ∧ wr.cell? ⟨S, 2, none⟩ = some (.slice aO nO cO) ∧ wr.cell? ⟨S, 3, none⟩ = some (.slice aI nI cI) := ⟨HM.out.k0, HM.out.k1, HM.out.k2, HM.out.k3⟩
      have hlS : S < wr.heap.size := World.block_lt_of_cell? wr _ z0
      go_wp2_with fail
      clear z0 z1 z2 z3 hlS
      go_loopg [58] nI (fun g1 v58 wr => ∃ i : Nat, v58 = .int .i64 i ∧ i ≤ nI ∧ nI - i ≤ g1 ∧ Hid (ShM w wr S aO nO cO aI nI cI s))
      case atStart => exact ⟨0, by go_num, by omega, by omega, HM⟩
      case round =>
        clear HM hi hg1 hlt hltz
        obtain ⟨i, rfl, hi, hg1, HM⟩ := hrel
        by_cases hlt : i < nI
        · have hltz : (i : Int) < (nI : Int) := by omega
          obtain ⟨bb, off, x, hA, hlb, hgx, c0⟩ := rdInt_at HM.out.rd.ri (show i < s.inn.length by rw [HS.out.li]; exact hlt)
          have hx := HO.out.oi x (List.mem_of_getElem? hgx)
          subst hA
          clear hgx
          go_wp2_with fail
          refine (shIsNum_ok x _ hx.1 hx.2).mono ?_
          rintro e w2 ⟨rfl, hw⟩
          have hw := hw.symm
          subst hw
          go_wp2_with fail
          go_roundg (nI - (i + 1))
          case measure => omega
          case rel => exact ⟨i + 1, by go_num, by omega, by omega, HM⟩
        · have hltz : ¬ (i : Int) < (nI : Int) := by omega
          go_wp2_with fail
          refine (shKeys_any _).mono ?_
          rintro e w2 ⟨rfl, hw⟩
          have hw := hw.symm
          subst hw
          obtain ⟨z0, z1, z2, z3⟩ : wr.cell? ⟨S, 0, none⟩ = some (.int .i64 s.hav) ∧ wr.cell? ⟨S, 1, none⟩ = some (.int .i64 s.nxt) ∧ wr.cell? ⟨S, 2, none⟩ = some (.slice aO nO cO) ∧ wr.cell? ⟨S, 3, none⟩ = some (.slice aI nI cI) := ⟨HM.out.k0, HM.out.k1, HM.out.k2, HM.out.k3⟩
          have hlS : S < wr.heap.size := World.block_lt_of_cell? wr _ z0
          go_wp2_with fail
          refine (shIncT_ok aO nO cO s.out wr (Lib.hid HM.out.rd.ro) (Lib.hid HM.out.rd.lo) (by omega) (Lib.hid HO.out.so)).mono ?_
          rintro e w3 ⟨rfl, hb3⟩
          have HM := Lib.hid (HM.out.keep hb3)
          clear hb3 z0 z1 z2 z3 hlS
          obtain ⟨z0, z1, z2, z3⟩ : w3.cell? ⟨S, 0, none⟩ = some (.int .i64 s.hav) ∧ w3.cell? ⟨S, 1, none⟩ = some (.int .i64 s.nxt) ∧ w3.cell? ⟨S, 2, none⟩ = some (.slice aO nO cO) ∧ w3.cell? ⟨S, 3, none⟩ = some (.slice aI nI cI) := ⟨HM.out.k0, HM.out.k1, HM.out.k2, HM.out.k3⟩
          have hlS : S < w3.heap.size := World.block_lt_of_cell? w3 _ z0
          go_wp2_with fail
          refine (shIncI_ok aI nI cI s.inn w3 (Lib.hid HM.out.rd.ri) (Lib.hid HM.out.rd.li) (by omega) (Lib.hid HO.out.si)).mono ?_
          rintro e w4 ⟨rfl, hb4⟩
          have HM := Lib.hid (HM.out.keep hb4)
          clear hb4 z0 z1 z2 z3 hlS
          go_wp2_with fail
          go_ret
          exact ⟨rfl, HM.out.bel⟩
end Go.Proofs.YtkbbapefgifagaaGreatDoor
/-
Two controllers: share.Send.
-/
namespace Go.Proofs.YtkbbapefgifagaaGreatDoor
open Go.RowKit
set_option linter.unusedVariables false
set_option linter.unusedSimpArgs false
def trF (a b : Int) : Nat → Value := fun i => if i = 0 then .int .i64 a else .int .i64 b
theorem load_trn {w : World} {b : Nat} {h n : Int} (ho : Own w b 47 2 (trF h n)) : (loadVar 47 ⟨b, 0, none⟩).run Tryz.prog w = .ok (.agg #[.int .i64 h, .int .i64 n]) w := by
  have h0 : w.cell? ⟨b, 0, none⟩ = some (.int .i64 h) := ho.cell (i := 0) (by omega)
  have h1 : w.cell? ⟨b, 1, none⟩ = some (.int .i64 n) := ho.cell (i := 1) (by omega)
  go_simp
theorem results_cctT {P : Program} {fn : Func} {a b t : Tmp} {ty tz : TypeId} {tmps : Array Value} {x y : Nat} {u v : Value} {w : World} (h : fn.results = #[.cell a ty, .cell b tz, .tmp t]) (ha : tmps.getD a undef = .pointer (some ⟨x, 0, none⟩)) (hb : tmps.getD b undef = .pointer (some ⟨y, 0, none⟩)) (hl : (loadVar ty ⟨x, 0, none⟩).run P w = .ok u w) (hm : (loadVar tz ⟨y, 0, none⟩).run P w = .ok v w) :
    (results fn tmps).run P w = .ok (.tuple #[u, v, tmps.getD t undef]) w := by
  have ha' : tmps[a]?.getD undef = .pointer (some ⟨x, 0, none⟩) := by simpa using ha
  have hb' : tmps[b]?.getD undef = .pointer (some ⟨y, 0, none⟩) := by simpa using hb
  simp [results, h, ha', hb', hl, hm, asAddr]
theorem results_ctT {P : Program} {fn : Func} {a t : Tmp} {ty : TypeId} {tmps : Array Value} {x : Nat} {u : Value} {w : World} (h : fn.results = #[.cell a ty, .tmp t]) (ha : tmps.getD a undef = .pointer (some ⟨x, 0, none⟩)) (hl : (loadVar ty ⟨x, 0, none⟩).run P w = .ok u w) :
    (results fn tmps).run P w = .ok (.tuple #[u, tmps.getD t undef]) w := by
  have ha' : tmps[a]?.getD undef = .pointer (some ⟨x, 0, none⟩) := by simpa using ha
  simp [results, h, ha', hl, asAddr]
/-- What Send does. -/
def SdPost (nO nI : Nat) (s : Shr) (n : Int) (w : World) (e : Ending) (w' : World) : Prop :=
  (s.out.length < 64 ∧ ∃ gP gI, e = .returned (.tuple #[.agg #[.int .i64 (s.hav - n), .int .i64 (s.nxt + 1), .slice (some ⟨gP, 0, none⟩) (nO + 1) (nO + 1), .slice (some ⟨gI, 0, none⟩) nI nI], .agg #[.int .i64 s.nxt, .int .i64 n], .int .i64 0]) ∧ w.heap.size ≤ gP ∧ w.heap.size ≤ gI ∧ RdShr w' (some ⟨gP, 0, none⟩) (nO + 1) (some ⟨gI, 0, none⟩) nI ⟨s.hav - n, s.nxt + 1, s.out ++ [⟨s.nxt, n⟩], s.inn⟩ ∧ Below w.heap.size w w') ∨
  (s.out.length = 64 ∧ e = .returned (.tuple #[.agg #[.int .i64 0, .int .i64 0, .slice none 0 0, .slice none 0 0], .agg #[.int .i64 0, .int .i64 0], .int .i64 10]) ∧ Below w.heap.size w w')
set_option maxRecDepth 100000 in
set_option maxHeartbeats 8000000 in
theorem shSend_ok (aO : Option Addr) (nO cO : Nat) (aI : Option Addr) (nI cI : Nat) (s : Shr) (n : Int) (w : World) (HS : Hid (RdShr w aO nO aI nI s)) (HO : Hid (ShOk s)) (hn1 : 1 ≤ n) (hn2 : n ≤ 1000) (hnh : n ≤ s.hav) (hnx : s.nxt ≤ 1000000) : Calls Tryz.prog 7 #[.agg #[.int .i64 s.hav, .int .i64 s.nxt, .slice aO nO cO, .slice aI nI cI], .int .i64 n] w (SdPost nO nI s n w) := by
  have ho64 : nO ≤ 64 := by rw [← HS.out.lo]; exact HO.out.lo
  have hi64 : nI ≤ 64 := by rw [← HS.out.li]; exact HO.out.li
  obtain ⟨h1, h2, n1⟩ : 0 ≤ s.hav ∧ s.hav ≤ 1000 ∧ 1 ≤ s.nxt := ⟨HO.out.h1, HO.out.h2, HO.out.n1⟩
  obtain ⟨W0, hW0⟩ : ∃ W, W = ((w.alloc (.cells #[.int .i64 s.hav, .int .i64 s.nxt, .slice aO nO cO, .slice aI nI cI] 32)).alloc (.cells #[.int .i64 0, .int .i64 0, .slice none 0 0, .slice none 0 0] 32)).alloc (.cells #[.int .i64 0, .int .i64 0] 47) := ⟨_, rfl⟩
  obtain ⟨S, hS⟩ : ∃ S, S = w.heap.size := ⟨_, rfl⟩
  have HM : Hid (ShM w W0 S aO nO cO aI nI cI s) := Lib.hid (by rw [hW0, hS]; exact ((ShM.box (Below.refl _ _) HS.out).keep ((Below.refl _ _).alloc (Nat.le_refl _) _)).keep ((Below.refl _ _).alloc (Nat.le_refl _) _))
  have HR : Hid (Own W0 (S + 1) 32 4 (shF 0 0 (.slice none 0 0) (.slice none 0 0))) := Lib.hid (by rw [hW0, hS]; exact (Own.newAt _ 32 _ _ (by simp) (n := 4) rfl (fun i hi => by match i, hi with | 0, _ => rfl | 1, _ => rfl | 2, _ => rfl | 3, _ => rfl)).alloc _)
  have HQ : Hid (Own W0 (S + 1 + 1) 47 2 (trF 0 0)) := Lib.hid (by rw [hW0, hS]; exact Own.newAt _ 47 _ _ (by simp) (n := 2) rfl (fun i hi => by match i, hi with | 0, _ => rfl | 1, _ => rfl))
  have HSZ : Hid (W0.heap.size = S + 3 ∧ w.heap.size = S) := Lib.hid (by rw [hW0, hS]; simp)
  have HW0 := Lib.hid (And.intro hW0.symm hS.symm)
  clear hW0 hS
  obtain ⟨R, hR⟩ : ∃ R, R = S + 1 := ⟨_, rfl⟩
  obtain ⟨Q, hQ⟩ : ∃ R, R = S + 1 + 1 := ⟨_, rfl⟩
  have HRD := Lib.hid (And.intro hR hQ)
  rw [← hR] at HR
  rw [← hQ] at HQ
  have HLT : Hid (S < R ∧ R < Q ∧ w.heap.size ≤ S ∧ Q < W0.heap.size) := Lib.hid (by have := HSZ.out; omega)
  clear hR hQ
  go_enter Tryz.func7, Tryz.ntmps7
  go_upto_region 2 with (fail)
  try simp only [World.size_alloc]
  rw [HW0.out.1, HW0.out.2, ← HRD.out.2, ← HRD.out.1]
  clear HW0
  obtain ⟨z0, z1, z2, z3⟩ : W0.cell? ⟨S, 0, none⟩ = some (.int .i64 s.hav) ∧ W0.cell? ⟨S, 1, none⟩ = some (.int .i64 s.nxt) ∧ W0.cell? ⟨S, 2, none⟩ = some (.slice aO nO cO) ∧ W0.cell? ⟨S, 3, none⟩ = some (.slice aI nI cI) := ⟨HM.out.k0, HM.out.k1, HM.out.k2, HM.out.k3⟩
  have hlS : S < W0.heap.size := World.block_lt_of_cell? W0 _ z0
  go_wp2_with fail
  refine (shValid_ok aO nO cO aI nI cI s W0 (Lib.hid HM.out.rd) HO).mono ?_
  rintro e W1 ⟨rfl, hb1⟩
  have HM := Lib.hid (HM.out.keep hb1)
  have HR := Lib.hid (HR.out.keep hb1 HR.out.lt)
  have HQ := Lib.hid (HQ.out.keep hb1 HQ.out.lt)
  have HSW := Lib.hid hb1.size
  clear hb1 z0 z1 z2 z3 hlS
  obtain ⟨z0, z1, z2, z3⟩ : W1.cell? ⟨S, 0, none⟩ = some (.int .i64 s.hav) ∧ W1.cell? ⟨S, 1, none⟩ = some (.int .i64 s.nxt) ∧ W1.cell? ⟨S, 2, none⟩ = some (.slice aO nO cO) ∧ W1.cell? ⟨S, 3, none⟩ = some (.slice aI nI cI) := ⟨HM.out.k0, HM.out.k1, HM.out.k2, HM.out.k3⟩
  have hlS : S < W1.heap.size := World.block_lt_of_cell? W1 _ z0
  by_cases hfull : nO = 64
  · have HFL : Hid (s.out.length = 64) := Lib.hid (by rw [HS.out.lo]; exact hfull)
    subst hfull
    have hne : ¬ R = Q := by have := HLT.out; omega
    have hne2 : ¬ Q = R := by have := HLT.out; omega
    obtain ⟨r0, r1, r2, r3⟩ : W1.cell? ⟨R, 0, none⟩ = some (.int .i64 0) ∧ W1.cell? ⟨R, 1, none⟩ = some (.int .i64 0) ∧ W1.cell? ⟨R, 2, none⟩ = some (.slice none 0 0) ∧ W1.cell? ⟨R, 3, none⟩ = some (.slice none 0 0) := ⟨HR.out.cell (i := 0) (by omega), HR.out.cell (i := 1) (by omega), HR.out.cell (i := 2) (by omega), HR.out.cell (i := 3) (by omega)⟩
    have hlR : R < W1.heap.size := HR.out.lt
    have f0R := HR.out.frozen 0
    have f1R := HR.out.frozen 1
    have f2R := HR.out.frozen 2
    have f3R := HR.out.frozen 3
    obtain ⟨q0, q1⟩ : W1.cell? ⟨Q, 0, none⟩ = some (.int .i64 (0)) ∧ W1.cell? ⟨Q, 1, none⟩ = some (.int .i64 (0)) := ⟨HQ.out.cell (i := 0) (by omega), HQ.out.cell (i := 1) (by omega)⟩
    have hlQ : Q < W1.heap.size := HQ.out.lt
    have f0Q := HQ.out.frozen 0
    have f1Q := HQ.out.frozen 1
    go_wp2_with fail
    obtain ⟨W2, hW2⟩ : ∃ W, W = (((W1.setCell ⟨R, 0, none⟩ (.int .i64 0)).setCell ⟨R, 1, none⟩ (.int .i64 0)).setCell ⟨R, 2, none⟩ (.slice none 0 0)).setCell ⟨R, 3, none⟩ (.slice none 0 0) := ⟨_, rfl⟩
    obtain ⟨W3, hW3⟩ : ∃ W, W = (W2.setCell ⟨Q, 0, none⟩ (.int .i64 0)).setCell ⟨Q, 1, none⟩ (.int .i64 0) := ⟨_, rfl⟩
    have hm2 : Mod (fun j => j = R) W1 W2 := by rw [hW2]; exact ((((Mod.refl (fun j => j = R) W1).setCell (p := ⟨R, 0, none⟩) (.inl rfl) _).setCell (p := ⟨R, 1, none⟩) (.inl rfl) _).setCell (p := ⟨R, 2, none⟩) (.inl rfl) _).setCell (p := ⟨R, 3, none⟩) (.inl rfl) _
    have hm3 : Mod (fun j => j = Q) W2 W3 := by rw [hW3]; exact ((Mod.refl (fun j => j = Q) W2).setCell (p := ⟨Q, 0, none⟩) (.inl rfl) _).setCell (p := ⟨Q, 1, none⟩) (.inl rfl) _
    have HR2 : Hid (Own W2 R 32 4 (shF 0 0 (.slice none 0 0) (.slice none 0 0))) := Lib.hid (by rw [hW2]; exact ((((HR.out.set 0 _).set 1 _).set 2 _).set 3 _).congr (fun i hi => by match i, hi with | 0, _ => rfl | 1, _ => rfl | 2, _ => rfl | 3, _ => rfl))
    have HQ2 := Lib.hid (HQ.out.mod hm2 (by omega))
    have HQ3 : Hid (Own W3 Q 47 2 (trF 0 0)) := Lib.hid (by rw [hW3]; exact ((HQ2.out.set 0 _).set 1 _).congr (fun i hi => by match i, hi with | 0, _ => rfl | 1, _ => rfl))
    have HR3 := HR2.out.mod hm3 hne
    rw [← hW2, ← hW3]
    refine bodyPost_ret (results_cctT (a := 4) (b := 5) (t := 6) (ty := 32) (tz := 47) (x := R) (y := Q) (by kernel_rfl) rfl rfl (load_shr HR3 rfl rfl) (load_trn HQ3.out)) rfl ?_
    exact .inr ⟨HFL.out, rfl, (HM.out.bel.trans (hm2.below HM.out.bel.size (fun j _ e => by have := HLT.out; omega))).trans (hm3.below (by have := hm2.size; have := HM.out.bel.size; omega) (fun j _ e => by have := HLT.out; omega))⟩
  · have hz64 : ¬ (nO : Int) = 64 := by omega
    have hz64b : ((nO : Int) == 64) = false := by simpa using hz64
    have HFL : Hid (s.out.length < 64) := Lib.hid (by rw [HS.out.lo]; omega)
    obtain ⟨W2, hW2⟩ : ∃ W, W = W1.alloc (.cells #[.int .i64 s.nxt, .int .i64 n] 47) := ⟨_, rfl⟩
    obtain ⟨X, hX⟩ : ∃ X, X = W1.heap.size := ⟨_, rfl⟩
    have hb2 : Below W1.heap.size W1 W2 := by rw [hW2]; exact (Below.refl _ _).alloc (Nat.le_refl _) _
    have HX : Hid (Own W2 X 47 2 (trF s.nxt n)) := Lib.hid (by rw [hW2]; exact Own.newAt _ 47 _ _ hX.symm (n := 2) rfl (fun i hi => by match i, hi with | 0, _ => rfl | 1, _ => rfl))
    have HXS : Hid (Q < X) := Lib.hid (by have := HLT.out; have := HSW.out; omega)
    have HW2 := Lib.hid (And.intro hW2.symm hX.symm)
    have HM := Lib.hid (HM.out.keep hb2)
    have HR := Lib.hid (HR.out.keep hb2 HR.out.lt)
    have HQ := Lib.hid (HQ.out.keep hb2 HQ.out.lt)
    have HQL := Lib.hid HQ.out.lt
    clear hb2 hW2 hX
    go_upto_region 13 with (fail)
    rw [HW2.out.1, HW2.out.2]
    clear HW2 z0 z1 z2 z3 hlS
    obtain ⟨z0, z1, z2, z3⟩ : W2.cell? ⟨S, 0, none⟩ = some (.int .i64 s.hav) ∧ W2.cell? ⟨S, 1, none⟩ = some (.int .i64 s.nxt) ∧ W2.cell? ⟨S, 2, none⟩ = some (.slice aO nO cO) ∧ W2.cell? ⟨S, 3, none⟩ = some (.slice aI nI cI) := ⟨HM.out.k0, HM.out.k1, HM.out.k2, HM.out.k3⟩
    have hlS : S < W2.heap.size := World.block_lt_of_cell? W2 _ z0
    go_wp2_with fail
    refine (shDup_ok aO nO cO aI nI cI s W2 (Lib.hid HM.out.rd) ho64 hi64).mono ?_
    rintro e W3 ⟨gO, gI, rfl, hgO, hgO2, hgI, hgI2, hrd, hb3⟩
    obtain ⟨W4, hW4⟩ : ∃ W, W = W3.alloc (.cells #[.int .i64 s.hav, .int .i64 s.nxt, .slice (some ⟨gO, 0, none⟩) nO nO, .slice (some ⟨gI, 0, none⟩) nI nI] 32) := ⟨_, rfl⟩
    obtain ⟨D, hD⟩ : ∃ X, X = W3.heap.size := ⟨_, rfl⟩
    have hb4 : Below W3.heap.size W3 W4 := by rw [hW4]; exact (Below.refl _ _).alloc (Nat.le_refl _) _
    have HD : Hid (Own W4 D 32 4 (shF s.hav s.nxt (.slice (some ⟨gO, 0, none⟩) nO nO) (.slice (some ⟨gI, 0, none⟩) nI nI))) := Lib.hid (by rw [hW4]; exact Own.newAt _ 32 _ _ hD.symm (n := 4) rfl (fun i hi => by match i, hi with | 0, _ => rfl | 1, _ => rfl | 2, _ => rfl | 3, _ => rfl))
    have hb24 := below_then hb3 hb4
    have HB4 := Lib.hid (HM.out.keep hb24).bel
    have HR := Lib.hid (HR.out.keep hb24 HR.out.lt)
    have HQ := Lib.hid (HQ.out.keep hb24 HQ.out.lt)
    have HXD : Hid (X < D) := Lib.hid (by have := HX.out.lt; have := hb3.size; omega)
    have HX := Lib.hid (HX.out.keep hb24 HX.out.lt)
    have HRS := Lib.hid (hrd.keep hb4)
    have HGG : Hid (Q < gO ∧ Q < gI ∧ w.heap.size ≤ gO ∧ w.heap.size ≤ gI) := Lib.hid (by have := HQL.out; have := HLT.out; omega)
    have HGD : Hid (gO ≠ D ∧ gI ≠ D) := Lib.hid (by omega)
    have HW4 := Lib.hid (And.intro hW4.symm hD.symm)
    clear hb3 hb4 hb24 hrd hgO hgO2 hgI hgI2 hW4 hD z0 z1 z2 z3 hlS HM
    go_upto_region 14 with (fail)
    rw [HW4.out.1, HW4.out.2]
    clear HW4
    obtain ⟨d0, d1, d2, d3⟩ : W4.cell? ⟨D, 0, none⟩ = some (.int .i64 s.hav) ∧ W4.cell? ⟨D, 1, none⟩ = some (.int .i64 s.nxt) ∧ W4.cell? ⟨D, 2, none⟩ = some (.slice (some ⟨gO, 0, none⟩) nO nO) ∧ W4.cell? ⟨D, 3, none⟩ = some (.slice (some ⟨gI, 0, none⟩) nI nI) := ⟨HD.out.cell (i := 0) (by omega), HD.out.cell (i := 1) (by omega), HD.out.cell (i := 2) (by omega), HD.out.cell (i := 3) (by omega)⟩
    have hlD : D < W4.heap.size := HD.out.lt
    have f0D := HD.out.frozen 0
    have f1D := HD.out.frozen 1
    have f2D := HD.out.frozen 2
    have f3D := HD.out.frozen 3
    have wh : IntKind.i64.wrap (s.hav - n) = s.hav - n := IntWalk.i64_in _ (by omega)
    have wx : IntKind.i64.wrap (s.nxt + 1) = s.nxt + 1 := IntWalk.i64_in _ (by omega)
    obtain ⟨W6, hW6⟩ : ∃ W, W = (W4.setCell ⟨D, 0, none⟩ (.int .i64 (s.hav - n))).setCell ⟨D, 1, none⟩ (.int .i64 (s.nxt + 1)) := ⟨_, rfl⟩
    have hm6 : Mod (fun j => j = D) W4 W6 := by rw [hW6]; exact ((Mod.refl (fun j => j = D) W4).setCell (p := ⟨D, 0, none⟩) (.inl rfl) _).setCell (p := ⟨D, 1, none⟩) (.inl rfl) _
    have HD6 : Hid (Own W6 D 32 4 (shF (s.hav - n) (s.nxt + 1) (.slice (some ⟨gO, 0, none⟩) nO nO) (.slice (some ⟨gI, 0, none⟩) nI nI))) := Lib.hid (by rw [hW6]; exact ((HD.out.set 0 _).set 1 _).congr (fun i hi => by match i, hi with | 0, _ => rfl | 1, _ => rfl | 2, _ => rfl | 3, _ => rfl))
    have HRS6 : Hid (RdShr W6 (some ⟨gO, 0, none⟩) nO (some ⟨gI, 0, none⟩) nI s) := Lib.hid ⟨HRS.out.ro.mod hm6 (fun a ha _ e => by injection ha with ha; subst ha; exact HGD.out.1 e), HRS.out.lo, HRS.out.ri.mod hm6 (fun a ha _ e => by injection ha with ha; subst ha; exact HGD.out.2 e), HRS.out.li⟩
    have HX6 := Lib.hid (HX.out.mod hm6 (by have := HXD.out; omega))
    have HR6 := Lib.hid (HR.out.mod hm6 (by have := HXD.out; have := HXS.out; have := HLT.out; omega))
    have HQ6 := Lib.hid (HQ.out.mod hm6 (by have := HXD.out; have := HXS.out; have := HLT.out; omega))
    have HB6 : Hid (Below w.heap.size w W6) := Lib.hid (HB4.out.trans (hm6.below HB4.out.size (fun j _ e => by have := HXD.out; have := HXS.out; have := HLT.out; omega)))
    have HD64 := Lib.hid hm6.size
    have HW6 := Lib.hid hW6.symm
    clear hW6 hm6 HR HQ HX HD HRS
    go_upto_region 16 with (fail)
    rw [HW6.out]
    clear d0 d1 d2 d3 hlD f0D f1D f2D f3D
    clear HW6 wh wx
    obtain ⟨d0, d1, d2, d3⟩ : W6.cell? ⟨D, 0, none⟩ = some (.int .i64 (s.hav - n)) ∧ W6.cell? ⟨D, 1, none⟩ = some (.int .i64 (s.nxt + 1)) ∧ W6.cell? ⟨D, 2, none⟩ = some (.slice (some ⟨gO, 0, none⟩) nO nO) ∧ W6.cell? ⟨D, 3, none⟩ = some (.slice (some ⟨gI, 0, none⟩) nI nI) := ⟨HD6.out.cell (i := 0) (by omega), HD6.out.cell (i := 1) (by omega), HD6.out.cell (i := 2) (by omega), HD6.out.cell (i := 3) (by omega)⟩
    have hlD : D < W6.heap.size := HD6.out.lt
    have f0D := HD6.out.frozen 0
    have f1D := HD6.out.frozen 1
    have f2D := HD6.out.frozen 2
    have f3D := HD6.out.frozen 3
    obtain ⟨x0, x1⟩ : W6.cell? ⟨X, 0, none⟩ = some (.int .i64 (s.nxt)) ∧ W6.cell? ⟨X, 1, none⟩ = some (.int .i64 (n)) := ⟨HX6.out.cell (i := 0) (by omega), HX6.out.cell (i := 1) (by omega)⟩
    have hlX : X < W6.heap.size := HX6.out.lt
    go_wp2_with fail
    refine (shInsT_ok gO nO nO s.out ⟨s.nxt, n⟩ W6 (Lib.hid HRS6.out.ro) (Lib.hid HRS6.out.lo) (by omega) (Nat.le_refl _)).mono ?_
    rintro e W7 ⟨gP, rfl, hgP, hrP, hb7⟩
    have HD7 := Lib.hid (HD6.out.keep hb7 HD6.out.lt)
    have HX7 := Lib.hid (HX6.out.keep hb7 HX6.out.lt)
    have HR7 := Lib.hid (HR6.out.keep hb7 HR6.out.lt)
    have HQ7 := Lib.hid (HQ6.out.keep hb7 HQ6.out.lt)
    have HB7 := Lib.hid (below_then HB6.out hb7)
    have HRI7 := Lib.hid (HRS6.out.ri.keep hb7)
    have HRP := Lib.hid hrP
    have HGP : Hid (D < gP ∧ w.heap.size ≤ gP) := Lib.hid (by have := HD6.out.lt; have := HB6.out.size; omega)
    clear hb7 hgP hrP d0 d1 d2 d3 hlD f0D f1D f2D f3D x0 x1 hlX
    obtain ⟨d0, d1, d2, d3⟩ : W7.cell? ⟨D, 0, none⟩ = some (.int .i64 (s.hav - n)) ∧ W7.cell? ⟨D, 1, none⟩ = some (.int .i64 (s.nxt + 1)) ∧ W7.cell? ⟨D, 2, none⟩ = some (.slice (some ⟨gO, 0, none⟩) nO nO) ∧ W7.cell? ⟨D, 3, none⟩ = some (.slice (some ⟨gI, 0, none⟩) nI nI) := ⟨HD7.out.cell (i := 0) (by omega), HD7.out.cell (i := 1) (by omega), HD7.out.cell (i := 2) (by omega), HD7.out.cell (i := 3) (by omega)⟩
    have hlD : D < W7.heap.size := HD7.out.lt
    have f0D := HD7.out.frozen 0
    have f1D := HD7.out.frozen 1
    have f2D := HD7.out.frozen 2
    have f3D := HD7.out.frozen 3
    obtain ⟨W8, hW8⟩ : ∃ W, W = W7.setCell ⟨D, 2, none⟩ (.slice (some ⟨gP, 0, none⟩) (nO + 1) (nO + 1)) := ⟨_, rfl⟩
    have hm8 : Mod (fun j => j = D) W7 W8 := by rw [hW8]; exact (Mod.refl (fun j => j = D) W7).setCell (p := ⟨D, 2, none⟩) (.inl rfl) _
    have HD8 : Hid (Own W8 D 32 4 (shF (s.hav - n) (s.nxt + 1) (.slice (some ⟨gP, 0, none⟩) (nO + 1) (nO + 1)) (.slice (some ⟨gI, 0, none⟩) nI nI))) := Lib.hid (by rw [hW8]; exact (HD7.out.set 2 _).congr (fun i hi => by match i, hi with | 0, _ => rfl | 1, _ => rfl | 2, _ => rfl | 3, _ => rfl))
    have HX8 := Lib.hid (HX7.out.mod hm8 (by have := HXD.out; omega))
    have HR8 := Lib.hid (HR7.out.mod hm8 (by have := HXD.out; have := HXS.out; have := HLT.out; omega))
    have HQ8 := Lib.hid (HQ7.out.mod hm8 (by have := HXD.out; have := HXS.out; have := HLT.out; omega))
    have HB8 : Hid (Below w.heap.size w W8) := Lib.hid (HB7.out.trans (hm8.below HB7.out.size (fun j _ e => by have := HXD.out; have := HXS.out; have := HLT.out; omega)))
    have HRI8 := Lib.hid (HRI7.out.mod hm8 (fun a ha _ e => by injection ha with ha; subst ha; exact HGD.out.2 e))
    have HRP8 : Hid (Rd 2 encTrn W8 (some ⟨gP, 0, none⟩) (s.out ++ [⟨s.nxt, n⟩])) := Lib.hid (by
      have h := HRP.out
      have e1 : insL s.out nO ⟨s.nxt, n⟩ = s.out ++ [⟨s.nxt, n⟩] := by unfold insL; rw [List.take_of_length_le (by rw [HRS6.out.lo]; exact Nat.le_refl _), List.drop_eq_nil_of_le (by rw [HRS6.out.lo]; exact Nat.le_refl _)]
      rw [e1] at h
      exact h.mod hm8 (fun a ha _ e => by injection ha with ha; subst ha; have := HGP.out; dsimp only at e; omega))
    have HNR : Hid (¬ (D = R ∨ D = Q) ∧ ¬ (X = R ∨ X = Q)) := Lib.hid (by have := HXD.out; have := HXS.out; have := HLT.out; omega)
    have HW8 := Lib.hid hW8.symm
    clear hW8 hm8 HRI7 HRP HB7 HQ7 HR7 HX7
    go_upto_region 17 with (fail)
    rw [HW8.out]
    clear HW8 d0 d1 d2 d3 hlD f0D f1D f2D f3D
    obtain ⟨d0, d1, d2, d3⟩ : W8.cell? ⟨D, 0, none⟩ = some (.int .i64 (s.hav - n)) ∧ W8.cell? ⟨D, 1, none⟩ = some (.int .i64 (s.nxt + 1)) ∧ W8.cell? ⟨D, 2, none⟩ = some (.slice (some ⟨gP, 0, none⟩) (nO + 1) (nO + 1)) ∧ W8.cell? ⟨D, 3, none⟩ = some (.slice (some ⟨gI, 0, none⟩) nI nI) := ⟨HD8.out.cell (i := 0) (by omega), HD8.out.cell (i := 1) (by omega), HD8.out.cell (i := 2) (by omega), HD8.out.cell (i := 3) (by omega)⟩
    have hlD : D < W8.heap.size := HD8.out.lt
    obtain ⟨x0, x1⟩ : W8.cell? ⟨X, 0, none⟩ = some (.int .i64 (s.nxt)) ∧ W8.cell? ⟨X, 1, none⟩ = some (.int .i64 (n)) := ⟨HX8.out.cell (i := 0) (by omega), HX8.out.cell (i := 1) (by omega)⟩
    have hlX : X < W8.heap.size := HX8.out.lt
    refine region_z (S := fun w' => Mod (fun j => j = R ∨ j = Q) W8 w') [] (by kernel_rfl) ((Mod.refl _ _).drew) (fun hHeld => ?_)
    refine zt (i := 0) (v := .agg #[.int .i64 (s.hav - n), .int .i64 (s.nxt + 1), .slice (some ⟨gP, 0, none⟩) (nO + 1) (nO + 1), .slice (some ⟨gI, 0, none⟩) nI nI]) [] (fun w' hSw => ?_) hHeld ?_
    · have e0 := (hSw.cell (zb d0) (by show ¬ (D = R ∨ D = Q); exact HNR.out.1)).trans d0
      have e1 := (hSw.cell (zb d1) (by show ¬ (D = R ∨ D = Q); exact HNR.out.1)).trans d1
      have e2 := (hSw.cell (zb d2) (by show ¬ (D = R ∨ D = Q); exact HNR.out.1)).trans d2
      have e3 := (hSw.cell (zb d3) (by show ¬ (D = R ∨ D = Q); exact HNR.out.1)).trans d3
      have eD : D < w'.heap.size := Nat.lt_of_lt_of_le hlD hSw.size
      clear hHeld hSw
      go_simp
    simp only [Act.put, zl0, zl1, zl2, zl3, zl4, zl5]
    refine zt (i := 1) (v := .agg #[.int .i64 s.nxt, .int .i64 n]) [] (fun w' hSw => ?_) hHeld ?_
    · have e0 := (hSw.cell (zb x0) (by show ¬ (X = R ∨ X = Q); exact HNR.out.2)).trans x0
      have e1 := (hSw.cell (zb x1) (by show ¬ (X = R ∨ X = Q); exact HNR.out.2)).trans x1
      have eX : X < w'.heap.size := Nat.lt_of_lt_of_le hlX hSw.size
      clear hHeld hSw
      go_simp
    simp only [Act.put, zl0, zl1, zl2, zl3, zl4, zl5]
    obtain ⟨r0, r1, r2, r3⟩ : W8.cell? ⟨R, 0, none⟩ = some (.int .i64 0) ∧ W8.cell? ⟨R, 1, none⟩ = some (.int .i64 0) ∧ W8.cell? ⟨R, 2, none⟩ = some (.slice none 0 0) ∧ W8.cell? ⟨R, 3, none⟩ = some (.slice none 0 0) := ⟨HR8.out.cell (i := 0) (by omega), HR8.out.cell (i := 1) (by omega), HR8.out.cell (i := 2) (by omega), HR8.out.cell (i := 3) (by omega)⟩
    have hlR : R < W8.heap.size := HR8.out.lt
    have f0R := HR8.out.frozen 0
    have f1R := HR8.out.frozen 1
    have f2R := HR8.out.frozen 2
    have f3R := HR8.out.frozen 3
    refine zo 2 (fun K' hK => ?_)
    go_simp
    obtain ⟨W9, hw⟩ : ∃ W, W = ((((W8.setCell ⟨R, 0, none⟩ (.int .i64 (s.hav - n))).setCell ⟨R, 1, none⟩ (.int .i64 (s.nxt + 1))).setCell ⟨R, 2, none⟩ (.slice (some ⟨gP, 0, none⟩) (nO + 1) (nO + 1))).setCell ⟨R, 3, none⟩ (.slice (some ⟨gI, 0, none⟩) nI nI)).drew := ⟨_, rfl⟩
    rw [← hw]
    have hmw : Mod (fun j => j = R) W8 W9 := by rw [hw]; exact Mod.drew (((((Mod.refl (fun j => j = R) W8).setCell (p := ⟨R, 0, none⟩) (.inl rfl) _).setCell (p := ⟨R, 1, none⟩) (.inl rfl) _).setCell (p := ⟨R, 2, none⟩) (.inl rfl) _).setCell (p := ⟨R, 3, none⟩) (.inl rfl) _)
    have HR9 : Hid (Own W9 R 32 4 (shF (s.hav - n) (s.nxt + 1) (.slice (some ⟨gP, 0, none⟩) (nO + 1) (nO + 1)) (.slice (some ⟨gI, 0, none⟩) nI nI))) := Lib.hid (by rw [hw]; exact (((((HR8.out.set 0 _).set 1 _).set 2 _).set 3 _).congr (fun i hi => by match i, hi with | 0, _ => rfl | 1, _ => rfl | 2, _ => rfl | 3, _ => rfl)).drew)
    have HQ9 := Lib.hid (HQ8.out.mod hmw (by have := HLT.out; omega))
    clear r0 r1 r2 r3 hlR f0R f1R f2R f3R
    clear hw
    refine hK.out _ _ ?_ (fun hHeld' => ?_)
    · exact (Mod.refl _ W8).trans (hmw.mono (fun j _ h => .inl h))
    clear hK K' hHeld hmw
    have hHeld := hHeld'
    clear hHeld'
    try simp only [Act.put, zl0, zl1, zl2, zl3, zl4, zl5]
    obtain ⟨q0, q1⟩ : W9.cell? ⟨Q, 0, none⟩ = some (.int .i64 (0)) ∧ W9.cell? ⟨Q, 1, none⟩ = some (.int .i64 (0)) := ⟨HQ9.out.cell (i := 0) (by omega), HQ9.out.cell (i := 1) (by omega)⟩
    have hlQ : Q < W9.heap.size := HQ9.out.lt
    have f0Q := HQ9.out.frozen 0
    have f1Q := HQ9.out.frozen 1
    refine zo 3 (fun K' hK => ?_)
    go_simp
    obtain ⟨WX, hw⟩ : ∃ W, W = (W9.setCell ⟨Q, 0, none⟩ (.int .i64 s.nxt)).setCell ⟨Q, 1, none⟩ (.int .i64 n) := ⟨_, rfl⟩
    rw [← hw]
    have hmw : Mod (fun j => j = Q) W9 WX := by rw [hw]; exact ((Mod.refl (fun j => j = Q) W9).setCell (p := ⟨Q, 0, none⟩) (.inl rfl) _).setCell (p := ⟨Q, 1, none⟩) (.inl rfl) _
    have HQX : Hid (Own WX Q 47 2 (trF s.nxt n)) := Lib.hid (by rw [hw]; exact ((HQ9.out.set 0 _).set 1 _).congr (fun i hi => by match i, hi with | 0, _ => rfl | 1, _ => rfl))
    have HRX := Lib.hid (HR9.out.mod hmw (by have := HLT.out; omega))
    clear q0 q1 hlQ f0Q f1Q
    clear hw
    refine hK.out _ _ ?_ (fun hHeld' => ?_)
    · exact hHeld.trans (hmw.mono (fun j _ h => .inr h))
    clear hK K' hHeld hmw
    have hHeld := hHeld'
    clear hHeld'
    try simp only [Act.put, zl0, zl1, zl2, zl3, zl4, zl5]
    refine zt (i := 4) (v := .int .i64 0) [] (fun w' hSw => ?_) hHeld ?_
    · clear hHeld hSw
      go_simp
    simp only [Act.put, zl0, zl1, zl2, zl3, zl4, zl5]
    refine wpAnyZ_done (by kernel_rfl) ?_ _
    go_wp2_with fail
    refine bodyPost_ret (results_cctT (a := 4) (b := 5) (t := 6) (ty := 32) (tz := 47) (x := R) (y := Q) (by kernel_rfl) rfl rfl (load_shr HRX.out rfl rfl) (load_trn HQX.out)) rfl ?_
    refine .inl ⟨HFL.out, gP, gI, rfl, HGP.out.2, HGG.out.2.2.2, ⟨?_, by show (s.out ++ [(⟨s.nxt, n⟩ : Trn)]).length = nO + 1; rw [List.length_append, HS.out.lo]; rfl, ?_, HS.out.li⟩, HB8.out.trans (hHeld.below HB8.out.size (fun j _ e => by have := HLT.out; omega))⟩
    · exact HRP8.out.mod hHeld (fun a ha _ e => by injection ha with ha; subst ha; have h1 := HGP.out; have h2 := HXD.out; have h3 := HXS.out; have h4 := HLT.out; dsimp only at e; omega)
    · exact HRI8.out.mod hHeld (fun a ha _ e => by injection ha with ha; subst ha; have h1 := HGG.out; have h4 := HLT.out; dsimp only at e; omega)
end Go.Proofs.YtkbbapefgifagaaGreatDoor
/-
Two controllers: share.Receive, Acked.
-/
namespace Go.Proofs.YtkbbapefgifagaaGreatDoor
open Go.RowKit
set_option linter.unusedVariables false
set_option linter.unusedSimpArgs false
/-- What the search tells of an ordered list. -/
theorem ins_facts {ks : List Int} {x : Int} {k : Nat} (hlo : ∀ i y, ks[i]? = some y → i < k → y < x) (hhi : ∀ i y, ks[i]? = some y → k ≤ i → x ≤ y) (hs : ks.Pairwise (· < ·)) :
    (fdB ks x k = true → x ∈ ks) ∧ (fdB ks x k = false → x ∉ ks ∧ (insL ks k x).Pairwise (· < ·)) := by
  constructor
  · intro h
    unfold fdB at h
    cases hk : ks[k]? with
    | none => rw [hk] at h; cases h
    | some y =>
      rw [hk] at h
      have e : y = x := by simpa using h
      subst e
      exact List.mem_of_getElem? hk
  · intro h
    have hne : ∀ i y, ks[i]? = some y → k ≤ i → x < y := by
      intro i y hy hi
      have h1 := hhi i y hy hi
      obtain ⟨hil, e1⟩ := List.getElem?_eq_some_iff.1 hy
      have hkl : k < ks.length := by omega
      have hk := List.getElem?_eq_getElem hkl
      unfold fdB at h
      rw [hk] at h
      have h2 : ks[k] ≠ x := by simpa using h
      have h3 := hhi k _ hk (Nat.le_refl _)
      rcases Nat.lt_or_ge k i with h4 | h4
      · have := List.pairwise_iff_getElem.1 hs k i hkl hil h4
        rw [e1] at this
        omega
      · have : i = k := by omega
        subst this
        rw [e1] at h2
        omega
    constructor
    · intro hm
      obtain ⟨i, hil, e⟩ := List.getElem_of_mem hm
      have hx : ks[i]? = some x := by rw [List.getElem?_eq_getElem hil, e]
      rcases Nat.lt_or_ge i k with h1 | h1
      · have := hlo i x hx h1; omega
      · have := hne i x hx h1; omega
    · unfold insL
      refine List.pairwise_append.2 ⟨hs.sublist (List.take_sublist _ _), List.pairwise_cons.2 ⟨?_, hs.sublist (List.drop_sublist _ _)⟩, ?_⟩
      · intro y hy
        obtain ⟨i, hil, e⟩ := List.getElem_of_mem hy
        have hx : (ks.drop k)[i]? = some y := by rw [List.getElem?_eq_getElem hil, e]
        rw [List.getElem?_drop] at hx
        exact hne _ y hx (by omega)
      · intro a ha b hb
        obtain ⟨i, hil, e⟩ := List.getElem_of_mem ha
        have hil2 := hil
        rw [List.length_take] at hil2
        have hx : (ks.take k)[i]? = some a := by rw [List.getElem?_eq_getElem hil, e]
        rw [List.getElem?_take_of_lt (by omega)] at hx
        have h1 := hlo i a hx (by omega)
        rcases List.mem_cons.1 hb with rfl | hb
        · exact h1
        · obtain ⟨j, hjl, e2⟩ := List.getElem_of_mem hb
          have hy : (ks.drop k)[j]? = some b := by rw [List.getElem?_eq_getElem hjl, e2]
          rw [List.getElem?_drop] at hy
          have := hne _ b hy (by omega)
          omega
/-- What Receive does. -/
def RvPost (nO nI : Nat) (s : Shr) (x : Trn) (w : World) (e : Ending) (w' : World) : Prop :=
  (x.num ∈ s.inn ∧ e = .returned (.tuple #[.agg #[.int .i64 0, .int .i64 0, .slice none 0 0, .slice none 0 0], .int .i64 5]) ∧ Below w.heap.size w w') ∨
  (x.num ∉ s.inn ∧ s.inn.length = 64 ∧ e = .returned (.tuple #[.agg #[.int .i64 0, .int .i64 0, .slice none 0 0, .slice none 0 0], .int .i64 10]) ∧ Below w.heap.size w w') ∨
  (x.num ∉ s.inn ∧ s.inn.length < 64 ∧ ∃ k gO gP, e = .returned (.tuple #[.agg #[.int .i64 (s.hav + x.amp), .int .i64 s.nxt, .slice (some ⟨gO, 0, none⟩) nO nO, .slice (some ⟨gP, 0, none⟩) (nI + 1) (nI + 1)], .int .i64 0]) ∧ w.heap.size ≤ gO ∧ w.heap.size ≤ gP ∧ RdShr w' (some ⟨gO, 0, none⟩) nO (some ⟨gP, 0, none⟩) (nI + 1) ⟨s.hav + x.amp, s.nxt, s.out, insL s.inn k x.num⟩ ∧ (insL s.inn k x.num).Pairwise (· < ·) ∧ Below w.heap.size w w')
/-- What Acked does. -/
def AkPost (nO nI : Nat) (s : Shr) (w : World) (e : Ending) (w' : World) : Prop :=
  (∃ k gP gI, e = .returned (.tuple #[.agg #[.int .i64 s.hav, .int .i64 s.nxt, .slice (some ⟨gP, 0, none⟩) (nO - 1) (nO - 1), .slice (some ⟨gI, 0, none⟩) nI nI], .int .i64 0]) ∧ w.heap.size ≤ gP ∧ w.heap.size ≤ gI ∧ RdShr w' (some ⟨gP, 0, none⟩) (nO - 1) (some ⟨gI, 0, none⟩) nI ⟨s.hav, s.nxt, s.out.take k ++ s.out.drop (k + 1), s.inn⟩ ∧ Below w.heap.size w w') ∨
  (e = .returned (.tuple #[.agg #[.int .i64 0, .int .i64 0, .slice none 0 0, .slice none 0 0], .int .i64 4]) ∧ Below w.heap.size w w')
set_option maxRecDepth 100000 in
set_option maxHeartbeats 8000000 in
theorem shReceive_ok (aO : Option Addr) (nO cO : Nat) (aI : Option Addr) (nI cI : Nat) (s : Shr) (x : Trn) (w : World) (HS : Hid (RdShr w aO nO aI nI s)) (HO : Hid (ShOk s)) (HX : Hid (TrnOk x)) (hsum : s.hav + x.amp ≤ 1000) : Calls Tryz.prog 8 #[.agg #[.int .i64 s.hav, .int .i64 s.nxt, .slice aO nO cO, .slice aI nI cI], .agg #[.int .i64 x.num, .int .i64 x.amp]] w (RvPost nO nI s x w) := by
  have ho64 : nO ≤ 64 := by rw [← HS.out.lo]; exact HO.out.lo
  have hi64 : nI ≤ 64 := by rw [← HS.out.li]; exact HO.out.li
  obtain ⟨h1, h2, n1⟩ : 0 ≤ s.hav ∧ s.hav ≤ 1000 ∧ 1 ≤ s.nxt := ⟨HO.out.h1, HO.out.h2, HO.out.n1⟩
  obtain ⟨W0, hW0⟩ : ∃ W, W = ((w.alloc (.cells #[.int .i64 s.hav, .int .i64 s.nxt, .slice aO nO cO, .slice aI nI cI] 32)).alloc (.cells #[.int .i64 x.num, .int .i64 x.amp] 47)).alloc (.cells #[.int .i64 0, .int .i64 0, .slice none 0 0, .slice none 0 0] 32) := ⟨_, rfl⟩
  obtain ⟨S, hS⟩ : ∃ S, S = w.heap.size := ⟨_, rfl⟩
  have HM : Hid (ShM w W0 S aO nO cO aI nI cI s) := Lib.hid (by rw [hW0, hS]; exact ((ShM.box (Below.refl _ _) HS.out).keep ((Below.refl _ _).alloc (Nat.le_refl _) _)).keep ((Below.refl _ _).alloc (Nat.le_refl _) _))
  have HR : Hid (Own W0 (S + 1 + 1) 32 4 (shF 0 0 (.slice none 0 0) (.slice none 0 0))) := Lib.hid (by rw [hW0, hS]; exact Own.newAt _ 32 _ _ (by simp) (n := 4) rfl (fun i hi => by match i, hi with | 0, _ => rfl | 1, _ => rfl | 2, _ => rfl | 3, _ => rfl))
  have HY : Hid (Own W0 (S + 1) 47 2 (trF x.num x.amp)) := Lib.hid (by rw [hW0, hS]; exact (Own.newAt _ 47 _ _ (by simp) (n := 2) rfl (fun i hi => by match i, hi with | 0, _ => rfl | 1, _ => rfl)).alloc _)
  have HSZ : Hid (W0.heap.size = S + 3 ∧ w.heap.size = S) := Lib.hid (by rw [hW0, hS]; simp)
  have HW0 := Lib.hid (And.intro hW0.symm hS.symm)
  clear hW0 hS
  obtain ⟨R, hR⟩ : ∃ R, R = S + 1 + 1 := ⟨_, rfl⟩
  obtain ⟨Y, hY⟩ : ∃ R, R = S + 1 := ⟨_, rfl⟩
  have HRD := Lib.hid (And.intro hR hY)
  rw [← hY] at HY
  rw [← hR] at HR
  have HLT : Hid (S < R ∧ S < Y ∧ Y < R ∧ w.heap.size ≤ S ∧ R < W0.heap.size) := Lib.hid (by have := HSZ.out; omega)
  clear hR hY
  go_enter Tryz.func8, Tryz.ntmps8
  go_upto_region 1 with (fail)
  try simp only [World.size_alloc]
  rw [HW0.out.1, HW0.out.2, ← HRD.out.1, ← HRD.out.2]
  clear HW0
  obtain ⟨z0, z1, z2, z3⟩ : W0.cell? ⟨S, 0, none⟩ = some (.int .i64 s.hav) ∧ W0.cell? ⟨S, 1, none⟩ = some (.int .i64 s.nxt) ∧ W0.cell? ⟨S, 2, none⟩ = some (.slice aO nO cO) ∧ W0.cell? ⟨S, 3, none⟩ = some (.slice aI nI cI) := ⟨HM.out.k0, HM.out.k1, HM.out.k2, HM.out.k3⟩
  have hlS : S < W0.heap.size := World.block_lt_of_cell? W0 _ z0
  obtain ⟨y0, y1⟩ : W0.cell? ⟨Y, 0, none⟩ = some (.int .i64 (x.num)) ∧ W0.cell? ⟨Y, 1, none⟩ = some (.int .i64 (x.amp)) := ⟨HY.out.cell (i := 0) (by omega), HY.out.cell (i := 1) (by omega)⟩
  have hlY : Y < W0.heap.size := HY.out.lt
  go_wp2_with fail
  refine (shValid_ok aO nO cO aI nI cI s W0 (Lib.hid HM.out.rd) HO).mono ?_
  rintro e W1 ⟨rfl, hb1⟩
  have HM := Lib.hid (HM.out.keep hb1)
  have HR := Lib.hid (HR.out.keep hb1 HR.out.lt)
  have HY := Lib.hid (HY.out.keep hb1 HY.out.lt)
  have HSW := Lib.hid hb1.size
  clear hb1 z0 z1 z2 z3 hlS
  clear y0 y1 hlY
  obtain ⟨y0, y1⟩ : W1.cell? ⟨Y, 0, none⟩ = some (.int .i64 (x.num)) ∧ W1.cell? ⟨Y, 1, none⟩ = some (.int .i64 (x.amp)) := ⟨HY.out.cell (i := 0) (by omega), HY.out.cell (i := 1) (by omega)⟩
  have hlY : Y < W1.heap.size := HY.out.lt
  have hxa : 1 ≤ x.amp := HX.out.a1
  go_wp2_with fail
  refine (shValT_ok x W1 HX.out).mono ?_
  rintro e W2 ⟨rfl, hb2⟩
  have HM := Lib.hid (HM.out.keep hb2)
  have HR := Lib.hid (HR.out.keep hb2 HR.out.lt)
  have HY := Lib.hid (HY.out.keep hb2 HY.out.lt)
  have HSW := Lib.hid (Nat.le_trans HSW.out hb2.size)
  clear hb2
  clear y0 y1 hlY
  go_wp2_with fail
  refine (shKeys_any _).mono ?_
  rintro e W2b ⟨rfl, hw⟩
  have hw := hw.symm
  subst hw
  obtain ⟨z0, z1, z2, z3⟩ : W2.cell? ⟨S, 0, none⟩ = some (.int .i64 s.hav) ∧ W2.cell? ⟨S, 1, none⟩ = some (.int .i64 s.nxt) ∧ W2.cell? ⟨S, 2, none⟩ = some (.slice aO nO cO) ∧ W2.cell? ⟨S, 3, none⟩ = some (.slice aI nI cI) := ⟨HM.out.k0, HM.out.k1, HM.out.k2, HM.out.k3⟩
  have hlS : S < W2.heap.size := World.block_lt_of_cell? W2 _ z0
  obtain ⟨y0, y1⟩ : W2.cell? ⟨Y, 0, none⟩ = some (.int .i64 (x.num)) ∧ W2.cell? ⟨Y, 1, none⟩ = some (.int .i64 (x.amp)) := ⟨HY.out.cell (i := 0) (by omega), HY.out.cell (i := 1) (by omega)⟩
  have hlY : Y < W2.heap.size := HY.out.lt
  go_wp2_with fail
  refine (shFindI_ok aI nI cI s.inn x.num W2 (Lib.hid HM.out.rd.ri) (Lib.hid HM.out.rd.li) (by omega) (Lib.hid HO.out.si)).mono ?_
  rintro e W3 ⟨at_, hat, hlo, hhi, rfl, hb3⟩
  have HAT : Hid (at_ ≤ nI) := Lib.hid (by rw [List.length_map, HS.out.li] at hat; exact hat)
  have HIN := Lib.hid (ins_facts (x := x.num) (ks := s.inn) (by simpa using hlo) (by simpa using hhi) (by simpa using HO.out.si))
  have HM := Lib.hid (HM.out.keep hb3)
  have HR := Lib.hid (HR.out.keep hb3 HR.out.lt)
  have HY := Lib.hid (HY.out.keep hb3 HY.out.lt)
  have HSW := Lib.hid (Nat.le_trans HSW.out hb3.size)
  clear hb3
  clear hat hlo hhi z0 z1 z2 z3 hlS y0 y1 hlY
  obtain ⟨q, hq⟩ : ∃ q, q = fdB (s.inn.map id) x.num at_ := ⟨_, rfl⟩
  have HQ : Hid (q = fdB s.inn x.num at_) := Lib.hid (by rw [hq, List.map_id])
  rw [← hq]
  clear hq
  obtain ⟨z0, z1, z2, z3⟩ : W3.cell? ⟨S, 0, none⟩ = some (.int .i64 s.hav) ∧ W3.cell? ⟨S, 1, none⟩ = some (.int .i64 s.nxt) ∧ W3.cell? ⟨S, 2, none⟩ = some (.slice aO nO cO) ∧ W3.cell? ⟨S, 3, none⟩ = some (.slice aI nI cI) := ⟨HM.out.k0, HM.out.k1, HM.out.k2, HM.out.k3⟩
  have hlS : S < W3.heap.size := World.block_lt_of_cell? W3 _ z0
  obtain ⟨y0, y1⟩ : W3.cell? ⟨Y, 0, none⟩ = some (.int .i64 (x.num)) ∧ W3.cell? ⟨Y, 1, none⟩ = some (.int .i64 (x.amp)) := ⟨HY.out.cell (i := 0) (by omega), HY.out.cell (i := 1) (by omega)⟩
  have hlY : Y < W3.heap.size := HY.out.lt
  cases q
  case true =>
    have HIY := Lib.hid (HIN.out.1 HQ.out.symm)
    obtain ⟨r0, r1, r2, r3⟩ : W3.cell? ⟨R, 0, none⟩ = some (.int .i64 0) ∧ W3.cell? ⟨R, 1, none⟩ = some (.int .i64 0) ∧ W3.cell? ⟨R, 2, none⟩ = some (.slice none 0 0) ∧ W3.cell? ⟨R, 3, none⟩ = some (.slice none 0 0) := ⟨HR.out.cell (i := 0) (by omega), HR.out.cell (i := 1) (by omega), HR.out.cell (i := 2) (by omega), HR.out.cell (i := 3) (by omega)⟩
    have hlR : R < W3.heap.size := HR.out.lt
    have f0R := HR.out.frozen 0
    have f1R := HR.out.frozen 1
    have f2R := HR.out.frozen 2
    have f3R := HR.out.frozen 3
    go_wp2_with fail
    obtain ⟨W2, hW2⟩ : ∃ W, W = (((W3.setCell ⟨R, 0, none⟩ (.int .i64 0)).setCell ⟨R, 1, none⟩ (.int .i64 0)).setCell ⟨R, 2, none⟩ (.slice none 0 0)).setCell ⟨R, 3, none⟩ (.slice none 0 0) := ⟨_, rfl⟩
    have hm2 : Mod (fun j => j = R) W3 W2 := by rw [hW2]; exact ((((Mod.refl (fun j => j = R) W3).setCell (p := ⟨R, 0, none⟩) (.inl rfl) _).setCell (p := ⟨R, 1, none⟩) (.inl rfl) _).setCell (p := ⟨R, 2, none⟩) (.inl rfl) _).setCell (p := ⟨R, 3, none⟩) (.inl rfl) _
    have HR2 : Hid (Own W2 R 32 4 (shF 0 0 (.slice none 0 0) (.slice none 0 0))) := Lib.hid (by rw [hW2]; exact ((((HR.out.set 0 _).set 1 _).set 2 _).set 3 _).congr (fun i hi => by match i, hi with | 0, _ => rfl | 1, _ => rfl | 2, _ => rfl | 3, _ => rfl))
    rw [← hW2]
    refine bodyPost_ret (results_ctT (a := 4) (t := 5) (ty := 32) (x := R) (by kernel_rfl) rfl (load_shr HR2.out rfl rfl)) rfl ?_
    have HBZ : Below w.heap.size w W2 := HM.out.bel.trans (hm2.below HM.out.bel.size (fun j _ e => by have := HLT.out; omega))
    exact .inl ⟨HIY.out, rfl, HBZ⟩
  have HIF := Lib.hid (HIN.out.2 HQ.out.symm)
  by_cases hfull : nI = 64
  · have HFL : Hid (s.inn.length = 64) := Lib.hid (by rw [HS.out.li]; exact hfull)
    subst hfull
    obtain ⟨r0, r1, r2, r3⟩ : W3.cell? ⟨R, 0, none⟩ = some (.int .i64 0) ∧ W3.cell? ⟨R, 1, none⟩ = some (.int .i64 0) ∧ W3.cell? ⟨R, 2, none⟩ = some (.slice none 0 0) ∧ W3.cell? ⟨R, 3, none⟩ = some (.slice none 0 0) := ⟨HR.out.cell (i := 0) (by omega), HR.out.cell (i := 1) (by omega), HR.out.cell (i := 2) (by omega), HR.out.cell (i := 3) (by omega)⟩
    have hlR : R < W3.heap.size := HR.out.lt
    have f0R := HR.out.frozen 0
    have f1R := HR.out.frozen 1
    have f2R := HR.out.frozen 2
    have f3R := HR.out.frozen 3
    go_wp2_with fail
    obtain ⟨W2, hW2⟩ : ∃ W, W = (((W3.setCell ⟨R, 0, none⟩ (.int .i64 0)).setCell ⟨R, 1, none⟩ (.int .i64 0)).setCell ⟨R, 2, none⟩ (.slice none 0 0)).setCell ⟨R, 3, none⟩ (.slice none 0 0) := ⟨_, rfl⟩
    have hm2 : Mod (fun j => j = R) W3 W2 := by rw [hW2]; exact ((((Mod.refl (fun j => j = R) W3).setCell (p := ⟨R, 0, none⟩) (.inl rfl) _).setCell (p := ⟨R, 1, none⟩) (.inl rfl) _).setCell (p := ⟨R, 2, none⟩) (.inl rfl) _).setCell (p := ⟨R, 3, none⟩) (.inl rfl) _
    have HR2 : Hid (Own W2 R 32 4 (shF 0 0 (.slice none 0 0) (.slice none 0 0))) := Lib.hid (by rw [hW2]; exact ((((HR.out.set 0 _).set 1 _).set 2 _).set 3 _).congr (fun i hi => by match i, hi with | 0, _ => rfl | 1, _ => rfl | 2, _ => rfl | 3, _ => rfl))
    rw [← hW2]
    refine bodyPost_ret (results_ctT (a := 4) (t := 5) (ty := 32) (x := R) (by kernel_rfl) rfl (load_shr HR2.out rfl rfl)) rfl ?_
    have HBZ : Below w.heap.size w W2 := HM.out.bel.trans (hm2.below HM.out.bel.size (fun j _ e => by have := HLT.out; omega))
    exact .inr (.inl ⟨HIF.out.1, HFL.out, rfl, HBZ⟩)
  have hz64 : ¬ (nI : Int) = 64 := by omega
  have hz64b : ((nI : Int) == 64) = false := by simpa using hz64
  have HFL : Hid (s.inn.length < 64) := Lib.hid (by rw [HS.out.li]; omega)
  have wh : IntKind.i64.wrap (s.hav + x.amp) = s.hav + x.amp := IntWalk.i64_in _ (by omega)
  have hsz : ¬ 1000 < s.hav + x.amp := by omega
  go_upto_region 11 with (fail)
  clear y0 y1 hlY
  go_wp2_with fail
  refine (shDup_ok aO nO cO aI nI cI s W3 (Lib.hid HM.out.rd) ho64 hi64).mono ?_
  rintro e W3 ⟨gO, gI, rfl, hgO, hgO2, hgI, hgI2, hrd, hb3⟩
  obtain ⟨W4, hW4⟩ : ∃ W, W = W3.alloc (.cells #[.int .i64 s.hav, .int .i64 s.nxt, .slice (some ⟨gO, 0, none⟩) nO nO, .slice (some ⟨gI, 0, none⟩) nI nI] 32) := ⟨_, rfl⟩
  obtain ⟨D, hD⟩ : ∃ X, X = W3.heap.size := ⟨_, rfl⟩
  have hb4 : Below W3.heap.size W3 W4 := by rw [hW4]; exact (Below.refl _ _).alloc (Nat.le_refl _) _
  have HD : Hid (Own W4 D 32 4 (shF s.hav s.nxt (.slice (some ⟨gO, 0, none⟩) nO nO) (.slice (some ⟨gI, 0, none⟩) nI nI))) := Lib.hid (by rw [hW4]; exact Own.newAt _ 32 _ _ hD.symm (n := 4) rfl (fun i hi => by match i, hi with | 0, _ => rfl | 1, _ => rfl | 2, _ => rfl | 3, _ => rfl))
  have hb24 := below_then hb3 hb4
  have HB4 := Lib.hid (HM.out.keep hb24).bel
  have HRL := Lib.hid HR.out.lt
  have HR := Lib.hid (HR.out.keep hb24 HR.out.lt)
  have HY := Lib.hid (HY.out.keep hb24 HY.out.lt)
  have HRS := Lib.hid (hrd.keep hb4)
  have HGG : Hid (R < gO ∧ R < gI ∧ w.heap.size ≤ gO ∧ w.heap.size ≤ gI ∧ R < D) := Lib.hid (by have := HRL.out; have := HLT.out; have := hb3.size; omega)
  have HGD : Hid (gO ≠ D ∧ gI ≠ D) := Lib.hid (by omega)
  have HW4 := Lib.hid (And.intro hW4.symm hD.symm)
  clear hb3 hb4 hb24 hrd hgO hgO2 hgI hgI2 hW4 hD z0 z1 z2 z3 hlS HM
  go_upto_region 12 with (fail)
  rw [HW4.out.1, HW4.out.2]
  clear HW4
  obtain ⟨d0, d1, d2, d3⟩ : W4.cell? ⟨D, 0, none⟩ = some (.int .i64 s.hav) ∧ W4.cell? ⟨D, 1, none⟩ = some (.int .i64 s.nxt) ∧ W4.cell? ⟨D, 2, none⟩ = some (.slice (some ⟨gO, 0, none⟩) nO nO) ∧ W4.cell? ⟨D, 3, none⟩ = some (.slice (some ⟨gI, 0, none⟩) nI nI) := ⟨HD.out.cell (i := 0) (by omega), HD.out.cell (i := 1) (by omega), HD.out.cell (i := 2) (by omega), HD.out.cell (i := 3) (by omega)⟩
  have hlD : D < W4.heap.size := HD.out.lt
  have f0D := HD.out.frozen 0
  have f1D := HD.out.frozen 1
  have f2D := HD.out.frozen 2
  have f3D := HD.out.frozen 3
  obtain ⟨y0, y1⟩ : W4.cell? ⟨Y, 0, none⟩ = some (.int .i64 (x.num)) ∧ W4.cell? ⟨Y, 1, none⟩ = some (.int .i64 (x.amp)) := ⟨HY.out.cell (i := 0) (by omega), HY.out.cell (i := 1) (by omega)⟩
  have hlY : Y < W4.heap.size := HY.out.lt
  obtain ⟨W6, hW6⟩ : ∃ W, W = W4.setCell ⟨D, 0, none⟩ (.int .i64 (s.hav + x.amp)) := ⟨_, rfl⟩
  have hm6 : Mod (fun j => j = D) W4 W6 := by rw [hW6]; exact (Mod.refl (fun j => j = D) W4).setCell (p := ⟨D, 0, none⟩) (.inl rfl) _
  have HD6 : Hid (Own W6 D 32 4 (shF (s.hav + x.amp) s.nxt (.slice (some ⟨gO, 0, none⟩) nO nO) (.slice (some ⟨gI, 0, none⟩) nI nI))) := Lib.hid (by rw [hW6]; exact (HD.out.set 0 _).congr (fun i hi => by match i, hi with | 0, _ => rfl | 1, _ => rfl | 2, _ => rfl | 3, _ => rfl))
  have HRS6 : Hid (RdShr W6 (some ⟨gO, 0, none⟩) nO (some ⟨gI, 0, none⟩) nI s) := Lib.hid ⟨HRS.out.ro.mod hm6 (fun a ha _ e => by injection ha with ha; subst ha; exact HGD.out.1 e), HRS.out.lo, HRS.out.ri.mod hm6 (fun a ha _ e => by injection ha with ha; subst ha; exact HGD.out.2 e), HRS.out.li⟩
  have HY6 := Lib.hid (HY.out.mod hm6 (by have := HGG.out; have := HLT.out; omega))
  have HR6 := Lib.hid (HR.out.mod hm6 (by have := HGG.out; omega))
  have HB6 : Hid (Below w.heap.size w W6) := Lib.hid (HB4.out.trans (hm6.below HB4.out.size (fun j _ e => by have := HGG.out; have := HLT.out; omega)))
  have HW6 := Lib.hid hW6.symm
  clear hW6 hm6 HR HY HD HRS
  go_upto_region 13 with (fail)
  rw [HW6.out]
  clear d0 d1 d2 d3 hlD f0D f1D f2D f3D
  clear HW6 y0 y1 hlY wh hsz
  obtain ⟨d0, d1, d2, d3⟩ : W6.cell? ⟨D, 0, none⟩ = some (.int .i64 (s.hav + x.amp)) ∧ W6.cell? ⟨D, 1, none⟩ = some (.int .i64 s.nxt) ∧ W6.cell? ⟨D, 2, none⟩ = some (.slice (some ⟨gO, 0, none⟩) nO nO) ∧ W6.cell? ⟨D, 3, none⟩ = some (.slice (some ⟨gI, 0, none⟩) nI nI) := ⟨HD6.out.cell (i := 0) (by omega), HD6.out.cell (i := 1) (by omega), HD6.out.cell (i := 2) (by omega), HD6.out.cell (i := 3) (by omega)⟩
  have hlD : D < W6.heap.size := HD6.out.lt
  have f0D := HD6.out.frozen 0
  have f1D := HD6.out.frozen 1
  have f2D := HD6.out.frozen 2
  have f3D := HD6.out.frozen 3
  obtain ⟨y0, y1⟩ : W6.cell? ⟨Y, 0, none⟩ = some (.int .i64 (x.num)) ∧ W6.cell? ⟨Y, 1, none⟩ = some (.int .i64 (x.amp)) := ⟨HY6.out.cell (i := 0) (by omega), HY6.out.cell (i := 1) (by omega)⟩
  have hlY : Y < W6.heap.size := HY6.out.lt
  go_wp2_with fail
  refine (shInsI_ok gI nI at_ s.inn x.num W6 (Lib.hid HRS6.out.ri) (Lib.hid HRS6.out.li) (by omega) HAT.out).mono ?_
  rintro e W7 ⟨gP, rfl, hgP, hrP, hb7⟩
  have HD7 := Lib.hid (HD6.out.keep hb7 HD6.out.lt)
  have HR7 := Lib.hid (HR6.out.keep hb7 HR6.out.lt)
  have HB7 := Lib.hid (below_then HB6.out hb7)
  have HRO7 := Lib.hid (HRS6.out.ro.keep hb7)
  have HRP := Lib.hid hrP
  have HGP : Hid (D < gP ∧ w.heap.size ≤ gP) := Lib.hid (by have := HD6.out.lt; have := HB6.out.size; omega)
  clear d0 d1 d2 d3 hlD f0D f1D f2D f3D
  clear hb7 hgP hrP y0 y1 hlY
  obtain ⟨d0, d1, d2, d3⟩ : W7.cell? ⟨D, 0, none⟩ = some (.int .i64 (s.hav + x.amp)) ∧ W7.cell? ⟨D, 1, none⟩ = some (.int .i64 s.nxt) ∧ W7.cell? ⟨D, 2, none⟩ = some (.slice (some ⟨gO, 0, none⟩) nO nO) ∧ W7.cell? ⟨D, 3, none⟩ = some (.slice (some ⟨gI, 0, none⟩) nI nI) := ⟨HD7.out.cell (i := 0) (by omega), HD7.out.cell (i := 1) (by omega), HD7.out.cell (i := 2) (by omega), HD7.out.cell (i := 3) (by omega)⟩
  have hlD : D < W7.heap.size := HD7.out.lt
  have f0D := HD7.out.frozen 0
  have f1D := HD7.out.frozen 1
  have f2D := HD7.out.frozen 2
  have f3D := HD7.out.frozen 3
  obtain ⟨W8, hW8⟩ : ∃ W, W = W7.setCell ⟨D, 3, none⟩ (.slice (some ⟨gP, 0, none⟩) (nI + 1) (nI + 1)) := ⟨_, rfl⟩
  have hm8 : Mod (fun j => j = D) W7 W8 := by rw [hW8]; exact (Mod.refl (fun j => j = D) W7).setCell (p := ⟨D, 3, none⟩) (.inl rfl) _
  have HD8 : Hid (Own W8 D 32 4 (shF (s.hav + x.amp) s.nxt (.slice (some ⟨gO, 0, none⟩) nO nO) (.slice (some ⟨gP, 0, none⟩) (nI + 1) (nI + 1)))) := Lib.hid (by rw [hW8]; exact (HD7.out.set 3 _).congr (fun i hi => by match i, hi with | 0, _ => rfl | 1, _ => rfl | 2, _ => rfl | 3, _ => rfl))
  have HR8 := Lib.hid (HR7.out.mod hm8 (by have := HGG.out; omega))
  have HB8 : Hid (Below w.heap.size w W8) := Lib.hid (HB7.out.trans (hm8.below HB7.out.size (fun j _ e => by have := HGG.out; have := HLT.out; omega)))
  have HRO8 := Lib.hid (HRO7.out.mod hm8 (fun a ha _ e => by injection ha with ha; subst ha; exact HGD.out.1 e))
  have HRP8 : Hid (Rd 1 encI W8 (some ⟨gP, 0, none⟩) (insL s.inn at_ x.num)) := Lib.hid (HRP.out.mod hm8 (fun a ha _ e => by injection ha with ha; subst ha; have := HGP.out; dsimp only at e; omega))
  have HW8 := Lib.hid hW8.symm
  clear hW8 hm8 HRO7 HRP HB7 HR7
  go_upto_region 14 with (fail)
  rw [HW8.out]
  clear d0 d1 d2 d3 hlD f0D f1D f2D f3D
  clear HW8
  obtain ⟨d0, d1, d2, d3⟩ : W8.cell? ⟨D, 0, none⟩ = some (.int .i64 (s.hav + x.amp)) ∧ W8.cell? ⟨D, 1, none⟩ = some (.int .i64 s.nxt) ∧ W8.cell? ⟨D, 2, none⟩ = some (.slice (some ⟨gO, 0, none⟩) nO nO) ∧ W8.cell? ⟨D, 3, none⟩ = some (.slice (some ⟨gP, 0, none⟩) (nI + 1) (nI + 1)) := ⟨HD8.out.cell (i := 0) (by omega), HD8.out.cell (i := 1) (by omega), HD8.out.cell (i := 2) (by omega), HD8.out.cell (i := 3) (by omega)⟩
  have hlD : D < W8.heap.size := HD8.out.lt
  obtain ⟨r0, r1, r2, r3⟩ : W8.cell? ⟨R, 0, none⟩ = some (.int .i64 0) ∧ W8.cell? ⟨R, 1, none⟩ = some (.int .i64 0) ∧ W8.cell? ⟨R, 2, none⟩ = some (.slice none 0 0) ∧ W8.cell? ⟨R, 3, none⟩ = some (.slice none 0 0) := ⟨HR8.out.cell (i := 0) (by omega), HR8.out.cell (i := 1) (by omega), HR8.out.cell (i := 2) (by omega), HR8.out.cell (i := 3) (by omega)⟩
  have hlR : R < W8.heap.size := HR8.out.lt
  have f0R := HR8.out.frozen 0
  have f1R := HR8.out.frozen 1
  have f2R := HR8.out.frozen 2
  have f3R := HR8.out.frozen 3
  have hne : ¬ R = D := by have := HGG.out; omega
  have hne2 : ¬ D = R := by have := HGG.out; omega
  go_wp2_with fail
  obtain ⟨W9, hW9⟩ : ∃ W, W = (((W8.setCell ⟨R, 0, none⟩ (.int .i64 (s.hav + x.amp))).setCell ⟨R, 1, none⟩ (.int .i64 s.nxt)).setCell ⟨R, 2, none⟩ (.slice (some ⟨gO, 0, none⟩) nO nO)).setCell ⟨R, 3, none⟩ (.slice (some ⟨gP, 0, none⟩) (nI + 1) (nI + 1)) := ⟨_, rfl⟩
  have hm9 : Mod (fun j => j = R) W8 W9 := by rw [hW9]; exact ((((Mod.refl (fun j => j = R) W8).setCell (p := ⟨R, 0, none⟩) (.inl rfl) _).setCell (p := ⟨R, 1, none⟩) (.inl rfl) _).setCell (p := ⟨R, 2, none⟩) (.inl rfl) _).setCell (p := ⟨R, 3, none⟩) (.inl rfl) _
  have HR9 : Hid (Own W9 R 32 4 (shF (s.hav + x.amp) s.nxt (.slice (some ⟨gO, 0, none⟩) nO nO) (.slice (some ⟨gP, 0, none⟩) (nI + 1) (nI + 1)))) := Lib.hid (by rw [hW9]; exact ((((HR8.out.set 0 _).set 1 _).set 2 _).set 3 _).congr (fun i hi => by match i, hi with | 0, _ => rfl | 1, _ => rfl | 2, _ => rfl | 3, _ => rfl))
  rw [← hW9]
  refine bodyPost_ret (results_ctT (a := 4) (t := 5) (ty := 32) (x := R) (by kernel_rfl) rfl (load_shr HR9.out rfl rfl)) rfl ?_
  refine .inr (.inr ⟨HIF.out.1, HFL.out, at_, gO, gP, rfl, HGG.out.2.2.1, HGP.out.2, ⟨?_, HS.out.lo, ?_, by show (insL s.inn at_ x.num).length = nI + 1; rw [insL_len, HS.out.li]⟩, HIF.out.2, HB8.out.trans (hm9.below HB8.out.size (fun j _ e => by have := HLT.out; omega))⟩)
  · exact HRO8.out.mod hm9 (fun a ha _ e => by injection ha with ha; subst ha; have h1 := HGG.out; dsimp only at e; omega)
  · exact HRP8.out.mod hm9 (fun a ha _ e => by injection ha with ha; subst ha; have h1 := HGG.out; have h2 := HGP.out; dsimp only at e; omega)
set_option maxRecDepth 100000 in
set_option maxHeartbeats 8000000 in
theorem shAcked_ok (aO : Option Addr) (nO cO : Nat) (aI : Option Addr) (nI cI : Nat) (s : Shr) (num : Int) (w : World) (HS : Hid (RdShr w aO nO aI nI s)) (HO : Hid (ShOk s)) : Calls Tryz.prog 9 #[.agg #[.int .i64 s.hav, .int .i64 s.nxt, .slice aO nO cO, .slice aI nI cI], .int .i64 num] w (AkPost nO nI s w) := by
  have ho64 : nO ≤ 64 := by rw [← HS.out.lo]; exact HO.out.lo
  have hi64 : nI ≤ 64 := by rw [← HS.out.li]; exact HO.out.li
  obtain ⟨h1, h2, n1⟩ : 0 ≤ s.hav ∧ s.hav ≤ 1000 ∧ 1 ≤ s.nxt := ⟨HO.out.h1, HO.out.h2, HO.out.n1⟩
  obtain ⟨W0, hW0⟩ : ∃ W, W = (w.alloc (.cells #[.int .i64 s.hav, .int .i64 s.nxt, .slice aO nO cO, .slice aI nI cI] 32)).alloc (.cells #[.int .i64 0, .int .i64 0, .slice none 0 0, .slice none 0 0] 32) := ⟨_, rfl⟩
  obtain ⟨S, hS⟩ : ∃ S, S = w.heap.size := ⟨_, rfl⟩
  have HM : Hid (ShM w W0 S aO nO cO aI nI cI s) := Lib.hid (by rw [hW0, hS]; exact (ShM.box (Below.refl _ _) HS.out).keep ((Below.refl _ _).alloc (Nat.le_refl _) _))
  have HR : Hid (Own W0 (S + 1) 32 4 (shF 0 0 (.slice none 0 0) (.slice none 0 0))) := Lib.hid (by rw [hW0, hS]; exact Own.newAt _ 32 _ _ (by simp) (n := 4) rfl (fun i hi => by match i, hi with | 0, _ => rfl | 1, _ => rfl | 2, _ => rfl | 3, _ => rfl))
  have HSZ : Hid (W0.heap.size = S + 2 ∧ w.heap.size = S) := Lib.hid (by rw [hW0, hS]; simp)
  have HW0 := Lib.hid (And.intro hW0.symm hS.symm)
  clear hW0 hS
  obtain ⟨R, hR⟩ : ∃ R, R = S + 1 := ⟨_, rfl⟩
  have HRD := Lib.hid (And.intro hR hR)
  rw [← hR] at HR
  have HLT : Hid (S < R ∧ w.heap.size ≤ S ∧ R < W0.heap.size) := Lib.hid (by have := HSZ.out; omega)
  clear hR 
  go_enter Tryz.func9, Tryz.ntmps9
  go_upto_region 1 with (fail)
  try simp only [World.size_alloc]
  rw [HW0.out.1, HW0.out.2, ← HRD.out.1]
  clear HW0
  obtain ⟨z0, z1, z2, z3⟩ : W0.cell? ⟨S, 0, none⟩ = some (.int .i64 s.hav) ∧ W0.cell? ⟨S, 1, none⟩ = some (.int .i64 s.nxt) ∧ W0.cell? ⟨S, 2, none⟩ = some (.slice aO nO cO) ∧ W0.cell? ⟨S, 3, none⟩ = some (.slice aI nI cI) := ⟨HM.out.k0, HM.out.k1, HM.out.k2, HM.out.k3⟩
  have hlS : S < W0.heap.size := World.block_lt_of_cell? W0 _ z0
  go_wp2_with fail
  refine (shValid_ok aO nO cO aI nI cI s W0 (Lib.hid HM.out.rd) HO).mono ?_
  rintro e W1 ⟨rfl, hb1⟩
  have HM := Lib.hid (HM.out.keep hb1)
  have HR := Lib.hid (HR.out.keep hb1 HR.out.lt)
  have HSW := Lib.hid hb1.size
  clear hb1 z0 z1 z2 z3 hlS
  go_wp2_with fail
  refine (shKeys_any _).mono ?_
  rintro e W2b ⟨rfl, hw⟩
  have hw := hw.symm
  subst hw
  obtain ⟨z0, z1, z2, z3⟩ : W1.cell? ⟨S, 0, none⟩ = some (.int .i64 s.hav) ∧ W1.cell? ⟨S, 1, none⟩ = some (.int .i64 s.nxt) ∧ W1.cell? ⟨S, 2, none⟩ = some (.slice aO nO cO) ∧ W1.cell? ⟨S, 3, none⟩ = some (.slice aI nI cI) := ⟨HM.out.k0, HM.out.k1, HM.out.k2, HM.out.k3⟩
  have hlS : S < W1.heap.size := World.block_lt_of_cell? W1 _ z0
  go_wp2_with fail
  refine (shFindT_ok aO nO cO s.out num W1 (Lib.hid HM.out.rd.ro) (Lib.hid HM.out.rd.lo) (by omega) (Lib.hid HO.out.so)).mono ?_
  rintro e W3 ⟨at_, hat, hlo, hhi, rfl, hb3⟩
  obtain ⟨q, hq⟩ : ∃ q, q = fdB (s.out.map (·.num)) num at_ := ⟨_, rfl⟩
  have HAT : Hid (q = true → at_ < nO) := Lib.hid (fun h => by
    rw [hq] at h
    rcases Nat.lt_or_ge at_ nO with h2 | h2
    · exact h2
    · rw [fdB_none (by rw [List.length_map, HS.out.lo]; exact h2)] at h; cases h)
  rw [← hq]
  have HM := Lib.hid (HM.out.keep hb3)
  have HR := Lib.hid (HR.out.keep hb3 HR.out.lt)
  have HSW := Lib.hid (Nat.le_trans HSW.out hb3.size)
  clear hb3
  clear hat hlo hhi hq z0 z1 z2 z3 hlS
  obtain ⟨z0, z1, z2, z3⟩ : W3.cell? ⟨S, 0, none⟩ = some (.int .i64 s.hav) ∧ W3.cell? ⟨S, 1, none⟩ = some (.int .i64 s.nxt) ∧ W3.cell? ⟨S, 2, none⟩ = some (.slice aO nO cO) ∧ W3.cell? ⟨S, 3, none⟩ = some (.slice aI nI cI) := ⟨HM.out.k0, HM.out.k1, HM.out.k2, HM.out.k3⟩
  have hlS : S < W3.heap.size := World.block_lt_of_cell? W3 _ z0
  cases q
  case false =>
    obtain ⟨r0, r1, r2, r3⟩ : W3.cell? ⟨R, 0, none⟩ = some (.int .i64 0) ∧ W3.cell? ⟨R, 1, none⟩ = some (.int .i64 0) ∧ W3.cell? ⟨R, 2, none⟩ = some (.slice none 0 0) ∧ W3.cell? ⟨R, 3, none⟩ = some (.slice none 0 0) := ⟨HR.out.cell (i := 0) (by omega), HR.out.cell (i := 1) (by omega), HR.out.cell (i := 2) (by omega), HR.out.cell (i := 3) (by omega)⟩
    have hlR : R < W3.heap.size := HR.out.lt
    have f0R := HR.out.frozen 0
    have f1R := HR.out.frozen 1
    have f2R := HR.out.frozen 2
    have f3R := HR.out.frozen 3
    go_wp2_with fail
    obtain ⟨W2, hW2⟩ : ∃ W, W = (((W3.setCell ⟨R, 0, none⟩ (.int .i64 0)).setCell ⟨R, 1, none⟩ (.int .i64 0)).setCell ⟨R, 2, none⟩ (.slice none 0 0)).setCell ⟨R, 3, none⟩ (.slice none 0 0) := ⟨_, rfl⟩
    have hm2 : Mod (fun j => j = R) W3 W2 := by rw [hW2]; exact ((((Mod.refl (fun j => j = R) W3).setCell (p := ⟨R, 0, none⟩) (.inl rfl) _).setCell (p := ⟨R, 1, none⟩) (.inl rfl) _).setCell (p := ⟨R, 2, none⟩) (.inl rfl) _).setCell (p := ⟨R, 3, none⟩) (.inl rfl) _
    have HR2 : Hid (Own W2 R 32 4 (shF 0 0 (.slice none 0 0) (.slice none 0 0))) := Lib.hid (by rw [hW2]; exact ((((HR.out.set 0 _).set 1 _).set 2 _).set 3 _).congr (fun i hi => by match i, hi with | 0, _ => rfl | 1, _ => rfl | 2, _ => rfl | 3, _ => rfl))
    rw [← hW2]
    refine bodyPost_ret (results_ctT (a := 4) (t := 5) (ty := 32) (x := R) (by kernel_rfl) rfl (load_shr HR2.out rfl rfl)) rfl ?_
    have HBZ : Below w.heap.size w W2 := HM.out.bel.trans (hm2.below HM.out.bel.size (fun j _ e => by have := HLT.out; omega))
    exact .inr ⟨rfl, HBZ⟩
  have hat : at_ < nO := HAT.out rfl
  go_upto_region 7 with (fail)
  go_wp2_with fail
  refine (shDup_ok aO nO cO aI nI cI s W3 (Lib.hid HM.out.rd) ho64 hi64).mono ?_
  rintro e W3 ⟨gO, gI, rfl, hgO, hgO2, hgI, hgI2, hrd, hb3⟩
  obtain ⟨W4, hW4⟩ : ∃ W, W = W3.alloc (.cells #[.int .i64 s.hav, .int .i64 s.nxt, .slice (some ⟨gO, 0, none⟩) nO nO, .slice (some ⟨gI, 0, none⟩) nI nI] 32) := ⟨_, rfl⟩
  obtain ⟨D, hD⟩ : ∃ X, X = W3.heap.size := ⟨_, rfl⟩
  have hb4 : Below W3.heap.size W3 W4 := by rw [hW4]; exact (Below.refl _ _).alloc (Nat.le_refl _) _
  have HD : Hid (Own W4 D 32 4 (shF s.hav s.nxt (.slice (some ⟨gO, 0, none⟩) nO nO) (.slice (some ⟨gI, 0, none⟩) nI nI))) := Lib.hid (by rw [hW4]; exact Own.newAt _ 32 _ _ hD.symm (n := 4) rfl (fun i hi => by match i, hi with | 0, _ => rfl | 1, _ => rfl | 2, _ => rfl | 3, _ => rfl))
  have hb24 := below_then hb3 hb4
  have HB4 := Lib.hid (HM.out.keep hb24).bel
  have HRL := Lib.hid HR.out.lt
  have HR := Lib.hid (HR.out.keep hb24 HR.out.lt)
  have HRS := Lib.hid (hrd.keep hb4)
  have HGG : Hid (R < gO ∧ R < gI ∧ w.heap.size ≤ gO ∧ w.heap.size ≤ gI ∧ R < D) := Lib.hid (by have := HRL.out; have := HLT.out; have := hb3.size; omega)
  have HGD : Hid (gO ≠ D ∧ gI ≠ D) := Lib.hid (by omega)
  have HW4 := Lib.hid (And.intro hW4.symm hD.symm)
  clear hb3 hb4 hb24 hrd hgO hgO2 hgI hgI2 hW4 hD z0 z1 z2 z3 hlS HM
  go_upto_region 8 with (fail)
  rw [HW4.out.1, HW4.out.2]
  clear HW4
  obtain ⟨d0, d1, d2, d3⟩ : W4.cell? ⟨D, 0, none⟩ = some (.int .i64 s.hav) ∧ W4.cell? ⟨D, 1, none⟩ = some (.int .i64 s.nxt) ∧ W4.cell? ⟨D, 2, none⟩ = some (.slice (some ⟨gO, 0, none⟩) nO nO) ∧ W4.cell? ⟨D, 3, none⟩ = some (.slice (some ⟨gI, 0, none⟩) nI nI) := ⟨HD.out.cell (i := 0) (by omega), HD.out.cell (i := 1) (by omega), HD.out.cell (i := 2) (by omega), HD.out.cell (i := 3) (by omega)⟩
  have hlD : D < W4.heap.size := HD.out.lt
  have f0D := HD.out.frozen 0
  have f1D := HD.out.frozen 1
  have f2D := HD.out.frozen 2
  have f3D := HD.out.frozen 3
  go_wp2_with fail
  refine (shDelT_ok gO nO at_ s.out W4 (Lib.hid HRS.out.ro) (Lib.hid HRS.out.lo) (by omega) hat).mono ?_
  rintro e W7 ⟨gP, rfl, hgP, hrP, hb7⟩
  have HD7 := Lib.hid (HD.out.keep hb7 HD.out.lt)
  have HR7 := Lib.hid (HR.out.keep hb7 HR.out.lt)
  have HB7 := Lib.hid (below_then HB4.out hb7)
  have HRI7 := Lib.hid (HRS.out.ri.keep hb7)
  have HRP := Lib.hid hrP
  have HGP : Hid (D < gP ∧ w.heap.size ≤ gP) := Lib.hid (by have := HD.out.lt; have := HB4.out.size; omega)
  clear d0 d1 d2 d3 hlD f0D f1D f2D f3D
  clear hb7 hgP hrP
  obtain ⟨d0, d1, d2, d3⟩ : W7.cell? ⟨D, 0, none⟩ = some (.int .i64 s.hav) ∧ W7.cell? ⟨D, 1, none⟩ = some (.int .i64 s.nxt) ∧ W7.cell? ⟨D, 2, none⟩ = some (.slice (some ⟨gO, 0, none⟩) nO nO) ∧ W7.cell? ⟨D, 3, none⟩ = some (.slice (some ⟨gI, 0, none⟩) nI nI) := ⟨HD7.out.cell (i := 0) (by omega), HD7.out.cell (i := 1) (by omega), HD7.out.cell (i := 2) (by omega), HD7.out.cell (i := 3) (by omega)⟩
  have hlD : D < W7.heap.size := HD7.out.lt
  have f0D := HD7.out.frozen 0
  have f1D := HD7.out.frozen 1
  have f2D := HD7.out.frozen 2
  have f3D := HD7.out.frozen 3
  obtain ⟨W8, hW8⟩ : ∃ W, W = W7.setCell ⟨D, 2, none⟩ (.slice (some ⟨gP, 0, none⟩) (nO - 1) (nO - 1)) := ⟨_, rfl⟩
  have hm8 : Mod (fun j => j = D) W7 W8 := by rw [hW8]; exact (Mod.refl (fun j => j = D) W7).setCell (p := ⟨D, 2, none⟩) (.inl rfl) _
  have HD8 : Hid (Own W8 D 32 4 (shF s.hav s.nxt (.slice (some ⟨gP, 0, none⟩) (nO - 1) (nO - 1)) (.slice (some ⟨gI, 0, none⟩) nI nI))) := Lib.hid (by rw [hW8]; exact (HD7.out.set 2 _).congr (fun i hi => by match i, hi with | 0, _ => rfl | 1, _ => rfl | 2, _ => rfl | 3, _ => rfl))
  have HR8 := Lib.hid (HR7.out.mod hm8 (by have := HGG.out; omega))
  have HB8 : Hid (Below w.heap.size w W8) := Lib.hid (HB7.out.trans (hm8.below HB7.out.size (fun j _ e => by have := HGG.out; have := HLT.out; omega)))
  have HRI8 := Lib.hid (HRI7.out.mod hm8 (fun a ha _ e => by injection ha with ha; subst ha; exact HGD.out.2 e))
  have HRP8 : Hid (Rd 2 encTrn W8 (some ⟨gP, 0, none⟩) (s.out.take at_ ++ s.out.drop (at_ + 1))) := Lib.hid (HRP.out.mod hm8 (fun a ha _ e => by injection ha with ha; subst ha; have := HGP.out; dsimp only at e; omega))
  have HW8 := Lib.hid hW8.symm
  clear hW8 hm8 HRI7 HRP HB7 HR7
  go_upto_region 9 with (fail)
  rw [HW8.out]
  clear d0 d1 d2 d3 hlD f0D f1D f2D f3D
  clear HW8
  obtain ⟨d0, d1, d2, d3⟩ : W8.cell? ⟨D, 0, none⟩ = some (.int .i64 s.hav) ∧ W8.cell? ⟨D, 1, none⟩ = some (.int .i64 s.nxt) ∧ W8.cell? ⟨D, 2, none⟩ = some (.slice (some ⟨gP, 0, none⟩) (nO - 1) (nO - 1)) ∧ W8.cell? ⟨D, 3, none⟩ = some (.slice (some ⟨gI, 0, none⟩) nI nI) := ⟨HD8.out.cell (i := 0) (by omega), HD8.out.cell (i := 1) (by omega), HD8.out.cell (i := 2) (by omega), HD8.out.cell (i := 3) (by omega)⟩
  have hlD : D < W8.heap.size := HD8.out.lt
  obtain ⟨r0, r1, r2, r3⟩ : W8.cell? ⟨R, 0, none⟩ = some (.int .i64 0) ∧ W8.cell? ⟨R, 1, none⟩ = some (.int .i64 0) ∧ W8.cell? ⟨R, 2, none⟩ = some (.slice none 0 0) ∧ W8.cell? ⟨R, 3, none⟩ = some (.slice none 0 0) := ⟨HR8.out.cell (i := 0) (by omega), HR8.out.cell (i := 1) (by omega), HR8.out.cell (i := 2) (by omega), HR8.out.cell (i := 3) (by omega)⟩
  have hlR : R < W8.heap.size := HR8.out.lt
  have f0R := HR8.out.frozen 0
  have f1R := HR8.out.frozen 1
  have f2R := HR8.out.frozen 2
  have f3R := HR8.out.frozen 3
  have hne : ¬ R = D := by have := HGG.out; omega
  have hne2 : ¬ D = R := by have := HGG.out; omega
  go_wp2_with fail
  obtain ⟨W9, hW9⟩ : ∃ W, W = (((W8.setCell ⟨R, 0, none⟩ (.int .i64 s.hav)).setCell ⟨R, 1, none⟩ (.int .i64 s.nxt)).setCell ⟨R, 2, none⟩ (.slice (some ⟨gP, 0, none⟩) (nO - 1) (nO - 1))).setCell ⟨R, 3, none⟩ (.slice (some ⟨gI, 0, none⟩) nI nI) := ⟨_, rfl⟩
  have hm9 : Mod (fun j => j = R) W8 W9 := by rw [hW9]; exact ((((Mod.refl (fun j => j = R) W8).setCell (p := ⟨R, 0, none⟩) (.inl rfl) _).setCell (p := ⟨R, 1, none⟩) (.inl rfl) _).setCell (p := ⟨R, 2, none⟩) (.inl rfl) _).setCell (p := ⟨R, 3, none⟩) (.inl rfl) _
  have HR9 : Hid (Own W9 R 32 4 (shF s.hav s.nxt (.slice (some ⟨gP, 0, none⟩) (nO - 1) (nO - 1)) (.slice (some ⟨gI, 0, none⟩) nI nI))) := Lib.hid (by rw [hW9]; exact ((((HR8.out.set 0 _).set 1 _).set 2 _).set 3 _).congr (fun i hi => by match i, hi with | 0, _ => rfl | 1, _ => rfl | 2, _ => rfl | 3, _ => rfl))
  rw [← hW9]
  refine bodyPost_ret (results_ctT (a := 4) (t := 5) (ty := 32) (x := R) (by kernel_rfl) rfl (load_shr HR9.out rfl rfl)) rfl ?_
  refine .inl ⟨at_, gP, gI, rfl, HGP.out.2, HGG.out.2.2.2.1, ⟨?_, by show (s.out.take at_ ++ s.out.drop (at_ + 1)).length = nO - 1; rw [List.length_append, List.length_take, List.length_drop, HS.out.lo]; omega, ?_, HS.out.li⟩, HB8.out.trans (hm9.below HB8.out.size (fun j _ e => by have := HLT.out; omega))⟩
  · exact HRP8.out.mod hm9 (fun a ha _ e => by injection ha with ha; subst ha; have h1 := HGG.out; have h2 := HGP.out; dsimp only at e; omega)
  · exact HRI8.out.mod hm9 (fun a ha _ e => by injection ha with ha; subst ha; have h1 := HGG.out; dsimp only at e; omega)
end Go.Proofs.YtkbbapefgifagaaGreatDoor
