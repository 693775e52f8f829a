/-
Several texts in one: LpA, LpB.
-/
import Derived.Test.YtoekpdnpncgeeaaGreatGBlF
/-
loophole: the part of a session in a stretch of its minutes.
-/
namespace Go.Proofs.YtoekpdnpncgeeaaGreat
open Go.RowKit
set_option linter.unusedVariables false
set_option linter.unusedSimpArgs false
def seF (f t e : Int) (v : Value) : Nat → Value := fun i => if i = 0 then .int .i64 f else if i = 1 then .int .i64 t else if i = 2 then .int .i64 e else v
theorem encSlc_len (x : Slc) : (encSlc x).length = 2 := rfl
theorem encSlc_one (x : Slc) (u : Value) (h : u ∈ encSlc x) : u.oneCell' = true := by
  unfold encSlc at h
  simp only [List.mem_cons, List.not_mem_nil, or_false] at h
  rcases h with rfl | rfl <;> rfl
def inL (f t : Int) (l : List Slc) : List Slc := l.filter (fun x => decide (f ≤ x.mn ∧ x.mn < t))
def partS (s : Ses) (f t : Int) : Ses := ⟨f, t, min (max s.fin f) t, inL f t s.sl⟩
theorem modQ4 (W : World) (R : Nat) (a b c d : Value) : Mod (fun j => j = R) W ((((W.setCell ⟨R, 0, none⟩ a).setCell ⟨R, 1, none⟩ b).setCell ⟨R, 2, none⟩ c).setCell ⟨R, 3, none⟩ d) :=
  ((((show Mod (fun j => j = R) W W from Mod.refl _ W).setCell (p := ⟨R, 0, none⟩) (.inl rfl) _).setCell (p := ⟨R, 1, none⟩) (.inl rfl) _).setCell (p := ⟨R, 2, none⟩) (.inl rfl) _).setCell (p := ⟨R, 3, none⟩) (.inl rfl) _
/-- What part returns. -/
def PtPost (s : Ses) (f t : Int) (w : World) (e : Ending) (w' : World) : Prop :=
  ∃ A n cA, e = .returned (.agg #[.int .i64 f, .int .i64 t, .int .i64 (partS s f t).fin, .slice A n cA]) ∧ RdSes w' A n (partS s f t) ∧ Below w.heap.size w w'
/-- The same, and the list is the call's own. -/
def PtPostF (s : Ses) (f t : Int) (w : World) (e : Ending) (w' : World) : Prop :=
  ∃ A n cA, e = .returned (.agg #[.int .i64 f, .int .i64 t, .int .i64 (partS s f t).fin, .slice A n cA]) ∧ RdSes w' A n (partS s f t) ∧ Below w.heap.size w w' ∧ ∀ a, A = some a → w.heap.size ≤ a.block
theorem SesM.mod {w W W' : World} {S L : Nat} {aS : Option Addr} {nS cS : Nat} {s : Ses} (h : SesM w W S aS nS cS s) (hs : RdSes w aS nS s) (hm : Mod (fun j => L ≤ j) W W') (hl : S < L) (hw : w.heap.size ≤ L) : SesM w W' S aS nS cS s := by
  have hb : Below w.heap.size w W' := h.bel.trans (hm.below h.bel.size (fun j hj e => by omega))
  have hx : ∀ {p : Addr} {v : Value}, W.cell? p = some v → p.block < L → W'.cell? p = some v := fun hc hn => (hm.cell (World.block_lt_of_cell? _ _ hc) (by omega)).trans hc
  exact ⟨hb, hx h.k0 hl, hx h.k1 hl, hx h.k2 hl, hx h.k3 hl, hs.keep hb⟩
theorem infoSlc : (Tryz.prog.info? 37).map (fun i => (i.zero, i.size, i.bytes)) = some (some (.agg #[.int .i64 0, .int .i64 0]), 2, 16) := by kernel_rfl
theorem app_slc {w : World} {base : Nat} {v : Value} {xs : List Slc} (x y : Int) (h : OwnR 37 2 encSlc w base v xs) (hb : base ≤ w.heap.size) (hl : xs.length ≤ 100000) :
    Appends Tryz.prog (w.alloc (.cells #[.int .i64 x, .int .i64 y] 37)) 29 29 v (.slice (some ⟨w.heap.size, 0, none⟩) 1 1) ∧
    ∃ v' w1, appV Tryz.prog (w.alloc (.cells #[.int .i64 x, .int .i64 y] 37)) 29 29 v (.slice (some ⟨w.heap.size, 0, none⟩) 1 1) = v' ∧
      appW Tryz.prog (w.alloc (.cells #[.int .i64 x, .int .i64 y] 37)) 29 29 v (.slice (some ⟨w.heap.size, 0, none⟩) 1 1) = w1 ∧ Hid (OwnR 37 2 encSlc w1 base v' (xs ++ [⟨x, y⟩])) ∧ Hid (Aside base v v' w w1) :=
  app_lit infoSlc Tryz.underlying29 rfl (by omega) encSlc_len encSlc_one h hb rfl rfl (by omega) (by omega)
set_option maxRecDepth 100000 in
set_option maxHeartbeats 16000000 in
theorem lhPart_fresh (aS : Option Addr) (nS cS : Nat) (s : Ses) (f t : Int) (w : World) (HS : Hid (RdSes w aS nS s)) (hn : nS ≤ 100000) (ht : t ≤ 9223372036854775807) (hf : f ≤ 9223372036854775807) : Calls Tryz.prog 26 #[.agg #[.int .i64 s.frm, .int .i64 s.till, .int .i64 s.fin, .slice aS nS cS], .int .i64 f, .int .i64 t] w (PtPostF s f t w) := by
  have hm1 := HS.out.lm
  obtain ⟨mx, hmx⟩ : ∃ mx, (if s.fin < f then f else s.fin) = mx := ⟨_, rfl⟩
  obtain ⟨mn, hmn⟩ : ∃ mn, (if t < mx then t else mx) = mn := ⟨_, rfl⟩
  have HMN : Hid (min (max s.fin f) t = mn) := Lib.hid (by rw [← hmn, ← hmx]; split <;> split <;> omega)
  obtain ⟨W0, hW0⟩ : ∃ W0, W0 = (w.alloc (.cells #[.int .i64 s.frm, .int .i64 s.till, .int .i64 s.fin, .slice aS nS cS] 31)).alloc (.cells #[.int .i64 0, .int .i64 0, .int .i64 0, .slice none 0 0] 31) := ⟨_, rfl⟩
  obtain ⟨B, hB⟩ : ∃ B, B = w.heap.size := ⟨_, rfl⟩
  have HM : Hid (SesM w W0 B aS nS cS s) := Lib.hid (by rw [hW0, hB]; exact (SesM.box (Below.refl _ _) HS.out).keep ((Below.refl _ _).alloc (Nat.le_refl _) _))
  have HR : Hid (Own W0 (B + 1) 31 4 (seF 0 0 0 (.slice none 0 0))) := Lib.hid (by rw [hW0, hB]; exact Own.newAt _ 31 _ _ (by simp) (n := 4) rfl (fun i hi => by match i, hi with | 0, _ => rfl | 1, _ => rfl | 2, _ => rfl | 3, _ => rfl))
  have HW0 := Lib.hid hW0
  have HB0 := Lib.hid hB
  clear hW0 hB
  go_enter Tryz.func26, Tryz.ntmps26
  go_upto_region 1 with (fail)
  rw [← HW0.out, ← HB0.out]
  clear HW0
  obtain ⟨S, hS⟩ : ∃ T, T = B := ⟨_, rfl⟩
  obtain ⟨R, hR⟩ : ∃ T, T = B + 1 := ⟨_, rfl⟩
  rw [← hR] at HR ⊢
  rw [← hS] at HM ⊢
  have HLR : Hid (S < R ∧ w.heap.size ≤ S) := Lib.hid (by have := HB0.out; omega)
  clear hS hR HB0
  obtain ⟨z0, z1, z2, z3⟩ : W0.cell? ⟨S, 0, none⟩ = some (.int .i64 s.frm) ∧ W0.cell? ⟨S, 1, none⟩ = some (.int .i64 s.till) ∧ W0.cell? ⟨S, 2, none⟩ = some (.int .i64 s.fin) ∧ W0.cell? ⟨S, 3, none⟩ = some (.slice aS nS cS) := ⟨HM.out.k0, HM.out.k1, HM.out.k2, HM.out.k3⟩
  have hlS : S < W0.heap.size := World.block_lt_of_cell? W0 _ z0
  obtain ⟨w6, hw6⟩ : ∃ W, W = W0.alloc (.cells #[.int .i64 f, .int .i64 t, .int .i64 mn, .slice none 0 0] 31) := ⟨_, rfl⟩
  obtain ⟨L, hL⟩ : ∃ L, L = W0.heap.size := ⟨_, rfl⟩
  have hb6 : Below W0.heap.size W0 w6 := by rw [hw6]; exact (Below.refl _ _).alloc (Nat.le_refl _) _
  have HL : Hid (Own w6 L 31 4 (seF f t mn (.slice none 0 0))) := Lib.hid (by rw [hw6]; exact Own.newAt _ 31 _ _ hL.symm (n := 4) rfl (fun i hi => by match i, hi with | 0, _ => rfl | 1, _ => rfl | 2, _ => rfl | 3, _ => rfl))
  have HLL : Hid (S < L ∧ R < L ∧ w.heap.size ≤ L) := Lib.hid (by rw [hL]; exact ⟨World.block_lt_of_cell? _ _ HM.out.k0, HR.out.lt, HM.out.bel.size⟩)
  have HM := Lib.hid (HM.out.keep hb6)
  have HR := Lib.hid (HR.out.keep hb6 HR.out.lt)
  have HW6 := Lib.hid (And.intro hw6.symm hL.symm)
  clear hw6 hL hb6
  go_upto_region 2 with (fail)
  rw [HW6.out.1, HW6.out.2]
  clear HW6 hmx hmn z0 z1 z2 z3 hlS
  have z3 : w6.cell? ⟨S, 3, none⟩ = some (.slice aS nS cS) := HM.out.k3
  have hlS : S < w6.heap.size := World.block_lt_of_cell? w6 _ z3
  go_wp2_with fail
  have HO0 : Hid (OwnR 37 2 encSlc w6 (L + 1) (.slice none 0 0) (inL f t (s.sl.take 0))) := Lib.hid (OwnR.nil _ _)
  clear z3 hlS
  go_loopg [22] nS (fun g1 v22 wr => ∃ (i : Nat) (va : Option Addr) (vn vc : Nat), v22 = .int .i64 i ∧ i ≤ nS ∧ nS - i ≤ g1 ∧ Hid (SesM w wr S aS nS cS s) ∧ Hid (Own wr R 31 4 (seF 0 0 0 (.slice none 0 0))) ∧ Hid (Own wr L 31 4 (seF f t mn (.slice va vn vc))) ∧ Hid (OwnR 37 2 encSlc wr (L + 1) (.slice va vn vc) (inL f t (s.sl.take i))))
  case atStart => exact ⟨0, none, 0, 0, by go_num, by omega, by omega, HM, HR, HL, HO0⟩
  case round =>
    clear HM HL HO0 HR
    obtain ⟨i, va, vn, vc, rfl, hi, hg1, HM, HR, HL, HO⟩ := hrel
    by_cases hlt : i < nS
    · have hltz : (i : Int) < (nS : Int) := by omega
      obtain ⟨bb, off, x, hA, hbl, hgx, hc0, hc1⟩ := rdSlc_at HM.out.rd.rs (show i < s.sl.length by rw [HM.out.rd.ls]; exact hlt)
      have HTK : Hid (inL f t (s.sl.take (i + 1)) = inL f t (s.sl.take i) ++ (if f ≤ x.mn ∧ x.mn < t then [x] else [])) := Lib.hid (by unfold inL; rw [take_snoc hgx, List.filter_append]; congr 1; by_cases h : f ≤ x.mn ∧ x.mn < t <;> simp [h])
      have hln : (inL f t (s.sl.take i)).length ≤ 100000 := by
        have h1 : (inL f t (s.sl.take i)).length ≤ (s.sl.take i).length := List.length_filter_le _ _
        rw [List.length_take] at h1
        omega
      have HLN := Lib.hid hln
      clear hgx hln
      subst hA
      obtain ⟨w7, hw7⟩ : ∃ W, W = wr.alloc (.cells #[.int .i64 x.mn, .int .i64 x.en] 37) := ⟨_, rfl⟩
      obtain ⟨Z, hZ⟩ : ∃ Z, Z = wr.heap.size := ⟨_, rfl⟩
      have hb7 : Below wr.heap.size wr w7 := by rw [hw7]; exact (Below.refl _ _).alloc (Nat.le_refl _) _
      have e0 : w7.cell? ⟨Z, 0, none⟩ = some (.int .i64 x.mn) := by rw [hw7, hZ]; go_simp
      have e1 : w7.cell? ⟨Z, 1, none⟩ = some (.int .i64 x.en) := by rw [hw7, hZ]; go_simp
      have hlZ : Z < w7.heap.size := World.block_lt_of_cell? w7 _ e0
      have HM := Lib.hid (HM.out.keep hb7)
      have HR := Lib.hid (HR.out.keep hb7 HR.out.lt)
      have HL := Lib.hid (HL.out.keep hb7 HL.out.lt)
      have HO := Lib.hid (HO.out.keep hb7)
      have HW7 := Lib.hid (And.intro hw7.symm hZ.symm)
      clear hw7 hZ hb7
      go_upto_region 5 with (fail)
      rw [HW7.out.1, HW7.out.2]
      clear HW7 hc0 hc1
      by_cases hin : f ≤ x.mn ∧ x.mn < t
      · obtain ⟨h1, h2⟩ := hin
        have HTK2 : Hid (inL f t (s.sl.take (i + 1)) = inL f t (s.sl.take i) ++ [x]) := Lib.hid (by rw [HTK.out, if_pos ⟨h1, h2⟩])
        clear HTK
        obtain ⟨ap, v', w8, av, aw, HO8, HA8⟩ := app_slc x.mn x.en HO.out (by have := HL.out.lt; omega) HLN.out
        obtain ⟨va', vc', hv'⟩ := HO8.out.shape
        obtain ⟨vn', hvn'⟩ : ∃ n, n = (inL f t (s.sl.take i) ++ [(⟨x.mn, x.en⟩ : Slc)]).length := ⟨_, rfl⟩
        rw [← hvn'] at hv'
        clear hvn'
        subst hv'
        have HB8 : Hid (Below (L + 1) w7 w8) := Lib.hid HA8.out.bel
        have HL8 : Hid (Own w8 L 31 4 (seF f t mn (.slice va vn vc))) := Lib.hid (HL.out.keep HB8.out (Nat.lt_succ_self _))
        have l3 : w7.cell? ⟨L, 3, none⟩ = some (.slice va vn vc) := HL.out.cell (i := 3) (by omega)
        have hlL : L < w7.heap.size := HL.out.lt
        have l3' : w8.cell? ⟨L, 3, none⟩ = some (.slice va vn vc) := HL8.out.cell (i := 3) (by omega)
        have fl3 : w8.frozen? ⟨L, 3, none⟩ = false := HL8.out.frozen 3
        have hlL8 : L < w8.heap.size := HL8.out.lt
        have HMD : Hid (Mod (fun j => L ≤ j) w7 (w8.setCell ⟨L, 3, none⟩ (.slice va' vn' vc'))) := Lib.hid (((Mod.of_below HB8.out).mono (fun j _ hj => (show L ≤ j by omega))).setCell (p := ⟨L, 3, none⟩) (.inl (Nat.le_refl _)) _)
        have HM9 : Hid (SesM w (w8.setCell ⟨L, 3, none⟩ (.slice va' vn' vc')) S (some ⟨bb, off, none⟩) nS cS s) := Lib.hid (HM.out.mod HS.out HMD.out HLL.out.1 HLL.out.2.2)
        have HR9 : Hid (Own (w8.setCell ⟨L, 3, none⟩ (.slice va' vn' vc')) R 31 4 (seF 0 0 0 (.slice none 0 0))) := Lib.hid (HR.out.mod HMD.out (by have := HLL.out; omega))
        have HL9 : Hid (Own (w8.setCell ⟨L, 3, none⟩ (.slice va' vn' vc')) L 31 4 (seF f t mn (.slice va' vn' vc'))) := Lib.hid ((HL8.out.set 3 _).congr (fun j hj => by match j, hj with | 0, _ => rfl | 1, _ => rfl | 2, _ => rfl | 3, _ => rfl))
        have HO9 : Hid (OwnR 37 2 encSlc (w8.setCell ⟨L, 3, none⟩ (.slice va' vn' vc')) (L + 1) (.slice va' vn' vc') (inL f t (s.sl.take (i + 1)))) := Lib.hid (by rw [HTK2.out]; exact HO8.out.mod (M := fun j => j = L) ((show Mod (fun j => j = L) w8 w8 from Mod.refl _ w8).setCell (p := ⟨L, 3, none⟩) (.inl rfl) _) (fun j hj e => by have := (World.ownsRow.lt HO8.out j hj).1; omega))
        clear HO8 HA8 HL8 HB8 HM HL HO HR HMD
        go_wp2_with fail
        go_roundg (nS - (i + 1))
        case measure => omega
        case rel => exact ⟨i + 1, va', vn', vc', by go_num, by omega, by omega, HM9, HR9, HL9, HO9⟩
      · have HTK2 : Hid (inL f t (s.sl.take (i + 1)) = inL f t (s.sl.take i)) := Lib.hid (by rw [HTK.out, if_neg hin, List.append_nil])
        have HO9 : Hid (OwnR 37 2 encSlc w7 (L + 1) (.slice va vn vc) (inL f t (s.sl.take (i + 1)))) := Lib.hid (by rw [HTK2.out]; exact HO.out)
        by_cases h1 : f ≤ x.mn
        · have h2 : ¬ x.mn < t := fun h => hin ⟨h1, h⟩
          clear HTK hin HO
          go_wp2_with fail
          go_roundg (nS - (i + 1))
          case measure => omega
          case rel => exact ⟨i + 1, va, vn, vc, by go_num, by omega, by omega, HM, HR, HL, HO9⟩
        · clear HTK hin HO
          go_wp2_with fail
          go_roundg (nS - (i + 1))
          case measure => omega
          case rel => exact ⟨i + 1, va, vn, vc, by go_num, by omega, by omega, HM, HR, HL, HO9⟩
    · have hltz : ¬ (i : Int) < (nS : Int) := by omega
      have HLE : Hid (vn = (inL f t s.sl).length ∧ Rd 2 encSlc wr va (inL f t s.sl) ∧ ∀ a, va = some a → L < a.block) := Lib.hid (by
        have h := HO.out
        rw [List.take_of_length_le (by rw [HM.out.rd.ls]; omega)] at h
        obtain ⟨a', c', e, hr⟩ := h.rd encSlc_len
        injection e with e1 e2 e3
        subst e1
        exact ⟨e2, hr, fun a ha => by subst ha; exact (World.ownsRow.lt h a.block rfl).1⟩)
      clear HO
      obtain ⟨l0, l1, l2, l3⟩ : wr.cell? ⟨L, 0, none⟩ = some (.int .i64 f) ∧ wr.cell? ⟨L, 1, none⟩ = some (.int .i64 t) ∧ wr.cell? ⟨L, 2, none⟩ = some (.int .i64 mn) ∧ wr.cell? ⟨L, 3, none⟩ = some (.slice va vn vc) := ⟨HL.out.cell (i := 0) (by omega), HL.out.cell (i := 1) (by omega), HL.out.cell (i := 2) (by omega), HL.out.cell (i := 3) (by omega)⟩
      have hlL : L < wr.heap.size := HL.out.lt
      obtain ⟨r0, r1, r2, r3⟩ : wr.cell? ⟨R, 0, none⟩ = some (.int .i64 0) ∧ wr.cell? ⟨R, 1, none⟩ = some (.int .i64 0) ∧ wr.cell? ⟨R, 2, none⟩ = some (.int .i64 0) ∧ wr.cell? ⟨R, 3, none⟩ = some (.slice none 0 0) := ⟨HR.out.cell (i := 0) (by omega), HR.out.cell (i := 1) (by omega), HR.out.cell (i := 2) (by omega), HR.out.cell (i := 3) (by omega)⟩
      have fr0 := HR.out.frozen 0
      have fr1 := HR.out.frozen 1
      have fr2 := HR.out.frozen 2
      have fr3 := HR.out.frozen 3
      have hlR : R < wr.heap.size := HR.out.lt
      go_wp2_with fail
      refine bodyPost_ret (results_c1D (a := 6) (ty := 31) (b := R) (by kernel_rfl) rfl (by go_simp; rfl)) rfl ?_
      have hmd := modQ4 wr R (.int .i64 f) (.int .i64 t) (.int .i64 mn) (.slice va vn vc)
      refine ⟨va, vn, vc, by rw [show (partS s f t).fin = mn from HMN.out], ⟨HLE.out.2.1.mod hmd (fun a ha _ e => by have := HLE.out.2.2 a ha; have := HLL.out; omega), HLE.out.1.symm, ?_, ht, hf⟩, ?_, fun a ha => by have := HLE.out.2.2 a ha; have := HLL.out; omega⟩
      · have h1 : (inL f t s.sl).length ≤ s.sl.length := List.length_filter_le _ _
        rw [HM.out.rd.ls] at h1
        have := HLE.out.1
        omega
      · exact HM.out.bel.trans (hmd.below HM.out.bel.size (fun j _ e => by have := HLR.out; omega))
theorem lhPart_any (aS : Option Addr) (nS cS : Nat) (s : Ses) (f t : Int) (w : World) (HS : Hid (RdSes w aS nS s)) (hn : nS ≤ 100000) (ht : t ≤ 9223372036854775807) (hf : f ≤ 9223372036854775807) : Calls Tryz.prog 26 #[.agg #[.int .i64 s.frm, .int .i64 s.till, .int .i64 s.fin, .slice aS nS cS], .int .i64 f, .int .i64 t] w (PtPost s f t w) := (lhPart_fresh aS nS cS s f t w HS hn ht hf).mono (fun e w' h => by obtain ⟨A, n, cA, h1, h2, h3, _⟩ := h; exact ⟨A, n, cA, h1, h2, h3⟩)
end Go.Proofs.YtoekpdnpncgeeaaGreat
/-
loophole: what is valid, the cuts of sessions, and the price of a session that is divided.
-/
namespace Go.Proofs.YtoekpdnpncgeeaaGreat
open Go.RowKit
set_option linter.unusedVariables false
set_option linter.unusedSimpArgs false
def ctB (till : Int) : Int → List Int → Bool
  | _, [] => true
  | b, m :: r => decide (b < m) && (decide (m < till) && ctB till m r)
def cutsB (s : Ses) (ks : List Int) : Bool := decide (ks.length ≤ 4) && ctB s.till s.frm ks
def endT (z : Int) : Int × Int := if 1000000000 < z then (0, 3) else (z, 0)
noncomputable def priceT (nm : ByteArray) (ar : List Art) (c : Cal) (s : Ses) : Int → Int → List Int → Int × Int
  | f, z, [] => if billE nm ar c (partS s f s.till) = 0 then endT (z + (billV nm ar c (partS s f s.till)).total) else (0, billE nm ar c (partS s f s.till))
  | f, z, m :: r => if billE nm ar c (partS s f m) = 0 then priceT nm ar c s m (z + (billV nm ar c (partS s f m)).total) r else (0, billE nm ar c (partS s f m))
noncomputable def priceR (nm : ByteArray) (ar : List Art) (c : Cal) (s : Ses) (ks : List Int) : Int × Int := if ((trfB nm ar && (calB c && sesB s)) && cutsB s ks) = true then priceT nm ar c s s.frm 0 ks else (0, 1)
theorem runB_net {c : Cal} {s : Ses} : ∀ (l : List Art) (i : Nat) (b b' : BS), (∀ a ∈ l, artB a = true) → 0 ≤ b.net → (b.most = -1 ∨ 0 ≤ b.most) → runB c s i l b = some b' → 0 ≤ b'.net ∧ (b'.most = -1 ∨ 0 ≤ b'.most)
  | [], i, b, b', _, h0, hm, h => by injection h with h; subst h; exact ⟨h0, hm⟩
  | a :: r, i, b, b', ha, h0, hm, h => by
    unfold runB at h
    obtain ⟨b1, h1, h2⟩ := Option.bind_eq_some_iff.1 h
    have hp := art_price (ha a (List.mem_cons_self ..))
    refine runB_net r (i + 1) b1 b' (fun x hx => ha x (List.mem_cons_of_mem _ hx)) ?_ ?_ h2
    · unfold stepB at h1
      split at h1
      · injection h1 with h1; subst h1; exact h0
      · split at h1
        · injection h1 with h1; subst h1; exact h0
        · obtain ⟨n, hn, h1⟩ := Option.map_eq_some_iff.1 h1
          subst h1
          have := lineO_bd (ha a (List.mem_cons_self ..)) hn
          show 0 ≤ b.net + n
          omega
    · unfold stepB at h1
      split at h1
      · injection h1 with h1; subst h1
        show (if b.most < 0 ∨ a.price < b.most then a.price else b.most) = -1 ∨ 0 ≤ (if b.most < 0 ∨ a.price < b.most then a.price else b.most)
        split
        · exact .inr hp.1
        · exact hm
      · split at h1
        · injection h1 with h1; subst h1; exact hm
        · obtain ⟨n, hn, h1⟩ := Option.map_eq_some_iff.1 h1
          subst h1
          exact hm
def rateF : Int → List Art → Int
  | r, [] => r
  | r, a :: l => rateF (if a.kind == 6 then a.price else r) l
theorem rateF_bd : ∀ (l : List Art) (r : Int), 0 ≤ r → r ≤ 10000 → (∀ a ∈ l, artB a = true) → 0 ≤ rateF r l ∧ rateF r l ≤ 10000
  | [], r, h0, h1, _ => ⟨h0, h1⟩
  | a :: l, r, h0, h1, h => by
    unfold rateF
    have ha := h a (List.mem_cons_self ..)
    have hp := art_price ha
    have hm : a.kind = 6 → a.price ≤ 10000 := by
      intro h6
      unfold artB at ha
      simp only [Bool.and_eq_true] at ha
      have := amB_of ha.2.2.2.2.2.1
      unfold mostV at this
      rw [if_pos h6] at this
      omega
    refine rateF_bd l _ ?_ ?_ (fun x hx => h x (List.mem_cons_of_mem _ hx))
    · split <;> omega
    · split
      · rename_i h6; exact hm (by simpa using h6)
      · exact h1
theorem runB_rate {c : Cal} {s : Ses} : ∀ (l : List Art) (i : Nat) (b b' : BS), runB c s i l b = some b' → b'.rate = rateF b.rate l
  | [], i, b, b', h => by injection h with h; subst h; rfl
  | a :: r, i, b, b', h => by
    unfold runB at h
    obtain ⟨b1, h1, h2⟩ := Option.bind_eq_some_iff.1 h
    rw [runB_rate r (i + 1) b1 b' h2, rateF]
    congr 1
    unfold stepB at h1
    split at h1
    · rename_i h5; injection h1 with h1; subst h1; rw [h5]; rfl
    · split at h1
      · rename_i h6; injection h1 with h1; subst h1; rw [h6]; rfl
      · rename_i h6
        obtain ⟨n, hn, h1⟩ := Option.map_eq_some_iff.1 h1
        subst h1
        rw [if_neg (by simpa using h6)]
theorem runB_most {c : Cal} {s : Ses} : ∀ (l : List Art) (i : Nat) (b b' : BS), (∀ a ∈ l, artB a = true) → (b.most = -1 ∨ 0 ≤ b.most) → runB c s i l b = some b' → (0 ≤ b.most → 0 ≤ b'.most ∧ b'.most ≤ b.most) ∧ ∀ a ∈ l, a.kind = 5 → 0 ≤ b'.most ∧ b'.most ≤ a.price
  | [], i, b, b', _, hm, h => by injection h with h; subst h; exact ⟨fun h => ⟨h, Int.le_refl _⟩, fun a ha => by cases ha⟩
  | a :: r, i, b, b', ha, hm, h => by
    unfold runB at h
    obtain ⟨b1, h1, h2⟩ := Option.bind_eq_some_iff.1 h
    have hp := art_price (ha a (List.mem_cons_self ..))
    have key : (b1.most = -1 ∨ 0 ≤ b1.most) ∧ (0 ≤ b.most → 0 ≤ b1.most ∧ b1.most ≤ b.most) ∧ (a.kind = 5 → 0 ≤ b1.most ∧ b1.most ≤ a.price) := by
      unfold stepB at h1
      split at h1
      · injection h1 with h1; subst h1
        show ((if b.most < 0 ∨ a.price < b.most then a.price else b.most) = -1 ∨ 0 ≤ (if b.most < 0 ∨ a.price < b.most then a.price else b.most)) ∧ (0 ≤ b.most → 0 ≤ (if b.most < 0 ∨ a.price < b.most then a.price else b.most) ∧ (if b.most < 0 ∨ a.price < b.most then a.price else b.most) ≤ b.most) ∧ (a.kind = 5 → 0 ≤ (if b.most < 0 ∨ a.price < b.most then a.price else b.most) ∧ (if b.most < 0 ∨ a.price < b.most then a.price else b.most) ≤ a.price)
        split <;> omega
      · rename_i h5
        split at h1
        · injection h1 with h1; subst h1; exact ⟨hm, fun h => ⟨h, Int.le_refl _⟩, fun h => absurd h h5⟩
        · obtain ⟨n, hn, h1⟩ := Option.map_eq_some_iff.1 h1
          subst h1
          exact ⟨hm, fun h => ⟨h, Int.le_refl _⟩, fun h => absurd h h5⟩
    obtain ⟨g1, g2⟩ := runB_most r (i + 1) b1 b' (fun x hx => ha x (List.mem_cons_of_mem _ hx)) key.1 h2
    refine ⟨fun h => ?_, fun x hx h5 => ?_⟩
    · have h3 := key.2.1 h
      have h4 := g1 h3.1
      omega
    · rcases List.mem_cons.1 hx with rfl | hx
      · have h3 := key.2.2 h5
        have h4 := g1 h3.1
        omega
      · exact g2 x hx h5
theorem bill_tot (nm : ByteArray) (ar : List Art) (c : Cal) (s : Ses) : 0 ≤ (billV nm ar c s).total ∧ (billV nm ar c s).total ≤ 1000000000 := by
  unfold billV
  cases h : billO nm ar c s with
  | none => simp
  | some b =>
    unfold billO at h
    split at h
    · rename_i hv
      unfold sumO at h
      obtain ⟨b1, h1, h2⟩ := Option.bind_eq_some_iff.1 h
      have hn := runB_net ar 0 _ b1 (trfB_iff (Bool.and_eq_true_iff.1 hv).1).2.1 (Int.le_refl _) (.inl rfl) h1
      unfold endB at h2
      split at h2
      · rename_i ht
        injection h2 with h2
        subst h2
        have h3 := taxV_bd (netV b1) b1.rate
        have h4 : 0 ≤ netV b1 := by unfold netV; split <;> omega
        exact ⟨by show 0 ≤ netV b1 + taxV (netV b1) b1.rate; omega, ht.2⟩
      · cases h2
    · cases h
theorem box4 {W : World} {G : Nat} {u0 u1 u2 u3 : Value} {t : TypeId} (h : W.heap[G]? = some (Obj.cells #[u0, u1, u2, u3] t)) : W.cell? ⟨G, 0, none⟩ = some u0 ∧ W.cell? ⟨G, 1, none⟩ = some u1 ∧ W.cell? ⟨G, 2, none⟩ = some u2 ∧ W.cell? ⟨G, 3, none⟩ = some u3 ∧
    W.frozen? ⟨G, 0, none⟩ = false ∧ W.frozen? ⟨G, 1, none⟩ = false ∧ W.frozen? ⟨G, 2, none⟩ = false ∧ W.frozen? ⟨G, 3, none⟩ = false := by
  simp [World.cell?, World.frozen?, h]
theorem own_set4 {W : World} {G : Nat} {u0 u1 u2 u3 : Value} (h : W.heap[G]? = some (Obj.cells #[u0, u1, u2, u3] 40)) (v : Value) (n t tt : Int) : Own ((((W.setCell ⟨G, 0, none⟩ v).setCell ⟨G, 1, none⟩ (.int .i64 n)).setCell ⟨G, 2, none⟩ (.int .i64 t)).setCell ⟨G, 3, none⟩ (.int .i64 tt)) G 40 4 (lnF v n t tt) := by
  have ho : Own W G 40 4 (fun i => (#[u0, u1, u2, u3] : Array Value)[i]?.getD undef) := ⟨_, h, rfl, fun i hi => by match i, hi with | 0, _ => rfl | 1, _ => rfl | 2, _ => rfl | 3, _ => rfl⟩
  exact ((((ho.set 0 v).set 1 _).set 2 _).set 3 _).congr (fun i hi => by match i, hi with | 0, _ => rfl | 1, _ => rfl | 2, _ => rfl | 3, _ => rfl)
theorem alloc_obj (w : World) (o : Obj) : (w.alloc o).heap[w.heap.size]? = some o := by
  show (w.heap.push o)[w.heap.size]? = some o
  simp
theorem hb_obj {W W' : World} {G : Nat} {o : Obj} (hb : Below W.heap.size W W') (h : W.heap[G]? = some o) : W'.heap[G]? = some o := by
  have hl := (Array.getElem?_eq_some_iff.1 h).1
  rw [hb.block G hl]
  exact h
set_option maxRecDepth 100000 in
set_option maxHeartbeats 8000000 in
theorem lhVal_any (nm : ByteArray) (aT : Option Addr) (nT cT : Nat) (ar : List Art) (aC : Option Addr) (nC cC : Nat) (aH : Option Addr) (nH cH : Nat) (c : Cal) (aS : Option Addr) (nS cS : Nat) (s : Ses) (w : World) (HQ : Hid (RdTrf w nm aT nT ar)) (HC : Hid (RdCal w aC nC aH nH c)) (HS : Hid (RdSes w aS nS s)) : Calls Tryz.prog 24 #[.agg #[.string nm, .slice aT nT cT], .agg #[.int .i64 c.off, .slice aC nC cC, .slice aH nH cH], .agg #[.int .i64 s.frm, .int .i64 s.till, .int .i64 s.fin, .slice aS nS cS]] w fun e w' => e = .returned (.bool (trfB nm ar && (calB c && sesB s))) ∧ Below w.heap.size w w' := by
  obtain ⟨W0, hW0⟩ : ∃ W0, W0 = ((w.alloc (.cells #[.string nm, .slice aT nT cT] 24)).alloc (.cells #[.int .i64 c.off, .slice aC nC cC, .slice aH nH cH] 28)).alloc (.cells #[.int .i64 s.frm, .int .i64 s.till, .int .i64 s.fin, .slice aS nS cS] 31) := ⟨_, rfl⟩
  obtain ⟨B, hB⟩ : ∃ B, B = w.heap.size := ⟨_, rfl⟩
  have HM : Hid (TCS w W0 B (B + 1) (B + 1 + 1) nm aT nT cT ar aC nC cC aH nH cH c aS nS cS s) := Lib.hid (by rw [hW0, hB]; exact TCS.start HQ.out HC.out HS.out)
  have HW0 := Lib.hid hW0
  have HB0 := Lib.hid hB
  clear hW0 hB
  go_enter Tryz.func24, Tryz.ntmps24
  go_upto_region 1 with (fail)
  rw [← HW0.out, ← HB0.out]
  clear HW0 HB0
  obtain ⟨T, hT⟩ : ∃ T, T = B := ⟨_, rfl⟩
  obtain ⟨X, hX⟩ : ∃ T, T = B + 1 := ⟨_, rfl⟩
  obtain ⟨S, hS⟩ : ∃ T, T = B + 1 + 1 := ⟨_, rfl⟩
  rw [← hS, ← hX, ← hT] at HM ⊢
  clear hT hX hS
  obtain ⟨t0, t1⟩ : W0.cell? ⟨T, 0, none⟩ = some (.string nm) ∧ W0.cell? ⟨T, 1, none⟩ = some (.slice aT nT cT) := ⟨HM.out.tm.k0, HM.out.tm.k1⟩
  have hlT : T < W0.heap.size := World.block_lt_of_cell? W0 _ t0
  obtain ⟨k0, k1, k2⟩ : W0.cell? ⟨X, 0, none⟩ = some (.int .i64 c.off) ∧ W0.cell? ⟨X, 1, none⟩ = some (.slice aC nC cC) ∧ W0.cell? ⟨X, 2, none⟩ = some (.slice aH nH cH) := ⟨HM.out.cm.k0, HM.out.cm.k1, HM.out.cm.k2⟩
  have hlX : X < W0.heap.size := World.block_lt_of_cell? W0 _ k0
  obtain ⟨z0, z1, z2, z3⟩ : W0.cell? ⟨S, 0, none⟩ = some (.int .i64 s.frm) ∧ W0.cell? ⟨S, 1, none⟩ = some (.int .i64 s.till) ∧ W0.cell? ⟨S, 2, none⟩ = some (.int .i64 s.fin) ∧ W0.cell? ⟨S, 3, none⟩ = some (.slice aS nS cS) := ⟨HM.out.sm.k0, HM.out.sm.k1, HM.out.sm.k2, HM.out.sm.k3⟩
  have hlS : S < W0.heap.size := World.block_lt_of_cell? W0 _ z0
  go_wp2_with fail
  refine (tfValid_any nm aT nT cT ar _ (Lib.hid HM.out.tm.rd)).mono ?_
  rintro e w1 ⟨rfl, hb1⟩
  have HM := Lib.hid (HM.out.keep hb1)
  clear hb1
  clear t0 t1 hlT k0 k1 k2 hlX z0 z1 z2 z3 hlS
  obtain ⟨k0, k1, k2⟩ : w1.cell? ⟨X, 0, none⟩ = some (.int .i64 c.off) ∧ w1.cell? ⟨X, 1, none⟩ = some (.slice aC nC cC) ∧ w1.cell? ⟨X, 2, none⟩ = some (.slice aH nH cH) := ⟨HM.out.cm.k0, HM.out.cm.k1, HM.out.cm.k2⟩
  have hlX : X < w1.heap.size := World.block_lt_of_cell? w1 _ k0
  obtain ⟨z0, z1, z2, z3⟩ : w1.cell? ⟨S, 0, none⟩ = some (.int .i64 s.frm) ∧ w1.cell? ⟨S, 1, none⟩ = some (.int .i64 s.till) ∧ w1.cell? ⟨S, 2, none⟩ = some (.int .i64 s.fin) ∧ w1.cell? ⟨S, 3, none⟩ = some (.slice aS nS cS) := ⟨HM.out.sm.k0, HM.out.sm.k1, HM.out.sm.k2, HM.out.sm.k3⟩
  have hlS : S < w1.heap.size := World.block_lt_of_cell? w1 _ z0
  cases h1 : trfB nm ar
  · go_wp2_with fail
    go_ret
    exact ⟨ret_bool (by rw [h1]; rfl), HM.out.bel⟩
  go_wp2_with fail
  refine (dValid_any aC nC cC aH nH cH c _ (Lib.hid HM.out.cm.rd)).mono ?_
  rintro e w2 ⟨rfl, hb1⟩
  have HM := Lib.hid (HM.out.keep hb1)
  clear hb1
  clear k0 k1 k2 hlX z0 z1 z2 z3 hlS
  obtain ⟨z0, z1, z2, z3⟩ : w2.cell? ⟨S, 0, none⟩ = some (.int .i64 s.frm) ∧ w2.cell? ⟨S, 1, none⟩ = some (.int .i64 s.till) ∧ w2.cell? ⟨S, 2, none⟩ = some (.int .i64 s.fin) ∧ w2.cell? ⟨S, 3, none⟩ = some (.slice aS nS cS) := ⟨HM.out.sm.k0, HM.out.sm.k1, HM.out.sm.k2, HM.out.sm.k3⟩
  have hlS : S < w2.heap.size := World.block_lt_of_cell? w2 _ z0
  cases h2 : calB c
  · go_wp2_with fail
    go_ret
    exact ⟨ret_bool (by rw [h1, h2]; rfl), HM.out.bel⟩
  go_wp2_with fail
  refine (bValid_any aS nS cS s _ (Lib.hid HM.out.sm.rd)).mono ?_
  rintro e w3 ⟨rfl, hb1⟩
  have HM := Lib.hid (HM.out.keep hb1)
  clear hb1
  go_wp2_with fail
  go_ret
  exact ⟨ret_bool (by rw [h1, h2]; rfl), HM.out.bel⟩
set_option maxRecDepth 100000 in
set_option maxHeartbeats 8000000 in
theorem lhCuts_any (aS : Option Addr) (nS cS : Nat) (s : Ses) (aK : Option Addr) (nK cK : Nat) (ks : List Int) (w : World) (HS : Hid (RdSes w aS nS s)) (hr : Rd 1 encI w aK ks) (hk : ks.length = nK) (hk6 : nK ≤ 9223372036854775807) : Calls Tryz.prog 25 #[.agg #[.int .i64 s.frm, .int .i64 s.till, .int .i64 s.fin, .slice aS nS cS], .slice aK nK cK] w fun e w' => e = .returned (.bool (cutsB s ks)) ∧ Below w.heap.size w w' := by
  have HLK : Hid (ks.length = nK) := Lib.hid hk
  have HK0 := Lib.hid hr
  obtain ⟨R, hR⟩ : ∃ R, R = cutsB s ks := ⟨_, rfl⟩
  have HR : Hid (R = (decide (nK ≤ 4) && ctB s.till s.frm ks)) := Lib.hid (by rw [hR]; unfold cutsB; rw [hk])
  rw [← hR]
  clear hR hk hr
  obtain ⟨W0, hW0⟩ : ∃ W0, W0 = w.alloc (.cells #[.int .i64 s.frm, .int .i64 s.till, .int .i64 s.fin, .slice aS nS cS] 31) := ⟨_, rfl⟩
  obtain ⟨S, hS⟩ : ∃ S, S = w.heap.size := ⟨_, rfl⟩
  have HM : Hid (SesM w W0 S aS nS cS s) := Lib.hid (by rw [hW0, hS]; exact SesM.box (Below.refl _ _) HS.out)
  have HW0 := Lib.hid hW0
  have HS0 := Lib.hid hS
  clear hW0 hS
  go_enter Tryz.func25, Tryz.ntmps25
  go_upto_region 1 with (fail)
  rw [← HW0.out, ← HS0.out]
  clear HW0 HS0
  have z0 : W0.cell? ⟨S, 0, none⟩ = some (.int .i64 s.frm) := HM.out.k0
  have hlS : S < W0.heap.size := World.block_lt_of_cell? W0 _ z0
  by_cases h4 : nK ≤ 4
  case neg =>
    have h4z : (4 : Int) < (nK : Int) := by omega
    have HF : Hid (R = false) := Lib.hid (by rw [HR.out, decide_eq_false h4]; rfl)
    go_wp2_with fail
    go_ret
    exact ⟨ret_bool HF.out.symm, HM.out.bel⟩
  have h4z : ¬ (4 : Int) < (nK : Int) := by omega
  have HR0 : Hid (R = ctB s.till s.frm (ks.drop 0)) := Lib.hid (by rw [HR.out, decide_eq_true h4]; rfl)
  clear HR
  go_wp2_with fail
  clear z0 hlS
  go_loopg [5, 15] nK (fun g1 v5 v15 wr => ∃ (i : Nat) (b : Int), v5 = .int .i64 b ∧ v15 = .int .i64 i ∧ i ≤ nK ∧ nK - i ≤ g1 ∧ Hid (R = ctB s.till b (ks.drop i)) ∧ Hid (SesM w wr S aS nS cS s))
  case atStart => exact ⟨0, s.frm, rfl, by go_num, by omega, by omega, HR0, HM⟩
  case round =>
    clear HR0 HM
    obtain ⟨i, b, rfl, rfl, hi, hg1, HR, HM⟩ := hrel
    have z1 : wr.cell? ⟨S, 1, none⟩ = some (.int .i64 s.till) := HM.out.k1
    have hlS : S < wr.heap.size := World.block_lt_of_cell? wr _ z1
    by_cases hlt : i < nK
    · have hltz : (i : Int) < (nK : Int) := by omega
      obtain ⟨bb, off, x, hA, hbl, hgx, hc0⟩ := rdI_at (HK0.out.keep HM.out.bel) (show i < ks.length by rw [HLK.out]; exact hlt)
      have HRR : Hid (R = (decide (b < x) && (decide (x < s.till) && ctB s.till x (ks.drop (i + 1))))) := Lib.hid (by rw [HR.out, drop_at hgx]; rfl)
      clear HR hgx
      subst hA
      by_cases h1 : b < x
      case neg =>
        have HF : Hid (R = false) := Lib.hid (by rw [HRR.out, decide_eq_false h1]; rfl)
        have h1z : x ≤ b := by omega
        go_wp2_with fail
        go_ret
        exact ⟨ret_bool HF.out.symm, HM.out.bel⟩
      have h1z : ¬ x ≤ b := by omega
      by_cases h2 : x < s.till
      case neg =>
        have HF : Hid (R = false) := Lib.hid (by rw [HRR.out, decide_eq_false h2]; simp)
        have h2z : s.till ≤ x := by omega
        go_wp2_with fail
        go_ret
        exact ⟨ret_bool HF.out.symm, HM.out.bel⟩
      have h2z : ¬ s.till ≤ x := by omega
      have HR2 : Hid (R = ctB s.till x (ks.drop (i + 1))) := Lib.hid (by rw [HRR.out, decide_eq_true h1, decide_eq_true h2]; rfl)
      clear HRR
      go_wp2_with fail
      go_roundg (nK - (i + 1))
      case measure => omega
      case rel => exact ⟨i + 1, x, rfl, by go_num, by omega, by omega, HR2, HM⟩
    · have hltz : ¬ (i : Int) < (nK : Int) := by omega
      have HF : Hid (R = true) := Lib.hid (by rw [HR.out, List.drop_eq_nil_of_le (by have := HLK.out; omega)]; rfl)
      go_wp2_with fail
      go_ret
      exact ⟨ret_bool HF.out.symm, HM.out.bel⟩
set_option maxRecDepth 100000 in
set_option maxHeartbeats 16000000 in
theorem lhPrice_any (nm : ByteArray) (aT : Option Addr) (nT cT : Nat) (ar : List Art) (aC : Option Addr) (nC cC : Nat) (aH : Option Addr) (nH cH : Nat) (c : Cal) (aS : Option Addr) (nS cS : Nat) (s : Ses) (aK : Option Addr) (nK cK : Nat) (ks : List Int) (w : World) (HQ : Hid (RdTrf w nm aT nT ar)) (HC : Hid (RdCal w aC nC aH nH c)) (HS : Hid (RdSes w aS nS s)) (hr : Rd 1 encI w aK ks) (hk : ks.length = nK) (hk6 : nK ≤ 4611686018427387904) (hkw : ∀ x ∈ ks, x ≤ 9223372036854775807) : Calls Tryz.prog 12 #[.agg #[.string nm, .slice aT nT cT], .agg #[.int .i64 c.off, .slice aC nC cC, .slice aH nH cH], .agg #[.int .i64 s.frm, .int .i64 s.till, .int .i64 s.fin, .slice aS nS cS], .slice aK nK cK] w fun e w' => e = .returned (.tuple #[.int .i64 (priceR nm ar c s ks).1, .int .i64 (priceR nm ar c s ks).2]) ∧ Below w.heap.size w w' := by
  have HLK : Hid (ks.length = nK) := Lib.hid hk
  have HK0 := Lib.hid hr
  have HOKS : Hid (∀ x ∈ ks, x ≤ 9223372036854775807) := Lib.hid hkw
  obtain ⟨R, hR⟩ : ∃ R, R = priceR nm ar c s ks := ⟨_, rfl⟩
  have HR : Hid (R = if ((trfB nm ar && (calB c && sesB s)) && cutsB s ks) = true then priceT nm ar c s s.frm 0 ks else (0, 1)) := Lib.hid (by rw [hR]; rfl)
  rw [← hR]
  clear hR hk hr hkw
  obtain ⟨W0, hW0⟩ : ∃ W0, W0 = ((w.alloc (.cells #[.string nm, .slice aT nT cT] 24)).alloc (.cells #[.int .i64 c.off, .slice aC nC cC, .slice aH nH cH] 28)).alloc (.cells #[.int .i64 s.frm, .int .i64 s.till, .int .i64 s.fin, .slice aS nS cS] 31) := ⟨_, rfl⟩
  obtain ⟨B, hB⟩ : ∃ B, B = w.heap.size := ⟨_, rfl⟩
  have HM : Hid (TCS w W0 B (B + 1) (B + 1 + 1) nm aT nT cT ar aC nC cC aH nH cH c aS nS cS s) := Lib.hid (by rw [hW0, hB]; exact TCS.start HQ.out HC.out HS.out)
  have HW0 := Lib.hid hW0
  have HB0 := Lib.hid hB
  clear hW0 hB
  go_enter Tryz.func12, Tryz.ntmps12
  go_upto_region 1 with (fail)
  rw [← HW0.out, ← HB0.out]
  clear HW0 HB0
  obtain ⟨T, hT⟩ : ∃ T, T = B := ⟨_, rfl⟩
  obtain ⟨X, hX⟩ : ∃ T, T = B + 1 := ⟨_, rfl⟩
  obtain ⟨S, hS⟩ : ∃ T, T = B + 1 + 1 := ⟨_, rfl⟩
  rw [← hS, ← hX, ← hT] at HM ⊢
  clear hT hX hS
  obtain ⟨t0, t1⟩ : W0.cell? ⟨T, 0, none⟩ = some (.string nm) ∧ W0.cell? ⟨T, 1, none⟩ = some (.slice aT nT cT) := ⟨HM.out.tm.k0, HM.out.tm.k1⟩
  have hlT : T < W0.heap.size := World.block_lt_of_cell? W0 _ t0
  obtain ⟨k0, k1, k2⟩ : W0.cell? ⟨X, 0, none⟩ = some (.int .i64 c.off) ∧ W0.cell? ⟨X, 1, none⟩ = some (.slice aC nC cC) ∧ W0.cell? ⟨X, 2, none⟩ = some (.slice aH nH cH) := ⟨HM.out.cm.k0, HM.out.cm.k1, HM.out.cm.k2⟩
  have hlX : X < W0.heap.size := World.block_lt_of_cell? W0 _ k0
  obtain ⟨z0, z1, z2, z3⟩ : W0.cell? ⟨S, 0, none⟩ = some (.int .i64 s.frm) ∧ W0.cell? ⟨S, 1, none⟩ = some (.int .i64 s.till) ∧ W0.cell? ⟨S, 2, none⟩ = some (.int .i64 s.fin) ∧ W0.cell? ⟨S, 3, none⟩ = some (.slice aS nS cS) := ⟨HM.out.sm.k0, HM.out.sm.k1, HM.out.sm.k2, HM.out.sm.k3⟩
  have hlS : S < W0.heap.size := World.block_lt_of_cell? W0 _ z0
  go_wp2_with fail
  refine (lhVal_any nm aT nT cT ar aC nC cC aH nH cH c aS nS cS s _ (Lib.hid HM.out.tm.rd) (Lib.hid HM.out.cm.rd) (Lib.hid HM.out.sm.rd)).mono ?_
  rintro e w1 ⟨rfl, hb1⟩
  have HM := Lib.hid (HM.out.keep hb1)
  clear hb1
  clear t0 t1 hlT k0 k1 k2 hlX z0 z1 z2 z3 hlS
  obtain ⟨z0, z1, z2, z3⟩ : w1.cell? ⟨S, 0, none⟩ = some (.int .i64 s.frm) ∧ w1.cell? ⟨S, 1, none⟩ = some (.int .i64 s.till) ∧ w1.cell? ⟨S, 2, none⟩ = some (.int .i64 s.fin) ∧ w1.cell? ⟨S, 3, none⟩ = some (.slice aS nS cS) := ⟨HM.out.sm.k0, HM.out.sm.k1, HM.out.sm.k2, HM.out.sm.k3⟩
  have hlS : S < w1.heap.size := World.block_lt_of_cell? w1 _ z0
  cases h1 : (trfB nm ar && (calB c && sesB s))
  · have HF : Hid (R = (0, 1)) := Lib.hid (by rw [HR.out, h1]; rfl)
    go_wp2_with fail
    go_ret2
    exact ⟨by rw [HF.out]; rfl, HM.out.bel⟩
  have HVV := Lib.hid h1
  clear h1
  go_wp2_with fail
  refine (lhCuts_any aS nS cS s aK nK cK ks _ (Lib.hid HM.out.sm.rd) (HK0.out.keep HM.out.bel) HLK.out (by omega)).mono ?_
  rintro e w2 ⟨rfl, hb1⟩
  have HM := Lib.hid (HM.out.keep hb1)
  clear hb1
  clear z0 z1 z2 z3 hlS
  obtain ⟨z0, z1, z2, z3⟩ : w2.cell? ⟨S, 0, none⟩ = some (.int .i64 s.frm) ∧ w2.cell? ⟨S, 1, none⟩ = some (.int .i64 s.till) ∧ w2.cell? ⟨S, 2, none⟩ = some (.int .i64 s.fin) ∧ w2.cell? ⟨S, 3, none⟩ = some (.slice aS nS cS) := ⟨HM.out.sm.k0, HM.out.sm.k1, HM.out.sm.k2, HM.out.sm.k3⟩
  have hlS : S < w2.heap.size := World.block_lt_of_cell? w2 _ z0
  cases h2 : cutsB s ks
  · have HF : Hid (R = (0, 1)) := Lib.hid (by rw [HR.out, h2]; simp)
    go_wp2_with fail
    go_ret2
    exact ⟨by rw [HF.out]; rfl, HM.out.bel⟩
  have HCU := Lib.hid h2
  clear h2
  have HN4 : Hid (nK ≤ 4) := Lib.hid (by have h := HCU.out; unfold cutsB at h; simp only [Bool.and_eq_true, decide_eq_true_eq] at h; rw [HLK.out] at h; exact h.1)
  have hn4 := HN4.out
  have HSB : Hid (sesB s = true) := Lib.hid (by have h := HVV.out; simp only [Bool.and_eq_true] at h; exact h.2.2)
  have HNS : Hid (nS ≤ 48) := Lib.hid (by rw [← HS.out.ls]; exact (sesB_iff.1 HSB.out).2.2.2.2.2.2.1)
  have HTV : Hid (s.till ≤ 9223372036854775807) := Lib.hid HS.out.wt
  have HFV0 : Hid (s.frm ≤ 9223372036854775807) := Lib.hid HS.out.wf
  have HR0 : Hid (0 ≤ nK ∧ R = priceT nm ar c s s.frm 0 (ks.drop 0) ∨ 0 = nK + 1 ∧ R = endT 0) := Lib.hid (.inl ⟨by omega, by rw [HR.out, HVV.out, HCU.out]; rfl⟩)
  clear HR
  go_wp2_with fail
  go_region
  obtain ⟨w3, hw3⟩ : ∃ W, W = w2.drew := ⟨_, rfl⟩
  have hb3 : Below w2.heap.size w2 w3 := by rw [hw3]; exact below_drewG' (Below.refl _ _)
  have HM := Lib.hid (HM.out.keep hb3)
  clear hb3
  rw [← hw3]
  clear hw3 z0 z1 z2 z3 hlS
  go_wp2_with fail
  go_loopg [10, 11, 32] (nK + 1) (fun g1 v10 v11 v32 wr => ∃ (i : Nat) (f z : Int), v10 = .int .i64 z ∧ v11 = .int .i64 f ∧ v32 = .int .i64 i ∧ i ≤ nK + 1 ∧ nK + 1 - i ≤ g1 ∧ 0 ≤ z ∧ z ≤ 1000000000 * (i : Int) ∧ Hid (f ≤ 9223372036854775807) ∧ Hid (i ≤ nK ∧ R = priceT nm ar c s f z (ks.drop i) ∨ i = nK + 1 ∧ R = endT z) ∧ Hid (TCS w wr T X S nm aT nT cT ar aC nC cC aH nH cH c aS nS cS s))
  case atStart => exact ⟨0, s.frm, 0, rfl, rfl, by go_num, by omega, by omega, by omega, by omega, HFV0, HR0, HM⟩
  case round =>
    clear HR0 HM HFV0
    obtain ⟨i, f, z, rfl, rfl, rfl, hi, hg1, hz0, hz1, HFV, HR, HM⟩ := hrel
    by_cases hlt : i < nK + 1
    · have hltz : (i : Int) < (nK : Int) + 1 := by omega
      have HR1 : Hid (R = priceT nm ar c s f z (ks.drop i)) := Lib.hid (by rcases HR.out with h | h; exact h.2; omega)
      clear HR
      obtain ⟨z0, z1, z2, z3⟩ : wr.cell? ⟨S, 0, none⟩ = some (.int .i64 s.frm) ∧ wr.cell? ⟨S, 1, none⟩ = some (.int .i64 s.till) ∧ wr.cell? ⟨S, 2, none⟩ = some (.int .i64 s.fin) ∧ wr.cell? ⟨S, 3, none⟩ = some (.slice aS nS cS) := ⟨HM.out.sm.k0, HM.out.sm.k1, HM.out.sm.k2, HM.out.sm.k3⟩
      have hlS : S < wr.heap.size := World.block_lt_of_cell? wr _ z0
      by_cases hin : i < nK
      · have hinz : (i : Int) < (nK : Int) := by omega
        obtain ⟨bb, off, x, hA, hbl, hgx, hc0⟩ := rdI_at (HK0.out.keep HM.out.bel) (show i < ks.length by rw [HLK.out]; exact hin)
        have HRN : Hid (R = if billE nm ar c (partS s f x) = 0 then priceT nm ar c s x (z + (billV nm ar c (partS s f x)).total) (ks.drop (i + 1)) else (0, billE nm ar c (partS s f x))) := Lib.hid (by rw [HR1.out, drop_at hgx]; rfl)
        have HXB : Hid (x ≤ 9223372036854775807) := Lib.hid (HOKS.out x (List.mem_of_getElem? hgx))
        clear HR1 hgx
        subst hA
        go_upto_region 10 with (fail)
        go_cut [14, 15] (fun v14 v15 wx => ∃ (G : Nat) (A2 : Option Addr) (n2 c2 : Nat), v14 = .pointer (some ⟨G, 0, none⟩) ∧ v15 = .int .i64 (billE nm ar c (partS s f x)) ∧ Hid (Own wx G 40 4 (lnF (.slice A2 n2 c2) (billV nm ar c (partS s f x)).net (billV nm ar c (partS s f x)).tax (billV nm ar c (partS s f x)).total)) ∧ Hid (Below wr.heap.size wr wx))
        case first =>
          refine region_z (S := fun w' => Below wr.heap.size wr w') [] (by kernel_rfl) (Below.refl _ _).drew (fun hHeld => ?_)
          obtain ⟨wd, hwd⟩ : ∃ wd, wd = wr.drew := ⟨_, rfl⟩
          rw [← hwd] at hHeld ⊢
          clear hwd
          refine wpAnyZ_take (i := 0) (v := .agg #[.string nm, .slice aT nT cT]) [6, 7, 8, 9, 11, 12] rfl (by kernel_rfl) (by kernel_rfl) (by kernel_rfl) (by kernel_rfl) (fun _ _ _ h => h) (Or.inl ⟨by kernel_rfl, fun w' hSw => ?_⟩) hHeld ?_
          · obtain ⟨t0, t1⟩ : w'.cell? ⟨T, 0, none⟩ = some (.string nm) ∧ w'.cell? ⟨T, 1, none⟩ = some (.slice aT nT cT) := ⟨(HM.out.keep hSw).tm.k0, (HM.out.keep hSw).tm.k1⟩
            clear hHeld hSw
            go_simp
          simp only [Act.put, List.getElem_toArray, List.getElem_cons_zero, List.getElem_cons_succ, List.setIfInBounds_toArray, List.set_cons_zero, List.set_cons_succ]
          refine wpAnyZ_take (i := 1) (v := .agg #[.int .i64 c.off, .slice aC nC cC, .slice aH nH cH]) [6, 7, 8, 9, 11, 12] rfl (by kernel_rfl) (by kernel_rfl) (by kernel_rfl) (by kernel_rfl) (fun _ _ _ h => h) (Or.inl ⟨by kernel_rfl, fun w' hSw => ?_⟩) hHeld ?_
          · obtain ⟨k0, k1, k2⟩ : w'.cell? ⟨X, 0, none⟩ = some (.int .i64 c.off) ∧ w'.cell? ⟨X, 1, none⟩ = some (.slice aC nC cC) ∧ w'.cell? ⟨X, 2, none⟩ = some (.slice aH nH cH) := ⟨(HM.out.keep hSw).cm.k0, (HM.out.keep hSw).cm.k1, (HM.out.keep hSw).cm.k2⟩
            clear hHeld hSw
            go_simp
          simp only [Act.put, List.getElem_toArray, List.getElem_cons_zero, List.getElem_cons_succ, List.setIfInBounds_toArray, List.set_cons_zero, List.set_cons_succ]
          refine wpAnyZ_take (i := 2) (v := .agg #[.int .i64 s.frm, .int .i64 s.till, .int .i64 s.fin, .slice aS nS cS]) [5, 6, 7, 8, 9, 11, 12] rfl (by kernel_rfl) (by kernel_rfl) (by kernel_rfl) (by kernel_rfl) (fun _ _ _ h => h) (Or.inl ⟨by kernel_rfl, fun w' hSw => ?_⟩) hHeld ?_
          · obtain ⟨z0, z1, z2, z3⟩ : w'.cell? ⟨S, 0, none⟩ = some (.int .i64 s.frm) ∧ w'.cell? ⟨S, 1, none⟩ = some (.int .i64 s.till) ∧ w'.cell? ⟨S, 2, none⟩ = some (.int .i64 s.fin) ∧ w'.cell? ⟨S, 3, none⟩ = some (.slice aS nS cS) := ⟨(HM.out.keep hSw).sm.k0, (HM.out.keep hSw).sm.k1, (HM.out.keep hSw).sm.k2, (HM.out.keep hSw).sm.k3⟩
            clear hHeld hSw
            go_simp
          simp only [Act.put, List.getElem_toArray, List.getElem_cons_zero, List.getElem_cons_succ, List.setIfInBounds_toArray, List.set_cons_zero, List.set_cons_succ]
          refine wpAnyZ_take (i := 3) (v := .int .i64 f) [5, 6, 7, 8, 9, 11, 12] rfl (by kernel_rfl) (by kernel_rfl) (by kernel_rfl) (by kernel_rfl) (fun _ _ _ h => h) (Or.inl ⟨by kernel_rfl, fun w' hSw => ?_⟩) hHeld ?_
          · clear hHeld hSw
            go_simp
          simp only [Act.put, List.getElem_toArray, List.getElem_cons_zero, List.getElem_cons_succ, List.setIfInBounds_toArray, List.set_cons_zero, List.set_cons_succ]
          refine wpAnyZ_take (i := 4) (v := .int .i64 x) [5, 6, 7, 8, 9, 11, 12] rfl (by kernel_rfl) (by kernel_rfl) (by kernel_rfl) (by kernel_rfl) (fun _ _ _ h => h) (Or.inl ⟨by kernel_rfl, fun w' hSw => ?_⟩) hHeld ?_
          · clear hHeld hSw
            go_simp
          simp only [Act.put, List.getElem_toArray, List.getElem_cons_zero, List.getElem_cons_succ, List.setIfInBounds_toArray, List.set_cons_zero, List.set_cons_succ]
          refine wpAnyZ_two (i := 5) (k := 10) (by kernel_rfl) rfl rfl (fun K' hK => ?_) (fun K' hK => ?_)
          · go_simp
            refine (lhPart_any aS nS cS s f x _ (Lib.hid (HM.out.keep hHeld).sm.rd) (by have := HNS.out; omega) HXB.out HFV.out).mono ?_
            rintro e wa ⟨A1, n1, c1, rfl, hr1, hb⟩
            have HR1 := Lib.hid hr1
            clear hr1
            refine hK.out _ _ ?_ (fun hHeld' => ?_)
            · exact hHeld.trans (hb.mono hHeld.size)
            clear hK K'
            clear hHeld hb 
            have hHeld := hHeld'
            clear hHeld'
            try simp only [Act.put, List.getElem_toArray, List.getElem_cons_zero, List.getElem_cons_succ, List.setIfInBounds_toArray, List.set_cons_zero, List.set_cons_succ]
            refine wpAnyZ_two (i := 6) (k := 10) (by kernel_rfl) rfl rfl (fun K' hK => ?_) (fun K' hK => ?_)
            · go_simp
              refine (bBill_any nm aT nT cT ar aC nC cC aH nH cH c A1 n1 c1 (partS s f x) _ (Lib.hid (HM.out.keep hHeld).tm.rd) (Lib.hid (HM.out.keep hHeld).cm.rd) HR1).mono ?_
              rintro e wk ⟨A2, n2, c2, rfl, hn2, hr2, hb⟩
              clear hn2 hr2
              refine hK.out _ _ ?_ (fun hHeld' => ?_)
              · exact hHeld.trans (hb.mono hHeld.size)
              clear hK K'
              have HR1 := Lib.hid (HR1.out.keep hb)
              clear hHeld hb 
              have hHeld := hHeld'
              clear hHeld'
              try simp only [Act.put, List.getElem_toArray, List.getElem_cons_zero, List.getElem_cons_succ, List.setIfInBounds_toArray, List.set_cons_zero, List.set_cons_succ]
              refine wpAnyZ_take (i := 7) (v := .tuple #[.agg #[.slice A2 n2 c2, .int .i64 (billV nm ar c (partS s f x)).net, .int .i64 (billV nm ar c (partS s f x)).tax, .int .i64 (billV nm ar c (partS s f x)).total], .int .i64 (billE nm ar c (partS s f x))]) [8, 9, 11, 12] rfl (by kernel_rfl) (by kernel_rfl) (by kernel_rfl) (by kernel_rfl) (fun _ _ _ h => h) (Or.inl ⟨by kernel_rfl, fun w' hSw => ?_⟩) hHeld ?_
              · clear hHeld hSw
                go_simp
              simp only [Act.put, List.getElem_toArray, List.getElem_cons_zero, List.getElem_cons_succ, List.setIfInBounds_toArray, List.set_cons_zero, List.set_cons_succ]
              refine wpAnyZ_take (i := 8) (v := .agg #[.slice A2 n2 c2, .int .i64 (billV nm ar c (partS s f x)).net, .int .i64 (billV nm ar c (partS s f x)).tax, .int .i64 (billV nm ar c (partS s f x)).total]) [11] rfl (by kernel_rfl) (by kernel_rfl) (by kernel_rfl) (by kernel_rfl) (fun _ _ _ h => h) (Or.inl ⟨by kernel_rfl, fun w' hSw => ?_⟩) hHeld ?_
              · clear hHeld hSw
                go_simp
              simp only [Act.put, List.getElem_toArray, List.getElem_cons_zero, List.getElem_cons_succ, List.setIfInBounds_toArray, List.set_cons_zero, List.set_cons_succ]
              refine wpAnyZ_take (i := 9) (v := .int .i64 (billE nm ar c (partS s f x))) [12] rfl (by kernel_rfl) (by kernel_rfl) (by kernel_rfl) (by kernel_rfl) (fun _ _ _ h => h) (Or.inl ⟨by kernel_rfl, fun w' hSw => ?_⟩) hHeld ?_
              · clear hHeld hSw
                go_simp
              simp only [Act.put, List.getElem_toArray, List.getElem_cons_zero, List.getElem_cons_succ, List.setIfInBounds_toArray, List.set_cons_zero, List.set_cons_succ]
              refine wpAnyZ_one (i := 10) (by kernel_rfl) rfl (fun K' hK => ?_)
              have HR1 := Lib.hid (HR1.out.keep ((Below.refl _ _).alloc (Nat.le_refl _) (.cells #[.slice none 0 0, .int .i64 0, .int .i64 0, .int .i64 0] 40)))
              go_simp
              refine hK.out _ _ ?_ (fun hHeld' => ?_)
              · exact hHeld.alloc hHeld.size _
              clear hK K'
              have GG0 := hHeld.size
              clear hHeld
              have hHeld := hHeld'
              clear hHeld'
              try simp only [Act.put, List.getElem_toArray, List.getElem_cons_zero, List.getElem_cons_succ, List.setIfInBounds_toArray, List.set_cons_zero, List.set_cons_succ]
              obtain ⟨WA, G, OG, GG, HWA⟩ : ∃ WA G, Hid (WA.heap[G]? = some (Obj.cells #[.slice none 0 0, .int .i64 0, .int .i64 0, .int .i64 0] 40)) ∧ wr.heap.size ≤ G ∧ Hid (WA = wk.alloc (.cells #[.slice none 0 0, .int .i64 0, .int .i64 0, .int .i64 0] 40) ∧ G = wk.heap.size) := ⟨_, _, Lib.hid (alloc_obj _ _), GG0, Lib.hid ⟨rfl, rfl⟩⟩
              rw [← HWA.out.1] at hHeld HR1 ⊢
              rw [← HWA.out.2]
              clear GG0 HWA
              refine wpAnyZ_one (i := 11) (by kernel_rfl) rfl (fun K' hK => ?_)
              obtain ⟨o0, o1, o2, o3, f0, f1, f2, f3⟩ := box4 OG.out
              go_simp
              refine hK.out _ _ ?_ (fun hHeld' => ?_)
              · exact (((hHeld.setCell (p := ⟨G, 0, none⟩) GG _).setCell (p := ⟨G, 1, none⟩) GG _).setCell (p := ⟨G, 2, none⟩) GG _).setCell (p := ⟨G, 3, none⟩) GG _
              have HGB := Lib.hid (own_set4 OG.out (.slice A2 n2 c2) (billV nm ar c (partS s f x)).net (billV nm ar c (partS s f x)).tax (billV nm ar c (partS s f x)).total)
              clear hK K' hHeld o0 o1 o2 o3 f0 f1 f2 f3 OG
              have hHeld := hHeld'
              clear hHeld'
              try simp only [Act.put, List.getElem_toArray, List.getElem_cons_zero, List.getElem_cons_succ, List.setIfInBounds_toArray, List.set_cons_zero, List.set_cons_succ]
              refine wpAnyZ_take (i := 12) (v := .int .i64 (billE nm ar c (partS s f x))) [] rfl (by kernel_rfl) (by kernel_rfl) (by kernel_rfl) (by kernel_rfl) (fun _ _ _ h => h) (Or.inl ⟨by kernel_rfl, fun w' hSw => ?_⟩) hHeld ?_
              · clear hHeld hSw
                go_simp
              simp only [Act.put, List.getElem_toArray, List.getElem_cons_zero, List.getElem_cons_succ, List.setIfInBounds_toArray, List.set_cons_zero, List.set_cons_succ]
              refine wpAnyZ_done (by kernel_rfl) ?_ _
              go_wp2_with fail
              go_meet
              exact ⟨G, A2, n2, c2, rfl, rfl, HGB, Lib.hid hHeld⟩
            · have HR1 := Lib.hid (HR1.out.keep ((Below.refl _ _).alloc (Nat.le_refl _) (.cells #[.slice none 0 0, .int .i64 0, .int .i64 0, .int .i64 0] 40)))
              go_simp
              refine hK.out _ _ ?_ (fun hHeld' => ?_)
              · exact hHeld.alloc hHeld.size _
              clear hK K'
              have GG0 := hHeld.size
              clear hHeld
              have hHeld := hHeld'
              clear hHeld'
              try simp only [Act.put, List.getElem_toArray, List.getElem_cons_zero, List.getElem_cons_succ, List.setIfInBounds_toArray, List.set_cons_zero, List.set_cons_succ]
              obtain ⟨WA, G, OG, GG, HWA⟩ : ∃ WA G, Hid (WA.heap[G]? = some (Obj.cells #[.slice none 0 0, .int .i64 0, .int .i64 0, .int .i64 0] 40)) ∧ wr.heap.size ≤ G ∧ Hid (WA = wa.alloc (.cells #[.slice none 0 0, .int .i64 0, .int .i64 0, .int .i64 0] 40) ∧ G = wa.heap.size) := ⟨_, _, Lib.hid (alloc_obj _ _), GG0, Lib.hid ⟨rfl, rfl⟩⟩
              rw [← HWA.out.1] at hHeld HR1 ⊢
              rw [← HWA.out.2]
              clear GG0 HWA
              refine wpAnyZ_one (i := 6) (by kernel_rfl) rfl (fun K' hK => ?_)
              go_simp
              refine (bBill_any nm aT nT cT ar aC nC cC aH nH cH c A1 n1 c1 (partS s f x) _ (Lib.hid (HM.out.keep hHeld).tm.rd) (Lib.hid (HM.out.keep hHeld).cm.rd) HR1).mono ?_
              rintro e wk ⟨A2, n2, c2, rfl, hn2, hr2, hb⟩
              clear hn2 hr2
              refine hK.out _ _ ?_ (fun hHeld' => ?_)
              · exact hHeld.trans (hb.mono hHeld.size)
              clear hK K'
              have OG := Lib.hid (hb_obj hb OG.out)
              have HR1 := Lib.hid (HR1.out.keep hb)
              clear hHeld hb 
              have hHeld := hHeld'
              clear hHeld'
              try simp only [Act.put, List.getElem_toArray, List.getElem_cons_zero, List.getElem_cons_succ, List.setIfInBounds_toArray, List.set_cons_zero, List.set_cons_succ]
              refine wpAnyZ_take (i := 7) (v := .tuple #[.agg #[.slice A2 n2 c2, .int .i64 (billV nm ar c (partS s f x)).net, .int .i64 (billV nm ar c (partS s f x)).tax, .int .i64 (billV nm ar c (partS s f x)).total], .int .i64 (billE nm ar c (partS s f x))]) [8, 9, 11, 12] rfl (by kernel_rfl) (by kernel_rfl) (by kernel_rfl) (by kernel_rfl) (fun _ _ _ h => h) (Or.inl ⟨by kernel_rfl, fun w' hSw => ?_⟩) hHeld ?_
              · clear hHeld hSw
                go_simp
              simp only [Act.put, List.getElem_toArray, List.getElem_cons_zero, List.getElem_cons_succ, List.setIfInBounds_toArray, List.set_cons_zero, List.set_cons_succ]
              refine wpAnyZ_take (i := 8) (v := .agg #[.slice A2 n2 c2, .int .i64 (billV nm ar c (partS s f x)).net, .int .i64 (billV nm ar c (partS s f x)).tax, .int .i64 (billV nm ar c (partS s f x)).total]) [11] rfl (by kernel_rfl) (by kernel_rfl) (by kernel_rfl) (by kernel_rfl) (fun _ _ _ h => h) (Or.inl ⟨by kernel_rfl, fun w' hSw => ?_⟩) hHeld ?_
              · clear hHeld hSw
                go_simp
              simp only [Act.put, List.getElem_toArray, List.getElem_cons_zero, List.getElem_cons_succ, List.setIfInBounds_toArray, List.set_cons_zero, List.set_cons_succ]
              refine wpAnyZ_take (i := 9) (v := .int .i64 (billE nm ar c (partS s f x))) [12] rfl (by kernel_rfl) (by kernel_rfl) (by kernel_rfl) (by kernel_rfl) (fun _ _ _ h => h) (Or.inl ⟨by kernel_rfl, fun w' hSw => ?_⟩) hHeld ?_
              · clear hHeld hSw
                go_simp
              simp only [Act.put, List.getElem_toArray, List.getElem_cons_zero, List.getElem_cons_succ, List.setIfInBounds_toArray, List.set_cons_zero, List.set_cons_succ]
              refine wpAnyZ_one (i := 11) (by kernel_rfl) rfl (fun K' hK => ?_)
              obtain ⟨o0, o1, o2, o3, f0, f1, f2, f3⟩ := box4 OG.out
              go_simp
              refine hK.out _ _ ?_ (fun hHeld' => ?_)
              · exact (((hHeld.setCell (p := ⟨G, 0, none⟩) GG _).setCell (p := ⟨G, 1, none⟩) GG _).setCell (p := ⟨G, 2, none⟩) GG _).setCell (p := ⟨G, 3, none⟩) GG _
              have HGB := Lib.hid (own_set4 OG.out (.slice A2 n2 c2) (billV nm ar c (partS s f x)).net (billV nm ar c (partS s f x)).tax (billV nm ar c (partS s f x)).total)
              clear hK K' hHeld o0 o1 o2 o3 f0 f1 f2 f3 OG
              have hHeld := hHeld'
              clear hHeld'
              try simp only [Act.put, List.getElem_toArray, List.getElem_cons_zero, List.getElem_cons_succ, List.setIfInBounds_toArray, List.set_cons_zero, List.set_cons_succ]
              refine wpAnyZ_take (i := 12) (v := .int .i64 (billE nm ar c (partS s f x))) [] rfl (by kernel_rfl) (by kernel_rfl) (by kernel_rfl) (by kernel_rfl) (fun _ _ _ h => h) (Or.inl ⟨by kernel_rfl, fun w' hSw => ?_⟩) hHeld ?_
              · clear hHeld hSw
                go_simp
              simp only [Act.put, List.getElem_toArray, List.getElem_cons_zero, List.getElem_cons_succ, List.setIfInBounds_toArray, List.set_cons_zero, List.set_cons_succ]
              refine wpAnyZ_done (by kernel_rfl) ?_ _
              go_wp2_with fail
              go_meet
              exact ⟨G, A2, n2, c2, rfl, rfl, HGB, Lib.hid hHeld⟩
          · go_simp
            refine hK.out _ _ ?_ (fun hHeld' => ?_)
            · exact hHeld.alloc hHeld.size _
            clear hK K'
            have GG0 := hHeld.size
            clear hHeld
            have hHeld := hHeld'
            clear hHeld'
            try simp only [Act.put, List.getElem_toArray, List.getElem_cons_zero, List.getElem_cons_succ, List.setIfInBounds_toArray, List.set_cons_zero, List.set_cons_succ]
            obtain ⟨WA, G, OG, GG, HWA⟩ : ∃ WA G, Hid (WA.heap[G]? = some (Obj.cells #[.slice none 0 0, .int .i64 0, .int .i64 0, .int .i64 0] 40)) ∧ wr.heap.size ≤ G ∧ Hid (WA = wd.alloc (.cells #[.slice none 0 0, .int .i64 0, .int .i64 0, .int .i64 0] 40) ∧ G = wd.heap.size) := ⟨_, _, Lib.hid (alloc_obj _ _), GG0, Lib.hid ⟨rfl, rfl⟩⟩
            rw [← HWA.out.1] at hHeld  ⊢
            rw [← HWA.out.2]
            clear GG0 HWA
            refine wpAnyZ_one (i := 5) (by kernel_rfl) rfl (fun K' hK => ?_)
            go_simp
            refine (lhPart_any aS nS cS s f x _ (Lib.hid (HM.out.keep hHeld).sm.rd) (by have := HNS.out; omega) HXB.out HFV.out).mono ?_
            rintro e wa ⟨A1, n1, c1, rfl, hr1, hb⟩
            have HR1 := Lib.hid hr1
            clear hr1
            refine hK.out _ _ ?_ (fun hHeld' => ?_)
            · exact hHeld.trans (hb.mono hHeld.size)
            clear hK K'
            have OG := Lib.hid (hb_obj hb OG.out)
            clear hHeld hb 
            have hHeld := hHeld'
            clear hHeld'
            try simp only [Act.put, List.getElem_toArray, List.getElem_cons_zero, List.getElem_cons_succ, List.setIfInBounds_toArray, List.set_cons_zero, List.set_cons_succ]
            refine wpAnyZ_one (i := 6) (by kernel_rfl) rfl (fun K' hK => ?_)
            go_simp
            refine (bBill_any nm aT nT cT ar aC nC cC aH nH cH c A1 n1 c1 (partS s f x) _ (Lib.hid (HM.out.keep hHeld).tm.rd) (Lib.hid (HM.out.keep hHeld).cm.rd) HR1).mono ?_
            rintro e wk ⟨A2, n2, c2, rfl, hn2, hr2, hb⟩
            clear hn2 hr2
            refine hK.out _ _ ?_ (fun hHeld' => ?_)
            · exact hHeld.trans (hb.mono hHeld.size)
            clear hK K'
            have OG := Lib.hid (hb_obj hb OG.out)
            have HR1 := Lib.hid (HR1.out.keep hb)
            clear hHeld hb 
            have hHeld := hHeld'
            clear hHeld'
            try simp only [Act.put, List.getElem_toArray, List.getElem_cons_zero, List.getElem_cons_succ, List.setIfInBounds_toArray, List.set_cons_zero, List.set_cons_succ]
            refine wpAnyZ_take (i := 7) (v := .tuple #[.agg #[.slice A2 n2 c2, .int .i64 (billV nm ar c (partS s f x)).net, .int .i64 (billV nm ar c (partS s f x)).tax, .int .i64 (billV nm ar c (partS s f x)).total], .int .i64 (billE nm ar c (partS s f x))]) [8, 9, 11, 12] rfl (by kernel_rfl) (by kernel_rfl) (by kernel_rfl) (by kernel_rfl) (fun _ _ _ h => h) (Or.inl ⟨by kernel_rfl, fun w' hSw => ?_⟩) hHeld ?_
            · clear hHeld hSw
              go_simp
            simp only [Act.put, List.getElem_toArray, List.getElem_cons_zero, List.getElem_cons_succ, List.setIfInBounds_toArray, List.set_cons_zero, List.set_cons_succ]
            refine wpAnyZ_take (i := 8) (v := .agg #[.slice A2 n2 c2, .int .i64 (billV nm ar c (partS s f x)).net, .int .i64 (billV nm ar c (partS s f x)).tax, .int .i64 (billV nm ar c (partS s f x)).total]) [11] rfl (by kernel_rfl) (by kernel_rfl) (by kernel_rfl) (by kernel_rfl) (fun _ _ _ h => h) (Or.inl ⟨by kernel_rfl, fun w' hSw => ?_⟩) hHeld ?_
            · clear hHeld hSw
              go_simp
            simp only [Act.put, List.getElem_toArray, List.getElem_cons_zero, List.getElem_cons_succ, List.setIfInBounds_toArray, List.set_cons_zero, List.set_cons_succ]
            refine wpAnyZ_take (i := 9) (v := .int .i64 (billE nm ar c (partS s f x))) [12] rfl (by kernel_rfl) (by kernel_rfl) (by kernel_rfl) (by kernel_rfl) (fun _ _ _ h => h) (Or.inl ⟨by kernel_rfl, fun w' hSw => ?_⟩) hHeld ?_
            · clear hHeld hSw
              go_simp
            simp only [Act.put, List.getElem_toArray, List.getElem_cons_zero, List.getElem_cons_succ, List.setIfInBounds_toArray, List.set_cons_zero, List.set_cons_succ]
            refine wpAnyZ_one (i := 11) (by kernel_rfl) rfl (fun K' hK => ?_)
            obtain ⟨o0, o1, o2, o3, f0, f1, f2, f3⟩ := box4 OG.out
            go_simp
            refine hK.out _ _ ?_ (fun hHeld' => ?_)
            · exact (((hHeld.setCell (p := ⟨G, 0, none⟩) GG _).setCell (p := ⟨G, 1, none⟩) GG _).setCell (p := ⟨G, 2, none⟩) GG _).setCell (p := ⟨G, 3, none⟩) GG _
            have HGB := Lib.hid (own_set4 OG.out (.slice A2 n2 c2) (billV nm ar c (partS s f x)).net (billV nm ar c (partS s f x)).tax (billV nm ar c (partS s f x)).total)
            clear hK K' hHeld o0 o1 o2 o3 f0 f1 f2 f3 OG
            have hHeld := hHeld'
            clear hHeld'
            try simp only [Act.put, List.getElem_toArray, List.getElem_cons_zero, List.getElem_cons_succ, List.setIfInBounds_toArray, List.set_cons_zero, List.set_cons_succ]
            refine wpAnyZ_take (i := 12) (v := .int .i64 (billE nm ar c (partS s f x))) [] rfl (by kernel_rfl) (by kernel_rfl) (by kernel_rfl) (by kernel_rfl) (fun _ _ _ h => h) (Or.inl ⟨by kernel_rfl, fun w' hSw => ?_⟩) hHeld ?_
            · clear hHeld hSw
              go_simp
            simp only [Act.put, List.getElem_toArray, List.getElem_cons_zero, List.getElem_cons_succ, List.setIfInBounds_toArray, List.set_cons_zero, List.set_cons_succ]
            refine wpAnyZ_done (by kernel_rfl) ?_ _
            go_wp2_with fail
            go_meet
            exact ⟨G, A2, n2, c2, rfl, rfl, HGB, Lib.hid hHeld⟩
        case rest =>
          obtain ⟨G, A2, n2, c2, rfl, rfl, HG, HBC⟩ := hcut
          have HM := Lib.hid (HM.out.keep HBC.out)
          clear HBC
          have g3 : wc.cell? ⟨G, 3, none⟩ = some (.int .i64 (billV nm ar c (partS s f x)).total) := HG.out.cell (i := 3) (by omega)
          have hlG : G < wc.heap.size := HG.out.lt
          have HBD := Lib.hid (bill_tot nm ar c (partS s f x))
          generalize (billV nm ar c (partS s f x)).total = bt at *
          obtain ⟨hbt0, hbt1⟩ := HBD.out
          obtain ⟨be, hbe⟩ : ∃ b, b = (billE nm ar c (partS s f x)) := ⟨_, rfl⟩
          rw [← hbe] at HRN ⊢
          clear hbe
          by_cases hbe0 : be = 0
          · subst hbe0
            have hwi : IntKind.i64.wrap (z + bt) = z + bt := IntWalk.i64_in _ (by omega)
            have HR2 : Hid (R = priceT nm ar c s x (z + bt) (ks.drop (i + 1))) := Lib.hid (by rw [HRN.out, if_pos rfl])
            go_step
            go_wp2_with fail
            go_roundg (nK + 1 - (i + 1))
            case measure => omega
            case rel => exact ⟨i + 1, x, z + bt, rfl, rfl, by go_num, by omega, by omega, by omega, by omega, HXB, Lib.hid (.inl ⟨by omega, HR2.out⟩), HM⟩
          · have HNO : Hid (R = (0, be)) := Lib.hid (by rw [HRN.out, if_neg hbe0])
            have hz : (be == 0) = false := by simpa using hbe0
            have hz2 : (be != 0) = true := by simpa using hbe0
            go_step
            go_wp2_with fail
            go_ret2
            exact ⟨by rw [HNO.out]; rfl, HM.out.bel⟩
      · have hinz : ¬ (i : Int) < (nK : Int) := by omega
        have HRN : Hid (R = if billE nm ar c (partS s f s.till) = 0 then endT (z + (billV nm ar c (partS s f s.till)).total) else (0, billE nm ar c (partS s f s.till))) := Lib.hid (by rw [HR1.out, List.drop_eq_nil_of_le (by have := HLK.out; omega)]; rfl)
        clear HR1
        go_upto_region 10 with (fail)
        go_cut [14, 15] (fun v14 v15 wx => ∃ (G : Nat) (A2 : Option Addr) (n2 c2 : Nat), v14 = .pointer (some ⟨G, 0, none⟩) ∧ v15 = .int .i64 (billE nm ar c (partS s f s.till)) ∧ Hid (Own wx G 40 4 (lnF (.slice A2 n2 c2) (billV nm ar c (partS s f s.till)).net (billV nm ar c (partS s f s.till)).tax (billV nm ar c (partS s f s.till)).total)) ∧ Hid (Below wr.heap.size wr wx))
        case first =>
          refine region_z (S := fun w' => Below wr.heap.size wr w') [] (by kernel_rfl) (Below.refl _ _).drew (fun hHeld => ?_)
          obtain ⟨wd, hwd⟩ : ∃ wd, wd = wr.drew := ⟨_, rfl⟩
          rw [← hwd] at hHeld ⊢
          clear hwd
          refine wpAnyZ_take (i := 0) (v := .agg #[.string nm, .slice aT nT cT]) [6, 7, 8, 9, 11, 12] rfl (by kernel_rfl) (by kernel_rfl) (by kernel_rfl) (by kernel_rfl) (fun _ _ _ h => h) (Or.inl ⟨by kernel_rfl, fun w' hSw => ?_⟩) hHeld ?_
          · obtain ⟨t0, t1⟩ : w'.cell? ⟨T, 0, none⟩ = some (.string nm) ∧ w'.cell? ⟨T, 1, none⟩ = some (.slice aT nT cT) := ⟨(HM.out.keep hSw).tm.k0, (HM.out.keep hSw).tm.k1⟩
            clear hHeld hSw
            go_simp
          simp only [Act.put, List.getElem_toArray, List.getElem_cons_zero, List.getElem_cons_succ, List.setIfInBounds_toArray, List.set_cons_zero, List.set_cons_succ]
          refine wpAnyZ_take (i := 1) (v := .agg #[.int .i64 c.off, .slice aC nC cC, .slice aH nH cH]) [6, 7, 8, 9, 11, 12] rfl (by kernel_rfl) (by kernel_rfl) (by kernel_rfl) (by kernel_rfl) (fun _ _ _ h => h) (Or.inl ⟨by kernel_rfl, fun w' hSw => ?_⟩) hHeld ?_
          · obtain ⟨k0, k1, k2⟩ : w'.cell? ⟨X, 0, none⟩ = some (.int .i64 c.off) ∧ w'.cell? ⟨X, 1, none⟩ = some (.slice aC nC cC) ∧ w'.cell? ⟨X, 2, none⟩ = some (.slice aH nH cH) := ⟨(HM.out.keep hSw).cm.k0, (HM.out.keep hSw).cm.k1, (HM.out.keep hSw).cm.k2⟩
            clear hHeld hSw
            go_simp
          simp only [Act.put, List.getElem_toArray, List.getElem_cons_zero, List.getElem_cons_succ, List.setIfInBounds_toArray, List.set_cons_zero, List.set_cons_succ]
          refine wpAnyZ_take (i := 2) (v := .agg #[.int .i64 s.frm, .int .i64 s.till, .int .i64 s.fin, .slice aS nS cS]) [5, 6, 7, 8, 9, 11, 12] rfl (by kernel_rfl) (by kernel_rfl) (by kernel_rfl) (by kernel_rfl) (fun _ _ _ h => h) (Or.inl ⟨by kernel_rfl, fun w' hSw => ?_⟩) hHeld ?_
          · obtain ⟨z0, z1, z2, z3⟩ : w'.cell? ⟨S, 0, none⟩ = some (.int .i64 s.frm) ∧ w'.cell? ⟨S, 1, none⟩ = some (.int .i64 s.till) ∧ w'.cell? ⟨S, 2, none⟩ = some (.int .i64 s.fin) ∧ w'.cell? ⟨S, 3, none⟩ = some (.slice aS nS cS) := ⟨(HM.out.keep hSw).sm.k0, (HM.out.keep hSw).sm.k1, (HM.out.keep hSw).sm.k2, (HM.out.keep hSw).sm.k3⟩
            clear hHeld hSw
            go_simp
          simp only [Act.put, List.getElem_toArray, List.getElem_cons_zero, List.getElem_cons_succ, List.setIfInBounds_toArray, List.set_cons_zero, List.set_cons_succ]
          refine wpAnyZ_take (i := 3) (v := .int .i64 f) [5, 6, 7, 8, 9, 11, 12] rfl (by kernel_rfl) (by kernel_rfl) (by kernel_rfl) (by kernel_rfl) (fun _ _ _ h => h) (Or.inl ⟨by kernel_rfl, fun w' hSw => ?_⟩) hHeld ?_
          · clear hHeld hSw
            go_simp
          simp only [Act.put, List.getElem_toArray, List.getElem_cons_zero, List.getElem_cons_succ, List.setIfInBounds_toArray, List.set_cons_zero, List.set_cons_succ]
          refine wpAnyZ_take (i := 4) (v := .int .i64 s.till) [5, 6, 7, 8, 9, 11, 12] rfl (by kernel_rfl) (by kernel_rfl) (by kernel_rfl) (by kernel_rfl) (fun _ _ _ h => h) (Or.inl ⟨by kernel_rfl, fun w' hSw => ?_⟩) hHeld ?_
          · clear hHeld hSw
            go_simp
          simp only [Act.put, List.getElem_toArray, List.getElem_cons_zero, List.getElem_cons_succ, List.setIfInBounds_toArray, List.set_cons_zero, List.set_cons_succ]
          refine wpAnyZ_two (i := 5) (k := 10) (by kernel_rfl) rfl rfl (fun K' hK => ?_) (fun K' hK => ?_)
          · go_simp
            refine (lhPart_any aS nS cS s f s.till _ (Lib.hid (HM.out.keep hHeld).sm.rd) (by have := HNS.out; omega) HTV.out HFV.out).mono ?_
            rintro e wa ⟨A1, n1, c1, rfl, hr1, hb⟩
            have HR1 := Lib.hid hr1
            clear hr1
            refine hK.out _ _ ?_ (fun hHeld' => ?_)
            · exact hHeld.trans (hb.mono hHeld.size)
            clear hK K'
            clear hHeld hb 
            have hHeld := hHeld'
            clear hHeld'
            try simp only [Act.put, List.getElem_toArray, List.getElem_cons_zero, List.getElem_cons_succ, List.setIfInBounds_toArray, List.set_cons_zero, List.set_cons_succ]
            refine wpAnyZ_two (i := 6) (k := 10) (by kernel_rfl) rfl rfl (fun K' hK => ?_) (fun K' hK => ?_)
            · go_simp
              refine (bBill_any nm aT nT cT ar aC nC cC aH nH cH c A1 n1 c1 (partS s f s.till) _ (Lib.hid (HM.out.keep hHeld).tm.rd) (Lib.hid (HM.out.keep hHeld).cm.rd) HR1).mono ?_
              rintro e wk ⟨A2, n2, c2, rfl, hn2, hr2, hb⟩
              clear hn2 hr2
              refine hK.out _ _ ?_ (fun hHeld' => ?_)
              · exact hHeld.trans (hb.mono hHeld.size)
              clear hK K'
              have HR1 := Lib.hid (HR1.out.keep hb)
              clear hHeld hb 
              have hHeld := hHeld'
              clear hHeld'
              try simp only [Act.put, List.getElem_toArray, List.getElem_cons_zero, List.getElem_cons_succ, List.setIfInBounds_toArray, List.set_cons_zero, List.set_cons_succ]
              refine wpAnyZ_take (i := 7) (v := .tuple #[.agg #[.slice A2 n2 c2, .int .i64 (billV nm ar c (partS s f s.till)).net, .int .i64 (billV nm ar c (partS s f s.till)).tax, .int .i64 (billV nm ar c (partS s f s.till)).total], .int .i64 (billE nm ar c (partS s f s.till))]) [8, 9, 11, 12] rfl (by kernel_rfl) (by kernel_rfl) (by kernel_rfl) (by kernel_rfl) (fun _ _ _ h => h) (Or.inl ⟨by kernel_rfl, fun w' hSw => ?_⟩) hHeld ?_
              · clear hHeld hSw
                go_simp
              simp only [Act.put, List.getElem_toArray, List.getElem_cons_zero, List.getElem_cons_succ, List.setIfInBounds_toArray, List.set_cons_zero, List.set_cons_succ]
              refine wpAnyZ_take (i := 8) (v := .agg #[.slice A2 n2 c2, .int .i64 (billV nm ar c (partS s f s.till)).net, .int .i64 (billV nm ar c (partS s f s.till)).tax, .int .i64 (billV nm ar c (partS s f s.till)).total]) [11] rfl (by kernel_rfl) (by kernel_rfl) (by kernel_rfl) (by kernel_rfl) (fun _ _ _ h => h) (Or.inl ⟨by kernel_rfl, fun w' hSw => ?_⟩) hHeld ?_
              · clear hHeld hSw
                go_simp
              simp only [Act.put, List.getElem_toArray, List.getElem_cons_zero, List.getElem_cons_succ, List.setIfInBounds_toArray, List.set_cons_zero, List.set_cons_succ]
              refine wpAnyZ_take (i := 9) (v := .int .i64 (billE nm ar c (partS s f s.till))) [12] rfl (by kernel_rfl) (by kernel_rfl) (by kernel_rfl) (by kernel_rfl) (fun _ _ _ h => h) (Or.inl ⟨by kernel_rfl, fun w' hSw => ?_⟩) hHeld ?_
              · clear hHeld hSw
                go_simp
              simp only [Act.put, List.getElem_toArray, List.getElem_cons_zero, List.getElem_cons_succ, List.setIfInBounds_toArray, List.set_cons_zero, List.set_cons_succ]
              refine wpAnyZ_one (i := 10) (by kernel_rfl) rfl (fun K' hK => ?_)
              have HR1 := Lib.hid (HR1.out.keep ((Below.refl _ _).alloc (Nat.le_refl _) (.cells #[.slice none 0 0, .int .i64 0, .int .i64 0, .int .i64 0] 40)))
              go_simp
              refine hK.out _ _ ?_ (fun hHeld' => ?_)
              · exact hHeld.alloc hHeld.size _
              clear hK K'
              have GG0 := hHeld.size
              clear hHeld
              have hHeld := hHeld'
              clear hHeld'
              try simp only [Act.put, List.getElem_toArray, List.getElem_cons_zero, List.getElem_cons_succ, List.setIfInBounds_toArray, List.set_cons_zero, List.set_cons_succ]
              obtain ⟨WA, G, OG, GG, HWA⟩ : ∃ WA G, Hid (WA.heap[G]? = some (Obj.cells #[.slice none 0 0, .int .i64 0, .int .i64 0, .int .i64 0] 40)) ∧ wr.heap.size ≤ G ∧ Hid (WA = wk.alloc (.cells #[.slice none 0 0, .int .i64 0, .int .i64 0, .int .i64 0] 40) ∧ G = wk.heap.size) := ⟨_, _, Lib.hid (alloc_obj _ _), GG0, Lib.hid ⟨rfl, rfl⟩⟩
              rw [← HWA.out.1] at hHeld HR1 ⊢
              rw [← HWA.out.2]
              clear GG0 HWA
              refine wpAnyZ_one (i := 11) (by kernel_rfl) rfl (fun K' hK => ?_)
              obtain ⟨o0, o1, o2, o3, f0, f1, f2, f3⟩ := box4 OG.out
              go_simp
              refine hK.out _ _ ?_ (fun hHeld' => ?_)
              · exact (((hHeld.setCell (p := ⟨G, 0, none⟩) GG _).setCell (p := ⟨G, 1, none⟩) GG _).setCell (p := ⟨G, 2, none⟩) GG _).setCell (p := ⟨G, 3, none⟩) GG _
              have HGB := Lib.hid (own_set4 OG.out (.slice A2 n2 c2) (billV nm ar c (partS s f s.till)).net (billV nm ar c (partS s f s.till)).tax (billV nm ar c (partS s f s.till)).total)
              clear hK K' hHeld o0 o1 o2 o3 f0 f1 f2 f3 OG
              have hHeld := hHeld'
              clear hHeld'
              try simp only [Act.put, List.getElem_toArray, List.getElem_cons_zero, List.getElem_cons_succ, List.setIfInBounds_toArray, List.set_cons_zero, List.set_cons_succ]
              refine wpAnyZ_take (i := 12) (v := .int .i64 (billE nm ar c (partS s f s.till))) [] rfl (by kernel_rfl) (by kernel_rfl) (by kernel_rfl) (by kernel_rfl) (fun _ _ _ h => h) (Or.inl ⟨by kernel_rfl, fun w' hSw => ?_⟩) hHeld ?_
              · clear hHeld hSw
                go_simp
              simp only [Act.put, List.getElem_toArray, List.getElem_cons_zero, List.getElem_cons_succ, List.setIfInBounds_toArray, List.set_cons_zero, List.set_cons_succ]
              refine wpAnyZ_done (by kernel_rfl) ?_ _
              go_wp2_with fail
              go_meet
              exact ⟨G, A2, n2, c2, rfl, rfl, HGB, Lib.hid hHeld⟩
            · have HR1 := Lib.hid (HR1.out.keep ((Below.refl _ _).alloc (Nat.le_refl _) (.cells #[.slice none 0 0, .int .i64 0, .int .i64 0, .int .i64 0] 40)))
              go_simp
              refine hK.out _ _ ?_ (fun hHeld' => ?_)
              · exact hHeld.alloc hHeld.size _
              clear hK K'
              have GG0 := hHeld.size
              clear hHeld
              have hHeld := hHeld'
              clear hHeld'
              try simp only [Act.put, List.getElem_toArray, List.getElem_cons_zero, List.getElem_cons_succ, List.setIfInBounds_toArray, List.set_cons_zero, List.set_cons_succ]
              obtain ⟨WA, G, OG, GG, HWA⟩ : ∃ WA G, Hid (WA.heap[G]? = some (Obj.cells #[.slice none 0 0, .int .i64 0, .int .i64 0, .int .i64 0] 40)) ∧ wr.heap.size ≤ G ∧ Hid (WA = wa.alloc (.cells #[.slice none 0 0, .int .i64 0, .int .i64 0, .int .i64 0] 40) ∧ G = wa.heap.size) := ⟨_, _, Lib.hid (alloc_obj _ _), GG0, Lib.hid ⟨rfl, rfl⟩⟩
              rw [← HWA.out.1] at hHeld HR1 ⊢
              rw [← HWA.out.2]
              clear GG0 HWA
              refine wpAnyZ_one (i := 6) (by kernel_rfl) rfl (fun K' hK => ?_)
              go_simp
              refine (bBill_any nm aT nT cT ar aC nC cC aH nH cH c A1 n1 c1 (partS s f s.till) _ (Lib.hid (HM.out.keep hHeld).tm.rd) (Lib.hid (HM.out.keep hHeld).cm.rd) HR1).mono ?_
              rintro e wk ⟨A2, n2, c2, rfl, hn2, hr2, hb⟩
              clear hn2 hr2
              refine hK.out _ _ ?_ (fun hHeld' => ?_)
              · exact hHeld.trans (hb.mono hHeld.size)
              clear hK K'
              have OG := Lib.hid (hb_obj hb OG.out)
              have HR1 := Lib.hid (HR1.out.keep hb)
              clear hHeld hb 
              have hHeld := hHeld'
              clear hHeld'
              try simp only [Act.put, List.getElem_toArray, List.getElem_cons_zero, List.getElem_cons_succ, List.setIfInBounds_toArray, List.set_cons_zero, List.set_cons_succ]
              refine wpAnyZ_take (i := 7) (v := .tuple #[.agg #[.slice A2 n2 c2, .int .i64 (billV nm ar c (partS s f s.till)).net, .int .i64 (billV nm ar c (partS s f s.till)).tax, .int .i64 (billV nm ar c (partS s f s.till)).total], .int .i64 (billE nm ar c (partS s f s.till))]) [8, 9, 11, 12] rfl (by kernel_rfl) (by kernel_rfl) (by kernel_rfl) (by kernel_rfl) (fun _ _ _ h => h) (Or.inl ⟨by kernel_rfl, fun w' hSw => ?_⟩) hHeld ?_
              · clear hHeld hSw
                go_simp
              simp only [Act.put, List.getElem_toArray, List.getElem_cons_zero, List.getElem_cons_succ, List.setIfInBounds_toArray, List.set_cons_zero, List.set_cons_succ]
              refine wpAnyZ_take (i := 8) (v := .agg #[.slice A2 n2 c2, .int .i64 (billV nm ar c (partS s f s.till)).net, .int .i64 (billV nm ar c (partS s f s.till)).tax, .int .i64 (billV nm ar c (partS s f s.till)).total]) [11] rfl (by kernel_rfl) (by kernel_rfl) (by kernel_rfl) (by kernel_rfl) (fun _ _ _ h => h) (Or.inl ⟨by kernel_rfl, fun w' hSw => ?_⟩) hHeld ?_
              · clear hHeld hSw
                go_simp
              simp only [Act.put, List.getElem_toArray, List.getElem_cons_zero, List.getElem_cons_succ, List.setIfInBounds_toArray, List.set_cons_zero, List.set_cons_succ]
              refine wpAnyZ_take (i := 9) (v := .int .i64 (billE nm ar c (partS s f s.till))) [12] rfl (by kernel_rfl) (by kernel_rfl) (by kernel_rfl) (by kernel_rfl) (fun _ _ _ h => h) (Or.inl ⟨by kernel_rfl, fun w' hSw => ?_⟩) hHeld ?_
              · clear hHeld hSw
                go_simp
              simp only [Act.put, List.getElem_toArray, List.getElem_cons_zero, List.getElem_cons_succ, List.setIfInBounds_toArray, List.set_cons_zero, List.set_cons_succ]
              refine wpAnyZ_one (i := 11) (by kernel_rfl) rfl (fun K' hK => ?_)
              obtain ⟨o0, o1, o2, o3, f0, f1, f2, f3⟩ := box4 OG.out
              go_simp
              refine hK.out _ _ ?_ (fun hHeld' => ?_)
              · exact (((hHeld.setCell (p := ⟨G, 0, none⟩) GG _).setCell (p := ⟨G, 1, none⟩) GG _).setCell (p := ⟨G, 2, none⟩) GG _).setCell (p := ⟨G, 3, none⟩) GG _
              have HGB := Lib.hid (own_set4 OG.out (.slice A2 n2 c2) (billV nm ar c (partS s f s.till)).net (billV nm ar c (partS s f s.till)).tax (billV nm ar c (partS s f s.till)).total)
              clear hK K' hHeld o0 o1 o2 o3 f0 f1 f2 f3 OG
              have hHeld := hHeld'
              clear hHeld'
              try simp only [Act.put, List.getElem_toArray, List.getElem_cons_zero, List.getElem_cons_succ, List.setIfInBounds_toArray, List.set_cons_zero, List.set_cons_succ]
              refine wpAnyZ_take (i := 12) (v := .int .i64 (billE nm ar c (partS s f s.till))) [] rfl (by kernel_rfl) (by kernel_rfl) (by kernel_rfl) (by kernel_rfl) (fun _ _ _ h => h) (Or.inl ⟨by kernel_rfl, fun w' hSw => ?_⟩) hHeld ?_
              · clear hHeld hSw
                go_simp
              simp only [Act.put, List.getElem_toArray, List.getElem_cons_zero, List.getElem_cons_succ, List.setIfInBounds_toArray, List.set_cons_zero, List.set_cons_succ]
              refine wpAnyZ_done (by kernel_rfl) ?_ _
              go_wp2_with fail
              go_meet
              exact ⟨G, A2, n2, c2, rfl, rfl, HGB, Lib.hid hHeld⟩
          · go_simp
            refine hK.out _ _ ?_ (fun hHeld' => ?_)
            · exact hHeld.alloc hHeld.size _
            clear hK K'
            have GG0 := hHeld.size
            clear hHeld
            have hHeld := hHeld'
            clear hHeld'
            try simp only [Act.put, List.getElem_toArray, List.getElem_cons_zero, List.getElem_cons_succ, List.setIfInBounds_toArray, List.set_cons_zero, List.set_cons_succ]
            obtain ⟨WA, G, OG, GG, HWA⟩ : ∃ WA G, Hid (WA.heap[G]? = some (Obj.cells #[.slice none 0 0, .int .i64 0, .int .i64 0, .int .i64 0] 40)) ∧ wr.heap.size ≤ G ∧ Hid (WA = wd.alloc (.cells #[.slice none 0 0, .int .i64 0, .int .i64 0, .int .i64 0] 40) ∧ G = wd.heap.size) := ⟨_, _, Lib.hid (alloc_obj _ _), GG0, Lib.hid ⟨rfl, rfl⟩⟩
            rw [← HWA.out.1] at hHeld  ⊢
            rw [← HWA.out.2]
            clear GG0 HWA
            refine wpAnyZ_one (i := 5) (by kernel_rfl) rfl (fun K' hK => ?_)
            go_simp
            refine (lhPart_any aS nS cS s f s.till _ (Lib.hid (HM.out.keep hHeld).sm.rd) (by have := HNS.out; omega) HTV.out HFV.out).mono ?_
            rintro e wa ⟨A1, n1, c1, rfl, hr1, hb⟩
            have HR1 := Lib.hid hr1
            clear hr1
            refine hK.out _ _ ?_ (fun hHeld' => ?_)
            · exact hHeld.trans (hb.mono hHeld.size)
            clear hK K'
            have OG := Lib.hid (hb_obj hb OG.out)
            clear hHeld hb 
            have hHeld := hHeld'
            clear hHeld'
            try simp only [Act.put, List.getElem_toArray, List.getElem_cons_zero, List.getElem_cons_succ, List.setIfInBounds_toArray, List.set_cons_zero, List.set_cons_succ]
            refine wpAnyZ_one (i := 6) (by kernel_rfl) rfl (fun K' hK => ?_)
            go_simp
            refine (bBill_any nm aT nT cT ar aC nC cC aH nH cH c A1 n1 c1 (partS s f s.till) _ (Lib.hid (HM.out.keep hHeld).tm.rd) (Lib.hid (HM.out.keep hHeld).cm.rd) HR1).mono ?_
            rintro e wk ⟨A2, n2, c2, rfl, hn2, hr2, hb⟩
            clear hn2 hr2
            refine hK.out _ _ ?_ (fun hHeld' => ?_)
            · exact hHeld.trans (hb.mono hHeld.size)
            clear hK K'
            have OG := Lib.hid (hb_obj hb OG.out)
            have HR1 := Lib.hid (HR1.out.keep hb)
            clear hHeld hb 
            have hHeld := hHeld'
            clear hHeld'
            try simp only [Act.put, List.getElem_toArray, List.getElem_cons_zero, List.getElem_cons_succ, List.setIfInBounds_toArray, List.set_cons_zero, List.set_cons_succ]
            refine wpAnyZ_take (i := 7) (v := .tuple #[.agg #[.slice A2 n2 c2, .int .i64 (billV nm ar c (partS s f s.till)).net, .int .i64 (billV nm ar c (partS s f s.till)).tax, .int .i64 (billV nm ar c (partS s f s.till)).total], .int .i64 (billE nm ar c (partS s f s.till))]) [8, 9, 11, 12] rfl (by kernel_rfl) (by kernel_rfl) (by kernel_rfl) (by kernel_rfl) (fun _ _ _ h => h) (Or.inl ⟨by kernel_rfl, fun w' hSw => ?_⟩) hHeld ?_
            · clear hHeld hSw
              go_simp
            simp only [Act.put, List.getElem_toArray, List.getElem_cons_zero, List.getElem_cons_succ, List.setIfInBounds_toArray, List.set_cons_zero, List.set_cons_succ]
            refine wpAnyZ_take (i := 8) (v := .agg #[.slice A2 n2 c2, .int .i64 (billV nm ar c (partS s f s.till)).net, .int .i64 (billV nm ar c (partS s f s.till)).tax, .int .i64 (billV nm ar c (partS s f s.till)).total]) [11] rfl (by kernel_rfl) (by kernel_rfl) (by kernel_rfl) (by kernel_rfl) (fun _ _ _ h => h) (Or.inl ⟨by kernel_rfl, fun w' hSw => ?_⟩) hHeld ?_
            · clear hHeld hSw
              go_simp
            simp only [Act.put, List.getElem_toArray, List.getElem_cons_zero, List.getElem_cons_succ, List.setIfInBounds_toArray, List.set_cons_zero, List.set_cons_succ]
            refine wpAnyZ_take (i := 9) (v := .int .i64 (billE nm ar c (partS s f s.till))) [12] rfl (by kernel_rfl) (by kernel_rfl) (by kernel_rfl) (by kernel_rfl) (fun _ _ _ h => h) (Or.inl ⟨by kernel_rfl, fun w' hSw => ?_⟩) hHeld ?_
            · clear hHeld hSw
              go_simp
            simp only [Act.put, List.getElem_toArray, List.getElem_cons_zero, List.getElem_cons_succ, List.setIfInBounds_toArray, List.set_cons_zero, List.set_cons_succ]
            refine wpAnyZ_one (i := 11) (by kernel_rfl) rfl (fun K' hK => ?_)
            obtain ⟨o0, o1, o2, o3, f0, f1, f2, f3⟩ := box4 OG.out
            go_simp
            refine hK.out _ _ ?_ (fun hHeld' => ?_)
            · exact (((hHeld.setCell (p := ⟨G, 0, none⟩) GG _).setCell (p := ⟨G, 1, none⟩) GG _).setCell (p := ⟨G, 2, none⟩) GG _).setCell (p := ⟨G, 3, none⟩) GG _
            have HGB := Lib.hid (own_set4 OG.out (.slice A2 n2 c2) (billV nm ar c (partS s f s.till)).net (billV nm ar c (partS s f s.till)).tax (billV nm ar c (partS s f s.till)).total)
            clear hK K' hHeld o0 o1 o2 o3 f0 f1 f2 f3 OG
            have hHeld := hHeld'
            clear hHeld'
            try simp only [Act.put, List.getElem_toArray, List.getElem_cons_zero, List.getElem_cons_succ, List.setIfInBounds_toArray, List.set_cons_zero, List.set_cons_succ]
            refine wpAnyZ_take (i := 12) (v := .int .i64 (billE nm ar c (partS s f s.till))) [] rfl (by kernel_rfl) (by kernel_rfl) (by kernel_rfl) (by kernel_rfl) (fun _ _ _ h => h) (Or.inl ⟨by kernel_rfl, fun w' hSw => ?_⟩) hHeld ?_
            · clear hHeld hSw
              go_simp
            simp only [Act.put, List.getElem_toArray, List.getElem_cons_zero, List.getElem_cons_succ, List.setIfInBounds_toArray, List.set_cons_zero, List.set_cons_succ]
            refine wpAnyZ_done (by kernel_rfl) ?_ _
            go_wp2_with fail
            go_meet
            exact ⟨G, A2, n2, c2, rfl, rfl, HGB, Lib.hid hHeld⟩
        case rest =>
          obtain ⟨G, A2, n2, c2, rfl, rfl, HG, HBC⟩ := hcut
          have HM := Lib.hid (HM.out.keep HBC.out)
          clear HBC
          have g3 : wc.cell? ⟨G, 3, none⟩ = some (.int .i64 (billV nm ar c (partS s f s.till)).total) := HG.out.cell (i := 3) (by omega)
          have hlG : G < wc.heap.size := HG.out.lt
          have HBD := Lib.hid (bill_tot nm ar c (partS s f s.till))
          generalize (billV nm ar c (partS s f s.till)).total = bt at *
          obtain ⟨hbt0, hbt1⟩ := HBD.out
          obtain ⟨be, hbe⟩ : ∃ b, b = (billE nm ar c (partS s f s.till)) := ⟨_, rfl⟩
          rw [← hbe] at HRN ⊢
          clear hbe
          by_cases hbe0 : be = 0
          · subst hbe0
            have hwi : IntKind.i64.wrap (z + bt) = z + bt := IntWalk.i64_in _ (by omega)
            have HR2 : Hid (R = endT (z + bt)) := Lib.hid (by rw [HRN.out, if_pos rfl])
            go_step
            go_wp2_with fail
            go_roundg (nK + 1 - (i + 1))
            case measure => omega
            case rel => exact ⟨i + 1, s.till, z + bt, rfl, rfl, by go_num, by omega, by omega, by omega, by omega, HTV, Lib.hid (.inr ⟨by omega, HR2.out⟩), HM⟩
          · have HNO : Hid (R = (0, be)) := Lib.hid (by rw [HRN.out, if_neg hbe0])
            have hz : (be == 0) = false := by simpa using hbe0
            have hz2 : (be != 0) = true := by simpa using hbe0
            go_step
            go_wp2_with fail
            go_ret2
            exact ⟨by rw [HNO.out]; rfl, HM.out.bel⟩
    · have hltz : ¬ (i : Int) < (nK : Int) + 1 := by omega
      have HE : Hid (R = endT z) := Lib.hid (by rcases HR.out with h | h; omega; exact h.2)
      clear HR
      by_cases hz9 : 1000000000 < z
      · have HF : Hid (R = (0, 3)) := Lib.hid (by rw [HE.out]; unfold endT; rw [if_pos hz9])
        go_wp2_with fail
        go_ret2
        exact ⟨by rw [HF.out]; rfl, HM.out.bel⟩
      · have HF : Hid (R = (z, 0)) := Lib.hid (by rw [HE.out]; unfold endT; rw [if_neg hz9])
        go_wp2_with fail
        go_ret2
        exact ⟨by rw [HF.out]; rfl, HM.out.bel⟩
end Go.Proofs.YtoekpdnpncgeeaaGreat
