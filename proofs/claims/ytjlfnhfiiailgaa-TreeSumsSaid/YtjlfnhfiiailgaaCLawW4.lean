/-
TreeAdds, walked.
-/
import Derived.Test.YtjlfnhfiiailgaaCLawC
import Derived.IntWalk
namespace Go.Proofs.Ytjlfnhfiiailgaa
open Go.RowKit
set_option linter.unusedVariables false
set_option linter.unusedSimpArgs false
/-- The second list: what may still be added. -/
def moreF (bs cs : List Int) (i : Nat) : Int := if i < cs.length then fI cs i % (81 - curF bs i) else 0
theorem moreF_bd {bs cs : List Int} (hb : ∀ i, 0 ≤ curF bs i ∧ curF bs i ≤ 80) (i : Nat) : 0 ≤ moreF bs cs i ∧ moreF bs cs i ≤ 80 - curF bs i := by
  have h := hb i
  unfold moreF
  split
  · have h1 := Int.emod_nonneg (fI cs i) (show (81 - curF bs i) ≠ 0 by omega)
    have h2 := Int.emod_lt_of_pos (fI cs i) (show 0 < (81 - curF bs i) by omega)
    omega
  · omega
theorem loadS_add (s : GSite) (f g : Nat → Int) (m j : Nat) : loadS s (fun i => f i + g i) m j = loadS s f m j + loadS s g m j := by
  unfold loadS
  rw [← S_add]
  refine S_congr (fun i _ => ?_)
  dsimp only
  unfold pick
  split <;> omega
set_option maxRecDepth 100000 in
set_option maxHeartbeats 16000000 in
theorem walk_TreeAdds (a1 : Option Addr) (n1 c1 : Nat) (a2 : Option Addr) (n2 c2 : Nat) (a3 : Option Addr) (n3 c3 : Nat) (a4 : Option Addr) (n4 c4 : Nat) (a5 : Option Addr) (n5 c5 : Nat) (s : GSite) {w : World} (HS : Hid (RdSite w a1 a2 a3 a4 a5 n1 n2 n3 n4 n5 s)) (_ : WfSite s) (B1 : Option Addr) (d1 e1 : Nat) (bs : List Int) (hX1 : Rd 1 encU8 w B1 bs) (HN1 : Hid (bs.length = e1)) (he1 : e1 ≤ 9223372036854775807) (hw1 : ∀ x, x ∈ bs → (Lit.int .u8 x).wf = true) (B2 : Option Addr) (d2 e2 : Nat) (cs : List Int) (hX2 : Rd 1 encU8 w B2 cs) (HN2 : Hid (cs.length = e2)) (he2 : e2 ≤ 9223372036854775807) (hw2 : ∀ x, x ∈ cs → (Lit.int .u8 x).wf = true) :
    Calls Try.prog 7 #[.agg #[.slice a1 n1 c1, .slice a2 n2 c2, .slice a3 n3 c3, .slice a4 n4 c4, .slice a5 n5 c5], .slice B1 e1 d1, .slice B2 e2 d2] w fun e w' => e = .returned (.bool true) ∧ Below w.heap.size w w' := by
  have HB8 := Lib.hid (u8L_bd hw1)
  have HX1 := Lib.hid hX1
  have HM0 := Lib.hid (LwM.box (c1 := c1) (c2 := c2) (c3 := c3) (c4 := c4) (c5 := c5) HS.out)
  clear hX1 hw1
  have HB9 := Lib.hid (u8L_bd hw2)
  have HX2 := Lib.hid hX2
  clear hX2 hw2
  go_enter Try.func7, Try.ntmps7
  go_wp2_with fail
  refine (ltHead_any _).mono ?_
  rintro e w1 ⟨rfl, hb⟩
  have HM := Lib.hid (HM0.out.keep hb)
  generalize hXX : w.heap.size = X at HM ⊢
  have HXX := Lib.hid hXX
  clear hb HM0 hXX
  have hlX : X < w1.heap.size := World.block_lt_of_cell? w1 _ HM.out.k0
  obtain ⟨k0, k1, k2, k3, k4⟩ : w1.cell? ⟨X, 0, none⟩ = some (.slice a1 n1 c1) ∧ w1.cell? ⟨X, 1, none⟩ = some (.slice a2 n2 c2) ∧ w1.cell? ⟨X, 2, none⟩ = some (.slice a3 n3 c3) ∧ w1.cell? ⟨X, 3, none⟩ = some (.slice a4 n4 c4) ∧ w1.cell? ⟨X, 4, none⟩ = some (.slice a5 n5 c5) := ⟨HM.out.k0, HM.out.k1, HM.out.k2, HM.out.k3, HM.out.k4⟩
  go_wp2_with fail
  refine (ltUsable_any a1 a2 a3 a4 a5 n1 c1 n2 c2 n3 c3 n4 c4 n5 c5 s w1 (Lib.hid HM.out.rs)).mono ?_
  rintro e w2 ⟨rfl, hb⟩
  have HM2 := Lib.hid (HM.out.keep hb)
  clear HM
  have HM := HM2
  clear HM2
  clear hb
  clear k0 k1 k2 k3 k4 hlX
  cases hf : usableB s
  · go_wp2_with fail
    go_ret
    exact ⟨rfl, HM.out.bel⟩
  have HOKB := Lib.hid (usableB_ok hf)
  have HOK := Lib.hid (okSB_iff.1 (usableB_ok hf))
  clear hf
  have hn4b : n4 ≤ 16 := by have := HOK.out.n5; have := HM.out.rs.l4; omega
  have hn1b : n1 ≤ 16 := by have := HOK.out.n2; have := HM.out.rs.l1; omega
  have hn1p : 0 < n1 := by have := HOK.out.n1; have := HM.out.rs.l1; omega
  have hlX : X < w2.heap.size := World.block_lt_of_cell? w2 _ HM.out.k0
  obtain ⟨k0, k1, k2, k3, k4⟩ : w2.cell? ⟨X, 0, none⟩ = some (.slice a1 n1 c1) ∧ w2.cell? ⟨X, 1, none⟩ = some (.slice a2 n2 c2) ∧ w2.cell? ⟨X, 2, none⟩ = some (.slice a3 n3 c3) ∧ w2.cell? ⟨X, 3, none⟩ = some (.slice a4 n4 c4) ∧ w2.cell? ⟨X, 4, none⟩ = some (.slice a5 n5 c5) := ⟨HM.out.k0, HM.out.k1, HM.out.k2, HM.out.k3, HM.out.k4⟩
  go_wp2_with fail
  refine (ltCurr_any a1 a2 a3 a4 a5 n1 c1 n2 c2 n3 c3 n4 c4 n5 c5 (by omega) B1 e1 d1 bs w2 (Lib.hid (HX1.out.keep HM.out.bel)) HN1 he1 HB8).mono ?_
  rintro e w3 ⟨g, hgg, rfl, ho, hb⟩
  have HM2 := Lib.hid (HM.out.keep hb)
  clear HM
  have HM := HM2
  clear HM2
  have HOa := Lib.hid ho
  have hXg : X < g := by omega
  have HCB := Lib.hid (fun i => curF_bd HB8.out i)
  clear ho hb hgg
  clear k0 k1 k2 k3 k4 hlX
  obtain ⟨W4, hmk4, ho4, bw4, hsz4⟩ := mk_intsT n4 (by omega) w3
  obtain ⟨W5, hmk5, ho5, bw5, hsz5⟩ := mk_intsT n4 (by omega) W4
  rw [hsz4] at hmk5 ho5
  have hlg := HOa.out.lt
  have b45 : Below w3.heap.size w3 W5 := below_then bw4 bw5
  have HM5 := Lib.hid (HM.out.keep b45)
  have HA5 := Lib.hid (HOa.out.keep b45 HOa.out.lt)
  have HO4 := Lib.hid (ho4.keep bw5 ho4.lt)
  have HO5 := Lib.hid ho5
  clear ho4 bw4 ho5 bw5 hsz4 hsz5 b45 HOa
  clear HM
  have HM := HM5
  clear HM5
  go_wp2_with fail
  obtain ⟨gb, hgb⟩ : ∃ gb, gb = w3.heap.size := ⟨_, rfl⟩
  rw [← hgb] at HO4 HO5 hlg ⊢
  have HGB := Lib.hid hgb
  have hXb : X < gb := by omega
  have hwg : w.heap.size ≤ gb := by have := HXX.out; omega
  clear hgb
  go_loopg [11, 36] n4 (fun g1 v11 v36 wr => ∃ k : Nat, v36 = .int .i64 k ∧ k ≤ n4 ∧ n4 - k ≤ g1 ∧ Hid (LwM w wr X a1 n1 c1 a2 n2 c2 a3 n3 c3 a4 n4 c4 a5 n5 c5 s) ∧ Hid (Own wr g 3 n4 (fun i => .int .i64 (curF bs i))) ∧ Hid (Own wr gb 3 n4 (fun i => .int .i64 (if i < k then moreF bs cs i else 0))) ∧ Hid (Own wr (gb + 1) 3 n4 (fun i => .int .i64 (if i < k then curF bs i + moreF bs cs i else 0))))
  case atStart => exact ⟨0, by go_num, by omega, by omega, HM, HA5, Lib.hid (HO4.out.congr (fun i _ => by rw [if_neg (by omega)])), Lib.hid (HO5.out.congr (fun i _ => by rw [if_neg (by omega)]))⟩
  case round =>
    obtain ⟨k, rfl, hk, hg1, HMk, HAk, HBk, HSk⟩ := hrel
    clear HM HA5 HO4 HO5
    by_cases hlt : k < n4
    · have hltz : (k : Int) < (n4 : Int) := by omega
      have ck := HAk.out.cell (i := k) hlt
      have cb := HBk.out.cell (i := k) hlt
      have cs5 := HSk.out.cell (i := k) hlt
      have fb := HBk.out.frozen k
      have fs := HSk.out.frozen k
      have lb := HBk.out.lt
      have ls := HSk.out.lt
      have lg := HAk.out.lt
      have hcb := HCB.out k
      rw [if_neg (by omega)] at cb cs5
      have HMB := Lib.hid (fun W' (hm : Mod (fun j => j = gb ∨ j = gb + 1) wr W') => HMk.out.mod HS.out hm (by omega) (fun j hj => by rcases hj with h | h <;> omega))
      have HSN : Hid (∀ W' (x y : Int), Own W' (gb + 1) 3 n4 (fun i => if i = k then .int .i64 (x + y) else .int .i64 (if i < k then curF bs i + moreF bs cs i else 0)) → x = curF bs k → y = moreF bs cs k → Own W' (gb + 1) 3 n4 (fun i => .int .i64 (if i < k + 1 then curF bs i + moreF bs cs i else 0))) := Lib.hid (fun W' x y h hx hy => h.congr (fun i _ => by
        by_cases e : i = k
        · rw [if_pos e, if_pos (by omega), e, hx, hy]
        · rw [if_neg e]
          by_cases e2 : i < k
          · rw [if_pos e2, if_pos (by omega)]
          · rw [if_neg e2, if_neg (by omega)]))
      have hmb := moreF_bd (cs := cs) HCB.out k
      by_cases hke : k < e2
      · have hkez : (k : Int) < (e2 : Int) := by omega
        obtain ⟨b, off, hBB, hbl, hc⟩ := HX2.out.u8 (k := k) (by rw [HN2.out]; exact hke)
        have hc1 := (HMk.out.bel.cell (p := ⟨b, off + k, none⟩) hbl).trans hc
        have hbd := HB9.out k
        have HME : Hid (moreF bs cs k = fI cs k % (81 - curF bs k)) := Lib.hid (by unfold moreF; rw [if_pos (by rw [HN2.out]; exact hke)])
        have HSB := Lib.hid (fun u => HBk.out.set k u)
        have HBN : Hid (∀ W' (x y : Int), Own W' gb 3 n4 (fun i => if i = k then .int .i64 y else .int .i64 (if i < k then moreF bs cs i else 0)) → y = moreF bs cs k → Own W' gb 3 n4 (fun i => .int .i64 (if i < k + 1 then moreF bs cs i else 0))) := Lib.hid (fun W' x y h hy => h.congr (fun i _ => by
          by_cases e : i = k
          · rw [if_pos e, if_pos (by omega), e, hy]
          · rw [if_neg e]
            by_cases e2 : i < k
            · rw [if_pos e2, if_pos (by omega)]
            · rw [if_neg e2, if_neg (by omega)]))
        subst hBB
        clear hc
        have hme := HME.out
        generalize hmo : moreF bs cs k = mo at *
        generalize hyy : fI cs k = y at *
        generalize hcx : curF bs k = x at *
        have HMO := Lib.hid hmo.symm
        have HCX := Lib.hid hcx.symm
        have hsub : IntKind.i64.wrap (81 - x) = 81 - x := IntWalk.i64_in _ (by omega)
        have hmod : y.tmod (81 - x) = mo := by rw [hme]; exact Int.tmod_eq_emod_of_nonneg (by omega)
        have hne : ¬ (81 - x = 0) := by omega
        have hsum : IntKind.i64.wrap (x + mo) = x + mo := IntWalk.i64_in _ (by omega)
        have hwm : IntKind.i64.wrap mo = mo := IntWalk.i64_in _ (by omega)
        clear hmo hyy hcx hme
        go_wp2_with fail
        go_still_tail 14, (by kernel_rfl)
        change wpList _ _ _ _ _ wr.drew
        go_wp2_with fail
        rw [← HME.out]
        have hm6 : Mod (fun j => j = gb ∨ j = gb + 1) wr ((wr.setCell ⟨gb, k, none⟩ (.int .i64 mo)).drew) := ((Mod.refl _ wr).setCell (p := ⟨gb, k, none⟩) (.inl (.inl rfl)) _).drew
        have HM6 := Lib.hid (HMB.out _ hm6)
        have HA6 : Hid (Own ((wr.setCell ⟨gb, k, none⟩ (.int .i64 mo)).drew) g 3 n4 (fun i => .int .i64 (curF bs i))) := Lib.hid (HAk.out.mod hm6 (by omega))
        have HB6 := Lib.hid (HBN.out _ x mo (HSB.out (.int .i64 mo)) (by first | rfl | exact HMO.out))
        have HS6 : Hid (Own ((wr.setCell ⟨gb, k, none⟩ (.int .i64 mo)).drew) (gb + 1) 3 n4 (fun i => .int .i64 (if i < k then curF bs i + moreF bs cs i else 0))) := Lib.hid (HSk.out.mod (M := fun j => j = gb) (((Mod.refl (fun j => j = gb) wr).setCell (p := ⟨gb, k, none⟩) (.inl rfl) _).drew) (by omega))
        have hb6 : Own ((wr.setCell ⟨gb, k, none⟩ (.int .i64 mo)).drew) gb 3 n4 (fun i => .int .i64 (if i < k + 1 then moreF bs cs i else 0)) := HB6.out
        have cb6 := hb6.cell (i := k) hlt
        rw [if_pos (by omega), ← HMO.out] at cb6
        have ca6 := HA6.out.cell (i := k) hlt
        rw [← HCX.out] at ca6
        have HB7 := Lib.hid hb6
        clear HB6 hb6 hm6 ck cb cs5 fb fs lb ls lg hc1 HMB HSB HBN HMk HAk HBk HSk
        generalize hW6 : (wr.setCell ⟨gb, k, none⟩ (.int .i64 mo)).drew = W6 at *
        clear hW6
        have fs6 := HS6.out.frozen k
        have cs6 := HS6.out.cell (i := k) hlt
        have ls6 := HS6.out.lt
        have hm7 : ∀ u, Mod (fun j => j = gb ∨ j = gb + 1) W6 (W6.setCell ⟨gb + 1, k, none⟩ u).drew := fun u => ((Mod.refl _ W6).setCell (p := ⟨gb + 1, k, none⟩) (.inl (.inr rfl)) _).drew
        have lb7 := HB7.out.lt
        have la7 := HA6.out.lt
        have HM7 := Lib.hid (fun u => HM6.out.mod HS.out (hm7 u) (by omega) (fun j hj => by rcases hj with h | h <;> omega))
        have HA7 := Lib.hid (fun u => HA6.out.mod (hm7 u) (by omega))
        have HB9' := Lib.hid (fun u => HB7.out.mod (M := fun j => j = gb + 1) (((Mod.refl (fun j => j = gb + 1) W6).setCell (p := ⟨gb + 1, k, none⟩) (.inl rfl) u).drew) (by omega))
        have HS7 := Lib.hid (HSN.out _ x mo (HS6.out.set k (.int .i64 (x + mo))) (by first | rfl | exact HCX.out) (by first | rfl | exact HMO.out))
        clear hm7 HM6 HA6 HB7 HS6 HSN
        go_still_tail 12, (by kernel_rfl)
        change wpList _ _ _ _ _ W6.drew
        go_wp2_with fail
        go_roundg (n4 - (k + 1))
        case measure => omega
        case rel => exact ⟨k + 1, by go_num, by omega, by omega, Lib.hid (HM7.out _), Lib.hid (HA7.out _), Lib.hid (HB9'.out _), Lib.hid (Own.drew HS7.out)⟩
      · have hkez : ¬ (k : Int) < (e2 : Int) := by omega
        have hmz : moreF bs cs k = 0 := by unfold moreF; rw [if_neg (by rw [HN2.out]; exact hke)]
        have HB7 : Hid (Own wr gb 3 n4 (fun i => .int .i64 (if i < k + 1 then moreF bs cs i else 0))) := Lib.hid (HBk.out.congr (fun i _ => by
          by_cases e : i = k
          · rw [if_neg (by omega), if_pos (by omega), e, hmz]
          · by_cases e2 : i < k
            · rw [if_pos e2, if_pos (by omega)]
            · rw [if_neg e2, if_neg (by omega)]))
        have HM6 := HMk
        have HA6 := HAk
        have HS6 := HSk
        have cb6 := cb
        have ca6 := ck
        have HMO : Hid (0 = moreF bs cs k) := Lib.hid hmz.symm
        rw [hmz] at hmb
        obtain ⟨mo, hmo⟩ : ∃ mo : Int, mo = 0 := ⟨0, rfl⟩
        rw [← hmo] at HMO cb6 hmb
        generalize hcx : curF bs k = x at *
        have HCX := Lib.hid hcx.symm
        have hsum : IntKind.i64.wrap (x + mo) = x + mo := IntWalk.i64_in _ (by omega)
        clear hmo hcx hmz ck cb cs5 fb fs lb ls lg HMB HMk HAk HBk HSk
        go_wp2_with fail
        generalize hW6 : wr = W6 at *
        clear hW6
        have fs6 := HS6.out.frozen k
        have cs6 := HS6.out.cell (i := k) hlt
        have ls6 := HS6.out.lt
        have hm7 : ∀ u, Mod (fun j => j = gb ∨ j = gb + 1) W6 (W6.setCell ⟨gb + 1, k, none⟩ u).drew := fun u => ((Mod.refl _ W6).setCell (p := ⟨gb + 1, k, none⟩) (.inl (.inr rfl)) _).drew
        have lb7 := HB7.out.lt
        have la7 := HA6.out.lt
        have HM7 := Lib.hid (fun u => HM6.out.mod HS.out (hm7 u) (by omega) (fun j hj => by rcases hj with h | h <;> omega))
        have HA7 := Lib.hid (fun u => HA6.out.mod (hm7 u) (by omega))
        have HB9' := Lib.hid (fun u => HB7.out.mod (M := fun j => j = gb + 1) (((Mod.refl (fun j => j = gb + 1) W6).setCell (p := ⟨gb + 1, k, none⟩) (.inl rfl) u).drew) (by omega))
        have HS7 := Lib.hid (HSN.out _ x mo (HS6.out.set k (.int .i64 (x + mo))) (by first | rfl | exact HCX.out) (by first | rfl | exact HMO.out))
        clear hm7 HM6 HA6 HB7 HS6 HSN
        go_still_tail 12, (by kernel_rfl)
        change wpList _ _ _ _ _ W6.drew
        go_wp2_with fail
        go_roundg (n4 - (k + 1))
        case measure => omega
        case rel => exact ⟨k + 1, by go_num, by omega, by omega, Lib.hid (HM7.out _), Lib.hid (HA7.out _), Lib.hid (HB9'.out _), Lib.hid (Own.drew HS7.out)⟩
    · have hltz : ¬ (k : Int) < (n4 : Int) := by omega
      have HB8' : Hid (Own wr gb 3 n4 (fun i => .int .i64 (moreF bs cs i))) := Lib.hid (HBk.out.congr (fun i hi => by rw [if_pos (by omega)]))
      have HS8 : Hid (Own wr (gb + 1) 3 n4 (fun i => .int .i64 (curF bs i + moreF bs cs i))) := Lib.hid (HSk.out.congr (fun i hi => by rw [if_pos (by omega)]))
      clear HBk HSk
      have HM := HMk
      have hlX : X < wr.heap.size := World.block_lt_of_cell? wr _ HM.out.k0
      obtain ⟨k0, k1, k2, k3, k4⟩ : wr.cell? ⟨X, 0, none⟩ = some (.slice a1 n1 c1) ∧ wr.cell? ⟨X, 1, none⟩ = some (.slice a2 n2 c2) ∧ wr.cell? ⟨X, 2, none⟩ = some (.slice a3 n3 c3) ∧ wr.cell? ⟨X, 3, none⟩ = some (.slice a4 n4 c4) ∧ wr.cell? ⟨X, 4, none⟩ = some (.slice a5 n5 c5) := ⟨HM.out.k0, HM.out.k1, HM.out.k2, HM.out.k3, HM.out.k4⟩
      go_wp2_with fail
      refine (ltLoads_amp a1 a2 a3 a4 a5 n1 c1 n2 c2 n3 c3 n4 c4 n5 c5 g n4 s (curF bs) wr HM.out.rs HOKB.out HAk.out (fun i _ => HCB.out i)).mono ?_
      rintro e w6 ⟨px, cx, rfl, hr, hb⟩
      have HM3 := Lib.hid (HM.out.keep hb)
      clear HM
      have HM := HM3
      clear HM3
      have HAt := Lib.hid (HAk.out.keep hb HAk.out.lt)
      have HBt := Lib.hid (HB8'.out.keep hb HB8'.out.lt)
      have HSt := Lib.hid (HS8.out.keep hb HS8.out.lt)
      clear HAk
      have HAk := HAt
      clear HAt
      clear HB8'
      have HB8' := HBt
      clear HBt
      clear HS8
      have HS8 := HSt
      clear HSt
      have HRx := Lib.hid hr
      clear hb hr
      clear k0 k1 k2 k3 k4 hlX
      have hlX : X < w6.heap.size := World.block_lt_of_cell? w6 _ HM.out.k0
      obtain ⟨k0, k1, k2, k3, k4⟩ : w6.cell? ⟨X, 0, none⟩ = some (.slice a1 n1 c1) ∧ w6.cell? ⟨X, 1, none⟩ = some (.slice a2 n2 c2) ∧ w6.cell? ⟨X, 2, none⟩ = some (.slice a3 n3 c3) ∧ w6.cell? ⟨X, 3, none⟩ = some (.slice a4 n4 c4) ∧ w6.cell? ⟨X, 4, none⟩ = some (.slice a5 n5 c5) := ⟨HM.out.k0, HM.out.k1, HM.out.k2, HM.out.k3, HM.out.k4⟩
      go_wp2_with fail
      refine (ltLoads_amp a1 a2 a3 a4 a5 n1 c1 n2 c2 n3 c3 n4 c4 n5 c5 gb n4 s (moreF bs cs) w6 HM.out.rs HOKB.out HB8'.out (fun i _ => by have h := moreF_bd (cs := cs) HCB.out i; have h2 := HCB.out i; omega)).mono ?_
      rintro e w7 ⟨py, cy, rfl, hr, hb⟩
      have HM3 := Lib.hid (HM.out.keep hb)
      clear HM
      have HM := HM3
      clear HM3
      have HAt := Lib.hid (HAk.out.keep hb HAk.out.lt)
      have HBt := Lib.hid (HB8'.out.keep hb HB8'.out.lt)
      have HSt := Lib.hid (HS8.out.keep hb HS8.out.lt)
      clear HAk
      have HAk := HAt
      clear HAt
      clear HB8'
      have HB8' := HBt
      clear HBt
      clear HS8
      have HS8 := HSt
      clear HSt
      have HRt := Lib.hid (HRx.out.keep hb)
      clear HRx
      have HRx := HRt
      clear HRt
      have HRy := Lib.hid hr
      clear hb hr
      clear k0 k1 k2 k3 k4 hlX
      have hlX : X < w7.heap.size := World.block_lt_of_cell? w7 _ HM.out.k0
      obtain ⟨k0, k1, k2, k3, k4⟩ : w7.cell? ⟨X, 0, none⟩ = some (.slice a1 n1 c1) ∧ w7.cell? ⟨X, 1, none⟩ = some (.slice a2 n2 c2) ∧ w7.cell? ⟨X, 2, none⟩ = some (.slice a3 n3 c3) ∧ w7.cell? ⟨X, 3, none⟩ = some (.slice a4 n4 c4) ∧ w7.cell? ⟨X, 4, none⟩ = some (.slice a5 n5 c5) := ⟨HM.out.k0, HM.out.k1, HM.out.k2, HM.out.k3, HM.out.k4⟩
      go_wp2_with fail
      refine (ltLoads_amp a1 a2 a3 a4 a5 n1 c1 n2 c2 n3 c3 n4 c4 n5 c5 (gb + 1) n4 s (fun i => curF bs i + moreF bs cs i) w7 HM.out.rs HOKB.out HS8.out (fun i _ => by have h := moreF_bd (cs := cs) HCB.out i; have h2 := HCB.out i; omega)).mono ?_
      rintro e w8 ⟨pz, cz, rfl, hr, hb⟩
      have HM3 := Lib.hid (HM.out.keep hb)
      clear HM
      have HM := HM3
      clear HM3
      have HAt := Lib.hid (HAk.out.keep hb HAk.out.lt)
      have HBt := Lib.hid (HB8'.out.keep hb HB8'.out.lt)
      have HSt := Lib.hid (HS8.out.keep hb HS8.out.lt)
      clear HAk
      have HAk := HAt
      clear HAt
      clear HB8'
      have HB8' := HBt
      clear HBt
      clear HS8
      have HS8 := HSt
      clear HSt
      have HRt := Lib.hid (HRx.out.keep hb)
      clear HRx
      have HRx := HRt
      clear HRt
      have HRt := Lib.hid (HRy.out.keep hb)
      clear HRy
      have HRy := HRt
      clear HRt
      have HRz := Lib.hid hr
      clear hb hr
      clear k0 k1 k2 k3 k4 hlX
      have hlX : X < w8.heap.size := World.block_lt_of_cell? w8 _ HM.out.k0
      obtain ⟨k0, k1, k2, k3, k4⟩ : w8.cell? ⟨X, 0, none⟩ = some (.slice a1 n1 c1) ∧ w8.cell? ⟨X, 1, none⟩ = some (.slice a2 n2 c2) ∧ w8.cell? ⟨X, 2, none⟩ = some (.slice a3 n3 c3) ∧ w8.cell? ⟨X, 3, none⟩ = some (.slice a4 n4 c4) ∧ w8.cell? ⟨X, 4, none⟩ = some (.slice a5 n5 c5) := ⟨HM.out.k0, HM.out.k1, HM.out.k2, HM.out.k3, HM.out.k4⟩
      go_wp2_with fail
      clear k0 k1 k2 k3 k4 hlX
      have HSUM := Lib.hid (fun j => loadS_add s (curF bs) (moreF bs cs) n4 j)
      have HBX := Lib.hid (fun j => loadS_bd (s := s) (am := curF bs) (m := n4) (fun c _ => HCB.out c) j)
      have HBY := Lib.hid (fun j => loadS_bd (s := s) (am := moreF bs cs) (m := n4) (fun c _ => by have h := moreF_bd (cs := cs) HCB.out c; have h2 := HCB.out c; omega) j)
      clear HAk HB8' HS8
      go_loopg [18, 100] n1 (fun g2 v18 v100 wq => ∃ q : Nat, v100 = .int .i64 q ∧ q ≤ n1 ∧ n1 - q ≤ g2 ∧ Hid (∃ z, wq = w8.drewN z))
      case atStart => exact ⟨0, by go_num, by omega, by omega, Lib.hid ⟨0, rfl⟩⟩
      case round =>
        obtain ⟨q, rfl, hq, hg2, HW⟩ := hrel
        by_cases hlq : q < n1
        · have hlqz : (q : Int) < (n1 : Int) := by omega
          go_wp2_with fail
          go_loopg [19, 103] 3 (fun g3 v19 v103 wp => ∃ p : Nat, v103 = .int .i64 p ∧ p ≤ 3 ∧ 3 - p ≤ g3 ∧ Hid (∃ z, wp = w8.drewN z))
          case atStart => exact ⟨0, by go_num, by omega, by omega, HW⟩
          case round =>
            obtain ⟨p, rfl, hp, hg3, HWp⟩ := hrel
            obtain ⟨z, hz⟩ := HWp.out
            subst wr
            by_cases hlp : p < 3
            · have hlpz : (p : Int) < 3 := by omega
              obtain ⟨bx, ox, hAx, hbx, cx⟩ := rd3_at HRx.out hlq hlp
              obtain ⟨by', oy, hAy, hby, cy⟩ := rd3_at HRy.out hlq hlp
              obtain ⟨bz, oz, hAz, hbz, cz⟩ := rd3_at HRz.out hlq hlp
              rw [HSUM.out] at cz
              have b1 := HBX.out (q * 3 + p)
              have b2 := HBY.out (q * 3 + p)
              subst hAx hAy hAz
              generalize loadS s (curF bs) n4 (q * 3 + p) = x at *
              generalize loadS s (moreF bs cs) n4 (q * 3 + p) = y at *
              have hsum : IntKind.i64.wrap (x + y) = x + y := IntWalk.i64_in _ (by omega)
              go_wp2_with fail
              go_quiet (fail)
              go_wp2_with fail
              go_roundg (3 - (p + 1))
              case measure => omega
              case rel => exact ⟨p + 1, by go_num, by omega, by omega, Lib.hid ⟨_, rfl⟩⟩
            · have hlpz : ¬ (p : Int) < 3 := by omega
              go_wp2_with fail
              go_roundg (n1 - (q + 1))
              case measure => omega
              case rel => exact ⟨q + 1, by go_num, by omega, by omega, Lib.hid ⟨_, rfl⟩⟩
        · have hlqz : ¬ (q : Int) < (n1 : Int) := by omega
          obtain ⟨z, hz⟩ := HW.out
          subst wr
          go_wp2_with fail
          go_ret
          exact ⟨rfl, below_drewG _ HM.out.bel⟩
end Go.Proofs.Ytjlfnhfiiailgaa
