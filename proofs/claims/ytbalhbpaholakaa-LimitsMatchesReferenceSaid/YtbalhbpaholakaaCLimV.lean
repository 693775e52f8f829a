/-
The reference's Rows.
-/
import Derived.Test.YtbalhbpaholakaaCLimU
import Derived.Test.YtbalhbpaholakaaCLimI
namespace Go.Proofs.Ytbalhbpaholakaa
open Go.RowKit
set_option linter.unusedVariables false
set_option linter.unusedSimpArgs false
def memK (s : GSite) (c p k : Nat) : List Int := (belowL s (c : Int) k).filter (usesB s p)
theorem memK_step (s : GSite) (c p k : Nat) : memK s c p (k + 1) = memK s c p k ++ if (isBel s (c : Int) k && usesB s p (k : Int)) = true then [(k : Int)] else [] := by
  unfold memK
  cases h : isBel s (c : Int) k
  · rw [belowL_no h]; simp
  · rw [belowL_yes h, List.filter_append]
    cases h2 : usesB s p (k : Int) <;> simp [h2]
theorem memK_all (s : GSite) {c p : Nat} (hp : p < 3) : memK s c p s.chgs.length = memL s (c * 3 + p) := by
  unfold memK memL
  rw [show (c * 3 + p) / 3 = c by omega, show (c * 3 + p) % 3 = p by omega]
theorem memK_len (s : GSite) (c p k : Nat) : (memK s c p k).length ≤ k := by
  unfold memK
  refine Nat.le_trans (List.length_filter_le _ _) ?_
  exact belowL_len s _ k
def rowF (cap : Int) (v : Value) (i : Nat) : Value := if i = 0 then .int .i64 cap else v
set_option maxRecDepth 100000 in
set_option maxHeartbeats 16000000 in
theorem r9Rows_any (a1 a2 a3 a4 a5 : Option Addr) (n1 c1 n2 c2 n3 c3 n4 c4 n5 c5 : Nat) (s : GSite) (w : World) (HS : Hid (RdSite w a1 a2 a3 a4 a5 n1 n2 n3 n4 n5 s)) :
    Calls Try.prog 18 #[.agg #[.slice a1 n1 c1, .slice a2 n2 c2, .slice a3 n3 c3, .slice a4 n4 c4, .slice a5 n5 c5]] w fun e w' => RwPost w s e w' := by
  have HM0 := Lib.hid (LwM.box (c1 := c1) (c2 := c2) (c3 := c3) (c4 := c4) (c5 := c5) HS.out)
  go_enter Try.func18, Try.ntmps18
  go_wp2_with fail
  refine (r4Valid_any a1 a2 a3 a4 a5 n1 c1 n2 c2 n3 c3 n4 c4 n5 c5 s _ (Lib.hid HM0.out.rs)).mono ?_
  rintro e w1 ⟨rfl, hb⟩
  have HM := Lib.hid (HM0.out.keep hb)
  generalize hXX : w.heap.size = X at HM ⊢
  have HSZ := Lib.hid hXX
  clear hb HM0 hXX
  cases hok : okSB keyL s
  · have HN : Hid (okSB keyL s = false) := Lib.hid hok
    go_wp2_with fail
    refine bodyPost_ret (results_tmp2 rfl _ _ _) rfl ?_
    exact ⟨none, 0, [], by rw [HN.out, rowsO_no HN.out]; rfl, by rw [rowsO_no HN.out]; exact RdRows.nil _, HM.out.bel⟩
  have HY : Hid (okSB keyL s = true) := Lib.hid hok
  have HOK := Lib.hid (okSB_iff.1 hok)
  have hcl : s.cons.length = n1 := HS.out.l1
  have hn16 : n1 ≤ 16 := by have := HOK.out.n2; omega
  have HCL := Lib.hid hcl
  have HL4 : Hid (s.chgs.length = n4) := Lib.hid HS.out.l4
  have hn4 : n4 ≤ 16 := by have := HOK.out.n5; have := HL4.out; omega
  have hXw : X + 1 ≤ w1.heap.size := by have := World.block_lt_of_cell? w1 _ HM.out.k0; exact this
  clear hok hcl
  go_wp2_with fail
  go_loopg [5, 6] n1 (fun g1 v5 v6 wr => ∃ (i : Nat) (hs : List RowH), v6 = .int .i64 i ∧ i ≤ n1 ∧ n1 - i ≤ g1 ∧ Hid (RwL wr (X + 1) v5 hs (rowsL s (i * 3))) ∧ Hid (LwM w wr X a1 n1 c1 a2 n2 c2 a3 n3 c3 a4 n4 c4 a5 n5 c5 s))
  case atStart => exact ⟨0, [], by go_num, by omega, by omega, Lib.hid (RwL.nil _ _), HM⟩
  case round =>
    clear HM
    obtain ⟨i, hs, rfl, hi, hg1, HR, HM⟩ := hrel
    have k0 := HM.out.k0
    by_cases hlt : i < n1
    · have hltz : (i : Int) < (n1 : Int) := by omega
      go_wp2_with fail
      go_loopg [5, 7] 3 (fun g2 v5 v7 wr => ∃ (p : Nat) (hs : List RowH), v7 = .int .i64 p ∧ p ≤ 3 ∧ 3 - p ≤ g2 ∧ Hid (RwL wr (X + 1) v5 hs (rowsL s (i * 3 + p))) ∧ Hid (LwM w wr X a1 n1 c1 a2 n2 c2 a3 n3 c3 a4 n4 c4 a5 n5 c5 s))
      case atStart => exact ⟨0, hs, by go_num, by omega, by omega, HR, HM⟩
      case round =>
        clear HR HM k0
        obtain ⟨p, hs, rfl, hp, hg2, HR, HM⟩ := hrel
        by_cases hlp : p < 3
        · have hlpz : (p : Int) < 3 := by omega
          obtain ⟨b, off, g, hA, hbl, hgx, d0, d1, d2, d3, d4, d5, d6, d7, d8, d9, d10⟩ := rdCon_at HS.out.r1 (k := i) (by rw [HCL.out]; exact hlt)
          have HLA : Hid (limAt s i = limV g) := Lib.hid (by unfold limAt; rw [hgx]; rfl)
          have d0 := (HM.out.bel.cell (p := ⟨b, off + i * 11, none⟩) hbl).trans d0
          have d1 := (HM.out.bel.cell (p := ⟨b, off + i * 11 + 1, none⟩) hbl).trans d1
          have d2 := (HM.out.bel.cell (p := ⟨b, off + i * 11 + 2, none⟩) hbl).trans d2
          have d3 := (HM.out.bel.cell (p := ⟨b, off + i * 11 + 3, none⟩) hbl).trans d3
          have d4 := (HM.out.bel.cell (p := ⟨b, off + i * 11 + 4, none⟩) hbl).trans d4
          have d5 := (HM.out.bel.cell (p := ⟨b, off + i * 11 + 5, none⟩) hbl).trans d5
          have d6 := (HM.out.bel.cell (p := ⟨b, off + i * 11 + 6, none⟩) hbl).trans d6
          have d7 := (HM.out.bel.cell (p := ⟨b, off + i * 11 + 7, none⟩) hbl).trans d7
          have d8 := (HM.out.bel.cell (p := ⟨b, off + i * 11 + 8, none⟩) hbl).trans d8
          have d9 := (HM.out.bel.cell (p := ⟨b, off + i * 11 + 9, none⟩) hbl).trans d9
          have d10 := (HM.out.bel.cell (p := ⟨b, off + i * 11 + 10, none⟩) hbl).trans d10
          have HOC := Lib.hid (HOK.out.okC hgx)
          have HC := Lib.hid (r9Of_ok g HOC.out wr)
          have k0 := HM.out.k0
          have HA1 : Hid (a1 = some ⟨b, off, none⟩) := Lib.hid hA
          clear hgx hbl
          subst hA
          go_wp2_with fail
          refine HC.out.mono ?_
          rintro e w2 ⟨rfl, hb2⟩
          have HM := Lib.hid (HM.out.keep hb2)
          have HR := Lib.hid (HR.out.keep hb2)
          clear hb2 d0 d1 d2 d3 d4 d5 d6 d7 d8 d9 d10 k0 HC
          generalize limV g = lv at *
          go_wp2_with fail
          obtain ⟨W2, hW2⟩ : ∃ W2, W2 = w2.alloc (.cells #[.int .i64 lv, .slice none 0 0] 47) := ⟨_, rfl⟩
          have b2 : Below w2.heap.size w2 W2 := by rw [hW2]; exact (Below.refl _ w2).alloc (Nat.le_refl _) _
          have HOR : Hid (Own W2 w2.heap.size 47 2 (rowF lv (.slice none 0 0))) := Lib.hid (by rw [hW2]; exact Own.newAt w2 47 _ w2.heap.size rfl rfl (fun i hi => by match i, hi with | 0, _ => rfl | 1, _ => rfl))
          have HLT : Hid ((∀ q, u5.ownBlock = some q → X + 1 ≤ q ∧ q < w2.heap.size) ∧ ∀ (k : Nat) (x : RowH), hs[k]? = some x → ∀ a, x.2.1 = some a → a.block < w2.heap.size) := Lib.hid ⟨fun q hq => World.ownsRow.lt HR.out.own q hq, fun k x hx a ha => by
            have hk : k < (rowsL s (i * 3 + p)).length := by rw [← HR.out.len]; exact (List.getElem?_eq_some_iff.1 hx).1
            exact ((HR.out.mem k x _ hx (List.getElem?_eq_getElem hk)).2 a ha).1⟩
          have HXR : Hid (X < w2.heap.size) := Lib.hid (World.block_lt_of_cell? w2 _ HM.out.k0)
          have HM := Lib.hid (HM.out.keep b2)
          have HR := Lib.hid (HR.out.keep b2)
          have HZ : Hid (w2.heap.size + 1 ≤ W2.heap.size) := Lib.hid (by rw [hW2]; simp)
          rw [← hW2]
          clear hW2 b2
          generalize w2.heap.size = R at *
          go_loopg [9] n4 (fun g3 v9 wq => ∃ (k : Nat) (mv : Value), v9 = .int .i64 k ∧ k ≤ n4 ∧ n4 - k ≤ g3 ∧ Hid (Own wq R 47 2 (rowF lv mv)) ∧ Hid (OwnL wq (R + 1) mv (memK s i p k)) ∧ Hid (RwL wq (X + 1) u5 hs (rowsL s (i * 3 + p))) ∧ Hid (LwM w wq X (some ⟨b, off, none⟩) n1 c1 a2 n2 c2 a3 n3 c3 a4 n4 c4 a5 n5 c5 s) ∧ Hid (R + 1 ≤ wq.heap.size))
          case atStart => exact ⟨0, .slice none 0 0, by go_num, by omega, by omega, HOR, Lib.hid (OwnL.nil _ _), HR, HM, HZ⟩
          case round =>
            clear HOR HR HM HZ
            obtain ⟨k, mv, rfl, hk, hg3, HOR, HL, HR, HM, HZ⟩ := hrel
            obtain ⟨k0, k1, k2, k3, k4⟩ : wr.cell? ⟨X, 0, none⟩ = some (.slice (some ⟨b, off, none⟩) n1 c1) ∧ wr.cell? ⟨X, 1, none⟩ = some (.slice a2 n2 c2) ∧ wr.cell? ⟨X, 2, none⟩ = some (.slice a3 n3 c3) ∧ wr.cell? ⟨X, 3, none⟩ = some (.slice a4 n4 c4) ∧ wr.cell? ⟨X, 4, none⟩ = some (.slice a5 n5 c5) := ⟨HM.out.k0, HM.out.k1, HM.out.k2, HM.out.k3, HM.out.k4⟩
            by_cases hlk : k < n4
            · have hlkz : (k : Int) < (n4 : Int) := by omega
              obtain ⟨b4, off4, g, hA4, hbl4, hgx4, g0, g1, g2, g3, g4, g5, g6, g7⟩ := rdChg_at HS.out.r4 (k := k) (by rw [HL4.out]; exact hlk)
              have g0 := (HM.out.bel.cell (p := ⟨b4, off4 + k * 8, none⟩) hbl4).trans g0
              have g1 := (HM.out.bel.cell (p := ⟨b4, off4 + k * 8 + 1, none⟩) hbl4).trans g1
              have g2 := (HM.out.bel.cell (p := ⟨b4, off4 + k * 8 + 2, none⟩) hbl4).trans g2
              have g3 := (HM.out.bel.cell (p := ⟨b4, off4 + k * 8 + 3, none⟩) hbl4).trans g3
              have g4 := (HM.out.bel.cell (p := ⟨b4, off4 + k * 8 + 4, none⟩) hbl4).trans g4
              have g5 := (HM.out.bel.cell (p := ⟨b4, off4 + k * 8 + 5, none⟩) hbl4).trans g5
              have g6 := (HM.out.bel.cell (p := ⟨b4, off4 + k * 8 + 6, none⟩) hbl4).trans g6
              have g7 := (HM.out.bel.cell (p := ⟨b4, off4 + k * 8 + 7, none⟩) hbl4).trans g7
              obtain ⟨pl1, pl2, pl3⟩ := HOK.out.place hgx4
              have hch := HOK.out.chg g (List.mem_of_getElem? hgx4)
              have HPH : Hid (1 ≤ g.ph ∧ g.ph ≤ 7) := Lib.hid (by
                unfold okChg at hch
                simp only [decide_eq_true_eq] at hch
                exact hch.2.2.1)
              have HON := Lib.hid (r8On_any (some ⟨b, off, none⟩) a2 a3 a4 a5 n1 c1 n2 c2 n3 c3 n4 c4 n5 c5 s.cons HOK.out.ups (placeOf s k) (by omega) HCL.out hn16 (i : Int) wr.drew (HM.out.rs.r1.drewN 1))
              have HUS : Hid (usesB s p (k : Int) = bitP g.ph p) := Lib.hid (by unfold usesB phOf; rw [Int.toNat_natCast, hgx4]; rfl)
              have HMK := Lib.hid (memK_step s i p k)
              have hml := memK_len s i p k
              obtain ⟨pl, hpl⟩ : ∃ pl, pl = placeOf s k := ⟨_, rfl⟩
              rw [← pl3, ← hpl] at g1
              rw [← hpl] at HON
              have HBE : Hid (isBel s (i : Int) k = decide ((i : Int) ∈ pthI s.cons pl)) := Lib.hid (by rw [hpl]; rfl)
              have HPL := Lib.hid hpl
              have HU2 := fun W => r8Uses_any g.name g.place g.ph g.mn g.mx g.step g.fb g.own p hlp HPH.out W
              rw [← pl3, ← hpl] at HU2
              have HU := Lib.hid HU2
              clear hgx4 pl1 pl2 pl3 hch hpl HU2
              subst hA4
              go_wp2_with fail
              go_still_tail 8, (by kernel_rfl)
              change wpList _ _ _ _ _ wr.drew
              go_wp2_with fail
              refine HON.out.mono ?_
              rintro e w3 ⟨rfl, hb3⟩
              have hbw : Below wr.heap.size wr w3 := (below_drew wr).trans hb3
              have g0 := (hbw.cell (p := ⟨b4, off4 + k * 8, none⟩) (World.block_lt_of_cell? wr _ g0)).trans g0
              have g1 := (hbw.cell (p := ⟨b4, off4 + k * 8 + 1, none⟩) (World.block_lt_of_cell? wr _ g1)).trans g1
              have g2 := (hbw.cell (p := ⟨b4, off4 + k * 8 + 2, none⟩) (World.block_lt_of_cell? wr _ g2)).trans g2
              have g3 := (hbw.cell (p := ⟨b4, off4 + k * 8 + 3, none⟩) (World.block_lt_of_cell? wr _ g3)).trans g3
              have g4 := (hbw.cell (p := ⟨b4, off4 + k * 8 + 4, none⟩) (World.block_lt_of_cell? wr _ g4)).trans g4
              have g5 := (hbw.cell (p := ⟨b4, off4 + k * 8 + 5, none⟩) (World.block_lt_of_cell? wr _ g5)).trans g5
              have g6 := (hbw.cell (p := ⟨b4, off4 + k * 8 + 6, none⟩) (World.block_lt_of_cell? wr _ g6)).trans g6
              have g7 := (hbw.cell (p := ⟨b4, off4 + k * 8 + 7, none⟩) (World.block_lt_of_cell? wr _ g7)).trans g7
              have HM := Lib.hid (HM.out.keep hbw)
              have HR := Lib.hid (HR.out.keep hbw)
              have HL := Lib.hid (HL.out.keep hbw)
              have HOR := Lib.hid (HOR.out.keep hbw HOR.out.lt)
              have HZ : Hid (R + 1 ≤ w3.heap.size) := Lib.hid (Nat.le_trans HZ.out hbw.size)
              clear hb3 hbw k0 k1 k2 k3 k4 HON
              have k3 := HM.out.k3
              obtain ⟨q1, hq1⟩ : ∃ q, q = decide ((i : Int) ∈ pthI s.cons pl) := ⟨_, rfl⟩
              rw [← hq1] at HBE ⊢
              have HQ1 := Lib.hid hq1
              clear hq1
              go_wp2_with fail
              refine (HU.out w3).mono ?_
              rintro e w4 ⟨rfl, hb4⟩
              have HM := Lib.hid (HM.out.keep hb4)
              have HR := Lib.hid (HR.out.keep hb4)
              have HL := Lib.hid (HL.out.keep hb4)
              have HOR := Lib.hid (HOR.out.keep hb4 HOR.out.lt)
              have hz : R + 1 ≤ w4.heap.size := Nat.le_trans HZ.out hb4.size
              have HZ : Hid (R + 1 ≤ w4.heap.size) := Lib.hid hz
              clear hb4 g0 g1 g2 g3 g4 g5 g6 g7 k3 HU
              obtain ⟨q2, hq2⟩ : ∃ q, q = bitP g.ph p := ⟨_, rfl⟩
              rw [← hq2] at HUS ⊢
              have HQ2 := Lib.hid hq2
              clear hq2
              cases q1
              · have HLK : Hid (OwnL w4 (R + 1) mv (memK s i p (k + 1))) := Lib.hid (by rw [HMK.out, HBE.out, if_neg (by simp), List.append_nil]; exact HL.out)
                go_wp2_with fail
                go_roundg (n4 - (k + 1))
                case measure => omega
                case rel => exact ⟨k + 1, mv, by go_num, by omega, by omega, HOR, HLK, HR, HM, HZ⟩
              cases q2
              · have HLK : Hid (OwnL w4 (R + 1) mv (memK s i p (k + 1))) := Lib.hid (by rw [HMK.out, HBE.out, HUS.out, if_neg (by simp), List.append_nil]; exact HL.out)
                go_wp2_with fail
                go_roundg (n4 - (k + 1))
                case measure => omega
                case rel => exact ⟨k + 1, mv, by go_num, by omega, by omega, HOR, HLK, HR, HM, HZ⟩
              · obtain ⟨ap, v', w5, ap1, ap2, ap3, ap4, ap5⟩ := app_int (k : Int) HL.out hz (by omega)
                have HLK : Hid (OwnL w5 (R + 1) v' (memK s i p (k + 1))) := Lib.hid (by rw [HMK.out, HBE.out, HUS.out, if_pos (by rfl)]; exact ap3)
                have HMD : Hid (Mod (fun j => mv.ownBlock = some j) w4 w5) := Lib.hid ap4
                have HGE : Hid (∀ j, mv.ownBlock = some j → R + 1 ≤ j) := Lib.hid (fun j hj => (World.ownsRow.lt HL.out j hj).1)
                have HGE2 : Hid (∀ j, v'.ownBlock = some j → R + 1 ≤ j) := Lib.hid (fun j hj => (World.ownsRow.lt ap3 j hj).1)
                obtain ⟨a', c', hv'⟩ := ap3.shape
                obtain ⟨L, hL⟩ : ∃ L, L = (memK s i p k ++ [(k : Int)]).length := ⟨_, rfl⟩
                rw [← hL] at hv'
                have cw0 : w4.cell? ⟨R, 1, none⟩ = some mv := HOR.out.cell (i := 1) (by omega)
                have HO5 : Hid (Own w5 R 47 2 (rowF lv mv)) := Lib.hid (HOR.out.mod HMD.out (fun h => by have := HGE.out R h; omega))
                have cw5 : w5.cell? ⟨R, 1, none⟩ = some mv := HO5.out.cell (i := 1) (by omega)
                have fw5 := HO5.out.frozen 1
                have HX2 : Hid (X < R) := HXR
                subst hv'
                have HMS : Hid (Mod (fun j => mv.ownBlock = some j ∨ j = R) w4 (w5.setCell ⟨R, 1, none⟩ (.slice a' L c'))) := Lib.hid ((HMD.out.mono (fun j _ h => .inl h)).setCell (p := ⟨R, 1, none⟩) (.inl (.inr rfl)) _)
                have HORn : Hid (Own (w5.setCell ⟨R, 1, none⟩ (.slice a' L c')) R 47 2 (rowF lv (.slice a' L c'))) := Lib.hid ((HO5.out.set 1 _).congr (fun i hi => by match i, hi with | 0, _ => rfl | 1, _ => rfl))
                have HLn : Hid (OwnL (w5.setCell ⟨R, 1, none⟩ (.slice a' L c')) (R + 1) (.slice a' L c') (memK s i p (k + 1))) := Lib.hid (HLK.out.mod ((show Mod (fun j => j = R) w5 w5 from Mod.refl _ w5).setCell (p := ⟨R, 1, none⟩) (.inl rfl) _) (fun j hj h => by have := HGE2.out j hj; omega))
                have HRn : Hid (RwL (w5.setCell ⟨R, 1, none⟩ (.slice a' L c')) (X + 1) u5 hs (rowsL s (i * 3 + p))) := Lib.hid (HR.out.mod HMS.out (fun q hq h => by
                  have h1 := (HLT.out.1 q hq).2
                  rcases h with h | h
                  · have := HGE.out q h; omega
                  · omega) (fun m x hx a ha h => by
                  have h1 := HLT.out.2 m x hx a ha
                  rcases h with h | h
                  · have := HGE.out _ h; omega
                  · omega))
                have HMn : Hid (LwM w (w5.setCell ⟨R, 1, none⟩ (.slice a' L c')) X (some ⟨b, off, none⟩) n1 c1 a2 n2 c2 a3 n3 c3 (some ⟨b4, off4, none⟩) n4 c4 a5 n5 c5 s) := Lib.hid (HM.out.mod HS.out HMS.out (fun h => by
                  have h1 := HX2.out
                  rcases h with h | h
                  · have := HGE.out _ h; omega
                  · omega) (fun j h => by
                  have h1 := HX2.out
                  have h2 := HSZ.out
                  rcases h with h | h
                  · have := HGE.out _ h; omega
                  · omega))
                have HZn : Hid (R + 1 ≤ (w5.setCell ⟨R, 1, none⟩ (.slice a' L c')).heap.size) := Lib.hid (Nat.le_trans HZ.out HMS.out.size)
                clear ap3 ap4 ap5 hL HLK HO5 HL HR HM HOR
                go_wp2_with fail
                go_roundg (n4 - (k + 1))
                case measure => omega
                case rel => exact ⟨k + 1, _, by go_num, by omega, by omega, HORn, HLn, HRn, HMn, HZn⟩
            · have hlkz : ¬ (k : Int) < (n4 : Int) := by omega
              have hkn : k = n4 := by omega
              have HLM : Hid (OwnL wr (R + 1) mv (memL s (i * 3 + p))) := Lib.hid (by rw [← memK_all s hlp, HL4.out, ← hkn]; exact HL.out)
              obtain ⟨ma, mc, hmv, hmr⟩ := HLM.out.rd
              obtain ⟨L, hL⟩ : ∃ L, L = (memL s (i * 3 + p)).length := ⟨_, rfl⟩
              rw [← hL] at hmv
              have HFR : Hid (∀ x, ma = some x → R + 1 ≤ x.block ∧ x.block < wr.heap.size) := Lib.hid (fun x hx => by
                have h := HLM.out
                rw [hmv] at h
                exact ownL_fresh h x hx)
              have HLN := Lib.hid hL
              have HMR := Lib.hid hmr
              subst hmv
              have cr0 : wr.cell? ⟨R, 0, none⟩ = some (.int .i64 lv) := HOR.out.cell (i := 0) (by omega)
              have cr1 : wr.cell? ⟨R, 1, none⟩ = some (.slice ma L mc) := HOR.out.cell (i := 1) (by omega)
              clear hkn HLM hmr hL HL k0 k1 k2 k4
              by_cases hz0 : L = 0
              · have HR2 : Hid (RwL wr (X + 1) u5 hs (rowsL s (i * 3 + (p + 1)))) := Lib.hid (by rw [← Nat.add_assoc, rowsL_no (by rw [← HLN.out]; exact hz0)]; exact HR.out)
                have hzz : ¬ (0 : Int) < (L : Int) := by omega
                clear hz0
                go_wp2_with fail
                go_roundg (3 - (p + 1))
                case measure => omega
                case rel => exact ⟨p + 1, hs, by go_num, by omega, by omega, HR2, HM⟩
              · have hzz : (0 : Int) < (L : Int) := by omega
                have hrl : hs.length ≤ 100000 := by rw [HR.out.len]; have := rowsL_len s (i * 3 + p); omega
                obtain ⟨ap, v', w5, ap1, ap2, ap3, ap4, ap5, ap6, ap7⟩ := app_row HR.out (by have := HZ.out; have := HXR.out; omega) hrl lv ma L mc (memL s (i * 3 + p)) HLN.out HMR.out (fun x hx => ⟨(HFR.out x hx).2, fun h => by have h1 := (HLT.out.1 _ h).2; have h2 := (HFR.out x hx).1; omega⟩)
                have HR2 : Hid (RwL w5 (X + 1) v' (hs ++ [(lv, ma, L, mc)]) (rowsL s (i * 3 + (p + 1)))) := Lib.hid (by rw [← Nat.add_assoc, rowsL_yes (by rw [← HLN.out]; exact hz0), show (i * 3 + p) / 3 = i by omega, HLA.out]; exact ap3.out)
                have HM2 : Hid (LwM w w5 X (some ⟨b, off, none⟩) n1 c1 a2 n2 c2 a3 n3 c3 a4 n4 c4 a5 n5 c5 s) := Lib.hid (HM.out.mod HS.out ap4.out (fun h => by have := (HLT.out.1 _ h).1; omega) (fun j h => by have := (HLT.out.1 _ h).1; have := HSZ.out; omega))
                obtain ⟨a', c', hv'⟩ := ap5.out
                obtain ⟨L', hL'⟩ : ∃ L', L' = hs.length + 1 := ⟨_, rfl⟩
                rw [← hL'] at hv'
                subst hv'
                clear ap3 ap4 ap5 ap6 ap7 hL' hz0
                go_wp2_with fail
                go_roundg (3 - (p + 1))
                case measure => omega
                case rel => exact ⟨p + 1, _, by go_num, by omega, by omega, HR2, HM2⟩
        · have hlpz : ¬ (p : Int) < 3 := by omega
          have HR2 : Hid (RwL wr (X + 1) u5 hs (rowsL s ((i + 1) * 3))) := Lib.hid (by rw [show (i + 1) * 3 = i * 3 + p by omega]; exact HR.out)
          go_wp2_with fail
          go_roundg (n1 - (i + 1))
          case measure => omega
          case rel => exact ⟨i + 1, hs, by go_num, by omega, by omega, HR2, HM⟩
    · have hltz : ¬ (i : Int) < (n1 : Int) := by omega
      have hin : i = n1 := by omega
      have HRO : Hid (rowsL s (i * 3) = rowsO s) := Lib.hid (by rw [rowsO_yes HY.out, HCL.out, hin])
      obtain ⟨ar, cr, hv, hrr⟩ := HR.out.rows
      rw [HRO.out] at hv hrr
      have HRR := Lib.hid hrr
      obtain ⟨L, hL⟩ : ∃ L, L = (rowsO s).length := ⟨_, rfl⟩
      rw [← hL] at hv
      have HLL := Lib.hid hL
      subst hv
      clear hin hrr hL
      go_wp2_with fail
      refine bodyPost_ret (results_tmp2 rfl _ _ _) rfl ?_
      exact ⟨ar, cr, hs, by rw [HY.out, ← HLL.out]; rfl, HRR.out, HM.out.bel⟩
end Go.Proofs.Ytbalhbpaholakaa
