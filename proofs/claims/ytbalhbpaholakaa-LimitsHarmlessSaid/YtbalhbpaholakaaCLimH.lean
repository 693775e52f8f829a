/-
Rows' closure, choose.
-/
import Derived.Test.YtbalhbpaholakaaCLimG
namespace Go.Proofs.Ytbalhbpaholakaa
open Go.RowKit
set_option linter.unusedVariables false
set_option linter.unusedSimpArgs false
set_option maxRecDepth 100000 in
set_option maxHeartbeats 4000000 in
theorem limRows1_any (bs bp : Nat) (a4 : Option Addr) (n4 c4 : Nat) (s : GSite) (k p : Nat) (hp : p < 3) (hk : k < n4) (hl : s.chgs.length = n4) (hn4 : n4 ≤ 1000000) (hok : ∀ g, g ∈ s.chgs → 0 ≤ g.ph ∧ g.ph ≤ 7) (w : World)
    (hs : w.cell? ⟨bs, 3, none⟩ = some (.slice a4 n4 c4)) (hpl : w.cell? ⟨bp, 1, none⟩ = some (.int .i64 (p : Nat))) (hR : Rd 8 encChg w a4 s.chgs) :
    Calls Try.prog 48 #[.int .i64 (k : Nat), .pointer (some ⟨bs, 0, none⟩), .pointer (some ⟨bp, 0, none⟩)] w fun e w' => e = .returned (.bool (usesB s p (k : Nat))) ∧ Below w.heap.size w w' := by
  obtain ⟨b, off, g, hA, hbl, hgx, d0, d1, d2, d3, d4, d5, d6, d7⟩ := rdChg_at hR (k := k) (by omega)
  have hph := hok g (List.mem_of_getElem? hgx)
  have hbit := bits_ph (ph := g.ph) (p := p) hph hp
  have HE : Hid (bitP g.ph p = usesB s p (k : Nat)) := Lib.hid (by
    unfold usesB phOf
    rw [Int.toNat_natCast, hgx]
    rfl)
  have hkz : (k : Int) < (n4 : Int) := by omega
  have hpz : ¬ (p : Int) < 0 := by omega
  subst hA
  generalize bitP g.ph p = q at *
  clear hgx hR hok
  go_enter Try.func48, Try.ntmps48
  go_wp2_with fail
  go_quiet (fail)
  go_wp2_with fail
  go_ret
  exact ⟨ret_bool HE.out, below_drewG _ (Below.refl _ w)⟩
/-- What choose does. -/
def CcPost (w : World) (ys : List Int) (e : Ending) (w' : World) : Prop := ∃ v, e = .returned v ∧ OwnL w' w.heap.size v ys ∧ Below w.heap.size w w'
theorem filter_snoc {α : Type} {f : α → Bool} {xs : List α} {k : Nat} {x : α} (h : xs[k]? = some x) : (xs.take (k + 1)).filter f = (xs.take k).filter f ++ (if f x = true then [x] else []) := by
  rw [take_snoc h, List.filter_append]
  cases hf : f x <;> simp [hf]
set_option maxRecDepth 100000 in
set_option maxHeartbeats 4000000 in
theorem limChoose_any (bs bp : Nat) (a4 : Option Addr) (n4 c4 : Nat) (s : GSite) (p : Nat) (hp : p < 3) (hl : s.chgs.length = n4) (hn4 : n4 ≤ 1000000) (HOK : Hid (∀ g, g ∈ s.chgs → 0 ≤ g.ph ∧ g.ph ≤ 7)) (A : Option Addr) (n c : Nat) (xs : List Int) (w : World) (HX : Hid (Rd 1 encI w A xs)) (HN : Hid (xs.length = n)) (hn : n ≤ 100000) (HIN : Hid (∀ i, i < n → 0 ≤ fI xs i ∧ fI xs i < n4))
    (hs : w.cell? ⟨bs, 3, none⟩ = some (.slice a4 n4 c4)) (hpl : w.cell? ⟨bp, 1, none⟩ = some (.int .i64 (p : Nat))) (HR : Hid (Rd 8 encChg w a4 s.chgs)) :
    Calls Try.prog 47 #[.slice A n c, .func (.func 48) #[] #[.pointer (some ⟨bs, 0, none⟩), .pointer (some ⟨bp, 0, none⟩)]] w fun e w' => CcPost w (xs.filter (usesB s p)) e w' := by
  have HS := Lib.hid hs
  have HP := Lib.hid hpl
  have HL := Lib.hid hl
  have lbs := World.block_lt_of_cell? w _ hs
  have lbp := World.block_lt_of_cell? w _ hpl
  dsimp only at lbs lbp
  clear hs hpl hl
  go_enter Try.func47, Try.ntmps47
  go_wp2_with fail
  go_loopg [5, 10] n (fun g1 v5 v10 wr => ∃ k : Nat, v10 = .int .i64 k ∧ k ≤ n ∧ n - k ≤ g1 ∧ Hid (OwnL wr w.heap.size v5 ((xs.take k).filter (usesB s p))) ∧ Hid (Below w.heap.size w wr))
  case atStart => exact ⟨0, by go_num, by omega, by omega, Lib.hid (OwnL.nil _ _), Lib.hid (Below.refl _ _)⟩
  case round =>
    obtain ⟨k, rfl, hk, hg1, HL5, HB⟩ := hrel
    by_cases hlt : k < n
    · have hltz : (k : Int) < (n : Int) := by omega
      obtain ⟨b, off, hA, hb, hc⟩ := HX.out.int (k := k) (by rw [HN.out]; exact hlt)
      have hc' : wr.cell? ⟨b, off + k, none⟩ = some (.int .i64 (fI xs k)) := (HB.out.cell (p := ⟨b, off + k, none⟩) hb).trans hc
      have hbs' := (HB.out.cell (p := ⟨bs, 3, none⟩) lbs).trans HS.out
      have hbp' := (HB.out.cell (p := ⟨bp, 1, none⟩) lbp).trans HP.out
      have hx := HIN.out k hlt
      obtain ⟨x, hxx⟩ : ∃ x : Nat, fI xs k = (x : Int) := ⟨(fI xs k).toNat, by omega⟩
      have hxk : xs[k]? = some (x : Int) := by
        have h := List.getElem?_eq_getElem (l := xs) (i := k) (by rw [HN.out]; exact hlt)
        rw [h]
        unfold fI at hxx
        rw [h] at hxx
        simpa using hxx
      have HF := Lib.hid (filter_snoc (f := usesB s p) hxk)
      have HC := Lib.hid (limRows1_any bs bp a4 n4 c4 s x p hp (by omega) HL.out hn4 HOK.out wr hbs' hbp' (HR.out.keep HB.out))
      have hll : ((xs.take k).filter (usesB s p)).length ≤ 1000000 := by
        have h1 := List.length_filter_le (usesB s p) (xs.take k)
        rw [List.length_take] at h1
        omega
      have hwr : w.heap.size ≤ wr.heap.size := HB.out.size
      rw [hxx] at hc'
      subst hA
      clear hc hx hxx hxk hbs' hbp'
      go_wp2_with fail
      refine HC.out.mono ?_
      rintro e w3 ⟨rfl, hb3⟩
      have HL3 := Lib.hid (HL5.out.keep hb3)
      have HB3 := Lib.hid (below_then HB.out hb3)
      have hw3 : w.heap.size ≤ w3.heap.size := HB3.out.size
      clear HC HL5 HB hb3
      cases hu : usesB s p (x : Int)
      · have HLK : Hid (OwnL w3 w.heap.size u5 ((xs.take (k + 1)).filter (usesB s p))) := Lib.hid (by rw [HF.out, hu]; simpa using HL3.out)
        clear hu HL3 HF
        go_wp2_with fail
        go_roundg (n - (k + 1))
        case measure => omega
        case rel => exact ⟨k + 1, by go_num, by omega, by omega, HLK, HB3⟩
      · obtain ⟨ap, v', w4, ap1, ap2, ap3, ap4, ap5⟩ := app_int ((x : Nat) : Int) HL3.out hw3 hll
        have HLK : Hid (OwnL w4 w.heap.size v' ((xs.take (k + 1)).filter (usesB s p))) := Lib.hid (by rw [HF.out, hu, if_pos rfl]; exact ap3)
        have HB4 : Hid (Below w.heap.size w w4) := Lib.hid (HB3.out.trans (OwnL.below HL3.out ap4 hw3))
        obtain ⟨a', c', hv'⟩ := ap3.shape
        obtain ⟨L, hL⟩ : ∃ L, L = ((xs.take k).filter (usesB s p) ++ [(x : Int)]).length := ⟨_, rfl⟩
        rw [← hL] at hv'
        clear hu HL3 ap3 ap4 ap5 HB3 hL HF
        subst hv'
        go_wp2_with fail
        go_roundg (n - (k + 1))
        case measure => omega
        case rel => exact ⟨k + 1, by go_num, by omega, by omega, HLK, HB4⟩
    · have hltz : ¬ (k : Int) < (n : Int) := by omega
      have hkn : k = n := by omega
      have HT : Hid (xs.take k = xs) := Lib.hid (by rw [hkn, ← HN.out, List.take_length])
      clear hkn
      go_wp2_with fail
      go_ret
      exact ⟨_, rfl, by rw [← HT.out]; exact HL5.out, HB.out⟩
end Go.Proofs.Ytbalhbpaholakaa
