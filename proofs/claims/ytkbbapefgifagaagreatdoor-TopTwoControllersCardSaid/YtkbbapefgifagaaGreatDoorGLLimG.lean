/-
Several texts in one: LimG, LimH, LimI0, LimI.
-/
import Derived.Test.YtkbbapefgifagaaGreatDoorGLLimD
import Derived.Test.YtkbbapefgifagaaGreatDoorGLApp
import Derived.Test.YtkbbapefgifagaaGreatDoorGLRefA
import Derived.Test.YtkbbapefgifagaaGreatDoorGLTreeH
import Derived.Laws.EntriesVeiled
/-
Rows: plain words, a list of rows that grows, Rows' closure, choose.
-/
namespace Go.Proofs.YtkbbapefgifagaaGreatDoor
open Go.RowKit
set_option linter.unusedVariables false
set_option linter.unusedSimpArgs false
structure GRow where
  cap : Int
  mem : List Int
deriving DecidableEq
def usesB (s : GSite) (p : Nat) (i : Int) : Bool := bitP (phOf s i.toNat) p
/-- The chargers below conductor t / 3 on phase t % 3. -/
def memL (s : GSite) (t : Nat) : List Int := (belowL s ((t / 3 : Nat) : Int) s.chgs.length).filter (usesB s (t % 3))
def rowsL (s : GSite) (m : Nat) : List GRow := (List.range m).filterMap (fun t => if (memL s t).length = 0 then none else some ⟨limAt s (t / 3), memL s t⟩)
noncomputable def rowsO (s : GSite) : List GRow := if okSB keyL s = true then rowsL s (s.cons.length * 3) else []
theorem rowsL_no {s : GSite} {t : Nat} (h : (memL s t).length = 0) : rowsL s (t + 1) = rowsL s t := by
  unfold rowsL
  have h' : memL s t = [] := List.length_eq_zero_iff.1 h
  rw [List.range_succ, List.filterMap_append]
  simp [h']
theorem rowsL_yes {s : GSite} {t : Nat} (h : ¬ (memL s t).length = 0) : rowsL s (t + 1) = rowsL s t ++ [⟨limAt s (t / 3), memL s t⟩] := by
  unfold rowsL
  have h' : ¬ memL s t = [] := fun e => h (by rw [e]; rfl)
  rw [List.range_succ, List.filterMap_append]
  simp [h']
theorem rowsO_no {s : GSite} (h : okSB keyL s = false) : rowsO s = [] := by unfold rowsO; rw [h]; rfl
theorem rowsO_yes {s : GSite} (h : okSB keyL s = true) : rowsO s = rowsL s (s.cons.length * 3) := by unfold rowsO; rw [if_pos h]
/-- A row's value: its cap, the slice of its members. -/
abbrev RowH : Type := Int × Option Addr × Nat × Nat
def encHd (h : RowH) : List Value := [.int .i64 h.1, .slice h.2.1 h.2.2.1 h.2.2.2]
theorem encHd_len (h : RowH) : (encHd h).length = 2 := rfl
theorem encHd_one (h : RowH) (u : Value) (hu : u ∈ encHd h) : u.oneCell' = true := by
  simp [encHd] at hu
  rcases hu with rfl | rfl <;> rfl
def MemOk (W : World) (h : RowH) (r : GRow) : Prop := h.1 = r.cap ∧ h.2.2.1 = r.mem.length ∧ Rd 1 encI W h.2.1 r.mem
/-- Rows that are read. -/
def RdRows (W : World) (A : Option Addr) (hs : List RowH) (rs : List GRow) : Prop := Rd 2 encHd W A hs ∧ hs.length = rs.length ∧ ∀ (k : Nat) (h : RowH) (r : GRow), hs[k]? = some h → rs[k]? = some r → MemOk W h r
theorem RdRows.keep {W W' : World} {A : Option Addr} {hs : List RowH} {rs : List GRow} (h : RdRows W A hs rs) (hb : Below W.heap.size W W') : RdRows W' A hs rs :=
  ⟨h.1.keep hb, h.2.1, fun k x r hx hr => ⟨(h.2.2 k x r hx hr).1, (h.2.2 k x r hx hr).2.1, (h.2.2 k x r hx hr).2.2.keep hb⟩⟩
theorem RdRows.nil (W : World) : RdRows W none [] [] := ⟨Rd.nil, rfl, fun k h r hx => by simp at hx⟩
/-- What Rows does. -/
def RwPost (w : World) (s : GSite) (e : Ending) (w' : World) : Prop := ∃ a c hs, e = .returned (.tuple #[.slice a (rowsO s).length c, .int .i64 (errO (okSB keyL s))]) ∧ RdRows w' a hs (rowsO s) ∧ Below w.heap.size w w'
/-- Rows that grow. -/
structure RwL (W : World) (base : Nat) (v : Value) (hs : List RowH) (rs : List GRow) : Prop where
  own : OwnR 165 2 encHd W base v hs
  len : hs.length = rs.length
  mem : ∀ (k : Nat) (h : RowH) (r : GRow), hs[k]? = some h → rs[k]? = some r → MemOk W h r ∧ ∀ a, h.2.1 = some a → a.block < W.heap.size ∧ v.ownBlock ≠ some a.block
theorem RwL.nil (W : World) (base : Nat) : RwL W base (.slice none 0 0) [] [] := ⟨OwnR.nil _ _, rfl, fun k h r hx => by simp at hx⟩
theorem RwL.keep {W W' : World} {base : Nat} {v : Value} {hs : List RowH} {rs : List GRow} (h : RwL W base v hs rs) (hb : Below W.heap.size W W') : RwL W' base v hs rs :=
  ⟨h.own.keep hb, h.len, fun k x r hx hr => by
    obtain ⟨⟨m1, m2, m3⟩, m4⟩ := h.mem k x r hx hr
    exact ⟨⟨m1, m2, m3.keep hb⟩, fun a ha => ⟨Nat.lt_of_lt_of_le (m4 a ha).1 hb.size, (m4 a ha).2⟩⟩⟩
theorem RwL.mod {W W' : World} {base : Nat} {v : Value} {hs : List RowH} {rs : List GRow} (h : RwL W base v hs rs) {M : Nat → Prop} (hm : Mod M W W') (h0 : ∀ k, v.ownBlock = some k → ¬ M k) (h1 : ∀ (k : Nat) (x : RowH), hs[k]? = some x → ∀ a, x.2.1 = some a → ¬ M a.block) : RwL W' base v hs rs :=
  ⟨h.own.mod hm h0, h.len, fun k x r hx hr => by
    obtain ⟨⟨m1, m2, m3⟩, m4⟩ := h.mem k x r hx hr
    exact ⟨⟨m1, m2, m3.mod hm (fun a ha _ => h1 k x hx a ha)⟩, fun a ha => ⟨Nat.lt_of_lt_of_le (m4 a ha).1 hm.size, (m4 a ha).2⟩⟩⟩
theorem ownR_nc {α : Type} {t : TypeId} {sz : Nat} {enc : α → List Value} {B : Nat} {W W' : World} {base : Nat} {v : Value} {xs : List α} (h : OwnR t sz enc W base v xs) (hn : Nc B W W') : OwnR t sz enc W' base v xs := ownsRow_nc h hn
theorem RwL.nc {W W' : World} {base : Nat} {v : Value} {hs : List RowH} {rs : List GRow} (h : RwL W base v hs rs) {B : Nat} (hn : Nc B W W') : RwL W' base v hs rs :=
  ⟨ownR_nc h.own hn, h.len, fun k x r hx hr => by
    obtain ⟨⟨m1, m2, m3⟩, m4⟩ := h.mem k x r hx hr
    refine ⟨⟨m1, m2, m3.ncL hn⟩, fun a ha => ⟨?_, (m4 a ha).2⟩⟩
    obtain ⟨row, hg, _⟩ := hn
    exact Nat.lt_of_lt_of_le (m4 a ha).1 hg.size⟩
theorem appInfoRow : (Tryz.prog.info? 165).map (fun i => (i.zero, i.size, i.bytes)) = some (some (.agg #[.int .i64 0, .slice none 0 0]), 2, 32) := by kernel_rfl
/-- One row more. -/
theorem app_row {W : World} {base : Nat} {v : Value} {hs : List RowH} {rs : List GRow} (h : RwL W base v hs rs) (hb : base ≤ W.heap.size) (hl : hs.length ≤ 100000) (cap : Int) (a : Option Addr) (n c : Nat) (mem : List Int) (hn : n = mem.length) (hr : Rd 1 encI W a mem) (ha : ∀ x, a = some x → x.block < W.heap.size ∧ v.ownBlock ≠ some x.block) :
    Appends Tryz.prog (W.alloc (.cells #[.int .i64 cap, .slice a n c] 165)) 133 133 v (.slice (some ⟨W.heap.size, 0, none⟩) 1 1) ∧
    ∃ v' w1, appV Tryz.prog (W.alloc (.cells #[.int .i64 cap, .slice a n c] 165)) 133 133 v (.slice (some ⟨W.heap.size, 0, none⟩) 1 1) = v' ∧
      appW Tryz.prog (W.alloc (.cells #[.int .i64 cap, .slice a n c] 165)) 133 133 v (.slice (some ⟨W.heap.size, 0, none⟩) 1 1) = w1 ∧ Hid (RwL w1 base v' (hs ++ [(cap, a, n, c)]) (rs ++ [⟨cap, mem⟩])) ∧ Hid (Mod (fun j => v.ownBlock = some j) W w1) ∧ Hid (∃ a' c', v' = .slice a' (hs.length + 1) c') ∧ Hid (∀ j, v'.ownBlock = some j → base ≤ j) ∧ Hid (∀ j, j < W.heap.size → v.ownBlock ≠ some j → v'.ownBlock ≠ some j) := by
  have rd : Rd 2 encHd (W.alloc (.cells #[.int .i64 cap, .slice a n c] 165)) (some ⟨W.heap.size, 0, none⟩) [((cap, a, n, c) : RowH)] :=
    (Own.new W 165 #[.int .i64 cap, .slice a n c] undef).rd (by show 1 * 2 ≤ 2; omega) encHd_len (fun k x hx j v hv => by
      have hk : k = 0 := by have := (List.getElem?_eq_some_iff.1 hx).1; simpa using this
      subst hk
      simp at hx
      subst hx
      match j, hv with
      | 0, hv => simp [encHd] at hv; rw [← hv]; rfl
      | 1, hv => simp [encHd] at hv; rw [← hv]; rfl
      | j + 2, hv => simp [encHd] at hv)
  obtain ⟨h1, v', w1, e1, e2, e3, e4, e5⟩ := app_rows (P := Tryz.prog) (ty := 133) (c := 1) (m := 1) appInfoRow Tryz.underlying133 rfl (by omega) encHd_len encHd_one (h.own.alloc _) rd rfl ⟨_, rfl⟩ (by simp; omega) (by unfold maxLen; omega) (by omega)
  have hM : Mod (fun k => v.ownBlock = some k) W w1 := ((Mod.refl _ W).alloc _).trans e4
  refine ⟨h1, v', w1, e1, e2, Lib.hid ⟨e3, by simp [h.len], ?_⟩, Lib.hid hM, ?_, ?_, ?_⟩
  · have hbel : W.heap.size ≤ w1.heap.size := hM.size
    have hrd : ∀ (A : Option Addr) (zs : List Int), Rd 1 encI W A zs → (∀ x, A = some x → x.block < W.heap.size ∧ v.ownBlock ≠ some x.block) → Rd 1 encI w1 A zs := by
      intro A zs hz hx h0
      obtain ⟨b, off, hAe, hlt, hc⟩ := hz h0
      have h2 := hx _ hAe
      refine ⟨b, off, hAe, Nat.lt_of_lt_of_le hlt hbel, fun k x hk j u hu => (hM.cell (World.block_lt_of_cell? W _ (hc k x hk j u hu)) h2.2).trans (hc k x hk j u hu)⟩
    have hap : ∀ x : Addr, x.block < W.heap.size ∧ v.ownBlock ≠ some x.block → x.block < w1.heap.size ∧ v'.ownBlock ≠ some x.block := by
      intro x hx
      refine ⟨Nat.lt_of_lt_of_le hx.1 hbel, ?_⟩
      rcases e5 with e | e
      · rw [e]; exact hx.2
      · rw [e]
        intro e2
        injection e2 with e2
        simp at e2
        omega
    intro k x r hx hr2
    rcases Nat.lt_or_ge k hs.length with hk | hk
    · rw [List.getElem?_append_left hk] at hx
      rw [List.getElem?_append_left (by rw [← h.len]; exact hk)] at hr2
      obtain ⟨⟨m1, m2, m3⟩, m4⟩ := h.mem k x r hx hr2
      exact ⟨⟨m1, m2, hrd _ _ m3 m4⟩, fun y hy => hap y (m4 y hy)⟩
    · rw [List.getElem?_append_right hk] at hx
      rw [List.getElem?_append_right (by rw [← h.len]; exact hk)] at hr2
      have hk0 : k - hs.length = 0 := by
        have := (List.getElem?_eq_some_iff.1 hx).1
        simp at this
        omega
      rw [hk0] at hx
      rw [← h.len, hk0] at hr2
      simp at hx hr2
      subst hx hr2
      exact ⟨⟨rfl, hn, hrd _ _ hr ha⟩, fun y hy => hap y (ha y hy)⟩
  · exact Lib.hid (by
      obtain ⟨a', c', hv⟩ := e3.shape
      exact ⟨a', c', by rw [hv]; simp⟩)
  · exact Lib.hid (fun j hj => (World.ownsRow.lt e3 j hj).1)
  · exact Lib.hid (fun j hj hne => by
      rcases e5 with e | e
      · rw [e]; exact hne
      · rw [e]
        intro e2
        injection e2 with e2
        simp at e2
        omega)
end Go.Proofs.YtkbbapefgifagaaGreatDoor
/-
Rows' closure, choose.
-/
namespace Go.Proofs.YtkbbapefgifagaaGreatDoor
open Go.RowKit
set_option linter.unusedVariables false
set_option linter.unusedSimpArgs false
set_option maxRecDepth 100000 in
set_option maxHeartbeats 4000000 in
theorem limRows1_any (bs bp : Nat) (a4 : Option Addr) (n4 c4 : Nat) (s : GSite) (k p : Nat) (hp : p < 3) (hk : k < n4) (hl : s.chgs.length = n4) (hn4 : n4 ≤ 1000000) (hok : ∀ g, g ∈ s.chgs → 0 ≤ g.ph ∧ g.ph ≤ 7) (w : World)
    (hs : w.cell? ⟨bs, 3, none⟩ = some (.slice a4 n4 c4)) (hpl : w.cell? ⟨bp, 1, none⟩ = some (.int .i64 (p : Nat))) (hR : Rd 8 encChg w a4 s.chgs) :
    Calls Tryz.prog 84 #[.int .i64 (k : Nat), .pointer (some ⟨bs, 0, none⟩), .pointer (some ⟨bp, 0, none⟩)] w fun e w' => e = .returned (.bool (usesB s p (k : Nat))) ∧ Below w.heap.size w w' := by
  obtain ⟨b, off, g, hA, hbl, hgx, d0, d1, d2, d3, d4, d5, d6, d7⟩ := rdChg_at hR (k := k) (by omega)
  have hph := hok g (List.mem_of_getElem? hgx)
  have hbit := bits_ph (ph := g.ph) (p := p) hph hp
  have HE : Hid (bitP g.ph p = usesB s p (k : Nat)) := Lib.hid (by
    unfold usesB phOf
    rw [Int.toNat_natCast, hgx]
    rfl)
  have hkz : (k : Int) < (n4 : Int) := by omega
  have hpz : ¬ (p : Int) < 0 := by omega
  subst hA
  generalize bitP g.ph p = q at *
  clear hgx hR hok
  go_enter Tryz.func84, Tryz.ntmps84
  go_wp2_with fail
  go_quiet (fail)
  go_wp2_with fail
  go_ret
  exact ⟨ret_bool HE.out, below_drewG _ (Below.refl _ w)⟩
/-- What choose does. -/
def CcPost (w : World) (ys : List Int) (e : Ending) (w' : World) : Prop := ∃ v, e = .returned v ∧ OwnL w' w.heap.size v ys ∧ Below w.heap.size w w'
theorem filter_snoc {α : Type} {f : α → Bool} {xs : List α} {k : Nat} {x : α} (h : xs[k]? = some x) : (xs.take (k + 1)).filter f = (xs.take k).filter f ++ (if f x = true then [x] else []) := by
  rw [take_snoc h, List.filter_append]
  cases hf : f x <;> simp [hf]
set_option maxRecDepth 100000 in
set_option maxHeartbeats 4000000 in
theorem limChoose_any (bs bp : Nat) (a4 : Option Addr) (n4 c4 : Nat) (s : GSite) (p : Nat) (hp : p < 3) (hl : s.chgs.length = n4) (hn4 : n4 ≤ 1000000) (HOK : Hid (∀ g, g ∈ s.chgs → 0 ≤ g.ph ∧ g.ph ≤ 7)) (A : Option Addr) (n c : Nat) (xs : List Int) (w : World) (HX : Hid (Rd 1 encI w A xs)) (HN : Hid (xs.length = n)) (hn : n ≤ 100000) (HIN : Hid (∀ i, i < n → 0 ≤ fI xs i ∧ fI xs i < n4))
    (hs : w.cell? ⟨bs, 3, none⟩ = some (.slice a4 n4 c4)) (hpl : w.cell? ⟨bp, 1, none⟩ = some (.int .i64 (p : Nat))) (HR : Hid (Rd 8 encChg w a4 s.chgs)) :
    Calls Tryz.prog 83 #[.slice A n c, .func (.func 84) #[] #[.pointer (some ⟨bs, 0, none⟩), .pointer (some ⟨bp, 0, none⟩)]] w fun e w' => CcPost w (xs.filter (usesB s p)) e w' := by
  have HS := Lib.hid hs
  have HP := Lib.hid hpl
  have HL := Lib.hid hl
  have lbs := World.block_lt_of_cell? w _ hs
  have lbp := World.block_lt_of_cell? w _ hpl
  dsimp only at lbs lbp
  clear hs hpl hl
  go_enter Tryz.func83, Tryz.ntmps83
  go_wp2_with fail
  go_loopg [5, 10] n (fun g1 v5 v10 wr => ∃ k : Nat, v10 = .int .i64 k ∧ k ≤ n ∧ n - k ≤ g1 ∧ Hid (OwnL wr w.heap.size v5 ((xs.take k).filter (usesB s p))) ∧ Hid (Below w.heap.size w wr))
  case atStart => exact ⟨0, by go_num, by omega, by omega, Lib.hid (OwnL.nil _ _), Lib.hid (Below.refl _ _)⟩
  case round =>
    obtain ⟨k, rfl, hk, hg1, HL5, HB⟩ := hrel
    by_cases hlt : k < n
    · have hltz : (k : Int) < (n : Int) := by omega
      obtain ⟨b, off, hA, hb, hc⟩ := HX.out.int (k := k) (by rw [HN.out]; exact hlt)
      have hc' : wr.cell? ⟨b, off + k, none⟩ = some (.int .i64 (fI xs k)) := (HB.out.cell (p := ⟨b, off + k, none⟩) hb).trans hc
      have hbs' := (HB.out.cell (p := ⟨bs, 3, none⟩) lbs).trans HS.out
      have hbp' := (HB.out.cell (p := ⟨bp, 1, none⟩) lbp).trans HP.out
      have hx := HIN.out k hlt
      obtain ⟨x, hxx⟩ : ∃ x : Nat, fI xs k = (x : Int) := ⟨(fI xs k).toNat, by omega⟩
      have hxk : xs[k]? = some (x : Int) := by
        have h := List.getElem?_eq_getElem (l := xs) (i := k) (by rw [HN.out]; exact hlt)
        rw [h]
        unfold fI at hxx
        rw [h] at hxx
        simpa using hxx
      have HF := Lib.hid (filter_snoc (f := usesB s p) hxk)
      have HC := Lib.hid (limRows1_any bs bp a4 n4 c4 s x p hp (by omega) HL.out hn4 HOK.out wr hbs' hbp' (HR.out.keep HB.out))
      have hll : ((xs.take k).filter (usesB s p)).length ≤ 1000000 := by
        have h1 := List.length_filter_le (usesB s p) (xs.take k)
        rw [List.length_take] at h1
        omega
      have hwr : w.heap.size ≤ wr.heap.size := HB.out.size
      rw [hxx] at hc'
      subst hA
      clear hc hx hxx hxk hbs' hbp'
      go_wp2_with fail
      refine HC.out.mono ?_
      rintro e w3 ⟨rfl, hb3⟩
      have HL3 := Lib.hid (HL5.out.keep hb3)
      have HB3 := Lib.hid (below_then HB.out hb3)
      have hw3 : w.heap.size ≤ w3.heap.size := HB3.out.size
      clear HC HL5 HB hb3
      cases hu : usesB s p (x : Int)
      · have HLK : Hid (OwnL w3 w.heap.size u5 ((xs.take (k + 1)).filter (usesB s p))) := Lib.hid (by rw [HF.out, hu]; simpa using HL3.out)
        clear hu HL3 HF
        go_wp2_with fail
        go_roundg (n - (k + 1))
        case measure => omega
        case rel => exact ⟨k + 1, by go_num, by omega, by omega, HLK, HB3⟩
      · obtain ⟨ap, v', w4, ap1, ap2, ap3, ap4, ap5⟩ := app_int ((x : Nat) : Int) HL3.out hw3 hll
        have HLK : Hid (OwnL w4 w.heap.size v' ((xs.take (k + 1)).filter (usesB s p))) := Lib.hid (by rw [HF.out, hu, if_pos rfl]; exact ap3)
        have HB4 : Hid (Below w.heap.size w w4) := Lib.hid (HB3.out.trans (OwnL.below HL3.out ap4 hw3))
        obtain ⟨a', c', hv'⟩ := ap3.shape
        obtain ⟨L, hL⟩ : ∃ L, L = ((xs.take k).filter (usesB s p) ++ [(x : Int)]).length := ⟨_, rfl⟩
        rw [← hL] at hv'
        clear hu HL3 ap3 ap4 ap5 HB3 hL HF
        subst hv'
        go_wp2_with fail
        go_roundg (n - (k + 1))
        case measure => omega
        case rel => exact ⟨k + 1, by go_num, by omega, by omega, HLK, HB4⟩
    · have hltz : ¬ (k : Int) < (n : Int) := by omega
      have hkn : k = n := by omega
      have HT : Hid (xs.take k = xs) := Lib.hid (by rw [hkn, ← HN.out, List.take_length])
      clear hkn
      go_wp2_with fail
      go_ret
      exact ⟨_, rfl, by rw [← HT.out]; exact HL5.out, HB.out⟩
end Go.Proofs.YtkbbapefgifagaaGreatDoor
/-
Rows: what holds between two phases.
-/
namespace Go.Proofs.YtkbbapefgifagaaGreatDoor
open Go.RowKit
set_option linter.unusedVariables false
set_option linter.unusedSimpArgs false
structure RwM (w W : World) (a1 : Option Addr) (n1 c1 : Nat) (a2 : Option Addr) (n2 c2 : Nat) (a3 : Option Addr) (n3 c3 : Nat) (a4 : Option Addr) (n4 c4 : Nat) (a5 : Option Addr) (n5 c5 : Nat) (R : Nat) (v : Value) (hs : List RowH) (rs : List GRow) (ys : List Int) : Prop where
  k0 : W.cell? ⟨w.heap.size, 0, none⟩ = some (.slice a1 n1 c1)
  k1 : W.cell? ⟨w.heap.size, 1, none⟩ = some (.slice a2 n2 c2)
  k2 : W.cell? ⟨w.heap.size, 2, none⟩ = some (.slice a3 n3 c3)
  k3 : W.cell? ⟨w.heap.size, 3, none⟩ = some (.slice a4 n4 c4)
  k4 : W.cell? ⟨w.heap.size, 4, none⟩ = some (.slice a5 n5 c5)
  orr : Own W R 133 1 (fun _ => v)
  ob : ∃ ab cb, Own W (R + 1) 30 1 (fun _ => .slice ab ys.length cb) ∧ Rd 1 encI W ab ys ∧ (0 < ys.length → ∀ x, ab = some x → x.block < W.heap.size ∧ v.ownBlock ≠ some x.block ∧ x.block ≠ R ∧ x.block ≠ R + 1)
  rw : RwL W (R + 2) v hs rs
  hm : ∀ (k : Nat) (x : RowH), hs[k]? = some x → ∀ a, x.2.1 = some a → R + 2 ≤ a.block
  bel : Below w.heap.size w W
  lR : w.heap.size < R
section
variable {w W W' : World} {a1 : Option Addr} {n1 c1 : Nat} {a2 : Option Addr} {n2 c2 : Nat} {a3 : Option Addr} {n3 c3 : Nat} {a4 : Option Addr} {n4 c4 : Nat} {a5 : Option Addr} {n5 c5 : Nat} {R : Nat} {v : Value} {hs : List RowH} {rs : List GRow} {ys : List Int}
theorem RwM.own_ge (m : RwM w W a1 n1 c1 a2 n2 c2 a3 n3 c3 a4 n4 c4 a5 n5 c5 R v hs rs ys) {q : Nat} (h : v.ownBlock = some q) : R + 2 ≤ q ∧ q < W.heap.size := World.ownsRow.lt m.rw.own q h
theorem RwM.nc (h : RwM w W a1 n1 c1 a2 n2 c2 a3 n3 c3 a4 n4 c4 a5 n5 c5 R v hs rs ys) {B : Nat} (hn : Nc B W W') (hB : w.heap.size ≤ B) : RwM w W' a1 n1 c1 a2 n2 c2 a3 n3 c3 a4 n4 c4 a5 n5 c5 R v hs rs ys :=
  have hsz : W.heap.size ≤ W'.heap.size := by obtain ⟨row, hg, _⟩ := hn; exact hg.size
  ⟨cell_nc1 h.k0 hn, cell_nc1 h.k1 hn, cell_nc1 h.k2 hn, cell_nc1 h.k3 hn, cell_nc1 h.k4 hn, h.orr.nc hn, let ⟨ab, cb, o, r, x⟩ := h.ob; ⟨ab, cb, o.nc hn, r.ncL hn, fun h0 y hy => ⟨Nat.lt_of_lt_of_le (x h0 y hy).1 hsz, (x h0 y hy).2⟩⟩, h.rw.nc hn, h.hm, below_nc h.bel (Nat.le_refl _) hn hB, h.lR⟩
theorem RwM.keep (h : RwM w W a1 n1 c1 a2 n2 c2 a3 n3 c3 a4 n4 c4 a5 n5 c5 R v hs rs ys) (hb : Below W.heap.size W W') : RwM w W' a1 n1 c1 a2 n2 c2 a3 n3 c3 a4 n4 c4 a5 n5 c5 R v hs rs ys :=
  have cl : ∀ {p : Addr} {v : Value}, W.cell? p = some v → W'.cell? p = some v := fun {p v} hp => (hb.cell (World.block_lt_of_cell? W p hp)).trans hp
  ⟨cl h.k0, cl h.k1, cl h.k2, cl h.k3, cl h.k4, h.orr.keep hb h.orr.lt, let ⟨ab, cb, o, r, x⟩ := h.ob; ⟨ab, cb, o.keep hb o.lt, r.keep hb, fun h0 y hy => ⟨Nat.lt_of_lt_of_le (x h0 y hy).1 hb.size, (x h0 y hy).2⟩⟩, h.rw.keep hb, h.hm, below_then h.bel hb, h.lR⟩
theorem RwM.cells (m : RwM w W a1 n1 c1 a2 n2 c2 a3 n3 c3 a4 n4 c4 a5 n5 c5 R v hs rs ys) (q : Nat) (hq : v.ownBlock = some q ∨ q = R ∨ q = R + 1) (o : Obj) (ho : W.heap[q]? = some o) : o.isCells = true := by
  rcases hq with h | h | h
  · rcases m.rw.own.2 with ⟨rfl, _⟩ | ⟨g, cap, cur, rfl, hb, hgg, _⟩
    · cases h
    · cases h
      rw [hgg] at ho
      cases ho
      rfl
  · subst h; exact m.orr.cellsAt ho
  · subst h
    obtain ⟨ab, cb, o', _, _⟩ := m.ob
    exact o'.cellsAt ho
/-- The chargers below are stored. -/
theorem RwM.setBelow (m : RwM w W a1 n1 c1 a2 n2 c2 a3 n3 c3 a4 n4 c4 a5 n5 c5 R v hs rs ys) (ab : Option Addr) (n cb : Nat) (zs : List Int) (hn : n = zs.length) (hr : Rd 1 encI W ab zs) (hf : 0 < zs.length → ∀ x, ab = some x → x.block < W.heap.size ∧ v.ownBlock ≠ some x.block ∧ x.block ≠ R ∧ x.block ≠ R + 1) :
    RwM w (W.setCell ⟨R + 1, 0, none⟩ (.slice ab n cb)) a1 n1 c1 a2 n2 c2 a3 n3 c3 a4 n4 c4 a5 n5 c5 R v hs rs zs := by
  have hm : Mod (fun j => j = R + 1) W (W.setCell ⟨R + 1, 0, none⟩ (.slice ab n cb)) := (Mod.refl (fun j => j = R + 1) W).setCell (p := ⟨R + 1, 0, none⟩) (.inl rfl) _
  have lR := m.lR
  have cl : ∀ {p : Addr} {u : Value}, W.cell? p = some u → p.block ≠ R + 1 → (W.setCell ⟨R + 1, 0, none⟩ (.slice ab n cb)).cell? p = some u := fun {p u} hp hne => (hm.cell (World.block_lt_of_cell? W p hp) hne).trans hp
  refine ⟨cl m.k0 (by show w.heap.size ≠ R + 1; omega), cl m.k1 (by show w.heap.size ≠ R + 1; omega), cl m.k2 (by show w.heap.size ≠ R + 1; omega), cl m.k3 (by show w.heap.size ≠ R + 1; omega), cl m.k4 (by show w.heap.size ≠ R + 1; omega), m.orr.mod hm (by omega), ?_, ?_, m.hm, m.bel.trans (hm.below m.bel.size (fun j _ h => by omega)), m.lR⟩
  · subst hn
    obtain ⟨_, _, o, _, _⟩ := m.ob
    exact ⟨ab, cb, o.set1 _, hr.mod hm (fun a ha h0 => (hf h0 a ha).2.2.2), fun h0 x hx => ⟨Nat.lt_of_lt_of_le (hf h0 x hx).1 hm.size, (hf h0 x hx).2⟩⟩
  · refine m.rw.mod hm (fun k hk => by have := (m.own_ge hk).1; omega) (fun k x hx a ha => by have := m.hm k x hx a ha; omega)
/-- A row is appended and stored. -/
theorem RwM.push (m : RwM w W a1 n1 c1 a2 n2 c2 a3 n3 c3 a4 n4 c4 a5 n5 c5 R v hs rs ys) {w1 : World} {v' : Value} {x : RowH} {r : GRow} (hL : RwL w1 (R + 2) v' (hs ++ [x]) (rs ++ [r])) (hM : Mod (fun j => v.ownBlock = some j) W w1) (hne : ∀ j, j < W.heap.size → v.ownBlock ≠ some j → v'.ownBlock ≠ some j) (hx : ∀ a, x.2.1 = some a → R + 2 ≤ a.block) :
    RwM w (w1.setCell ⟨R, 0, none⟩ v') a1 n1 c1 a2 n2 c2 a3 n3 c3 a4 n4 c4 a5 n5 c5 R v' (hs ++ [x]) (rs ++ [r]) ys ∧ Mod (fun j => v.ownBlock = some j ∨ j = R) W (w1.setCell ⟨R, 0, none⟩ v') := by
  have hm : Mod (fun j => v.ownBlock = some j ∨ j = R) W (w1.setCell ⟨R, 0, none⟩ v') := (hM.mono (fun j _ h => .inl h)).setCell (p := ⟨R, 0, none⟩) (.inl (.inr rfl)) _
  have hm2 : Mod (fun j => j = R) w1 (w1.setCell ⟨R, 0, none⟩ v') := (Mod.refl (fun j => j = R) w1).setCell (p := ⟨R, 0, none⟩) (.inl rfl) _
  have lR := m.lR
  have no : ∀ {b : Nat}, b < R → ¬ (v.ownBlock = some b ∨ b = R) := fun {b} hb h => by
    rcases h with h | h
    · have := (m.own_ge h).1; omega
    · omega
  have cl : ∀ {p : Addr} {u : Value}, W.cell? p = some u → p.block < R → (w1.setCell ⟨R, 0, none⟩ v').cell? p = some u := fun {p u} hp hne => (hm.cell (World.block_lt_of_cell? W p hp) (no hne)).trans hp
  have hmx : ∀ (k : Nat) (y : RowH), (hs ++ [x])[k]? = some y → ∀ a, y.2.1 = some a → R + 2 ≤ a.block := by
    intro k y hy a ha
    rcases Nat.lt_or_ge k hs.length with hk | hk
    · rw [List.getElem?_append_left hk] at hy
      exact m.hm k y hy a ha
    · rw [List.getElem?_append_right hk] at hy
      have hk0 : k - hs.length = 0 := by
        have := (List.getElem?_eq_some_iff.1 hy).1
        simp at this
        omega
      rw [hk0] at hy
      simp at hy
      subst hy
      exact hx a ha
  refine ⟨⟨cl m.k0 lR, cl m.k1 lR, cl m.k2 lR, cl m.k3 lR, cl m.k4 lR, ?_, ?_, ?_, hmx, m.bel.trans (hm.below m.bel.size (fun j _ h => by
    rcases h with h | h
    · have := (m.own_ge h).1; omega
    · omega)), m.lR⟩, hm⟩
  · exact (m.orr.mod hM (fun h => by have := (m.own_ge h).1; omega)).set1 _
  · obtain ⟨ab, cb, o, r, f⟩ := m.ob
    refine ⟨ab, cb, o.mod hm (fun h => by
      rcases h with h | h
      · have := (m.own_ge h).1; omega
      · omega), r.mod hm (fun a ha h0 h => ?_), fun h0 y hy => ⟨Nat.lt_of_lt_of_le (f h0 y hy).1 hm.size, hne _ (f h0 y hy).1 (f h0 y hy).2.1, (f h0 y hy).2.2⟩⟩
    rcases h with h | h
    · exact (f h0 a ha).2.1 h
    · exact (f h0 a ha).2.2.1 h
  · exact hL.mod hm2 (fun k hk => by have := (World.ownsRow.lt hL.own k hk).1; omega) (fun k y hy a ha => by have := hmx k y hy a ha; omega)
end
theorem OwnR.taken {α : Type} {t : TypeId} {sz : Nat} {enc : α → List Value} {B : Nat} {W W' : World} {base : Nat} {v : Value} {xs : List α} (h : OwnR t sz enc W base v xs) (hT : Taken B W W') : OwnR t sz enc W' base v xs := by
  refine ⟨h.1, ?_⟩
  rcases h.2 with x | ⟨g, cap, cur, rfl, hb, hgg, rest⟩
  · exact .inl x
  · exact .inr ⟨g, cap, cur, rfl, hb, hT.2.2.2.2.2 g _ hgg rfl, rest⟩
theorem cell_taken {B : Nat} {W W' : World} (hT : Taken B W W') {p : Addr} {v : Value} (h : W.cell? p = some v) : W'.cell? p = some v := by
  unfold World.cell? at *
  cases hc : W.heap[p.block]? with
  | none => rw [hc] at h; simp at h
  | some o =>
    rw [hc] at h
    cases o with
    | cells cs t => rw [hT.2.2.2.2.2 _ _ hc rfl]; exact h
    | _ => simp at h
theorem Rd.takenL {α : Type} {sz : Nat} {enc : α → List Value} {A : Option Addr} {xs : List α} {B : Nat} {W W' : World} (hr : Rd sz enc W A xs) (hT : Taken B W W') : Rd sz enc W' A xs := by
  intro h0
  obtain ⟨b, off, hA, hlt, hc⟩ := hr h0
  exact ⟨b, off, hA, by rw [hT.2.2.2.1]; exact hlt, fun k x hx j v hv => cell_taken hT (hc k x hx j v hv)⟩
theorem RwL.taken {B : Nat} {W W' : World} {base : Nat} {v : Value} {hs : List RowH} {rs : List GRow} (h : RwL W base v hs rs) (hT : Taken B W W') : RwL W' base v hs rs :=
  ⟨h.own.taken hT, h.len, fun k x r hx hr => by
    obtain ⟨⟨m1, m2, m3⟩, m4⟩ := h.mem k x r hx hr
    exact ⟨⟨m1, m2, m3.takenL hT⟩, fun a ha => ⟨by rw [hT.2.2.2.1]; exact (m4 a ha).1, (m4 a ha).2⟩⟩⟩
theorem RwL.rows {W : World} {base : Nat} {v : Value} {hs : List RowH} {rs : List GRow} (h : RwL W base v hs rs) : ∃ a c, v = .slice a rs.length c ∧ RdRows W a hs rs := by
  obtain ⟨a, c, hv, hr⟩ := h.own.rd encHd_len
  exact ⟨a, c, by rw [hv, h.len], hr, h.len, fun k x r hx hr2 => (h.mem k x r hx hr2).1⟩
end Go.Proofs.YtkbbapefgifagaaGreatDoor
/-
limits.Rows, walked.
-/
namespace Go.Proofs.YtkbbapefgifagaaGreatDoor
open Go.RowKit Go.Shelf
attribute [local go_sem] Oper.semAt_some
set_option linter.unusedVariables false
set_option linter.unusedSimpArgs false
theorem belowL_bd (s : GSite) (co : Int) (m i : Nat) (hi : i < (belowL s co m).length) : 0 ≤ fI (belowL s co m) i ∧ fI (belowL s co m) i < m := by
  have h := List.getElem_mem hi
  unfold fI
  rw [List.getElem?_eq_getElem hi]
  generalize (belowL s co m)[i] = y at *
  unfold belowL at h
  obtain ⟨k, hk, rfl⟩ := List.mem_map.1 h
  have := List.mem_range.1 (List.mem_filter.1 hk).1
  simp
  omega
theorem snoc_range {n : Nat} {pre : List (PlAt n)} {q : List Nat} {t : Nat} (h : q = pre.map (fun (y : PlAt n) => y.1) ++ [t]) (ho : q = List.range (pre.length + 1)) : pre.map (fun (y : PlAt n) => y.1) = List.range pre.length ∧ t = pre.length := by
  rw [h, List.range_succ] at ho
  obtain ⟨h1, h2⟩ := List.append_inj ho (by simp)
  exact ⟨h1, by simpa using h2⟩
theorem mod_then {M : Nat → Prop} {W1 W W' : World} (h : Mod M W1 W) (hb : Below W.heap.size W W') : Mod M W1 W' :=
  ⟨hb.os.trans h.os, hb.tape.trans h.tape, hb.output.trans h.output, Nat.le_trans h.size hb.size, fun i hi hn => (hb.block i (Nat.lt_of_lt_of_le hi h.size)).trans (h.block i hi hn)⟩
theorem ownL_fresh {w : World} {base : Nat} {a : Option Addr} {n c : Nat} {xs : List Int} (h : OwnL w base (.slice a n c) xs) : ∀ x, a = some x → base ≤ x.block ∧ x.block < w.heap.size := by
  intro x hx
  rcases h.2 with ⟨h1, _⟩ | ⟨g, cap, cur, h1, hb, hg, _⟩
  · rw [hx] at h1; cases h1
  · rw [hx] at h1
    injection h1 with h1
    injection h1 with h1
    rw [h1]
    exact ⟨hb, (Array.getElem?_eq_some_iff.1 hg).1⟩
theorem cells14 {W W' : World} (hb : Below W.heap.size W W') {p0 p1 p2 p3 p4 p5 p6 p7 p8 p9 p10 p11 p12 p13 : Addr} {v0 v1 v2 v3 v4 v5 v6 v7 v8 v9 v10 v11 v12 v13 : Value} (h : W.cell? p0 = some v0 ∧ W.cell? p1 = some v1 ∧ W.cell? p2 = some v2 ∧ W.cell? p3 = some v3 ∧ W.cell? p4 = some v4 ∧ W.cell? p5 = some v5 ∧ W.cell? p6 = some v6 ∧ W.cell? p7 = some v7 ∧ W.cell? p8 = some v8 ∧ W.cell? p9 = some v9 ∧ W.cell? p10 = some v10 ∧ W.cell? p11 = some v11 ∧ W.cell? p12 = some v12 ∧ W.cell? p13 = some v13) : W'.cell? p0 = some v0 ∧ W'.cell? p1 = some v1 ∧ W'.cell? p2 = some v2 ∧ W'.cell? p3 = some v3 ∧ W'.cell? p4 = some v4 ∧ W'.cell? p5 = some v5 ∧ W'.cell? p6 = some v6 ∧ W'.cell? p7 = some v7 ∧ W'.cell? p8 = some v8 ∧ W'.cell? p9 = some v9 ∧ W'.cell? p10 = some v10 ∧ W'.cell? p11 = some v11 ∧ W'.cell? p12 = some v12 ∧ W'.cell? p13 = some v13 := by
  have cl : ∀ {p : Addr} {v : Value}, W.cell? p = some v → W'.cell? p = some v := fun {p v} hp => (hb.cell (World.block_lt_of_cell? W p hp)).trans hp
  obtain ⟨h0, h1, h2, h3, h4, h5, h6, h7, h8, h9, h10, h11, h12, h13⟩ := h
  exact ⟨cl h0, cl h1, cl h2, cl h3, cl h4, cl h5, cl h6, cl h7, cl h8, cl h9, cl h10, cl h11, cl h12, cl h13⟩
def plF (c p : Int) (i : Nat) : Value := if i = 0 then .int .i64 c else .int .i64 p
theorem Own.place (w : World) (c p : Int) : Own (w.alloc (.cells #[.int .i64 c, .int .i64 p] 160)) w.heap.size 160 2 (plF c p) := by
  refine (Own.new w 160 #[.int .i64 c, .int .i64 p] undef).congr (fun i hi => ?_)
  have hi' : i < 2 := hi
  rcases i with _ | _ | i
  all_goals first | rfl | omega
theorem row_place {W : World} {base X : Nat} {v : Value} {hs : List RowH} {f : Nat → Value} (h : OwnR 165 2 encHd W base v hs) (ho : Own W X 160 2 f) : v.ownBlock ≠ some X := by
  intro e
  rcases h.2 with ⟨rfl, _⟩ | ⟨g, cap, cur, rfl, hb, hgg, _⟩
  · cases e
  · cases e
    obtain ⟨cs, hg2, _⟩ := ho
    rw [hgg] at hg2
    injection hg2 with hg2
    injection hg2 with _ h2
    exact absurd h2 (by decide)
/-- The frame in which the body begins. -/
def LrA (w : World) (R : Nat) (n1 : Nat) (x : PlAt n1) (a' : Act) (W : World) : Prop := ∃ X u0 u2 u3 u7 u8 u9 u10 u11 u12 u13 u14 u15 u16 u17 u18 u19 u20 u21 u22 u23 u24 u25 u26 u27 u28 u29 u30 u31 u32 u33 u34 u35 u36 u37 u38 u39 u40 u41 u42, a' = ⟨List.toArray (u0 :: (.pointer (some ⟨w.heap.size, 0, none⟩)) :: u2 :: u3 :: (.pointer (some ⟨R, 0, none⟩)) :: (.pointer (some ⟨R + 1, 0, none⟩)) :: (.pointer (some ⟨X, 0, none⟩)) :: u7 :: u8 :: u9 :: u10 :: u11 :: u12 :: u13 :: u14 :: u15 :: u16 :: u17 :: u18 :: u19 :: u20 :: u21 :: u22 :: u23 :: u24 :: u25 :: u26 :: u27 :: u28 :: u29 :: u30 :: u31 :: u32 :: u33 :: u34 :: u35 :: u36 :: u37 :: u38 :: u39 :: u40 :: u41 :: u42 :: []), []⟩ ∧ Own W X 160 2 (plF ((x.1 / 3 : Nat) : Int) ((x.1 % 3 : Nat) : Int)) ∧ R + 1 < X
/-- What holds between two rounds. -/
def RwI (w : World) (a1 : Option Addr) (n1 c1 : Nat) (a2 : Option Addr) (n2 c2 : Nat) (a3 : Option Addr) (n3 c3 : Nat) (a4 : Option Addr) (n4 c4 : Nat) (a5 : Option Addr) (n5 c5 : Nat) (R : Nat) (s : GSite) (pre : List (PlAt n1)) (W : World) : Prop :=
  ∃ v hs rs ys, Hid (rs.length ≤ pre.length ∧ ys.length ≤ 16 ∧ ∀ i, i < ys.length → 0 ≤ fI ys i ∧ fI ys i < (n4 : Nat)) ∧ Hid (pre.map (fun (y : PlAt n1) => y.1) = List.range pre.length → rs = rowsL s pre.length ∧ (pre.length % 3 ≠ 0 → ys = belowL s ((pre.length / 3 : Nat) : Int) s.chgs.length)) ∧ RwM w W a1 n1 c1 a2 n2 c2 a3 n3 c3 a4 n4 c4 a5 n5 c5 R v hs rs ys
set_option maxRecDepth 100000 in
set_option maxHeartbeats 16000000 in
theorem limRows_any (a1 a2 a3 a4 a5 : Option Addr) (n1 c1 n2 c2 n3 c3 n4 c4 n5 c5 : Nat) (s : GSite) (w : World) (HS : Hid (RdSite w a1 a2 a3 a4 a5 n1 n2 n3 n4 n5 s)) :
    Calls Tryz.prog 61 #[.agg #[.slice a1 n1 c1, .slice a2 n2 c2, .slice a3 n3 c3, .slice a4 n4 c4, .slice a5 n5 c5]] w fun e w' => RwPost w s e w' := by
  obtain ⟨m1, m2, m3, m4, m5⟩ : n1 ≤ 9223372036854775807 ∧ n2 ≤ 9223372036854775807 ∧ n3 ≤ 9223372036854775807 ∧ n4 ≤ 9223372036854775807 ∧ n5 ≤ 9223372036854775807 := ⟨HS.out.m1, HS.out.m2, HS.out.m3, HS.out.m4, HS.out.m5⟩
  have hW0 : Below w.heap.size w (w.alloc (.cells #[.slice a1 n1 c1, .slice a2 n2 c2, .slice a3 n3 c3, .slice a4 n4 c4, .slice a5 n5 c5] 39)) := (Below.refl _ w).alloc (Nat.le_refl _) _
  have HV := Lib.hid (stValid_any a1 a2 a3 a4 a5 n1 c1 n2 c2 n3 c3 n4 c4 n5 c5 s (w.alloc (.cells #[.slice a1 n1 c1, .slice a2 n2 c2, .slice a3 n3 c3, .slice a4 n4 c4, .slice a5 n5 c5] 39)) (Lib.hid (HS.out.keep hW0)))
  refine (callsIn_wide (n := 5)).1 ?_
  refine callsIn_of_wp_marks Tryz.func61 rfl trivial ?_ rfl
  refine wpIn_wide.2 ?_
  simp only [Tryz.ntmps61, List.size_toArray, List.length_cons, List.length_nil, Nat.reduceAdd, Nat.reduceSub, Array.replicate_succ, Array.replicate_zero, List.push_toArray, List.append_toArray, List.nil_append, List.cons_append]
  go_wp2_with fail
  refine HV.out.mono ?_
  rintro e w1 ⟨rfl, hb1⟩
  have hb : Below w.heap.size w w1 := below_then hW0 hb1
  have hs1 : w.heap.size + 1 ≤ w1.heap.size := by have := hb1.size; rw [World.size_alloc] at this; exact this
  have q0 : w1.cell? ⟨w.heap.size, 0, none⟩ = some (.slice a1 n1 c1) := (hb1.cell (p := ⟨w.heap.size, 0, none⟩) (by simp)).trans (by go_simp)
  have q1 : w1.cell? ⟨w.heap.size, 1, none⟩ = some (.slice a2 n2 c2) := (hb1.cell (p := ⟨w.heap.size, 1, none⟩) (by simp)).trans (by go_simp)
  have q2 : w1.cell? ⟨w.heap.size, 2, none⟩ = some (.slice a3 n3 c3) := (hb1.cell (p := ⟨w.heap.size, 2, none⟩) (by simp)).trans (by go_simp)
  have q3 : w1.cell? ⟨w.heap.size, 3, none⟩ = some (.slice a4 n4 c4) := (hb1.cell (p := ⟨w.heap.size, 3, none⟩) (by simp)).trans (by go_simp)
  have q4 : w1.cell? ⟨w.heap.size, 4, none⟩ = some (.slice a5 n5 c5) := (hb1.cell (p := ⟨w.heap.size, 4, none⟩) (by simp)).trans (by go_simp)
  have HB := Lib.hid hb
  clear hb hb1 HV hW0
  cases hok : okSB keyL s
  · have HN : Hid (okSB keyL s = false) := Lib.hid hok
    go_wp2_with fail
    refine leaves_marks (B := w.heap.size) [] _ (Marks.nil _ _) (fun W3 hT => ⟨_, results_tmp2 (t := 2) (u := 3) (by kernel_rfl) _ _ _, none, 0, [], by rw [HN.out, rowsO_no HN.out]; rfl, by rw [rowsO_no HN.out]; exact RdRows.nil _, HB.out.trans (taken_below1 hT (Nat.le_refl _))⟩)
  have HY : Hid (okSB keyL s = true) := Lib.hid hok
  have HOK := Lib.hid (okSB_iff.1 hok)
  have hcl : s.cons.length = n1 := HS.out.l1
  have hn16 : n1 ≤ 16 := by have := HOK.out.n2; omega
  have hn4m : n4 ≤ 1000000 := by have := HOK.out.n5; have := HS.out.l4; omega
  have HCL := Lib.hid hcl
  have HL4 : Hid (s.chgs.length = n4) := Lib.hid HS.out.l4
  have HR4 := Lib.hid HS.out.r4
  have HPH : Hid (∀ g, g ∈ s.chgs → 0 ≤ g.ph ∧ g.ph ≤ 7) := Lib.hid (fun g hg => by
    have h1 := HOK.out.chg g hg
    unfold okChg at h1
    simp only [decide_eq_true_eq] at h1
    have := h1.2.2.1
    omega)
  clear hok hcl
  have l0 : w.heap.size < w1.heap.size := by omega
  go_wp2_with fail
  obtain ⟨w2, hw2⟩ : ∃ w2, w2 = (w1.alloc (.cells #[.slice none 0 0] 133)).alloc (.cells #[.slice none 0 0] 30) := ⟨_, rfl⟩
  have b2 : Below w1.heap.size w1 w2 := by rw [hw2]; exact ((Below.refl _ w1).alloc (Nat.le_refl _) _).alloc (by simp) _
  have hz2 : w2.heap.size = w1.heap.size + 2 := by rw [hw2]; simp
  have o1 : Own w2 w1.heap.size 133 1 (fun _ => .slice none 0 0) := by rw [hw2]; exact (Own.one _ _ _).alloc _
  have o2 : Own w2 (w1.heap.size + 1) 30 1 (fun _ => .slice none 0 0) := by
    have h := Own.one (w1.alloc (.cells #[.slice none 0 0] 133)) 30 (.slice none 0 0)
    rw [World.size_alloc] at h
    rw [hw2]; exact h
  have HM2 : Hid (RwM w w2 a1 n1 c1 a2 n2 c2 a3 n3 c3 a4 n4 c4 a5 n5 c5 w1.heap.size (.slice none 0 0) [] [] []) := Lib.hid
    ⟨(b2.cell (p := ⟨w.heap.size, 0, none⟩) (by dsimp only; omega)).trans q0, (b2.cell (p := ⟨w.heap.size, 1, none⟩) (by dsimp only; omega)).trans q1, (b2.cell (p := ⟨w.heap.size, 2, none⟩) (by dsimp only; omega)).trans q2, (b2.cell (p := ⟨w.heap.size, 3, none⟩) (by dsimp only; omega)).trans q3, (b2.cell (p := ⟨w.heap.size, 4, none⟩) (by dsimp only; omega)).trans q4, o1, ⟨none, 0, o2, Rd.nil, fun h => absurd h (by simp)⟩, RwL.nil _ _, fun k x hx => by simp at hx, below_then HB.out b2, l0⟩
  rw [← hw2]
  clear hw2
  refine (limPlaces_any a1 a2 a3 a4 a5 n1 c1 n2 c2 n3 c3 n4 c4 n5 c5 w2).mono ?_
  rintro e w3 ⟨rfl, hw3⟩
  have b3 : Below w2.heap.size w2 w3 := by rw [hw3]; exact (Below.refl _ w2).alloc (Nat.le_refl _) _
  have z1 : w3.cell? ⟨w2.heap.size, 0, none⟩ = some (.slice a1 n1 c1) := by rw [hw3]; go_simp
  have HM3 := Lib.hid (HM2.out.keep b3)
  have hws : w.heap.size ≤ w3.heap.size := HM3.out.bel.size
  obtain ⟨R, hR⟩ : ∃ R, R = w1.heap.size := ⟨_, rfl⟩
  rw [← hR] at HM3 ⊢
  have HRR : Hid (w.heap.size < R ∧ R + 2 ≤ w3.heap.size) := Lib.hid ⟨by omega, by have := b3.size; omega⟩
  clear hw3 b2 b3 HM2 q0 q1 q2 q3 q4 o1 o2 hR l0 hz2 hs1
  go_wp2_with fail
  refine range_places (by omega) (g := .tmp 12) (p := 13) w2.heap.size w.heap.size rfl z1 hws (fun pre W' => RwI w a1 n1 c1 a2 n2 c2 a3 n3 c3 a4 n4 c4 a5 n5 c5 R s pre W') (fun _ _ _ => False) ?hI (fun _ _ _ _ h _ => h) ?h0 (fun x a' W' => LrA w R n1 x a' W') ?hAx ?assign ?body ?done (fun _ _ _ _ _ _ h _ => h.elim)
  case hI =>
    rintro pre W W' ⟨v, hs, rs, ys, h1, h2, h3⟩ hn
    exact ⟨v, hs, rs, ys, h1, h2, h3.nc hn hws⟩
  case h0 => exact ⟨_, [], [], [], Lib.hid ⟨by simp, by simp, fun i hi => absurd hi (by simp)⟩, Lib.hid (fun _ => ⟨rfl, fun h => absurd rfl h⟩), HM3.out⟩
  case hAx =>
    rintro x a' W W' ⟨X, u0, u2, u3, u7, u8, u9, u10, u11, u12, u13, u14, u15, u16, u17, u18, u19, u20, u21, u22, u23, u24, u25, u26, u27, u28, u29, u30, u31, u32, u33, u34, u35, u36, u37, u38, u39, u40, u41, u42, rfl, x0, x2⟩ hn
    exact ⟨X, _, _, _, _, _, _, _, _, _, _, _, _, _, _, _, _, _, _, _, _, _, _, _, _, _, _, _, _, _, _, _, _, _, _, _, _, _, _, _, rfl, x0.nc hn, x2⟩
  case assign =>
    intro l pre x W1 K hi hK
    have HI := Lib.hid hi
    have HKK := Lib.hid hK
    clear hi hK
    gi_wp2
    obtain ⟨v, hs, rs, ys, h1, h2, h3⟩ := HI.out
    have hlR : R + 1 < W1.heap.size := by obtain ⟨_, _, o, _, _⟩ := h3.ob; exact o.lt
    refine HKK.out _ _ (keepsFrom_alloc _ _ _) ((Below.refl _ W1).alloc h3.bel.size _) ⟨v, hs, rs, ys, h1, h2, h3.keep ((Below.refl _ W1).alloc (Nat.le_refl _) _)⟩ ?_
    exact ⟨_, _, _, _, _, _, _, _, _, _, _, _, _, _, _, _, _, _, _, _, _, _, _, _, _, _, _, _, _, _, _, _, _, _, _, _, _, _, _, _, rfl, Own.place _ _ _, hlR⟩
  case body =>
    rintro l pre ⟨t, ht⟩ a' W1 ⟨v, hs, rs, ys, Hbd, Hord, m⟩ ⟨X, u0, u2, u3, u7, u8, u9, u10, u11, u12, u13, u14, u15, u16, u17, u18, u19, u20, u21, u22, u23, u24, u25, u26, u27, u28, u29, u30, u31, u32, u33, u34, u35, u36, u37, u38, u39, u40, u41, u42, rfl, ox, hX⟩ hlen
    have x0 : W1.cell? ⟨X, 0, none⟩ = some (.int .i64 ((t / 3 : Nat) : Int)) := ox.cell (i := 0) (by omega)
    have x1 : W1.cell? ⟨X, 1, none⟩ = some (.int .i64 ((t % 3 : Nat) : Int)) := ox.cell (i := 1) (by omega)
    have HXN : Hid (¬ (v.ownBlock = some X ∨ X = R ∨ X = R + 1)) := Lib.hid (fun h => by
      rcases h with h | h | h
      · exact row_place m.rw.own ox h
      · omega
      · omega)
    clear ox
    try dsimp only at hlen ⊢
    have hcl : s.cons.length = n1 := HCL.out
    have hcb : t / 3 < n1 := by have : t < n1 * 3 := ht; omega
    have hpb : t % 3 < 3 := by omega
    obtain ⟨b, off, g, hA, hbl, hgx, d0, d1, d2, d3, d4, d5, d6, d7, d8, d9, d10⟩ := rdCon_at HS.out.r1 (k := t / 3) (by rw [hcl]; exact hcb)
    have HLIM : Hid (limAt s (t / 3) = limV g) := Lib.hid (by unfold limAt; rw [hgx]; rfl)
    have HOC := Lib.hid (HOK.out.okC hgx)
    have HBD := Lib.hid Hbd.out.1
    have HYB := Lib.hid Hbd.out.2
    have HORD := Lib.hid Hord.out
    have HPL : Hid (pre.length ≤ 48) := Lib.hid (by omega)
    have HSN : Hid ((pre ++ [(⟨t, ht⟩ : PlAt n1)]).map (fun (y : PlAt n1) => y.1) = pre.map (fun (y : PlAt n1) => y.1) ++ [t]) := Lib.hid (by rw [List.map_append]; rfl)
    have HM := Lib.hid m
    have HSW := Lib.hid m.bel.size
    have HCE := Lib.hid m.cells
    have HGE : Hid (∀ j, (v.ownBlock = some j ∨ j = R ∨ j = R + 1) → w.heap.size ≤ j) := Lib.hid (fun j h => by
      have hr := HRR.out.1
      rcases h with h | h | h
      · have := (HM.out.own_ge h).1; omega
      · omega
      · omega)
    have k0 := m.k0
    have k1 := m.k1
    have k2 := m.k2
    have k3 := m.k3
    have k4 := m.k4
    clear m Hbd Hord hgx hcl
    subst hA
    obtain ⟨c, hc⟩ : ∃ c, c = t / 3 := ⟨_, rfl⟩
    obtain ⟨p, hp⟩ : ∃ p, p = t % 3 := ⟨_, rfl⟩
    rw [← hc] at x0 hcb d0 d1 d2 d3 d4 d5 d6 d7 d8 d9 d10
    rw [← hp] at x1 hpb
    have HC := Lib.hid hc
    have HP := Lib.hid hp
    have hcz : (c : Int) < (n1 : Int) := by omega
    clear hc hp
    have lX := zb x0
    dsimp only at lX
    by_cases hp0 : p = 0
    · have hpd : decide ((p : Int) = 0) = true := by rw [hp0]; rfl
      have hpe : ((p : Int) == 0) = true := by rw [hp0]; rfl
      clear hp0
      gi_wp2
      have HBE := Lib.hid (trBelow_fresh (some ⟨b, off, none⟩) a2 a3 a4 a5 n1 c1 n2 c2 n3 c3 n4 c4 n5 c5 s (c : Int) W1 (Lib.hid (HS.out.keep HM.out.bel)))
      refine ⟨trivial, CallsIn.inRound l (callsIn_wide.2 (HBE.out.mono ?_))⟩
      rintro e w' ⟨abz, cbz, rfl, hrb, hbb, hfr⟩
      have HMw := Lib.hid (HM.out.keep hbb)
      obtain ⟨zs, hzs⟩ : ∃ zs, zs = belowO s (c : Int) := ⟨_, rfl⟩
      rw [← hzs] at hrb
      have hokc : okCo s (c : Int) = true := okCo_yes HY.out ⟨by omega, by rw [HCL.out]; omega⟩
      have HZE : Hid (zs = belowL s ((t / 3 : Nat) : Int) s.chgs.length) := Lib.hid (by rw [hzs, belowO_yes hokc, HC.out])
      have HZB : Hid (zs.length ≤ 16 ∧ ∀ i, i < zs.length → 0 ≤ fI zs i ∧ fI zs i < (n4 : Nat)) := Lib.hid (by
        rw [HZE.out]
        refine ⟨?_, fun i hi => ?_⟩
        · have h1 := belowL_len s ((t / 3 : Nat) : Int) s.chgs.length
          have h2 := HOK.out.n5
          omega
        · have h1 := belowL_bd s ((t / 3 : Nat) : Int) s.chgs.length i hi
          exact ⟨h1.1, by rw [← HL4.out]; exact h1.2⟩)
      have HZ : Hid (pre.map (fun (y : PlAt n1) => y.1) = List.range pre.length → t = pre.length → zs = belowL s ((t / 3 : Nat) : Int) s.chgs.length) := Lib.hid (fun _ _ => HZE.out)
      rw [hokc]
      obtain ⟨nb, hnb⟩ : ∃ nb, nb = zs.length := ⟨_, rfl⟩
      have HNB : Hid (zs.length = nb) := Lib.hid hnb.symm
      rw [← hzs, ← hnb]
      obtain ⟨ab0, cb0, oc0, _, _⟩ := HMw.out.ob
      have c50 := oc0.cell (i := 0) (by omega)
      have f50 := oc0.frozen 0
      have HMc := Lib.hid (HMw.out.setBelow abz nb cbz zs hnb hrb (fun h0 x hx => by
        obtain ⟨b', off', hA', hlt', _⟩ := hrb h0
        have h1 : W1.heap.size ≤ b' := hfr ⟨b', off', none⟩ hA'
        rw [hA'] at hx
        cases hx
        have h2 := HRR.out
        obtain ⟨_, _, o', _, _⟩ := HM.out.ob
        have h3 := o'.lt
        refine ⟨hlt', fun e => ?_, ?_, ?_⟩
        · have := (HM.out.own_ge e).2
          dsimp only at this
          omega
        · dsimp only; omega
        · dsimp only; omega))
      have hd0 : Mod (fun j => v.ownBlock = some j ∨ j = R ∨ j = R + 1) W1 (w'.setCell ⟨R + 1, 0, none⟩ (.slice abz nb cbz)) := (mod_then (Mod.refl _ W1) hbb).setCell (p := ⟨R + 1, 0, none⟩) (.inl (.inr (.inr rfl))) _
      have HD := Lib.hid hd0
      have HRZ : Hid (Rd 1 encI (w'.setCell ⟨R + 1, 0, none⟩ (.slice abz nb cbz)) abz zs) := Lib.hid (by
        obtain ⟨ab1, cb1, o1, r1, _⟩ := HMc.out.ob
        have h1 := o1.cell (i := 0) (by omega)
        have h2 := World.cell?_setCell_same w' ⟨R + 1, 0, none⟩ (.slice abz nb cbz) c50
        rw [h2] at h1
        injection h1 with h1
        injection h1 with h1 _ _
        subst h1
        exact r1)
      have HVCc : Hid (∀ q, v.ownBlock = some q → q < (w'.setCell ⟨R + 1, 0, none⟩ (.slice abz nb cbz)).heap.size) := Lib.hid (fun q hq => (HMc.out.own_ge hq).2)
      have HOBc : Hid (R + 2 ≤ (w'.setCell ⟨R + 1, 0, none⟩ (.slice abz nb cbz)).heap.size) := Lib.hid (by obtain ⟨_, _, o, _, _⟩ := HMc.out.ob; have := o.lt; omega)
      have xc0 : (w'.setCell ⟨R + 1, 0, none⟩ (.slice abz nb cbz)).cell? ⟨X, 0, none⟩ = some (.int .i64 (c : Nat)) := (hd0.cell (p := ⟨X, 0, none⟩) lX (by have := HXN.out; exact this)).trans x0
      have xc1 : (w'.setCell ⟨R + 1, 0, none⟩ (.slice abz nb cbz)).cell? ⟨X, 1, none⟩ = some (.int .i64 (p : Nat)) := (hd0.cell (p := ⟨X, 1, none⟩) lX (by have := HXN.out; exact this)).trans x1
      clear hrb hbb hfr hzs hokc hnb oc0 hd0 HMw HBE x0 x1 k0 k1 k2 k3 k4
      gi_wp2
      generalize w'.setCell ⟨R + 1, 0, none⟩ (.slice abz nb cbz) = Wc at *
      clear c50 f50 hpd hpe
      have kk3 := HMc.out.k3
      refine ⟨trivial, CallsIn.inRound l (callsIn_wide.2 ((limChoose_any w.heap.size X a4 n4 c4 s p hpb HL4.out hn4m HPH abz nb cbz zs Wc HRZ HNB (by have := HZB.out.1; have := HNB.out; omega) (Lib.hid (fun i hi => HZB.out.2 i (by rw [HNB.out]; exact hi))) kk3 xc1 (Lib.hid (HR4.out.keep HMc.out.bel))).mono ?_))⟩
      rintro e W2 ⟨v7, rfl, hL7, hb2⟩
      obtain ⟨a7, c7, hv7⟩ := hL7.shape
      obtain ⟨ms, hms⟩ : ∃ ms, ms = zs.filter (usesB s p) := ⟨_, rfl⟩
      rw [← hms] at hv7 hL7
      have HMS := Lib.hid hms
      obtain ⟨n7, hn7⟩ : ∃ n7, n7 = ms.length := ⟨_, rfl⟩
      rw [← hn7] at hv7
      have HN7 := Lib.hid hn7
      subst hv7
      have HL7 := Lib.hid hL7
      have HM2 := Lib.hid (HMc.out.keep hb2)
      have HD2 := Lib.hid (mod_then HD.out hb2)
      have xd0 := (hb2.cell (p := ⟨X, 0, none⟩) (zb xc0)).trans xc0
      have HWc := Lib.hid hb2.size
      clear kk3 xc0 xc1 hL7 hb2 hms hn7 HMc HD
      by_cases hz7 : n7 = 0
      · have hz7z : ¬ (0 : Int) < (n7 : Int) := by omega
        have HP2 : Hid (KeepsFrom w3.heap.size W1 W2 ∧ Below w.heap.size W1 W2 ∧ RwI w (some ⟨b, off, none⟩) n1 c1 a2 n2 c2 a3 n3 c3 a4 n4 c4 a5 n5 c5 R s (pre ++ [(⟨t, ht⟩ : PlAt n1)]) W2) := Lib.hid (by
          refine ⟨keepsFrom_mod1 HD2.out _ HCE.out, HD2.out.below HSW.out (fun j _ h => HGE.out j h), v, hs, rs, zs, Lib.hid ⟨?_, HZB.out⟩, Lib.hid (fun ho => ?_), HM2.out⟩
          · have := HBD.out; rw [List.length_append]; exact Nat.le_trans this (by omega)
          · rw [List.length_append] at ho
            obtain ⟨h1, h2⟩ := snoc_range HSN.out ho
            have h3 := (HORD.out h1).1
            have h4 := HZ.out h1 h2
            have h5 : (memL s t).length = 0 := by
              unfold memL
              rw [← HC.out, ← HP.out, HC.out, ← h4, ← HMS.out, ← HN7.out]
              exact hz7
            rw [List.length_append, List.length_singleton, ← h2, rowsL_no h5, h3, ← h2]
            refine ⟨rfl, fun h6 => ?_⟩
            rw [h4]
            congr 2
            omega)
        clear hz7
        gi_wp2
        exact HP2.out
      · have hz7z : (0 : Int) < (n7 : Int) := by omega
        have HFR := Lib.hid (ownL_fresh HL7.out)
        have HPU := Lib.hid (HM2.out.rw)
        have kr := HM2.out.orr.cell (i := 0) (by omega)
        have kz0 := HM2.out.k0
        have hb := HM2.out.bel
        have e0 := (hb.cell (p := ⟨b, off + c * 11, none⟩) hbl).trans d0
        have e1 := (hb.cell (p := ⟨b, off + c * 11 + 1, none⟩) hbl).trans d1
        have e2 := (hb.cell (p := ⟨b, off + c * 11 + 2, none⟩) hbl).trans d2
        have e3 := (hb.cell (p := ⟨b, off + c * 11 + 3, none⟩) hbl).trans d3
        have e4 := (hb.cell (p := ⟨b, off + c * 11 + 4, none⟩) hbl).trans d4
        have e5 := (hb.cell (p := ⟨b, off + c * 11 + 5, none⟩) hbl).trans d5
        have e6 := (hb.cell (p := ⟨b, off + c * 11 + 6, none⟩) hbl).trans d6
        have e7 := (hb.cell (p := ⟨b, off + c * 11 + 7, none⟩) hbl).trans d7
        have e8 := (hb.cell (p := ⟨b, off + c * 11 + 8, none⟩) hbl).trans d8
        have e9 := (hb.cell (p := ⟨b, off + c * 11 + 9, none⟩) hbl).trans d9
        have e10 := (hb.cell (p := ⟨b, off + c * 11 + 10, none⟩) hbl).trans d10
        have HRD7 : Hid (Rd 1 encI W2 a7 ms) := Lib.hid (by
          obtain ⟨a, c', hv, hr⟩ := HL7.out.rd
          injection hv with h1 _ _
          rw [h1]; exact hr)
        have HOB2 : Hid (R + 2 ≤ W2.heap.size) := Lib.hid (by obtain ⟨_, _, o, _, _⟩ := HM2.out.ob; have := o.lt; omega)
        have HVC : Hid (∀ q, v.ownBlock = some q → q < Wc.heap.size) := HVCc
        clear hb d0 d1 d2 d3 d4 d5 d6 d7 d8 d9 d10 hz7 hbl
        gi_wp2
        refine region_round_z (S := fun w' => w'.cell? ⟨R, 0, none⟩ = some v ∧ w'.cell? ⟨w.heap.size, 0, none⟩ = some (.slice (some ⟨b, off, none⟩) n1 c1) ∧ w'.cell? ⟨X, 0, none⟩ = some (.int .i64 (c : Nat)) ∧ w'.cell? ⟨b, off + c * 11, none⟩ = some (.string g.name) ∧ w'.cell? ⟨b, off + c * 11 + 1, none⟩ = some (.int .i64 g.up) ∧ w'.cell? ⟨b, off + c * 11 + 2, none⟩ = some (.int .i64 g.limit) ∧ w'.cell? ⟨b, off + c * 11 + 3, none⟩ = some (.int .i64 g.neutral) ∧ w'.cell? ⟨b, off + c * 11 + 4, none⟩ = some (.int .i64 g.rated) ∧ w'.cell? ⟨b, off + c * 11 + 5, none⟩ = some (.int .i64 g.heat) ∧ w'.cell? ⟨b, off + c * 11 + 6, none⟩ = some (.int .i64 g.amb) ∧ w'.cell? ⟨b, off + c * 11 + 7, none⟩ = some (.int .i64 g.most) ∧ w'.cell? ⟨b, off + c * 11 + 8, none⟩ = some (.int .i64 g.gain) ∧ w'.cell? ⟨b, off + c * 11 + 9, none⟩ = some (.int .i64 g.loss) ∧ w'.cell? ⟨b, off + c * 11 + 10, none⟩ = some (.int .i64 g.den)) [11, 12] (by kernel_rfl) (by kernel_rfl) ⟨kr, kz0, xd0, e0, e1, e2, e3, e4, e5, e6, e7, e8, e9, e10⟩ (fun hHeld => ?_)
        · clear kr kz0 xd0 e0 e1 e2 e3 e4 e5 e6 e7 e8 e9 e10
          refine wpAnyZ_take (i := 0) (v := v) [11, 12] rfl (by kernel_rfl) (by kernel_rfl) (by kernel_rfl) (by kernel_rfl) (fun _ _ _ h => absurd h.1 (by simp)) (Or.inl ⟨by rfl, fun w' hSw => ?_⟩) hHeld ?_
          · obtain ⟨s0, s1, s2, t0, t1, t2, t3, t4, t5, t6, t7, t8, t9, t10⟩ := hSw
            clear hHeld
            go_simp
          simp only [Act.put, zl0, zl1, zl2, zl3, zl4, zl5]
          refine wpAnyZ_take (i := 1) (v := .pointer (some ⟨w.heap.size, 0, none⟩)) [2, 5, 6, 7, 9, 10, 11, 12] rfl (by kernel_rfl) (by kernel_rfl) (by kernel_rfl) (by kernel_rfl) (fun _ _ _ h => absurd h.1 (by simp)) (Or.inl ⟨by rfl, fun w' hSw => ?_⟩) hHeld ?_
          · obtain ⟨s0, s1, s2, t0, t1, t2, t3, t4, t5, t6, t7, t8, t9, t10⟩ := hSw
            clear hHeld
            go_simp
          simp only [Act.put, zl0, zl1, zl2, zl3, zl4, zl5]
          refine wpAnyZ_take (i := 2) (v := .slice (some ⟨b, off, none⟩) n1 c1) [5, 6, 7, 9, 10, 11, 12] rfl (by kernel_rfl) (by kernel_rfl) (by kernel_rfl) (by kernel_rfl) (fun _ _ _ h => absurd h.1 (by simp)) (Or.inl ⟨by rfl, fun w' hSw => ?_⟩) hHeld ?_
          · obtain ⟨s0, s1, s2, t0, t1, t2, t3, t4, t5, t6, t7, t8, t9, t10⟩ := hSw
            clear hHeld
            go_simp
          simp only [Act.put, zl0, zl1, zl2, zl3, zl4, zl5]
          refine wpAnyZ_take (i := 3) (v := .pointer (some ⟨X, 0, none⟩)) [4, 5, 6, 7, 9, 10, 11, 12] rfl (by kernel_rfl) (by kernel_rfl) (by kernel_rfl) (by kernel_rfl) (fun _ _ _ h => absurd h.1 (by simp)) (Or.inl ⟨by rfl, fun w' hSw => ?_⟩) hHeld ?_
          · obtain ⟨s0, s1, s2, t0, t1, t2, t3, t4, t5, t6, t7, t8, t9, t10⟩ := hSw
            clear hHeld
            go_simp
          simp only [Act.put, zl0, zl1, zl2, zl3, zl4, zl5]
          refine wpAnyZ_take (i := 4) (v := .int .i64 (c : Nat)) [5, 6, 7, 9, 10, 11, 12] rfl (by kernel_rfl) (by kernel_rfl) (by kernel_rfl) (by kernel_rfl) (fun _ _ _ h => absurd h.1 (by simp)) (Or.inl ⟨by rfl, fun w' hSw => ?_⟩) hHeld ?_
          · obtain ⟨s0, s1, s2, t0, t1, t2, t3, t4, t5, t6, t7, t8, t9, t10⟩ := hSw
            clear hHeld
            go_simp
          simp only [Act.put, zl0, zl1, zl2, zl3, zl4, zl5]
          refine wpAnyZ_take (i := 5) (v := .pointer (some ⟨b, off + c * 11, none⟩)) [6, 7, 9, 10, 11, 12] rfl (by kernel_rfl) (by kernel_rfl) (by kernel_rfl) (by kernel_rfl) (fun _ _ _ h => absurd h.1 (by simp)) (Or.inl ⟨by rfl, fun w' hSw => ?_⟩) hHeld ?_
          · obtain ⟨s0, s1, s2, t0, t1, t2, t3, t4, t5, t6, t7, t8, t9, t10⟩ := hSw
            clear hHeld
            go_simp
          simp only [Act.put, zl0, zl1, zl2, zl3, zl4, zl5]
          refine wpAnyZ_take (i := 6) (v := .agg #[.string g.name, .int .i64 g.up, .int .i64 g.limit, .int .i64 g.neutral, .int .i64 g.rated, .int .i64 g.heat, .int .i64 g.amb, .int .i64 g.most, .int .i64 g.gain, .int .i64 g.loss, .int .i64 g.den]) [7, 9, 10, 11, 12] rfl (by kernel_rfl) (by kernel_rfl) (by kernel_rfl) (by kernel_rfl) (fun _ _ _ h => absurd h.1 (by simp)) (Or.inl ⟨by rfl, fun w' hSw => ?_⟩) hHeld ?_
          · obtain ⟨s0, s1, s2, t0, t1, t2, t3, t4, t5, t6, t7, t8, t9, t10⟩ := hSw
            clear hHeld
            go_simp
          simp only [Act.put, zl0, zl1, zl2, zl3, zl4, zl5]
          refine wpAnyZ_take (i := 8) (v := .slice a7 n7 c7) [9, 10, 11, 12] rfl (by kernel_rfl) (by kernel_rfl) (by kernel_rfl) (by kernel_rfl) (fun _ _ _ h => absurd h.1 (by simp)) (Or.inl ⟨by rfl, fun w' hSw => ?_⟩) hHeld ?_
          · obtain ⟨s0, s1, s2, t0, t1, t2, t3, t4, t5, t6, t7, t8, t9, t10⟩ := hSw
            clear hHeld
            go_simp
          simp only [Act.put, zl0, zl1, zl2, zl3, zl4, zl5]
          refine zo 7 (fun K' hK => ?_)
          go_simp
          refine (limOf_ok g HOC.out W2.drew).mono ?_
          rintro e w4 ⟨rfl, hb4⟩
          have HB4 := Lib.hid ((below_drew W2).trans hb4)
          have hS4 := cells14 hb4 hHeld
          clear hb4
          refine hK.out _ _ ?_ (fun hHeld' => ?_)
          · exact hS4
          clear hK K' hHeld
          have hHeld := hHeld'
          clear hHeld'
          try simp only [Act.put, zl0, zl1, zl2, zl3, zl4, zl5]
          clear hS4
          have HRW := Lib.hid (HPU.out.keep HB4.out)
          obtain ⟨ap, v', w5, av, aw, HL5, HM5, HSH, HGE5, HNE⟩ := app_row HRW.out (by have h1 := HB4.out.size; have h3 := HOB2.out; omega) (by have h1 := HRW.out.len; have h2 := HBD.out; have h3 := HPL.out; omega) (limV g) a7 n7 c7 ms HN7.out (HRD7.out.keep HB4.out) (fun x hx => ⟨Nat.lt_of_lt_of_le (HFR.out x hx).2 HB4.out.size, fun e => by
            have h1 := HFR.out x hx
            have h2 := HVC.out _ e
            omega⟩)
          refine zo 9 (fun K' hK => ?_)
          go_simp
          refine hK.out _ _ ?_ (fun hHeld' => ?_)
          · exact hHeld
          clear hK K' hHeld
          have hHeld := hHeld'
          clear hHeld'
          try simp only [Act.put, zl0, zl1, zl2, zl3, zl4, zl5]
          refine zo 10 (fun K' hK => ?_)
          go_simp
          refine hK.out _ _ ?_ (fun hHeld' => ?_)
          · exact cells14 ((Below.refl _ _).alloc (Nat.le_refl _) _) hHeld
          clear hK K' hHeld
          have hHeld := hHeld'
          clear hHeld'
          try simp only [Act.put, zl0, zl1, zl2, zl3, zl4, zl5]
          clear hHeld
          refine wpAnyZ_last (i := 11) (by kernel_rfl) rfl (by kernel_rfl) (fun K' hK => ?_)
          rw [if_pos (by rfl)]
          refine append_go rfl rfl ap av aw ?_
          refine hK.out _ _ ?_
          clear hK K'
          try simp only [Act.put, zl0, zl1, zl2, zl3, zl4, zl5]
          have HO5 := Lib.hid (((HM2.out.orr.keep HB4.out HM2.out.orr.lt)).mod HM5.out (fun h => by have := (HM2.out.own_ge h).1; omega))
          have cr5 := HO5.out.cell (i := 0) (by omega)
          have fr5 := HO5.out.frozen 0
          obtain ⟨a5', c5', hv5⟩ := HSH.out
          have HPP := Lib.hid ((HM2.out.keep HB4.out).push HL5.out HM5.out HNE.out (fun a ha => by have h1 := (HFR.out a ha).1; have h2 := HOBc.out; omega))
          clear ap av aw
          subst hv5
          refine wpAnyZ_last (i := 12) (by kernel_rfl) rfl (by kernel_rfl) (fun K' hK => ?_)
          go_simp
          refine hK.out _ _ ?_
          clear hK K'
          try simp only [Act.put, zl0, zl1, zl2, zl3, zl4, zl5]
          refine wpAnyZ_done (by kernel_rfl) ⟨rfl, ?_⟩ _
          have HMF := Lib.hid ((mod_then HD2.out HB4.out).trans (HPP.out.2.mono (fun j _ h => h.elim .inl (fun h => .inr (.inl h)))))
          refine ⟨keepsFrom_mod1 HMF.out _ HCE.out, HMF.out.below HSW.out (fun j _ h => HGE.out j h), _, _, _, zs, Lib.hid ⟨?_, HZB.out⟩, Lib.hid (fun ho => ?_), HPP.out.1⟩
          · have := HBD.out; rw [List.length_append, List.length_append]; exact Nat.add_le_add_right this _
          · rw [List.length_append] at ho
            obtain ⟨h1, h2⟩ := snoc_range HSN.out ho
            have h3 := (HORD.out h1).1
            have h4 := HZ.out h1 h2
            have h7 : memL s t = ms := by
              unfold memL
              rw [HMS.out, h4, HP.out]
            have h5 : ¬ (memL s t).length = 0 := by
              rw [h7, ← HN7.out]
              omega
            rw [List.length_append, List.length_singleton, ← h2, rowsL_yes h5, h3, ← h2, h7, HLIM.out]
            refine ⟨rfl, fun h6 => ?_⟩
            rw [h4]
            congr 2
            omega

    · have hpd : decide ((p : Int) = 0) = false := by simpa using hp0
      have hpe : ((p : Int) == 0) = false := by simpa using hp0
      have HZ : Hid (pre.map (fun (y : PlAt n1) => y.1) = List.range pre.length → t = pre.length → ys = belowL s ((t / 3 : Nat) : Int) s.chgs.length) := Lib.hid (fun h1 h2 => by
        have h3 := (HORD.out h1).2
        rw [← h2] at h3
        exact h3 (by rw [← HP.out]; exact hp0))
      obtain ⟨abz, cbz, oc0, rz, _⟩ := HM.out.ob
      have HZB := HYB
      obtain ⟨nb, hnb⟩ : ∃ nb, nb = ys.length := ⟨_, rfl⟩
      have HNB : Hid (ys.length = nb) := Lib.hid hnb.symm
      rw [← hnb] at oc0
      have c50 := oc0.cell (i := 0) (by omega)
      have f50 := oc0.frozen 0
      have HMc := HM
      have HD : Hid (Mod (fun j => v.ownBlock = some j ∨ j = R ∨ j = R + 1) W1 W1) := Lib.hid (Mod.refl _ W1)
      have HRZ := Lib.hid rz
      have HVCc : Hid (∀ q, v.ownBlock = some q → q < W1.heap.size) := Lib.hid (fun q hq => (HM.out.own_ge hq).2)
      have HOBc : Hid (R + 2 ≤ W1.heap.size) := Lib.hid (by have := oc0.lt; omega)
      have xc0 := x0
      have xc1 := x1
      clear rz hnb oc0 x0 x1 k0 k1 k2 k3 k4 hp0
      gi_wp2
      clear c50 f50 hpd hpe
      have kk3 := HMc.out.k3
      refine ⟨trivial, CallsIn.inRound l (callsIn_wide.2 ((limChoose_any w.heap.size X a4 n4 c4 s p hpb HL4.out hn4m HPH abz nb cbz ys W1 HRZ HNB (by have := HZB.out.1; have := HNB.out; omega) (Lib.hid (fun i hi => HZB.out.2 i (by rw [HNB.out]; exact hi))) kk3 xc1 (Lib.hid (HR4.out.keep HMc.out.bel))).mono ?_))⟩
      rintro e W2 ⟨v7, rfl, hL7, hb2⟩
      obtain ⟨a7, c7, hv7⟩ := hL7.shape
      obtain ⟨ms, hms⟩ : ∃ ms, ms = ys.filter (usesB s p) := ⟨_, rfl⟩
      rw [← hms] at hv7 hL7
      have HMS := Lib.hid hms
      obtain ⟨n7, hn7⟩ : ∃ n7, n7 = ms.length := ⟨_, rfl⟩
      rw [← hn7] at hv7
      have HN7 := Lib.hid hn7
      subst hv7
      have HL7 := Lib.hid hL7
      have HM2 := Lib.hid (HMc.out.keep hb2)
      have HD2 := Lib.hid (mod_then HD.out hb2)
      have xd0 := (hb2.cell (p := ⟨X, 0, none⟩) (zb xc0)).trans xc0
      have HWc := Lib.hid hb2.size
      clear kk3 xc0 xc1 hL7 hb2 hms hn7 HMc HD
      by_cases hz7 : n7 = 0
      · have hz7z : ¬ (0 : Int) < (n7 : Int) := by omega
        have HP2 : Hid (KeepsFrom w3.heap.size W1 W2 ∧ Below w.heap.size W1 W2 ∧ RwI w (some ⟨b, off, none⟩) n1 c1 a2 n2 c2 a3 n3 c3 a4 n4 c4 a5 n5 c5 R s (pre ++ [(⟨t, ht⟩ : PlAt n1)]) W2) := Lib.hid (by
          refine ⟨keepsFrom_mod1 HD2.out _ HCE.out, HD2.out.below HSW.out (fun j _ h => HGE.out j h), v, hs, rs, ys, Lib.hid ⟨?_, HZB.out⟩, Lib.hid (fun ho => ?_), HM2.out⟩
          · have := HBD.out; rw [List.length_append]; exact Nat.le_trans this (by omega)
          · rw [List.length_append] at ho
            obtain ⟨h1, h2⟩ := snoc_range HSN.out ho
            have h3 := (HORD.out h1).1
            have h4 := HZ.out h1 h2
            have h5 : (memL s t).length = 0 := by
              unfold memL
              rw [← HC.out, ← HP.out, HC.out, ← h4, ← HMS.out, ← HN7.out]
              exact hz7
            rw [List.length_append, List.length_singleton, ← h2, rowsL_no h5, h3, ← h2]
            refine ⟨rfl, fun h6 => ?_⟩
            rw [h4]
            congr 2
            omega)
        clear hz7
        gi_wp2
        exact HP2.out
      · have hz7z : (0 : Int) < (n7 : Int) := by omega
        have HFR := Lib.hid (ownL_fresh HL7.out)
        have HPU := Lib.hid (HM2.out.rw)
        have kr := HM2.out.orr.cell (i := 0) (by omega)
        have kz0 := HM2.out.k0
        have hb := HM2.out.bel
        have e0 := (hb.cell (p := ⟨b, off + c * 11, none⟩) hbl).trans d0
        have e1 := (hb.cell (p := ⟨b, off + c * 11 + 1, none⟩) hbl).trans d1
        have e2 := (hb.cell (p := ⟨b, off + c * 11 + 2, none⟩) hbl).trans d2
        have e3 := (hb.cell (p := ⟨b, off + c * 11 + 3, none⟩) hbl).trans d3
        have e4 := (hb.cell (p := ⟨b, off + c * 11 + 4, none⟩) hbl).trans d4
        have e5 := (hb.cell (p := ⟨b, off + c * 11 + 5, none⟩) hbl).trans d5
        have e6 := (hb.cell (p := ⟨b, off + c * 11 + 6, none⟩) hbl).trans d6
        have e7 := (hb.cell (p := ⟨b, off + c * 11 + 7, none⟩) hbl).trans d7
        have e8 := (hb.cell (p := ⟨b, off + c * 11 + 8, none⟩) hbl).trans d8
        have e9 := (hb.cell (p := ⟨b, off + c * 11 + 9, none⟩) hbl).trans d9
        have e10 := (hb.cell (p := ⟨b, off + c * 11 + 10, none⟩) hbl).trans d10
        have HRD7 : Hid (Rd 1 encI W2 a7 ms) := Lib.hid (by
          obtain ⟨a, c', hv, hr⟩ := HL7.out.rd
          injection hv with h1 _ _
          rw [h1]; exact hr)
        have HOB2 : Hid (R + 2 ≤ W2.heap.size) := Lib.hid (by obtain ⟨_, _, o, _, _⟩ := HM2.out.ob; have := o.lt; omega)
        have HVC : Hid (∀ q, v.ownBlock = some q → q < W1.heap.size) := HVCc
        clear hb d0 d1 d2 d3 d4 d5 d6 d7 d8 d9 d10 hz7 hbl
        gi_wp2
        refine region_round_z (S := fun w' => w'.cell? ⟨R, 0, none⟩ = some v ∧ w'.cell? ⟨w.heap.size, 0, none⟩ = some (.slice (some ⟨b, off, none⟩) n1 c1) ∧ w'.cell? ⟨X, 0, none⟩ = some (.int .i64 (c : Nat)) ∧ w'.cell? ⟨b, off + c * 11, none⟩ = some (.string g.name) ∧ w'.cell? ⟨b, off + c * 11 + 1, none⟩ = some (.int .i64 g.up) ∧ w'.cell? ⟨b, off + c * 11 + 2, none⟩ = some (.int .i64 g.limit) ∧ w'.cell? ⟨b, off + c * 11 + 3, none⟩ = some (.int .i64 g.neutral) ∧ w'.cell? ⟨b, off + c * 11 + 4, none⟩ = some (.int .i64 g.rated) ∧ w'.cell? ⟨b, off + c * 11 + 5, none⟩ = some (.int .i64 g.heat) ∧ w'.cell? ⟨b, off + c * 11 + 6, none⟩ = some (.int .i64 g.amb) ∧ w'.cell? ⟨b, off + c * 11 + 7, none⟩ = some (.int .i64 g.most) ∧ w'.cell? ⟨b, off + c * 11 + 8, none⟩ = some (.int .i64 g.gain) ∧ w'.cell? ⟨b, off + c * 11 + 9, none⟩ = some (.int .i64 g.loss) ∧ w'.cell? ⟨b, off + c * 11 + 10, none⟩ = some (.int .i64 g.den)) [11, 12] (by kernel_rfl) (by kernel_rfl) ⟨kr, kz0, xd0, e0, e1, e2, e3, e4, e5, e6, e7, e8, e9, e10⟩ (fun hHeld => ?_)
        · clear kr kz0 xd0 e0 e1 e2 e3 e4 e5 e6 e7 e8 e9 e10
          refine wpAnyZ_take (i := 0) (v := v) [11, 12] rfl (by kernel_rfl) (by kernel_rfl) (by kernel_rfl) (by kernel_rfl) (fun _ _ _ h => absurd h.1 (by simp)) (Or.inl ⟨by rfl, fun w' hSw => ?_⟩) hHeld ?_
          · obtain ⟨s0, s1, s2, t0, t1, t2, t3, t4, t5, t6, t7, t8, t9, t10⟩ := hSw
            clear hHeld
            go_simp
          simp only [Act.put, zl0, zl1, zl2, zl3, zl4, zl5]
          refine wpAnyZ_take (i := 1) (v := .pointer (some ⟨w.heap.size, 0, none⟩)) [2, 5, 6, 7, 9, 10, 11, 12] rfl (by kernel_rfl) (by kernel_rfl) (by kernel_rfl) (by kernel_rfl) (fun _ _ _ h => absurd h.1 (by simp)) (Or.inl ⟨by rfl, fun w' hSw => ?_⟩) hHeld ?_
          · obtain ⟨s0, s1, s2, t0, t1, t2, t3, t4, t5, t6, t7, t8, t9, t10⟩ := hSw
            clear hHeld
            go_simp
          simp only [Act.put, zl0, zl1, zl2, zl3, zl4, zl5]
          refine wpAnyZ_take (i := 2) (v := .slice (some ⟨b, off, none⟩) n1 c1) [5, 6, 7, 9, 10, 11, 12] rfl (by kernel_rfl) (by kernel_rfl) (by kernel_rfl) (by kernel_rfl) (fun _ _ _ h => absurd h.1 (by simp)) (Or.inl ⟨by rfl, fun w' hSw => ?_⟩) hHeld ?_
          · obtain ⟨s0, s1, s2, t0, t1, t2, t3, t4, t5, t6, t7, t8, t9, t10⟩ := hSw
            clear hHeld
            go_simp
          simp only [Act.put, zl0, zl1, zl2, zl3, zl4, zl5]
          refine wpAnyZ_take (i := 3) (v := .pointer (some ⟨X, 0, none⟩)) [4, 5, 6, 7, 9, 10, 11, 12] rfl (by kernel_rfl) (by kernel_rfl) (by kernel_rfl) (by kernel_rfl) (fun _ _ _ h => absurd h.1 (by simp)) (Or.inl ⟨by rfl, fun w' hSw => ?_⟩) hHeld ?_
          · obtain ⟨s0, s1, s2, t0, t1, t2, t3, t4, t5, t6, t7, t8, t9, t10⟩ := hSw
            clear hHeld
            go_simp
          simp only [Act.put, zl0, zl1, zl2, zl3, zl4, zl5]
          refine wpAnyZ_take (i := 4) (v := .int .i64 (c : Nat)) [5, 6, 7, 9, 10, 11, 12] rfl (by kernel_rfl) (by kernel_rfl) (by kernel_rfl) (by kernel_rfl) (fun _ _ _ h => absurd h.1 (by simp)) (Or.inl ⟨by rfl, fun w' hSw => ?_⟩) hHeld ?_
          · obtain ⟨s0, s1, s2, t0, t1, t2, t3, t4, t5, t6, t7, t8, t9, t10⟩ := hSw
            clear hHeld
            go_simp
          simp only [Act.put, zl0, zl1, zl2, zl3, zl4, zl5]
          refine wpAnyZ_take (i := 5) (v := .pointer (some ⟨b, off + c * 11, none⟩)) [6, 7, 9, 10, 11, 12] rfl (by kernel_rfl) (by kernel_rfl) (by kernel_rfl) (by kernel_rfl) (fun _ _ _ h => absurd h.1 (by simp)) (Or.inl ⟨by rfl, fun w' hSw => ?_⟩) hHeld ?_
          · obtain ⟨s0, s1, s2, t0, t1, t2, t3, t4, t5, t6, t7, t8, t9, t10⟩ := hSw
            clear hHeld
            go_simp
          simp only [Act.put, zl0, zl1, zl2, zl3, zl4, zl5]
          refine wpAnyZ_take (i := 6) (v := .agg #[.string g.name, .int .i64 g.up, .int .i64 g.limit, .int .i64 g.neutral, .int .i64 g.rated, .int .i64 g.heat, .int .i64 g.amb, .int .i64 g.most, .int .i64 g.gain, .int .i64 g.loss, .int .i64 g.den]) [7, 9, 10, 11, 12] rfl (by kernel_rfl) (by kernel_rfl) (by kernel_rfl) (by kernel_rfl) (fun _ _ _ h => absurd h.1 (by simp)) (Or.inl ⟨by rfl, fun w' hSw => ?_⟩) hHeld ?_
          · obtain ⟨s0, s1, s2, t0, t1, t2, t3, t4, t5, t6, t7, t8, t9, t10⟩ := hSw
            clear hHeld
            go_simp
          simp only [Act.put, zl0, zl1, zl2, zl3, zl4, zl5]
          refine wpAnyZ_take (i := 8) (v := .slice a7 n7 c7) [9, 10, 11, 12] rfl (by kernel_rfl) (by kernel_rfl) (by kernel_rfl) (by kernel_rfl) (fun _ _ _ h => absurd h.1 (by simp)) (Or.inl ⟨by rfl, fun w' hSw => ?_⟩) hHeld ?_
          · obtain ⟨s0, s1, s2, t0, t1, t2, t3, t4, t5, t6, t7, t8, t9, t10⟩ := hSw
            clear hHeld
            go_simp
          simp only [Act.put, zl0, zl1, zl2, zl3, zl4, zl5]
          refine zo 7 (fun K' hK => ?_)
          go_simp
          refine (limOf_ok g HOC.out W2.drew).mono ?_
          rintro e w4 ⟨rfl, hb4⟩
          have HB4 := Lib.hid ((below_drew W2).trans hb4)
          have hS4 := cells14 hb4 hHeld
          clear hb4
          refine hK.out _ _ ?_ (fun hHeld' => ?_)
          · exact hS4
          clear hK K' hHeld
          have hHeld := hHeld'
          clear hHeld'
          try simp only [Act.put, zl0, zl1, zl2, zl3, zl4, zl5]
          clear hS4
          have HRW := Lib.hid (HPU.out.keep HB4.out)
          obtain ⟨ap, v', w5, av, aw, HL5, HM5, HSH, HGE5, HNE⟩ := app_row HRW.out (by have h1 := HB4.out.size; have h3 := HOB2.out; omega) (by have h1 := HRW.out.len; have h2 := HBD.out; have h3 := HPL.out; omega) (limV g) a7 n7 c7 ms HN7.out (HRD7.out.keep HB4.out) (fun x hx => ⟨Nat.lt_of_lt_of_le (HFR.out x hx).2 HB4.out.size, fun e => by
            have h1 := HFR.out x hx
            have h2 := HVC.out _ e
            omega⟩)
          refine zo 9 (fun K' hK => ?_)
          go_simp
          refine hK.out _ _ ?_ (fun hHeld' => ?_)
          · exact hHeld
          clear hK K' hHeld
          have hHeld := hHeld'
          clear hHeld'
          try simp only [Act.put, zl0, zl1, zl2, zl3, zl4, zl5]
          refine zo 10 (fun K' hK => ?_)
          go_simp
          refine hK.out _ _ ?_ (fun hHeld' => ?_)
          · exact cells14 ((Below.refl _ _).alloc (Nat.le_refl _) _) hHeld
          clear hK K' hHeld
          have hHeld := hHeld'
          clear hHeld'
          try simp only [Act.put, zl0, zl1, zl2, zl3, zl4, zl5]
          clear hHeld
          refine wpAnyZ_last (i := 11) (by kernel_rfl) rfl (by kernel_rfl) (fun K' hK => ?_)
          rw [if_pos (by rfl)]
          refine append_go rfl rfl ap av aw ?_
          refine hK.out _ _ ?_
          clear hK K'
          try simp only [Act.put, zl0, zl1, zl2, zl3, zl4, zl5]
          have HO5 := Lib.hid (((HM2.out.orr.keep HB4.out HM2.out.orr.lt)).mod HM5.out (fun h => by have := (HM2.out.own_ge h).1; omega))
          have cr5 := HO5.out.cell (i := 0) (by omega)
          have fr5 := HO5.out.frozen 0
          obtain ⟨a5', c5', hv5⟩ := HSH.out
          have HPP := Lib.hid ((HM2.out.keep HB4.out).push HL5.out HM5.out HNE.out (fun a ha => by have h1 := (HFR.out a ha).1; have h2 := HOBc.out; omega))
          clear ap av aw
          subst hv5
          refine wpAnyZ_last (i := 12) (by kernel_rfl) rfl (by kernel_rfl) (fun K' hK => ?_)
          go_simp
          refine hK.out _ _ ?_
          clear hK K'
          try simp only [Act.put, zl0, zl1, zl2, zl3, zl4, zl5]
          refine wpAnyZ_done (by kernel_rfl) ⟨rfl, ?_⟩ _
          have HMF := Lib.hid ((mod_then HD2.out HB4.out).trans (HPP.out.2.mono (fun j _ h => h.elim .inl (fun h => .inr (.inl h)))))
          refine ⟨keepsFrom_mod1 HMF.out _ HCE.out, HMF.out.below HSW.out (fun j _ h => HGE.out j h), _, _, _, ys, Lib.hid ⟨?_, HZB.out⟩, Lib.hid (fun ho => ?_), HPP.out.1⟩
          · have := HBD.out; rw [List.length_append, List.length_append]; exact Nat.add_le_add_right this _
          · rw [List.length_append] at ho
            obtain ⟨h1, h2⟩ := snoc_range HSN.out ho
            have h3 := (HORD.out h1).1
            have h4 := HZ.out h1 h2
            have h7 : memL s t = ms := by
              unfold memL
              rw [HMS.out, h4, HP.out]
            have h5 : ¬ (memL s t).length = 0 := by
              rw [h7, ← HN7.out]
              omega
            rw [List.length_append, List.length_singleton, ← h2, rowsL_yes h5, h3, ← h2, h7, HLIM.out]
            refine ⟨rfl, fun h6 => ?_⟩
            rw [h4]
            congr 2
            omega

  case done =>
    intro D ys0 W1 hD hS hi hdf
    obtain ⟨v, hs, rs, ys, Hbd, Hord, m⟩ := hi
    have hlen : ys0.length = n1 * 3 := by have := congrArg List.length hS; simpa using this
    have hrs : rs = rowsL s (n1 * 3) := by
      have h := (Hord.out (by rw [hS, hlen])).1
      rw [hlen] at h
      exact h
    have cr := m.orr.cell (i := 0) (by omega)
    have HMM := Lib.hid m
    have HRS : Hid (rowsO s = rs) := Lib.hid (by rw [rowsO_yes HY.out, HCL.out, hrs])
    have HMK : Hid (Marks w3.heap.size W1 [{ target := .collected D, args := #[] }]) := Lib.hid ⟨[D], rfl, by simp, fun D' hD' => by
      have e : D' = D := by simpa using hD'
      subst e
      exact ⟨by omega, (Array.getElem?_eq_some_iff.1 hdf).1, hdf⟩⟩
    obtain ⟨av, cv, hv, _⟩ := m.rw.rows
    obtain ⟨L, hL⟩ : ∃ L, L = rs.length := ⟨_, rfl⟩
    rw [← hL] at hv
    have HLL := Lib.hid hL
    clear m Hbd Hord hrs hlen hdf hS hL
    subst hv
    go_wp2_with fail
    refine leaves_marks (B := w3.heap.size) _ _ HMK.out (fun W3 hT => ?_)
    obtain ⟨a, c, hv, hr⟩ := (HMM.out.rw.taken hT).rows
    refine ⟨_, results_tmp2 (t := 2) (u := 3) (by kernel_rfl) _ _ _, a, c, hs, ?_, ?_, HMM.out.bel.trans (taken_below1 hT hws)⟩
    · rw [HRS.out, HY.out, ← hv]
      rfl
    · rw [HRS.out]
      exact hr
end Go.Proofs.YtkbbapefgifagaaGreatDoor
