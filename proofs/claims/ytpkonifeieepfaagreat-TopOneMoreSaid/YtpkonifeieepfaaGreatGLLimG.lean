/-
Several texts in one: LimG, LimH, LimI0, LimI, LimJ, LimK, LimL, LimM, LimN, LimR, LimS0, LimO, LimP, LimS.
-/
import Derived.Test.YtpkonifeieepfaaGreatGLLimD
import Derived.Test.YtpkonifeieepfaaGreatGLApp
import Derived.Test.YtpkonifeieepfaaGreatGLRefA
import Derived.Test.YtpkonifeieepfaaGreatGLTreeH
import Derived.Laws.EntriesVeiled
import Derived.StillTailTactics
import Derived.Test.YtpkonifeieepfaaGreatGLOpen
/-
Rows: plain words, a list of rows that grows, Rows' closure, choose.
-/
namespace Go.Proofs.YtpkonifeieepfaaGreat
open Go.RowKit
set_option linter.unusedVariables false
set_option linter.unusedSimpArgs false
structure GRow where
  cap : Int
  mem : List Int
deriving DecidableEq
def usesB (s : GSite) (p : Nat) (i : Int) : Bool := bitP (phOf s i.toNat) p
/-- The chargers below conductor t / 3 on phase t % 3. -/
def memL (s : GSite) (t : Nat) : List Int := (belowL s ((t / 3 : Nat) : Int) s.chgs.length).filter (usesB s (t % 3))
/-- A row's value: its cap, the slice of its members. -/
abbrev RowH : Type := Int × Option Addr × Nat × Nat
def encHd (h : RowH) : List Value := [.int .i64 h.1, .slice h.2.1 h.2.2.1 h.2.2.2]
theorem encHd_len (h : RowH) : (encHd h).length = 2 := rfl
def MemOk (W : World) (h : RowH) (r : GRow) : Prop := h.1 = r.cap ∧ h.2.2.1 = r.mem.length ∧ Rd 1 encI W h.2.1 r.mem
/-- Rows that are read. -/
def RdRows (W : World) (A : Option Addr) (hs : List RowH) (rs : List GRow) : Prop := Rd 2 encHd W A hs ∧ hs.length = rs.length ∧ ∀ (k : Nat) (h : RowH) (r : GRow), hs[k]? = some h → rs[k]? = some r → MemOk W h r
theorem RdRows.keep {W W' : World} {A : Option Addr} {hs : List RowH} {rs : List GRow} (h : RdRows W A hs rs) (hb : Below W.heap.size W W') : RdRows W' A hs rs :=
  ⟨h.1.keep hb, h.2.1, fun k x r hx hr => ⟨(h.2.2 k x r hx hr).1, (h.2.2 k x r hx hr).2.1, (h.2.2 k x r hx hr).2.2.keep hb⟩⟩
theorem RdRows.nil (W : World) : RdRows W none [] [] := ⟨Rd.nil, rfl, fun k h r hx => by simp at hx⟩
theorem ownR_nc {α : Type} {t : TypeId} {sz : Nat} {enc : α → List Value} {B : Nat} {W W' : World} {base : Nat} {v : Value} {xs : List α} (h : OwnR t sz enc W base v xs) (hn : Nc B W W') : OwnR t sz enc W' base v xs := ownsRow_nc h hn
end Go.Proofs.YtpkonifeieepfaaGreat
/-
Rows' closure, choose.
-/
namespace Go.Proofs.YtpkonifeieepfaaGreat
open Go.RowKit
set_option linter.unusedVariables false
set_option linter.unusedSimpArgs false
end Go.Proofs.YtpkonifeieepfaaGreat
/-
Rows: what holds between two phases.
-/
namespace Go.Proofs.YtpkonifeieepfaaGreat
open Go.RowKit
set_option linter.unusedVariables false
set_option linter.unusedSimpArgs false
theorem OwnR.taken {α : Type} {t : TypeId} {sz : Nat} {enc : α → List Value} {B : Nat} {W W' : World} {base : Nat} {v : Value} {xs : List α} (h : OwnR t sz enc W base v xs) (hT : Taken B W W') : OwnR t sz enc W' base v xs := by
  refine ⟨h.1, ?_⟩
  rcases h.2 with x | ⟨g, cap, cur, rfl, hb, hgg, rest⟩
  · exact .inl x
  · exact .inr ⟨g, cap, cur, rfl, hb, hT.2.2.2.2.2 g _ hgg rfl, rest⟩
theorem cell_taken {B : Nat} {W W' : World} (hT : Taken B W W') {p : Addr} {v : Value} (h : W.cell? p = some v) : W'.cell? p = some v := by
  unfold World.cell? at *
  cases hc : W.heap[p.block]? with
  | none => rw [hc] at h; simp at h
  | some o =>
    rw [hc] at h
    cases o with
    | cells cs t => rw [hT.2.2.2.2.2 _ _ hc rfl]; exact h
    | _ => simp at h
theorem Rd.takenL {α : Type} {sz : Nat} {enc : α → List Value} {A : Option Addr} {xs : List α} {B : Nat} {W W' : World} (hr : Rd sz enc W A xs) (hT : Taken B W W') : Rd sz enc W' A xs := by
  intro h0
  obtain ⟨b, off, hA, hlt, hc⟩ := hr h0
  exact ⟨b, off, hA, by rw [hT.2.2.2.1]; exact hlt, fun k x hx j v hv => cell_taken hT (hc k x hx j v hv)⟩
end Go.Proofs.YtpkonifeieepfaaGreat
/-
limits.Rows, walked.
-/
namespace Go.Proofs.YtpkonifeieepfaaGreat
open Go.RowKit Go.Shelf
attribute [local go_sem] Oper.semAt_some
set_option linter.unusedVariables false
set_option linter.unusedSimpArgs false
theorem belowL_bd (s : GSite) (co : Int) (m i : Nat) (hi : i < (belowL s co m).length) : 0 ≤ fI (belowL s co m) i ∧ fI (belowL s co m) i < m := by
  have h := List.getElem_mem hi
  unfold fI
  rw [List.getElem?_eq_getElem hi]
  generalize (belowL s co m)[i] = y at *
  unfold belowL at h
  obtain ⟨k, hk, rfl⟩ := List.mem_map.1 h
  have := List.mem_range.1 (List.mem_filter.1 hk).1
  simp
  omega
def plF (c p : Int) (i : Nat) : Value := if i = 0 then .int .i64 c else .int .i64 p
theorem Own.place (w : World) (c p : Int) : Own (w.alloc (.cells #[.int .i64 c, .int .i64 p] 108)) w.heap.size 108 2 (plF c p) := by
  refine (Own.new w 108 #[.int .i64 c, .int .i64 p] undef).congr (fun i hi => ?_)
  have hi' : i < 2 := hi
  rcases i with _ | _ | i
  all_goals first | rfl | omega
end Go.Proofs.YtpkonifeieepfaaGreat
/-
The reference's Same for rows.
-/
namespace Go.Proofs.YtpkonifeieepfaaGreat
open Go.RowKit
set_option linter.unusedVariables false
set_option linter.unusedSimpArgs false
end Go.Proofs.YtpkonifeieepfaaGreat
/-
Law 09: the example site; the site in its box.
-/
namespace Go.Proofs.YtpkonifeieepfaaGreat
open Go.RowKit
set_option linter.unusedVariables false
set_option linter.unusedSimpArgs false
/-- The site that came in, and its box X. -/
structure LwM (w W : World) (X : Nat) (a1 : Option Addr) (n1 c1 : Nat) (a2 : Option Addr) (n2 c2 : Nat) (a3 : Option Addr) (n3 c3 : Nat) (a4 : Option Addr) (n4 c4 : Nat) (a5 : Option Addr) (n5 c5 : Nat) (s : GSite) : Prop where
  bel : Below w.heap.size w W
  k0 : W.cell? ⟨X, 0, none⟩ = some (.slice a1 n1 c1)
  k1 : W.cell? ⟨X, 1, none⟩ = some (.slice a2 n2 c2)
  k2 : W.cell? ⟨X, 2, none⟩ = some (.slice a3 n3 c3)
  k3 : W.cell? ⟨X, 3, none⟩ = some (.slice a4 n4 c4)
  k4 : W.cell? ⟨X, 4, none⟩ = some (.slice a5 n5 c5)
  rs : RdSite W a1 a2 a3 a4 a5 n1 n2 n3 n4 n5 s
theorem LwM.keep {w W W' : World} {X : Nat} {a1 : Option Addr} {n1 c1 : Nat} {a2 : Option Addr} {n2 c2 : Nat} {a3 : Option Addr} {n3 c3 : Nat} {a4 : Option Addr} {n4 c4 : Nat} {a5 : Option Addr} {n5 c5 : Nat} {s : GSite} (h : LwM w W X a1 n1 c1 a2 n2 c2 a3 n3 c3 a4 n4 c4 a5 n5 c5 s) (hb : Below W.heap.size W W') : LwM w W' X a1 n1 c1 a2 n2 c2 a3 n3 c3 a4 n4 c4 a5 n5 c5 s := by
  have l := World.block_lt_of_cell? W _ h.k0
  exact ⟨below_then h.bel hb, (hb.cell (p := ⟨X, 0, none⟩) l).trans h.k0, (hb.cell (p := ⟨X, 1, none⟩) l).trans h.k1, (hb.cell (p := ⟨X, 2, none⟩) l).trans h.k2, (hb.cell (p := ⟨X, 3, none⟩) l).trans h.k3, (hb.cell (p := ⟨X, 4, none⟩) l).trans h.k4, h.rs.keep hb⟩
theorem LwM.mod {w W W' : World} {X : Nat} {a1 : Option Addr} {n1 c1 : Nat} {a2 : Option Addr} {n2 c2 : Nat} {a3 : Option Addr} {n3 c3 : Nat} {a4 : Option Addr} {n4 c4 : Nat} {a5 : Option Addr} {n5 c5 : Nat} {s : GSite} (h : LwM w W X a1 n1 c1 a2 n2 c2 a3 n3 c3 a4 n4 c4 a5 n5 c5 s) (hw : RdSite w a1 a2 a3 a4 a5 n1 n2 n3 n4 n5 s) {M : Nat → Prop} (hm : Mod M W W') (hX : ¬ M X) (hM : ∀ k, M k → w.heap.size ≤ k) : LwM w W' X a1 n1 c1 a2 n2 c2 a3 n3 c3 a4 n4 c4 a5 n5 c5 s := by
  have l := World.block_lt_of_cell? W _ h.k0
  have hb : Below w.heap.size w W' := h.bel.trans (hm.below h.bel.size (fun k _ hk => hM k hk))
  exact ⟨hb, (hm.cell (p := ⟨X, 0, none⟩) l hX).trans h.k0, (hm.cell (p := ⟨X, 1, none⟩) l hX).trans h.k1, (hm.cell (p := ⟨X, 2, none⟩) l hX).trans h.k2, (hm.cell (p := ⟨X, 3, none⟩) l hX).trans h.k3, (hm.cell (p := ⟨X, 4, none⟩) l hX).trans h.k4, hw.keep hb⟩
theorem LwM.box {w : World} {a1 : Option Addr} {n1 c1 : Nat} {a2 : Option Addr} {n2 c2 : Nat} {a3 : Option Addr} {n3 c3 : Nat} {a4 : Option Addr} {n4 c4 : Nat} {a5 : Option Addr} {n5 c5 : Nat} {s : GSite} (h : RdSite w a1 a2 a3 a4 a5 n1 n2 n3 n4 n5 s) : LwM w (w.alloc (.cells #[.slice a1 n1 c1, .slice a2 n2 c2, .slice a3 n3 c3, .slice a4 n4 c4, .slice a5 n5 c5] 28)) w.heap.size a1 n1 c1 a2 n2 c2 a3 n3 c3 a4 n4 c4 a5 n5 c5 s :=
  ⟨(Below.refl _ w).alloc (Nat.le_refl _) _, by go_simp, by go_simp, by go_simp, by go_simp, by go_simp, h.keep ((Below.refl _ w).alloc (Nat.le_refl _) _)⟩
end Go.Proofs.YtpkonifeieepfaaGreat
/-
Law 09: the head.
-/
namespace Go.Proofs.YtpkonifeieepfaaGreat
open Go.RowKit
set_option linter.unusedVariables false
set_option linter.unusedSimpArgs false
end Go.Proofs.YtpkonifeieepfaaGreat
/-
Law 09: valid.
-/
namespace Go.Proofs.YtpkonifeieepfaaGreat
open Go.RowKit
set_option linter.unusedVariables false
set_option linter.unusedSimpArgs false
end Go.Proofs.YtpkonifeieepfaaGreat
/-
LimitsLess, walked.
-/
namespace Go.Proofs.YtpkonifeieepfaaGreat
open Go.RowKit
set_option linter.unusedVariables false
set_option linter.unusedSimpArgs false
end Go.Proofs.YtpkonifeieepfaaGreat
/-
Law 09: sum.
-/
namespace Go.Proofs.YtpkonifeieepfaaGreat
open Go.RowKit
set_option linter.unusedVariables false
set_option linter.unusedSimpArgs false
def sumK (xs ms : List Int) : Nat → Int
  | 0 => 0
  | k + 1 => sumK xs ms k + fI xs (fI ms k).toNat
end Go.Proofs.YtpkonifeieepfaaGreat
/-
Plain: the rows and the loads.
-/
namespace Go.Proofs.YtpkonifeieepfaaGreat
set_option linter.unusedVariables false
set_option linter.unusedSimpArgs false
def atX (xs : List Int) (i : Int) : Int := fI xs i.toNat
theorem sumK_take (xs ms : List Int) : ∀ k, k ≤ ms.length → sumK xs ms k = ((ms.take k).map (atX xs)).sum
  | 0, _ => by simp [sumK]
  | k + 1, h => by
    have ih := sumK_take xs ms k (by omega)
    have hg : ms[k]? = some (ms[k]'(by omega)) := List.getElem?_eq_getElem _
    rw [take_snoc hg, List.map_append, List.sum_append]
    show sumK xs ms k + fI xs (fI ms k).toNat = _
    rw [ih]
    have e : fI ms k = ms[k]'(by omega) := by unfold fI; rw [hg]; rfl
    rw [e]
    simp [atX]
theorem sumK_all (xs ms : List Int) : sumK xs ms ms.length = (ms.map (atX xs)).sum := by
  rw [sumK_take xs ms ms.length (Nat.le_refl _), List.take_length]
theorem load_rows (s : GSite) (xs : List Int) (c p : Nat) (hp : p < 3) : ∀ m : Nat, (((belowL s (c : Int) m).filter (usesB s p)).map (atX xs)).sum = loadS s (fI xs) m (c * 3 + p)
  | 0 => by rw [loadS_zero]; rfl
  | m + 1 => by
    have ih := load_rows s xs c p hp m
    have e1 : (c * 3 + p) / 3 = c := by omega
    have e2 : (c * 3 + p) % 3 = p := by omega
    have hl : loadS s (fI xs) (m + 1) (c * 3 + p) = loadS s (fI xs) m (c * 3 + p) + pick (onB s m c p = true) (fI xs m) := by
      unfold loadS
      rw [S_succ, e1, e2]
    rw [hl]
    have hb : isBel s (c : Int) m = decide (c ∈ pth s.cons (placeOf s m : Nat)) := by
      unfold isBel pthI
      congr 1
      simp
      constructor
      · rintro ⟨a, ha, e⟩
        have e2 : a = c := by omega
        rw [← e2]; exact ha
      · intro h
        exact ⟨c, h, rfl⟩
    have hu : usesB s p (m : Int) = bitP (phOf s m) p := by unfold usesB; rw [Int.toNat_natCast]
    have ho : onB s m c p = (usesB s p (m : Int) && isBel s (c : Int) m) := by unfold onB; rw [hu, hb]
    cases h : isBel s (c : Int) m
    · rw [belowL_no h, ih, pick_neg (by rw [ho, h]; simp)]
      omega
    · rw [belowL_yes h, List.filter_append, List.map_append, List.sum_append, ih]
      cases h2 : usesB s p (m : Int)
      · rw [pick_neg (by rw [ho, h2]; simp)]
        simp [h2]
      · rw [pick_pos (by rw [ho, h2, h]; rfl)]
        simp [h2, atX]
theorem sum_mem (s : GSite) (xs : List Int) (t : Nat) : sumK xs (memL s t) (memL s t).length = loadS s (fI xs) s.chgs.length t := by
  rw [sumK_all]
  have h := load_rows s xs (t / 3) (t % 3) (by omega) s.chgs.length
  rw [show t / 3 * 3 + t % 3 = t by omega] at h
  exact h
theorem belowL_ltR (s : GSite) (co : Int) (m : Nat) : (belowL s co m).Pairwise (fun a b => a < b) := by
  unfold belowL
  rw [List.pairwise_map]
  refine List.Pairwise.filter _ (List.Pairwise.imp ?_ (List.pairwise_lt_range (n := m)))
  intro a b h
  omega
theorem memL_inc (s : GSite) (t : Nat) {i j : Nat} (hij : i < j) (hj : j < (memL s t).length) : fI (memL s t) i < fI (memL s t) j := by
  have h0 : (memL s t).Pairwise (fun a b => a < b) := List.Pairwise.filter _ (belowL_ltR _ _ _)
  have h := List.pairwise_iff_getElem.1 h0 i j (by omega) hj hij
  unfold fI
  rw [List.getElem?_eq_getElem (by omega : i < _), List.getElem?_eq_getElem hj]
  exact h
theorem memL_in (s : GSite) (t : Nat) {i : Nat} (hi : i < (memL s t).length) : 0 ≤ fI (memL s t) i ∧ fI (memL s t) i < s.chgs.length := by
  have hm := List.getElem_mem hi
  unfold fI
  rw [List.getElem?_eq_getElem hi]
  generalize (memL s t)[i] = y at *
  unfold memL at hm
  have h1 := (List.mem_filter.1 hm).1
  unfold belowL at h1
  obtain ⟨k, hk, rfl⟩ := List.mem_map.1 h1
  have := List.mem_range.1 (List.mem_filter.1 hk).1
  simp
  omega
theorem memL_len (s : GSite) (t : Nat) : (memL s t).length ≤ s.chgs.length := Nat.le_trans (List.length_filter_le _ _) (belowL_len _ _ _)
end Go.Proofs.YtpkonifeieepfaaGreat
/-
Law 09: loads.
-/
namespace Go.Proofs.YtpkonifeieepfaaGreat
open Go.RowKit
set_option linter.unusedVariables false
set_option linter.unusedSimpArgs false
end Go.Proofs.YtpkonifeieepfaaGreat
/-
LimitsFirst, walked.
-/
namespace Go.Proofs.YtpkonifeieepfaaGreat
open Go.RowKit
set_option linter.unusedVariables false
set_option linter.unusedSimpArgs false
/-- The box of a violation. -/
def VBox (W : World) (b : Nat) (v0 v1 v2 : Int) : Prop := W.cell? ⟨b, 0, none⟩ = some (.int .i64 v0) ∧ W.cell? ⟨b, 1, none⟩ = some (.int .i64 v1) ∧ W.cell? ⟨b, 2, none⟩ = some (.int .i64 v2)
theorem VBox.keep {W W' : World} {b : Nat} {v0 v1 v2 : Int} (h : VBox W b v0 v1 v2) (hb : Below W.heap.size W W') : VBox W' b v0 v1 v2 :=
  have l := World.block_lt_of_cell? W _ h.1
  ⟨(hb.cell (p := ⟨b, 0, none⟩) l).trans h.1, (hb.cell (p := ⟨b, 1, none⟩) l).trans h.2.1, (hb.cell (p := ⟨b, 2, none⟩) l).trans h.2.2⟩
theorem VBox.new (W : World) (t : TypeId) (v0 v1 v2 : Int) : VBox (W.alloc (.cells #[.int .i64 v0, .int .i64 v1, .int .i64 v2] t)) W.heap.size v0 v1 v2 := ⟨by go_simp, by go_simp, by go_simp⟩
end Go.Proofs.YtpkonifeieepfaaGreat
/-
LimitsRows, walked.
-/
namespace Go.Proofs.YtpkonifeieepfaaGreat
open Go.RowKit
set_option linter.unusedVariables false
set_option linter.unusedSimpArgs false
theorem cur_bd {s : GSite} {xs : List Int} (h : loadB s xs = true) : xs.length = s.chgs.length ∧ ∀ i, 0 ≤ fI xs i ∧ fI xs i ≤ 80 := by
  unfold loadB at h
  rw [Bool.and_eq_true] at h
  have h1 := curB_iff.1 h.2
  refine ⟨h1.1, fun i => ?_⟩
  by_cases hi : i < xs.length
  · exact h1.2 i hi
  · unfold fI
    rw [List.getElem?_eq_none (by omega)]
    simp
end Go.Proofs.YtpkonifeieepfaaGreat
