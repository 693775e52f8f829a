/-
money.Split, the walk: what it answers for every amount and every weights.
-/
import Derived.Test.YtahpoikbnjhkgaaMoneyC
import Derived.Test.YtahpoikbnjhkgaaSortE
import Derived.Test.YtahpoikbnjhkgaaMoneyMath
import Derived.Laws.EntriesVeiled
namespace Go.Proofs.Ytahpoikbnjhkgaa
open Go.RowKit

/-- The weights are a list that can be read. -/
def wOk (ws : List Int) : Bool := ws.all (fun x => inB x 0 1000000)
def sumL (ws : List Int) : Int := ws.foldl (· + ·) 0
theorem sumL_snoc (ws : List Int) (x : Int) : sumL (ws ++ [x]) = sumL ws + x := by unfold sumL; rw [List.foldl_append]; rfl
theorem wOk_snoc (ws : List Int) (x : Int) : wOk (ws ++ [x]) = (wOk ws && inB x 0 1000000) := by unfold wOk; simp
theorem wOk_take {ws : List Int} {k : Nat} {x : Int} (hx : ws[k]? = some x) (h : inB x 0 1000000 = false) : wOk ws = false := by
  unfold wOk; rw [List.all_eq_false]
  exact ⟨x, List.mem_of_getElem? hx, by simp [h]⟩
theorem sumL_bd {ws : List Int} (h : wOk ws = true) : 0 ≤ sumL ws ∧ sumL ws ≤ ws.length * 1000000 := by
  have gen : ∀ (l : List Int) (a : Int), wOk l = true → a ≤ l.foldl (· + ·) a ∧ l.foldl (· + ·) a ≤ a + l.length * 1000000 := by
    intro l
    induction l with
    | nil => intro a _; simp
    | cons x l ih =>
      intro a hl
      unfold wOk at hl ih
      rw [List.all_cons, Bool.and_eq_true_iff] at hl
      have hx := inB_of hl.1
      have := ih (a + x) hl.2
      simp only [List.foldl_cons, List.length_cons]
      omega
  have := gen ws 0 h
  unfold sumL
  omega
/-- The world of Split while it sums up: its four variables. -/
structure SpW (w : World) (b0 b1 b2 b3 : Nat) (A : Int) (a0 : Option Addr) (n cap : Nat) (s : Int) (wr : World) : Prop where
  oa : Own wr b0 3 1 (fun _ => .int .i64 A)
  ow : Own wr b1 22 1 (fun _ => .slice a0 n cap)
  oe : Own wr b2 24 1 (fun _ => .int .i64 0)
  os : Own wr b3 3 1 (fun _ => .int .i64 s)
  bel : Below w.heap.size w wr
/-- The four blocks are new, and four. -/
structure Four (h b0 b1 b2 b3 : Nat) : Prop where
  e0 : b0 = h
  e1 : b1 = h + 1
  e2 : b2 = h + 1 + 1
  e3 : b3 = h + 1 + 1 + 1
theorem SpW.set {w : World} {b0 b1 b2 b3 : Nat} {A : Int} {a0 : Option Addr} {n cap : Nat} {s : Int} {wr : World} (H : SpW w b0 b1 b2 b3 A a0 n cap s wr) (hf : Four w.heap.size b0 b1 b2 b3) (t : Int) : SpW w b0 b1 b2 b3 A a0 n cap t (wr.setCell ⟨b3, 0, none⟩ (.int .i64 t)) where
  oa := H.oa.other (by have := hf.e0; have := hf.e3; show b0 ≠ b3; omega) _
  ow := H.ow.other (by have := hf.e1; have := hf.e3; show b1 ≠ b3; omega) _
  oe := H.oe.other (by have := hf.e2; have := hf.e3; show b2 ≠ b3; omega) _
  os := (H.os.set 0 _).congr (fun i hi => by rw [if_pos (by omega)])
  bel := H.bel.setCell (by have := hf.e3; show w.heap.size ≤ b3; omega) _
theorem SpW.start (w : World) (A : Int) (a0 : Option Addr) (n cap : Nat) : SpW w w.heap.size (w.heap.size + 1) (w.heap.size + 1 + 1) (w.heap.size + 1 + 1 + 1) A a0 n cap 0
    ((((w.alloc (.cells #[.int .i64 A] 3)).alloc (.cells #[.slice a0 n cap] 22)).alloc (.cells #[.int .i64 0] 24)).alloc (.cells #[.int .i64 0] 3)) where
  oa := ((((Own.new w 3 #[.int .i64 A] undef).alloc _).alloc _).alloc _).congr (fun i hi => by obtain rfl : i = 0 := (by simp at hi; omega); rfl)
  ow := by
    have := (((Own.new (w.alloc (.cells #[.int .i64 A] 3)) 22 #[.slice a0 n cap] undef).alloc (.cells #[.int .i64 0] 24)).alloc (.cells #[.int .i64 0] 3)).congr (f' := fun _ => .slice a0 n cap) (fun i hi => by obtain rfl : i = 0 := (by simp at hi; omega); rfl)
    simpa using this
  oe := by
    have := ((Own.new ((w.alloc (.cells #[.int .i64 A] 3)).alloc (.cells #[.slice a0 n cap] 22)) 24 #[.int .i64 0] undef).alloc (.cells #[.int .i64 0] 3)).congr (f' := fun _ => .int .i64 0) (fun i hi => by obtain rfl : i = 0 := (by simp at hi; omega); rfl)
    simpa using this
  os := by
    have := (Own.new (((w.alloc (.cells #[.int .i64 A] 3)).alloc (.cells #[.slice a0 n cap] 22)).alloc (.cells #[.int .i64 0] 24)) 3 #[.int .i64 0] undef).congr (f' := fun _ => .int .i64 0) (fun i hi => by obtain rfl : i = 0 := (by simp at hi; omega); rfl)
    simpa using this
  bel := by repeat (first | exact Below.refl _ _ | refine Below.alloc ?_ (by simp; try omega) _)

set_option maxHeartbeats 1000000 in
theorem mSplit_bad1 (A : Int) (ws : List Int) (a0 : Option Addr) (cap : Nat) (w : World) (h : (inB A 0 1000000000 && inB ws.length 1 32) = false) :
    Calls Try.prog 17 #[.int .i64 A, .slice a0 ws.length cap] w fun e w' => e = .returned (.tuple #[.slice none 0 0, .int .i64 1]) ∧ Below w.heap.size w w' := by
  have hmf : ∀ (fn : Fn) (first cap : Array Value) (w : World), (Instr.makeFunc fn first cap).run Try.prog w = .ok (.func fn first cap) w := fun _ _ _ _ => rfl
  cases h1 : inB A 0 1000000000 <;> cases h2 : inB ws.length 1 32 <;> simp only [h1, h2, Bool.and_self, Bool.true_eq_false] at h
  all_goals
    have H1 := Lib.hid h1
    have H2 := Lib.hid h2
    clear h1 h2 h
    go_enter_defers Try.func17, Try.ntmps17
    go_wp2_with (first | (go_at_call 23; refine (mIsAmount_any _ _).mono ?_; rintro e w' ⟨rfl, rfl⟩; rw [H1.out]) | (go_at_call 24; refine (mInside_any _ _ _ _).mono ?_; rintro e w' ⟨rfl, rfl⟩; rw [H2.out]) | (go_at_call 22; refine (mNeed_no _ _).mono ?_; rintro e w' ⟨rfl, rfl⟩))
    refine leaves_cons (f := 32) (args := #[.pointer (some ⟨w.heap.size + 2, 0, none⟩)]) (by simp) (by simp [go_sem]) ?_
    refine (mSplit1_stop (w.heap.size + 2) 0 1 _ ?_ ?_).mono ?_
    · simp [go_sem]
    · simp [go_sem]
    rintro e u' w'' ⟨rfl, rfl, rfl⟩
    simp [Leaves, settle, results, Try.results17, go_sem]
    repeat (first | exact Below.refl _ _ | refine Below.alloc ?_ (by simp; try omega) _ | refine Below.setCell ?_ (by simp; try omega) _)
/-- What Split answers: nothing and ErrArg, or a new list: the quotients, and one more for the first ones in the order of the rests. -/
def SplitPost (A : Int) (ws : List Int) (w : World) (e : Ending) (w' : World) : Prop :=
  if wOk ws = true ∧ 0 < sumL ws then
    ∃ (g : Nat) (o : Nat → Int), e = .returned (.tuple #[.slice (some ⟨g, 0, none⟩) ws.length ws.length, .int .i64 0]) ∧ w.heap.size ≤ g ∧ Sorts (keyV A (sumL ws) ws) 0 ws.length (fun i => (i : Int)) o ∧
      Own w' g 3 ws.length (fun i => .int .i64 (bumps o (qV A (sumL ws) ws) (leftV A (sumL ws) ws ws.length).toNat i)) ∧ Below w.heap.size w w'
  else e = .returned (.tuple #[.slice none 0 0, .int .i64 1]) ∧ Below w.heap.size w w'
theorem splitPost_bad {A : Int} {ws : List Int} {w : World} {e : Ending} {w' : World} (h : ¬ (wOk ws = true ∧ 0 < sumL ws)) (he : e = .returned (.tuple #[.slice none 0 0, .int .i64 1])) (hb : Below w.heap.size w w') : SplitPost A ws w e w' := by
  unfold SplitPost; rw [if_neg h]; exact ⟨he, hb⟩
theorem splitPost_ok {A S : Int} {ws : List Int} {n : Nat} {w : World} {e : Ending} {w' : World} (h : wOk ws = true ∧ 0 < sumL ws) (hS : S = sumL ws) (hn : n = ws.length) (g : Nat) (o : Nat → Int)
    (he : e = .returned (.tuple #[.slice (some ⟨g, 0, none⟩) n n, .int .i64 0])) (hg : w.heap.size ≤ g) (ho : Sorts (keyV A S ws) 0 n (fun i => (i : Int)) o) (hown : Own w' g 3 n (fun i => .int .i64 (bumps o (qV A S ws) (leftV A S ws n).toNat i))) (hb : Below w.heap.size w w') : SplitPost A ws w e w' := by
  subst hS hn
  unfold SplitPost; rw [if_pos h]; exact ⟨g, o, he, hg, ho, hown, hb⟩
/-- The world of Split with its two new lists. -/
structure SpV (w : World) (b0 b1 b2 b3 go gr : Nat) (A : Int) (a0 : Option Addr) (n cap : Nat) (s : Int) (fo fr : Nat → Int) (wr : World) : Prop where
  v : SpW w b0 b1 b2 b3 A a0 n cap s wr
  oo : Own wr go 3 n (fun i => .int .i64 (fo i))
  or : Own wr gr 3 n (fun i => .int .i64 (fr i))
structure Six (h b0 b1 b2 b3 go gr : Nat) : Prop where
  f : Four h b0 b1 b2 b3
  lo : b3 < go
  lt : go < gr
theorem SpW.other {w : World} {b0 b1 b2 b3 : Nat} {A : Int} {a0 : Option Addr} {n cap : Nat} {s : Int} {wr : World} (H : SpW w b0 b1 b2 b3 A a0 n cap s wr) (hf : Four w.heap.size b0 b1 b2 b3) {g : Nat} (hg : b3 < g) (i : Nat) (v : Value) : SpW w b0 b1 b2 b3 A a0 n cap s (wr.setCell ⟨g, i, none⟩ v) where
  oa := H.oa.other (by have := hf.e0; have := hf.e3; show b0 ≠ g; omega) _
  ow := H.ow.other (by have := hf.e1; have := hf.e3; show b1 ≠ g; omega) _
  oe := H.oe.other (by have := hf.e2; have := hf.e3; show b2 ≠ g; omega) _
  os := H.os.other (by show b3 ≠ g; omega) _
  bel := H.bel.setCell (by have := hf.e3; show w.heap.size ≤ g; omega) _
theorem SpW.alloc {w : World} {b0 b1 b2 b3 : Nat} {A : Int} {a0 : Option Addr} {n cap : Nat} {s : Int} {wr : World} (H : SpW w b0 b1 b2 b3 A a0 n cap s wr) (o : Obj) : SpW w b0 b1 b2 b3 A a0 n cap s (wr.alloc o) where
  oa := H.oa.alloc o
  ow := H.ow.alloc o
  oe := H.oe.alloc o
  os := H.os.alloc o
  bel := H.bel.alloc (Nat.le_trans (Nat.le_refl _) H.bel.size) o
theorem SpW.mod {w : World} {b0 b1 b2 b3 : Nat} {A : Int} {a0 : Option Addr} {n cap : Nat} {s : Int} {wr w' : World} (H : SpW w b0 b1 b2 b3 A a0 n cap s wr) (hf : Four w.heap.size b0 b1 b2 b3) {g : Nat} (hg : b3 < g) (hm : Mod (fun k => k = g) wr w') : SpW w b0 b1 b2 b3 A a0 n cap s w' where
  oa := H.oa.mod hm (by have := hf.e0; have := hf.e3; omega)
  ow := H.ow.mod hm (by have := hf.e1; have := hf.e3; omega)
  oe := H.oe.mod hm (by have := hf.e2; have := hf.e3; omega)
  os := H.os.mod hm (by omega)
  bel := H.bel.trans (hm.below (B := w.heap.size) H.bel.size (fun k _ e => by have := hf.e3; omega))
theorem SpV.step {w : World} {b0 b1 b2 b3 go gr : Nat} {A : Int} {a0 : Option Addr} {n cap : Nat} {s : Int} {fo fr : Nat → Int} {wr : World} (H : SpV w b0 b1 b2 b3 go gr A a0 n cap s fo fr wr) (hf : Six w.heap.size b0 b1 b2 b3 go gr) (i : Nat) (x y : Int) :
    SpV w b0 b1 b2 b3 go gr A a0 n cap s (fun j => if j = i then x else fo j) (fun j => if j = i then y else fr j) ((wr.setCell ⟨go, i, none⟩ (.int .i64 x)).setCell ⟨gr, i, none⟩ (.int .i64 y)) where
  v := (H.v.other hf.f hf.lo i _).other hf.f (Nat.lt_trans hf.lo hf.lt) i _
  oo := ((H.oo.set i (.int .i64 x)).other (by have := hf.lt; show go ≠ gr; omega) _).congr (fun j _ => by split <;> rfl)
  or := ((H.or.other (by have := hf.lt; show gr ≠ go; omega) _).set i (.int .i64 y)).congr (fun j _ => by split <;> rfl)
theorem SpV.bump {w : World} {b0 b1 b2 b3 go gr : Nat} {A : Int} {a0 : Option Addr} {n cap : Nat} {s : Int} {fo fr : Nat → Int} {wr : World} (H : SpV w b0 b1 b2 b3 go gr A a0 n cap s fo fr wr) (hf : Six w.heap.size b0 b1 b2 b3 go gr) (i : Nat) (x : Int) :
    SpV w b0 b1 b2 b3 go gr A a0 n cap s (fun j => if j = i then x else fo j) fr (wr.setCell ⟨go, i, none⟩ (.int .i64 x)) where
  v := H.v.other hf.f hf.lo i _
  oo := (H.oo.set i (.int .i64 x)).congr (fun j _ => by split <;> rfl)
  or := H.or.other (by have := hf.lt; show gr ≠ go; omega) _
theorem SpV.congr {w : World} {b0 b1 b2 b3 go gr : Nat} {A : Int} {a0 : Option Addr} {n cap : Nat} {s : Int} {fo fr fo' fr' : Nat → Int} {wr : World} (H : SpV w b0 b1 b2 b3 go gr A a0 n cap s fo fr wr) (h1 : ∀ i, i < n → fo i = fo' i) (h2 : ∀ i, i < n → fr i = fr' i) :
    SpV w b0 b1 b2 b3 go gr A a0 n cap s fo' fr' wr :=
  ⟨H.v, H.oo.congr (fun i hi => by rw [h1 i hi]), H.or.congr (fun i hi => by rw [h2 i hi])⟩
theorem sumL_take (ws : List Int) (k : Nat) (hk : k ≤ ws.length) : sumL (ws.take k) = sumF (wt ws) k := by
  induction k with
  | zero => simp [sumL, sumF]
  | succ k ih =>
    have hx : ws[k]? = some ws[k] := List.getElem?_eq_getElem (by omega)
    rw [take_snoc hx, sumL_snoc, ih (by omega)]
    simp only [sumF, wt, hx, Option.getD_some]
theorem wOk_wt {ws : List Int} (h : wOk ws = true) (i : Nat) : 0 ≤ wt ws i ∧ wt ws i ≤ 1000000 := by
  unfold wt
  by_cases hi : i < ws.length
  · rw [List.getElem?_eq_getElem hi, Option.getD_some]
    exact inB_of (List.all_eq_true.1 h _ (List.getElem_mem hi))
  · rw [List.getElem?_eq_none (by omega)]; simp
set_option maxRecDepth 100000 in
set_option maxHeartbeats 4000000 in
theorem mSplit_main (A : Int) (ws : List Int) (a0 : Option Addr) (cap : Nat) (w : World) (h1 : inB A 0 1000000000 = true) (h2 : inB ws.length 1 32 = true) (hr : Rd 1 encI w a0 ws) :
    Calls Try.prog 17 #[.int .i64 A, .slice a0 ws.length cap] w (SplitPost A ws w) := by
  have hmf : ∀ (fn : Fn) (first cap : Array Value) (w : World), (Instr.makeFunc fn first cap).run Try.prog w = .ok (.func fn first cap) w := fun _ _ _ _ => rfl
  obtain ⟨A0, A1⟩ := inB_of h1
  obtain ⟨n0, n1⟩ := inB_of h2
  have H1 := Lib.hid h1
  have H2 := Lib.hid h2
  have HR := Lib.hid hr
  clear h1 h2 hr
  obtain ⟨n, hn⟩ : ∃ n, n = ws.length := ⟨_, rfl⟩
  rw [← hn] at n0 n1 H2 ⊢
  have HN := Lib.hid hn
  clear hn
  obtain ⟨b0, b1, b2, b3, hf⟩ : ∃ b0 b1 b2 b3, Four w.heap.size b0 b1 b2 b3 := ⟨_, _, _, _, rfl, rfl, rfl, rfl⟩
  have HF := Lib.hid hf
  clear hf
  go_enter_defers Try.func17, Try.ntmps17
  go_wp2_with (first | (go_at_call 23; refine (mIsAmount_any _ _).mono ?_; rintro e w' ⟨rfl, rfl⟩; rw [H1.out]) | (go_at_call 24; refine (mInside_any _ _ _ _).mono ?_; rintro e w' ⟨rfl, rfl⟩; rw [H2.out]) | (go_at_call 22; refine (mNeed_yes _ _).mono ?_; rintro e w' ⟨rfl, rfl⟩))
  rw [← HF.out.e3, ← HF.out.e2, ← HF.out.e1, ← HF.out.e0]
  refine wp_world (fun W => SpW w b0 b1 b2 b3 A a0 n cap 0 W) (by have := SpW.start w A a0 n cap; rw [← HF.out.e3, ← HF.out.e2, ← HF.out.e1, ← HF.out.e0] at this; exact this) ?_
  intro W0 HW
  have S0 := Lib.hid HW
  clear HW
  go_loopg [8, 28] n (fun g1 v8 v28 wr => ∃ k : Nat, v28 = .int .i64 k ∧ k ≤ n ∧ n - k ≤ g1 ∧ Hid (wOk (ws.take k) = true) ∧ Hid (SpW w b0 b1 b2 b3 A a0 n cap (sumL (ws.take k)) wr))
  case atStart => exact ⟨0, by go_num, by omega, by omega, Lib.hid (by simp [wOk]), S0⟩
  case round =>
    clear S0
    obtain ⟨k, rfl, hk, hg1, HO, S1⟩ := hrel
    have hsb := sumL_bd HO.out
    have hlk : (ws.take k).length ≤ k := List.length_take_le _ _
    obtain ⟨s, hs⟩ : ∃ s, s = sumL (ws.take k) := ⟨_, rfl⟩
    rw [← hs] at S1 hsb
    have HS := Lib.hid hs
    clear hs
    have hs0 : 0 ≤ s := hsb.1
    have hs1 : s ≤ 32000000 := by have := hsb.2; omega
    clear hsb hlk
    have ce := S1.out.oe.cell (i := 0) (by omega)
    have fe := S1.out.oe.frozen 0
    have cs := S1.out.os.cell (i := 0) (by omega)
    have fs := S1.out.os.frozen 0
    by_cases hlt : k < n
    · have hltz : (k : Int) < (n : Int) := by omega
      obtain ⟨b, off, x, hA, hbl, hx, hc⟩ := (HR.out.keep S1.out.bel).at_ (k := k) (by rw [← HN.out]; exact hlt)
      have hc0 := hc 0 _ rfl
      rw [Nat.mul_one, Nat.add_zero] at hc0
      subst hA
      clear hc
      have HX := Lib.hid hx
      clear hx
      cases hin : inB x 0 1000000 with
      | true =>
        obtain ⟨x0, x1⟩ := inB_of hin
        have HI := Lib.hid hin
        clear hin
        have S2 := Lib.hid (S1.out.set HF.out (s + x))
        clear S1
        go_wp2_with (first | (go_at_call 24; refine (mInside_any _ _ _ _).mono ?_; rintro e w' ⟨rfl, rfl⟩; rw [HI.out]) | (go_at_call 22; refine (mNeed_yes _ _).mono ?_; rintro e w' ⟨rfl, rfl⟩))
        clear ce fe cs fs hc0 hbl
        generalize wr.setCell ⟨b3, 0, none⟩ (.int .i64 (s + x)) = w2 at S2 ⊢
        go_roundg (n - (k + 1))
        case measure => omega
        case rel => exact ⟨k + 1, by go_num, by omega, by omega, Lib.hid (by rw [take_snoc HX.out, wOk_snoc, HO.out, HI.out]; rfl), by rw [take_snoc HX.out, sumL_snoc, ← HS.out]; exact S2⟩
      | false =>
        have HI := Lib.hid hin
        have HP := Lib.hid (wOk_take HX.out hin)
        clear hin
        have hbel := Lib.hid S1.out.bel
        clear S1
        go_wp2_with (first | (go_at_call 24; refine (mInside_any _ _ _ _).mono ?_; rintro e w' ⟨rfl, rfl⟩; rw [HI.out]) | (go_at_call 22; refine (mNeed_no _ _).mono ?_; rintro e w' ⟨rfl, rfl⟩))
        refine leaves_cons (f := 32) (args := #[.pointer (some ⟨b2, 0, none⟩)]) (by simp) (by simp [go_sem]) ?_
        refine (mSplit1_stop b2 0 1 _ ce fe).mono ?_
        rintro e u' w'' ⟨rfl, rfl, rfl⟩
        have hb2 : w.heap.size ≤ b2 := by have := HF.out.e2; omega
        have cz : (wr.setCell ⟨b2, 0, none⟩ (.int .i64 1)).cell? ⟨b2, 0, none⟩ = some (.int .i64 1) := World.cell?_setCell_same _ _ _ ce
        have hlb : b2 < wr.heap.size := lt_of_cell ce
        simp [Leaves, settle, results, Try.results17, go_sem, cz, hlb]
        exact splitPost_bad (fun x => by rw [HP.out] at x; cases x.1) rfl ((hbel.out.setCell hb2 _).alloc (by simpa using hbel.out.size) _)
    · have hltz : ¬ (k : Int) < (n : Int) := by omega
      have HE : Hid (s = sumL ws) := Lib.hid (by rw [HS.out, List.take_of_length_le (by rw [← HN.out]; omega)])
      have HOK : Hid (wOk ws = true) := Lib.hid (by have := HO.out; rwa [List.take_of_length_le (by rw [← HN.out]; omega)] at this)
      clear HS HO hk hg1
      by_cases hpos : 0 < s
      · have ca := S1.out.oa.cell (i := 0) (by omega)
        have cw := S1.out.ow.cell (i := 0) (by omega)
        have hmk := mk_row (P := Try.prog) 22 3 (.int .i64 0) 1 8 Try.underlying22 (by kernel_rfl) (n : Int) (by omega) (by omega) (by omega)
        have hnn : ((n : Int)).toNat = n := by omega
        rw [hnn, Nat.mul_one] at hmk
        have l0 := lt_of_cell ca
        have l1 := lt_of_cell cw
        have l2 := lt_of_cell ce
        have l3 := lt_of_cell cs
        have d0 : b0 ≠ wr.heap.size := by omega
        have d1 : b1 ≠ wr.heap.size := by omega
        have d0' : b0 ≠ wr.heap.size + 1 := by omega
        have d1' : b1 ≠ wr.heap.size + 1 := by omega
        go_wp2_with (first | (go_at_call 22; refine (mNeed_yes _ _).mono ?_; rintro e w' ⟨rfl, rfl⟩))
        obtain ⟨go, gr, hgo, hgr⟩ : ∃ go gr, go = wr.heap.size ∧ gr = wr.heap.size + 1 := ⟨_, _, rfl, rfl⟩
        have HX : Hid (Six w.heap.size b0 b1 b2 b3 go gr) := Lib.hid ⟨HF.out, by omega, by omega⟩
        have HV : SpV w b0 b1 b2 b3 go gr A a0 n cap s (fun _ => 0) (fun _ => 0) ((wr.alloc (.cells (madeCells #[.int .i64 0] n) 3)).alloc (.cells (madeCells #[.int .i64 0] n) 3)) := by
          refine ⟨(S1.out.alloc _).alloc _, ?_, ?_⟩
          · rw [hgo]
            have := (Own.made1 wr 3 (.int .i64 0) n).alloc (.cells (madeCells #[.int .i64 0] n) 3)
            rwa [Nat.mul_one] at this
          · rw [hgr]
            have := Own.made1 (wr.alloc (.cells (madeCells #[.int .i64 0] n) 3)) 3 (.int .i64 0) n
            rw [Nat.mul_one] at this
            simpa using this
        rw [← hgr, ← hgo]
        clear hgo hgr ca cw ce fe cs fs l0 l1 l2 l3 d0 d1 d0' d1' hmk hnn S1
        refine wp_world (fun W => SpV w b0 b1 b2 b3 go gr A a0 n cap s (fun _ => 0) (fun _ => 0) W) HV ?_
        clear HV
        intro W1 HV
        have S1 := Lib.hid HV
        clear HV
        have HWT := Lib.hid (wOk_wt HOK.out)
        go_loopg [11, 12, 13, 51] n (fun g1 v11 v12 v13 v51 wr => ∃ k : Nat, v51 = .int .i64 k ∧ k ≤ n ∧ n - k ≤ g1 ∧ v11 = .int .i64 (leftV A s ws k) ∧ Hid (SpV w b0 b1 b2 b3 go gr A a0 n cap s (fun i => if i < k then qV A s ws i else 0) (fun i => if i < k then (i : Int) else 0) wr))
        case atStart => exact ⟨0, by go_num, by omega, by omega, by simp [leftV, sumF], by simpa using S1⟩
        case round =>
          clear S1
          obtain ⟨k, rfl, hk, hg1, rfl, S1⟩ := hrel
          by_cases hlt : k < n
          · have hltz : (k : Int) < (n : Int) := by omega
            obtain ⟨b, off, x, hA, hbl, hx, hc⟩ := (HR.out.keep S1.out.v.bel).at_ (k := k) (by rw [← HN.out]; exact hlt)
            have hc0 := hc 0 _ rfl
            rw [Nat.mul_one, Nat.add_zero] at hc0
            subst hA
            clear hc
            obtain ⟨x0, x1⟩ : 0 ≤ x ∧ x ≤ 1000000 := by have := HWT.out k; unfold wt at this; rw [hx] at this; exact this
            have HQ : Hid (qV A s ws k = A * x / s) := Lib.hid (by unfold qV wt; rw [hx]; rfl)
            clear hx
            obtain ⟨m0, m1⟩ := mul_bd A0 A1 x0 (by omega)
            obtain ⟨r0, r1⟩ := left_rough A0 A1 hpos HWT.out k (by omega)
            have q0 : 0 ≤ A * x / s := Int.ediv_nonneg m0 (by omega)
            have q1 : A * x / s ≤ 1000000000000000000 := Int.le_trans (Int.ediv_le_self _ m0) m1
            have ca := S1.out.v.oa.cell (i := 0) (by omega)
            have cs := S1.out.v.os.cell (i := 0) (by omega)
            have co := S1.out.oo.cell (i := k) hlt
            have cr := S1.out.or.cell (i := k) hlt
            have fo := S1.out.oo.frozen k
            have fr := S1.out.or.frozen k
            have S2 := Lib.hid (S1.out.step HX.out k (A * x / s) (k : Int))
            have dd : go ≠ gr := by have := HX.out.lt; omega
            have dd' : gr ≠ go := by omega
            have HL : Hid (leftV A s ws (k + 1) = leftV A s ws k - A * x / s) := Lib.hid (by rw [left_succ, HQ.out])
            have c1 := (S1.out.oo.set k (.int .i64 (A * x / s))).cell (i := k) hlt
            have c2 := S2.out.oo.cell (i := k) hlt
            rw [if_pos rfl] at c1 c2
            rw [if_neg (by omega)] at co cr
            clear S1
            generalize leftV A s ws k = lk at *
            go_wp2
            clear ca cs co cr fo fr c1 c2 hc0 hbl
            generalize (wr.setCell ⟨go, k, none⟩ (.int .i64 (A * x / s))).setCell ⟨gr, k, none⟩ (.int .i64 (k : Int)) = w2 at S2 ⊢
            go_roundg (n - (k + 1))
            case measure => omega
            case rel => exact ⟨k + 1, by go_num, by omega, by omega, by rw [HL.out], Lib.hid (S2.out.congr (fun i _ => by
                by_cases c : i = k
                · subst c; rw [if_pos rfl, if_pos (by omega), HQ.out]
                · rw [if_neg c]
                  by_cases d : i < k
                  · rw [if_pos d, if_pos (by omega)]
                  · rw [if_neg d, if_neg (by omega)]) (fun i _ => by
                by_cases c : i = k
                · subst c; rw [if_pos rfl, if_pos (by omega)]
                · rw [if_neg c]
                  by_cases d : i < k
                  · rw [if_pos d, if_pos (by omega)]
                  · rw [if_neg d, if_neg (by omega)]))⟩
          · have hltz : ¬ (k : Int) < (n : Int) := by omega
            obtain rfl : n = k := by omega
            have S2 := Lib.hid (S1.out.congr (fo' := qV A s ws) (fr' := fun i => (i : Int)) (fun i hi => by rw [if_pos hi]) (fun i hi => by rw [if_pos hi]))
            clear S1
            have HSUM : Hid (sumF (wt ws) n = s) := Lib.hid (by rw [HE.out, ← sumL_take ws n (by rw [HN.out]; exact Nat.le_refl _), List.take_of_length_le (by rw [HN.out]; exact Nat.le_refl _)])
            obtain ⟨L0, L1⟩ := left_bd (A := A) hpos HSUM.out (by omega)
            obtain ⟨lf, hlf⟩ : ∃ lf : Nat, leftV A s ws n = (lf : Int) := ⟨(leftV A s ws n).toNat, by omega⟩
            rw [hlf] at L0 L1 ⊢
            have HLF := Lib.hid hlf
            clear hlf
            go_wp2_with fail
            obtain ⟨gc, hgc⟩ : ∃ gc, gc = wr.heap.size := ⟨_, rfl⟩
            have HGC : Hid (gr < gc) := Lib.hid (by rw [hgc]; exact S2.out.or.lt)
            obtain ⟨W2, hW2⟩ : ∃ W2, W2 = wr.alloc (.cells #[.func (.func 33) #[] #[.pointer (some ⟨b0, 0, none⟩), .pointer (some ⟨b1, 0, none⟩), .pointer (some ⟨b3, 0, none⟩)]] 40) := ⟨_, rfl⟩
            have S3 : SpV w b0 b1 b2 b3 go gr A a0 n cap s (qV A s ws) (fun i => (i : Int)) W2 := by rw [hW2]; exact ⟨S2.out.v.alloc _, S2.out.oo.alloc _, S2.out.or.alloc _⟩
            have HCC : W2.cell? ⟨gc, 0, none⟩ = some (.func (.func 33) #[] #[.pointer (some ⟨b0, 0, none⟩), .pointer (some ⟨b1, 0, none⟩), .pointer (some ⟨b3, 0, none⟩)]) := by
              rw [hW2, hgc]; exact (Own.new wr 40 _ undef).cell (i := 0) (by simp)
            rw [← hgc, ← hW2]
            clear hW2 hgc S2
            have HCTX : SpCtx A s ws b0 b1 b3 gc cap a0 W2 := 
              { hA := A0, hA2 := A1, hS := hpos, hS2 := by omega, hl := by rw [← HN.out]; omega, hw := fun x hx => inB_of (List.all_eq_true.1 HOK.out x hx),
                ca := S3.v.oa.cell (i := 0) (by omega), cw := by rw [← HN.out]; exact S3.v.ow.cell (i := 0) (by omega), cs := S3.v.os.cell (i := 0) (by omega), cc := HCC, hr := HR.out.keep S3.v.bel }
            have hsix := HX.out
            have hfour := hsix.f
            have HCMP : CmpOk (keyV A s ws) (fun x => 0 ≤ x ∧ x < (n : Int)) gc gr W2 := by
              intro W hm x y hx hy
              obtain ⟨i, rfl⟩ : ∃ i : Nat, x = (i : Int) := ⟨x.toNat, by omega⟩
              obtain ⟨j, rfl⟩ : ∃ j : Nat, y = (j : Int) := ⟨y.toNat, by omega⟩
              have hctx : SpCtx A s ws b0 b1 b3 gc cap a0 W := HCTX.mod hm (by have := hfour.e0; have := hfour.e3; have := hsix.lo; have := hsix.lt; omega) (by have := hfour.e1; have := hfour.e3; have := hsix.lo; have := hsix.lt; omega) (by have := hsix.lo; have := hsix.lt; omega) (by have := HGC.out; omega)
                (fun a ha hl => by
                  obtain ⟨b, off, e, hlt, _⟩ := HR.out hl
                  rw [ha] at e
                  obtain rfl := Option.some.inj e
                  have := hfour.e3; have := hsix.lo; have := hsix.lt
                  show ¬ b = gr
                  omega)
              exact mCmp_any hctx i j (by rw [← HN.out]; omega) (by rw [← HN.out]; omega)
            have S3' := Lib.hid S3
            have HCMP' := Lib.hid HCMP
            clear S3 HCMP HCTX HCC hsix hfour
            refine (sSort_any (keyV A s ws) _ gc gr n n (fun i => (i : Int)) W2 _ HCMP'.out ⟨S3'.out.or, Mod.refl _ _⟩ (by omega) (fun k hk => ⟨by omega, by omega⟩) (fun p q _ h _ => by show (p : Int) < (q : Int); omega)).mono ?_
            rintro e W3 ⟨rfl, o, HS, HSW⟩
            have HO := Lib.hid HS
            have S4 : Hid (SpV w b0 b1 b2 b3 go gr A a0 n cap s (qV A s ws) o W3) := Lib.hid ⟨S3'.out.v.mod HX.out.f (Nat.lt_trans HX.out.lo HX.out.lt) HSW.mod, S3'.out.oo.mod HSW.mod (by have := HX.out.lt; omega), HSW.own⟩
            clear HS HSW S3' HCMP'
            go_wp2
            go_loopg [16, 83] n (fun g1 v16 v83 wr => ∃ k : Nat, v83 = .int .i64 k ∧ k ≤ lf ∧ lf - k ≤ g1 ∧ Hid (SpV w b0 b1 b2 b3 go gr A a0 n cap s (bumps o (qV A s ws) k) o wr))
            case atStart => exact ⟨0, by go_num, by omega, by omega, S4⟩
            case round =>
              clear S4
              obtain ⟨k, rfl, hk, hg1, S1⟩ := hrel
              by_cases hlt : k < lf
              · have hltz : (k : Int) < (lf : Int) := by omega
                obtain ⟨j, _, j1, ej⟩ := HO.out.mem (k := k) (by omega) (by omega)
                have cr := S1.out.or.cell (i := k) (by omega)
                have ej' : o k = (j : Int) := ej
                rw [ej'] at cr
                have HJ := Lib.hid ej'
                clear ej ej'
                have hjz : (j : Int) < (n : Int) := by omega
                have co := S1.out.oo.cell (i := j) j1
                have fo := S1.out.oo.frozen j
                obtain ⟨u0, u1⟩ := bumps_bd o (qV A s ws) k j
                have q0 := q_nonneg (ws := ws) (i := j) A0 hpos (HWT.out j).1
                have q1 := q_le (S := s) (ws := ws) (i := j) A0 A1 (HWT.out j).1 (HWT.out j).2
                have S2 := Lib.hid (S1.out.bump HX.out j (bumps o (qV A s ws) k j + 1))
                clear S1
                have HB : Hid (∀ i, (if i = j then bumps o (qV A s ws) k j + 1 else bumps o (qV A s ws) k i) = bumps o (qV A s ws) (k + 1) i) := Lib.hid (fun i => by
                  simp only [bumps]; rw [HJ.out]
                  by_cases c : i = j
                  · subst c; rw [if_pos rfl, if_pos rfl]
                  · rw [if_neg c, if_neg (by omega)])
                have v0 : 0 ≤ bumps o (qV A s ws) k j := by omega
                have v1 : bumps o (qV A s ws) k j ≤ 2000000000000000 := by omega
                clear u0 u1 q0 q1
                obtain ⟨t, ht⟩ : ∃ t, t = bumps o (qV A s ws) k j := ⟨_, rfl⟩
                rw [← ht] at v0 v1 co S2 HB
                clear ht
                go_wp2
                clear cr co fo
                generalize wr.setCell ⟨go, j, none⟩ (.int .i64 (t + 1)) = w2 at S2 ⊢
                go_roundg (lf - (k + 1))
                case measure => omega
                case rel => exact ⟨k + 1, by go_num, by omega, by omega, Lib.hid (S2.out.congr (fun i _ => HB.out i) (fun _ _ => rfl))⟩
              · have hltz : ¬ (k : Int) < (lf : Int) := by omega
                obtain rfl : lf = k := by omega
                have ce := S1.out.v.oe.cell (i := 0) (by omega)
                have fe := S1.out.v.oe.frozen 0
                have hb2 : w.heap.size ≤ b2 := by have := HX.out.f.e2; omega
                have HFIN : Hid (Own (wr.setCell ⟨b2, 0, none⟩ (.int .i64 0)) go 3 n (fun i => .int .i64 (bumps o (qV A s ws) (leftV A s ws n).toNat i)) ∧ Below w.heap.size w (wr.setCell ⟨b2, 0, none⟩ (.int .i64 0))) := Lib.hid
                  ⟨by rw [HLF.out, Int.toNat_natCast]; exact S1.out.oo.other (by have := HX.out.f.e2; have := HX.out.f.e3; have := HX.out.lo; show go ≠ b2; omega) _, S1.out.v.bel.setCell hb2 _⟩
                have cz : (wr.setCell ⟨b2, 0, none⟩ (.int .i64 0)).cell? ⟨b2, 0, none⟩ = some (.int .i64 0) := World.cell?_setCell_same _ _ _ ce
                have hgo : w.heap.size ≤ go := by have := HX.out.f.e3; have := HX.out.lo; omega
                clear S1
                go_wp2
                refine leaves_cons (f := 32) (args := #[.pointer (some ⟨b2, 0, none⟩)]) (by simp) (by simp [go_sem]) ?_
                refine (mSplit1_idle ⟨b2, 0, none⟩ _).mono ?_
                rintro e u' w'' ⟨rfl, rfl, rfl⟩
                generalize wr.setCell ⟨b2, 0, none⟩ (.int .i64 0) = w2 at *
                simp [Leaves, settle, results, Try.results17, go_sem, cz]
                exact splitPost_ok ⟨HOK.out, by rw [← HE.out]; exact hpos⟩ HE.out HN.out go o rfl hgo HO.out HFIN.out.1 HFIN.out.2
      · have hbel := Lib.hid S1.out.bel
        clear S1
        go_wp2_with (first | (go_at_call 22; refine (mNeed_no _ _).mono ?_; rintro e w' ⟨rfl, rfl⟩))
        refine leaves_cons (f := 32) (args := #[.pointer (some ⟨b2, 0, none⟩)]) (by simp) (by simp [go_sem]) ?_
        refine (mSplit1_stop b2 0 1 _ ce fe).mono ?_
        rintro e u' w'' ⟨rfl, rfl, rfl⟩
        have hb2 : w.heap.size ≤ b2 := by have := HF.out.e2; omega
        have cz : (wr.setCell ⟨b2, 0, none⟩ (.int .i64 1)).cell? ⟨b2, 0, none⟩ = some (.int .i64 1) := World.cell?_setCell_same _ _ _ ce
        have hlb : b2 < wr.heap.size := lt_of_cell ce
        simp [Leaves, settle, results, Try.results17, go_sem, cz, hlb]
        exact splitPost_bad (fun x => by have := x.2; rw [← HE.out] at this; omega) rfl ((hbel.out.setCell hb2 _).alloc (by simpa using hbel.out.size) _)
/-- Split, whatever it is given. -/
def splitOk (A : Int) (ws : List Int) : Bool := inB A 0 1000000000 && inB ws.length 1 32 && wOk ws && decide (0 < sumL ws)
end Go.Proofs.Ytahpoikbnjhkgaa
