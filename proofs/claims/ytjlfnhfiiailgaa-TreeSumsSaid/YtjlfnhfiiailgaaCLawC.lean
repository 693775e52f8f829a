/-
Words for the laws with currents: lists of currents given by a function, their loads.
-/
import Derived.Test.YtjlfnhfiiailgaaCLawW2
namespace Go.Proofs.Ytjlfnhfiiailgaa
open Go.RowKit
set_option linter.unusedVariables false
set_option linter.unusedSimpArgs false
theorem u8L_bd {bs : List Int} (h : ∀ x, x ∈ bs → (Lit.int .u8 x).wf = true) (i : Nat) : 0 ≤ fI bs i ∧ fI bs i ≤ 255 := by
  unfold fI
  cases hg : bs[i]? with
  | none => simp
  | some x =>
    have hx := h x (List.mem_of_getElem? hg)
    simp [Lit.wf, IntKind.min, IntKind.max, IntKind.signed, IntKind.bits] at hx
    simpa using hx
def ampL (f : Nat → Int) (n : Nat) : List Int := (List.range n).map f
theorem ampL_len (f : Nat → Int) (n : Nat) : (ampL f n).length = n := by unfold ampL; simp
theorem ampL_at (f : Nat → Int) {n i : Nat} (hi : i < n) : fI (ampL f n) i = f i := by
  unfold ampL fI
  rw [List.getElem?_map, List.getElem?_range hi]
  rfl
theorem Own.rdA {w : World} {g : Nat} {t : TypeId} {n : Nat} {f : Nat → Int} (h : Own w g t n (fun i => .int .i64 (f i))) : Rd 1 encI w (some ⟨g, 0, none⟩) (ampL f n) := by
  refine h.rd (by rw [ampL_len]; omega) (fun _ => rfl) (fun k x hx j v hv => ?_)
  have hj : j = 0 := by have := (List.getElem?_eq_some_iff.1 hv).1; simp [encI] at this; exact this
  subst hj
  have hk : k < n := by have := (List.getElem?_eq_some_iff.1 hx).1; rw [ampL_len] at this; exact this
  have e := ampL_at f hk
  unfold fI at e
  rw [hx] at e
  simp [encI] at hv
  rw [Nat.mul_one, Nat.add_zero, ← hv]
  have e2 : x = f k := e
  rw [e2]
theorem curB_amp {s : GSite} {f : Nat → Int} (h : ∀ i, i < s.chgs.length → 0 ≤ f i ∧ f i ≤ 80) : curB s (ampL f s.chgs.length) = true :=
  curB_iff.2 ⟨ampL_len _ _, fun i hi => by rw [ampL_len] at hi; rw [ampL_at f hi]; exact h i hi⟩
theorem loadS_congr {s : GSite} {f g : Nat → Int} {m : Nat} (h : ∀ i, i < m → f i = g i) (j : Nat) : loadS s f m j = loadS s g m j := by
  unfold loadS
  exact S_congr (fun i hi => by rw [h i hi])
theorem loadsO_amp {s : GSite} {f : Nat → Int} (hk : okSB keyL s = true) (h : ∀ i, i < s.chgs.length → 0 ≤ f i ∧ f i ≤ 80) : loadsO s (ampL f s.chgs.length) = (List.range s.cons.length).map (row3 (loadS s f s.chgs.length)) := by
  rw [loadsO_yes (loadB_yes hk (curB_amp h))]
  unfold loadsOf
  congr 1
  have e : loadS s (fI (ampL f s.chgs.length)) s.chgs.length = loadS s f s.chgs.length := funext (fun j => loadS_congr (fun i hi => ampL_at f hi) j)
  rw [e]
/-- One load, read. -/
theorem rd3_at {w : World} {A : Option Addr} {n : Nat} {F : Nat → Int} (h : Rd 3 enc3 w A ((List.range n).map (row3 F))) {k p : Nat} (hk : k < n) (hp : p < 3) : ∃ b off, A = some ⟨b, off, none⟩ ∧ b < w.heap.size ∧ w.cell? ⟨b, off + k * 3 + p, none⟩ = some (.int .i64 (F (k * 3 + p))) := by
  obtain ⟨b, off, e, hA, hb, hx, hc⟩ := h.at_ (k := k) (by simpa using hk)
  rw [List.getElem?_map, List.getElem?_range hk] at hx
  injection hx with hx
  subst hx
  refine ⟨b, off, hA, hb, ?_⟩
  match p, hp with
  | 0, _ => exact hc 0 _ rfl
  | 1, _ => exact hc 1 _ rfl
  | 2, _ => exact hc 2 _ rfl
/-- The law's loads, for a list of currents of the law's own. -/
def LaPost (w : World) (n1 : Nat) (F : Nat → Int) (e : Ending) (w' : World) : Prop := ∃ a c, e = .returned (.tuple #[.slice a n1 c, .bool true]) ∧ Rd 3 enc3 w' a ((List.range n1).map (row3 F)) ∧ Below w.heap.size w w'
theorem ltLoads_amp (a1 a2 a3 a4 a5 : Option Addr) (n1 c1 n2 c2 n3 c3 n4 c4 n5 c5 : Nat) (g cA : Nat) (s : GSite) (f : Nat → Int) (w : World) (HS : RdSite w a1 a2 a3 a4 a5 n1 n2 n3 n4 n5 s) (hk : okSB keyL s = true) (HO : Own w g 3 n4 (fun i => .int .i64 (f i))) (h : ∀ i, i < n4 → 0 ≤ f i ∧ f i ≤ 80) :
    Calls Try.prog 23 #[.agg #[.slice a1 n1 c1, .slice a2 n2 c2, .slice a3 n3 c3, .slice a4 n4 c4, .slice a5 n5 c5], .slice (some ⟨g, 0, none⟩) n4 cA] w fun e w' => LaPost w n1 (loadS s f n4) e w' := by
  have h4 := HS.l4
  have h1 := HS.l1
  have hn : n4 ≤ 16 := by have := (okSB_iff.1 hk).n5; omega
  refine (ltLoads_any a1 a2 a3 a4 a5 n1 c1 n2 c2 n3 c3 n4 c4 n5 c5 (some ⟨g, 0, none⟩) n4 cA s (ampL f n4) w (Lib.hid HS) (Lib.hid HO.rdA) (Lib.hid (ampL_len _ _)) (by omega)).mono ?_
  rintro e w' ⟨a, c, rfl, hr, hb⟩
  have e1 : loadsO s (ampL f n4) = (List.range n1).map (row3 (loadS s f n4)) := by
    have := loadsO_amp (s := s) (f := f) hk (by rw [h4]; exact h)
    rw [h4, h1] at this
    exact this
  have e2 : loadB s (ampL f n4) = true := by
    have := loadB_yes hk (curB_amp (s := s) (f := f) (by rw [h4]; exact h))
    rw [h4] at this
    exact this
  rw [e1] at hr
  refine ⟨a, c, ?_, hr, hb⟩
  rw [e1, e2, List.length_map, List.length_range]
theorem curF_bd {bs : List Int} (h : ∀ i, 0 ≤ fI bs i ∧ fI bs i ≤ 255) (i : Nat) : 0 ≤ curF bs i ∧ curF bs i ≤ 80 := by
  have := h i
  unfold curF
  split <;> omega
end Go.Proofs.Ytjlfnhfiiailgaa
