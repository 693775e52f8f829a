/-
Lists of loads that grow, and that are read.
-/
import Derived.Test.YtbjmpfchapggfaaGreatGLLimG
import Derived.Test.YtbjmpfchapggfaaGreatGLOpen
namespace Go.Proofs.YtbjmpfchapggfaaGreat
open Go.RowKit
set_option linter.unusedVariables false
set_option linter.unusedSimpArgs false
theorem encHT_one (h : HdT) (u : Value) (hu : u ∈ encHT h) : u.oneCell' = true := by
  simp [encHT] at hu
  subst hu
  rfl
def LoadOk (W : World) (h : HdT) (l : List R3) : Prop := h.2.1 = l.length ∧ Rd 3 enc3 W h.1 l
/-- Loads that are read. -/
def RdLd (W : World) (A : Option Addr) (hs : List HdT) (Ls : List (List R3)) : Prop := Rd 1 encHT W A hs ∧ hs.length = Ls.length ∧ ∀ (k : Nat) (h : HdT) (l : List R3), hs[k]? = some h → Ls[k]? = some l → LoadOk W h l
theorem RdLd.keep {W W' : World} {A : Option Addr} {hs : List HdT} {Ls : List (List R3)} (h : RdLd W A hs Ls) (hb : Below W.heap.size W W') : RdLd W' A hs Ls :=
  ⟨h.1.keep hb, h.2.1, fun k x r hx hr => ⟨(h.2.2 k x r hx hr).1, (h.2.2 k x r hx hr).2.keep hb⟩⟩
theorem RdLd.at_ {W : World} {A : Option Addr} {hs : List HdT} {Ls : List (List R3)} (h : RdLd W A hs Ls) {k : Nat} {l : List R3} (hl : Ls[k]? = some l) : ∃ b off a c, A = some ⟨b, off, none⟩ ∧ b < W.heap.size ∧ Rd 3 enc3 W a l ∧ W.cell? ⟨b, off + k, none⟩ = some (.slice a l.length c) := by
  have hk := (List.getElem?_eq_some_iff.1 hl).1
  obtain ⟨b, off, x, hA, hb, hx, hc⟩ := h.1.at_ (k := k) (by rw [h.2.1]; exact hk)
  obtain ⟨m1, m2⟩ := h.2.2 k x _ hx hl
  obtain ⟨xa, xn, xd⟩ := x
  have h1 := hc 0 _ rfl
  rw [Nat.mul_one, Nat.add_zero] at h1
  have m1' : xn = l.length := m1
  subst m1'
  exact ⟨b, off, xa, xd, hA, hb, m2, h1⟩
/-- Loads that grow. -/
structure LdL (W : World) (base : Nat) (v : Value) (hs : List HdT) (Ls : List (List R3)) : Prop where
  own : OwnR 30 1 encHT W base v hs
  len : hs.length = Ls.length
  mem : ∀ (k : Nat) (h : HdT) (l : List R3), hs[k]? = some h → Ls[k]? = some l → LoadOk W h l ∧ ∀ a, h.1 = some a → a.block < W.heap.size ∧ v.ownBlock ≠ some a.block
theorem LdL.nil (W : World) (base : Nat) : LdL W base (.slice none 0 0) [] [] := ⟨OwnR.nil _ _, rfl, fun k h r hx => by simp at hx⟩
theorem LdL.keep {W W' : World} {base : Nat} {v : Value} {hs : List HdT} {Ls : List (List R3)} (h : LdL W base v hs Ls) (hb : Below W.heap.size W W') : LdL W' base v hs Ls :=
  ⟨h.own.keep hb, h.len, fun k x r hx hr => by
    obtain ⟨⟨m1, m2⟩, m4⟩ := h.mem k x r hx hr
    exact ⟨⟨m1, m2.keep hb⟩, fun a ha => ⟨Nat.lt_of_lt_of_le (m4 a ha).1 hb.size, (m4 a ha).2⟩⟩⟩
theorem LdL.rd {W : World} {base : Nat} {v : Value} {hs : List HdT} {Ls : List (List R3)} (h : LdL W base v hs Ls) : ∃ a c, v = .slice a Ls.length c ∧ RdLd W a hs Ls := by
  obtain ⟨a, c, e, r⟩ := h.own.rd encHT_len
  rw [h.len] at e
  exact ⟨a, c, e, r, h.len, fun k x l hx hl => (h.mem k x l hx hl).1⟩
theorem appInfoRows3 : (Tryz.prog.info? 30).map (fun i => (i.zero, i.size, i.bytes)) = some (some (.slice none 0 0), 1, 24) := by kernel_rfl
/-- One more. -/
theorem app_ld {W : World} {base : Nat} {v : Value} {hs : List HdT} {Ls : List (List R3)} (h : LdL W base v hs Ls) (hb : base ≤ W.heap.size) (hl : hs.length ≤ 100000) (a : Option Addr) (n c : Nat) (l : List R3) (hn : n = l.length) (hr : Rd 3 enc3 W a l) (ha : ∀ x, a = some x → x.block < W.heap.size ∧ v.ownBlock ≠ some x.block) :
    Appends Tryz.prog (W.alloc (.cells #[.slice a n c] 30)) 39 39 v (.slice (some ⟨W.heap.size, 0, none⟩) 1 1) ∧
    ∃ v' w1, appV Tryz.prog (W.alloc (.cells #[.slice a n c] 30)) 39 39 v (.slice (some ⟨W.heap.size, 0, none⟩) 1 1) = v' ∧
      appW Tryz.prog (W.alloc (.cells #[.slice a n c] 30)) 39 39 v (.slice (some ⟨W.heap.size, 0, none⟩) 1 1) = w1 ∧ Hid (LdL w1 base v' (hs ++ [(a, n, c)]) (Ls ++ [l])) ∧ Hid (Below base W w1) := by
  have rd : Rd 1 encHT (W.alloc (.cells #[.slice a n c] 30)) (some ⟨W.heap.size, 0, none⟩) [((a, n, c) : HdT)] :=
    (Own.new W 30 #[.slice a n c] undef).rd (by show 1 * 1 ≤ 1; omega) encHT_len (fun k x hx j v hv => by
      have hk : k = 0 := by have := (List.getElem?_eq_some_iff.1 hx).1; simpa using this
      subst hk
      simp at hx
      subst hx
      match j, hv with
      | 0, hv => simp [encHT] at hv; rw [← hv]; rfl
      | j + 1, hv => simp [encHT] at hv)
  obtain ⟨h1, v', w1, e1, e2, e3, e4, e5⟩ := app_rows (P := Tryz.prog) (ty := 39) (c := 1) (m := 1) appInfoRows3 Tryz.underlying39 rfl (by omega) encHT_len encHT_one (h.own.alloc _) rd rfl ⟨_, rfl⟩ (by simp; omega) (by unfold maxLen; omega) (by omega)
  have hM : Mod (fun k => v.ownBlock = some k) W w1 := ((Mod.refl _ W).alloc _).trans e4
  refine ⟨h1, v', w1, e1, e2, Lib.hid ⟨e3, by simp [h.len], ?_⟩, Lib.hid (hM.below hb (fun k _ hk => (World.ownsRow.lt h.own k hk).1))⟩
  have hbel : W.heap.size ≤ w1.heap.size := hM.size
  have hrd : ∀ (A : Option Addr) (zs : List R3), Rd 3 enc3 W A zs → (∀ x, A = some x → x.block < W.heap.size ∧ v.ownBlock ≠ some x.block) → Rd 3 enc3 w1 A zs := by
    intro A zs hz hx h0
    obtain ⟨b, off, hAe, hlt, hc⟩ := hz h0
    have h2 := hx _ hAe
    refine ⟨b, off, hAe, Nat.lt_of_lt_of_le hlt hbel, fun k x hk j u hu => (hM.cell (World.block_lt_of_cell? W _ (hc k x hk j u hu)) h2.2).trans (hc k x hk j u hu)⟩
  have hap : ∀ x : Addr, x.block < W.heap.size ∧ v.ownBlock ≠ some x.block → x.block < w1.heap.size ∧ v'.ownBlock ≠ some x.block := by
    intro x hx
    refine ⟨Nat.lt_of_lt_of_le hx.1 hbel, ?_⟩
    rcases e5 with e | e
    · rw [e]; exact hx.2
    · rw [e]
      intro e2
      injection e2 with e2
      simp at e2
      omega
  intro k x r hx hr2
  rcases Nat.lt_or_ge k hs.length with hk | hk
  · rw [List.getElem?_append_left hk] at hx
    rw [List.getElem?_append_left (by rw [← h.len]; exact hk)] at hr2
    obtain ⟨⟨m1, m2⟩, m4⟩ := h.mem k x r hx hr2
    exact ⟨⟨m1, hrd _ _ m2 m4⟩, fun y hy => hap y (m4 y hy)⟩
  · rw [List.getElem?_append_right hk] at hx
    rw [List.getElem?_append_right (by rw [← h.len]; exact hk)] at hr2
    have hk0 : k - hs.length = 0 := by
      have := (List.getElem?_eq_some_iff.1 hx).1
      simp at this
      omega
    rw [hk0] at hx
    rw [← h.len, hk0] at hr2
    simp at hx hr2
    subst hx hr2
    exact ⟨⟨hn, hrd _ _ hr ha⟩, fun y hy => hap y (ha y hy)⟩
end Go.Proofs.YtbjmpfchapggfaaGreat
