/-
Several texts in one: PsA, PsB, PsC, PsD, PsN.
-/
import Derived.Test.YtoekpdnpncgeeaaGreatGLex
import Derived.StillTailTactics
import Derived.Laws.EntriesVeiled
import Derived.Test.YtoekpdnpncgeeaaGreatGBase
/-
The parser: its reader, the next token, what is accepted.
-/
namespace Go.Proofs.YtoekpdnpncgeeaaGreat
open Go.RowKit
set_option linter.unusedVariables false
set_option linter.unusedSimpArgs false
def rdrF (aT : Option Addr) (nT cT pos len : Nat) (i : Nat) : Value := if i = 0 then .slice aT nT cT else if i = 1 then .int .i64 (pos : Nat) else if i = 2 then .int .i64 (len : Nat) else .slice none 0 0
/-- The reader's memory. -/
structure PaM (W : World) (R : Nat) (aT : Option Addr) (nT cT : Nat) (toks : List Tok) (len pos : Nat) : Prop where
  ow : Own W R 87 4 (rdrF aT nT cT pos len)
  tk : Rd 4 encTok W aT toks
  ln : toks.length = nT ∧ nT ≤ 2000 ∧ len ≤ 8000
  ne : ∀ a, aT = some a → a.block < R
theorem PaM.mod {W W' : World} {R : Nat} {aT : Option Addr} {nT cT : Nat} {toks : List Tok} {len pos : Nat} (h : PaM W R aT nT cT toks len pos) {M : Nat → Prop} (hm : Mod M W W') (hM : ∀ j, j ≤ R → ¬ M j) : PaM W' R aT nT cT toks len pos :=
  ⟨h.ow.mod hm (hM R (Nat.le_refl _)), h.tk.mod hm (fun a ha _ => hM _ (Nat.le_of_lt (h.ne a ha))), h.ln, h.ne⟩
theorem PaM.keep {W W' : World} {R : Nat} {aT : Option Addr} {nT cT : Nat} {toks : List Tok} {len pos : Nat} (h : PaM W R aT nT cT toks len pos) (hb : Below W.heap.size W W') : PaM W' R aT nT cT toks len pos :=
  ⟨h.ow.keep hb h.ow.lt, h.tk.keep hb, h.ln, h.ne⟩
theorem PaM.setPos {W : World} {R : Nat} {aT : Option Addr} {nT cT : Nat} {toks : List Tok} {len pos : Nat} (h : PaM W R aT nT cT toks len pos) (q : Nat) : PaM (W.setCell ⟨R, 1, none⟩ (.int .i64 (q : Nat))) R aT nT cT toks len q := by
  refine ⟨(h.ow.set 1 _).congr (fun i hi => ?_), h.tk.mod ((show Mod (fun j => j = R) W W from Mod.refl _ W).setCell (p := ⟨R, 1, none⟩) (.inl rfl) _) (fun a ha _ e => by have := h.ne a ha; omega), h.ln, h.ne⟩
  unfold rdrF
  match i, hi with
  | 0, _ => rfl
  | 1, _ => rfl
  | 2, _ => rfl
  | 3, _ => rfl
theorem PaM.cells {W : World} {R : Nat} {aT : Option Addr} {nT cT : Nat} {toks : List Tok} {len pos : Nat} (h : PaM W R aT nT cT toks len pos) : W.cell? ⟨R, 0, none⟩ = some (.slice aT nT cT) ∧ W.cell? ⟨R, 1, none⟩ = some (.int .i64 (pos : Nat)) ∧ W.cell? ⟨R, 2, none⟩ = some (.int .i64 (len : Nat)) ∧ W.cell? ⟨R, 3, none⟩ = some (.slice none 0 0) :=
  ⟨h.ow.cell (i := 0) (by omega), h.ow.cell (i := 1) (by omega), h.ow.cell (i := 2) (by omega), h.ow.cell (i := 3) (by omega)⟩
def peekT (toks : List Tok) (len pos : Nat) : Tok := toks[pos]?.getD ⟨0, ⟨#[]⟩, 0, len⟩
theorem tok_at {W : World} {A : Option Addr} {toks : List Tok} (h : Rd 4 encTok W A toks) {k : Nat} (hk : k < toks.length) : ∃ b off t, A = some ⟨b, off, none⟩ ∧ b < W.heap.size ∧ toks[k]? = some t ∧ W.cell? ⟨b, off + k * 4, none⟩ = some (.int .i64 t.kind) ∧ W.cell? ⟨b, off + k * 4 + 1, none⟩ = some (.string t.text) ∧ W.cell? ⟨b, off + k * 4 + 2, none⟩ = some (.int .i64 t.n) ∧ W.cell? ⟨b, off + k * 4 + 3, none⟩ = some (.int .i64 (t.pos : Nat)) := by
  obtain ⟨b, off, t, hA, hb, hx, hc⟩ := h.at_ (k := k) hk
  exact ⟨b, off, t, hA, hb, hx, hc 0 _ rfl, hc 1 _ rfl, hc 2 _ rfl, hc 3 _ rfl⟩
theorem results_c1T {P : Program} {fn : Func} {a : Tmp} {ty : TypeId} {tmps : Array Value} {b : Nat} {x : Value} {w : World} (h : fn.results = #[.cell a ty]) (ha : tmps.getD a undef = .pointer (some ⟨b, 0, none⟩)) (hl : (loadVar ty ⟨b, 0, none⟩).run P w = .ok x w) : (results fn tmps).run P w = .ok x w := by
  have ha' : tmps[a]?.getD undef = .pointer (some ⟨b, 0, none⟩) := by simpa using ha
  simp [results, h, ha', hl, asAddr]
set_option maxRecDepth 100000 in
set_option maxHeartbeats 8000000 in
theorem paPeek_any (R : Nat) (aT : Option Addr) (nT cT : Nat) (toks : List Tok) (len pos : Nat) (w : World) (HM : Hid (PaM w R aT nT cT toks len pos)) : Calls Tryz.prog 110 #[.pointer (some ⟨R, 0, none⟩)] w fun e w' => e = .returned (tokV (peekT toks len pos)) ∧ Below w.heap.size w w' := by
  obtain ⟨W, hW⟩ : ∃ W, W = w.alloc (.cells #[.int .i64 0, .string ⟨#[]⟩, .int .i64 0, .int .i64 0] 90) := ⟨_, rfl⟩
  have hb : Below w.heap.size w W := by rw [hW]; exact (Below.refl _ _).alloc (Nat.le_refl _) _
  have HO : Hid (Own W w.heap.size 90 4 (fun i => ([.int .i64 0, .string ⟨#[]⟩, .int .i64 0, .int .i64 0] : List Value)[i]?.getD undef)) := Lib.hid (by
    rw [hW]
    exact Own.newAt w 90 #[.int .i64 0, .string ⟨#[]⟩, .int .i64 0, .int .i64 0] w.heap.size rfl (n := 4) rfl (fun i hi => by match i, hi with | 0, _ => rfl | 1, _ => rfl | 2, _ => rfl | 3, _ => rfl))
  have HMW := Lib.hid (HM.out.keep hb)
  have HB := Lib.hid hb
  have HRL : Hid (R < w.heap.size) := Lib.hid HM.out.ow.lt
  have hRl : R < W.heap.size := HMW.out.ow.lt
  have HW := Lib.hid hW
  obtain ⟨k0, k1, k2, k3⟩ := HMW.out.cells
  clear hb hW
  go_enter Tryz.func110, Tryz.ntmps110
  go_upto_region 1 with (fail)
  rw [← HW.out]
  have hZ : w.heap.size < W.heap.size := HO.out.lt
  have HLD : Hid (∀ (V : World) (k n p : Int) (t : ByteArray), Own V w.heap.size 90 4 (fun i => ([.int .i64 0, .string ⟨#[]⟩, .int .i64 0, .int .i64 0] : List Value)[i]?.getD undef) → Below w.heap.size w V → (loadVar 90 ⟨w.heap.size, 0, none⟩).run Tryz.prog ((((V.setCell ⟨w.heap.size, 0, none⟩ (.int .i64 k)).setCell ⟨w.heap.size, 1, none⟩ (.string t)).setCell ⟨w.heap.size, 2, none⟩ (.int .i64 n)).setCell ⟨w.heap.size, 3, none⟩ (.int .i64 p)) = .ok (.agg #[.int .i64 k, .string t, .int .i64 n, .int .i64 p]) ((((V.setCell ⟨w.heap.size, 0, none⟩ (.int .i64 k)).setCell ⟨w.heap.size, 1, none⟩ (.string t)).setCell ⟨w.heap.size, 2, none⟩ (.int .i64 n)).setCell ⟨w.heap.size, 3, none⟩ (.int .i64 p)) ∧ Below w.heap.size w ((((V.setCell ⟨w.heap.size, 0, none⟩ (.int .i64 k)).setCell ⟨w.heap.size, 1, none⟩ (.string t)).setCell ⟨w.heap.size, 2, none⟩ (.int .i64 n)).setCell ⟨w.heap.size, 3, none⟩ (.int .i64 p))) := Lib.hid (fun V k n p t ho hb => by
    have h := (((ho.set 0 (.int .i64 k)).set 1 (.string t)).set 2 (.int .i64 n)).set 3 (.int .i64 p)
    exact ⟨load_tok (h.cell (i := 0) (by omega)) (h.cell (i := 1) (by omega)) (h.cell (i := 2) (by omega)) (h.cell (i := 3) (by omega)), (((hb.setCell (p := ⟨w.heap.size, 0, none⟩) (Nat.le_refl _) _).setCell (p := ⟨w.heap.size, 1, none⟩) (Nat.le_refl _) _).setCell (p := ⟨w.heap.size, 2, none⟩) (Nat.le_refl _) _).setCell (p := ⟨w.heap.size, 3, none⟩) (Nat.le_refl _) _⟩)
  have HQ := Lib.hid HMW.out.ln
  have hn2 : nT ≤ 2000 := HQ.out.2.1
  by_cases hp : pos < nT
  · have hpz : (pos : Int) < (nT : Int) := by omega
    have hpd : decide ((pos : Int) < (nT : Int)) = true := decide_eq_true hpz
    obtain ⟨b, off, t, hA, hbl, htx, d0, d1, d2, d3⟩ := tok_at HMW.out.tk (k := pos) (by rw [HQ.out.1]; exact hp)
    have HPT : Hid (peekT toks len pos = t) := Lib.hid (by unfold peekT; rw [htx]; rfl)
    obtain ⟨tk, tx, tn, tp⟩ := t
    have HA := Lib.hid hA
    subst hA
    clear htx HW
    go_quiet (fail)
    go_step
    go_step
    refine wp_world (fun V => Below W.heap.size W V) (below_drewG _ (Below.refl _ _)) (fun V hbV => ?_)
    have HO := Lib.hid (HO.out.keep hbV HO.out.lt)
    have HMW := Lib.hid (HMW.out.keep hbV)
    have HB := Lib.hid (HB.out.trans (hbV.mono HB.out.size))
    have hRl : R < V.heap.size := HMW.out.ow.lt
    have hZ : w.heap.size < V.heap.size := HO.out.lt
    clear k0 k1 k2 k3
    obtain ⟨k0, k1, k2, k3⟩ := HMW.out.cells
    have y0 : V.cell? ⟨w.heap.size, 0, none⟩ = some (.int .i64 0) := HO.out.cell (i := 0) (by omega)
    have y1 : V.cell? ⟨w.heap.size, 1, none⟩ = some (.string ⟨#[]⟩) := HO.out.cell (i := 1) (by omega)
    have y2 : V.cell? ⟨w.heap.size, 2, none⟩ = some (.int .i64 0) := HO.out.cell (i := 2) (by omega)
    have y3 : V.cell? ⟨w.heap.size, 3, none⟩ = some (.int .i64 0) := HO.out.cell (i := 3) (by omega)
    have f0 := HO.out.frozen 0
    have f1 := HO.out.frozen 1
    have f2 := HO.out.frozen 2
    have f3 := HO.out.frozen 3
    have d0 := (hbV.cell (p := ⟨b, off + pos * 4, none⟩) hbl).trans d0
    have d1 := (hbV.cell (p := ⟨b, off + pos * 4 + 1, none⟩) hbl).trans d1
    have d2 := (hbV.cell (p := ⟨b, off + pos * 4 + 2, none⟩) hbl).trans d2
    have d3 := (hbV.cell (p := ⟨b, off + pos * 4 + 3, none⟩) hbl).trans d3
    go_wp2_with fail
    go_still_tail 10, (by kernel_rfl)
    change wpList _ _ _ _ _ V.drew
    go_wp2_with fail
    refine bodyPost_ret (results_c1T (a := 2) (ty := 90) (b := w.heap.size) (by kernel_rfl) rfl (HLD.out V.drew tk tn tp tx HO.out.drew (HB.out.trans ((below_drew V).mono HB.out.size))).1) rfl ?_
    exact ⟨by rw [HPT.out]; rfl, (HLD.out V.drew tk tn tp tx HO.out.drew (HB.out.trans ((below_drew V).mono HB.out.size))).2⟩
  · have hpz : ¬ (pos : Int) < (nT : Int) := by omega
    have hpd : decide ((pos : Int) < (nT : Int)) = false := decide_eq_false hpz
    have HPT : Hid (peekT toks len pos = ⟨0, ⟨#[]⟩, 0, len⟩) := Lib.hid (by unfold peekT; rw [List.getElem?_eq_none (by rw [HQ.out.1]; omega)]; rfl)
    clear HW
    go_quiet (fail)
    go_step
    go_step
    refine wp_world (fun V => Below W.heap.size W V) (below_drewG _ (Below.refl _ _)) (fun V hbV => ?_)
    have HO := Lib.hid (HO.out.keep hbV HO.out.lt)
    have HMW := Lib.hid (HMW.out.keep hbV)
    have HB := Lib.hid (HB.out.trans (hbV.mono HB.out.size))
    have hRl : R < V.heap.size := HMW.out.ow.lt
    have hZ : w.heap.size < V.heap.size := HO.out.lt
    clear k0 k1 k2 k3
    obtain ⟨k0, k1, k2, k3⟩ := HMW.out.cells
    have y0 : V.cell? ⟨w.heap.size, 0, none⟩ = some (.int .i64 0) := HO.out.cell (i := 0) (by omega)
    have y1 : V.cell? ⟨w.heap.size, 1, none⟩ = some (.string ⟨#[]⟩) := HO.out.cell (i := 1) (by omega)
    have y2 : V.cell? ⟨w.heap.size, 2, none⟩ = some (.int .i64 0) := HO.out.cell (i := 2) (by omega)
    have y3 : V.cell? ⟨w.heap.size, 3, none⟩ = some (.int .i64 0) := HO.out.cell (i := 3) (by omega)
    have f0 := HO.out.frozen 0
    have f1 := HO.out.frozen 1
    have f2 := HO.out.frozen 2
    have f3 := HO.out.frozen 3
    go_wp2_with fail
    refine bodyPost_ret (results_c1T (a := 2) (ty := 90) (b := w.heap.size) (by kernel_rfl) rfl (HLD.out V 0 0 len ⟨#[]⟩ HO.out HB.out).1) rfl ?_
    exact ⟨by rw [HPT.out]; rfl, (HLD.out V 0 0 len ⟨#[]⟩ HO.out HB.out).2⟩
end Go.Proofs.YtoekpdnpncgeeaaGreat
/-
The parser: taking a token.
-/
namespace Go.Proofs.YtoekpdnpncgeeaaGreat
open Go.RowKit
set_option linter.unusedVariables false
set_option linter.unusedSimpArgs false
theorem modB {M : Nat → Prop} {w w' : World} (h : Below w.heap.size w w') : Mod M w w' := (Mod.of_below h).mono (fun k hk h => by omega)
theorem own_tok (w : World) (k n p : Int) (t : ByteArray) (g : Nat) (hg : w.heap.size = g) : Own (w.alloc (.cells #[.int .i64 k, .string t, .int .i64 n, .int .i64 p] 90)) g 90 4 (fun i => ([.int .i64 k, .string t, .int .i64 n, .int .i64 p] : List Value)[i]?.getD undef) :=
  Own.newAt w 90 #[.int .i64 k, .string t, .int .i64 n, .int .i64 p] g hg (n := 4) rfl (fun i hi => by match i, hi with | 0, _ => rfl | 1, _ => rfl | 2, _ => rfl | 3, _ => rfl)
theorem Own.setTok {w : World} {g : Nat} {f : Nat → Value} (h : Own w g 90 4 f) (k n p : Int) (t : ByteArray) : Own ((((w.setCell ⟨g, 0, none⟩ (.int .i64 k)).setCell ⟨g, 1, none⟩ (.string t)).setCell ⟨g, 2, none⟩ (.int .i64 n)).setCell ⟨g, 3, none⟩ (.int .i64 p)) g 90 4 (fun i => ([.int .i64 k, .string t, .int .i64 n, .int .i64 p] : List Value)[i]?.getD undef) :=
  ((((h.set 0 _).set 1 _).set 2 _).set 3 _).congr (fun i hi => by match i, hi with | 0, _ => rfl | 1, _ => rfl | 2, _ => rfl | 3, _ => rfl)
theorem own_tok_load {w : World} {g : Nat} {k n p : Int} {t : ByteArray} (h : Own w g 90 4 (fun i => ([.int .i64 k, .string t, .int .i64 n, .int .i64 p] : List Value)[i]?.getD undef)) : (loadVar 90 ⟨g, 0, none⟩).run Tryz.prog w = .ok (.agg #[.int .i64 k, .string t, .int .i64 n, .int .i64 p]) w :=
  load_tok (h.cell (i := 0) (by omega)) (h.cell (i := 1) (by omega)) (h.cell (i := 2) (by omega)) (h.cell (i := 3) (by omega))
set_option maxRecDepth 100000 in
set_option maxHeartbeats 8000000 in
theorem paTake_any (R : Nat) (aT : Option Addr) (nT cT : Nat) (toks : List Tok) (len pos : Nat) (FA : Nat) (cv : Value) (t : Tok) (w : World) (HM : Hid (PaM w R aT nT cT toks len pos)) (ht : toks[pos]? = some t) (hk : t.kind ≠ 0) (hCF : ∀ (args : Array Value) (W : World), (callFunc FA args).run Tryz.prog W = .ok (.enter FA args) W) (HACC : Hid (∀ W, Below w.heap.size w W → Calls Tryz.prog FA #[tokV t, cv] W fun e w' => e = .returned (.bool true) ∧ Below W.heap.size W w')) :
    Calls Tryz.prog 89 #[.pointer (some ⟨R, 0, none⟩), .func (.func FA) #[] #[cv]] w fun e w' => e = .returned (tokV t) ∧ PaM w' R aT nT cT toks len (pos + 1) ∧ Mod (fun j => j = R) w w' := by
  obtain ⟨tk, tx, tn, tp⟩ := t
  have hk : ¬ tk = 0 := hk
  have hkb : (tk == 0) = false := by simpa using hk
  have HPT : Hid (peekT toks len pos = ⟨tk, tx, tn, tp⟩) := Lib.hid (by unfold peekT; rw [ht]; rfl)
  have HPN : Hid (pos < nT) := Lib.hid (by have h1 := (List.getElem?_eq_some_iff.1 ht).1; have h2 := HM.out.ln.1; omega)
  have HV : Hid (tokV ⟨tk, tx, tn, tp⟩ = .agg #[.int .i64 tk, .string tx, .int .i64 tn, .int .i64 (tp : Nat)]) := Lib.hid rfl
  rw [HV.out] at HACC ⊢
  clear ht
  obtain ⟨W0, hW0⟩ : ∃ W, W = w.alloc (.cells #[.int .i64 0, .string ⟨#[]⟩, .int .i64 0, .int .i64 0] 90) := ⟨_, rfl⟩
  have hb : Below w.heap.size w W0 := by rw [hW0]; exact (Below.refl _ _).alloc (Nat.le_refl _) _
  have HO : Hid (Own W0 w.heap.size 90 4 (fun i => ([.int .i64 0, .string ⟨#[]⟩, .int .i64 0, .int .i64 0] : List Value)[i]?.getD undef)) := Lib.hid (by rw [hW0]; exact own_tok w 0 0 0 ⟨#[]⟩ _ rfl)
  have HMW := Lib.hid (HM.out.keep hb)
  have HB := Lib.hid hb
  have HRX : Hid (R < w.heap.size) := Lib.hid HM.out.ow.lt
  have HW0 := Lib.hid hW0
  clear hb hW0
  go_enter Tryz.func89, Tryz.ntmps89
  go_wp2_with fail
  rw [← HW0.out]
  clear HW0
  obtain ⟨X, hX⟩ : ∃ X, X = w.heap.size := ⟨_, rfl⟩
  rw [← hX] at HO HRX ⊢
  have HSZ : Hid (w.heap.size = X) := Lib.hid hX.symm
  clear hX
  go_wp2_with fail
  refine (paPeek_any R aT nT cT toks len pos W0 HMW).mono ?_
  rintro e w1 ⟨rfl, hb1⟩
  rw [HPT.out, HV.out]
  have HO := Lib.hid (HO.out.keep hb1 HO.out.lt)
  have HMW := Lib.hid (HMW.out.keep hb1)
  have HB := Lib.hid (HB.out.trans (hb1.mono HB.out.size))
  clear hb1
  go_upto_region 2 with (fail)
  obtain ⟨w2, hw2⟩ : ∃ W, W = w1.alloc (.cells #[.int .i64 tk, .string tx, .int .i64 tn, .int .i64 (tp : Nat)] 90) := ⟨_, rfl⟩
  have hb2 : Below w1.heap.size w1 w2 := by rw [hw2]; exact (Below.refl _ _).alloc (Nat.le_refl _) _
  have HO2 : Hid (Own w2 w1.heap.size 90 4 (fun i => ([.int .i64 tk, .string tx, .int .i64 tn, .int .i64 (tp : Nat)] : List Value)[i]?.getD undef)) := Lib.hid (by rw [hw2]; exact own_tok w1 tk tn tp tx _ rfl)
  have HXY : Hid (X < w1.heap.size) := Lib.hid HO.out.lt
  rw [← hw2]
  obtain ⟨Y, hY⟩ : ∃ Y, Y = w1.heap.size := ⟨_, rfl⟩
  rw [← hY] at HO2 HXY ⊢
  have HO := Lib.hid (HO.out.keep hb2 HO.out.lt)
  have HMW := Lib.hid (HMW.out.keep hb2)
  have HB := Lib.hid (HB.out.trans (hb2.mono HB.out.size))
  clear hw2 hY hb2
  have y0 : w2.cell? ⟨Y, 0, none⟩ = some (.int .i64 tk) := HO2.out.cell (i := 0) (by omega)
  have y1 : w2.cell? ⟨Y, 1, none⟩ = some (.string tx) := HO2.out.cell (i := 1) (by omega)
  have y2 : w2.cell? ⟨Y, 2, none⟩ = some (.int .i64 tn) := HO2.out.cell (i := 2) (by omega)
  have y3 : w2.cell? ⟨Y, 3, none⟩ = some (.int .i64 (tp : Nat)) := HO2.out.cell (i := 3) (by omega)
  go_wp2_with fail
  refine (HACC.out w2 HB.out).mono ?_
  rintro e w3 ⟨rfl, hb3⟩
  have HO := Lib.hid (HO.out.keep hb3 HO.out.lt)
  have HO2 := Lib.hid (HO2.out.keep hb3 HO2.out.lt)
  have HMW := Lib.hid (HMW.out.keep hb3)
  have HB := Lib.hid (HB.out.trans (hb3.mono HB.out.size))
  clear hb3 y0 y1 y2 y3
  obtain ⟨k0, k1, k2, k3⟩ := HMW.out.cells
  have fr := HMW.out.ow.frozen 1
  have hRl : R < w3.heap.size := HMW.out.ow.lt
  have hpos : pos ≤ 2000 := by have h1 := HPN.out; have h2 := HMW.out.ln.2.1; omega
  have hw : IntKind.i64.wrap ((pos : Int) + 1) = (pos : Int) + 1 := IntWalk.i64_in _ (by omega)
  go_upto_region 5 with (fail)
  obtain ⟨w4, hw4⟩ : ∃ W, W = w3.setCell ⟨R, 1, none⟩ (.int .i64 ((pos : Int) + 1)) := ⟨_, rfl⟩
  have HM4 : Hid (PaM w4 R aT nT cT toks len (pos + 1)) := Lib.hid (by rw [hw4]; exact HMW.out.setPos (pos + 1))
  have HMo : Hid (Mod (fun j => j = R) w w4) := Lib.hid (by rw [hw4]; exact (show Mod (fun j => j = R) w w3 from modB HB.out).setCell (p := ⟨R, 1, none⟩) (.inl rfl) _)
  have HO4 : Hid (Own w4 X 90 4 (fun i => ([.int .i64 0, .string ⟨#[]⟩, .int .i64 0, .int .i64 0] : List Value)[i]?.getD undef)) := Lib.hid (by rw [hw4]; exact HO.out.other (p := ⟨R, 1, none⟩) (by have := HRX.out; show X ≠ R; omega) _)
  have HO5 : Hid (Own w4 Y 90 4 (fun i => ([.int .i64 tk, .string tx, .int .i64 tn, .int .i64 (tp : Nat)] : List Value)[i]?.getD undef)) := Lib.hid (by rw [hw4]; exact HO2.out.other (p := ⟨R, 1, none⟩) (by have := HRX.out; have := HXY.out; show Y ≠ R; omega) _)
  rw [← hw4]
  clear hw4 k0 k1 k2 k3 fr hRl HMW HO HO2 HB
  have y0 : w4.cell? ⟨Y, 0, none⟩ = some (.int .i64 tk) := HO5.out.cell (i := 0) (by omega)
  have y1 : w4.cell? ⟨Y, 1, none⟩ = some (.string tx) := HO5.out.cell (i := 1) (by omega)
  have y2 : w4.cell? ⟨Y, 2, none⟩ = some (.int .i64 tn) := HO5.out.cell (i := 2) (by omega)
  have y3 : w4.cell? ⟨Y, 3, none⟩ = some (.int .i64 (tp : Nat)) := HO5.out.cell (i := 3) (by omega)
  have x0 := HO4.out.cell (i := 0) (by omega)
  have x1 := HO4.out.cell (i := 1) (by omega)
  have x2 := HO4.out.cell (i := 2) (by omega)
  have x3 := HO4.out.cell (i := 3) (by omega)
  have f0 := HO4.out.frozen 0
  have f1 := HO4.out.frozen 1
  have f2 := HO4.out.frozen 2
  have f3 := HO4.out.frozen 3
  go_wp2_with fail
  have hoX := HO4.out.setTok tk tn (tp : Nat) tx
  refine bodyPost_ret (results_c1T (a := 4) (ty := 90) (b := X) (by kernel_rfl) rfl (own_tok_load hoX)) rfl ?_
  have hXM : Mod (fun j => j = X) w4 ((((w4.setCell ⟨X, 0, none⟩ (.int .i64 tk)).setCell ⟨X, 1, none⟩ (.string tx)).setCell ⟨X, 2, none⟩ (.int .i64 tn)).setCell ⟨X, 3, none⟩ (.int .i64 (tp : Nat))) := ((((show Mod (fun j => j = X) w4 w4 from Mod.refl _ w4).setCell (p := ⟨X, 0, none⟩) (.inl rfl) _).setCell (p := ⟨X, 1, none⟩) (.inl rfl) _).setCell (p := ⟨X, 2, none⟩) (.inl rfl) _).setCell (p := ⟨X, 3, none⟩) (.inl rfl) _
  refine ⟨rfl, HM4.out.mod hXM (fun j hj e => by have := HRX.out; omega), ?_⟩
  have h1 := HMo.out
  have hX := HSZ.out
  exact (((h1.setCell (p := ⟨X, 0, none⟩) (.inr (by show w.heap.size ≤ X; omega)) _).setCell (p := ⟨X, 1, none⟩) (.inr (by show w.heap.size ≤ X; omega)) _).setCell (p := ⟨X, 2, none⟩) (.inr (by show w.heap.size ≤ X; omega)) _).setCell (p := ⟨X, 3, none⟩) (.inr (by show w.heap.size ≤ X; omega)) _
theorem cf_word1 (args : Array Value) (W : World) : (callFunc 112 args).run Tryz.prog W = .ok (.enter 112 args) W := by go_simp
theorem cf_punct1 (args : Array Value) (W : World) : (callFunc 114 args).run Tryz.prog W = .ok (.enter 114 args) W := by go_simp
end Go.Proofs.YtoekpdnpncgeeaaGreat
/-
The parser: what is accepted.
-/
namespace Go.Proofs.YtoekpdnpncgeeaaGreat
open Go.RowKit
set_option linter.unusedVariables false
set_option linter.unusedSimpArgs false
set_option maxRecDepth 100000 in
set_option maxHeartbeats 4000000 in
theorem paWordF1_ok (t : Tok) (b : Nat) (FS : Nat) (q : Bool) (w : World) (hk : t.kind = 1) (hb : b < w.heap.size) (hc : w.cell? ⟨b, 0, none⟩ = some (.func (.func FS) #[] #[])) (hCF : ∀ (args : Array Value) (W : World), (callFunc FS args).run Tryz.prog W = .ok (.enter FS args) W) (HIS : Hid (∀ W, Calls Tryz.prog FS #[.string t.text] W fun e w' => e = .returned (.bool q) ∧ Below W.heap.size W w')) :
    Calls Tryz.prog 112 #[tokV t, .pointer (some ⟨b, 0, none⟩)] w fun e w' => e = .returned (.bool q) ∧ Below w.heap.size w w' := by
  obtain ⟨tk, tx, tn, tp⟩ := t
  have hk : tk = 1 := hk
  subst hk
  rw [show tokV ⟨1, tx, tn, tp⟩ = .agg #[.int .i64 1, .string tx, .int .i64 tn, .int .i64 (tp : Nat)] from rfl]
  obtain ⟨W0, hW0⟩ : ∃ W, W = w.alloc (.cells #[.int .i64 1, .string tx, .int .i64 tn, .int .i64 (tp : Nat)] 90) := ⟨_, rfl⟩
  have hbl : Below w.heap.size w W0 := by rw [hW0]; exact (Below.refl _ _).alloc (Nat.le_refl _) _
  have HO : Hid (Own W0 w.heap.size 90 4 (fun i => ([.int .i64 1, .string tx, .int .i64 tn, .int .i64 (tp : Nat)] : List Value)[i]?.getD undef)) := Lib.hid (by rw [hW0]; exact own_tok w 1 tn tp tx _ rfl)
  have hc0 := (hbl.cell (p := ⟨b, 0, none⟩) hb).trans hc
  have HB := Lib.hid hbl
  have HW0 := Lib.hid hW0
  clear hbl hW0 hc
  go_enter Tryz.func112, Tryz.ntmps112
  go_upto_region 1 with (fail)
  rw [← HW0.out]
  clear HW0
  have y0 : W0.cell? ⟨w.heap.size, 0, none⟩ = some (.int .i64 1) := HO.out.cell (i := 0) (by omega)
  have y1 : W0.cell? ⟨w.heap.size, 1, none⟩ = some (.string tx) := HO.out.cell (i := 1) (by omega)
  have hbs : b < W0.heap.size := World.block_lt_of_cell? _ _ hc0
  have hws : w.heap.size < W0.heap.size := HO.out.lt
  go_wp2_with fail
  refine (HIS.out W0).mono ?_
  rintro e w1 ⟨rfl, hb1⟩
  have HB1 := Lib.hid (HB.out.trans (hb1.mono HB.out.size))
  clear hb1 y0 y1 hc0 HO
  go_wp2_with fail
  go_ret
  exact ⟨rfl, HB1.out⟩
set_option maxRecDepth 100000 in
set_option maxHeartbeats 4000000 in
theorem paPunct1_any (t : Tok) (b : Nat) (tx0 : ByteArray) (w : World) (hb : b < w.heap.size) (hc : w.cell? ⟨b, 0, none⟩ = some (.string tx0)) :
    Calls Tryz.prog 114 #[tokV t, .pointer (some ⟨b, 0, none⟩)] w fun e w' => e = .returned (.bool (t.kind == 3 && t.text.toList == tx0.toList)) ∧ Below w.heap.size w w' := by
  obtain ⟨tk, tx, tn, tp⟩ := t
  rw [show tokV ⟨tk, tx, tn, tp⟩ = .agg #[.int .i64 tk, .string tx, .int .i64 tn, .int .i64 (tp : Nat)] from rfl]
  obtain ⟨W0, hW0⟩ : ∃ W, W = w.alloc (.cells #[.int .i64 tk, .string tx, .int .i64 tn, .int .i64 (tp : Nat)] 90) := ⟨_, rfl⟩
  have hbl : Below w.heap.size w W0 := by rw [hW0]; exact (Below.refl _ _).alloc (Nat.le_refl _) _
  have HO : Hid (Own W0 w.heap.size 90 4 (fun i => ([.int .i64 tk, .string tx, .int .i64 tn, .int .i64 (tp : Nat)] : List Value)[i]?.getD undef)) := Lib.hid (by rw [hW0]; exact own_tok w tk tn tp tx _ rfl)
  have hc0 := (hbl.cell (p := ⟨b, 0, none⟩) hb).trans hc
  have HB := Lib.hid hbl
  have HW0 := Lib.hid hW0
  clear hbl hW0 hc
  go_enter Tryz.func114, Tryz.ntmps114
  go_upto_region 1 with (fail)
  rw [← HW0.out]
  clear HW0
  have y0 : W0.cell? ⟨w.heap.size, 0, none⟩ = some (.int .i64 tk) := HO.out.cell (i := 0) (by omega)
  have y1 : W0.cell? ⟨w.heap.size, 1, none⟩ = some (.string tx) := HO.out.cell (i := 1) (by omega)
  have hbs : b < W0.heap.size := World.block_lt_of_cell? _ _ hc0
  have hws : w.heap.size < W0.heap.size := HO.out.lt
  by_cases h3 : tk = 3
  · subst h3
    have HG : Hid ((tx.toList == tx0.toList) = ((3 : Int) == 3 && tx.toList == tx0.toList)) := Lib.hid (by simp)
    go_wp2_with fail
    go_ret
    exact ⟨ret_bool HG.out, HB.out⟩
  · have hz : (tk == 3) = false := by simpa using h3
    have HG : Hid (false = (tk == 3 && tx.toList == tx0.toList)) := Lib.hid (by rw [hz]; rfl)
    go_wp2_with fail
    go_ret
    exact ⟨ret_bool HG.out, HB.out⟩
set_option maxRecDepth 100000 in
theorem paWordF_any (v : Value) (w : World) (F : Nat) (hv : v = .func (.func F) #[] #[]) : Calls Tryz.prog 90 #[v] w fun e w' => e = .returned (.func (.func 112) #[] #[.pointer (some ⟨w.heap.size, 0, none⟩)]) ∧ w' = w.alloc (.cells #[v] 148) := by
  subst hv
  go_enter Tryz.func90, Tryz.ntmps90
  go_wp2_with fail
  go_ret
  exact ⟨rfl, rfl⟩
set_option maxRecDepth 100000 in
theorem paPunct_any (t : ByteArray) (w : World) : Calls Tryz.prog 95 #[.string t] w fun e w' => e = .returned (.func (.func 114) #[] #[.pointer (some ⟨w.heap.size, 0, none⟩)]) ∧ w' = w.alloc (.cells #[.string t] 9) := by
  go_enter Tryz.func95, Tryz.ntmps95
  go_wp2_with fail
  go_ret
  exact ⟨rfl, rfl⟩
set_option maxRecDepth 100000 in
theorem paNotKey_any (s : ByteArray) (w : World) : Calls Tryz.prog 93 #[.string s] w fun e w' => e = .returned (.bool (!inB keyL s)) ∧ w' = w := by
  go_enter Tryz.func93, Tryz.ntmps93
  go_wp2_with fail
  refine (paKey_any s w).mono ?_
  rintro e w1 ⟨rfl, rfl⟩
  obtain ⟨q, hq⟩ : ∃ q, q = inB keyL s := ⟨_, rfl⟩
  rw [← hq]
  have HQ := Lib.hid hq
  clear hq
  cases q
  · go_wp2_with fail
    go_ret
    exact ⟨ret_bool (by rw [← HQ.out]; rfl), rfl⟩
  · go_wp2_with fail
    go_ret
    exact ⟨ret_bool (by rw [← HQ.out]; rfl), rfl⟩
/-- The kind of an item that a word is. -/
def kindN (s : ByteArray) : Int := if s.toList = [102, 101, 101, 100, 101, 114] then 1 else if s.toList = [99, 97, 98, 108, 101] then 2 else if s.toList = [111, 119, 110, 101, 114] then 3 else if s.toList = [99, 111, 110, 116, 114, 97, 99, 116] then 4 else if s.toList = [99, 104, 97, 114, 103, 101, 114] then 5 else if s.toList = [98, 97, 121] then 6 else if s.toList = [116, 97, 114, 105, 102, 102] then 7 else 0
set_option maxRecDepth 100000 in
set_option maxHeartbeats 4000000 in
theorem paKindN_any (s : ByteArray) (w : World) : Calls Tryz.prog 92 #[.string s] w fun e w' => e = .returned (.int .i64 (kindN s)) ∧ w' = w := by
  go_enter Tryz.func92, Tryz.ntmps92
  go_wp2
  all_goals
    go_ret
    first | exact ⟨by simp_all [kindN]; try rfl, rfl⟩ | (simp_all [kindN]; done)
set_option maxRecDepth 100000 in
theorem paItemF1_any (s : ByteArray) (w : World) : Calls Tryz.prog 91 #[.string s] w fun e w' => e = .returned (.bool (kindN s != 0)) ∧ w' = w := by
  go_enter Tryz.func91, Tryz.ntmps91
  go_wp2_with fail
  refine (paKindN_any s w).mono ?_
  rintro e w1 ⟨rfl, rfl⟩
  obtain ⟨q, hq⟩ : ∃ q, q = kindN s := ⟨_, rfl⟩
  rw [← hq]
  have HQ := Lib.hid hq
  clear hq
  go_wp2_with fail
  go_ret
  exact ⟨ret_bool (by rw [← HQ.out]), rfl⟩
end Go.Proofs.YtoekpdnpncgeeaaGreat
/-
Nodes: lists of nodes that grow, whose kids lie apart.
-/
namespace Go.Proofs.YtoekpdnpncgeeaaGreat
open Go.RowKit
set_option linter.unusedVariables false
set_option linter.unusedSimpArgs false
/-- A node's value: its kids are a slice's value. -/
structure NH where
  kind : Int
  name : ByteArray
  n : Int
  pos : Nat
  a : Option Addr
  len : Nat
  c : Nat
def encNH (h : NH) : List Value := [.int .i64 h.kind, .string h.name, .int .i64 h.n, .int .i64 (h.pos : Nat), .slice h.a h.len h.c]
theorem encNH_len (h : NH) : (encNH h).length = 5 := rfl
theorem encNH_one (h : NH) (u : Value) (hu : u ∈ encNH h) : u.oneCell' = true := by
  simp [encNH] at hu
  rcases hu with rfl | rfl | rfl | rfl | rfl <;> rfl
def nhV (h : NH) : Value := .agg #[.int .i64 h.kind, .string h.name, .int .i64 h.n, .int .i64 (h.pos : Nat), .slice h.a h.len h.c]
/-- What lies in the blocks from lo to hi does not change. -/
def Calm (lo hi : Nat) (W W' : World) : Prop := Mod (fun j => ¬ (lo ≤ j ∧ j < hi)) W W'
theorem Calm.of {lo hi : Nat} {W W' : World} {M : Nat → Prop} (h : Mod M W W') (hM : ∀ j, lo ≤ j → j < hi → ¬ M j) : Calm lo hi W W' :=
  h.mono (fun j _ hj hx => hM j hx.1 hx.2 hj)
/-- A statement on an element that says only what lies in the blocks from lo to hi. -/
structure Firm {X : Type} (ok : World → Nat → Nat → NH → X → Prop) : Prop where
  calm : ∀ {W W' : World} {lo hi : Nat} {h : NH} {x : X}, ok W lo hi h x → Calm lo hi W W' → ok W' lo hi h x
theorem Mod.trans2 {M M' : Nat → Prop} {a b c : World} (h : Mod M a b) (k : Mod M' b c) (hM : ∀ j, j < a.heap.size → M' j → M j) : Mod M a c :=
  ⟨k.os.trans h.os, k.tape.trans h.tape, k.output.trans h.output, Nat.le_trans h.size k.size, fun j hj hn => (k.block j (Nat.lt_of_lt_of_le hj h.size) (fun x => hn (hM j hj x))).trans (h.block j hj hn)⟩
/-- A list of nodes that grows. -/
structure GrL {X : Type} (ok : World → Nat → Nat → NH → X → Prop) (W : World) (base : Nat) (v : Value) (hs : List NH) (xs : List X) : Prop where
  own : OwnR 56 5 encNH W base v hs
  len : hs.length = xs.length
  mem : ∀ (k : Nat) (h : NH) (x : X), hs[k]? = some h → xs[k]? = some x → ∃ lo hi, base ≤ lo ∧ lo ≤ hi ∧ hi ≤ W.heap.size ∧ (∀ b, v.ownBlock = some b → b < lo ∨ hi ≤ b) ∧ ok W lo hi h x
variable {X : Type} {ok : World → Nat → Nat → NH → X → Prop}
theorem GrL.nil (W : World) (base : Nat) : GrL ok W base (.slice none 0 0) [] [] := ⟨OwnR.nil _ _, rfl, fun k h x hx => by simp at hx⟩
theorem GrL.mod (hf : Firm ok) {W W' : World} {base : Nat} {v : Value} {hs : List NH} {xs : List X} (h : GrL ok W base v hs xs) {M : Nat → Prop} (hm : Mod M W W') (hM : ∀ j, base ≤ j → j < W.heap.size → ¬ M j) : GrL ok W' base v hs xs :=
  ⟨h.own.mod hm (fun k hk => by have := World.ownsRow.lt h.own k hk; exact hM k this.1 this.2), h.len, fun k x y hx hy => by
    obtain ⟨lo, hi, h1, h2, h3, h4, h5⟩ := h.mem k x y hx hy
    exact ⟨lo, hi, h1, h2, Nat.le_trans h3 hm.size, h4, hf.calm h5 (Calm.of hm (fun j a b => hM j (by omega) (by omega)))⟩⟩
theorem GrL.keep (hf : Firm ok) {W W' : World} {base : Nat} {v : Value} {hs : List NH} {xs : List X} (h : GrL ok W base v hs xs) (hb : Below W.heap.size W W') : GrL ok W' base v hs xs :=
  h.mod hf (Mod.of_below hb) (fun j _ hj e => by omega)
theorem GrL.base {W : World} {base base' : Nat} {v : Value} {hs : List NH} {xs : List X} (h : GrL ok W base v hs xs) (hb : base' ≤ base) : GrL ok W base' v hs xs := by
  refine ⟨?_, h.len, fun k x y hx hy => by
    obtain ⟨lo, hi, h1, h2, h3, h4, h5⟩ := h.mem k x y hx hy
    exact ⟨lo, hi, Nat.le_trans hb h1, h2, h3, h4, h5⟩⟩
  refine ⟨h.own.1, ?_⟩
  rcases h.own.2 with x | ⟨g, cap, cur, hv, hbb, rest⟩
  · exact .inl x
  · exact .inr ⟨g, cap, cur, hv, Nat.le_trans hb hbb, rest⟩
theorem appInfoNode : (Tryz.prog.info? 56).map (fun i => (i.zero, i.size, i.bytes)) = some (some (.agg #[.int .i64 0, .string ByteArray.empty, .int .i64 0, .int .i64 0, .slice none 0 0]), 5, 64) := by kernel_rfl
/-- append(list, nodes...). -/
theorem app_nodes (hf : Firm ok) {W : World} {base base2 : Nat} {v : Value} {hs hs2 : List NH} {xs xs2 : List X} {A : Option Addr} {m c : Nat} (h : GrL ok W base v hs xs) (h2 : GrL ok W base2 (.slice A m c) hs2 xs2) (hb : base ≤ base2) (hb2 : base ≤ W.heap.size) (hv : ∀ k, v.ownBlock = some k → k < base2) (hl : hs.length ≤ 100000) (hl2 : hs2.length ≤ 100000) :
    Appends Tryz.prog W 54 54 v (.slice A m c) ∧ ∃ v' w1, appV Tryz.prog W 54 54 v (.slice A m c) = v' ∧ appW Tryz.prog W 54 54 v (.slice A m c) = w1 ∧ Hid (GrL ok w1 base v' (hs ++ hs2) (xs ++ xs2)) ∧ Hid (Mod (fun k => v.ownBlock = some k) W w1) ∧ Hid (∀ k, v'.ownBlock = some k → base ≤ k ∧ k < w1.heap.size) := by
  obtain ⟨A', c', e', r'⟩ := h2.own.rd encNH_len
  injection e' with e1 e2 e3
  subst e1 e3
  have key : ∀ {v' : Value} {w1 : World}, OwnR 56 5 encNH w1 base v' (hs ++ hs2) → Mod (fun k => v.ownBlock = some k) W w1 → (v'.ownBlock = v.ownBlock ∨ v'.ownBlock = some W.heap.size) → GrL ok w1 base v' (hs ++ hs2) (xs ++ xs2) := by
    intro v' w1 g1 g2 g3
    refine ⟨g1, by simp [h.len, h2.len], fun k x y hx hy => ?_⟩
    have stable : ∀ {lo hi : Nat} {x : NH} {y : X}, hi ≤ W.heap.size → (∀ b, v.ownBlock = some b → b < lo ∨ hi ≤ b) → ok W lo hi x y → (∀ b, v'.ownBlock = some b → b < lo ∨ hi ≤ b) ∧ ok w1 lo hi x y := by
      intro lo hi x y a1 a2 a3
      refine ⟨fun b hb' => ?_, hf.calm a3 (Calm.of g2 (fun j p q e => by have := a2 j e; omega))⟩
      rcases g3 with e | e
      · exact a2 b (by rw [← e]; exact hb')
      · rw [e] at hb'
        injection hb' with hb'
        omega
    rcases Nat.lt_or_ge k hs.length with hk | hk
    · rw [List.getElem?_append_left hk] at hx
      rw [List.getElem?_append_left (by rw [← h.len]; exact hk)] at hy
      obtain ⟨lo, hi, p1, p2, p3, p4, p5⟩ := h.mem k x y hx hy
      obtain ⟨s1, s2⟩ := stable p3 p4 p5
      exact ⟨lo, hi, p1, p2, Nat.le_trans p3 g2.size, s1, s2⟩
    · rw [List.getElem?_append_right hk] at hx
      rw [List.getElem?_append_right (by rw [← h.len]; exact hk), ← h.len] at hy
      obtain ⟨lo, hi, p1, p2, p3, p4, p5⟩ := h2.mem _ x y hx hy
      obtain ⟨s1, s2⟩ := stable (lo := lo) (hi := hi) p3 (fun b hb' => by have := hv b hb'; omega) p5
      exact ⟨lo, hi, Nat.le_trans hb p1, p2, Nat.le_trans p3 g2.size, s1, s2⟩
  cases A with
  | none =>
    have hm0 : hs2.length = 0 := by
      rcases Nat.eq_zero_or_pos hs2.length with x | x
      · exact x
      · obtain ⟨b, off, e, _⟩ := r' x
        cases e
    have hn : hs2 = [] := List.eq_nil_of_length_eq_zero hm0
    have hn2 : xs2 = [] := List.eq_nil_of_length_eq_zero (by rw [← h2.len]; exact hm0)
    subst hn hn2
    obtain rfl : 0 = m := e2.symm
    obtain ⟨g1, g2, g3⟩ := app_none (P := Tryz.prog) (ty := 54) (c := c) appInfoNode Tryz.underlying54 h.own
    exact ⟨g1, v, W, g2, g3, Lib.hid (by rw [List.append_nil, List.append_nil]; exact h), Lib.hid (Mod.refl _ _), Lib.hid (fun k hk => World.ownsRow.lt h.own k hk)⟩
  | some a =>
    obtain ⟨g1, v', w1, e1, e2', e3, e4, e5⟩ := app_rows (P := Tryz.prog) (ty := 54) (c := c) (m := m) appInfoNode Tryz.underlying54 rfl (by omega) encNH_len encNH_one h.own r' e2.symm ⟨_, rfl⟩ hb2 (by unfold maxLen; omega) (by omega)
    exact ⟨g1, v', w1, e1, e2', Lib.hid (key e3 e4 e5), Lib.hid e4, Lib.hid (fun k hk => World.ownsRow.lt e3 k hk)⟩
/-- One node more. -/
theorem app_node (hf : Firm ok) {W : World} {base : Nat} {v : Value} {hs : List NH} {xs : List X} (h : GrL ok W base v hs xs) (hb : base ≤ W.heap.size) (hl : hs.length ≤ 100000) (x : NH) (y : X) {lo hi : Nat} (h1 : base ≤ lo) (h2 : lo ≤ hi) (h3 : hi ≤ W.heap.size) (h4 : ∀ b, v.ownBlock = some b → b < lo ∨ hi ≤ b) (hok : ok W lo hi x y) :
    Appends Tryz.prog (W.alloc (.cells #[.int .i64 x.kind, .string x.name, .int .i64 x.n, .int .i64 (x.pos : Nat), .slice x.a x.len x.c] 56)) 54 54 v (.slice (some ⟨W.heap.size, 0, none⟩) 1 1) ∧
    ∃ v' w1, appV Tryz.prog (W.alloc (.cells #[.int .i64 x.kind, .string x.name, .int .i64 x.n, .int .i64 (x.pos : Nat), .slice x.a x.len x.c] 56)) 54 54 v (.slice (some ⟨W.heap.size, 0, none⟩) 1 1) = v' ∧
      appW Tryz.prog (W.alloc (.cells #[.int .i64 x.kind, .string x.name, .int .i64 x.n, .int .i64 (x.pos : Nat), .slice x.a x.len x.c] 56)) 54 54 v (.slice (some ⟨W.heap.size, 0, none⟩) 1 1) = w1 ∧ Hid (GrL ok w1 base v' (hs ++ [x]) (xs ++ [y])) ∧ Hid (Mod (fun k => v.ownBlock = some k) W w1) ∧ Hid (∀ k, v'.ownBlock = some k → base ≤ k ∧ k < w1.heap.size) := by
  have rd : Rd 5 encNH (W.alloc (.cells #[.int .i64 x.kind, .string x.name, .int .i64 x.n, .int .i64 (x.pos : Nat), .slice x.a x.len x.c] 56)) (some ⟨W.heap.size, 0, none⟩) [x] :=
    (Own.new W 56 #[.int .i64 x.kind, .string x.name, .int .i64 x.n, .int .i64 (x.pos : Nat), .slice x.a x.len x.c] undef).rd (by show 1 * 5 ≤ 5; omega) encNH_len (fun k z hz j u hu => by
      have hk : k = 0 := by have := (List.getElem?_eq_some_iff.1 hz).1; simpa using this
      subst hk
      simp at hz
      subst hz
      match j, hu with
      | 0, hu => simp [encNH] at hu; rw [← hu]; rfl
      | 1, hu => simp [encNH] at hu; rw [← hu]; rfl
      | 2, hu => simp [encNH] at hu; rw [← hu]; rfl
      | 3, hu => simp [encNH] at hu; rw [← hu]; rfl
      | 4, hu => simp [encNH] at hu; rw [← hu]; rfl
      | j + 5, hu => simp [encNH] at hu)
  obtain ⟨g1, v', w1, e1, e2, e3, e4, e5⟩ := app_rows (P := Tryz.prog) (ty := 54) (c := 1) (m := 1) appInfoNode Tryz.underlying54 rfl (by omega) encNH_len encNH_one (h.own.alloc _) rd rfl ⟨_, rfl⟩ (by simp; omega) (by unfold maxLen; omega) (by omega)
  have hM : Mod (fun k => v.ownBlock = some k) W w1 := ((Mod.refl _ W).alloc _).trans e4
  refine ⟨g1, v', w1, e1, e2, Lib.hid ⟨e3, by simp [h.len], fun k p q hp hq => ?_⟩, Lib.hid hM, Lib.hid (fun k hk => World.ownsRow.lt e3 k hk)⟩
  have stable : ∀ {lo hi : Nat} {x : NH} {y : X}, hi ≤ W.heap.size → (∀ b, v.ownBlock = some b → b < lo ∨ hi ≤ b) → ok W lo hi x y → (∀ b, v'.ownBlock = some b → b < lo ∨ hi ≤ b) ∧ ok w1 lo hi x y := by
    intro lo hi x y a1 a2 a3
    refine ⟨fun b hb' => ?_, hf.calm a3 (Calm.of hM (fun j p q e => by have := a2 j e; omega))⟩
    rcases e5 with e | e
    · exact a2 b (by rw [← e]; exact hb')
    · rw [e] at hb'
      injection hb' with hb'
      simp at hb'
      omega
  rcases Nat.lt_or_ge k hs.length with hk | hk
  · rw [List.getElem?_append_left hk] at hp
    rw [List.getElem?_append_left (by rw [← h.len]; exact hk)] at hq
    obtain ⟨lo', hi', p1, p2, p3, p4, p5⟩ := h.mem k p q hp hq
    obtain ⟨s1, s2⟩ := stable p3 p4 p5
    exact ⟨lo', hi', p1, p2, Nat.le_trans p3 hM.size, s1, s2⟩
  · rw [List.getElem?_append_right hk] at hp
    rw [List.getElem?_append_right (by rw [← h.len]; exact hk)] at hq
    have hk0 : k - hs.length = 0 := by
      have := (List.getElem?_eq_some_iff.1 hp).1
      simp at this
      omega
    rw [hk0] at hp
    rw [← h.len, hk0] at hq
    simp at hp hq
    subst hp hq
    obtain ⟨s1, s2⟩ := stable h3 h4 hok
    exact ⟨lo, hi, h1, h2, Nat.le_trans h3 hM.size, s1, s2⟩
end Go.Proofs.YtoekpdnpncgeeaaGreat
/-
The parser: a node from what reads its kids.
-/
namespace Go.Proofs.YtoekpdnpncgeeaaGreat
open Go.RowKit
set_option linter.unusedVariables false
set_option linter.unusedSimpArgs false
def kidsF {X : Type} (f : Nat → List X) : Nat → List X
  | 0 => []
  | i + 1 => kidsF f i ++ f i
/-- What a function that reads kids returns. -/
def KidPost {X : Type} (ok : World → Nat → Nat → NH → X → Prop) (W : World) (R : Nat) (aT : Option Addr) (nT cT : Nat) (toks : List Tok) (len q : Nat) (xs : List X) (e : Ending) (w' : World) : Prop := ∃ a n c hs, e = .returned (.slice a n c) ∧ GrL ok w' W.heap.size (.slice a n c) hs xs ∧ PaM w' R aT nT cT toks len q ∧ Mod (fun j => j = R) W w'
def nodeF (kind : Int) (name : ByteArray) (n : Int) (pos : Nat) (v : Value) (i : Nat) : Value := if i = 0 then .int .i64 kind else if i = 1 then .string name else if i = 2 then .int .i64 n else if i = 3 then .int .i64 (pos : Nat) else v
theorem nodeF_new (w : World) (kind : Int) (name : ByteArray) (n : Int) (pos : Nat) (v : Value) (g : Nat) (hg : w.heap.size = g) : Own (w.alloc (.cells #[.int .i64 kind, .string name, .int .i64 n, .int .i64 (pos : Nat), v] 56)) g 56 5 (nodeF kind name n pos v) :=
  Own.newAt w 56 _ g hg (n := 5) rfl (fun i hi => by match i, hi with | 0, _ => rfl | 1, _ => rfl | 2, _ => rfl | 3, _ => rfl | 4, _ => rfl)
theorem nodeF_set {w : World} {g : Nat} {kind n : Int} {name : ByteArray} {pos : Nat} {v : Value} (h : Own w g 56 5 (nodeF kind name n pos v)) (u : Value) : Own (w.setCell ⟨g, 4, none⟩ u) g 56 5 (nodeF kind name n pos u) :=
  (h.set 4 u).congr (fun i hi => by match i, hi with | 0, _ => rfl | 1, _ => rfl | 2, _ => rfl | 3, _ => rfl | 4, _ => rfl)
theorem nodeF_all {w : World} {g : Nat} {f : Nat → Value} (h : Own w g 56 5 f) (kind n : Int) (pos : Nat) (name : ByteArray) (u : Value) : Own (((((w.setCell ⟨g, 0, none⟩ (.int .i64 kind)).setCell ⟨g, 1, none⟩ (.string name)).setCell ⟨g, 2, none⟩ (.int .i64 n)).setCell ⟨g, 3, none⟩ (.int .i64 (pos : Nat))).setCell ⟨g, 4, none⟩ u) g 56 5 (nodeF kind name n pos u) :=
  (((((h.set 0 _).set 1 _).set 2 _).set 3 _).set 4 _).congr (fun i hi => by match i, hi with | 0, _ => rfl | 1, _ => rfl | 2, _ => rfl | 3, _ => rfl | 4, _ => rfl)
theorem load_node {w : World} {b : Nat} {k n p : Int} {t : ByteArray} {A : Option Addr} {l c : Nat} (h0 : w.cell? ⟨b, 0, none⟩ = some (.int .i64 k)) (h1 : w.cell? ⟨b, 1, none⟩ = some (.string t)) (h2 : w.cell? ⟨b, 2, none⟩ = some (.int .i64 n)) (h3 : w.cell? ⟨b, 3, none⟩ = some (.int .i64 p)) (h4 : w.cell? ⟨b, 4, none⟩ = some (.slice A l c)) : (loadVar 56 ⟨b, 0, none⟩).run Tryz.prog w = .ok (.agg #[.int .i64 k, .string t, .int .i64 n, .int .i64 p, .slice A l c]) w := by go_simp
theorem node_load {w : World} {g : Nat} {kind n : Int} {pos : Nat} {name : ByteArray} {A : Option Addr} {l c : Nat} (h : Own w g 56 5 (nodeF kind name n pos (.slice A l c))) : (loadVar 56 ⟨g, 0, none⟩).run Tryz.prog w = .ok (.agg #[.int .i64 kind, .string name, .int .i64 n, .int .i64 (pos : Nat), .slice A l c]) w :=
  load_node (h.cell (i := 0) (by omega)) (h.cell (i := 1) (by omega)) (h.cell (i := 2) (by omega)) (h.cell (i := 3) (by omega)) (h.cell (i := 4) (by omega))
/-- What node returns. -/
def NdPost {X : Type} (ok : World → Nat → Nat → NH → X → Prop) (W : World) (R : Nat) (aT : Option Addr) (nT cT : Nat) (toks : List Tok) (len q : Nat) (kind : Int) (name : ByteArray) (n : Int) (at_ : Nat) (xs : List X) (e : Ending) (w' : World) : Prop := ∃ a l c hs, e = .returned (nhV ⟨kind, name, n, at_, a, l, c⟩) ∧ GrL ok w' W.heap.size (.slice a l c) hs xs ∧ PaM w' R aT nT cT toks len q ∧ Mod (fun j => j = R) W w'
set_option maxRecDepth 100000 in
set_option maxHeartbeats 8000000 in
theorem paNode_any {X : Type} {ok : World → Nat → Nat → NH → X → Prop} (hf : Firm ok) (R : Nat) (aT : Option Addr) (nT cT : Nat) (toks : List Tok) (len : Nat) (t : Tok) (kind : Int) (name : ByteArray) (n : Int) (m : Nat) (A : Option Addr) (cap : Nat) (FA : Nat → Nat) (bd cs : Nat → Array Value) (pos : Nat → Nat) (xsF : Nat → List X) (w : World)
    (HM : Hid (PaM w R aT nT cT toks len (pos 0))) (HK : Hid (∀ i, i < m → ∃ b off, A = some ⟨b, off, none⟩ ∧ b < w.heap.size ∧ w.cell? ⟨b, off + i, none⟩ = some (.func (.func (FA i)) (bd i) (cs i)) ∧ b ≠ R)) (hm : m ≤ 10) (HLN : Hid (∀ i, i ≤ m → (kidsF xsF i).length ≤ 90000 ∧ (xsF i).length ≤ 90000))
    (hCF : ∀ (i : Nat) (args : Array Value) (W : World), (callFunc (FA i) args).run Tryz.prog W = .ok (.enter (FA i) args) W) (HC : Hid (∀ i, i < m → ∀ W, Mod (fun j => j = R) w W → PaM W R aT nT cT toks len (pos i) → Calls Tryz.prog (FA i) (bd i ++ cs i) W (KidPost ok W R aT nT cT toks len (pos (i + 1)) (xsF i)))) :
    Calls Tryz.prog 31 #[tokV t, .int .i64 kind, .string name, .int .i64 n, .slice A m cap] w (NdPost ok w R aT nT cT toks len (pos m) kind name n t.pos (kidsF xsF m)) := by
  obtain ⟨tk, tx, tn, tp⟩ := t
  rw [show tokV ⟨tk, tx, tn, tp⟩ = .agg #[.int .i64 tk, .string tx, .int .i64 tn, .int .i64 (tp : Nat)] from rfl]
  obtain ⟨W0, hW0⟩ : ∃ W, W = (w.alloc (.cells #[.int .i64 tk, .string tx, .int .i64 tn, .int .i64 (tp : Nat)] 90)).alloc (.cells #[.int .i64 0, .string ⟨#[]⟩, .int .i64 0, .int .i64 0, .slice none 0 0] 56) := ⟨_, rfl⟩
  have hb0 : Below w.heap.size w W0 := by rw [hW0]; exact ((Below.refl _ _).alloc (Nat.le_refl _) _).alloc (by simp) _
  have ho1 : Own W0 (w.heap.size + 1) 56 5 (nodeF 0 ⟨#[]⟩ 0 0 (.slice none 0 0)) := by
    rw [hW0]
    exact nodeF_new _ 0 ⟨#[]⟩ 0 0 _ _ (by simp)
  have y3 : W0.cell? ⟨w.heap.size, 3, none⟩ = some (.int .i64 (tp : Nat)) := by rw [hW0]; go_simp
  have hs0 : W0.heap.size = w.heap.size + 2 := by rw [hW0]; simp
  have HW0 := Lib.hid hW0
  have HB0 := Lib.hid hb0
  have HO1 := Lib.hid ho1
  have HS0 := Lib.hid hs0
  have hX0 : w.heap.size < W0.heap.size := by omega
  clear hW0 hb0 ho1 hs0
  go_enter Tryz.func31, Tryz.ntmps31
  go_upto_region 1 with (fail)
  rw [← HW0.out]
  clear HW0
  go_upto_region 2 with (fail)
  obtain ⟨w1, hw1⟩ : ∃ W, W = W0.alloc (.cells #[.int .i64 kind, .string name, .int .i64 n, .int .i64 (tp : Nat), .slice none 0 0] 56) := ⟨_, rfl⟩
  have hb1 : Below W0.heap.size W0 w1 := by rw [hw1]; exact (Below.refl _ _).alloc (Nat.le_refl _) _
  have hoY : Own w1 (w.heap.size + 2) 56 5 (nodeF kind name n tp (.slice none 0 0)) := by
    rw [hw1]
    exact nodeF_new _ kind name n tp _ _ HS0.out
  rw [← hw1]
  have hs1 : w1.heap.size = w.heap.size + 3 := by rw [hw1]; simp; exact HS0.out
  have HB1 : Hid (Below w.heap.size w w1) := Lib.hid (below_then HB0.out hb1)
  have HO1 := Lib.hid (HO1.out.keep hb1 HO1.out.lt)
  have HY := Lib.hid hoY
  rw [HS0.out]
  obtain ⟨X1, hX1⟩ : ∃ X, X = w.heap.size + 1 := ⟨_, rfl⟩
  obtain ⟨Y, hY⟩ : ∃ Y, Y = w.heap.size + 2 := ⟨_, rfl⟩
  have HSZ : Hid (w1.heap.size = Y + 1 ∧ X1 < Y ∧ w.heap.size ≤ X1 ∧ R < w.heap.size) := Lib.hid (by have := HM.out.ow.lt; omega)
  rw [← hX1] at HO1 ⊢
  rw [← hY] at HY ⊢
  have HM1 := Lib.hid (HM.out.keep HB1.out)
  have HMo : Hid (Mod (fun j => j = R) w w1) := Lib.hid (modB HB1.out)
  have HG : Hid (GrL ok w1 (Y + 1) (.slice none 0 0) [] (kidsF xsF 0)) := Lib.hid (GrL.nil _ _)
  clear hw1 hb1 hoY hX1 hY hs1 y3 hX0 HB0
  go_wp2_with fail
  go_loopg [22] m (fun g1 v22 wr => ∃ (i : Nat) (v : Value) (hs : List NH), v22 = .int .i64 i ∧ i ≤ m ∧ m - i ≤ g1 ∧ Hid (Own wr Y 56 5 (nodeF kind name n tp v)) ∧ Hid (Own wr X1 56 5 (nodeF 0 ⟨#[]⟩ 0 0 (.slice none 0 0))) ∧ Hid (GrL ok wr (Y + 1) v hs (kidsF xsF i)) ∧ Hid (PaM wr R aT nT cT toks len (pos i)) ∧ Hid (Mod (fun j => j = R) w wr) ∧ Y + 1 ≤ wr.heap.size)
  case atStart => exact ⟨0, _, [], by go_num, by omega, by omega, HY, HO1, HG, HM1, HMo, by have := HSZ.out; omega⟩
  case round =>
    clear HY HO1 HG HM1 HMo HB1
    obtain ⟨i, v, hs, rfl, hi, hg1, HY, HO1, HG, HM, HMo, hys⟩ := hrel
    by_cases hlt : i < m
    · have hltz : (i : Int) < (m : Int) := by omega
      obtain ⟨b, off, hA, hbl, hcl, hbR⟩ := HK.out i hlt
      have hcl := (HMo.out.cell (p := ⟨b, off + i, none⟩) hbl hbR).trans hcl
      have HA := Lib.hid hA
      have hbl2 : b < wr.heap.size := Nat.lt_of_lt_of_le hbl HMo.out.size
      subst hA
      have y4 : wr.cell? ⟨Y, 4, none⟩ = some v := HY.out.cell (i := 4) (by omega)
      go_wp2_with fail
      refine region_z (S := fun w' => w'.cell? ⟨Y, 4, none⟩ = some v) [6] (by kernel_rfl) y4 (fun hHeld => ?_)
      refine wpAnyZ_take (i := 0) (v := .pointer (some ⟨Y, 4, none⟩)) [1, 4, 6] rfl (by kernel_rfl) (by kernel_rfl) (by kernel_rfl) (by kernel_rfl) (fun _ _ _ h => h) (Or.inl ⟨by kernel_rfl, fun w' hSw => ?_⟩) hHeld ?_
      · have s0 := hSw
        clear hHeld hSw
        go_simp
      simp only [Act.put, List.getElem_toArray, List.getElem_cons_zero, List.getElem_cons_succ, List.setIfInBounds_toArray, List.set_cons_zero, List.set_cons_succ]
      refine wpAnyZ_take (i := 1) (v := v) [4, 6] rfl (by kernel_rfl) (by kernel_rfl) (by kernel_rfl) (by kernel_rfl) (fun _ _ _ h => h) (Or.inl ⟨by kernel_rfl, fun w' hSw => ?_⟩) hHeld ?_
      · have s0 := hSw
        clear hHeld hSw
        go_simp
      simp only [Act.put, List.getElem_toArray, List.getElem_cons_zero, List.getElem_cons_succ, List.setIfInBounds_toArray, List.set_cons_zero, List.set_cons_succ]
      refine wpAnyZ_take (i := 2) (v := .func (.func (FA i)) (bd i) (cs i)) [3, 4, 6] rfl (by kernel_rfl) (by kernel_rfl) (by kernel_rfl) (by kernel_rfl) (fun _ _ _ h => h) (Or.inl ⟨by kernel_rfl, fun w' hSw => ?_⟩) hHeld ?_
      · have s0 := hSw
        clear hHeld hSw
        go_simp
      simp only [Act.put, List.getElem_toArray, List.getElem_cons_zero, List.getElem_cons_succ, List.setIfInBounds_toArray, List.set_cons_zero, List.set_cons_succ]
      refine wpAnyZ_one (i := 3) (by kernel_rfl) rfl (fun K' hK => ?_)
      go_simp
      refine (HC.out i hlt wr.drew HMo.out.drew ⟨HM.out.ow, HM.out.tk, HM.out.ln, HM.out.ne⟩).mono ?_
      rintro e w5 ⟨a2, n2, c2, hs2, rfl, g2, hM5, hmo5⟩
      have HG2 := Lib.hid g2
      have HMo5 : Hid (Mod (fun j => j = R) wr w5) := Lib.hid ⟨hmo5.os, hmo5.tape, hmo5.output, hmo5.size, hmo5.block⟩
      have HM5 := Lib.hid hM5
      clear g2 hM5 hmo5
      have HRY : Hid (R < Y) := Lib.hid (by have := HSZ.out; omega)
      have y45 : w5.cell? ⟨Y, 4, none⟩ = some v := (HMo5.out.cell (p := ⟨Y, 4, none⟩) (by show Y < wr.heap.size; omega) (by have := HRY.out; show Y ≠ R; omega)).trans y4
      refine hK.out _ _ ?_ (fun hHeld' => ?_)
      · exact y45
      clear hK K' hHeld
      have hHeld := hHeld'
      clear hHeld'
      try simp only [Act.put, List.getElem_toArray, List.getElem_cons_zero, List.getElem_cons_succ, List.setIfInBounds_toArray, List.set_cons_zero, List.set_cons_succ]
      have HG5 := Lib.hid (HG.out.mod hf HMo5.out (fun j hj _ e => by have := HRY.out; omega))
      obtain ⟨ap, v', w6, av, aw, HG6, HM6, HB6⟩ := app_nodes hf HG5.out HG2.out (by show Y + 1 ≤ wr.heap.size; omega) (by have := HMo5.out.size; show Y + 1 ≤ w5.heap.size; have h2 : wr.heap.size ≤ w5.heap.size := this; omega) (fun k hk => (World.ownsRow.lt HG.out.own k hk).2) (by rw [HG5.out.len]; have := (HLN.out i hi).1; omega) (by rw [HG2.out.len]; have := (HLN.out i hi).2; omega)
      have HO6 : Hid (Own w6 Y 56 5 (nodeF kind name n tp v)) := Lib.hid ((HY.out.mod HMo5.out (by have := HRY.out; omega)).mod HM6.out (fun e => by have := (World.ownsRow.lt HG5.out.own _ e).1; omega))
      have HX6 : Hid (Own w6 X1 56 5 (nodeF 0 ⟨#[]⟩ 0 0 (.slice none 0 0))) := Lib.hid ((HO1.out.mod HMo5.out (by have := HSZ.out; omega)).mod HM6.out (fun e => by have := (World.ownsRow.lt HG5.out.own _ e).1; have := HSZ.out; omega))
      have HP6 : Hid (PaM w6 R aT nT cT toks len (pos (i + 1))) := Lib.hid (HM5.out.mod HM6.out (fun j hj e => by have := (World.ownsRow.lt HG5.out.own _ e).1; have := HRY.out; omega))
      have HMo6 : Hid (Mod (fun j => j = R) w w6) := Lib.hid ((HMo.out.trans HMo5.out).trans2 HM6.out (fun j hj e => by have := (World.ownsRow.lt HG5.out.own _ e).1; have := HSZ.out; omega))
      have y46 : w6.cell? ⟨Y, 4, none⟩ = some v := HO6.out.cell (i := 4) (by omega)
      have hS6 : w6.heap.size ≥ Y + 1 := by have h1 : wr.heap.size ≤ w5.heap.size := HMo5.out.size; have h2 := HM6.out.size; omega
      refine wpAnyZ_one (i := 4) (by kernel_rfl) rfl (fun K' hK => ?_)
      rw [if_pos (by rfl)]
      refine append_go rfl rfl ap av aw ?_
      refine hK.out _ _ ?_ (fun hHeld' => ?_)
      · exact y46
      clear hK K' hHeld ap av aw
      have hHeld := hHeld'
      clear hHeld'
      try simp only [Act.put, List.getElem_toArray, List.getElem_cons_zero, List.getElem_cons_succ, List.setIfInBounds_toArray, List.set_cons_zero, List.set_cons_succ]
      obtain ⟨sa, sc, hsv⟩ := HG6.out.own.shape
      obtain ⟨LL, hLL⟩ : ∃ L, L = (hs ++ hs2).length := ⟨_, rfl⟩
      rw [← hLL] at hsv
      have HLL := Lib.hid hLL
      clear hLL
      subst hsv
      have fr6 := HO6.out.frozen 4
      have hYl : Y < w6.heap.size := HO6.out.lt
      refine wpAnyZ_one (i := 5) (by kernel_rfl) rfl (fun K' hK => ?_)
      go_simp
      refine hK.out _ _ ?_ (fun hHeld' => ?_)
      · exact y46
      clear hK K' hHeld
      have hHeld := hHeld'
      clear hHeld'
      try simp only [Act.put, List.getElem_toArray, List.getElem_cons_zero, List.getElem_cons_succ, List.setIfInBounds_toArray, List.set_cons_zero, List.set_cons_succ]
      refine wpAnyZ_last (i := 6) (by kernel_rfl) rfl (by kernel_rfl) (fun K' hK => ?_)
      go_simp
      refine hK.out _ _ ?_
      clear hK K'
      try simp only [Act.put, List.getElem_toArray, List.getElem_cons_zero, List.getElem_cons_succ, List.setIfInBounds_toArray, List.set_cons_zero, List.set_cons_succ]
      refine wpAnyZ_done (by kernel_rfl) ?_ _
      go_step
      go_step
      obtain ⟨w7, hw7⟩ : ∃ W, W = w6.setCell ⟨Y, 4, none⟩ (.slice sa LL sc) := ⟨_, rfl⟩
      have HMy : Hid (Mod (fun j => j = Y) w6 w7) := Lib.hid (by rw [hw7]; exact (show Mod (fun j => j = Y) w6 w6 from Mod.refl _ w6).setCell (p := ⟨Y, 4, none⟩) (.inl rfl) _)
      have HO7 : Hid (Own w7 Y 56 5 (nodeF kind name n tp (.slice sa LL sc))) := Lib.hid (by rw [hw7]; exact nodeF_set HO6.out _)
      have HX7 := Lib.hid (HX6.out.mod HMy.out (by have := HSZ.out; omega))
      have HG7 := Lib.hid (HG6.out.mod hf HMy.out (fun j hj _ e => by omega))
      have HP7 := Lib.hid (HP6.out.mod HMy.out (fun j hj e => by have := HRY.out; omega))
      have HMo7 := Lib.hid (HMo6.out.trans2 HMy.out (fun j hj e => by have := HSZ.out; omega))
      have HS7 : Hid (Y + 1 ≤ w7.heap.size) := Lib.hid (by have := HMy.out.size; omega)
      rw [← hw7]
      clear hw7 HO6 HX6 HG6 HP6 HMo6 y46 fr6 hYl hHeld HM6 HB6 y45 hS6
      go_wp2_with fail
      go_roundg (m - (i + 1))
      case measure => omega
      case rel => exact ⟨i + 1, _, hs ++ hs2, by go_num, by omega, by omega, HO7, HX7, HG7, HP7, HMo7, HS7.out⟩
    · have hltz : ¬ (i : Int) < (m : Int) := by omega
      obtain rfl : i = m := by omega
      obtain ⟨va, vc, hv⟩ := HG.out.own.shape
      subst hv
      have y0 : wr.cell? ⟨Y, 0, none⟩ = some (.int .i64 kind) := HY.out.cell (i := 0) (by omega)
      have y1 : wr.cell? ⟨Y, 1, none⟩ = some (.string name) := HY.out.cell (i := 1) (by omega)
      have y2 : wr.cell? ⟨Y, 2, none⟩ = some (.int .i64 n) := HY.out.cell (i := 2) (by omega)
      have y3 : wr.cell? ⟨Y, 3, none⟩ = some (.int .i64 (tp : Nat)) := HY.out.cell (i := 3) (by omega)
      have y4 : wr.cell? ⟨Y, 4, none⟩ = some (.slice va hs.length vc) := HY.out.cell (i := 4) (by omega)
      have x0 : wr.cell? ⟨X1, 0, none⟩ = some (.int .i64 0) := HO1.out.cell (i := 0) (by omega)
      have x1 : wr.cell? ⟨X1, 1, none⟩ = some (.string ⟨#[]⟩) := HO1.out.cell (i := 1) (by omega)
      have x2 : wr.cell? ⟨X1, 2, none⟩ = some (.int .i64 0) := HO1.out.cell (i := 2) (by omega)
      have x3 : wr.cell? ⟨X1, 3, none⟩ = some (.int .i64 (0 : Nat)) := HO1.out.cell (i := 3) (by omega)
      have x4 : wr.cell? ⟨X1, 4, none⟩ = some (.slice none 0 0) := HO1.out.cell (i := 4) (by omega)
      have f0 := HO1.out.frozen 0
      have f1 := HO1.out.frozen 1
      have f2 := HO1.out.frozen 2
      have f3 := HO1.out.frozen 3
      have f4 := HO1.out.frozen 4
      have hYl : Y < wr.heap.size := HY.out.lt
      have hXl : X1 < wr.heap.size := HO1.out.lt
      go_wp2_with fail
      have hoX := nodeF_all HO1.out kind n tp name (.slice va hs.length vc)
      refine bodyPost_ret (results_c1T (a := 10) (ty := 56) (b := X1) (by kernel_rfl) rfl (node_load hoX)) rfl ?_
      have hXM : Mod (fun j => j = X1) wr (((((wr.setCell ⟨X1, 0, none⟩ (.int .i64 kind)).setCell ⟨X1, 1, none⟩ (.string name)).setCell ⟨X1, 2, none⟩ (.int .i64 n)).setCell ⟨X1, 3, none⟩ (.int .i64 (tp : Nat))).setCell ⟨X1, 4, none⟩ (.slice va hs.length vc)) := (((((show Mod (fun j => j = X1) wr wr from Mod.refl _ wr).setCell (p := ⟨X1, 0, none⟩) (.inl rfl) _).setCell (p := ⟨X1, 1, none⟩) (.inl rfl) _).setCell (p := ⟨X1, 2, none⟩) (.inl rfl) _).setCell (p := ⟨X1, 3, none⟩) (.inl rfl) _).setCell (p := ⟨X1, 4, none⟩) (.inl rfl) _
      exact ⟨va, hs.length, vc, hs, rfl, (HG.out.mod hf hXM (fun j hj _ e => by have := HSZ.out; omega)).base (by have := HSZ.out; omega), HM.out.mod hXM (fun j hj e => by have := HSZ.out; omega), HMo.out.trans2 hXM (fun j hj e => by have := HSZ.out; omega)⟩
end Go.Proofs.YtoekpdnpncgeeaaGreat
