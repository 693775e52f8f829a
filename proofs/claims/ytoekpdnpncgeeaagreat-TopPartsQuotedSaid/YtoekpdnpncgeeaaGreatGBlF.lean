/-
Several texts in one: BlF, TcA.
-/
import Derived.Test.YtoekpdnpncgeeaaGreatCBlE
/-
bill.Bill: the bill of a session, or an error.
-/
namespace Go.Proofs.YtoekpdnpncgeeaaGreat
open Go.RowKit
set_option linter.unusedVariables false
set_option linter.unusedSimpArgs false
/-- The bill, if there is one. -/
noncomputable def billO (nm : ByteArray) (ar : List Art) (c : Cal) (s : Ses) : Option BV := if (trfB nm ar && (calB c && sesB s)) = true then sumO ar c s else none
noncomputable def billE (nm : ByteArray) (ar : List Art) (c : Cal) (s : Ses) : Int := if (trfB nm ar && (calB c && sesB s)) = true then (match sumO ar c s with
  | some _ => 0
  | none => 3) else 1
noncomputable def billV (nm : ByteArray) (ar : List Art) (c : Cal) (s : Ses) : BV := (billO nm ar c s).getD ⟨[], 0, 0, 0⟩
/-- What Bill returns. -/
def BlPost (nm : ByteArray) (ar : List Art) (c : Cal) (s : Ses) (w : World) (e : Ending) (w' : World) : Prop :=
  ∃ A n cA, e = .returned (.tuple #[.agg #[.slice A n cA, .int .i64 (billV nm ar c s).net, .int .i64 (billV nm ar c s).tax, .int .i64 (billV nm ar c s).total], .int .i64 (billE nm ar c s)]) ∧ (billV nm ar c s).lines.length = n ∧ Rd 2 encLn w' A (billV nm ar c s).lines ∧ Below w.heap.size w w'
theorem blPost_bad {nm : ByteArray} {ar : List Art} {c : Cal} {s : Ses} {w w' : World} (h : (trfB nm ar && (calB c && sesB s)) = false) (hb : Below w.heap.size w w') : BlPost nm ar c s w (.returned (.tuple #[.agg #[.slice none 0 0, .int .i64 0, .int .i64 0, .int .i64 0], .int .i64 1])) w' := by
  have h1 : billV nm ar c s = ⟨[], 0, 0, 0⟩ := by unfold billV billO; rw [if_neg (by rw [h]; simp)]; rfl
  have h2 : billE nm ar c s = 1 := by unfold billE; rw [if_neg (by rw [h]; simp)]
  unfold BlPost
  rw [h1, h2]
  exact ⟨none, 0, 0, rfl, rfl, Rd.nil, hb⟩
theorem blPost_no {nm : ByteArray} {ar : List Art} {c : Cal} {s : Ses} {w w' : World} (h : (trfB nm ar && (calB c && sesB s)) = true) (ho : sumO ar c s = none) (hb : Below w.heap.size w w') : BlPost nm ar c s w (.returned (.tuple #[.agg #[.slice none 0 0, .int .i64 0, .int .i64 0, .int .i64 0], .int .i64 3])) w' := by
  have h1 : billV nm ar c s = ⟨[], 0, 0, 0⟩ := by unfold billV billO; rw [if_pos h, ho]; rfl
  have h2 : billE nm ar c s = 3 := by unfold billE; rw [if_pos h, ho]
  unfold BlPost
  rw [h1, h2]
  exact ⟨none, 0, 0, rfl, rfl, Rd.nil, hb⟩
theorem blPost_yes {nm : ByteArray} {ar : List Art} {c : Cal} {s : Ses} {w w' : World} {bv : BV} {A : Option Addr} {n cA : Nat} (h : (trfB nm ar && (calB c && sesB s)) = true) (ho : sumO ar c s = some bv) (hn : n = bv.lines.length) (hr : Rd 2 encLn w' A bv.lines) (hb : Below w.heap.size w w') : BlPost nm ar c s w (.returned (.tuple #[.agg #[.slice A n cA, .int .i64 bv.net, .int .i64 bv.tax, .int .i64 bv.total], .int .i64 0])) w' := by
  have h1 : billV nm ar c s = bv := by unfold billV billO; rw [if_pos h, ho]; rfl
  have h2 : billE nm ar c s = 0 := by unfold billE; rw [if_pos h, ho]
  unfold BlPost
  rw [h1, h2]
  exact ⟨A, n, cA, rfl, hn.symm, hr, hb⟩
theorem results_c2B {P : Program} {fn : Func} {a b : Tmp} {ta tb : TypeId} {tmps : Array Value} {ba bb : Nat} {u v : Value} {w : World} (h : fn.results = #[.cell a ta, .cell b tb]) (ha : tmps.getD a undef = .pointer (some ⟨ba, 0, none⟩)) (hb : tmps.getD b undef = .pointer (some ⟨bb, 0, none⟩))
    (hl : (loadVar ta ⟨ba, 0, none⟩).run P w = .ok u w) (hl2 : (loadVar tb ⟨bb, 0, none⟩).run P w = .ok v w) : (results fn tmps).run P w = .ok (.tuple #[u, v]) w := by
  have ha' : tmps[a]?.getD undef = .pointer (some ⟨ba, 0, none⟩) := by simpa using ha
  have hb' : tmps[b]?.getD undef = .pointer (some ⟨bb, 0, none⟩) := by simpa using hb
  simp [results, h, ha', hl, hb', hl2, asAddr]
theorem load_bill {W : World} {b : Nat} {v : Value} {n t tt : Int} (h : Own W b 40 4 (lnF v n t tt)) : (loadVar 40 ⟨b, 0, none⟩).run Tryz.prog W = .ok (.agg #[v, .int .i64 n, .int .i64 t, .int .i64 tt]) W := by
  have c0 : W.cell? ⟨b, 0, none⟩ = some v := h.cell (i := 0) (by omega)
  have c1 : W.cell? ⟨b, 1, none⟩ = some (.int .i64 n) := h.cell (i := 1) (by omega)
  have c2 : W.cell? ⟨b, 2, none⟩ = some (.int .i64 t) := h.cell (i := 2) (by omega)
  have c3 : W.cell? ⟨b, 3, none⟩ = some (.int .i64 tt) := h.cell (i := 3) (by omega)
  go_simp
theorem load_errB {W : World} {b : Nat} {k : Int} (h : Own W b 41 1 (fun _ => .int .i64 k)) : (loadVar 41 ⟨b, 0, none⟩).run Tryz.prog W = .ok (.int .i64 k) W := by
  have c0 := h.cell (i := 0) (by omega)
  go_simp
/-- The memory of Bill. -/
structure BilM (w W : World) (T X S Q E : Nat) (nm : ByteArray) (aT : Option Addr) (nT cT : Nat) (ar : List Art) (aC : Option Addr) (nC cC : Nat) (aH : Option Addr) (nH cH : Nat) (c : Cal) (aS : Option Addr) (nS cS : Nat) (s : Ses) : Prop where
  tm : TrfM w W T nm aT nT cT ar
  cm : CalM w W X aC nC cC aH nH cH c
  sm : SesM w W S aS nS cS s
  oq : Own W Q 40 4 (lnF (.slice none 0 0) 0 0 0)
  oe : Own W E 41 1 (fun _ => .int .i64 0)
  gq : w.heap.size ≤ Q
  ge : w.heap.size ≤ E
  ne : Q ≠ E
theorem BilM.bel {w W : World} {T X S Q E : Nat} {nm : ByteArray} {aT : Option Addr} {nT cT : Nat} {ar : List Art} {aC : Option Addr} {nC cC : Nat} {aH : Option Addr} {nH cH : Nat} {c : Cal} {aS : Option Addr} {nS cS : Nat} {s : Ses} (h : BilM w W T X S Q E nm aT nT cT ar aC nC cC aH nH cH c aS nS cS s) : Below w.heap.size w W := h.tm.bel
theorem BilM.keep {w W W' : World} {T X S Q E : Nat} {nm : ByteArray} {aT : Option Addr} {nT cT : Nat} {ar : List Art} {aC : Option Addr} {nC cC : Nat} {aH : Option Addr} {nH cH : Nat} {c : Cal} {aS : Option Addr} {nS cS : Nat} {s : Ses} (h : BilM w W T X S Q E nm aT nT cT ar aC nC cC aH nH cH c aS nS cS s) (hb : Below W.heap.size W W') : BilM w W' T X S Q E nm aT nT cT ar aC nC cC aH nH cH c aS nS cS s :=
  ⟨h.tm.keep hb, h.cm.keep hb, h.sm.keep hb, h.oq.keep hb h.oq.lt, h.oe.keep hb h.oe.lt, h.gq, h.ge, h.ne⟩
theorem BilM.mod5 {W : World} {Q E : Nat} (v1 v2 v3 v4 v5 : Value) : Mod (fun j => j = Q ∨ j = E) W (((((W.setCell ⟨Q, 0, none⟩ v1).setCell ⟨Q, 1, none⟩ v2).setCell ⟨Q, 2, none⟩ v3).setCell ⟨Q, 3, none⟩ v4).setCell ⟨E, 0, none⟩ v5) := by
  refine Mod.setCell ?_ (.inl (.inr rfl)) _
  refine Mod.setCell ?_ (.inl (.inl rfl)) _
  refine Mod.setCell ?_ (.inl (.inl rfl)) _
  refine Mod.setCell ?_ (.inl (.inl rfl)) _
  refine Mod.setCell ?_ (.inl (.inl rfl)) _
  exact Mod.refl _ _
theorem BilM.fin {w W : World} {T X S Q E : Nat} {nm : ByteArray} {aT : Option Addr} {nT cT : Nat} {ar : List Art} {aC : Option Addr} {nC cC : Nat} {aH : Option Addr} {nH cH : Nat} {c : Cal} {aS : Option Addr} {nS cS : Nat} {s : Ses} (h : BilM w W T X S Q E nm aT nT cT ar aC nC cC aH nH cH c aS nS cS s) (v : Value) (n t tt k : Int) :
    Own (((((W.setCell ⟨Q, 0, none⟩ v).setCell ⟨Q, 1, none⟩ (.int .i64 n)).setCell ⟨Q, 2, none⟩ (.int .i64 t)).setCell ⟨Q, 3, none⟩ (.int .i64 tt)).setCell ⟨E, 0, none⟩ (.int .i64 k)) Q 40 4 (lnF v n t tt) ∧ Own (((((W.setCell ⟨Q, 0, none⟩ v).setCell ⟨Q, 1, none⟩ (.int .i64 n)).setCell ⟨Q, 2, none⟩ (.int .i64 t)).setCell ⟨Q, 3, none⟩ (.int .i64 tt)).setCell ⟨E, 0, none⟩ (.int .i64 k)) E 41 1 (fun _ => .int .i64 k) ∧ Below w.heap.size w (((((W.setCell ⟨Q, 0, none⟩ v).setCell ⟨Q, 1, none⟩ (.int .i64 n)).setCell ⟨Q, 2, none⟩ (.int .i64 t)).setCell ⟨Q, 3, none⟩ (.int .i64 tt)).setCell ⟨E, 0, none⟩ (.int .i64 k)) := by
  refine ⟨?_, ?_, ?_⟩
  · exact Own.other ((((((h.oq.set 0 v).set 1 _).set 2 _).set 3 _)).congr (fun i hi => by match i, hi with | 0, _ => rfl | 1, _ => rfl | 2, _ => rfl | 3, _ => rfl)) (p := ⟨E, 0, none⟩) h.ne _
  · exact Own.set1 (((((h.oe.other (p := ⟨Q, 0, none⟩) (fun e => h.ne e.symm) _).other (p := ⟨Q, 1, none⟩) (fun e => h.ne e.symm) _).other (p := ⟨Q, 2, none⟩) (fun e => h.ne e.symm) _).other (p := ⟨Q, 3, none⟩) (fun e => h.ne e.symm) _)) _
  · exact h.bel.trans ((BilM.mod5 _ _ _ _ _).below h.bel.size (fun j _ e => by have := h.gq; have := h.ge; omega))
theorem BilM.fin2 {w W : World} {T X S Q E : Nat} {nm : ByteArray} {aT : Option Addr} {nT cT : Nat} {ar : List Art} {aC : Option Addr} {nC cC : Nat} {aH : Option Addr} {nH cH : Nat} {c : Cal} {aS : Option Addr} {nS cS : Nat} {s : Ses} (h : BilM w W T X S Q E nm aT nT cT ar aC nC cC aH nH cH c aS nS cS s) (k : Int) :
    Own ((W.setCell ⟨E, 0, none⟩ (.int .i64 k)).alloc (.cells #[.int .i64 k] 98)) Q 40 4 (lnF (.slice none 0 0) 0 0 0) ∧ Own ((W.setCell ⟨E, 0, none⟩ (.int .i64 k)).alloc (.cells #[.int .i64 k] 98)) E 41 1 (fun _ => .int .i64 k) ∧ Below w.heap.size w ((W.setCell ⟨E, 0, none⟩ (.int .i64 k)).alloc (.cells #[.int .i64 k] 98)) := by
  have hs : (W.setCell ⟨E, 0, none⟩ (.int .i64 k)).heap.size = W.heap.size := by simp [World.setCell]
  exact ⟨(h.oq.other (p := ⟨E, 0, none⟩) h.ne _).alloc _, (Own.set1 h.oe _).alloc _, (h.bel.setCell (p := ⟨E, 0, none⟩) h.ge _).alloc (by rw [hs]; exact h.bel.size) _⟩
theorem BilM.fin3 {w W : World} {T X S Q E : Nat} {nm : ByteArray} {aT : Option Addr} {nT cT : Nat} {ar : List Art} {aC : Option Addr} {nC cC : Nat} {aH : Option Addr} {nH cH : Nat} {c : Cal} {aS : Option Addr} {nS cS : Nat} {s : Ses} (h : BilM w W T X S Q E nm aT nT cT ar aC nC cC aH nH cH c aS nS cS s) {A : Option Addr} {ls : List (Int × Int)} (hr : Rd 2 encLn W A ls) (hf : ∀ a, A = some a → a.block ≠ Q ∧ a.block ≠ E) (v1 v2 v3 v4 v5 : Value) : Rd 2 encLn (((((W.setCell ⟨Q, 0, none⟩ v1).setCell ⟨Q, 1, none⟩ v2).setCell ⟨Q, 2, none⟩ v3).setCell ⟨Q, 3, none⟩ v4).setCell ⟨E, 0, none⟩ v5) A ls :=
  hr.mod (BilM.mod5 _ _ _ _ _) (fun a ha _ e => by have := hf a ha; omega)
theorem BilM.start {w : World} {nm : ByteArray} {aT : Option Addr} {nT cT : Nat} {ar : List Art} {aC : Option Addr} {nC cC : Nat} {aH : Option Addr} {nH cH : Nat} {c : Cal} {aS : Option Addr} {nS cS : Nat} {s : Ses} (hq : RdTrf w nm aT nT ar) (hc : RdCal w aC nC aH nH c) (hs : RdSes w aS nS s) : BilM w (((((w.alloc (.cells #[.string nm, .slice aT nT cT] 24)).alloc (.cells #[.int .i64 c.off, .slice aC nC cC, .slice aH nH cH] 28)).alloc (.cells #[.int .i64 s.frm, .int .i64 s.till, .int .i64 s.fin, .slice aS nS cS] 31)).alloc (.cells #[.slice none 0 0, .int .i64 0, .int .i64 0, .int .i64 0] 40)).alloc (.cells #[.int .i64 0] 41)) w.heap.size (w.heap.size + 1) (w.heap.size + 2) (w.heap.size + 3) (w.heap.size + 4) nm aT nT cT ar aC nC cC aH nH cH c aS nS cS s := by
  obtain ⟨W1, h1⟩ : ∃ W, W = w.alloc (.cells #[.string nm, .slice aT nT cT] 24) := ⟨_, rfl⟩
  obtain ⟨W2, h2⟩ : ∃ W, W = W1.alloc (.cells #[.int .i64 c.off, .slice aC nC cC, .slice aH nH cH] 28) := ⟨_, rfl⟩
  obtain ⟨W3, h3⟩ : ∃ W, W = W2.alloc (.cells #[.int .i64 s.frm, .int .i64 s.till, .int .i64 s.fin, .slice aS nS cS] 31) := ⟨_, rfl⟩
  obtain ⟨W4, h4⟩ : ∃ W, W = W3.alloc (.cells #[.slice none 0 0, .int .i64 0, .int .i64 0, .int .i64 0] 40) := ⟨_, rfl⟩
  obtain ⟨W5, h5⟩ : ∃ W, W = W4.alloc (.cells #[.int .i64 0] 41) := ⟨_, rfl⟩
  rw [← h1, ← h2, ← h3, ← h4, ← h5]
  have s1 : W1.heap.size = w.heap.size + 1 := by rw [h1]; simp
  have s2 : W2.heap.size = w.heap.size + 2 := by rw [h2]; simp [s1]
  have s3 : W3.heap.size = w.heap.size + 3 := by rw [h3]; simp [s2]
  have s4 : W4.heap.size = w.heap.size + 4 := by rw [h4]; simp [s3]
  have b1 : Below w.heap.size w W1 := by rw [h1]; exact (Below.refl _ _).alloc (Nat.le_refl _) _
  have b12 : Below W1.heap.size W1 W2 := by rw [h2]; exact (Below.refl _ _).alloc (Nat.le_refl _) _
  have b23 : Below W2.heap.size W2 W3 := by rw [h3]; exact (Below.refl _ _).alloc (Nat.le_refl _) _
  have b34 : Below W3.heap.size W3 W4 := by rw [h4]; exact (Below.refl _ _).alloc (Nat.le_refl _) _
  have b45 : Below W4.heap.size W4 W5 := by rw [h5]; exact (Below.refl _ _).alloc (Nat.le_refl _) _
  have t1 : TrfM w W1 w.heap.size nm aT nT cT ar := by rw [h1]; exact TrfM.box (Below.refl _ _) hq
  have c2 : CalM w W2 (w.heap.size + 1) aC nC cC aH nH cH c := by rw [h2, ← s1]; exact CalM.box2 b1 (hc.keep b1)
  have s3' : SesM w W3 (w.heap.size + 2) aS nS cS s := by rw [h3, ← s2]; exact SesM.box (below_then b1 b12) (hs.keep (below_then b1 b12))
  have q4 : Own W4 (w.heap.size + 3) 40 4 (lnF (.slice none 0 0) 0 0 0) := by rw [h4]; exact Own.newAt _ 40 _ _ s3 (n := 4) rfl (fun i hi => by match i, hi with | 0, _ => rfl | 1, _ => rfl | 2, _ => rfl | 3, _ => rfl)
  have o5 : Own W5 (w.heap.size + 4) 41 1 (fun _ => .int .i64 0) := by rw [h5]; exact Own.newAt _ 41 _ _ s4 (n := 1) rfl (fun i hi => by match i, hi with | 0, _ => rfl)
  exact ⟨(((t1.keep b12).keep b23).keep b34).keep b45, ((c2.keep b23).keep b34).keep b45, (s3'.keep b34).keep b45, q4.keep b45 (by omega), o5, by omega, by omega, by omega⟩
set_option maxRecDepth 100000 in
set_option maxHeartbeats 16000000 in
theorem bBill_any (nm : ByteArray) (aT : Option Addr) (nT cT : Nat) (ar : List Art) (aC : Option Addr) (nC cC : Nat) (aH : Option Addr) (nH cH : Nat) (c : Cal) (aS : Option Addr) (nS cS : Nat) (s : Ses) (w : World) (HQ : Hid (RdTrf w nm aT nT ar)) (HC : Hid (RdCal w aC nC aH nH c)) (HS : Hid (RdSes w aS nS s)) : Calls Tryz.prog 10 #[.agg #[.string nm, .slice aT nT cT], .agg #[.int .i64 c.off, .slice aC nC cC, .slice aH nH cH], .agg #[.int .i64 s.frm, .int .i64 s.till, .int .i64 s.fin, .slice aS nS cS]] w (BlPost nm ar c s w) := by
  have HOKS : Hid ((trfB nm ar && (calB c && sesB s)) = (trfB nm ar && (calB c && sesB s))) := Lib.hid rfl
  obtain ⟨W0, hW0⟩ : ∃ W0, W0 = (((((w.alloc (.cells #[.string nm, .slice aT nT cT] 24)).alloc (.cells #[.int .i64 c.off, .slice aC nC cC, .slice aH nH cH] 28)).alloc (.cells #[.int .i64 s.frm, .int .i64 s.till, .int .i64 s.fin, .slice aS nS cS] 31)).alloc (.cells #[.slice none 0 0, .int .i64 0, .int .i64 0, .int .i64 0] 40)).alloc (.cells #[.int .i64 0] 41)) := ⟨_, rfl⟩
  obtain ⟨B, hB⟩ : ∃ B, B = w.heap.size := ⟨_, rfl⟩
  have HM : Hid (BilM w W0 B (B + 1) (B + 1 + 1) (B + 1 + 1 + 1) (B + 1 + 1 + 1 + 1) nm aT nT cT ar aC nC cC aH nH cH c aS nS cS s) := Lib.hid (by rw [hW0, hB]; exact BilM.start HQ.out HC.out HS.out)
  have HW0 := Lib.hid hW0
  have HB0 := Lib.hid hB
  clear hW0 hB
  have hmf : ∀ (fn : Fn) (first cap : Array Value) (w : World), (Instr.makeFunc fn first cap).run Tryz.prog w = .ok (.func fn first cap) w := fun _ _ _ _ => rfl
  go_enter_defers Tryz.func10, Tryz.ntmps10
  go_upto_region 1 with (fail)
  rw [← HW0.out, ← HB0.out]
  clear HW0 HB0
  obtain ⟨T, hT⟩ : ∃ T, T = B := ⟨_, rfl⟩
  obtain ⟨X, hX⟩ : ∃ T, T = B + 1 := ⟨_, rfl⟩
  obtain ⟨S, hS⟩ : ∃ T, T = B + 1 + 1 := ⟨_, rfl⟩
  obtain ⟨Q, hQ⟩ : ∃ T, T = B + 1 + 1 + 1 := ⟨_, rfl⟩
  obtain ⟨E, hE⟩ : ∃ T, T = B + 1 + 1 + 1 + 1 := ⟨_, rfl⟩
  rw [← hE, ← hQ, ← hS, ← hX, ← hT] at HM ⊢
  clear hT hX hS hQ hE
  obtain ⟨t0, t1⟩ : W0.cell? ⟨T, 0, none⟩ = some (.string nm) ∧ W0.cell? ⟨T, 1, none⟩ = some (.slice aT nT cT) := ⟨HM.out.tm.k0, HM.out.tm.k1⟩
  have hlT : T < W0.heap.size := World.block_lt_of_cell? W0 _ t0
  obtain ⟨k0, k1, k2⟩ : W0.cell? ⟨X, 0, none⟩ = some (.int .i64 c.off) ∧ W0.cell? ⟨X, 1, none⟩ = some (.slice aC nC cC) ∧ W0.cell? ⟨X, 2, none⟩ = some (.slice aH nH cH) := ⟨HM.out.cm.k0, HM.out.cm.k1, HM.out.cm.k2⟩
  have hlX : X < W0.heap.size := World.block_lt_of_cell? W0 _ k0
  obtain ⟨z0, z1, z2, z3⟩ : W0.cell? ⟨S, 0, none⟩ = some (.int .i64 s.frm) ∧ W0.cell? ⟨S, 1, none⟩ = some (.int .i64 s.till) ∧ W0.cell? ⟨S, 2, none⟩ = some (.int .i64 s.fin) ∧ W0.cell? ⟨S, 3, none⟩ = some (.slice aS nS cS) := ⟨HM.out.sm.k0, HM.out.sm.k1, HM.out.sm.k2, HM.out.sm.k3⟩
  have hlS : S < W0.heap.size := World.block_lt_of_cell? W0 _ z0
  go_wp2_with fail
  refine (tfValid_any nm aT nT cT ar _ (Lib.hid HM.out.tm.rd)).mono ?_
  rintro e w1 ⟨rfl, hb1⟩
  have HM := Lib.hid (HM.out.keep hb1)
  clear hb1
  clear t0 t1 hlT k0 k1 k2 hlX z0 z1 z2 z3 hlS
  obtain ⟨t0, t1⟩ : w1.cell? ⟨T, 0, none⟩ = some (.string nm) ∧ w1.cell? ⟨T, 1, none⟩ = some (.slice aT nT cT) := ⟨HM.out.tm.k0, HM.out.tm.k1⟩
  have hlT : T < w1.heap.size := World.block_lt_of_cell? w1 _ t0
  obtain ⟨k0, k1, k2⟩ : w1.cell? ⟨X, 0, none⟩ = some (.int .i64 c.off) ∧ w1.cell? ⟨X, 1, none⟩ = some (.slice aC nC cC) ∧ w1.cell? ⟨X, 2, none⟩ = some (.slice aH nH cH) := ⟨HM.out.cm.k0, HM.out.cm.k1, HM.out.cm.k2⟩
  have hlX : X < w1.heap.size := World.block_lt_of_cell? w1 _ k0
  obtain ⟨z0, z1, z2, z3⟩ : w1.cell? ⟨S, 0, none⟩ = some (.int .i64 s.frm) ∧ w1.cell? ⟨S, 1, none⟩ = some (.int .i64 s.till) ∧ w1.cell? ⟨S, 2, none⟩ = some (.int .i64 s.fin) ∧ w1.cell? ⟨S, 3, none⟩ = some (.slice aS nS cS) := ⟨HM.out.sm.k0, HM.out.sm.k1, HM.out.sm.k2, HM.out.sm.k3⟩
  have hlS : S < w1.heap.size := World.block_lt_of_cell? w1 _ z0
  cases h1 : trfB nm ar
  · have HBAD : Hid ((trfB nm ar && (calB c && sesB s)) = false) := Lib.hid (by rw [h1]; rfl)
    clear h1 t0 t1 hlT k0 k1 k2 hlX z0 z1 z2 z3 hlS
    have q0 : w1.cell? ⟨Q, 0, none⟩ = some (.slice none 0 0) := HM.out.oq.cell (i := 0) (by omega)
    have fq0 : w1.frozen? ⟨Q, 0, none⟩ = false := HM.out.oq.frozen 0
    have q1 : w1.cell? ⟨Q, 1, none⟩ = some (.int .i64 0) := HM.out.oq.cell (i := 1) (by omega)
    have fq1 : w1.frozen? ⟨Q, 1, none⟩ = false := HM.out.oq.frozen 1
    have q2 : w1.cell? ⟨Q, 2, none⟩ = some (.int .i64 0) := HM.out.oq.cell (i := 2) (by omega)
    have fq2 : w1.frozen? ⟨Q, 2, none⟩ = false := HM.out.oq.frozen 2
    have q3 : w1.cell? ⟨Q, 3, none⟩ = some (.int .i64 0) := HM.out.oq.cell (i := 3) (by omega)
    have fq3 : w1.frozen? ⟨Q, 3, none⟩ = false := HM.out.oq.frozen 3
    have e0 : w1.cell? ⟨E, 0, none⟩ = some (.int .i64 0) := HM.out.oe.cell (i := 0) (by omega)
    have fe0 : w1.frozen? ⟨E, 0, none⟩ = false := HM.out.oe.frozen 0
    have hlQ : Q < w1.heap.size := HM.out.oq.lt
    have hlE : E < w1.heap.size := HM.out.oe.lt
    have hQE : Q ≠ E := HM.out.ne
    have hEQ : E ≠ Q := fun e => HM.out.ne e.symm
    have HF := Lib.hid (HM.out.fin (.slice none 0 0) 0 0 0 1)
    go_wp2_with fail
    refine leaves_cons (f := 19) (args := #[.pointer (some ⟨E, 0, none⟩)]) (by simp) (by simp [go_sem]) ?_
    refine (bBill1_idle ⟨E, 0, none⟩ _).mono ?_
    rintro e u' w'' ⟨rfl, rfl, hww⟩
    rw [← hww]
    clear hww
    refine ⟨_, results_c2B (a := 6) (b := 7) (ta := 40) (tb := 41) (ba := Q) (bb := E) (by kernel_rfl) rfl rfl (load_bill HF.out.1) (load_errB HF.out.2.1), ?_⟩
    exact blPost_bad HBAD.out HF.out.2.2
  have H1 := Lib.hid h1
  clear h1
  go_wp2_with fail
  refine (dValid_any aC nC cC aH nH cH c _ (Lib.hid HM.out.cm.rd)).mono ?_
  rintro e w2 ⟨rfl, hb1⟩
  have HM := Lib.hid (HM.out.keep hb1)
  clear hb1
  clear t0 t1 hlT k0 k1 k2 hlX z0 z1 z2 z3 hlS
  obtain ⟨t0, t1⟩ : w2.cell? ⟨T, 0, none⟩ = some (.string nm) ∧ w2.cell? ⟨T, 1, none⟩ = some (.slice aT nT cT) := ⟨HM.out.tm.k0, HM.out.tm.k1⟩
  have hlT : T < w2.heap.size := World.block_lt_of_cell? w2 _ t0
  obtain ⟨k0, k1, k2⟩ : w2.cell? ⟨X, 0, none⟩ = some (.int .i64 c.off) ∧ w2.cell? ⟨X, 1, none⟩ = some (.slice aC nC cC) ∧ w2.cell? ⟨X, 2, none⟩ = some (.slice aH nH cH) := ⟨HM.out.cm.k0, HM.out.cm.k1, HM.out.cm.k2⟩
  have hlX : X < w2.heap.size := World.block_lt_of_cell? w2 _ k0
  obtain ⟨z0, z1, z2, z3⟩ : w2.cell? ⟨S, 0, none⟩ = some (.int .i64 s.frm) ∧ w2.cell? ⟨S, 1, none⟩ = some (.int .i64 s.till) ∧ w2.cell? ⟨S, 2, none⟩ = some (.int .i64 s.fin) ∧ w2.cell? ⟨S, 3, none⟩ = some (.slice aS nS cS) := ⟨HM.out.sm.k0, HM.out.sm.k1, HM.out.sm.k2, HM.out.sm.k3⟩
  have hlS : S < w2.heap.size := World.block_lt_of_cell? w2 _ z0
  cases h2 : calB c
  · have HBAD : Hid ((trfB nm ar && (calB c && sesB s)) = false) := Lib.hid (by rw [h2]; simp)
    clear h2 t0 t1 hlT k0 k1 k2 hlX z0 z1 z2 z3 hlS
    have q0 : w2.cell? ⟨Q, 0, none⟩ = some (.slice none 0 0) := HM.out.oq.cell (i := 0) (by omega)
    have fq0 : w2.frozen? ⟨Q, 0, none⟩ = false := HM.out.oq.frozen 0
    have q1 : w2.cell? ⟨Q, 1, none⟩ = some (.int .i64 0) := HM.out.oq.cell (i := 1) (by omega)
    have fq1 : w2.frozen? ⟨Q, 1, none⟩ = false := HM.out.oq.frozen 1
    have q2 : w2.cell? ⟨Q, 2, none⟩ = some (.int .i64 0) := HM.out.oq.cell (i := 2) (by omega)
    have fq2 : w2.frozen? ⟨Q, 2, none⟩ = false := HM.out.oq.frozen 2
    have q3 : w2.cell? ⟨Q, 3, none⟩ = some (.int .i64 0) := HM.out.oq.cell (i := 3) (by omega)
    have fq3 : w2.frozen? ⟨Q, 3, none⟩ = false := HM.out.oq.frozen 3
    have e0 : w2.cell? ⟨E, 0, none⟩ = some (.int .i64 0) := HM.out.oe.cell (i := 0) (by omega)
    have fe0 : w2.frozen? ⟨E, 0, none⟩ = false := HM.out.oe.frozen 0
    have hlQ : Q < w2.heap.size := HM.out.oq.lt
    have hlE : E < w2.heap.size := HM.out.oe.lt
    have hQE : Q ≠ E := HM.out.ne
    have hEQ : E ≠ Q := fun e => HM.out.ne e.symm
    have HF := Lib.hid (HM.out.fin (.slice none 0 0) 0 0 0 1)
    go_wp2_with fail
    refine leaves_cons (f := 19) (args := #[.pointer (some ⟨E, 0, none⟩)]) (by simp) (by simp [go_sem]) ?_
    refine (bBill1_idle ⟨E, 0, none⟩ _).mono ?_
    rintro e u' w'' ⟨rfl, rfl, hww⟩
    rw [← hww]
    clear hww
    refine ⟨_, results_c2B (a := 6) (b := 7) (ta := 40) (tb := 41) (ba := Q) (bb := E) (by kernel_rfl) rfl rfl (load_bill HF.out.1) (load_errB HF.out.2.1), ?_⟩
    exact blPost_bad HBAD.out HF.out.2.2
  have H2 := Lib.hid h2
  clear h2
  go_wp2_with fail
  refine (bValid_any aS nS cS s _ (Lib.hid HM.out.sm.rd)).mono ?_
  rintro e w3 ⟨rfl, hb1⟩
  have HM := Lib.hid (HM.out.keep hb1)
  clear hb1
  clear t0 t1 hlT k0 k1 k2 hlX z0 z1 z2 z3 hlS
  obtain ⟨t0, t1⟩ : w3.cell? ⟨T, 0, none⟩ = some (.string nm) ∧ w3.cell? ⟨T, 1, none⟩ = some (.slice aT nT cT) := ⟨HM.out.tm.k0, HM.out.tm.k1⟩
  have hlT : T < w3.heap.size := World.block_lt_of_cell? w3 _ t0
  obtain ⟨k0, k1, k2⟩ : w3.cell? ⟨X, 0, none⟩ = some (.int .i64 c.off) ∧ w3.cell? ⟨X, 1, none⟩ = some (.slice aC nC cC) ∧ w3.cell? ⟨X, 2, none⟩ = some (.slice aH nH cH) := ⟨HM.out.cm.k0, HM.out.cm.k1, HM.out.cm.k2⟩
  have hlX : X < w3.heap.size := World.block_lt_of_cell? w3 _ k0
  obtain ⟨z0, z1, z2, z3⟩ : w3.cell? ⟨S, 0, none⟩ = some (.int .i64 s.frm) ∧ w3.cell? ⟨S, 1, none⟩ = some (.int .i64 s.till) ∧ w3.cell? ⟨S, 2, none⟩ = some (.int .i64 s.fin) ∧ w3.cell? ⟨S, 3, none⟩ = some (.slice aS nS cS) := ⟨HM.out.sm.k0, HM.out.sm.k1, HM.out.sm.k2, HM.out.sm.k3⟩
  have hlS : S < w3.heap.size := World.block_lt_of_cell? w3 _ z0
  cases h3 : sesB s
  · have HBAD : Hid ((trfB nm ar && (calB c && sesB s)) = false) := Lib.hid (by rw [h3]; simp)
    clear h3 t0 t1 hlT k0 k1 k2 hlX z0 z1 z2 z3 hlS
    have q0 : w3.cell? ⟨Q, 0, none⟩ = some (.slice none 0 0) := HM.out.oq.cell (i := 0) (by omega)
    have fq0 : w3.frozen? ⟨Q, 0, none⟩ = false := HM.out.oq.frozen 0
    have q1 : w3.cell? ⟨Q, 1, none⟩ = some (.int .i64 0) := HM.out.oq.cell (i := 1) (by omega)
    have fq1 : w3.frozen? ⟨Q, 1, none⟩ = false := HM.out.oq.frozen 1
    have q2 : w3.cell? ⟨Q, 2, none⟩ = some (.int .i64 0) := HM.out.oq.cell (i := 2) (by omega)
    have fq2 : w3.frozen? ⟨Q, 2, none⟩ = false := HM.out.oq.frozen 2
    have q3 : w3.cell? ⟨Q, 3, none⟩ = some (.int .i64 0) := HM.out.oq.cell (i := 3) (by omega)
    have fq3 : w3.frozen? ⟨Q, 3, none⟩ = false := HM.out.oq.frozen 3
    have e0 : w3.cell? ⟨E, 0, none⟩ = some (.int .i64 0) := HM.out.oe.cell (i := 0) (by omega)
    have fe0 : w3.frozen? ⟨E, 0, none⟩ = false := HM.out.oe.frozen 0
    have hlQ : Q < w3.heap.size := HM.out.oq.lt
    have hlE : E < w3.heap.size := HM.out.oe.lt
    have hQE : Q ≠ E := HM.out.ne
    have hEQ : E ≠ Q := fun e => HM.out.ne e.symm
    have HF := Lib.hid (HM.out.fin (.slice none 0 0) 0 0 0 1)
    go_wp2_with fail
    refine leaves_cons (f := 19) (args := #[.pointer (some ⟨E, 0, none⟩)]) (by simp) (by simp [go_sem]) ?_
    refine (bBill1_idle ⟨E, 0, none⟩ _).mono ?_
    rintro e u' w'' ⟨rfl, rfl, hww⟩
    rw [← hww]
    clear hww
    refine ⟨_, results_c2B (a := 6) (b := 7) (ta := 40) (tb := 41) (ba := Q) (bb := E) (by kernel_rfl) rfl rfl (load_bill HF.out.1) (load_errB HF.out.2.1), ?_⟩
    exact blPost_bad HBAD.out HF.out.2.2
  have H3 := Lib.hid h3
  clear h3
  have HLT3 : Hid (Q < w3.heap.size ∧ E < w3.heap.size) := Lib.hid ⟨HM.out.oq.lt, HM.out.oe.lt⟩
  have HGOOD : Hid ((trfB nm ar && (calB c && sesB s)) = true) := Lib.hid (by rw [H1.out, H2.out, H3.out]; rfl)
  go_wp2_with fail
  refine (bSum_any nm aT nT cT ar aC nC cC aH nH cH c aS nS cS s _ (Lib.hid HM.out.tm.rd) (Lib.hid HM.out.cm.rd) (Lib.hid HM.out.sm.rd) H1.out H2.out H3.out).mono ?_
  rintro e w4 ⟨he, hb4⟩
  have HM := Lib.hid (HM.out.keep hb4)
  clear hb4 t0 t1 hlT k0 k1 k2 hlX z0 z1 z2 z3 hlS
  cases ho : sumO ar c s with
  | none =>
    rw [ho] at he
    subst he
    have HNO := Lib.hid ho
    have HF := Lib.hid (HM.out.fin2 3)
    refine leaves_cons (f := 19) (args := #[.pointer (some ⟨E, 0, none⟩)]) (by simp) (by simp [go_sem]) ?_
    refine (bBill1_stop E 0 3 _ (HM.out.oe.cell (i := 0) (by omega)) (HM.out.oe.frozen 0)).mono ?_
    rintro e u' w'' ⟨rfl, rfl, hww⟩
    rw [← hww]
    clear hww
    refine ⟨_, results_c2B (a := 6) (b := 7) (ta := 40) (tb := 41) (ba := Q) (bb := E) (by kernel_rfl) rfl rfl (load_bill HF.out.1) (load_errB HF.out.2.1), ?_⟩
    exact blPost_no HGOOD.out HNO.out HF.out.2.2
  | some bv =>
    rw [ho] at he
    obtain ⟨A, cA, he, hrd, hfr⟩ := he
    have HYES := Lib.hid ho
    have HRD := Lib.hid hrd
    have HFR : Hid (∀ a, A = some a → w3.heap.size ≤ a.block) := Lib.hid hfr
    have HLT : Hid (Q < w3.heap.size ∧ E < w3.heap.size) := Lib.hid HLT3.out
    subst he
    clear ho hrd hfr
    obtain ⟨nn, hnn⟩ : ∃ n, n = bv.lines.length := ⟨_, rfl⟩
    rw [← hnn]
    have HNN := Lib.hid hnn
    clear hnn
    have q0 : w4.cell? ⟨Q, 0, none⟩ = some (.slice none 0 0) := HM.out.oq.cell (i := 0) (by omega)
    have fq0 : w4.frozen? ⟨Q, 0, none⟩ = false := HM.out.oq.frozen 0
    have q1 : w4.cell? ⟨Q, 1, none⟩ = some (.int .i64 0) := HM.out.oq.cell (i := 1) (by omega)
    have fq1 : w4.frozen? ⟨Q, 1, none⟩ = false := HM.out.oq.frozen 1
    have q2 : w4.cell? ⟨Q, 2, none⟩ = some (.int .i64 0) := HM.out.oq.cell (i := 2) (by omega)
    have fq2 : w4.frozen? ⟨Q, 2, none⟩ = false := HM.out.oq.frozen 2
    have q3 : w4.cell? ⟨Q, 3, none⟩ = some (.int .i64 0) := HM.out.oq.cell (i := 3) (by omega)
    have fq3 : w4.frozen? ⟨Q, 3, none⟩ = false := HM.out.oq.frozen 3
    have e0 : w4.cell? ⟨E, 0, none⟩ = some (.int .i64 0) := HM.out.oe.cell (i := 0) (by omega)
    have fe0 : w4.frozen? ⟨E, 0, none⟩ = false := HM.out.oe.frozen 0
    have hlQ : Q < w4.heap.size := HM.out.oq.lt
    have hlE : E < w4.heap.size := HM.out.oe.lt
    have hQE : Q ≠ E := HM.out.ne
    have hEQ : E ≠ Q := fun e => HM.out.ne e.symm
    have HF := Lib.hid (HM.out.fin (.slice A nn cA) bv.net bv.tax bv.total 0)
    have HG := Lib.hid (HM.out.fin3 HRD.out (fun a ha => by have h1 := HFR.out a ha; have h2 := HLT.out; omega) (.slice A nn cA) (.int .i64 bv.net) (.int .i64 bv.tax) (.int .i64 bv.total) (.int .i64 0))
    go_wp2_with fail
    refine leaves_cons (f := 19) (args := #[.pointer (some ⟨E, 0, none⟩)]) (by simp) (by simp [go_sem]) ?_
    refine (bBill1_idle ⟨E, 0, none⟩ _).mono ?_
    rintro e u' w'' ⟨rfl, rfl, hww⟩
    rw [← hww]
    clear hww
    refine ⟨_, results_c2B (a := 6) (b := 7) (ta := 40) (tb := 41) (ba := Q) (bb := E) (by kernel_rfl) rfl rfl (load_bill HF.out.1) (load_errB HF.out.2.1), ?_⟩
    exact blPost_yes HGOOD.out HYES.out HNN.out HG.out HF.out.2.2
end Go.Proofs.YtoekpdnpncgeeaaGreat
/-
The reference's words that the Tops of round rt2 use: Few, Valid, Same.
-/
namespace Go.Proofs.YtoekpdnpncgeeaaGreat
open Go.RowKit
set_option linter.unusedVariables false
set_option linter.unusedSimpArgs false
/-- Boxes of a tariff, a calendar, a session. -/
structure TCS (w W : World) (T X S : Nat) (nm : ByteArray) (aT : Option Addr) (nT cT : Nat) (ar : List Art) (aC : Option Addr) (nC cC : Nat) (aH : Option Addr) (nH cH : Nat) (c : Cal) (aS : Option Addr) (nS cS : Nat) (s : Ses) : Prop where
  tm : TrfM w W T nm aT nT cT ar
  cm : CalM w W X aC nC cC aH nH cH c
  sm : SesM w W S aS nS cS s
theorem TCS.bel {w W : World} {T X S : Nat} {nm : ByteArray} {aT : Option Addr} {nT cT : Nat} {ar : List Art} {aC : Option Addr} {nC cC : Nat} {aH : Option Addr} {nH cH : Nat} {c : Cal} {aS : Option Addr} {nS cS : Nat} {s : Ses} (h : TCS w W T X S nm aT nT cT ar aC nC cC aH nH cH c aS nS cS s) : Below w.heap.size w W := h.tm.bel
theorem TCS.keep {w W W' : World} {T X S : Nat} {nm : ByteArray} {aT : Option Addr} {nT cT : Nat} {ar : List Art} {aC : Option Addr} {nC cC : Nat} {aH : Option Addr} {nH cH : Nat} {c : Cal} {aS : Option Addr} {nS cS : Nat} {s : Ses} (h : TCS w W T X S nm aT nT cT ar aC nC cC aH nH cH c aS nS cS s) (hb : Below W.heap.size W W') : TCS w W' T X S nm aT nT cT ar aC nC cC aH nH cH c aS nS cS s := ⟨h.tm.keep hb, h.cm.keep hb, h.sm.keep hb⟩
theorem TCS.start {w : World} {nm : ByteArray} {aT : Option Addr} {nT cT : Nat} {ar : List Art} {aC : Option Addr} {nC cC : Nat} {aH : Option Addr} {nH cH : Nat} {c : Cal} {aS : Option Addr} {nS cS : Nat} {s : Ses} (hq : RdTrf w nm aT nT ar) (hc : RdCal w aC nC aH nH c) (hs : RdSes w aS nS s) : TCS w (((w.alloc (.cells #[.string nm, .slice aT nT cT] 24)).alloc (.cells #[.int .i64 c.off, .slice aC nC cC, .slice aH nH cH] 28)).alloc (.cells #[.int .i64 s.frm, .int .i64 s.till, .int .i64 s.fin, .slice aS nS cS] 31)) w.heap.size (w.heap.size + 1) (w.heap.size + 2) nm aT nT cT ar aC nC cC aH nH cH c aS nS cS s := by
  obtain ⟨W1, h1⟩ : ∃ W, W = w.alloc (.cells #[.string nm, .slice aT nT cT] 24) := ⟨_, rfl⟩
  obtain ⟨W2, h2⟩ : ∃ W, W = W1.alloc (.cells #[.int .i64 c.off, .slice aC nC cC, .slice aH nH cH] 28) := ⟨_, rfl⟩
  obtain ⟨W3, h3⟩ : ∃ W, W = W2.alloc (.cells #[.int .i64 s.frm, .int .i64 s.till, .int .i64 s.fin, .slice aS nS cS] 31) := ⟨_, rfl⟩
  rw [← h1, ← h2, ← h3]
  have s1 : W1.heap.size = w.heap.size + 1 := by rw [h1]; simp
  have s2 : W2.heap.size = w.heap.size + 2 := by rw [h2]; simp [s1]
  have b1 : Below w.heap.size w W1 := by rw [h1]; exact (Below.refl _ _).alloc (Nat.le_refl _) _
  have b12 : Below W1.heap.size W1 W2 := by rw [h2]; exact (Below.refl _ _).alloc (Nat.le_refl _) _
  have b23 : Below W2.heap.size W2 W3 := by rw [h3]; exact (Below.refl _ _).alloc (Nat.le_refl _) _
  have t1 : TrfM w W1 w.heap.size nm aT nT cT ar := by rw [h1]; exact TrfM.box (Below.refl _ _) hq
  have c2 : CalM w W2 (w.heap.size + 1) aC nC cC aH nH cH c := by rw [h2, ← s1]; exact CalM.box2 b1 (hc.keep b1)
  have s3' : SesM w W3 (w.heap.size + 2) aS nS cS s := by rw [h3, ← s2]; exact SesM.box (below_then b1 b12) (hs.keep (below_then b1 b12))
  exact ⟨(t1.keep b12).keep b23, c2.keep b23, s3'⟩
/-- What the reference's Valid tells of an offset. -/
def VnPost (c : Cal) (w : World) (e : Ending) (w' : World) : Prop := ∃ z : Bool, e = .returned (.bool z) ∧ (z = true → amB c.off (-1440) 1440 = true) ∧ Below w.heap.size w w'
theorem r26Off_any (n : Int) (w : World) : Calls Tryz.prog 18 #[.int .i64 n] w fun e w' => e = .returned (.bool (amB n (-1440) 1440)) ∧ w' = w := by
  by_cases h1 : -1440 ≤ n
  · by_cases h2 : n ≤ 1440
    · rw [amB_true h1 h2]
      go_enter Tryz.func18, Tryz.ntmps18
      go_wp2
      go_ret
      exact ⟨rfl, rfl⟩
    · rw [amB_false (fun h => h2 h.2)]
      go_enter Tryz.func18, Tryz.ntmps18
      go_wp2
      go_ret
      exact ⟨rfl, rfl⟩
  · rw [amB_false (fun h => h1 h.1)]
    go_enter Tryz.func18, Tryz.ntmps18
    go_wp2
    go_ret
    exact ⟨rfl, rfl⟩
set_option maxRecDepth 100000 in
set_option maxHeartbeats 8000000 in
theorem r26Few_any (aC : Option Addr) (nC cC : Nat) (aH : Option Addr) (nH cH : Nat) (c : Cal) (w : World) (HC : Hid (RdCal w aC nC aH nH c)) : Calls Tryz.prog 17 #[.agg #[.int .i64 c.off, .slice aC nC cC, .slice aH nH cH]] w fun e w' => e = .returned (.bool (decide (nC ≤ 30) && decide (nH ≤ 60))) ∧ Below w.heap.size w w' := by
  have hm1 := HC.out.m1
  have hm2 := HC.out.m2
  obtain ⟨W0, hW0⟩ : ∃ W0, W0 = w.alloc (.cells #[.int .i64 c.off, .slice aC nC cC, .slice aH nH cH] 28) := ⟨_, rfl⟩
  obtain ⟨X, hX⟩ : ∃ X, X = w.heap.size := ⟨_, rfl⟩
  have HM : Hid (CalM w W0 X aC nC cC aH nH cH c) := Lib.hid (by rw [hW0, hX]; exact CalM.box HC.out)
  have HW0 := Lib.hid hW0
  have HX0 := Lib.hid hX
  clear hW0 hX
  go_enter Tryz.func17, Tryz.ntmps17
  go_upto_region 1 with (fail)
  rw [← HW0.out, ← HX0.out]
  clear HW0 HX0
  obtain ⟨k0, k1, k2⟩ : W0.cell? ⟨X, 0, none⟩ = some (.int .i64 c.off) ∧ W0.cell? ⟨X, 1, none⟩ = some (.slice aC nC cC) ∧ W0.cell? ⟨X, 2, none⟩ = some (.slice aH nH cH) := ⟨HM.out.k0, HM.out.k1, HM.out.k2⟩
  have hlX : X < W0.heap.size := World.block_lt_of_cell? W0 _ k0
  by_cases h1 : nC ≤ 30
  · have h1z : (nC : Int) ≤ 30 := by omega
    by_cases h2 : nH ≤ 60
    · have h2z : (nH : Int) ≤ 60 := by omega
      go_wp2_with fail
      go_ret
      exact ⟨ret_bool (by first | rfl | omega | (simp; omega) | (simp; assumption) | (rw [decide_eq_true h1, decide_eq_true h2]; rfl; done) | (rw [decide_eq_true h1, decide_eq_true h2]; rfl; assumption)), HM.out.bel⟩
    · have h2z : ¬ (nH : Int) ≤ 60 := by omega
      go_wp2_with fail
      go_ret
      exact ⟨ret_bool (by first | rfl | omega | (simp; omega) | (simp; assumption) | (rw [decide_eq_false h2]; simp; done) | (rw [decide_eq_false h2]; simp; assumption)), HM.out.bel⟩
  · have h1z : ¬ (nC : Int) ≤ 30 := by omega
    go_wp2_with fail
    go_ret
    exact ⟨ret_bool (by first | rfl | omega | (simp; omega) | (simp; assumption) | (rw [decide_eq_false h1]; rfl; done) | (rw [decide_eq_false h1]; rfl; assumption)), HM.out.bel⟩
set_option maxRecDepth 100000 in
set_option maxHeartbeats 8000000 in
theorem r33Few_any (nm : ByteArray) (aT : Option Addr) (nT cT : Nat) (ar : List Art) (aC : Option Addr) (nC cC : Nat) (aH : Option Addr) (nH cH : Nat) (c : Cal) (aS : Option Addr) (nS cS : Nat) (s : Ses) (w : World) (HQ : Hid (RdTrf w nm aT nT ar)) (HC : Hid (RdCal w aC nC aH nH c)) (HS : Hid (RdSes w aS nS s)) : Calls Tryz.prog 7 #[.agg #[.string nm, .slice aT nT cT], .agg #[.int .i64 c.off, .slice aC nC cC, .slice aH nH cH], .agg #[.int .i64 s.frm, .int .i64 s.till, .int .i64 s.fin, .slice aS nS cS]] w fun e w' => e = .returned (.bool ((decide (nC ≤ 30) && decide (nH ≤ 60)) && (decide (nm.size ≤ 50) && (decide (nT ≤ 20) && decide (nS ≤ 60))))) ∧ Below w.heap.size w w' := by
  have hm1 := HQ.out.lm
  have hm2 := HS.out.lm
  have hm3 := HQ.out.ls
  obtain ⟨W0, hW0⟩ : ∃ W0, W0 = ((w.alloc (.cells #[.string nm, .slice aT nT cT] 24)).alloc (.cells #[.int .i64 c.off, .slice aC nC cC, .slice aH nH cH] 28)).alloc (.cells #[.int .i64 s.frm, .int .i64 s.till, .int .i64 s.fin, .slice aS nS cS] 31) := ⟨_, rfl⟩
  obtain ⟨B, hB⟩ : ∃ B, B = w.heap.size := ⟨_, rfl⟩
  have HM : Hid (TCS w W0 B (B + 1) (B + 1 + 1) nm aT nT cT ar aC nC cC aH nH cH c aS nS cS s) := Lib.hid (by rw [hW0, hB]; exact TCS.start HQ.out HC.out HS.out)
  have HW0 := Lib.hid hW0
  have HB0 := Lib.hid hB
  clear hW0 hB
  go_enter Tryz.func7, Tryz.ntmps7
  go_upto_region 1 with (fail)
  rw [← HW0.out, ← HB0.out]
  clear HW0 HB0
  obtain ⟨T, hT⟩ : ∃ T, T = B := ⟨_, rfl⟩
  obtain ⟨X, hX⟩ : ∃ T, T = B + 1 := ⟨_, rfl⟩
  obtain ⟨S, hS⟩ : ∃ T, T = B + 1 + 1 := ⟨_, rfl⟩
  rw [← hS, ← hX, ← hT] at HM ⊢
  clear hT hX hS
  obtain ⟨k0, k1, k2⟩ : W0.cell? ⟨X, 0, none⟩ = some (.int .i64 c.off) ∧ W0.cell? ⟨X, 1, none⟩ = some (.slice aC nC cC) ∧ W0.cell? ⟨X, 2, none⟩ = some (.slice aH nH cH) := ⟨HM.out.cm.k0, HM.out.cm.k1, HM.out.cm.k2⟩
  have hlX : X < W0.heap.size := World.block_lt_of_cell? W0 _ k0
  go_wp2_with fail
  refine (r26Few_any aC nC cC aH nH cH c _ (Lib.hid HM.out.cm.rd)).mono ?_
  rintro e w1 ⟨rfl, hb1⟩
  have HM := Lib.hid (HM.out.keep hb1)
  clear hb1 k0 k1 k2 hlX
  obtain ⟨t0, t1⟩ : w1.cell? ⟨T, 0, none⟩ = some (.string nm) ∧ w1.cell? ⟨T, 1, none⟩ = some (.slice aT nT cT) := ⟨HM.out.tm.k0, HM.out.tm.k1⟩
  have hlT : T < w1.heap.size := World.block_lt_of_cell? w1 _ t0
  have z3 : w1.cell? ⟨S, 3, none⟩ = some (.slice aS nS cS) := HM.out.sm.k3
  have hlS : S < w1.heap.size := World.block_lt_of_cell? w1 _ z3
  have HBB := Lib.hid HM.out.bel
  cases h0 : (decide (nC ≤ 30) && decide (nH ≤ 60))
  · go_wp2_with fail
    go_ret
    exact ⟨ret_bool (by first | rfl | omega | (simp; omega) | (simp; assumption) | (rw [h0]; rfl; done) | (rw [h0]; rfl; assumption)), HBB.out⟩
  by_cases h1 : nm.size ≤ 50
  case neg =>
    have h1z : ¬ (nm.size : Int) ≤ 50 := by omega
    go_wp2_with fail
    go_ret
    exact ⟨ret_bool (by first | rfl | omega | (simp; omega) | (simp; assumption) | (rw [decide_eq_false h1]; simp; done) | (rw [decide_eq_false h1]; simp; assumption)), HBB.out⟩
  have h1z : (nm.size : Int) ≤ 50 := by omega
  by_cases h2 : nT ≤ 20
  case neg =>
    have h2z : ¬ (nT : Int) ≤ 20 := by omega
    go_wp2_with fail
    go_ret
    exact ⟨ret_bool (by first | rfl | omega | (simp; omega) | (simp; assumption) | (rw [decide_eq_false h2]; simp; done) | (rw [decide_eq_false h2]; simp; assumption)), HBB.out⟩
  have h2z : (nT : Int) ≤ 20 := by omega
  by_cases h3 : nS ≤ 60
  case neg =>
    have h3z : ¬ (nS : Int) ≤ 60 := by omega
    go_wp2_with fail
    go_ret
    exact ⟨ret_bool (by first | rfl | omega | (simp; omega) | (simp; assumption) | (rw [decide_eq_false h3]; simp; done) | (rw [decide_eq_false h3]; simp; assumption)), HBB.out⟩
  have h3z : (nS : Int) ≤ 60 := by omega
  go_wp2_with fail
  go_ret
  exact ⟨ret_bool (by first | rfl | omega | (simp; omega) | (simp; assumption) | (rw [h0, decide_eq_true h1, decide_eq_true h2, decide_eq_true h3]; rfl; done) | (rw [h0, decide_eq_true h1, decide_eq_true h2, decide_eq_true h3]; rfl; assumption)), HBB.out⟩
set_option maxRecDepth 100000 in
set_option maxHeartbeats 8000000 in
theorem r26Valid_nil (aC : Option Addr) (nC cC : Nat) (aH : Option Addr) (nH cH : Nat) (c : Cal) (w : World) (HC : Hid (RdCal w aC nC aH nH c)) (hnil : c.chs = []) : Calls Tryz.prog 8 #[.agg #[.int .i64 c.off, .slice aC nC cC, .slice aH nH cH]] w (VnPost c w) := by
  have hm2 := HC.out.m2
  have HLH : Hid (c.hol.length = nH) := Lib.hid HC.out.l2
  have HN0 : Hid (nC = 0) := Lib.hid (by rw [← HC.out.l1, hnil]; rfl)
  clear hnil
  obtain ⟨W0, hW0⟩ : ∃ W0, W0 = w.alloc (.cells #[.int .i64 c.off, .slice aC nC cC, .slice aH nH cH] 28) := ⟨_, rfl⟩
  obtain ⟨X, hX⟩ : ∃ X, X = w.heap.size := ⟨_, rfl⟩
  have HM : Hid (CalM w W0 X aC nC cC aH nH cH c) := Lib.hid (by rw [hW0, hX]; exact CalM.box HC.out)
  have HW0 := Lib.hid hW0
  have HX0 := Lib.hid hX
  clear hW0 hX
  go_enter Tryz.func8, Tryz.ntmps8
  go_upto_region 1 with (fail)
  rw [← HW0.out, ← HX0.out]
  clear HW0 HX0
  obtain ⟨k0, k1, k2⟩ : W0.cell? ⟨X, 0, none⟩ = some (.int .i64 c.off) ∧ W0.cell? ⟨X, 1, none⟩ = some (.slice aC nC cC) ∧ W0.cell? ⟨X, 2, none⟩ = some (.slice aH nH cH) := ⟨HM.out.k0, HM.out.k1, HM.out.k2⟩
  have hlX : X < W0.heap.size := World.block_lt_of_cell? W0 _ k0
  go_wp2_with fail
  refine (r26Off_any c.off _).mono ?_
  rintro e w1 ⟨rfl, hw⟩
  subst hw
  cases ho : amB c.off (-1440) 1440
  · go_wp2_with fail
    go_ret
    exact ⟨false, rfl, (fun h => by cases h), HM.out.bel⟩
  have HO := Lib.hid ho
  clear ho
  have h1z : ¬ (16 : Int) < (nC : Int) := by have := HN0.out; omega
  by_cases h2 : nH ≤ 32
  case neg =>
    have h2z : (32 : Int) < (nH : Int) := by omega
    go_wp2_with fail
    go_ret
    exact ⟨false, rfl, (fun h => by cases h), HM.out.bel⟩
  have h2z : ¬ (32 : Int) < (nH : Int) := by omega
  go_wp2_with fail
  clear k0 k1 k2 hlX
  go_loopg [3] 0 (fun g1 v3 wr => v3 = .int .i64 0 ∧ Hid (CalM w wr X aC nC cC aH nH cH c))
  case atStart => exact ⟨rfl, HM⟩
  case round =>
    clear HM
    obtain ⟨rfl, HM⟩ := hrel
    obtain ⟨k0, k1, k2⟩ : wr.cell? ⟨X, 0, none⟩ = some (.int .i64 c.off) ∧ wr.cell? ⟨X, 1, none⟩ = some (.slice aC nC cC) ∧ wr.cell? ⟨X, 2, none⟩ = some (.slice aH nH cH) := ⟨HM.out.k0, HM.out.k1, HM.out.k2⟩
    have hlX : X < wr.heap.size := World.block_lt_of_cell? wr _ k0
    have hz : ¬ (0 : Int) < (nC : Int) := by have := HN0.out; omega
    go_wp2_with fail
    clear k0 k1 k2 hlX
    go_loopg [5] nH (fun g1 v5 wr => ∃ i : Nat, v5 = .int .i64 i ∧ i ≤ nH ∧ nH - i ≤ g1 ∧ Hid (CalM w wr X aC nC cC aH nH cH c))
    case atStart => exact ⟨0, by go_num, by omega, by omega, HM⟩
    case round =>
      clear HM
      obtain ⟨i, rfl, hi, hg1, HM⟩ := hrel
      obtain ⟨k0, k1, k2⟩ : wr.cell? ⟨X, 0, none⟩ = some (.int .i64 c.off) ∧ wr.cell? ⟨X, 1, none⟩ = some (.slice aC nC cC) ∧ wr.cell? ⟨X, 2, none⟩ = some (.slice aH nH cH) := ⟨HM.out.k0, HM.out.k1, HM.out.k2⟩
      have hlX : X < wr.heap.size := World.block_lt_of_cell? wr _ k0
      by_cases hlt : i < nH
      · have hltz : (i : Int) < (nH : Int) := by omega
        obtain ⟨bb, off, x, hA, hbl, hgx, hc0⟩ := rdI_at HM.out.rd.r2 (show i < c.hol.length by rw [HLH.out]; exact hlt)
        by_cases hx0 : x < 0
        · subst hA
          go_wp2_with fail
          go_ret
          exact ⟨false, rfl, (fun h => by cases h), HM.out.bel⟩
        by_cases hx1 : 36500 < x
        · subst hA
          go_wp2_with fail
          go_ret
          exact ⟨false, rfl, (fun h => by cases h), HM.out.bel⟩
        by_cases hi0 : 0 < i
        · have hi0z : (0 : Int) < (i : Int) := by omega
          obtain ⟨k, rfl⟩ : ∃ k, i = k + 1 := ⟨i - 1, by omega⟩
          obtain ⟨bb2, off2, y, hA2, hbl2, hgy, hc2⟩ := rdI_at HM.out.rd.r2 (k := k) (by rw [HLH.out]; omega)
          rw [hA] at hA2
          injection hA2 with hA2
          injection hA2 with e1 e2 _
          subst e1 e2 hA
          have hks : ((k + 1 : Nat) : Int) - 1 = (k : Int) := by omega
          have hwi : IntKind.i64.wrap (((k + 1 : Nat) : Int) - 1) = (k : Int) := by rw [hks]; exact IntWalk.i64_in _ (by omega)
          clear hgx hgy
          by_cases hxy : x ≤ y
          · go_wp2_with fail
            go_ret
            exact ⟨false, rfl, (fun h => by cases h), HM.out.bel⟩
          · go_wp2_with fail
            go_roundg (nH - (k + 1 + 1))
            case measure => omega
            case rel => exact ⟨k + 1 + 1, by go_num, by omega, by omega, HM⟩
        · have hi0z : ¬ (0 : Int) < (i : Int) := by omega
          subst hA
          go_wp2_with fail
          go_roundg (nH - (i + 1))
          case measure => omega
          case rel => exact ⟨i + 1, by go_num, by omega, by omega, HM⟩
      · have hltz : ¬ (i : Int) < (nH : Int) := by omega
        go_wp2_with fail
        go_ret
        exact ⟨true, rfl, (fun _ => HO.out), HM.out.bel⟩
set_option maxRecDepth 100000 in
theorem eq_line (a b : Int) (W : World) : (Op.equalIn 10000 71 (.agg #[.int .i64 a, .int .i64 b]) (.agg #[.int .i64 a, .int .i64 b])).run Tryz.prog W = .ok true W := by
  go_simp
set_option maxRecDepth 100000 in
set_option maxHeartbeats 8000000 in
theorem r33Same_refl (A A2 : Option Addr) (n cA cA2 : Nat) (net tax tot : Int) (ls : List (Int × Int)) (w : World) (h1 : Rd 2 encLn w A ls) (h2 : Rd 2 encLn w A2 ls) (hn : ls.length = n) (hn6 : n ≤ 1000000) : Calls Tryz.prog 11 #[.agg #[.slice A n cA, .int .i64 net, .int .i64 tax, .int .i64 tot], .agg #[.slice A2 n cA2, .int .i64 net, .int .i64 tax, .int .i64 tot]] w fun e w' => e = .returned (.bool true) ∧ Below w.heap.size w w' := by
  obtain ⟨W0, hW0⟩ : ∃ W0, W0 = (w.alloc (.cells #[.slice A n cA, .int .i64 net, .int .i64 tax, .int .i64 tot] 40)).alloc (.cells #[.slice A2 n cA2, .int .i64 net, .int .i64 tax, .int .i64 tot] 40) := ⟨_, rfl⟩
  obtain ⟨X, hX⟩ : ∃ X, X = w.heap.size := ⟨_, rfl⟩
  have hb0 : Below w.heap.size w W0 := by rw [hW0]; exact ((Below.refl _ _).alloc (Nat.le_refl _) _).alloc (by simp) _
  have HB0 := Lib.hid hb0
  obtain ⟨x0, x1, x2, x3⟩ : W0.cell? ⟨X, 0, none⟩ = some (.slice A n cA) ∧ W0.cell? ⟨X, 1, none⟩ = some (.int .i64 net) ∧ W0.cell? ⟨X, 2, none⟩ = some (.int .i64 tax) ∧ W0.cell? ⟨X, 3, none⟩ = some (.int .i64 tot) := by rw [hW0, hX]; exact ⟨by go_simp, by go_simp, by go_simp, by go_simp⟩
  obtain ⟨v0, v1, v2, v3⟩ : W0.cell? ⟨X + 1, 0, none⟩ = some (.slice A2 n cA2) ∧ W0.cell? ⟨X + 1, 1, none⟩ = some (.int .i64 net) ∧ W0.cell? ⟨X + 1, 2, none⟩ = some (.int .i64 tax) ∧ W0.cell? ⟨X + 1, 3, none⟩ = some (.int .i64 tot) := by rw [hW0, hX]; exact ⟨by go_simp, by go_simp, by go_simp, by go_simp⟩
  have HR1 := Lib.hid (h1.keep hb0)
  have HR2 := Lib.hid (h2.keep hb0)
  have HN := Lib.hid hn
  have HW0 := Lib.hid hW0
  have HX0 := Lib.hid hX
  clear hW0 hX hb0 h1 h2 hn
  go_enter Tryz.func11, Tryz.ntmps11
  go_upto_region 1 with (fail)
  rw [← HW0.out, ← HX0.out]
  clear HW0 HX0
  obtain ⟨Y, hY⟩ : ∃ Y, Y = X + 1 := ⟨_, rfl⟩
  rw [← hY] at v0 v1 v2 v3 ⊢
  clear hY
  have hlX : X < W0.heap.size := World.block_lt_of_cell? W0 _ x0
  have hlY : Y < W0.heap.size := World.block_lt_of_cell? W0 _ v0
  have hnn : ((n : Int) != (n : Int)) = false := by simp
  go_wp2_with fail
  go_loopg [5] n (fun g1 v5 wr => ∃ i : Nat, v5 = .int .i64 i ∧ i ≤ n ∧ n - i ≤ g1 ∧ ∃ q, wr = W0.drewN q)
  case atStart => exact ⟨0, by go_num, by omega, by omega, 0, rfl⟩
  case round =>
    obtain ⟨i, rfl, hi, hg1, q, hwr⟩ := hrel
    subst hwr
    by_cases hlt : i < n
    · have hltz : (i : Int) < (n : Int) := by omega
      obtain ⟨b1, o1, p, e1, l1, g1', c1⟩ := HR1.out.at_ (k := i) (by rw [HN.out]; exact hlt)
      obtain ⟨b2, o2, p2, e2, l2, g2', c2⟩ := HR2.out.at_ (k := i) (by rw [HN.out]; exact hlt)
      rw [g1'] at g2'
      injection g2' with g2'
      subst g2'
      have d0 : W0.cell? ⟨b1, o1 + i * 2, none⟩ = some (.int .i64 p.1) := c1 0 _ rfl
      have d1 : W0.cell? ⟨b1, o1 + i * 2 + 1, none⟩ = some (.int .i64 p.2) := c1 1 _ rfl
      have d2 : W0.cell? ⟨b2, o2 + i * 2, none⟩ = some (.int .i64 p.1) := c2 0 _ rfl
      have d3 : W0.cell? ⟨b2, o2 + i * 2 + 1, none⟩ = some (.int .i64 p.2) := c2 1 _ rfl
      have hq0 := fun W => eq_line p.1 p.2 W
      clear c1 c2 g1'
      subst e1 e2
      go_wp2_with fail
      go_quiet (fail)
      go_wp2_with fail
      go_roundg (n - (i + 1))
      case measure => omega
      case rel => exact ⟨i + 1, by go_num, by omega, by omega, _, rfl⟩
    · have hltz : ¬ (i : Int) < (n : Int) := by omega
      have e1 : (net == net) = true := by simp
      have e2 : (tax == tax) = true := by simp
      have e3 : (tot == tot) = true := by simp
      go_wp2_with fail
      go_ret
      exact ⟨rfl, below_drewN HB0.out q⟩
end Go.Proofs.YtoekpdnpncgeeaaGreat
