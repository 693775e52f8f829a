/-
bill.sum: what the articles cost, the cap, and the tax.
-/
import Derived.Test.YtoekpdnpncgeeaaGreatGBlA
import Derived.Test.YtoekpdnpncgeeaaGreatGLApp
namespace Go.Proofs.YtoekpdnpncgeeaaGreat
open Go.RowKit
set_option linter.unusedVariables false
set_option linter.unusedSimpArgs false
def encLn (x : Int × Int) : List Value := [.int .i64 x.1, .int .i64 x.2]
theorem encLn_len (x : Int × Int) : (encLn x).length = 2 := rfl
theorem encLn_one (x : Int × Int) (u : Value) (h : u ∈ encLn x) : u.oneCell' = true := by
  unfold encLn at h
  simp only [List.mem_cons, List.not_mem_nil, or_false] at h
  rcases h with rfl | rfl <;> rfl
/-- A bill in four cells. -/
def lnF (v : Value) (n t tt : Int) : Nat → Value := fun i => if i = 0 then v else if i = 1 then .int .i64 n else if i = 2 then .int .i64 t else .int .i64 tt
/-- A bill that is returned, or the panic that leaves it. -/
def SmPost (o : Option BV) (w : World) (e : Ending) (w' : World) : Prop :=
  (match o with
    | some b => ∃ A c, e = .returned (.agg #[.slice A b.lines.length c, .int .i64 b.net, .int .i64 b.tax, .int .i64 b.total]) ∧ Rd 2 encLn w' A b.lines ∧ ∀ a, A = some a → w.heap.size ≤ a.block
    | none => e = .panicked [{ v := .iface 98 (.agg #[.int .i64 3]), recovered := false }]) ∧ Below w.heap.size w w'
theorem trfB_iff {nm : ByteArray} {ar : List Art} : trfB nm ar = true → ar.length ≤ 12 ∧ (∀ a ∈ ar, artB a = true) ∧ taxN ar ≤ 1 := by
  unfold trfB artsB
  simp only [Bool.and_eq_true, decide_eq_true_eq, List.all_eq_true]
  exact fun h => ⟨h.2.1, h.2.2.1, h.2.2.2⟩
theorem art_kinds {a : Art} (h : artB a = true) (h5 : ¬ a.kind = 5) (h6 : ¬ a.kind = 6) : a.kind = 1 ∨ a.kind = 2 ∨ a.kind = 3 ∨ a.kind = 4 := by
  unfold artB at h
  simp only [Bool.and_eq_true] at h
  have := amB_of h.1
  omega
theorem art_price {a : Art} (h : artB a = true) : 0 ≤ a.price ∧ a.price ≤ 1000000 := by
  unfold artB at h
  simp only [Bool.and_eq_true] at h
  have := amB_of h.2.2.2.2.2.1
  unfold mostV at this
  split at this <;> omega
theorem fitV_bd (v : Int) : 0 ≤ fitV v ∧ fitV v ≤ 1000000000 := by
  unfold fitV
  split
  · rename_i h; exact amB_of h
  · omega
theorem timesV_bd (p q r : Int) : 0 ≤ timesV p q r ∧ timesV p q r ≤ 1000000000 := by
  unfold timesV
  split
  · exact fitV_bd _
  · omega
theorem startV_bd (p q r : Int) : 0 ≤ startV p q r ∧ startV p q r ≤ 1000000000 := by
  unfold startV
  split
  · exact fitV_bd _
  · omega
theorem taxV_bd (p q : Int) : 0 ≤ taxV p q ∧ taxV p q ≤ 1000000000 := by
  unfold taxV
  split
  · exact fitV_bd _
  · omega
theorem lineO_bd {a : Art} {c : Cal} {s : Ses} {v : Int} (ha : artB a = true) (h : lineO a c s = some v) : 0 ≤ v ∧ v ≤ 1000000000 := by
  have hp := art_price ha
  have hst : ∀ f t, stretchO a c f t = some v → 0 ≤ v ∧ v ≤ 1000000000 := by
    intro f t h
    unfold stretchO at h
    split at h
    · injection h with h; rw [← h]; exact startV_bd _ _ _
    · cases h
  unfold lineO at h
  split at h
  · injection h with h; rw [← h]; split <;> omega
  · split at h
    · split at h
      · injection h with h; rw [← h]; exact timesV_bd _ _ _
      · cases h
    · split at h
      · exact hst _ _ h
      · split at h
        · exact hst _ _ h
        · injection h with h; omega
theorem infoLine : (Tryz.prog.info? 71).map (fun i => (i.zero, i.size, i.bytes)) = some (some (.agg #[.int .i64 0, .int .i64 0]), 2, 16) := by kernel_rfl
theorem app_line {w : World} {base : Nat} {v : Value} {xs : List (Int × Int)} (x y : Int) (h : OwnR 71 2 encLn w base v xs) (hb : base ≤ w.heap.size) (hl : xs.length ≤ 100000) :
    Appends Tryz.prog (w.alloc (.cells #[.int .i64 x, .int .i64 y] 71)) 38 38 v (.slice (some ⟨w.heap.size, 0, none⟩) 1 1) ∧
    ∃ v' w1, appV Tryz.prog (w.alloc (.cells #[.int .i64 x, .int .i64 y] 71)) 38 38 v (.slice (some ⟨w.heap.size, 0, none⟩) 1 1) = v' ∧
      appW Tryz.prog (w.alloc (.cells #[.int .i64 x, .int .i64 y] 71)) 38 38 v (.slice (some ⟨w.heap.size, 0, none⟩) 1 1) = w1 ∧ Hid (OwnR 71 2 encLn w1 base v' (xs ++ [(x, y)])) ∧ Hid (Aside base v v' w w1) :=
  app_lit infoLine Tryz.underlying38 rfl (by omega) encLn_len encLn_one h hb rfl rfl (by omega) (by omega)
theorem BlrM.box {W : World} {a : Art} {aC : Option Addr} {nC cC : Nat} {aH : Option Addr} {nH cH : Nat} {c : Cal} {aS : Option Addr} {nS cS : Nat} {s : Ses} (hc : RdCal W aC nC aH nH c) (hs : RdSes W aS nS s) : BlrM (W.alloc (.cells #[.int .i64 a.kind, .int .i64 a.days, .int .i64 a.frm, .int .i64 a.till, .int .i64 a.price, .int .i64 a.unit, .int .i64 a.free, .int .i64 c.off, .slice aC nC cC, .slice aH nH cH, .int .i64 s.frm, .int .i64 s.till, .int .i64 s.fin, .slice aS nS cS] 109)) W.heap.size a aC nC cC aH nH cH c aS nS cS s :=
  have hb : Below W.heap.size W (W.alloc (.cells #[.int .i64 a.kind, .int .i64 a.days, .int .i64 a.frm, .int .i64 a.till, .int .i64 a.price, .int .i64 a.unit, .int .i64 a.free, .int .i64 c.off, .slice aC nC cC, .slice aH nH cH, .int .i64 s.frm, .int .i64 s.till, .int .i64 s.fin, .slice aS nS cS] 109)) := (Below.refl _ _).alloc (Nat.le_refl _) _
  ⟨by go_simp, by go_simp, by go_simp, by go_simp, by go_simp, by go_simp, by go_simp, by go_simp, by go_simp, by go_simp, by go_simp, by go_simp, by go_simp, by go_simp, hc.keep hb, hs.keep hb⟩
/-- The memory of sum. -/
structure SumM (w W : World) (T X S Q O : Nat) (nm : ByteArray) (aT : Option Addr) (nT cT : Nat) (ar : List Art) (aC : Option Addr) (nC cC : Nat) (aH : Option Addr) (nH cH : Nat) (c : Cal) (aS : Option Addr) (nS cS : Nat) (s : Ses) (lv : Value) (net : Int) (ls : List (Int × Int)) : Prop where
  tm : TrfM w W T nm aT nT cT ar
  cm : CalM w W X aC nC cC aH nH cH c
  sm : SesM w W S aS nS cS s
  oo : Own W O 40 4 (lnF lv net 0 0)
  oq : Own W Q 40 4 (lnF (.slice none 0 0) 0 0 0)
  ol : OwnR 71 2 encLn W (O + 1) lv ls
  og : w.heap.size ≤ O
  gq : w.heap.size ≤ Q
theorem SumM.bel {w W : World} {T X S Q O : Nat} {nm : ByteArray} {aT : Option Addr} {nT cT : Nat} {ar : List Art} {aC : Option Addr} {nC cC : Nat} {aH : Option Addr} {nH cH : Nat} {c : Cal} {aS : Option Addr} {nS cS : Nat} {s : Ses} {lv : Value} {net : Int} {ls : List (Int × Int)} (h : SumM w W T X S Q O nm aT nT cT ar aC nC cC aH nH cH c aS nS cS s lv net ls) : Below w.heap.size w W := h.tm.bel
theorem SumM.keep {w W W' : World} {T X S Q O : Nat} {nm : ByteArray} {aT : Option Addr} {nT cT : Nat} {ar : List Art} {aC : Option Addr} {nC cC : Nat} {aH : Option Addr} {nH cH : Nat} {c : Cal} {aS : Option Addr} {nS cS : Nat} {s : Ses} {lv : Value} {net : Int} {ls : List (Int × Int)} (h : SumM w W T X S Q O nm aT nT cT ar aC nC cC aH nH cH c aS nS cS s lv net ls) (hb : Below W.heap.size W W') : SumM w W' T X S Q O nm aT nT cT ar aC nC cC aH nH cH c aS nS cS s lv net ls :=
  ⟨h.tm.keep hb, h.cm.keep hb, h.sm.keep hb, h.oo.keep hb h.oo.lt, h.oq.keep hb h.oq.lt, h.ol.keep hb, h.og, h.gq⟩
theorem SumM.upd {w W W' : World} {T X S Q O : Nat} {nm : ByteArray} {aT : Option Addr} {nT cT : Nat} {ar : List Art} {aC : Option Addr} {nC cC : Nat} {aH : Option Addr} {nH cH : Nat} {c : Cal} {aS : Option Addr} {nS cS : Nat} {s : Ses} {lv : Value} {net : Int} {ls : List (Int × Int)} {lv' : Value} {net' : Int} {ls' : List (Int × Int)} {M : Nat → Prop} (h : SumM w W T X S Q O nm aT nT cT ar aC nC cC aH nH cH c aS nS cS s lv net ls) (hq : RdTrf w nm aT nT ar) (hc : RdCal w aC nC aH nH c) (hs : RdSes w aS nS s) (hl : T < O ∧ X < O ∧ S < O ∧ Q < O) (hm : Mod M W W') (hM : ∀ j, j < W.heap.size → M j → O ≤ j) (ho : Own W' O 40 4 (lnF lv' net' 0 0)) (hol : OwnR 71 2 encLn W' (O + 1) lv' ls') : SumM w W' T X S Q O nm aT nT cT ar aC nC cC aH nH cH c aS nS cS s lv' net' ls' := by
  have hb : Below w.heap.size w W' := h.bel.trans (hm.below h.bel.size (fun j hj hx => Nat.le_trans h.og (hM j hj hx)))
  have hcell : ∀ {p : Addr} {v : Value}, W.cell? p = some v → p.block < O → W'.cell? p = some v := fun hc hp => (hm.cell (World.block_lt_of_cell? _ _ hc) (fun hx => by have := hM _ (World.block_lt_of_cell? _ _ hc) hx; omega)).trans hc
  exact ⟨⟨hb, hcell h.tm.k0 hl.1, hcell h.tm.k1 hl.1, hq.keep hb⟩, ⟨hb, hcell h.cm.k0 hl.2.1, hcell h.cm.k1 hl.2.1, hcell h.cm.k2 hl.2.1, hc.keep hb⟩, ⟨hb, hcell h.sm.k0 hl.2.2.1, hcell h.sm.k1 hl.2.2.1, hcell h.sm.k2 hl.2.2.1, hcell h.sm.k3 hl.2.2.1, hs.keep hb⟩, ho, h.oq.mod hm (fun hx => by have := hM _ h.oq.lt hx; omega), hol, h.og, h.gq⟩
theorem SumM.start {w : World} {nm : ByteArray} {aT : Option Addr} {nT cT : Nat} {ar : List Art} {aC : Option Addr} {nC cC : Nat} {aH : Option Addr} {nH cH : Nat} {c : Cal} {aS : Option Addr} {nS cS : Nat} {s : Ses} (hq : RdTrf w nm aT nT ar) (hc : RdCal w aC nC aH nH c) (hs : RdSes w aS nS s) : SumM w (((((w.alloc (.cells #[.string nm, .slice aT nT cT] 24)).alloc (.cells #[.int .i64 c.off, .slice aC nC cC, .slice aH nH cH] 28)).alloc (.cells #[.int .i64 s.frm, .int .i64 s.till, .int .i64 s.fin, .slice aS nS cS] 31)).alloc (.cells #[.slice none 0 0, .int .i64 0, .int .i64 0, .int .i64 0] 40)).alloc (.cells #[.slice none 0 0, .int .i64 0, .int .i64 0, .int .i64 0] 40)) w.heap.size (w.heap.size + 1) (w.heap.size + 2) (w.heap.size + 3) (w.heap.size + 4) nm aT nT cT ar aC nC cC aH nH cH c aS nS cS s (.slice none 0 0) 0 [] := by
  obtain ⟨W1, h1⟩ : ∃ W, W = w.alloc (.cells #[.string nm, .slice aT nT cT] 24) := ⟨_, rfl⟩
  obtain ⟨W2, h2⟩ : ∃ W, W = W1.alloc (.cells #[.int .i64 c.off, .slice aC nC cC, .slice aH nH cH] 28) := ⟨_, rfl⟩
  obtain ⟨W3, h3⟩ : ∃ W, W = W2.alloc (.cells #[.int .i64 s.frm, .int .i64 s.till, .int .i64 s.fin, .slice aS nS cS] 31) := ⟨_, rfl⟩
  obtain ⟨W4, h4⟩ : ∃ W, W = W3.alloc (.cells #[.slice none 0 0, .int .i64 0, .int .i64 0, .int .i64 0] 40) := ⟨_, rfl⟩
  obtain ⟨W5, h5⟩ : ∃ W, W = W4.alloc (.cells #[.slice none 0 0, .int .i64 0, .int .i64 0, .int .i64 0] 40) := ⟨_, rfl⟩
  rw [← h1, ← h2, ← h3, ← h4, ← h5]
  have s1 : W1.heap.size = w.heap.size + 1 := by rw [h1]; simp
  have s2 : W2.heap.size = w.heap.size + 2 := by rw [h2]; simp [s1]
  have s3 : W3.heap.size = w.heap.size + 3 := by rw [h3]; simp [s2]
  have s4 : W4.heap.size = w.heap.size + 4 := by rw [h4]; simp [s3]
  have b1 : Below w.heap.size w W1 := by rw [h1]; exact (Below.refl _ _).alloc (Nat.le_refl _) _
  have b12 : Below W1.heap.size W1 W2 := by rw [h2]; exact (Below.refl _ _).alloc (Nat.le_refl _) _
  have b23 : Below W2.heap.size W2 W3 := by rw [h3]; exact (Below.refl _ _).alloc (Nat.le_refl _) _
  have b34 : Below W3.heap.size W3 W4 := by rw [h4]; exact (Below.refl _ _).alloc (Nat.le_refl _) _
  have b45 : Below W4.heap.size W4 W5 := by rw [h5]; exact (Below.refl _ _).alloc (Nat.le_refl _) _
  have t1 : TrfM w W1 w.heap.size nm aT nT cT ar := by rw [h1]; exact TrfM.box (Below.refl _ _) hq
  have c2 : CalM w W2 (w.heap.size + 1) aC nC cC aH nH cH c := by rw [h2, ← s1]; exact CalM.box2 b1 (hc.keep b1)
  have s3' : SesM w W3 (w.heap.size + 2) aS nS cS s := by rw [h3, ← s2]; exact SesM.box (below_then b1 b12) (hs.keep (below_then b1 b12))
  have q4 : Own W4 (w.heap.size + 3) 40 4 (lnF (.slice none 0 0) 0 0 0) := by rw [h4]; exact Own.newAt _ 40 _ _ s3 (n := 4) rfl (fun i hi => by match i, hi with | 0, _ => rfl | 1, _ => rfl | 2, _ => rfl | 3, _ => rfl)
  have o5 : Own W5 (w.heap.size + 4) 40 4 (lnF (.slice none 0 0) 0 0 0) := by rw [h5]; exact Own.newAt _ 40 _ _ s4 (n := 4) rfl (fun i hi => by match i, hi with | 0, _ => rfl | 1, _ => rfl | 2, _ => rfl | 3, _ => rfl)
  exact ⟨(((t1.keep b12).keep b23).keep b34).keep b45, ((c2.keep b23).keep b34).keep b45, (s3'.keep b34).keep b45, o5, q4.keep b45 (by omega), OwnR.nil _ _, by omega, by omega⟩
theorem sum_end {w W : World} {O Q n c : Nat} {A : Option Addr} {ls : List (Int × Int)} (h : OwnR 71 2 encLn W (O + 1) (.slice A n c) ls) (hb : Below w.heap.size w W) (ho : w.heap.size ≤ O) (hq : w.heap.size ≤ Q) (hqo : Q < O) (v1 v2 v3 v4 v5 v6 : Value) :
    Rd 2 encLn ((((((W.setCell ⟨O, 2, none⟩ v1).setCell ⟨O, 3, none⟩ v2).setCell ⟨Q, 0, none⟩ v3).setCell ⟨Q, 1, none⟩ v4).setCell ⟨Q, 2, none⟩ v5).setCell ⟨Q, 3, none⟩ v6) A ls ∧ Below w.heap.size w ((((((W.setCell ⟨O, 2, none⟩ v1).setCell ⟨O, 3, none⟩ v2).setCell ⟨Q, 0, none⟩ v3).setCell ⟨Q, 1, none⟩ v4).setCell ⟨Q, 2, none⟩ v5).setCell ⟨Q, 3, none⟩ v6) := by
  have hm : Mod (fun j => j = O ∨ j = Q) W ((((((W.setCell ⟨O, 2, none⟩ v1).setCell ⟨O, 3, none⟩ v2).setCell ⟨Q, 0, none⟩ v3).setCell ⟨Q, 1, none⟩ v4).setCell ⟨Q, 2, none⟩ v5).setCell ⟨Q, 3, none⟩ v6) := by
    refine Mod.setCell ?_ (.inl (.inr rfl)) _
    refine Mod.setCell ?_ (.inl (.inr rfl)) _
    refine Mod.setCell ?_ (.inl (.inr rfl)) _
    refine Mod.setCell ?_ (.inl (.inr rfl)) _
    refine Mod.setCell ?_ (.inl (.inl rfl)) _
    refine Mod.setCell ?_ (.inl (.inl rfl)) _
    exact Mod.refl _ _
  have h2 := h.mod hm (fun k hk e => by have := (World.ownsRow.lt h k hk).1; omega)
  obtain ⟨a', c', e, hr⟩ := h2.rd encLn_len
  injection e with e1 e2 e3
  subst e1
  exact ⟨hr, hb.trans (hm.below hb.size (fun j _ e => by omega))⟩
def endN (ls : List (Int × Int)) (nv rate : Int) : Option BV := if taxE nv rate = 0 ∧ nv + taxV nv rate ≤ 1000000000 then some ⟨ls, nv, taxV nv rate, nv + taxV nv rate⟩ else none
set_option maxRecDepth 100000 in
set_option maxHeartbeats 16000000 in
theorem bSum_any (nm : ByteArray) (aT : Option Addr) (nT cT : Nat) (ar : List Art) (aC : Option Addr) (nC cC : Nat) (aH : Option Addr) (nH cH : Nat) (c : Cal) (aS : Option Addr) (nS cS : Nat) (s : Ses) (w : World) (HQ : Hid (RdTrf w nm aT nT ar)) (HC : Hid (RdCal w aC nC aH nH c)) (HS : Hid (RdSes w aS nS s)) (ht : trfB nm ar = true) (hc : calB c = true) (hs : sesB s = true) : Calls Tryz.prog 23 #[.agg #[.string nm, .slice aT nT cT], .agg #[.int .i64 c.off, .slice aC nC cC, .slice aH nH cH], .agg #[.int .i64 s.frm, .int .i64 s.till, .int .i64 s.fin, .slice aS nS cS]] w (SmPost (sumO ar c s) w) := by
  obtain ⟨RR, hRR⟩ : ∃ R, R = sumO ar c s := ⟨_, rfl⟩
  have HRR : Hid (RR = (runB c s 0 ar ⟨[], 0, 0, -1⟩).bind endB) := Lib.hid (by rw [hRR]; rfl)
  rw [← hRR]
  clear hRR
  obtain ⟨W0, hW0⟩ : ∃ W0, W0 = (((((w.alloc (.cells #[.string nm, .slice aT nT cT] 24)).alloc (.cells #[.int .i64 c.off, .slice aC nC cC, .slice aH nH cH] 28)).alloc (.cells #[.int .i64 s.frm, .int .i64 s.till, .int .i64 s.fin, .slice aS nS cS] 31)).alloc (.cells #[.slice none 0 0, .int .i64 0, .int .i64 0, .int .i64 0] 40)).alloc (.cells #[.slice none 0 0, .int .i64 0, .int .i64 0, .int .i64 0] 40)) := ⟨_, rfl⟩
  obtain ⟨B, hB⟩ : ∃ B, B = w.heap.size := ⟨_, rfl⟩
  have HM : Hid (SumM w W0 B (B + 1) (B + 1 + 1) (B + 1 + 1 + 1) (B + 1 + 1 + 1 + 1) nm aT nT cT ar aC nC cC aH nH cH c aS nS cS s (.slice none 0 0) 0 []) := Lib.hid (by rw [hW0, hB]; exact SumM.start HQ.out HC.out HS.out)
  have HW0 := Lib.hid hW0
  have HB0 := Lib.hid hB
  clear hW0 hB
  have HTL := Lib.hid (trfB_iff ht)
  have hn12 : nT ≤ 12 := by rw [← HQ.out.la]; exact HTL.out.1
  have HSV := Lib.hid hs
  have HCV := Lib.hid hc
  clear ht hs hc
  go_enter Tryz.func23, Tryz.ntmps23
  go_upto_region 2 with (fail)
  rw [← HW0.out, ← HB0.out]
  clear HW0 HB0
  obtain ⟨T, hT⟩ : ∃ T, T = B := ⟨_, rfl⟩
  obtain ⟨X, hX⟩ : ∃ T, T = B + 1 := ⟨_, rfl⟩
  obtain ⟨S, hS⟩ : ∃ T, T = B + 1 + 1 := ⟨_, rfl⟩
  obtain ⟨Q, hQ⟩ : ∃ T, T = B + 1 + 1 + 1 := ⟨_, rfl⟩
  obtain ⟨O, hO⟩ : ∃ T, T = B + 1 + 1 + 1 + 1 := ⟨_, rfl⟩
  rw [← hO, ← hQ, ← hS, ← hX, ← hT] at HM ⊢
  have HLAY : Hid (T < O ∧ X < O ∧ S < O ∧ Q < O) := Lib.hid (by omega)
  clear hT hX hS hQ hO
  have t1 : W0.cell? ⟨T, 1, none⟩ = some (.slice aT nT cT) := HM.out.tm.k1
  have hlT : T < W0.heap.size := World.block_lt_of_cell? W0 _ t1
  go_wp2_with fail
  have HR0 : Hid (runB c s 0 ar ⟨[], 0, 0, -1⟩ = runB c s 0 (ar.drop 0) ⟨[], 0, 0, -1⟩) := Lib.hid rfl
  clear t1 hlT
  go_loopg [8, 9, 17] nT (fun g1 v8 v9 v17 wr => ∃ (i : Nat) (ls : List (Int × Int)) (net rate most : Int) (lv : Value), v8 = .int .i64 rate ∧ v9 = .int .i64 most ∧ v17 = .int .i64 i ∧ i ≤ nT ∧ nT - i ≤ g1 ∧ 0 ≤ net ∧ net ≤ 1000000000 * (i : Int) ∧ ls.length ≤ i ∧ Hid (runB c s 0 ar ⟨[], 0, 0, -1⟩ = runB c s i (ar.drop i) ⟨ls, net, rate, most⟩) ∧ Hid (SumM w wr T X S Q O nm aT nT cT ar aC nC cC aH nH cH c aS nS cS s lv net ls))
  case atStart => exact ⟨0, [], 0, 0, -1, .slice none 0 0, rfl, rfl, by go_num, by omega, by omega, by omega, by omega, by simp, HR0, HM⟩
  case round =>
    clear HR0 HM
    obtain ⟨i, ls, net, rate, most, lv, rfl, rfl, rfl, hi, hg1, hnt0, hnt1, hll, HR, HM⟩ := hrel
    have t1 : wr.cell? ⟨T, 1, none⟩ = some (.slice aT nT cT) := HM.out.tm.k1
    have hlT : T < wr.heap.size := World.block_lt_of_cell? wr _ t1
    by_cases hlt : i < nT
    · have hltz : (i : Int) < (nT : Int) := by omega
      obtain ⟨bb, off, a, hA, hbl, hgx, c0, c1, c2, c3, c4, c5, c6⟩ := rdArt_at HM.out.tm.rd.ra (show i < ar.length by rw [HM.out.tm.rd.la]; exact hlt)
      have HAB : Hid (artB a = true) := Lib.hid (HTL.out.2.1 a (List.mem_of_getElem? hgx))
      have HRR2 : Hid (runB c s 0 ar ⟨[], 0, 0, -1⟩ = (stepB c s i a ⟨ls, net, rate, most⟩).bind (runB c s (i + 1) (ar.drop (i + 1)))) := Lib.hid (by rw [HR.out, drop_at hgx]; rfl)
      clear HR hgx
      subst hA
      obtain ⟨W1, hW1⟩ : ∃ W, W = wr.alloc (.cells #[.int .i64 a.kind, .int .i64 a.days, .int .i64 a.frm, .int .i64 a.till, .int .i64 a.price, .int .i64 a.unit, .int .i64 a.free] 49) := ⟨_, rfl⟩
      obtain ⟨Y, hY⟩ : ∃ Y, Y = wr.heap.size := ⟨_, rfl⟩
      have HA : Hid (ArtM wr W1 Y a) := Lib.hid (by rw [hW1, hY]; exact ArtM.box (Below.refl _ _))
      have HM := Lib.hid (HM.out.keep HA.out.bel)
      have HWY := Lib.hid (And.intro hW1.symm hY.symm)
      clear hW1 hY
      go_upto_region 6 with (fail)
      rw [HWY.out.1, HWY.out.2]
      clear c0 c1 c2 c3 c4 c5 c6 HWY t1 hlT
      have y0 : W1.cell? ⟨Y, 0, none⟩ = some (.int .i64 a.kind) := HA.out.k0
      have y4 : W1.cell? ⟨Y, 4, none⟩ = some (.int .i64 a.price) := HA.out.k4
      have hlY : Y < W1.heap.size := World.block_lt_of_cell? W1 _ y0
      obtain ⟨q5, hq5⟩ : ∃ q, (a.kind == 5) = q := ⟨_, rfl⟩
      obtain ⟨q6, hq6⟩ : ∃ q, (a.kind == 6) = q := ⟨_, rfl⟩
      have HQ5 := Lib.hid hq5
      have HQ6 := Lib.hid hq6
      have HRATE : Hid (a.price = a.price) := Lib.hid rfl
      cases q5
      case true =>
        have H5 : Hid (a.kind = 5) := Lib.hid (by simpa using HQ5.out)
        by_cases hm0 : most < 0
        · have HS2 : Hid (runB c s 0 ar ⟨[], 0, 0, -1⟩ = runB c s (i + 1) (ar.drop (i + 1)) ⟨ls, net, rate, a.price⟩) := Lib.hid (by rw [HRR2.out]; unfold stepB; rw [if_pos H5.out]; simp only [hm0, true_or, if_true]; rfl)
          clear HRR2
          go_wp2_with fail
          go_roundg (nT - (i + 1))
          case measure => omega
          case rel => exact ⟨i + 1, ls, net, rate, a.price, lv, rfl, rfl, by go_num, by omega, by omega, hnt0, by omega, by omega, HS2, HM⟩
        · by_cases hp : a.price < most
          · have HS2 : Hid (runB c s 0 ar ⟨[], 0, 0, -1⟩ = runB c s (i + 1) (ar.drop (i + 1)) ⟨ls, net, rate, a.price⟩) := Lib.hid (by rw [HRR2.out]; unfold stepB; rw [if_pos H5.out]; simp only [hp, or_true, if_true]; rfl)
            clear HRR2
            go_wp2_with fail
            go_roundg (nT - (i + 1))
            case measure => omega
            case rel => exact ⟨i + 1, ls, net, rate, a.price, lv, rfl, rfl, by go_num, by omega, by omega, hnt0, by omega, by omega, HS2, HM⟩
          · have HS2 : Hid (runB c s 0 ar ⟨[], 0, 0, -1⟩ = runB c s (i + 1) (ar.drop (i + 1)) ⟨ls, net, rate, most⟩) := Lib.hid (by rw [HRR2.out]; unfold stepB; rw [if_pos H5.out]; simp only [hm0, hp, or_self, if_false]; rfl)
            clear HRR2
            go_wp2_with fail
            go_roundg (nT - (i + 1))
            case measure => omega
            case rel => exact ⟨i + 1, ls, net, rate, most, lv, rfl, rfl, by go_num, by omega, by omega, hnt0, by omega, by omega, HS2, HM⟩
      have H5 : Hid (¬ a.kind = 5) := Lib.hid (by simpa using HQ5.out)
      cases q6
      case true =>
        have H6 : Hid (a.kind = 6) := Lib.hid (by simpa using HQ6.out)
        have HS2 : Hid (runB c s 0 ar ⟨[], 0, 0, -1⟩ = runB c s (i + 1) (ar.drop (i + 1)) ⟨ls, net, a.price, most⟩) := Lib.hid (by rw [HRR2.out]; unfold stepB; rw [if_neg H5.out, if_pos H6.out]; rfl)
        clear HRR2
        go_wp2_with fail
        go_roundg (nT - (i + 1))
        case measure => omega
        case rel => exact ⟨i + 1, ls, net, a.price, most, lv, rfl, rfl, by go_num, by omega, by omega, hnt0, by omega, by omega, HS2, HM⟩
      have H6 : Hid (¬ a.kind = 6) := Lib.hid (by simpa using HQ6.out)
      have HRR3 : Hid (runB c s 0 ar ⟨[], 0, 0, -1⟩ = ((lineO a c s).map (fun n => (⟨ls ++ [((i : Int), n)], net + n, rate, most⟩ : BS))).bind (runB c s (i + 1) (ar.drop (i + 1)))) := Lib.hid (by rw [HRR2.out]; unfold stepB; rw [if_neg H5.out, if_neg H6.out])
      clear HRR2
      obtain ⟨y1, y2, y3, y5, y6⟩ : W1.cell? ⟨Y, 1, none⟩ = some (.int .i64 a.days) ∧ W1.cell? ⟨Y, 2, none⟩ = some (.int .i64 a.frm) ∧ W1.cell? ⟨Y, 3, none⟩ = some (.int .i64 a.till) ∧ W1.cell? ⟨Y, 5, none⟩ = some (.int .i64 a.unit) ∧ W1.cell? ⟨Y, 6, none⟩ = some (.int .i64 a.free) := ⟨HA.out.k1, HA.out.k2, HA.out.k3, HA.out.k5, HA.out.k6⟩
      obtain ⟨k0, k1, k2⟩ : W1.cell? ⟨X, 0, none⟩ = some (.int .i64 c.off) ∧ W1.cell? ⟨X, 1, none⟩ = some (.slice aC nC cC) ∧ W1.cell? ⟨X, 2, none⟩ = some (.slice aH nH cH) := ⟨HM.out.cm.k0, HM.out.cm.k1, HM.out.cm.k2⟩
      obtain ⟨z0, z1, z2, z3⟩ : W1.cell? ⟨S, 0, none⟩ = some (.int .i64 s.frm) ∧ W1.cell? ⟨S, 1, none⟩ = some (.int .i64 s.till) ∧ W1.cell? ⟨S, 2, none⟩ = some (.int .i64 s.fin) ∧ W1.cell? ⟨S, 3, none⟩ = some (.slice aS nS cS) := ⟨HM.out.sm.k0, HM.out.sm.k1, HM.out.sm.k2, HM.out.sm.k3⟩
      have hlX : X < W1.heap.size := World.block_lt_of_cell? W1 _ k0
      have hlS : S < W1.heap.size := World.block_lt_of_cell? W1 _ z0
      obtain ⟨W2, hW2⟩ : ∃ W, W = W1.alloc (.cells #[.int .i64 a.kind, .int .i64 a.days, .int .i64 a.frm, .int .i64 a.till, .int .i64 a.price, .int .i64 a.unit, .int .i64 a.free, .int .i64 c.off, .slice aC nC cC, .slice aH nH cH, .int .i64 s.frm, .int .i64 s.till, .int .i64 s.fin, .slice aS nS cS] 109) := ⟨_, rfl⟩
      obtain ⟨b, hb⟩ : ∃ b, b = W1.heap.size := ⟨_, rfl⟩
      have hb2 : Below W1.heap.size W1 W2 := by rw [hW2]; exact (Below.refl _ _).alloc (Nat.le_refl _) _
      have HBL : Hid (BlrM W2 b a aC nC cC aH nH cH c aS nS cS s) := Lib.hid (by rw [hW2, hb]; exact BlrM.box HM.out.cm.rd HM.out.sm.rd)
      have HM := Lib.hid (HM.out.keep hb2)
      have HWB := Lib.hid (And.intro hW2.symm hb.symm)
      clear hW2 hb hb2
      go_upto_region 8 with (fail)
      rw [HWB.out.1, HWB.out.2]
      clear HWB y0 y1 y2 y3 y4 y5 y6 hlY k0 k1 k2 z0 z1 z2 z3 hlX hlS
      go_wp2_with fail
      refine (bCosts_any b a aC nC cC aH nH cH c aS nS cS s W2 HBL HSV.out HAB.out (art_kinds HAB.out H5.out H6.out)).mono ?_
      rintro e w4 ⟨FA, rfl, hw4, hCF, hFA⟩
      subst hw4
      have HFA := Lib.hid (hFA _ HBL.out)
      clear hFA
      go_wp2_with fail
      refine HFA.out.mono ?_
      rintro e w5 ⟨he, hb5⟩
      have HM := Lib.hid (HM.out.keep hb5)
      clear hb5 hCF
      cases ho : lineO a c s with
      | none =>
        rw [ho] at he
        subst he
        have HNO : Hid (RR = none) := Lib.hid (by rw [HRR.out, HRR3.out, ho]; rfl)
        exact ⟨rfl, by first | rfl | rw [HNO.out], HM.out.bel⟩
      | some v =>
      rw [ho] at he
      have HV := Lib.hid (lineO_bd HAB.out ho)
      obtain ⟨hv0, hv1⟩ := HV.out
      have HS2 : Hid (runB c s 0 ar ⟨[], 0, 0, -1⟩ = runB c s (i + 1) (ar.drop (i + 1)) ⟨ls ++ [((i : Int), v)], net + v, rate, most⟩) := Lib.hid (by rw [HRR3.out, ho]; rfl)
      clear ho HRR3 HV
      subst he
      obtain ⟨va, vc, hv⟩ := HM.out.ol.shape
      obtain ⟨vn, hvn⟩ : ∃ vn, vn = ls.length := ⟨_, rfl⟩
      rw [← hvn] at hv
      clear hvn
      subst hv
      obtain ⟨ap, v', w6, av, aw, HO6, HA6⟩ := app_line (i : Int) v HM.out.ol (by have := HM.out.oo.lt; omega) (by omega)
      obtain ⟨va', vc', hv'⟩ := HO6.out.shape
      obtain ⟨vn', hvn'⟩ : ∃ n, n = (ls ++ [((i : Int), v)]).length := ⟨_, rfl⟩
      rw [← hvn'] at hv'
      clear hvn'
      subst hv'
      have HB6 : Hid (Below (O + 1) w5 w6) := Lib.hid HA6.out.bel
      have HOO6 : Hid (Own w6 O 40 4 (lnF (.slice va vn vc) net 0 0)) := Lib.hid (HM.out.oo.keep HB6.out (Nat.lt_succ_self _))
      have o0 : w5.cell? ⟨O, 0, none⟩ = some (.slice va vn vc) := HM.out.oo.cell (i := 0) (by omega)
      have hlO : O < w5.heap.size := HM.out.oo.lt
      have r0 : w6.cell? ⟨O, 0, none⟩ = some (.slice va vn vc) := HOO6.out.cell (i := 0) (by omega)
      have r1 : w6.cell? ⟨O, 1, none⟩ = some (.int .i64 net) := HOO6.out.cell (i := 1) (by omega)
      have f0 : w6.frozen? ⟨O, 0, none⟩ = false := HOO6.out.frozen 0
      have f1 : w6.frozen? ⟨O, 1, none⟩ = false := HOO6.out.frozen 1
      have hl6 : O < w6.heap.size := HOO6.out.lt
      have hwi : IntKind.i64.wrap (net + v) = net + v := IntWalk.i64_in _ (by omega)
      have HM7 : Hid (SumM w ((w6.setCell ⟨O, 0, none⟩ (.slice va' vn' vc')).setCell ⟨O, 1, none⟩ (.int .i64 (net + v))) T X S Q O nm (some ⟨bb, off, none⟩) nT cT ar aC nC cC aH nH cH c aS nS cS s (.slice va' vn' vc') (net + v) (ls ++ [((i : Int), v)])) := Lib.hid (HM.out.upd HQ.out HC.out HS.out HLAY.out
        (((Mod.of_below HB6.out).mono (fun j _ hj => (show O ≤ j by omega))).setCell (p := ⟨O, 0, none⟩) (.inl (Nat.le_refl _)) _ |>.setCell (p := ⟨O, 1, none⟩) (.inl (Nat.le_refl _)) _) (fun j _ hj => hj)
        (((HOO6.out.set 0 (.slice va' vn' vc')).set 1 _).congr (fun k hk => by match k, hk with | 0, _ => rfl | 1, _ => rfl | 2, _ => rfl | 3, _ => rfl))
        (HO6.out.mod (M := fun j => j = O) (((show Mod (fun j => j = O) w6 w6 from Mod.refl _ w6).setCell (p := ⟨O, 0, none⟩) (.inl rfl) _).setCell (p := ⟨O, 1, none⟩) (.inl rfl) _) (fun k hk e => by have := (World.ownsRow.lt HO6.out k hk).1; omega)))
      clear HO6 HA6 HOO6 HB6
      go_wp2_with fail
      go_roundg (nT - (i + 1))
      case measure => omega
      case rel => exact ⟨i + 1, _, net + v, rate, most, _, rfl, rfl, by go_num, by omega, by omega, by omega, by omega, by rw [List.length_append, List.length_singleton]; omega, HS2, HM7⟩
    · have hltz : ¬ (i : Int) < (nT : Int) := by omega
      have HEND : Hid (RR = endB ⟨ls, net, rate, most⟩) := Lib.hid (by rw [HRR.out, HR.out, List.drop_eq_nil_of_le (by rw [HM.out.tm.rd.la]; omega)]; rfl)
      clear HR HRR t1 hlT
      obtain ⟨va, vc, hv⟩ := HM.out.ol.shape
      obtain ⟨vn, hvn⟩ : ∃ vn, vn = ls.length := ⟨_, rfl⟩
      rw [← hvn] at hv
      have HVN := Lib.hid hvn
      clear hvn
      subst hv
      have hnet : 0 ≤ net ∧ net ≤ 12000000000 := by omega
      obtain ⟨hn0, hn1⟩ := hnet
      clear hnt0 hnt1
      by_cases hmo : 0 ≤ most
      · by_cases hnm : most < net
        · have HE2 : Hid (RR = endN ls most rate) := Lib.hid (by rw [HEND.out]; unfold endB endN netV; simp only [hmo, if_true]; rw [show min net most = most by omega])
          have o1 : wr.cell? ⟨O, 1, none⟩ = some (.int .i64 net) := HM.out.oo.cell (i := 1) (by omega)
          have o2 : wr.cell? ⟨O, 2, none⟩ = some (.int .i64 0) := HM.out.oo.cell (i := 2) (by omega)
          have o3 : wr.cell? ⟨O, 3, none⟩ = some (.int .i64 0) := HM.out.oo.cell (i := 3) (by omega)
          have fo1 : wr.frozen? ⟨O, 1, none⟩ = false := HM.out.oo.frozen 1
          have fo2 : wr.frozen? ⟨O, 2, none⟩ = false := HM.out.oo.frozen 2
          have fo3 : wr.frozen? ⟨O, 3, none⟩ = false := HM.out.oo.frozen 3
          have hlO : O < wr.heap.size := HM.out.oo.lt
          obtain ⟨W8, hW8⟩ : ∃ W, W = wr.setCell ⟨O, 1, none⟩ (.int .i64 most) := ⟨_, rfl⟩
          have HM8 : Hid (SumM w W8 T X S Q O nm aT nT cT ar aC nC cC aH nH cH c aS nS cS s (.slice va vn vc) most ls) := Lib.hid (by
            rw [hW8]
            exact HM.out.upd HQ.out HC.out HS.out HLAY.out (M := fun j => j = O) ((show Mod (fun j => j = O) wr wr from Mod.refl _ wr).setCell (p := ⟨O, 1, none⟩) (.inl rfl) _) (fun j _ hj => by omega)
              ((HM.out.oo.set 1 _).congr (fun k hk => by match k, hk with | 0, _ => rfl | 1, _ => rfl | 2, _ => rfl | 3, _ => rfl))
              (HM.out.ol.mod (M := fun j => j = O) ((show Mod (fun j => j = O) wr wr from Mod.refl _ wr).setCell (p := ⟨O, 1, none⟩) (.inl rfl) _) (fun k hk e => by have := (World.ownsRow.lt HM.out.ol k hk).1; omega)))
          have HW8 := Lib.hid hW8.symm
          clear hW8
          go_upto_region 19 with (fail)
          rw [HW8.out]
          clear o1 o2 o3 fo1 fo2 fo3 hlO
          clear HW8
          have HM := HM8
          clear HM8
          have o1 : W8.cell? ⟨O, 1, none⟩ = some (.int .i64 most) := HM.out.oo.cell (i := 1) (by omega)
          have o2 : W8.cell? ⟨O, 2, none⟩ = some (.int .i64 0) := HM.out.oo.cell (i := 2) (by omega)
          have o3 : W8.cell? ⟨O, 3, none⟩ = some (.int .i64 0) := HM.out.oo.cell (i := 3) (by omega)
          have fo1 : W8.frozen? ⟨O, 1, none⟩ = false := HM.out.oo.frozen 1
          have fo2 : W8.frozen? ⟨O, 2, none⟩ = false := HM.out.oo.frozen 2
          have fo3 : W8.frozen? ⟨O, 3, none⟩ = false := HM.out.oo.frozen 3
          have hlO : O < W8.heap.size := HM.out.oo.lt
          go_wp2_with fail
          refine (mTax_all most rate _).mono ?_
          rintro e w9 ⟨rfl, hb9⟩
          have HM := Lib.hid (HM.out.keep hb9)
          have HE3 := Lib.hid (taxE_three most rate)
          have HTB := taxV_bd most rate
          obtain ⟨htb0, htb1⟩ := HTB
          have HE4 : Hid (RR = if taxE most rate = 0 ∧ most + taxV most rate ≤ 1000000000 then some ⟨ls, most, taxV most rate, most + taxV most rate⟩ else none) := Lib.hid (by rw [HE2.out]; rfl)
          clear HE2 hb9 HEND
          clear o1 o2 o3 fo1 fo2 fo3 hlO
          generalize taxV most rate = sv at *
          generalize taxE most rate = se at *
          rcases HE3.out with he | he
          · subst he
            go_wp2_with fail
            refine (bMust_ok _ _).mono ?_
            rintro e w10 ⟨rfl, hw⟩
            subst hw
            have o0 : w10.cell? ⟨O, 0, none⟩ = some (.slice va vn vc) := HM.out.oo.cell (i := 0) (by omega)
            have o1 : w10.cell? ⟨O, 1, none⟩ = some (.int .i64 most) := HM.out.oo.cell (i := 1) (by omega)
            have o2 : w10.cell? ⟨O, 2, none⟩ = some (.int .i64 0) := HM.out.oo.cell (i := 2) (by omega)
            have o3 : w10.cell? ⟨O, 3, none⟩ = some (.int .i64 0) := HM.out.oo.cell (i := 3) (by omega)
            have fo1 : w10.frozen? ⟨O, 1, none⟩ = false := HM.out.oo.frozen 1
            have fo2 : w10.frozen? ⟨O, 2, none⟩ = false := HM.out.oo.frozen 2
            have fo3 : w10.frozen? ⟨O, 3, none⟩ = false := HM.out.oo.frozen 3
            have hlO : O < w10.heap.size := HM.out.oo.lt
            have hwi : IntKind.i64.wrap (most + sv) = most + sv := IntWalk.i64_in _ (by omega)
            by_cases htt : most + sv ≤ 1000000000
            · have httz : ¬ 1000000000 < most + sv := by omega
              have q0 : w10.cell? ⟨Q, 0, none⟩ = some (.slice none 0 0) := HM.out.oq.cell (i := 0) (by omega)
              have q1 : w10.cell? ⟨Q, 1, none⟩ = some (.int .i64 0) := HM.out.oq.cell (i := 1) (by omega)
              have q2 : w10.cell? ⟨Q, 2, none⟩ = some (.int .i64 0) := HM.out.oq.cell (i := 2) (by omega)
              have q3 : w10.cell? ⟨Q, 3, none⟩ = some (.int .i64 0) := HM.out.oq.cell (i := 3) (by omega)
              have g0 : w10.frozen? ⟨Q, 0, none⟩ = false := HM.out.oq.frozen 0
              have g1 : w10.frozen? ⟨Q, 1, none⟩ = false := HM.out.oq.frozen 1
              have g2 : w10.frozen? ⟨Q, 2, none⟩ = false := HM.out.oq.frozen 2
              have g3 : w10.frozen? ⟨Q, 3, none⟩ = false := HM.out.oq.frozen 3
              have hlQ : Q < w10.heap.size := HM.out.oq.lt
              have hQO : Q ≠ O := by have := HLAY.out; omega
              have hOQ : O ≠ Q := by have := HLAY.out; omega
              go_wp2_with fail
              refine bodyPost_ret (results_c1D (a := 6) (ty := 40) (b := Q) (by kernel_rfl) rfl (by go_simp; rfl)) rfl ?_
              have ho : RR = some ⟨ls, most, sv, most + sv⟩ := by rw [HE4.out]; simp [htt]
              rw [ho]
              have hend := sum_end (w := w) HM.out.ol HM.out.bel HM.out.og (show w.heap.size ≤ Q from HM.out.gq) HLAY.out.2.2.2 (.int .i64 sv) (.int .i64 (most + sv)) (.slice va vn vc) (.int .i64 most) (.int .i64 sv) (.int .i64 (most + sv))
              exact ⟨⟨va, vc, by rw [← HVN.out], hend.1, fun a ha => by
                subst ha
                have h1 := (World.ownsRow.lt HM.out.ol a.block rfl).1
                have h2 := HM.out.og
                omega⟩, hend.2⟩
            · have httz : 1000000000 < most + sv := by omega
              have ho : RR = none := by rw [HE4.out, if_neg (fun h => htt h.2)]
              have HB9 : Hid (Below w.heap.size w ((w10.setCell ⟨O, 2, none⟩ (.int .i64 sv)).setCell ⟨O, 3, none⟩ (.int .i64 (most + sv)))) := Lib.hid ((HM.out.bel.setCell (p := ⟨O, 2, none⟩) HM.out.og _).setCell (p := ⟨O, 3, none⟩) HM.out.og _)
              go_wp2_with fail
              exact ⟨rfl, by first | rfl | rw [ho], HB9.out⟩
          · have ho : RR = none := by rw [HE4.out, if_neg (fun h => by omega)]
            go_wp2_with fail
            refine (bMust_no _ _ _ he).mono ?_
            rintro e w10 ⟨rfl, hw⟩
            subst hw
            exact ⟨rfl, by first | rfl | rw [ho], HM.out.bel⟩
        · have hnm2 : net ≤ most := by omega
          have HE2 : Hid (RR = endN ls net rate) := Lib.hid (by rw [HEND.out]; unfold endB endN netV; simp only [hmo, if_true]; rw [show min net most = net by omega])
          have o1 : wr.cell? ⟨O, 1, none⟩ = some (.int .i64 net) := HM.out.oo.cell (i := 1) (by omega)
          have o2 : wr.cell? ⟨O, 2, none⟩ = some (.int .i64 0) := HM.out.oo.cell (i := 2) (by omega)
          have o3 : wr.cell? ⟨O, 3, none⟩ = some (.int .i64 0) := HM.out.oo.cell (i := 3) (by omega)
          have fo1 : wr.frozen? ⟨O, 1, none⟩ = false := HM.out.oo.frozen 1
          have fo2 : wr.frozen? ⟨O, 2, none⟩ = false := HM.out.oo.frozen 2
          have fo3 : wr.frozen? ⟨O, 3, none⟩ = false := HM.out.oo.frozen 3
          have hlO : O < wr.heap.size := HM.out.oo.lt
          obtain ⟨W8, hW8⟩ : ∃ W, W = wr.setCell ⟨O, 1, none⟩ (.int .i64 net) := ⟨_, rfl⟩
          have HM8 : Hid (SumM w W8 T X S Q O nm aT nT cT ar aC nC cC aH nH cH c aS nS cS s (.slice va vn vc) net ls) := Lib.hid (by
            rw [hW8]
            exact HM.out.upd HQ.out HC.out HS.out HLAY.out (M := fun j => j = O) ((show Mod (fun j => j = O) wr wr from Mod.refl _ wr).setCell (p := ⟨O, 1, none⟩) (.inl rfl) _) (fun j _ hj => by omega)
              ((HM.out.oo.set 1 _).congr (fun k hk => by match k, hk with | 0, _ => rfl | 1, _ => rfl | 2, _ => rfl | 3, _ => rfl))
              (HM.out.ol.mod (M := fun j => j = O) ((show Mod (fun j => j = O) wr wr from Mod.refl _ wr).setCell (p := ⟨O, 1, none⟩) (.inl rfl) _) (fun k hk e => by have := (World.ownsRow.lt HM.out.ol k hk).1; omega)))
          have HW8 := Lib.hid hW8.symm
          clear hW8
          go_upto_region 19 with (fail)
          rw [HW8.out]
          clear o1 o2 o3 fo1 fo2 fo3 hlO
          clear HW8
          have HM := HM8
          clear HM8
          have o1 : W8.cell? ⟨O, 1, none⟩ = some (.int .i64 net) := HM.out.oo.cell (i := 1) (by omega)
          have o2 : W8.cell? ⟨O, 2, none⟩ = some (.int .i64 0) := HM.out.oo.cell (i := 2) (by omega)
          have o3 : W8.cell? ⟨O, 3, none⟩ = some (.int .i64 0) := HM.out.oo.cell (i := 3) (by omega)
          have fo1 : W8.frozen? ⟨O, 1, none⟩ = false := HM.out.oo.frozen 1
          have fo2 : W8.frozen? ⟨O, 2, none⟩ = false := HM.out.oo.frozen 2
          have fo3 : W8.frozen? ⟨O, 3, none⟩ = false := HM.out.oo.frozen 3
          have hlO : O < W8.heap.size := HM.out.oo.lt
          go_wp2_with fail
          refine (mTax_all net rate _).mono ?_
          rintro e w9 ⟨rfl, hb9⟩
          have HM := Lib.hid (HM.out.keep hb9)
          have HE3 := Lib.hid (taxE_three net rate)
          have HTB := taxV_bd net rate
          obtain ⟨htb0, htb1⟩ := HTB
          have HE4 : Hid (RR = if taxE net rate = 0 ∧ net + taxV net rate ≤ 1000000000 then some ⟨ls, net, taxV net rate, net + taxV net rate⟩ else none) := Lib.hid (by rw [HE2.out]; rfl)
          clear HE2 hb9 HEND
          clear o1 o2 o3 fo1 fo2 fo3 hlO
          generalize taxV net rate = sv at *
          generalize taxE net rate = se at *
          rcases HE3.out with he | he
          · subst he
            go_wp2_with fail
            refine (bMust_ok _ _).mono ?_
            rintro e w10 ⟨rfl, hw⟩
            subst hw
            have o0 : w10.cell? ⟨O, 0, none⟩ = some (.slice va vn vc) := HM.out.oo.cell (i := 0) (by omega)
            have o1 : w10.cell? ⟨O, 1, none⟩ = some (.int .i64 net) := HM.out.oo.cell (i := 1) (by omega)
            have o2 : w10.cell? ⟨O, 2, none⟩ = some (.int .i64 0) := HM.out.oo.cell (i := 2) (by omega)
            have o3 : w10.cell? ⟨O, 3, none⟩ = some (.int .i64 0) := HM.out.oo.cell (i := 3) (by omega)
            have fo1 : w10.frozen? ⟨O, 1, none⟩ = false := HM.out.oo.frozen 1
            have fo2 : w10.frozen? ⟨O, 2, none⟩ = false := HM.out.oo.frozen 2
            have fo3 : w10.frozen? ⟨O, 3, none⟩ = false := HM.out.oo.frozen 3
            have hlO : O < w10.heap.size := HM.out.oo.lt
            have hwi : IntKind.i64.wrap (net + sv) = net + sv := IntWalk.i64_in _ (by omega)
            by_cases htt : net + sv ≤ 1000000000
            · have httz : ¬ 1000000000 < net + sv := by omega
              have q0 : w10.cell? ⟨Q, 0, none⟩ = some (.slice none 0 0) := HM.out.oq.cell (i := 0) (by omega)
              have q1 : w10.cell? ⟨Q, 1, none⟩ = some (.int .i64 0) := HM.out.oq.cell (i := 1) (by omega)
              have q2 : w10.cell? ⟨Q, 2, none⟩ = some (.int .i64 0) := HM.out.oq.cell (i := 2) (by omega)
              have q3 : w10.cell? ⟨Q, 3, none⟩ = some (.int .i64 0) := HM.out.oq.cell (i := 3) (by omega)
              have g0 : w10.frozen? ⟨Q, 0, none⟩ = false := HM.out.oq.frozen 0
              have g1 : w10.frozen? ⟨Q, 1, none⟩ = false := HM.out.oq.frozen 1
              have g2 : w10.frozen? ⟨Q, 2, none⟩ = false := HM.out.oq.frozen 2
              have g3 : w10.frozen? ⟨Q, 3, none⟩ = false := HM.out.oq.frozen 3
              have hlQ : Q < w10.heap.size := HM.out.oq.lt
              have hQO : Q ≠ O := by have := HLAY.out; omega
              have hOQ : O ≠ Q := by have := HLAY.out; omega
              go_wp2_with fail
              refine bodyPost_ret (results_c1D (a := 6) (ty := 40) (b := Q) (by kernel_rfl) rfl (by go_simp; rfl)) rfl ?_
              have ho : RR = some ⟨ls, net, sv, net + sv⟩ := by rw [HE4.out]; simp [htt]
              rw [ho]
              have hend := sum_end (w := w) HM.out.ol HM.out.bel HM.out.og (show w.heap.size ≤ Q from HM.out.gq) HLAY.out.2.2.2 (.int .i64 sv) (.int .i64 (net + sv)) (.slice va vn vc) (.int .i64 net) (.int .i64 sv) (.int .i64 (net + sv))
              exact ⟨⟨va, vc, by rw [← HVN.out], hend.1, fun a ha => by
                subst ha
                have h1 := (World.ownsRow.lt HM.out.ol a.block rfl).1
                have h2 := HM.out.og
                omega⟩, hend.2⟩
            · have httz : 1000000000 < net + sv := by omega
              have ho : RR = none := by rw [HE4.out, if_neg (fun h => htt h.2)]
              have HB9 : Hid (Below w.heap.size w ((w10.setCell ⟨O, 2, none⟩ (.int .i64 sv)).setCell ⟨O, 3, none⟩ (.int .i64 (net + sv)))) := Lib.hid ((HM.out.bel.setCell (p := ⟨O, 2, none⟩) HM.out.og _).setCell (p := ⟨O, 3, none⟩) HM.out.og _)
              go_wp2_with fail
              exact ⟨rfl, by first | rfl | rw [ho], HB9.out⟩
          · have ho : RR = none := by rw [HE4.out, if_neg (fun h => by omega)]
            go_wp2_with fail
            refine (bMust_no _ _ _ he).mono ?_
            rintro e w10 ⟨rfl, hw⟩
            subst hw
            exact ⟨rfl, by first | rfl | rw [ho], HM.out.bel⟩
      · have HE2 : Hid (RR = endN ls net rate) := Lib.hid (by rw [HEND.out]; unfold endB endN netV; simp only [hmo, if_false])
        have o1 : wr.cell? ⟨O, 1, none⟩ = some (.int .i64 net) := HM.out.oo.cell (i := 1) (by omega)
        have o2 : wr.cell? ⟨O, 2, none⟩ = some (.int .i64 0) := HM.out.oo.cell (i := 2) (by omega)
        have o3 : wr.cell? ⟨O, 3, none⟩ = some (.int .i64 0) := HM.out.oo.cell (i := 3) (by omega)
        have fo1 : wr.frozen? ⟨O, 1, none⟩ = false := HM.out.oo.frozen 1
        have fo2 : wr.frozen? ⟨O, 2, none⟩ = false := HM.out.oo.frozen 2
        have fo3 : wr.frozen? ⟨O, 3, none⟩ = false := HM.out.oo.frozen 3
        have hlO : O < wr.heap.size := HM.out.oo.lt
        go_wp2_with fail
        refine (mTax_all net rate _).mono ?_
        rintro e w9 ⟨rfl, hb9⟩
        have HM := Lib.hid (HM.out.keep hb9)
        have HE3 := Lib.hid (taxE_three net rate)
        have HTB := taxV_bd net rate
        obtain ⟨htb0, htb1⟩ := HTB
        have HE4 : Hid (RR = if taxE net rate = 0 ∧ net + taxV net rate ≤ 1000000000 then some ⟨ls, net, taxV net rate, net + taxV net rate⟩ else none) := Lib.hid (by rw [HE2.out]; rfl)
        clear HE2 hb9 HEND
        clear o1 o2 o3 fo1 fo2 fo3 hlO
        generalize taxV net rate = sv at *
        generalize taxE net rate = se at *
        rcases HE3.out with he | he
        · subst he
          go_wp2_with fail
          refine (bMust_ok _ _).mono ?_
          rintro e w10 ⟨rfl, hw⟩
          subst hw
          have o0 : w10.cell? ⟨O, 0, none⟩ = some (.slice va vn vc) := HM.out.oo.cell (i := 0) (by omega)
          have o1 : w10.cell? ⟨O, 1, none⟩ = some (.int .i64 net) := HM.out.oo.cell (i := 1) (by omega)
          have o2 : w10.cell? ⟨O, 2, none⟩ = some (.int .i64 0) := HM.out.oo.cell (i := 2) (by omega)
          have o3 : w10.cell? ⟨O, 3, none⟩ = some (.int .i64 0) := HM.out.oo.cell (i := 3) (by omega)
          have fo1 : w10.frozen? ⟨O, 1, none⟩ = false := HM.out.oo.frozen 1
          have fo2 : w10.frozen? ⟨O, 2, none⟩ = false := HM.out.oo.frozen 2
          have fo3 : w10.frozen? ⟨O, 3, none⟩ = false := HM.out.oo.frozen 3
          have hlO : O < w10.heap.size := HM.out.oo.lt
          have hwi : IntKind.i64.wrap (net + sv) = net + sv := IntWalk.i64_in _ (by omega)
          by_cases htt : net + sv ≤ 1000000000
          · have httz : ¬ 1000000000 < net + sv := by omega
            have q0 : w10.cell? ⟨Q, 0, none⟩ = some (.slice none 0 0) := HM.out.oq.cell (i := 0) (by omega)
            have q1 : w10.cell? ⟨Q, 1, none⟩ = some (.int .i64 0) := HM.out.oq.cell (i := 1) (by omega)
            have q2 : w10.cell? ⟨Q, 2, none⟩ = some (.int .i64 0) := HM.out.oq.cell (i := 2) (by omega)
            have q3 : w10.cell? ⟨Q, 3, none⟩ = some (.int .i64 0) := HM.out.oq.cell (i := 3) (by omega)
            have g0 : w10.frozen? ⟨Q, 0, none⟩ = false := HM.out.oq.frozen 0
            have g1 : w10.frozen? ⟨Q, 1, none⟩ = false := HM.out.oq.frozen 1
            have g2 : w10.frozen? ⟨Q, 2, none⟩ = false := HM.out.oq.frozen 2
            have g3 : w10.frozen? ⟨Q, 3, none⟩ = false := HM.out.oq.frozen 3
            have hlQ : Q < w10.heap.size := HM.out.oq.lt
            have hQO : Q ≠ O := by have := HLAY.out; omega
            have hOQ : O ≠ Q := by have := HLAY.out; omega
            go_wp2_with fail
            refine bodyPost_ret (results_c1D (a := 6) (ty := 40) (b := Q) (by kernel_rfl) rfl (by go_simp; rfl)) rfl ?_
            have ho : RR = some ⟨ls, net, sv, net + sv⟩ := by rw [HE4.out]; simp [htt]
            rw [ho]
            have hend := sum_end (w := w) HM.out.ol HM.out.bel HM.out.og (show w.heap.size ≤ Q from HM.out.gq) HLAY.out.2.2.2 (.int .i64 sv) (.int .i64 (net + sv)) (.slice va vn vc) (.int .i64 net) (.int .i64 sv) (.int .i64 (net + sv))
            exact ⟨⟨va, vc, by rw [← HVN.out], hend.1, fun a ha => by
              subst ha
              have h1 := (World.ownsRow.lt HM.out.ol a.block rfl).1
              have h2 := HM.out.og
              omega⟩, hend.2⟩
          · have httz : 1000000000 < net + sv := by omega
            have ho : RR = none := by rw [HE4.out, if_neg (fun h => htt h.2)]
            have HB9 : Hid (Below w.heap.size w ((w10.setCell ⟨O, 2, none⟩ (.int .i64 sv)).setCell ⟨O, 3, none⟩ (.int .i64 (net + sv)))) := Lib.hid ((HM.out.bel.setCell (p := ⟨O, 2, none⟩) HM.out.og _).setCell (p := ⟨O, 3, none⟩) HM.out.og _)
            go_wp2_with fail
            exact ⟨rfl, by first | rfl | rw [ho], HB9.out⟩
        · have ho : RR = none := by rw [HE4.out, if_neg (fun h => by omega)]
          go_wp2_with fail
          refine (bMust_no _ _ _ he).mono ?_
          rintro e w10 ⟨rfl, hw⟩
          subst hw
          exact ⟨rfl, by first | rfl | rw [ho], HM.out.bel⟩
end Go.Proofs.YtoekpdnpncgeeaaGreat
