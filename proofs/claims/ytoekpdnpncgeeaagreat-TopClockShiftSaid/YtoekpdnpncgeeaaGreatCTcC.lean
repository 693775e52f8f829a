/-
TopClockShift, walked.
-/
import Derived.Test.YtoekpdnpncgeeaaGreatGTfU
import Derived.Test.YtoekpdnpncgeeaaGreatGBlF
import Derived.Test.YtoekpdnpncgeeaaGreatGLp
namespace Go.Proofs.YtoekpdnpncgeeaaGreat
open Go.RowKit
set_option linter.unusedVariables false
set_option linter.unusedSimpArgs false
theorem slB_mn {fin : Int} : ∀ {b : Int} {l : List Slc} {i : Nat} {x : Slc}, slB fin b l = true → l[i]? = some x → b < x.mn ∧ x.mn < fin
  | _, [], i, x, _, hx => by simp at hx
  | b, y :: r, i, x, h, hx => by
    unfold slB at h
    simp only [Bool.and_eq_true, decide_eq_true_eq] at h
    cases i with
    | zero => simp at hx; subst hx; exact ⟨h.1, h.2.1⟩
    | succ i => have := slB_mn h.2.2.2.2 (i := i) (x := x) (by simpa using hx); omega
def shL (k : Int) (l : List Slc) : List Slc := l.map (fun x => ⟨x.mn + k, x.en⟩)
theorem runB_len {c : Cal} {s : Ses} : ∀ (l : List Art) (i : Nat) (b b' : BS), runB c s i l b = some b' → b'.lines.length ≤ b.lines.length + l.length
  | [], i, b, b', h => by injection h with h; subst h; simp
  | a :: r, i, b, b', h => by
    unfold runB at h
    obtain ⟨b1, h1, h2⟩ := Option.bind_eq_some_iff.1 h
    have h3 := runB_len r (i + 1) b1 b' h2
    have h4 : b1.lines.length ≤ b.lines.length + 1 := by
      unfold stepB at h1
      split at h1
      · injection h1 with h1; subst h1; simp
      · split at h1
        · injection h1 with h1; subst h1; simp
        · obtain ⟨n, _, h1⟩ := Option.map_eq_some_iff.1 h1
          subst h1
          simp
    simp only [List.length_cons]
    omega
theorem billV_len (nm : ByteArray) (ar : List Art) (c : Cal) (s : Ses) : (billV nm ar c s).lines.length ≤ ar.length := by
  unfold billV
  cases h : billO nm ar c s with
  | none => simp
  | some b =>
    unfold billO at h
    split at h
    · unfold sumO at h
      obtain ⟨b1, h1, h2⟩ := Option.bind_eq_some_iff.1 h
      have := runB_len ar 0 _ b1 h1
      unfold endB at h2
      split at h2
      · injection h2 with h2; subst h2; simpa using this
      · cases h2
    · cases h
def caF (u v x : Value) : Nat → Value := fun i => if i = 0 then u else if i = 1 then v else x
theorem TCS.nilC {w W : World} {T X S : Nat} {nm : ByteArray} {aT : Option Addr} {nT cT : Nat} {ar : List Art} {aC : Option Addr} {nC cC : Nat} {aH : Option Addr} {nH cH : Nat} {c : Cal} {aS : Option Addr} {nS cS : Nat} {s : Ses} (h : TCS w W T X S nm aT nT cT ar aC nC cC aH nH cH c aS nS cS s) (hl : T ≠ X ∧ S ≠ X ∧ w.heap.size ≤ X) (hq : RdTrf w nm aT nT ar) (hh : Rd 1 encI w aH c.hol ∧ c.hol.length = nH ∧ nH ≤ 9223372036854775807) (hs : RdSes w aS nS s) : TCS w (W.setCell ⟨X, 1, none⟩ (.slice none 0 0)) T X S nm aT nT cT ar none 0 0 aH nH cH ⟨c.off, [], c.hol⟩ aS nS cS s := by
  have hm : Mod (fun j => j = X) W (W.setCell ⟨X, 1, none⟩ (.slice none 0 0)) := (Mod.refl (fun j => j = X) W).setCell (p := ⟨X, 1, none⟩) (.inl rfl) _
  have hb : Below w.heap.size w (W.setCell ⟨X, 1, none⟩ (.slice none 0 0)) := h.bel.trans (hm.below h.bel.size (fun j _ e => by omega))
  have hx : ∀ {p : Addr} {v : Value}, W.cell? p = some v → p.block ≠ X → (W.setCell ⟨X, 1, none⟩ (.slice none 0 0)).cell? p = some v := fun hc hn => (hm.cell (World.block_lt_of_cell? _ _ hc) hn).trans hc
  have k1 := h.cm.k1
  refine ⟨⟨hb, hx h.tm.k0 hl.1, hx h.tm.k1 hl.1, hq.keep hb⟩, ⟨hb, ?_, ?_, ?_, ⟨Rd.nil, hh.1.keep hb, rfl, hh.2.1, by omega, hh.2.2⟩⟩, ⟨hb, hx h.sm.k0 hl.2.1, hx h.sm.k1 hl.2.1, hx h.sm.k2 hl.2.1, hx h.sm.k3 hl.2.1, hs.keep hb⟩⟩
  · have k0 := h.cm.k0; go_simp
  · go_simp
  · have k2 := h.cm.k2; go_simp
theorem TCS.mod {w W W' : World} {T X S L : Nat} {nm : ByteArray} {aT : Option Addr} {nT cT : Nat} {ar : List Art} {aH : Option Addr} {nH cH : Nat} {c : Cal} {aS : Option Addr} {nS cS : Nat} {s : Ses} {M : Nat → Prop} (h : TCS w W T X S nm aT nT cT ar none 0 0 aH nH cH ⟨c.off, [], c.hol⟩ aS nS cS s) (hq : RdTrf w nm aT nT ar) (hh : Rd 1 encI w aH c.hol ∧ c.hol.length = nH ∧ nH ≤ 9223372036854775807) (hs : RdSes w aS nS s) (hm : Mod M W W') (hM : ∀ j, j < W.heap.size → M j → L ≤ j) (hl : T < L ∧ X < L ∧ S < L ∧ w.heap.size ≤ L) : TCS w W' T X S nm aT nT cT ar none 0 0 aH nH cH ⟨c.off, [], c.hol⟩ aS nS cS s := by
  have hb : Below w.heap.size w W' := h.bel.trans (hm.below h.bel.size (fun j hj e => by have := hM j hj e; omega))
  have hx : ∀ {p : Addr} {v : Value}, W.cell? p = some v → p.block < L → W'.cell? p = some v := fun hc hn => (hm.cell (World.block_lt_of_cell? _ _ hc) (fun e => by have := hM _ (World.block_lt_of_cell? _ _ hc) e; omega)).trans hc
  exact ⟨⟨hb, hx h.tm.k0 hl.1, hx h.tm.k1 hl.1, hq.keep hb⟩, ⟨hb, hx h.cm.k0 hl.2.1, hx h.cm.k1 hl.2.1, hx h.cm.k2 hl.2.1, ⟨Rd.nil, hh.1.keep hb, rfl, hh.2.1, by omega, hh.2.2⟩⟩, ⟨hb, hx h.sm.k0 hl.2.2.1, hx h.sm.k1 hl.2.2.1, hx h.sm.k2 hl.2.2.1, hx h.sm.k3 hl.2.2.1, hs.keep hb⟩⟩
theorem rdSes_of {W : World} {base i vn vc nS : Nat} {va : Option Addr} {k : Int} {s : Ses} (h : OwnR 37 2 encSlc W base (.slice va vn vc) (shL k (s.sl.take i))) (hi : s.sl.length = i) (hn : s.sl.length = nS) (hs : nS ≤ 9223372036854775807) (ht : s.till + k ≤ 9223372036854775807) (hf : s.frm + k ≤ 9223372036854775807) : vn = nS ∧ RdSes W va vn (shS k s) := by
  unfold shL at h
  rw [List.take_of_length_le (by omega)] at h
  obtain ⟨a', c', e, hr⟩ := h.rd encSlc_len
  injection e with e1 e2 e3
  rw [List.length_map, hn] at e2
  subst e1
  exact ⟨e2, hr, by show (s.sl.map _).length = vn; rw [List.length_map, e2, hn], by omega, ht, hf⟩
set_option maxRecDepth 100000 in
set_option maxHeartbeats 16000000 in
theorem walk_TopClockShift (nm : ByteArray) (aT : Option Addr) (nT cT : Nat) (ar : List Art) (aC : Option Addr) (nC cC : Nat) (aH : Option Addr) (nH cH : Nat) (c : Cal) (aS : Option Addr) (nS cS : Nat) (s : Ses) (k : Int) (w : World) (HQ : Hid (RdTrf w nm aT nT ar)) (HC : Hid (RdCal w aC nC aH nH c)) (HS : Hid (RdSes w aS nS s)) : Calls Tryz.prog 3 #[.agg #[.string nm, .slice aT nT cT], .agg #[.int .i64 c.off, .slice aC nC cC, .slice aH nH cH], .agg #[.int .i64 s.frm, .int .i64 s.till, .int .i64 s.fin, .slice aS nS cS], .int .i64 k] w fun e w' => e = .returned (.bool true) ∧ Below w.heap.size w w' := by
  have HQ0 := Lib.hid HQ.out
  have HH : Hid (Rd 1 encI w aH c.hol ∧ c.hol.length = nH ∧ nH ≤ 9223372036854775807) := Lib.hid ⟨HC.out.r2, HC.out.l2, HC.out.m2⟩
  obtain ⟨W0, hW0⟩ : ∃ W0, W0 = ((w.alloc (.cells #[.string nm, .slice aT nT cT] 24)).alloc (.cells #[.int .i64 c.off, .slice aC nC cC, .slice aH nH cH] 28)).alloc (.cells #[.int .i64 s.frm, .int .i64 s.till, .int .i64 s.fin, .slice aS nS cS] 31) := ⟨_, rfl⟩
  obtain ⟨B, hB⟩ : ∃ B, B = w.heap.size := ⟨_, rfl⟩
  have HM0 : Hid (TCS w W0 B (B + 1) (B + 1 + 1) nm aT nT cT ar aC nC cC aH nH cH c aS nS cS s) := Lib.hid (by rw [hW0, hB]; exact TCS.start HQ.out HC.out HS.out)
  have HOX : Hid (Own W0 (B + 1) 28 3 (caF (.int .i64 c.off) (.slice aC nC cC) (.slice aH nH cH))) := Lib.hid (by rw [hW0, hB]; exact (Own.newAt _ 28 _ _ (by simp) (n := 3) rfl (fun i hi => by match i, hi with | 0, _ => rfl | 1, _ => rfl | 2, _ => rfl)).alloc _)
  have HW0 := Lib.hid hW0
  have HB0 := Lib.hid hB
  clear hW0 hB
  go_enter Tryz.func3, Tryz.ntmps3
  go_upto_region 1 with (fail)
  rw [← HW0.out, ← HB0.out]
  clear HW0
  obtain ⟨T, hT⟩ : ∃ T, T = B := ⟨_, rfl⟩
  obtain ⟨X, hX⟩ : ∃ T, T = B + 1 := ⟨_, rfl⟩
  obtain ⟨S, hS⟩ : ∃ T, T = B + 1 + 1 := ⟨_, rfl⟩
  rw [← hS, ← hX, ← hT] at HM0 ⊢
  rw [← hX] at HOX
  have HLAY : Hid (T ≠ X ∧ S ≠ X ∧ w.heap.size ≤ X) := Lib.hid (by have := HB0.out; omega)
  clear hT hX hS HB0
  go_wp2_with fail
  refine (tpHead20 W0).mono ?_
  rintro e w1 ⟨rfl, hb1⟩
  have HM1 := Lib.hid (HM0.out.keep hb1)
  have HOX := Lib.hid (HOX.out.keep hb1 HOX.out.lt)
  clear hb1 HM0
  have k1 : w1.cell? ⟨X, 1, none⟩ = some (.slice aC nC cC) := HM1.out.cm.k1
  have f1 : w1.frozen? ⟨X, 1, none⟩ = false := HOX.out.frozen 1
  have hlX : X < w1.heap.size := World.block_lt_of_cell? w1 _ k1
  obtain ⟨w2, hw2⟩ : ∃ W, W = w1.setCell ⟨X, 1, none⟩ (.slice none 0 0) := ⟨_, rfl⟩
  have HM : Hid (TCS w w2 T X S nm aT nT cT ar none 0 0 aH nH cH ⟨c.off, [], c.hol⟩ aS nS cS s) := Lib.hid (by rw [hw2]; exact HM1.out.nilC HLAY.out HQ.out HH.out HS.out)
  have HW2 := Lib.hid hw2.symm
  clear hw2
  go_upto_region 3 with (fail)
  rw [HW2.out]
  clear HW2 k1 f1 hlX HM1
  obtain ⟨t0, t1⟩ : w2.cell? ⟨T, 0, none⟩ = some (.string nm) ∧ w2.cell? ⟨T, 1, none⟩ = some (.slice aT nT cT) := ⟨HM.out.tm.k0, HM.out.tm.k1⟩
  have hlT : T < w2.heap.size := World.block_lt_of_cell? w2 _ t0
  obtain ⟨k0, k1, k2⟩ : w2.cell? ⟨X, 0, none⟩ = some (.int .i64 c.off) ∧ w2.cell? ⟨X, 1, none⟩ = some (.slice none 0 0) ∧ w2.cell? ⟨X, 2, none⟩ = some (.slice aH nH cH) := ⟨HM.out.cm.k0, HM.out.cm.k1, HM.out.cm.k2⟩
  have hlX : X < w2.heap.size := World.block_lt_of_cell? w2 _ k0
  obtain ⟨z0, z1, z2, z3⟩ : w2.cell? ⟨S, 0, none⟩ = some (.int .i64 s.frm) ∧ w2.cell? ⟨S, 1, none⟩ = some (.int .i64 s.till) ∧ w2.cell? ⟨S, 2, none⟩ = some (.int .i64 s.fin) ∧ w2.cell? ⟨S, 3, none⟩ = some (.slice aS nS cS) := ⟨HM.out.sm.k0, HM.out.sm.k1, HM.out.sm.k2, HM.out.sm.k3⟩
  have hlS : S < w2.heap.size := World.block_lt_of_cell? w2 _ z0
  go_wp2_with fail
  refine (r33Few_any nm aT nT cT ar none 0 0 aH nH cH ⟨c.off, [], c.hol⟩ aS nS cS s _ (Lib.hid HM.out.tm.rd) (Lib.hid HM.out.cm.rd) (Lib.hid HM.out.sm.rd)).mono ?_
  rintro e w3 ⟨rfl, hb1⟩
  have HM := Lib.hid (HM.out.keep hb1)
  clear hb1
  clear t0 t1 hlT k0 k1 k2 hlX z0 z1 z2 z3 hlS
  obtain ⟨t0, t1⟩ : w3.cell? ⟨T, 0, none⟩ = some (.string nm) ∧ w3.cell? ⟨T, 1, none⟩ = some (.slice aT nT cT) := ⟨HM.out.tm.k0, HM.out.tm.k1⟩
  have hlT : T < w3.heap.size := World.block_lt_of_cell? w3 _ t0
  obtain ⟨k0, k1, k2⟩ : w3.cell? ⟨X, 0, none⟩ = some (.int .i64 c.off) ∧ w3.cell? ⟨X, 1, none⟩ = some (.slice none 0 0) ∧ w3.cell? ⟨X, 2, none⟩ = some (.slice aH nH cH) := ⟨HM.out.cm.k0, HM.out.cm.k1, HM.out.cm.k2⟩
  have hlX : X < w3.heap.size := World.block_lt_of_cell? w3 _ k0
  obtain ⟨z0, z1, z2, z3⟩ : w3.cell? ⟨S, 0, none⟩ = some (.int .i64 s.frm) ∧ w3.cell? ⟨S, 1, none⟩ = some (.int .i64 s.till) ∧ w3.cell? ⟨S, 2, none⟩ = some (.int .i64 s.fin) ∧ w3.cell? ⟨S, 3, none⟩ = some (.slice aS nS cS) := ⟨HM.out.sm.k0, HM.out.sm.k1, HM.out.sm.k2, HM.out.sm.k3⟩
  have hlS : S < w3.heap.size := World.block_lt_of_cell? w3 _ z0
  obtain ⟨qf, hqf⟩ : ∃ q, q = ((decide (0 ≤ 30) && decide (nH ≤ 60)) && (decide (nm.size ≤ 50) && (decide (nT ≤ 20) && decide (nS ≤ 60)))) := ⟨_, rfl⟩
  rw [← hqf]
  have HQF := Lib.hid hqf
  clear hqf
  cases qf
  · go_wp2_with fail
    go_ret
    exact ⟨rfl, HM.out.bel⟩
  have HT20 : Hid (nT ≤ 20) := Lib.hid (by have h := HQF.out.symm; simp only [Bool.and_eq_true, decide_eq_true_eq] at h; exact h.2.2.1)
  clear HQF
  go_wp2_with fail
  refine (r26Valid_nil none 0 0 aH nH cH ⟨c.off, [], c.hol⟩ _ (Lib.hid HM.out.cm.rd) rfl).mono ?_
  rintro e w4 ⟨zv, rfl, hz, hb1⟩
  have HM := Lib.hid (HM.out.keep hb1)
  have HZ : Hid (zv = true → amB c.off (-1440) 1440 = true) := Lib.hid hz
  clear hb1 hz
  clear t0 t1 hlT k0 k1 k2 hlX z0 z1 z2 z3 hlS
  obtain ⟨t0, t1⟩ : w4.cell? ⟨T, 0, none⟩ = some (.string nm) ∧ w4.cell? ⟨T, 1, none⟩ = some (.slice aT nT cT) := ⟨HM.out.tm.k0, HM.out.tm.k1⟩
  have hlT : T < w4.heap.size := World.block_lt_of_cell? w4 _ t0
  obtain ⟨k0, k1, k2⟩ : w4.cell? ⟨X, 0, none⟩ = some (.int .i64 c.off) ∧ w4.cell? ⟨X, 1, none⟩ = some (.slice none 0 0) ∧ w4.cell? ⟨X, 2, none⟩ = some (.slice aH nH cH) := ⟨HM.out.cm.k0, HM.out.cm.k1, HM.out.cm.k2⟩
  have hlX : X < w4.heap.size := World.block_lt_of_cell? w4 _ k0
  obtain ⟨z0, z1, z2, z3⟩ : w4.cell? ⟨S, 0, none⟩ = some (.int .i64 s.frm) ∧ w4.cell? ⟨S, 1, none⟩ = some (.int .i64 s.till) ∧ w4.cell? ⟨S, 2, none⟩ = some (.int .i64 s.fin) ∧ w4.cell? ⟨S, 3, none⟩ = some (.slice aS nS cS) := ⟨HM.out.sm.k0, HM.out.sm.k1, HM.out.sm.k2, HM.out.sm.k3⟩
  have hlS : S < w4.heap.size := World.block_lt_of_cell? w4 _ z0
  cases zv
  · go_wp2_with fail
    go_ret
    exact ⟨rfl, HM.out.bel⟩
  have HOF : Hid (amB c.off (-1440) 1440 = true) := Lib.hid (HZ.out rfl)
  clear HZ
  go_wp2_with fail
  refine (bValid_any aS nS cS s _ (Lib.hid HM.out.sm.rd)).mono ?_
  rintro e w5 ⟨rfl, hb1⟩
  have HM := Lib.hid (HM.out.keep hb1)
  clear hb1
  clear t0 t1 hlT k0 k1 k2 hlX z0 z1 z2 z3 hlS
  obtain ⟨z0, z1, z2, z3⟩ : w5.cell? ⟨S, 0, none⟩ = some (.int .i64 s.frm) ∧ w5.cell? ⟨S, 1, none⟩ = some (.int .i64 s.till) ∧ w5.cell? ⟨S, 2, none⟩ = some (.int .i64 s.fin) ∧ w5.cell? ⟨S, 3, none⟩ = some (.slice aS nS cS) := ⟨HM.out.sm.k0, HM.out.sm.k1, HM.out.sm.k2, HM.out.sm.k3⟩
  have hlS : S < w5.heap.size := World.block_lt_of_cell? w5 _ z0
  cases hsb : sesB s
  · go_wp2_with fail
    go_ret
    exact ⟨rfl, HM.out.bel⟩
  have HSB := Lib.hid hsb
  clear hsb
  by_cases hk0 : k < -1440
  · go_wp2_with fail
    go_ret
    exact ⟨rfl, HM.out.bel⟩
  by_cases hk1 : 1440 < k
  · go_wp2_with fail
    go_ret
    exact ⟨rfl, HM.out.bel⟩
  have HSI := Lib.hid (sesB_iff.1 HSB.out)
  obtain ⟨s1, s2, s3, s4, s5, s6, s7, s8⟩ := HSI.out
  have hob := amB_of HOF.out
  obtain ⟨ho0, ho1⟩ := hob
  have w1' : IntKind.i64.wrap (s.frm + k) = s.frm + k := IntWalk.i64_in _ (by omega)
  have w2' : IntKind.i64.wrap (s.till + k) = s.till + k := IntWalk.i64_in _ (by omega)
  have w3' : IntKind.i64.wrap (s.fin + k) = s.fin + k := IntWalk.i64_in _ (by omega)
  have hk2 : -1440 ≤ k ∧ k ≤ 1440 := by omega
  obtain ⟨hk3, hk4⟩ := hk2
  have HSL := Lib.hid s8
  have hn48 : nS ≤ 48 := by rw [← HM.out.sm.rd.ls]; exact s7
  clear s7 s8
  obtain ⟨w6, hw6⟩ : ∃ W, W = w5.alloc (.cells #[.int .i64 (s.frm + k), .int .i64 (s.till + k), .int .i64 (s.fin + k), .slice none 0 0] 31) := ⟨_, rfl⟩
  obtain ⟨L, hL⟩ : ∃ L, L = w5.heap.size := ⟨_, rfl⟩
  have hb6 : Below w5.heap.size w5 w6 := by rw [hw6]; exact (Below.refl _ _).alloc (Nat.le_refl _) _
  have HL : Hid (Own w6 L 31 4 (seF (s.frm + k) (s.till + k) (s.fin + k) (.slice none 0 0))) := Lib.hid (by rw [hw6]; exact Own.newAt _ 31 _ _ hL.symm (n := 4) rfl (fun i hi => by match i, hi with | 0, _ => rfl | 1, _ => rfl | 2, _ => rfl | 3, _ => rfl))
  have HLL : Hid (T < L ∧ X < L ∧ S < L ∧ w.heap.size ≤ L) := Lib.hid (by rw [hL]; exact ⟨World.block_lt_of_cell? _ _ HM.out.tm.k0, World.block_lt_of_cell? _ _ HM.out.cm.k0, World.block_lt_of_cell? _ _ HM.out.sm.k0, HM.out.bel.size⟩)
  have HM := Lib.hid (HM.out.keep hb6)
  have HW6 := Lib.hid (And.intro hw6.symm hL.symm)
  clear hw6 hL hb6
  go_upto_region 6 with (fail)
  rw [HW6.out.1, HW6.out.2]
  clear HW6 w1' w2' w3' z0 z1 z2 z3 hlS
  obtain ⟨z0, z1, z2, z3⟩ : w6.cell? ⟨S, 0, none⟩ = some (.int .i64 s.frm) ∧ w6.cell? ⟨S, 1, none⟩ = some (.int .i64 s.till) ∧ w6.cell? ⟨S, 2, none⟩ = some (.int .i64 s.fin) ∧ w6.cell? ⟨S, 3, none⟩ = some (.slice aS nS cS) := ⟨HM.out.sm.k0, HM.out.sm.k1, HM.out.sm.k2, HM.out.sm.k3⟩
  have hlS : S < w6.heap.size := World.block_lt_of_cell? w6 _ z0
  go_wp2_with fail
  have HO0 : Hid (OwnR 37 2 encSlc w6 (L + 1) (.slice none 0 0) (shL k (s.sl.take 0))) := Lib.hid (OwnR.nil _ _)
  clear z0 z1 z2 z3 hlS
  go_loopg [60] nS (fun g1 v60 wr => ∃ (i : Nat) (va : Option Addr) (vn vc : Nat), v60 = .int .i64 i ∧ i ≤ nS ∧ nS - i ≤ g1 ∧ Hid (TCS w wr T X S nm aT nT cT ar none 0 0 aH nH cH ⟨c.off, [], c.hol⟩ aS nS cS s) ∧ Hid (Own wr L 31 4 (seF (s.frm + k) (s.till + k) (s.fin + k) (.slice va vn vc))) ∧ Hid (OwnR 37 2 encSlc wr (L + 1) (.slice va vn vc) (shL k (s.sl.take i))))
  case atStart => exact ⟨0, none, 0, 0, by go_num, by omega, by omega, HM, HL, HO0⟩
  case round =>
    clear HM HL HO0
    obtain ⟨i, va, vn, vc, rfl, hi, hg1, HM, HL, HO⟩ := hrel
    by_cases hlt : i < nS
    · have hltz : (i : Int) < (nS : Int) := by omega
      obtain ⟨bb, off, x, hA, hbl, hgx, hc0, hc1⟩ := rdSlc_at HM.out.sm.rd.rs (show i < s.sl.length by rw [HM.out.sm.rd.ls]; exact hlt)
      have hxb := slB_mn HSL.out hgx
      obtain ⟨hx0, hx1⟩ := hxb
      have HTK : Hid ((shL k (s.sl.take (i + 1))) = (shL k (s.sl.take i)) ++ [⟨x.mn + k, x.en⟩]) := Lib.hid (by unfold shL; rw [take_snoc hgx, List.map_append]; rfl)
      have hln : (shL k (s.sl.take i)).length ≤ 100000 := by unfold shL; rw [List.length_map, List.length_take]; omega
      have HLN := Lib.hid hln
      clear hgx hln
      have z3 : wr.cell? ⟨S, 3, none⟩ = some (.slice aS nS cS) := HM.out.sm.k3
      have hlS : S < wr.heap.size := World.block_lt_of_cell? wr _ z3
      subst hA
      have wx : IntKind.i64.wrap (x.mn + k) = x.mn + k := IntWalk.i64_in _ (by omega)
      obtain ⟨w7, hw7⟩ : ∃ W, W = wr.alloc (.cells #[.int .i64 x.mn, .int .i64 x.en] 37) := ⟨_, rfl⟩
      obtain ⟨Z, hZ⟩ : ∃ Z, Z = wr.heap.size := ⟨_, rfl⟩
      have hb7 : Below wr.heap.size wr w7 := by rw [hw7]; exact (Below.refl _ _).alloc (Nat.le_refl _) _
      have e0 : w7.cell? ⟨Z, 0, none⟩ = some (.int .i64 x.mn) := by rw [hw7, hZ]; go_simp
      have e1 : w7.cell? ⟨Z, 1, none⟩ = some (.int .i64 x.en) := by rw [hw7, hZ]; go_simp
      have hlZ : Z < w7.heap.size := World.block_lt_of_cell? w7 _ e0
      have HM := Lib.hid (HM.out.keep hb7)
      have HL := Lib.hid (HL.out.keep hb7 HL.out.lt)
      have HO := Lib.hid (HO.out.keep hb7)
      have HW7 := Lib.hid (And.intro hw7.symm hZ.symm)
      clear hw7 hZ hb7
      go_upto_region 9 with (fail)
      rw [HW7.out.1, HW7.out.2]
      clear HW7 hc0 hc1 z3 hlS
      obtain ⟨ap, v', w8, av, aw, HO8, HA8⟩ := app_slc (x.mn + k) x.en HO.out (by have := HL.out.lt; omega) HLN.out
      obtain ⟨va', vc', hv'⟩ := HO8.out.shape
      obtain ⟨vn', hvn'⟩ : ∃ n, n = ((shL k (s.sl.take i)) ++ [(⟨x.mn + k, x.en⟩ : Slc)]).length := ⟨_, rfl⟩
      rw [← hvn'] at hv'
      clear hvn'
      subst hv'
      have HB8 : Hid (Below (L + 1) w7 w8) := Lib.hid HA8.out.bel
      have HL8 : Hid (Own w8 L 31 4 (seF (s.frm + k) (s.till + k) (s.fin + k) (.slice va vn vc))) := Lib.hid (HL.out.keep HB8.out (Nat.lt_succ_self _))
      have l3 : w7.cell? ⟨L, 3, none⟩ = some (.slice va vn vc) := HL.out.cell (i := 3) (by omega)
      have hlL : L < w7.heap.size := HL.out.lt
      have l3' : w8.cell? ⟨L, 3, none⟩ = some (.slice va vn vc) := HL8.out.cell (i := 3) (by omega)
      have fl3 : w8.frozen? ⟨L, 3, none⟩ = false := HL8.out.frozen 3
      have hlL8 : L < w8.heap.size := HL8.out.lt
      have HM9 : Hid (TCS w (w8.setCell ⟨L, 3, none⟩ (.slice va' vn' vc')) T X S nm aT nT cT ar none 0 0 aH nH cH ⟨c.off, [], c.hol⟩ (some ⟨bb, off, none⟩) nS cS s) := Lib.hid (HM.out.mod HQ.out HH.out HS.out (((Mod.of_below HB8.out).mono (fun j _ hj => (show L ≤ j by omega))).setCell (p := ⟨L, 3, none⟩) (.inl (Nat.le_refl _)) _) (fun j _ hj => hj) HLL.out)
      have HL9 : Hid (Own (w8.setCell ⟨L, 3, none⟩ (.slice va' vn' vc')) L 31 4 (seF (s.frm + k) (s.till + k) (s.fin + k) (.slice va' vn' vc'))) := Lib.hid ((HL8.out.set 3 _).congr (fun j hj => by match j, hj with | 0, _ => rfl | 1, _ => rfl | 2, _ => rfl | 3, _ => rfl))
      have HO9 : Hid (OwnR 37 2 encSlc (w8.setCell ⟨L, 3, none⟩ (.slice va' vn' vc')) (L + 1) (.slice va' vn' vc') (shL k (s.sl.take (i + 1)))) := Lib.hid (by rw [HTK.out]; exact HO8.out.mod (M := fun j => j = L) ((show Mod (fun j => j = L) w8 w8 from Mod.refl _ w8).setCell (p := ⟨L, 3, none⟩) (.inl rfl) _) (fun j hj e => by have := (World.ownsRow.lt HO8.out j hj).1; omega))
      clear HO8 HA8 HL8 HB8 HM HL HO
      go_wp2_with fail
      go_roundg (nS - (i + 1))
      case measure => omega
      case rel => exact ⟨i + 1, va', vn', vc', by go_num, by omega, by omega, HM9, HL9, HO9⟩
    · have hltz : ¬ (i : Int) < (nS : Int) := by omega
      have HE : Hid (i = nS) := Lib.hid (by omega)
      have HLE : Hid (vn = nS ∧ RdSes wr va vn (shS k s)) := Lib.hid (rdSes_of HO.out (by rw [HM.out.sm.rd.ls]; exact HE.out.symm) HM.out.sm.rd.ls (by omega) (by omega) (by omega))
      clear HO HE hi hlt hg1
      obtain ⟨k0, k1, k2⟩ : wr.cell? ⟨X, 0, none⟩ = some (.int .i64 c.off) ∧ wr.cell? ⟨X, 1, none⟩ = some (.slice none 0 0) ∧ wr.cell? ⟨X, 2, none⟩ = some (.slice aH nH cH) := ⟨HM.out.cm.k0, HM.out.cm.k1, HM.out.cm.k2⟩
      have hlX : X < wr.heap.size := World.block_lt_of_cell? wr _ k0
      have wo : IntKind.i64.wrap (c.off - k) = c.off - k := IntWalk.i64_in _ (by omega)
      obtain ⟨w8, hw8⟩ : ∃ W, W = wr.alloc (.cells #[.int .i64 (c.off - k), .slice none 0 0, .slice aH nH cH] 28) := ⟨_, rfl⟩
      obtain ⟨D, hD⟩ : ∃ D, D = wr.heap.size := ⟨_, rfl⟩
      have hb8 : Below wr.heap.size wr w8 := by rw [hw8]; exact (Below.refl _ _).alloc (Nat.le_refl _) _
      obtain ⟨d0, d1, d2⟩ : w8.cell? ⟨D, 0, none⟩ = some (.int .i64 (c.off - k)) ∧ w8.cell? ⟨D, 1, none⟩ = some (.slice none 0 0) ∧ w8.cell? ⟨D, 2, none⟩ = some (.slice aH nH cH) := by rw [hw8, hD]; exact ⟨by go_simp, by go_simp, by go_simp⟩
      have HDR : Hid (RdCal w8 none 0 aH nH ⟨c.off - k, [], c.hol⟩) := Lib.hid ⟨Rd.nil, HM.out.cm.rd.r2.keep hb8, rfl, HM.out.cm.rd.l2, by omega, HM.out.cm.rd.m2⟩
      have HM := Lib.hid (HM.out.keep hb8)
      have HL := Lib.hid (HL.out.keep hb8 HL.out.lt)
      have HLE := Lib.hid (And.intro HLE.out.1 (HLE.out.2.keep hb8))
      have HW8 := Lib.hid (And.intro hw8.symm hD.symm)
      clear hw8 hD hb8
      go_upto_region 13 with (fail)
      rw [HW8.out.1, HW8.out.2]
      clear HW8 k0 k1 k2 hlX
      have hlD : D < w8.heap.size := World.block_lt_of_cell? w8 _ d0
      by_cases hd0 : c.off - k < -1440
      · go_wp2_with fail
        go_ret
        exact ⟨rfl, HM.out.bel⟩
      by_cases hd1 : 1440 < c.off - k
      · go_wp2_with fail
        go_ret
        exact ⟨rfl, HM.out.bel⟩
      obtain ⟨l0, l1, l2, l3⟩ : w8.cell? ⟨L, 0, none⟩ = some (.int .i64 (s.frm + k)) ∧ w8.cell? ⟨L, 1, none⟩ = some (.int .i64 (s.till + k)) ∧ w8.cell? ⟨L, 2, none⟩ = some (.int .i64 (s.fin + k)) ∧ w8.cell? ⟨L, 3, none⟩ = some (.slice va vn vc) := ⟨HL.out.cell (i := 0) (by omega), HL.out.cell (i := 1) (by omega), HL.out.cell (i := 2) (by omega), HL.out.cell (i := 3) (by omega)⟩
      have hlL : L < w8.heap.size := HL.out.lt
      go_wp2_with fail
      refine (bValid_any va vn vc (shS k s) _ (Lib.hid HLE.out.2)).mono ?_
      rintro e w9 ⟨rfl, hb1⟩
      have HM := Lib.hid (HM.out.keep hb1)
      have HL := Lib.hid (HL.out.keep hb1 HL.out.lt)
      have HLE := Lib.hid (And.intro HLE.out.1 (HLE.out.2.keep hb1))
      have HDR := Lib.hid (HDR.out.keep hb1)
      have d0' := (hb1.cell (p := ⟨D, 0, none⟩) hlD).trans d0
      have d1' := (hb1.cell (p := ⟨D, 1, none⟩) hlD).trans d1
      have d2' := (hb1.cell (p := ⟨D, 2, none⟩) hlD).trans d2
      clear hb1 d0 d1 d2 hlD l0 l1 l2 l3 hlL
      cases hsb2 : sesB (shS k s)
      · go_wp2_with fail
        go_ret
        exact ⟨rfl, HM.out.bel⟩
      have HBI : Hid (billV nm ar ⟨c.off - k, [], c.hol⟩ (shS k s) = billV nm ar ⟨c.off, [], c.hol⟩ s ∧ billE nm ar ⟨c.off - k, [], c.hol⟩ (shS k s) = billE nm ar ⟨c.off, [], c.hol⟩ s) := Lib.hid (bill_sh (nm := nm) (ar := ar) (c := ⟨c.off, [], c.hol⟩) rfl HOF.out (amB_true (by omega) (by omega)) HSB.out hsb2)
      clear hsb2
      obtain ⟨t0, t1⟩ : w9.cell? ⟨T, 0, none⟩ = some (.string nm) ∧ w9.cell? ⟨T, 1, none⟩ = some (.slice aT nT cT) := ⟨HM.out.tm.k0, HM.out.tm.k1⟩
      have hlT : T < w9.heap.size := World.block_lt_of_cell? w9 _ t0
      obtain ⟨k0, k1, k2⟩ : w9.cell? ⟨X, 0, none⟩ = some (.int .i64 c.off) ∧ w9.cell? ⟨X, 1, none⟩ = some (.slice none 0 0) ∧ w9.cell? ⟨X, 2, none⟩ = some (.slice aH nH cH) := ⟨HM.out.cm.k0, HM.out.cm.k1, HM.out.cm.k2⟩
      have hlX : X < w9.heap.size := World.block_lt_of_cell? w9 _ k0
      obtain ⟨z0, z1, z2, z3⟩ : w9.cell? ⟨S, 0, none⟩ = some (.int .i64 s.frm) ∧ w9.cell? ⟨S, 1, none⟩ = some (.int .i64 s.till) ∧ w9.cell? ⟨S, 2, none⟩ = some (.int .i64 s.fin) ∧ w9.cell? ⟨S, 3, none⟩ = some (.slice aS nS cS) := ⟨HM.out.sm.k0, HM.out.sm.k1, HM.out.sm.k2, HM.out.sm.k3⟩
      have hlS : S < w9.heap.size := World.block_lt_of_cell? w9 _ z0
      go_wp2_with fail
      refine (bBill_any nm aT nT cT ar none 0 0 aH nH cH ⟨c.off, [], c.hol⟩ aS nS cS s _ (Lib.hid HM.out.tm.rd) (Lib.hid HM.out.cm.rd) (Lib.hid HM.out.sm.rd)).mono ?_
      rintro e w10 ⟨A1, n1, c1, rfl, hn1, hr1, hb1⟩
      have HBLN := Lib.hid (billV_len nm ar ⟨c.off, [], c.hol⟩ s)
      obtain ⟨bv, hbv⟩ : ∃ b, b = billV nm ar ⟨c.off, [], c.hol⟩ s := ⟨_, rfl⟩
      obtain ⟨be, hbe⟩ : ∃ b, b = billE nm ar ⟨c.off, [], c.hol⟩ s := ⟨_, rfl⟩
      rw [← hbv] at HBI HBLN hn1 hr1 ⊢
      rw [← hbe] at HBI ⊢
      have HM := Lib.hid (HM.out.keep hb1)
      have HL := Lib.hid (HL.out.keep hb1 HL.out.lt)
      have HLE := Lib.hid (And.intro HLE.out.1 (HLE.out.2.keep hb1))
      have HDR := Lib.hid (HDR.out.keep hb1)
      have d0 := (hb1.cell (p := ⟨D, 0, none⟩) (World.block_lt_of_cell? _ _ d0')).trans d0'
      have d1 := (hb1.cell (p := ⟨D, 1, none⟩) (World.block_lt_of_cell? _ _ d1')).trans d1'
      have d2 := (hb1.cell (p := ⟨D, 2, none⟩) (World.block_lt_of_cell? _ _ d2')).trans d2'
      have HR1 := Lib.hid hr1
      have HN1 := Lib.hid hn1
      clear hbv hbe hr1 hn1 hb1 d0' d1' d2' t0 t1 hlT k0 k1 k2 hlX z0 z1 z2 z3 hlS
      obtain ⟨w11, hw11⟩ : ∃ W, W = w10.alloc (.cells #[.slice A1 n1 c1, .int .i64 bv.net, .int .i64 bv.tax, .int .i64 bv.total] 40) := ⟨_, rfl⟩
      obtain ⟨U, hU⟩ : ∃ D, D = w10.heap.size := ⟨_, rfl⟩
      have hb11 : Below w10.heap.size w10 w11 := by rw [hw11]; exact (Below.refl _ _).alloc (Nat.le_refl _) _
      obtain ⟨u0, u1, u2, u3⟩ : w11.cell? ⟨U, 0, none⟩ = some (.slice A1 n1 c1) ∧ w11.cell? ⟨U, 1, none⟩ = some (.int .i64 bv.net) ∧ w11.cell? ⟨U, 2, none⟩ = some (.int .i64 bv.tax) ∧ w11.cell? ⟨U, 3, none⟩ = some (.int .i64 bv.total) := by rw [hw11, hU]; exact ⟨by go_simp, by go_simp, by go_simp, by go_simp⟩
      have HM := Lib.hid (HM.out.keep hb11)
      have HL := Lib.hid (HL.out.keep hb11 HL.out.lt)
      have HLE := Lib.hid (And.intro HLE.out.1 (HLE.out.2.keep hb11))
      have HDR := Lib.hid (HDR.out.keep hb11)
      have HR1 := Lib.hid (HR1.out.keep hb11)
      have e0 := (hb11.cell (p := ⟨D, 0, none⟩) (World.block_lt_of_cell? _ _ d0)).trans d0
      have e1 := (hb11.cell (p := ⟨D, 1, none⟩) (World.block_lt_of_cell? _ _ d1)).trans d1
      have e2 := (hb11.cell (p := ⟨D, 2, none⟩) (World.block_lt_of_cell? _ _ d2)).trans d2
      have HW11 := Lib.hid (And.intro hw11.symm hU.symm)
      clear hw11 hU hb11 d0 d1 d2
      go_upto_region 16 with (fail)
      rw [HW11.out.1, HW11.out.2]
      clear HW11
      obtain ⟨t0, t1⟩ : w11.cell? ⟨T, 0, none⟩ = some (.string nm) ∧ w11.cell? ⟨T, 1, none⟩ = some (.slice aT nT cT) := ⟨HM.out.tm.k0, HM.out.tm.k1⟩
      have hlT : T < w11.heap.size := World.block_lt_of_cell? w11 _ t0
      obtain ⟨l0, l1, l2, l3⟩ : w11.cell? ⟨L, 0, none⟩ = some (.int .i64 (s.frm + k)) ∧ w11.cell? ⟨L, 1, none⟩ = some (.int .i64 (s.till + k)) ∧ w11.cell? ⟨L, 2, none⟩ = some (.int .i64 (s.fin + k)) ∧ w11.cell? ⟨L, 3, none⟩ = some (.slice va vn vc) := ⟨HL.out.cell (i := 0) (by omega), HL.out.cell (i := 1) (by omega), HL.out.cell (i := 2) (by omega), HL.out.cell (i := 3) (by omega)⟩
      have hlL : L < w11.heap.size := HL.out.lt
      have hlD : D < w11.heap.size := World.block_lt_of_cell? w11 _ e0
      go_wp2_with fail
      refine (bBill_any nm aT nT cT ar none 0 0 aH nH cH ⟨c.off - k, [], c.hol⟩ va vn vc (shS k s) _ (Lib.hid HM.out.tm.rd) HDR (Lib.hid HLE.out.2)).mono ?_
      rintro e w12 ⟨A2, n2, c2, rfl, hn2, hr2, hb2⟩
      rw [HBI.out.1] at hn2 hr2 ⊢
      rw [HBI.out.2]
      obtain rfl : n2 = n1 := by rw [← hn2, HN1.out]
      have HM := Lib.hid (HM.out.keep hb2)
      have HR1 := Lib.hid (HR1.out.keep hb2)
      have HR2 := Lib.hid hr2
      have hlU : U < w11.heap.size := World.block_lt_of_cell? w11 _ u0
      have v0 := (hb2.cell (p := ⟨U, 0, none⟩) hlU).trans u0
      have v1 := (hb2.cell (p := ⟨U, 1, none⟩) hlU).trans u1
      have v2 := (hb2.cell (p := ⟨U, 2, none⟩) hlU).trans u2
      have v3 := (hb2.cell (p := ⟨U, 3, none⟩) hlU).trans u3
      clear hn2 hr2 hb2 u0 u1 u2 u3 hlU l0 l1 l2 l3 hlL hlD e0 e1 e2 t0 t1 hlT
      obtain ⟨w13, hw13⟩ : ∃ W, W = w12.alloc (.cells #[.slice A2 n2 c2, .int .i64 bv.net, .int .i64 bv.tax, .int .i64 bv.total] 40) := ⟨_, rfl⟩
      obtain ⟨V, hV⟩ : ∃ D, D = w12.heap.size := ⟨_, rfl⟩
      have hb13 : Below w12.heap.size w12 w13 := by rw [hw13]; exact (Below.refl _ _).alloc (Nat.le_refl _) _
      obtain ⟨x0, x1, x2, x3⟩ : w13.cell? ⟨V, 0, none⟩ = some (.slice A2 n2 c2) ∧ w13.cell? ⟨V, 1, none⟩ = some (.int .i64 bv.net) ∧ w13.cell? ⟨V, 2, none⟩ = some (.int .i64 bv.tax) ∧ w13.cell? ⟨V, 3, none⟩ = some (.int .i64 bv.total) := by rw [hw13, hV]; exact ⟨by go_simp, by go_simp, by go_simp, by go_simp⟩
      have hlU : U < w12.heap.size := World.block_lt_of_cell? w12 _ v0
      have u0 := (hb13.cell (p := ⟨U, 0, none⟩) hlU).trans v0
      have u1 := (hb13.cell (p := ⟨U, 1, none⟩) hlU).trans v1
      have u2 := (hb13.cell (p := ⟨U, 2, none⟩) hlU).trans v2
      have u3 := (hb13.cell (p := ⟨U, 3, none⟩) hlU).trans v3
      have HM := Lib.hid (HM.out.keep hb13)
      have HR1 := Lib.hid (HR1.out.keep hb13)
      have HR2 := Lib.hid (HR2.out.keep hb13)
      have HW13 := Lib.hid (And.intro hw13.symm hV.symm)
      clear hw13 hV hb13 v0 v1 v2 v3 hlU
      go_upto_region 17 with (fail)
      rw [HW13.out.1, HW13.out.2]
      clear HW13
      have hlU : U < w13.heap.size := World.block_lt_of_cell? w13 _ u0
      have hlV : V < w13.heap.size := World.block_lt_of_cell? w13 _ x0
      have hbe : (be == be) = true := by simp
      go_wp2_with fail
      refine (r33Same_refl A1 A2 n2 c1 c2 bv.net bv.tax bv.total bv.lines _ HR1.out HR2.out HN1.out (by have h1 := HN1.out; have h2 := HBLN.out; have h3 := HQ.out.la; have h4 := HT20.out; omega)).mono ?_
      rintro e w14 ⟨rfl, hb1⟩
      have HBB := Lib.hid (HM.out.bel.trans (hb1.mono HM.out.bel.size))
      clear hb1
      go_wp2_with fail
      go_ret
      exact ⟨rfl, HBB.out⟩
end Go.Proofs.YtoekpdnpncgeeaaGreat
