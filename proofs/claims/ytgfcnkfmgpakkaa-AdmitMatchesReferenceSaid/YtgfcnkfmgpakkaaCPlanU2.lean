/-
The memory of plan.Schedule while its plan is written.
-/
import Derived.Test.YtgfcnkfmgpakkaaCPlanU
import Derived.Test.YtgfcnkfmgpakkaaGPlanS
namespace Go.Proofs.Ytgfcnkfmgpakkaa
open Go.RowKit Go.Shelf
set_option linter.unusedVariables false
/-- What lies at place t, if the values g 0, g 1, .. were laid at the places of the list, in order. -/
def laidR (g : Nat → Int) : List Nat → Nat → Int
  | [], _ => 0
  | x :: r, t => if t = x then g r.length else laidR g r t
def laid (g : Nat → Int) (l : List Nat) (t : Nat) : Int := laidR g l.reverse t
theorem laid_nil (g : Nat → Int) (t : Nat) : laid g [] t = 0 := rfl
theorem laid_snoc (g : Nat → Int) (l : List Nat) (x t : Nat) : laid g (l ++ [x]) t = if t = x then g l.length else laid g l t := by
  unfold laid
  rw [List.reverse_append]
  simp [laidR]
theorem laid_slots (g : Nat → Int) (j : GJob) (m t : Nat) : laid g (slotsTo j m) t = if j.frm.toNat ≤ t ∧ t < j.frm.toNat + m then g (t - j.frm.toNat) else 0 := by
  induction m with
  | zero =>
    rw [if_neg (by omega)]
    rfl
  | succ m ih =>
    unfold slotsTo at *
    rw [mk_succ, laid_snoc, mk_len, ih]
    by_cases e : t = j.frm.toNat + m
    · subst e
      rw [if_pos rfl, if_pos (by omega), Nat.add_sub_cancel_left]
    · rw [if_neg e]
      by_cases c : j.frm.toNat ≤ t ∧ t < j.frm.toNat + m
      · rw [if_pos c, if_pos (by omega)]
      · rw [if_neg c, if_neg (by omega)]
def matC (T : Nat) (h : Nat → Nat → Int) (idx : Nat) : Value := .int .i64 (h (idx / T) (idx % T))
structure SPm (w W : World) (A : Option Addr) (c N T bp gt ga gF M : Nat) (fl : List Int) (h : Nat → Nat → Int) (rest : Nat) : Prop where
  k0 : W.cell? ⟨w.heap.size, 0, none⟩ = some (.slice A N c)
  o5 : Own W (w.heap.size + 1) 30 2 (fun _ => .slice none 0 0)
  k25 : W.cell? ⟨bp, 0, none⟩ = some (.slice (some ⟨gt, 0, none⟩) N N)
  o26 : ∃ ad, Own W (bp + 1) 23 1 (fun _ => .slice ad rest rest) ∧ (0 < rest → ad = some ⟨gF, M - rest, none⟩)
  ot : Own W gt 23 N (fun i => .slice (some ⟨ga, i * T, none⟩) T T)
  oa : Own W ga 3 (N * T) (matC T h)
  rf : Rd 1 encI W (some ⟨gF, 0, none⟩) fl
  bel : Below w.heap.size w W
  b1 : w.heap.size + 1 < gt
  b2 : w.heap.size + 1 < ga
  b3 : 0 < fl.length → gF < gt ∧ gF < ga
  b4 : gt < bp
  b5 : ga < bp
  b6 : ga ≠ gt
section
variable {w W W' : World} {A : Option Addr} {c N T bp gt ga gF M : Nat} {fl : List Int} {h : Nat → Nat → Int} {rest : Nat}
theorem Rd.nc {α : Type} {sz : Nat} {enc : α → List Value} {xs : List α} {B : Nat} (hr : Rd sz enc W A xs) (hn : Nc B W W') : Rd sz enc W' A xs := by
  intro h0
  obtain ⟨b, off, hA, hlt, hc⟩ := hr h0
  refine ⟨b, off, hA, ?_, fun k x hx j v hv => cell_nc (hc k x hx j v hv) hn⟩
  obtain ⟨row, hg, _⟩ := hn
  exact Nat.lt_of_lt_of_le hlt hg.size
theorem SPm.keep (m : SPm w W A c N T bp gt ga gF M fl h rest) (hb : Below W.heap.size W W') : SPm w W' A c N T bp gt ga gF M fl h rest :=
  have cl : ∀ {p : Addr} {v : Value}, W.cell? p = some v → W'.cell? p = some v := fun {p v} hp => (hb.cell (World.block_lt_of_cell? W p hp)).trans hp
  ⟨cl m.k0, m.o5.keep hb m.o5.lt, cl m.k25, let ⟨ad, o, e⟩ := m.o26; ⟨ad, o.keep hb o.lt, e⟩, m.ot.keep hb m.ot.lt, m.oa.keep hb m.oa.lt, m.rf.keep hb, below_then m.bel hb, m.b1, m.b2, m.b3, m.b4, m.b5, m.b6⟩
theorem SPm.nc {m0 : Nat} (m : SPm w W A c N T bp gt ga gF M fl h rest) (hn : Nc m0 W W') (hw : w.heap.size ≤ m0) : SPm w W' A c N T bp gt ga gF M fl h rest :=
  ⟨cell_nc m.k0 hn, m.o5.nc hn, cell_nc m.k25 hn, let ⟨ad, o, e⟩ := m.o26; ⟨ad, o.nc hn, e⟩, m.ot.nc hn, m.oa.nc hn, m.rf.nc hn, below_nc m.bel (Nat.le_refl _) hn hw, m.b1, m.b2, m.b3, m.b4, m.b5, m.b6⟩
theorem SPm.congr (m : SPm w W A c N T bp gt ga gF M fl h rest) {h' : Nat → Nat → Int} (e : ∀ i t, i < N → t < T → h i t = h' i t) : SPm w W A c N T bp gt ga gF M fl h' rest := by
  refine ⟨m.k0, m.o5, m.k25, m.o26, m.ot, m.oa.congr (fun idx hi => ?_), m.rf, m.bel, m.b1, m.b2, m.b3, m.b4, m.b5, m.b6⟩
  have hT : 0 < T := Nat.pos_of_ne_zero (fun z => by subst z; simp at hi)
  unfold matC
  rw [e _ _ ((Nat.div_lt_iff_lt_mul hT).2 hi) (Nat.mod_lt _ hT)]
/-- One place is written, and what is used goes on. -/
theorem SPm.put (m : SPm w W A c N T bp gt ga gF M fl h rest) (k t : Nat) (hk : k < N) (ht : t < T) (x : Int) (ad' : Option Addr) (r' : Nat) (had : 0 < r' → ad' = some ⟨gF, M - r', none⟩) :
    SPm w ((W.setCell ⟨ga, k * T + t, none⟩ (.int .i64 x)).setCell ⟨bp + 1, 0, none⟩ (.slice ad' r' r')).drew A c N T bp gt ga gF M fl (fun i s => if i = k ∧ s = t then x else h i s) r' ∧
    Mod (fun q => q = ga ∨ q = bp + 1) W ((W.setCell ⟨ga, k * T + t, none⟩ (.int .i64 x)).setCell ⟨bp + 1, 0, none⟩ (.slice ad' r' r')).drew := by
  obtain ⟨ad, o26, _⟩ := m.o26
  have b1 := m.b1
  have b2 := m.b2
  have b3 := m.b3
  have b4 := m.b4
  have b5 := m.b5
  have b6 := m.b6
  have hM : Mod (fun q => q = ga ∨ q = bp + 1) W ((W.setCell ⟨ga, k * T + t, none⟩ (.int .i64 x)).setCell ⟨bp + 1, 0, none⟩ (.slice ad' r' r')).drew :=
    (((Mod.refl _ W).setCell (p := ⟨ga, k * T + t, none⟩) (.inl (.inl rfl)) _).setCell (p := ⟨bp + 1, 0, none⟩) (.inl (.inr rfl)) _).drew
  have far : ∀ (p : Addr) (v : Value), W.cell? p = some v → p.block ≠ ga → p.block ≠ bp + 1 → ((W.setCell ⟨ga, k * T + t, none⟩ (.int .i64 x)).setCell ⟨bp + 1, 0, none⟩ (.slice ad' r' r')).drew.cell? p = some v :=
    fun p v hp h1 h2 => (hM.cell (World.block_lt_of_cell? W p hp) (fun e => by rcases e with e | e; exact h1 e; exact h2 e)).trans hp
  have hT : 0 < T := by omega
  refine ⟨⟨far _ _ m.k0 (by dsimp only; omega) (by dsimp only; omega), m.o5.mod hM (by omega), far _ _ m.k25 (by dsimp only; omega) (by dsimp only; omega), ⟨ad', ?_, had⟩, m.ot.mod hM (by omega), ?_, m.rf.mod hM (fun a ha h0 => by injection ha with ha; rw [← ha]; have := b3 h0; dsimp only; omega), m.bel.trans (hM.below m.bel.size (fun q _ hq => by omega)), b1, b2, b3, b4, b5, b6⟩, hM⟩
  · exact ((o26.other (p := ⟨ga, k * T + t, none⟩) (by dsimp only; omega) _).set 0 _).congr (fun i hi => by simp [show i = 0 by omega])
  · refine ((m.oa.set (k * T + t) _).other (p := ⟨bp + 1, 0, none⟩) (by dsimp only; omega) _).congr (fun idx hi => ?_)
    unfold matC
    by_cases e : idx = k * T + t
    · subst e
      have e1 : (k * T + t) / T = k := by rw [Nat.mul_comm, Nat.mul_add_div hT, Nat.div_eq_of_lt ht, Nat.add_zero]
      have e2 : (k * T + t) % T = t := by rw [Nat.mul_comm, Nat.mul_add_mod, Nat.mod_eq_of_lt ht]
      rw [if_pos rfl]
      dsimp only
      rw [if_pos ⟨e1, e2⟩]
    · rw [if_neg e]
      dsimp only
      rw [if_neg]
      rintro ⟨e1, e2⟩
      apply e
      rw [← e1, ← e2, Nat.mul_comm]
      exact (Nat.div_add_mod idx T).symm
end
end Go.Proofs.Ytgfcnkfmgpakkaa
