/-
Several texts in one: HarmMath, HarmB, HarmC, HarmA, HarmD, HarmE.
-/
import Derived.Test.YtbjmpfchapggfaaGLLimA
import Derived.Test.YtbjmpfchapggfaaGLLimD
import Derived.Test.YtbjmpfchapggfaaGLLimG
import Derived.Test.YtbjmpfchapggfaaGBase
import Derived.Laws.EntriesVeiled
import Derived.Test.YtbjmpfchapggfaaGLOpen
import Derived.Test.YtbjmpfchapggfaaGLPrA
/-
Plain: the neutral conductor, the warming of a cable.
-/
namespace Go.Proofs.Ytbjmpfchapggfaa
set_option linter.unusedVariables false
set_option linter.unusedSimpArgs false
def twoN (a b c : Int) : Int := (a - b) * (a - b) + (b - c) * (b - c) + (c - a) * (c - a)
theorem sq_core {u v m : Int} (hu : 0 ≤ u) (hv : 0 ≤ v) (h : u + v ≤ m) : u * u + v * v + (u + v) * (u + v) ≤ 2 * (m * m) := by
  have h1 : 0 ≤ u * v := Int.mul_nonneg hu hv
  have h2 : (u + v) * (u + v) ≤ m * m := Int.mul_le_mul h h (by omega) (by omega)
  have h3 : (u + v) * (u + v) = u * u + v * v + 2 * (u * v) := by
    rw [Int.add_mul, Int.mul_add, Int.mul_add, Int.mul_comm v u]
    omega
  omega
theorem twoN_le {a b c m : Int} (ha : 0 ≤ a ∧ a ≤ m) (hb : 0 ≤ b ∧ b ≤ m) (hc : 0 ≤ c ∧ c ≤ m) : twoN a b c ≤ 2 * (m * m) := by
  unfold twoN
  rcases Int.le_total b a with h1 | h1 <;> rcases Int.le_total c b with h2 | h2 <;> rcases Int.le_total c a with h3 | h3
  · have h := sq_core (u := a - b) (v := b - c) (m := m) (by omega) (by omega) (by omega)
    rw [show c - a = -((a - b) + (b - c)) by omega, Int.neg_mul_neg]
    exact h
  · have e : c = a := by omega
    have e2 : b = a := by omega
    subst e e2
    have h := sq_core (u := 0) (v := 0) (m := m) (by omega) (by omega) (by omega)
    simp at h ⊢
    omega
  · have h := sq_core (u := a - c) (v := c - b) (m := m) (by omega) (by omega) (by omega)
    rw [show a - b = (a - c) + (c - b) by omega, show b - c = -(c - b) by omega, show c - a = -(a - c) by omega, Int.neg_mul_neg, Int.neg_mul_neg]
    omega
  · have h := sq_core (u := c - a) (v := a - b) (m := m) (by omega) (by omega) (by omega)
    rw [show b - c = -((c - a) + (a - b)) by omega, Int.neg_mul_neg]
    omega
  · have h := sq_core (u := b - a) (v := a - c) (m := m) (by omega) (by omega) (by omega)
    rw [show b - c = (b - a) + (a - c) by omega, show a - b = -(b - a) by omega, show c - a = -(a - c) by omega, Int.neg_mul_neg, Int.neg_mul_neg]
    omega
  · have h := sq_core (u := b - c) (v := c - a) (m := m) (by omega) (by omega) (by omega)
    rw [show a - b = -((b - c) + (c - a)) by omega, Int.neg_mul_neg]
    omega
  · have e : c = a := by omega
    have e2 : b = a := by omega
    subst e e2
    have h := sq_core (u := 0) (v := 0) (m := m) (by omega) (by omega) (by omega)
    simp at h ⊢
    omega
  · have h := sq_core (u := c - b) (v := b - a) (m := m) (by omega) (by omega) (by omega)
    rw [show c - a = (c - b) + (b - a) by omega, show a - b = -(b - a) by omega, show b - c = -(c - b) by omega, Int.neg_mul_neg, Int.neg_mul_neg]
    omega
/-- Division, rounded up. -/
def upV (n d : Int) : Int := if 0 < n.tmod d then n.tdiv d + 1 else n.tdiv d
theorem upV_le {n d k : Int} (hd : 0 < d) (hk : 0 ≤ k) (h : n ≤ d * k) : upV n d ≤ k := by
  have e := Int.mul_tdiv_add_tmod n d
  unfold upV
  by_cases hn : 0 ≤ n
  · have h1 := Int.tmod_nonneg d hn
    by_cases hr : 0 < n.tmod d
    · rw [if_pos hr]
      have : d * n.tdiv d < d * k := by omega
      have := Int.lt_of_mul_lt_mul_left this (by omega)
      omega
    · rw [if_neg hr]
      have : d * n.tdiv d ≤ d * k := by omega
      exact Int.le_of_mul_le_mul_left this hd
  · have h1 : n.tmod d ≤ 0 := by
      have := Int.tmod_nonneg d (show 0 ≤ -n by omega)
      rw [Int.neg_tmod] at this
      omega
    have h2 : n.tdiv d ≤ 0 := by
      have := Int.tdiv_nonneg (show 0 ≤ -n by omega) (show 0 ≤ d by omega)
      rw [Int.neg_tdiv] at this
      omega
    rw [if_neg (by omega)]
    omega
theorem upV_ge {n d k : Int} (hd : 0 < d) (hk : 0 ≤ k) (h : -(d * k) ≤ n) : -k ≤ upV n d := by
  have e := Int.mul_tdiv_add_tmod n d
  unfold upV
  by_cases hn : 0 ≤ n
  · have h2 := Int.tdiv_nonneg hn (show 0 ≤ d by omega)
    split <;> omega
  · have h1 : n.tmod d ≤ 0 := by
      have := Int.tmod_nonneg d (show 0 ≤ -n by omega)
      rw [Int.neg_tmod] at this
      omega
    rw [if_neg (by omega)]
    have : d * (-k) ≤ d * n.tdiv d := by rw [Int.mul_neg]; omega
    exact Int.le_of_mul_le_mul_left this hd
/-- The temperature stays between Ambient and Most. -/
theorem warm_step {c : GCon} {a now : Int} (hl : 0 ≤ c.loss) (hd : 1 ≤ c.den) (hg : 0 ≤ c.gain) (ha : 0 ≤ a) (hok : c.gain * a * a ≤ roomC c) (h1 : c.amb ≤ now) (h2 : now ≤ c.most) :
    c.amb ≤ now + upV (c.gain * a * a - min c.loss c.den * (now - c.amb)) c.den ∧ now + upV (c.gain * a * a - min c.loss c.den * (now - c.amb)) c.den ≤ c.most := by
  have hq : 0 ≤ c.gain * a * a := Int.mul_nonneg (Int.mul_nonneg hg ha) ha
  unfold roomC at hok
  generalize c.gain * a * a = q at *
  generalize hL : min c.loss c.den = l at *
  have hl0 : 0 ≤ l := by omega
  have hld : l ≤ c.den := by omega
  constructor
  · have h3 : l * (now - c.amb) ≤ c.den * (now - c.amb) := Int.mul_le_mul_of_nonneg_right hld (by omega)
    have h4 := upV_ge (n := q - l * (now - c.amb)) (d := c.den) (k := now - c.amb) (by omega) (by omega) (by omega)
    omega
  · have h3 : l * (c.most - now) ≤ c.den * (c.most - now) := Int.mul_le_mul_of_nonneg_right hld (by omega)
    have h5 : l * (c.most - c.amb) = l * (c.most - now) + l * (now - c.amb) := by rw [← Int.mul_add]; congr 1; omega
    have h4 := upV_le (n := q - l * (now - c.amb)) (d := c.den) (k := c.most - now) (by omega) (by omega) (by omega)
    omega
end Go.Proofs.Ytbjmpfchapggfaa
/-
fuse.Melts: a fuse that does not melt.
-/
namespace Go.Proofs.Ytbjmpfchapggfaa
open Go.RowKit Go.Shelf
set_option linter.unusedVariables false
set_option linter.unusedSimpArgs false
theorem setCell_same {w : World} {b i : Nat} {v : Value} {cs : Array Value} {t : TypeId} {fr : Nat × Nat} (h : w.heap[b]? = some (.cells cs t fr)) (hc : cs[i]? = some v) : w.setCell ⟨b, i, none⟩ v = w := by
  obtain ⟨heap, tape, drawn, os, output⟩ := w
  unfold World.setCell
  dsimp only at h ⊢
  congr 1
  apply Array.ext_getElem?
  intro k
  rw [Array.getElem?_modify]
  by_cases e : b = k
  · subst e
    rw [if_pos rfl, h]
    show some (Obj.cells (if (none : Option _).isSome = true then cs else cs.setIfInBounds i v) t fr) = _
    rw [if_neg (by simp)]
    congr 2
    apply Array.ext_getElem?
    intro j
    rw [Array.getElem?_setIfInBounds]
    by_cases e2 : i = j
    · subst e2
      rw [if_pos rfl]
      have := (Array.getElem?_eq_some_iff.1 hc).1
      rw [if_pos this, hc]
    · rw [if_neg e2]
  · rw [if_neg e]
theorem Own.set_same {w : World} {g : Nat} {t : TypeId} {n : Nat} {f : Nat → Value} (h : Own w g t n f) {i : Nat} (hi : i < n) {v : Value} (hv : f i = v) : w.setCell ⟨g, i, none⟩ v = w := by
  obtain ⟨cs, hb, hs, hc⟩ := h
  exact setCell_same hb (by rw [hc i hi, hv])
theorem grown_noneH {A B : World} (h : Below A.heap.size A B) : A.grownBy B none := ⟨h.os, h.tape, h.output, h.size, fun i hi _ => h.block i hi⟩
theorem eq_fuse (a m : Int) (W : World) : (Op.equalIn 10000 61 (.agg #[.int .i64 a, .int .i64 m]) (.agg #[.int .i64 0, .int .i64 0])).run Try.prog W = .ok (decide (a = 0 ∧ m = 0)) W := by
  go_simp
  by_cases h0 : a = 0 <;> by_cases h1 : m = 0 <;> simp [h0, h1]
end Go.Proofs.Ytbjmpfchapggfaa
/-
fuse.Melts: a fuse that does not melt.
-/
namespace Go.Proofs.Ytbjmpfchapggfaa
open Go.RowKit Go.Shelf
attribute [local go_sem] Oper.semAt_some
set_option linter.unusedVariables false
set_option linter.unusedSimpArgs false
theorem results_c2 {P : Program} {fn : Func} {a b : Tmp} {ta tb : TypeId} {tmps : Array Value} {ba bb : Nat} {u v : Value} {w : World} (h : fn.results = #[.cell a ta, .cell b tb]) (ha : tmps.getD a undef = .pointer (some ⟨ba, 0, none⟩)) (hb : tmps.getD b undef = .pointer (some ⟨bb, 0, none⟩))
    (hla : (loadVar ta ⟨ba, 0, none⟩).run P w = .ok u w) (hlb : (loadVar tb ⟨bb, 0, none⟩).run P w = .ok v w) :
    (results fn tmps).run P w = .ok (.tuple #[u, v]) w := by
  have ha' : tmps[a]?.getD undef = .pointer (some ⟨ba, 0, none⟩) := by simpa using ha
  have hb' : tmps[b]?.getD undef = .pointer (some ⟨bb, 0, none⟩) := by simpa using hb
  simp [results, h, ha', hb', hla, hlb, asAddr]
theorem load_intH {W : World} {b : Nat} {v : Int} (h : Own W b 3 1 (fun _ => .int .i64 v)) : (loadVar 3 ⟨b, 0, none⟩).run Try.prog W = .ok (.int .i64 v) W := by
  have c0 : W.cell? ⟨b, 0, none⟩ = some (.int .i64 v) := h.cell (i := 0) (by omega)
  go_simp
theorem Own.takenH {w w' : World} {g : Nat} {t : TypeId} {n : Nat} {f : Nat → Value} {B : Nat} (h : Own w g t n f) (hT : Taken B w w') : Own w' g t n f := by
  obtain ⟨cs, hb, hs, hc⟩ := h
  exact ⟨cs, hT.2.2.2.2.2 g _ hb rfl, hs, hc⟩
end Go.Proofs.Ytbjmpfchapggfaa
/-
phases.Neutral.
-/
namespace Go.Proofs.Ytbjmpfchapggfaa
open Go.RowKit
set_option linter.unusedVariables false
set_option linter.unusedSimpArgs false
def sqL (xs : List Int) : Nat → Int
  | 0 => 0
  | k + 1 => sqL xs k + fI xs k * fI xs k
theorem sq_bd {x : Int} (h : -1000 ≤ x ∧ x ≤ 1000) : 0 ≤ x * x ∧ x * x ≤ 1000000 := by
  rcases Int.le_total 0 x with h1 | h1
  · exact ⟨Int.mul_nonneg h1 h1, Int.mul_le_mul h.2 h.2 h1 (by omega)⟩
  · have e : x * x = (-x) * (-x) := (Int.neg_mul_neg x x).symm
    rw [e]
    have h2 : (-x) * (-x) ≤ 1000 * 1000 := Int.mul_le_mul (by omega) (by omega) (by omega) (by omega)
    exact ⟨Int.mul_nonneg (by omega) (by omega), by omega⟩
theorem sqL_bd {xs : List Int} {n : Nat} (h : ∀ i, i < n → -1000 ≤ fI xs i ∧ fI xs i ≤ 1000) : ∀ k : Nat, k ≤ n → 0 ≤ sqL xs k ∧ sqL xs k ≤ k * 1000000
  | 0, _ => by simp [sqL]
  | k + 1, hk => by
    have h1 := sqL_bd h k (by omega)
    have h2 := sq_bd (h k (by omega))
    unfold sqL
    omega
end Go.Proofs.Ytbjmpfchapggfaa
/-
cable.Hot: a cable that does not get too warm.
-/
namespace Go.Proofs.Ytbjmpfchapggfaa
open Go.RowKit
set_option linter.unusedVariables false
set_option linter.unusedSimpArgs false
end Go.Proofs.Ytbjmpfchapggfaa
/-
LimitsHarmless, walked.
-/
namespace Go.Proofs.Ytbjmpfchapggfaa
open Go.RowKit
set_option linter.unusedVariables false
set_option linter.unusedSimpArgs false
theorem Own.threeT (w : World) (t : TypeId) (x y z : Int) : Own (w.alloc (.cells #[.int .i64 x, .int .i64 y, .int .i64 z] t)) w.heap.size t 3 (v3F x y z) := Own.newAt w t _ w.heap.size rfl rfl (fun i hi => by match i, hi with | 0, _ => rfl | 1, _ => rfl | 2, _ => rfl)
theorem Own.set3T {w : World} {g : Nat} {t : TypeId} {a b c : Int} (h : Own w g t 3 (v3F a b c)) (x y z : Int) : Own (((w.setCell ⟨g, 0, none⟩ (.int .i64 x)).setCell ⟨g, 1, none⟩ (.int .i64 y)).setCell ⟨g, 2, none⟩ (.int .i64 z)) g t 3 (v3F x y z) :=
  (((h.set 0 _).set 1 _).set 2 _).congr (fun i hi => by match i, hi with | 0, _ => rfl | 1, _ => rfl | 2, _ => rfl)
/-- The load of conductor c on phase p in tick i. -/
noncomputable def ldF (s : GSite) (qs : List (List Int)) (c i p : Nat) : Int := loadS s (fI (qs[i]?.getD [])) s.chgs.length (c * 3 + p)
noncomputable def phK (s : GSite) (qs : List (List Int)) (c p k : Nat) : List Int := (List.range k).map (fun i => ldF s qs c i p)
noncomputable def anK (s : GSite) (qs : List (List Int)) (c : Nat) (ch : Nat → Nat) (k : Nat) : List Int := (List.range k).map (fun i => ldF s qs c i (ch i))
theorem phK_succ (s qs) (c p k : Nat) : phK s qs c p (k + 1) = phK s qs c p k ++ [ldF s qs c k p] := by unfold phK; rw [List.range_succ, List.map_append]; rfl
theorem anK_succ (s qs) (c : Nat) (ch : Nat → Nat) (k : Nat) : anK s qs c ch (k + 1) = anK s qs c ch k ++ [ldF s qs c k (ch k)] := by unfold anK; rw [List.range_succ, List.map_append]; rfl
theorem phK_len (s qs) (c p k : Nat) : (phK s qs c p k).length = k := by unfold phK; simp
theorem anK_len (s qs) (c : Nat) (ch : Nat → Nat) (k : Nat) : (anK s qs c ch k).length = k := by unfold anK; simp
theorem phK_at (s qs) (c p : Nat) {k i : Nat} (hi : i < k) : fI (phK s qs c p k) i = ldF s qs c i p := by unfold phK fI; rw [List.getElem?_map, List.getElem?_range hi]; rfl
theorem anK_at (s qs) (c : Nat) (ch : Nat → Nat) {k i : Nat} (hi : i < k) : fI (anK s qs c ch k) i = ldF s qs c i (ch i) := by unfold anK fI; rw [List.getElem?_map, List.getElem?_range hi]; rfl
/-- What is at most the limit of a conductor does no harm. -/
theorem harm_c {c : GCon} (hc : OkC c) {x : Int} (h0 : 0 ≤ x) (h : x ≤ limV c) : x ≤ c.limit ∧ x ≤ c.neutral ∧ x ≤ 1000 ∧ (c.rated = 0 ∨ x ≤ c.rated) ∧ (zC c = true ∨ c.gain * x * x ≤ roomC c) := by
  obtain ⟨h1, h2, h3, h4⟩ := limV_limit c
  have hl := hc.lim
  refine ⟨by omega, by omega, by omega, ?_, ?_⟩
  · by_cases e : c.rated = 0
    · exact .inl e
    · have := h4 e; exact .inr (by omega)
  · cases hz : zC c
    · right
      obtain ⟨r1, r2, g1, g2⟩ := hc.room hz
      have hp : permV c = (grN c.gain (roomC c) 1000 : Nat) := by unfold permV; rw [hz]; rfl
      have hk := grN_ok (gain := c.gain) r1 1000
      have hd := okAm_down g1 (m := x.toNat) (n := grN c.gain (roomC c) 1000) (by omega) hk
      unfold okAm at hd
      simp only [decide_eq_true_eq] at hd
      rw [show ((x.toNat : Nat) : Int) = x by omega] at hd
      exact hd
    · exact .inl rfl
theorem ldF_bd {s : GSite} {qs : List (List Int)} {i : Nat} {q : List Int} (hq : qs[i]? = some q) (hb : loadB s q = true) (hv : vioO s q = none) {c p : Nat} (hc : c < s.cons.length) (hp : p < 3) : 0 ≤ ldF s qs c i p ∧ ldF s qs c i p ≤ limAt s c := by
  unfold ldF
  rw [hq]
  refine ⟨(loadS_bd (fun i _ => (cur_bd hb).2 i) _).1, chk_none hb hv hc hp⟩
theorem ownL_ne {W : World} {base L n : Nat} {v : Value} {xs : List Int} {t : TypeId} {f : Nat → Value} (h : OwnL W base v xs) (ho : Own W L t n f) (ht : t ≠ 3) : v.ownBlock ≠ some L := by
  intro e
  rcases h.2 with ⟨h1, _⟩ | ⟨g, cap, cur, hv, _, hg, _⟩
  · rw [h1] at e; cases e
  · rw [hv] at e
    injection e with e
    dsimp only at e
    subst e
    obtain ⟨cs, hb, _⟩ := ho
    rw [hg] at hb
    injection hb with hb
    injection hb with _ h2 _
    exact ht h2.symm
theorem own_ne {W : World} {L Z n m : Nat} {t u : TypeId} {f g : Nat → Value} (h : Own W L t n f) (k : Own W Z u m g) (ht : t ≠ u) : L ≠ Z := by
  rintro rfl
  obtain ⟨cs, h1, _⟩ := h
  obtain ⟨ds, h2, _⟩ := k
  rw [h1] at h2
  injection h2 with h2
  injection h2 with _ h3 _
  exact ht h3
def conF (g : GCon) (i : Nat) : Value := ((encCon g)[i]?).getD undef
theorem conF_new (W : World) (g : GCon) : Own (W.alloc (.cells #[.string g.name, .int .i64 g.up, .int .i64 g.limit, .int .i64 g.neutral, .int .i64 g.rated, .int .i64 g.heat, .int .i64 g.amb, .int .i64 g.most, .int .i64 g.gain, .int .i64 g.loss, .int .i64 g.den] 65)) W.heap.size 65 11 (conF g) :=
  Own.newAt W 65 _ W.heap.size rfl rfl (fun i hi => by
    match i, hi with
    | 0, _ => rfl
    | 1, _ => rfl
    | 2, _ => rfl
    | 3, _ => rfl
    | 4, _ => rfl
    | 5, _ => rfl
    | 6, _ => rfl
    | 7, _ => rfl
    | 8, _ => rfl
    | 9, _ => rfl
    | 10, _ => rfl)
def chF (nB : Nat) (bs : List Int) (i : Nat) : Nat := (if i < nB then (fI bs i).toNat else i) % 3
noncomputable def midL (s : GSite) (qs : List (List Int)) (c i p q : Nat) : List Int := if q < p then phK s qs c q (i + 1) else phK s qs c q i
end Go.Proofs.Ytbjmpfchapggfaa
