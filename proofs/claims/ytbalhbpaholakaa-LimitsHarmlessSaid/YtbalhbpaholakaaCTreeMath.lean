/-
Plain: the way up from a conductor, the loads. No program in sight.
-/
import Derived.Test.YtbalhbpaholakaaCSiteMath
import Derived.Test.YtbalhbpaholakaaGMath
namespace Go.Proofs.Ytbalhbpaholakaa
set_option linter.unusedVariables false
set_option linter.unusedSimpArgs false
/-- Up of the conductor at a place. -/
def upAt (cs : List GCon) (i : Nat) : Int := (cs[i]?.map (·.up)).getD (-1)
def OkUps (cs : List GCon) : Prop := ∀ i, i < cs.length → (i = 0 ∧ upAt cs i = -1) ∨ (0 < i ∧ 0 ≤ upAt cs i ∧ upAt cs i < i)
theorem OkSite.ups {keys : List (List UInt8)} {s : GSite} (h : OkSite keys s) : OkUps s.cons := by
  intro i hi
  have hc := h.con i s.cons[i] (List.getElem?_eq_getElem hi)
  unfold okCon at hc
  simp only [Bool.and_eq_true] at hc
  have h1 := hc.1.1.1
  unfold okUp at h1
  simp only [decide_eq_true_eq] at h1
  have e : upAt s.cons i = s.cons[i].up := by unfold upAt; rw [List.getElem?_eq_getElem hi]; rfl
  rw [e]
  exact h1
def pthN (cs : List GCon) : Nat → Int → List Nat
  | 0, _ => []
  | n + 1, c => if c < 0 then [] else c.toNat :: pthN cs n (upAt cs c.toNat)
/-- The conductors from one to the feeder. -/
def pth (cs : List GCon) (c : Int) : List Nat := pthN cs (c.toNat + 1) c
theorem pthN_neg (cs : List GCon) (n : Nat) {c : Int} (h : c < 0) : pthN cs n c = [] := by
  cases n with
  | zero => rfl
  | succ n => show (if c < 0 then _ else _) = _; rw [if_pos h]
theorem pthN_more {cs : List GCon} (hu : OkUps cs) : ∀ {n m : Nat} {c : Int}, c < cs.length → c < n → c < m → pthN cs n c = pthN cs m c
  | 0, m, c, _, h1, _ => by rw [pthN_neg cs 0 (by omega), pthN_neg cs m (by omega)]
  | n + 1, 0, c, _, _, h2 => by rw [pthN_neg cs (n + 1) (by omega), pthN_neg cs 0 (by omega)]
  | n + 1, m + 1, c, hc, h1, h2 => by
    show (if c < 0 then _ else _) = (if c < 0 then _ else _)
    by_cases h0 : c < 0
    · rw [if_pos h0, if_pos h0]
    · rw [if_neg h0, if_neg h0]
      congr 1
      have h := hu c.toNat (by omega)
      exact pthN_more hu (by omega) (by omega) (by omega)
theorem pth_neg (cs : List GCon) {c : Int} (h : c < 0) : pth cs c = [] := pthN_neg cs _ h
theorem pth_cons {cs : List GCon} (hu : OkUps cs) {c : Nat} (h1 : c < cs.length) : pth cs (c : Int) = c :: pth cs (upAt cs c) := by
  show (if (c : Int) < 0 then [] else (c : Int).toNat :: pthN cs (c : Int).toNat (upAt cs (c : Int).toNat)) = c :: pth cs (upAt cs c)
  rw [if_neg (by omega), Int.toNat_natCast]
  congr 1
  have h := hu c h1
  exact pthN_more hu (by omega) (by omega) (by omega)
theorem pth_zero {cs : List GCon} (hu : OkUps cs) (h : 0 < cs.length) : pth cs 0 = [0] := by
  have e := pth_cons hu (c := 0) h
  have h0 := hu 0 h
  rw [show ((0 : Nat) : Int) = 0 from rfl] at e
  rw [e, pth_neg cs (by omega)]
/-- By the length of the way. -/
theorem pth_ind {cs : List GCon} (hu : OkUps cs) {M : Nat → Prop} (h0 : 0 < cs.length → M 0) (hs : ∀ (c u : Nat), c < cs.length → u < c → upAt cs c = (u : Int) → M u → M c) : ∀ (c : Nat), c < cs.length → M c := by
  intro c
  induction c using Nat.strongRecOn with
  | ind c ih =>
    intro hc
    rcases hu c hc with ⟨rfl, _⟩ | ⟨h1, h2, h3⟩
    · exact h0 hc
    · exact hs c (upAt cs c).toNat hc (by omega) (by omega) (ih _ (by omega) (by omega))
theorem pth_step {cs : List GCon} (hu : OkUps cs) {c u : Nat} (hc : c < cs.length) (h : upAt cs c = (u : Int)) : pth cs (c : Int) = c :: pth cs (u : Int) := by rw [pth_cons hu hc, h]
theorem pth_le {cs : List GCon} (hu : OkUps cs) : ∀ (c : Nat), c < cs.length → ∀ x, x ∈ pth cs (c : Int) → x ≤ c :=
  pth_ind hu (fun h x hx => by rw [show ((0 : Nat) : Int) = 0 from rfl, pth_zero hu h] at hx; simp at hx; omega) (fun c u hc hlt hup ih x hx => by
    rw [pth_step hu hc hup] at hx
    rcases List.mem_cons.1 hx with e | e
    · omega
    · have := ih x e; omega)
theorem pth_desc {cs : List GCon} (hu : OkUps cs) : ∀ (c : Nat), c < cs.length → (pth cs (c : Int)).Pairwise (fun a b => b < a) :=
  pth_ind hu (fun h => by rw [show ((0 : Nat) : Int) = 0 from rfl, pth_zero hu h]; simp) (fun c u hc hlt hup ih => by
    rw [pth_step hu hc hup, List.pairwise_cons]
    exact ⟨fun x hx => by have := pth_le hu u (by omega) x hx; omega, ih⟩)
theorem pth_nodup {cs : List GCon} (hu : OkUps cs) {c : Nat} (hc : c < cs.length) : (pth cs (c : Int)).Nodup := (pth_desc hu c hc).imp (fun {a b} h e => by omega)
theorem pth_len {cs : List GCon} (hu : OkUps cs) : ∀ (c : Nat), c < cs.length → (pth cs (c : Int)).length ≤ c + 1 :=
  pth_ind hu (fun h => by rw [show ((0 : Nat) : Int) = 0 from rfl, pth_zero hu h]; simp) (fun c u hc hlt hup ih => by
    rw [pth_step hu hc hup, List.length_cons]; omega)
theorem pth_root {cs : List GCon} (hu : OkUps cs) : ∀ (c : Nat), c < cs.length → (pth cs (c : Int)).getLast? = some 0 :=
  pth_ind hu (fun h => by rw [show ((0 : Nat) : Int) = 0 from rfl, pth_zero hu h]; rfl) (fun c u hc hlt hup ih => by
    rw [pth_step hu hc hup, List.getLast?_cons, ih]
    rfl)
/-- Neighbours on the way. -/
theorem pth_next {cs : List GCon} (hu : OkUps cs) : ∀ (c : Nat), c < cs.length → ∀ (i a b : Nat), (pth cs (c : Int))[i]? = some a → (pth cs (c : Int))[i + 1]? = some b → upAt cs a = (b : Int) ∧ b < a :=
  pth_ind hu (fun h i a b h1 h2 => by rw [show ((0 : Nat) : Int) = 0 from rfl, pth_zero hu h] at h2; simp at h2) (fun c u hc hlt hup ih i a b h1 h2 => by
    rw [pth_step hu hc hup] at h1 h2
    cases i with
    | zero =>
      simp at h1
      subst h1
      rw [Nat.zero_add, List.getElem?_cons_succ] at h2
      have hp := pth_cons hu (c := u) (by omega)
      rw [hp] at h2
      simp at h2
      subst h2
      exact ⟨hup, hlt⟩
    | succ i =>
      rw [List.getElem?_cons_succ] at h1 h2
      exact ih i a b h1 h2)
/-- A phase is one of a charger's. -/
def usesP (ph : Int) (p : Nat) : Prop := (ph / (2 ^ p : Nat)) % 2 = 1
end Go.Proofs.Ytbalhbpaholakaa
