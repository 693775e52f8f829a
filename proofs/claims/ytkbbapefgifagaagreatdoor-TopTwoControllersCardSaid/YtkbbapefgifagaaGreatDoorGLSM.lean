/-
Several texts in one: SiteMath, TreeMath.
-/
import Derived.Test.YtkbbapefgifagaaGreatDoorGMath
/-
Plain: sites, and what a valid one is. No program in sight.
-/
namespace Go.Proofs.YtkbbapefgifagaaGreatDoor
set_option linter.unusedVariables false
set_option linter.unusedSimpArgs false
structure GCon where
  name : ByteArray
  up : Int
  limit : Int
  neutral : Int
  rated : Int
  heat : Int
  amb : Int
  most : Int
  gain : Int
  loss : Int
  den : Int
structure GCtr where
  name : ByteArray
  own : Int
  rank : Int
  card : Int
structure GChg where
  name : ByteArray
  place : Int
  ph : Int
  mn : Int
  mx : Int
  step : Int
  fb : Int
  own : Int
structure GBay where
  name : ByteArray
  chg : Int
structure GSite where
  cons : List GCon
  owns : List ByteArray
  ctrs : List GCtr
  chgs : List GChg
  bays : List GBay
def inside (x lo hi : Int) : Bool := decide (lo ≤ x ∧ x ≤ hi)
theorem inside_iff {x lo hi : Int} : inside x lo hi = true ↔ lo ≤ x ∧ x ≤ hi := by simp [inside]
def okFuse (c : GCon) : Bool := decide ((c.rated = 0 ∧ c.heat = 0) ∨ ((1 ≤ c.rated ∧ c.rated ≤ 1000) ∧ (0 ≤ c.heat ∧ c.heat ≤ 1000000)))
def okCable (c : GCon) : Bool := decide ((c.amb = 0 ∧ c.most = 0 ∧ c.gain = 0 ∧ c.loss = 0 ∧ c.den = 0) ∨
  ((0 ≤ c.amb ∧ c.amb ≤ 200000) ∧ (0 ≤ c.most ∧ c.most ≤ 200000) ∧ (0 ≤ c.gain ∧ c.gain ≤ 1000) ∧ (0 ≤ c.loss ∧ c.loss ≤ 1000) ∧ (1 ≤ c.den ∧ c.den ≤ 1000000) ∧ c.amb < c.most))
def okUp (i : Nat) (up : Int) : Bool := decide ((i = 0 ∧ up = -1) ∨ (0 < i ∧ 0 ≤ up ∧ up < i))
def okCon (i : Nat) (c : GCon) : Bool := okUp i c.up && (inside c.limit 1 1000 && inside c.neutral 1 1000) && okFuse c && okCable c
def okChg (nc no : Nat) (c : GChg) : Bool := decide ((0 ≤ c.place ∧ c.place < nc) ∧ (0 ≤ c.own ∧ c.own < no) ∧ (1 ≤ c.ph ∧ c.ph ≤ 7) ∧ (1 ≤ c.mn ∧ c.mn ≤ 80) ∧ (1 ≤ c.mx ∧ c.mx ≤ 80) ∧ (1 ≤ c.step ∧ c.step ≤ 80) ∧ (0 ≤ c.fb ∧ c.fb ≤ 80) ∧ c.mn ≤ c.mx ∧ (c.fb = 0 ∨ (c.mn ≤ c.fb ∧ c.fb ≤ c.mx)))
def okCtr (no : Nat) (c : GCtr) : Bool := decide ((0 ≤ c.own ∧ c.own < no) ∧ (1 ≤ c.rank ∧ c.rank ≤ 9) ∧ (1 ≤ c.card ∧ c.card ≤ 1000000))
def okBay (nch : Nat) (b : GBay) : Bool := decide (0 ≤ b.chg ∧ b.chg < nch)
/-- The key words, as bytes. -/
def kindL : List (List UInt8) := [[102, 101, 101, 100, 101, 114], [99, 97, 98, 108, 101], [111, 119, 110, 101, 114], [99, 111, 110, 116, 114, 97, 99, 116], [99, 104, 97, 114, 103, 101, 114], [98, 97, 121], [116, 97, 114, 105, 102, 102]]
def attrL : List (List UInt8) := [[108, 105, 109, 105, 116], [110, 101, 117, 116, 114, 97, 108], [102, 117, 115, 101], [116, 104, 101, 114, 109, 97, 108], [102, 114, 111, 109], [97, 116], [112, 104, 97, 115, 101, 115], [97, 109, 112, 115], [102, 97, 108, 108, 98, 97, 99, 107], [111, 119, 110, 101, 114], [99, 97, 114, 100], [114, 97, 110, 107], [99, 104, 97, 114, 103, 101, 114]]
def artL : List (List UInt8) := [[115, 116, 97, 114, 116], [101, 110, 101, 114, 103, 121], [116, 105, 109, 101], [105, 100, 108, 101], [99, 97, 112], [116, 97, 120]]
def wordL : List (List UInt8) := [[111, 110], [119, 111, 114, 107], [115, 97, 116, 117, 114, 100, 97, 121], [115, 117, 110, 100, 97, 121], [98, 101, 116, 119, 101, 101, 110], [112, 101, 114], [102, 114, 101, 101]]
def keyL : List (List UInt8) := kindL ++ attrL ++ artL ++ wordL
/-- How a name is written. -/
def byteAt (s : ByteArray) (i : Nat) : Nat := (s[i]?.getD 0).toNat
def lowN (b : Nat) : Prop := 97 ≤ b ∧ b ≤ 122
def partN (b : Nat) : Prop := (97 ≤ b ∧ b ≤ 122) ∨ (48 ≤ b ∧ b ≤ 57) ∨ b = 95
def okWord (s : ByteArray) : Prop := 1 ≤ s.size ∧ s.size ≤ 12 ∧ lowN (byteAt s 0) ∧ ∀ i, 0 < i → i < s.size → partN (byteAt s i)
noncomputable def okNameB (keys : List (List UInt8)) (s : ByteArray) : Bool := @decide (okWord s ∧ ¬ s.toList ∈ keys) (Classical.propDecidable _)
theorem okNameB_iff {keys : List (List UInt8)} {s : ByteArray} : okNameB keys s = true ↔ (okWord s ∧ ¬ s.toList ∈ keys) := @decide_eq_true_iff _ (Classical.propDecidable _)
theorem okNameB_no {keys : List (List UInt8)} {s : ByteArray} (h : ¬ (okWord s ∧ ¬ s.toList ∈ keys)) : okNameB keys s = false := by
  cases e : okNameB keys s
  · rfl
  · exact absurd (okNameB_iff.1 e) h
def allNames (s : GSite) : List ByteArray := s.cons.map GCon.name ++ s.owns ++ s.ctrs.map GCtr.name ++ s.chgs.map GChg.name ++ s.bays.map GBay.name
/-- All names are right, and none occurs twice. -/
def okNamesP (keys : List (List UInt8)) (l : List ByteArray) : Prop := (∀ x, x ∈ l → okNameB keys x = true) ∧ (l.map (·.toList)).Nodup
structure OkSite (keys : List (List UInt8)) (s : GSite) : Prop where
  n1 : 1 ≤ s.cons.length
  n2 : s.cons.length ≤ 16
  n3 : s.owns.length ≤ 8
  n4 : s.ctrs.length ≤ 32
  n5 : s.chgs.length ≤ 16
  n6 : s.bays.length ≤ 24
  names : okNamesP keys (allNames s)
  con : ∀ i c, s.cons[i]? = some c → okCon i c = true
  ctr : ∀ c, c ∈ s.ctrs → okCtr s.owns.length c = true
  cards : (s.ctrs.map (·.card)).Nodup
  chg : ∀ c, c ∈ s.chgs → okChg s.cons.length s.owns.length c = true
  bay : ∀ b, b ∈ s.bays → okBay s.chgs.length b = true
noncomputable def okSB (keys : List (List UInt8)) (s : GSite) : Bool := @decide (OkSite keys s) (Classical.propDecidable _)
theorem okSB_iff {keys : List (List UInt8)} {s : GSite} : okSB keys s = true ↔ OkSite keys s := @decide_eq_true_iff _ (Classical.propDecidable _)
theorem okSB_no {keys : List (List UInt8)} {s : GSite} (h : ¬ OkSite keys s) : okSB keys s = false := by
  cases e : okSB keys s
  · rfl
  · exact absurd (okSB_iff.1 e) h
end Go.Proofs.YtkbbapefgifagaaGreatDoor
/-
Plain: the way up from a conductor, the loads. No program in sight.
-/
namespace Go.Proofs.YtkbbapefgifagaaGreatDoor
set_option linter.unusedVariables false
set_option linter.unusedSimpArgs false
/-- Up of the conductor at a place. -/
def upAt (cs : List GCon) (i : Nat) : Int := (cs[i]?.map (·.up)).getD (-1)
def OkUps (cs : List GCon) : Prop := ∀ i, i < cs.length → (i = 0 ∧ upAt cs i = -1) ∨ (0 < i ∧ 0 ≤ upAt cs i ∧ upAt cs i < i)
theorem OkSite.ups {keys : List (List UInt8)} {s : GSite} (h : OkSite keys s) : OkUps s.cons := by
  intro i hi
  have hc := h.con i s.cons[i] (List.getElem?_eq_getElem hi)
  unfold okCon at hc
  simp only [Bool.and_eq_true] at hc
  have h1 := hc.1.1.1
  unfold okUp at h1
  simp only [decide_eq_true_eq] at h1
  have e : upAt s.cons i = s.cons[i].up := by unfold upAt; rw [List.getElem?_eq_getElem hi]; rfl
  rw [e]
  exact h1
def pthN (cs : List GCon) : Nat → Int → List Nat
  | 0, _ => []
  | n + 1, c => if c < 0 then [] else c.toNat :: pthN cs n (upAt cs c.toNat)
/-- The conductors from one to the feeder. -/
def pth (cs : List GCon) (c : Int) : List Nat := pthN cs (c.toNat + 1) c
theorem pthN_neg (cs : List GCon) (n : Nat) {c : Int} (h : c < 0) : pthN cs n c = [] := by
  cases n with
  | zero => rfl
  | succ n => show (if c < 0 then _ else _) = _; rw [if_pos h]
theorem pthN_more {cs : List GCon} (hu : OkUps cs) : ∀ {n m : Nat} {c : Int}, c < cs.length → c < n → c < m → pthN cs n c = pthN cs m c
  | 0, m, c, _, h1, _ => by rw [pthN_neg cs 0 (by omega), pthN_neg cs m (by omega)]
  | n + 1, 0, c, _, _, h2 => by rw [pthN_neg cs (n + 1) (by omega), pthN_neg cs 0 (by omega)]
  | n + 1, m + 1, c, hc, h1, h2 => by
    show (if c < 0 then _ else _) = (if c < 0 then _ else _)
    by_cases h0 : c < 0
    · rw [if_pos h0, if_pos h0]
    · rw [if_neg h0, if_neg h0]
      congr 1
      have h := hu c.toNat (by omega)
      exact pthN_more hu (by omega) (by omega) (by omega)
theorem pth_neg (cs : List GCon) {c : Int} (h : c < 0) : pth cs c = [] := pthN_neg cs _ h
theorem pth_cons {cs : List GCon} (hu : OkUps cs) {c : Nat} (h1 : c < cs.length) : pth cs (c : Int) = c :: pth cs (upAt cs c) := by
  show (if (c : Int) < 0 then [] else (c : Int).toNat :: pthN cs (c : Int).toNat (upAt cs (c : Int).toNat)) = c :: pth cs (upAt cs c)
  rw [if_neg (by omega), Int.toNat_natCast]
  congr 1
  have h := hu c h1
  exact pthN_more hu (by omega) (by omega) (by omega)
end Go.Proofs.YtkbbapefgifagaaGreatDoor
