/-
Plain: sites, and what a valid one is. No program in sight.
-/
namespace Go.Proofs.Ytbalhbpaholakaa
set_option linter.unusedVariables false
set_option linter.unusedSimpArgs false
structure GCon where
  name : ByteArray
  up : Int
  limit : Int
  neutral : Int
  rated : Int
  heat : Int
  amb : Int
  most : Int
  gain : Int
  loss : Int
  den : Int
structure GCtr where
  name : ByteArray
  own : Int
  rank : Int
  card : Int
structure GChg where
  name : ByteArray
  place : Int
  ph : Int
  mn : Int
  mx : Int
  step : Int
  fb : Int
  own : Int
structure GBay where
  name : ByteArray
  chg : Int
structure GSite where
  cons : List GCon
  owns : List ByteArray
  ctrs : List GCtr
  chgs : List GChg
  bays : List GBay
def inside (x lo hi : Int) : Bool := decide (lo ≤ x ∧ x ≤ hi)
theorem inside_iff {x lo hi : Int} : inside x lo hi = true ↔ lo ≤ x ∧ x ≤ hi := by simp [inside]
def okFuse (c : GCon) : Bool := decide ((c.rated = 0 ∧ c.heat = 0) ∨ ((1 ≤ c.rated ∧ c.rated ≤ 1000) ∧ (0 ≤ c.heat ∧ c.heat ≤ 1000000)))
def okCable (c : GCon) : Bool := decide ((c.amb = 0 ∧ c.most = 0 ∧ c.gain = 0 ∧ c.loss = 0 ∧ c.den = 0) ∨
  ((0 ≤ c.amb ∧ c.amb ≤ 200000) ∧ (0 ≤ c.most ∧ c.most ≤ 200000) ∧ (0 ≤ c.gain ∧ c.gain ≤ 1000) ∧ (0 ≤ c.loss ∧ c.loss ≤ 1000) ∧ (1 ≤ c.den ∧ c.den ≤ 1000000) ∧ c.amb < c.most))
def okUp (i : Nat) (up : Int) : Bool := decide ((i = 0 ∧ up = -1) ∨ (0 < i ∧ 0 ≤ up ∧ up < i))
def okCon (i : Nat) (c : GCon) : Bool := okUp i c.up && (inside c.limit 1 1000 && inside c.neutral 1 1000) && okFuse c && okCable c
def okChg (nc no : Nat) (c : GChg) : Bool := decide ((0 ≤ c.place ∧ c.place < nc) ∧ (0 ≤ c.own ∧ c.own < no) ∧ (1 ≤ c.ph ∧ c.ph ≤ 7) ∧ (1 ≤ c.mn ∧ c.mn ≤ 80) ∧ (1 ≤ c.mx ∧ c.mx ≤ 80) ∧ (1 ≤ c.step ∧ c.step ≤ 80) ∧ (0 ≤ c.fb ∧ c.fb ≤ 80) ∧ c.mn ≤ c.mx ∧ (c.fb = 0 ∨ (c.mn ≤ c.fb ∧ c.fb ≤ c.mx)))
def okCtr (no : Nat) (c : GCtr) : Bool := decide ((0 ≤ c.own ∧ c.own < no) ∧ (1 ≤ c.rank ∧ c.rank ≤ 9) ∧ (1 ≤ c.card ∧ c.card ≤ 1000000))
def okBay (nch : Nat) (b : GBay) : Bool := decide (0 ≤ b.chg ∧ b.chg < nch)
/-- The key words, as bytes. -/
def kindL : List (List UInt8) := [[102, 101, 101, 100, 101, 114], [99, 97, 98, 108, 101], [111, 119, 110, 101, 114], [99, 111, 110, 116, 114, 97, 99, 116], [99, 104, 97, 114, 103, 101, 114], [98, 97, 121], [116, 97, 114, 105, 102, 102]]
def attrL : List (List UInt8) := [[108, 105, 109, 105, 116], [110, 101, 117, 116, 114, 97, 108], [102, 117, 115, 101], [116, 104, 101, 114, 109, 97, 108], [102, 114, 111, 109], [97, 116], [112, 104, 97, 115, 101, 115], [97, 109, 112, 115], [102, 97, 108, 108, 98, 97, 99, 107], [111, 119, 110, 101, 114], [99, 97, 114, 100], [114, 97, 110, 107], [99, 104, 97, 114, 103, 101, 114]]
def artL : List (List UInt8) := [[115, 116, 97, 114, 116], [101, 110, 101, 114, 103, 121], [116, 105, 109, 101], [105, 100, 108, 101], [99, 97, 112], [116, 97, 120]]
def wordL : List (List UInt8) := [[111, 110], [119, 111, 114, 107], [115, 97, 116, 117, 114, 100, 97, 121], [115, 117, 110, 100, 97, 121], [98, 101, 116, 119, 101, 101, 110], [112, 101, 114], [102, 114, 101, 101]]
def keyL : List (List UInt8) := kindL ++ attrL ++ artL ++ wordL
/-- How a name is written. -/
def byteAt (s : ByteArray) (i : Nat) : Nat := (s[i]?.getD 0).toNat
def lowN (b : Nat) : Prop := 97 ≤ b ∧ b ≤ 122
def partN (b : Nat) : Prop := (97 ≤ b ∧ b ≤ 122) ∨ (48 ≤ b ∧ b ≤ 57) ∨ b = 95
def okWord (s : ByteArray) : Prop := 1 ≤ s.size ∧ s.size ≤ 12 ∧ lowN (byteAt s 0) ∧ ∀ i, 0 < i → i < s.size → partN (byteAt s i)
noncomputable def okNameB (keys : List (List UInt8)) (s : ByteArray) : Bool := @decide (okWord s ∧ ¬ s.toList ∈ keys) (Classical.propDecidable _)
theorem okNameB_iff {keys : List (List UInt8)} {s : ByteArray} : okNameB keys s = true ↔ (okWord s ∧ ¬ s.toList ∈ keys) := @decide_eq_true_iff _ (Classical.propDecidable _)
theorem okNameB_no {keys : List (List UInt8)} {s : ByteArray} (h : ¬ (okWord s ∧ ¬ s.toList ∈ keys)) : okNameB keys s = false := by
  cases e : okNameB keys s
  · rfl
  · exact absurd (okNameB_iff.1 e) h
def allNames (s : GSite) : List ByteArray := s.cons.map GCon.name ++ s.owns ++ s.ctrs.map GCtr.name ++ s.chgs.map GChg.name ++ s.bays.map GBay.name
/-- All names are right, and none occurs twice. -/
def okNamesP (keys : List (List UInt8)) (l : List ByteArray) : Prop := (∀ x, x ∈ l → okNameB keys x = true) ∧ (l.map (·.toList)).Nodup
structure OkSite (keys : List (List UInt8)) (s : GSite) : Prop where
  n1 : 1 ≤ s.cons.length
  n2 : s.cons.length ≤ 16
  n3 : s.owns.length ≤ 8
  n4 : s.ctrs.length ≤ 32
  n5 : s.chgs.length ≤ 16
  n6 : s.bays.length ≤ 24
  names : okNamesP keys (allNames s)
  con : ∀ i c, s.cons[i]? = some c → okCon i c = true
  ctr : ∀ c, c ∈ s.ctrs → okCtr s.owns.length c = true
  cards : (s.ctrs.map (·.card)).Nodup
  chg : ∀ c, c ∈ s.chgs → okChg s.cons.length s.owns.length c = true
  bay : ∀ b, b ∈ s.bays → okBay s.chgs.length b = true
noncomputable def okSB (keys : List (List UInt8)) (s : GSite) : Bool := @decide (OkSite keys s) (Classical.propDecidable _)
theorem okSB_iff {keys : List (List UInt8)} {s : GSite} : okSB keys s = true ↔ OkSite keys s := @decide_eq_true_iff _ (Classical.propDecidable _)
theorem okSB_no {keys : List (List UInt8)} {s : GSite} (h : ¬ OkSite keys s) : okSB keys s = false := by
  cases e : okSB keys s
  · rfl
  · exact absurd (okSB_iff.1 e) h
end Go.Proofs.Ytbalhbpaholakaa
