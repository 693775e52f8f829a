/-
Several texts in one: SiteC, SiteD, SiteE.
-/
import Derived.Test.YtoekpdnpncgeeaaGreatGLSiteR
import Derived.Test.YtoekpdnpncgeeaaGreatGLPar
/-
site.validCharger, walked.
-/
namespace Go.Proofs.YtoekpdnpncgeeaaGreat
open Go.RowKit
set_option linter.unusedVariables false
set_option linter.unusedSimpArgs false
def chgB (n1 n2 : Nat) (c : GChg) : Bool := inside c.place 0 ((n1 : Int) - 1) && (inside c.own 0 ((n2 : Int) - 1) && (inside c.ph 1 7 && (inside c.mn 1 80 && (inside c.mx 1 80 && (inside c.step 1 80 && (inside c.fb 0 80 && ampsB c))))))
theorem chgB_ok (n1 n2 : Nat) (c : GChg) : chgB n1 n2 c = okChg n1 n2 c := by
  rw [Bool.eq_iff_iff]
  unfold chgB okChg ampsB
  simp only [Bool.and_eq_true, inside_iff, decide_eq_true_eq, Bool.or_eq_true]
  omega
end Go.Proofs.YtoekpdnpncgeeaaGreat
/-
site.validParts, walked.
-/
namespace Go.Proofs.YtoekpdnpncgeeaaGreat
open Go.RowKit Go.Maps
set_option linter.unusedVariables false
set_option linter.unusedSimpArgs false
theorem okConB_ok (k : Nat) (c : GCon) : okConB (k : Int) c = okCon k c := by
  unfold okConB okCon okUp
  congr 1
  congr 1
  congr 1
  rw [Bool.eq_iff_iff]
  simp only [decide_eq_true_eq]
  omega
structure PartsP (s : GSite) : Prop where
  con : ∀ i c, s.cons[i]? = some c → okCon i c = true
  ctr : ∀ c, c ∈ s.ctrs → okCtr s.owns.length c = true
  cards : (s.ctrs.map (·.card)).Nodup
  chg : ∀ c, c ∈ s.chgs → okChg s.cons.length s.owns.length c = true
  bay : ∀ b, b ∈ s.bays → okBay s.chgs.length b = true
noncomputable def partsB (s : GSite) : Bool := @decide (PartsP s) (Classical.propDecidable _)
theorem partsB_iff {s : GSite} : partsB s = true ↔ PartsP s := @decide_eq_true_iff _ (Classical.propDecidable _)
theorem partsB_no {s : GSite} (h : ¬ PartsP s) : false = partsB s := by
  cases e : partsB s
  · rfl
  · exact absurd (partsB_iff.1 e) h
theorem intK : Keyed Tryz.prog 3 := int_keyed Tryz.underlying3
theorem zeroB (w : World) : (zeroValue 4).run Tryz.prog w = .ok (.bool false) w := by kernel_rfl
def cardL (l : List GCtr) : List Lit := l.map (fun c => .int .i64 c.card)
theorem mem_cardL {l : List GCtr} {x : Int} : (Lit.int .i64 x) ∈ cardL l ↔ x ∈ l.map (·.card) := by
  unfold cardL
  simp only [List.mem_map]
  constructor
  · rintro ⟨c, h1, h2⟩; exact ⟨c, h1, by injection h2⟩
  · rintro ⟨c, h1, h2⟩; exact ⟨c, h1, by rw [h2]⟩
end Go.Proofs.YtoekpdnpncgeeaaGreat
/-
site.Valid, walked.
-/
namespace Go.Proofs.YtoekpdnpncgeeaaGreat
open Go.RowKit Go.Maps
set_option linter.unusedVariables false
set_option linter.unusedSimpArgs false
theorem strK : Keyed Tryz.prog 9 := string_keyed Tryz.underlying9
def nmLit (x : ByteArray) : Lit := .string x.data.toList
theorem nmLit_inj {x y : ByteArray} : nmLit x = nmLit y ↔ x.toList = y.toList := by
  unfold nmLit
  rw [ByteArray.toList_eq, ByteArray.toList_eq]
  constructor
  · intro h; injection h
  · intro h; rw [h]
theorem okSite_of {s : GSite} (h : OkSite keyL s) : PartsP s := ⟨h.con, h.ctr, h.cards, h.chg, h.bay⟩
theorem okSB_of {keys : List (List UInt8)} {s : GSite} (h : ¬ OkSite keys s) : false = okSB keys s := (okSB_no h).symm
end Go.Proofs.YtoekpdnpncgeeaaGreat
