/-
Several texts in one: SiteRd, SiteB, SiteA.
-/
import Derived.Test.YtoekpdnpncgeeaaGreatGLApp
import Derived.Test.YtoekpdnpncgeeaaGreatGLSM
/-
How a site is read: its five slices.
-/
namespace Go.Proofs.YtoekpdnpncgeeaaGreat
open Go.RowKit
set_option linter.unusedVariables false
set_option linter.unusedSimpArgs false
def encCon (c : GCon) : List Value := [.string c.name, .int .i64 c.up, .int .i64 c.limit, .int .i64 c.neutral, .int .i64 c.rated, .int .i64 c.heat, .int .i64 c.amb, .int .i64 c.most, .int .i64 c.gain, .int .i64 c.loss, .int .i64 c.den]
theorem encCon_len (c : GCon) : (encCon c).length = 11 := rfl
def encCtr (c : GCtr) : List Value := [.string c.name, .int .i64 c.own, .int .i64 c.rank, .int .i64 c.card]
theorem encCtr_len (c : GCtr) : (encCtr c).length = 4 := rfl
def encChg (c : GChg) : List Value := [.string c.name, .int .i64 c.place, .int .i64 c.ph, .int .i64 c.mn, .int .i64 c.mx, .int .i64 c.step, .int .i64 c.fb, .int .i64 c.own]
theorem encChg_len (c : GChg) : (encChg c).length = 8 := rfl
def encBay (c : GBay) : List Value := [.string c.name, .int .i64 c.chg]
theorem encBay_len (c : GBay) : (encBay c).length = 2 := rfl
theorem rdCon_at {w : World} {A : Option Addr} {cs : List GCon} (h : Rd 11 encCon w A cs) {k : Nat} (hk : k < cs.length) :
    ∃ b off c, A = some ⟨b, off, none⟩ ∧ b < w.heap.size ∧ cs[k]? = some c ∧ w.cell? ⟨b, off + k * 11, none⟩ = some (.string c.name) ∧ w.cell? ⟨b, off + k * 11 + 1, none⟩ = some (.int .i64 c.up) ∧ w.cell? ⟨b, off + k * 11 + 2, none⟩ = some (.int .i64 c.limit) ∧ w.cell? ⟨b, off + k * 11 + 3, none⟩ = some (.int .i64 c.neutral) ∧ w.cell? ⟨b, off + k * 11 + 4, none⟩ = some (.int .i64 c.rated) ∧ w.cell? ⟨b, off + k * 11 + 5, none⟩ = some (.int .i64 c.heat) ∧ w.cell? ⟨b, off + k * 11 + 6, none⟩ = some (.int .i64 c.amb) ∧ w.cell? ⟨b, off + k * 11 + 7, none⟩ = some (.int .i64 c.most) ∧ w.cell? ⟨b, off + k * 11 + 8, none⟩ = some (.int .i64 c.gain) ∧ w.cell? ⟨b, off + k * 11 + 9, none⟩ = some (.int .i64 c.loss) ∧ w.cell? ⟨b, off + k * 11 + 10, none⟩ = some (.int .i64 c.den) := by
  obtain ⟨b, off, e, hA, hlt, hx, hc⟩ := h.at_ hk
  exact ⟨b, off, e, hA, hlt, hx, hc 0 _ rfl, hc 1 _ rfl, hc 2 _ rfl, hc 3 _ rfl, hc 4 _ rfl, hc 5 _ rfl, hc 6 _ rfl, hc 7 _ rfl, hc 8 _ rfl, hc 9 _ rfl, hc 10 _ rfl⟩
theorem rdOwn_at {w : World} {A : Option Addr} {cs : List ByteArray} (h : Rd 1 encS w A cs) {k : Nat} (hk : k < cs.length) :
    ∃ b off c, A = some ⟨b, off, none⟩ ∧ b < w.heap.size ∧ cs[k]? = some c ∧ w.cell? ⟨b, off + k, none⟩ = some (.string c) := by
  obtain ⟨b, off, e, hA, hlt, hx, hc⟩ := h.at_ hk
  exact ⟨b, off, e, hA, hlt, hx, by have := hc 0 _ rfl; simpa using this⟩
theorem rdCtr_at {w : World} {A : Option Addr} {cs : List GCtr} (h : Rd 4 encCtr w A cs) {k : Nat} (hk : k < cs.length) :
    ∃ b off c, A = some ⟨b, off, none⟩ ∧ b < w.heap.size ∧ cs[k]? = some c ∧ w.cell? ⟨b, off + k * 4, none⟩ = some (.string c.name) ∧ w.cell? ⟨b, off + k * 4 + 1, none⟩ = some (.int .i64 c.own) ∧ w.cell? ⟨b, off + k * 4 + 2, none⟩ = some (.int .i64 c.rank) ∧ w.cell? ⟨b, off + k * 4 + 3, none⟩ = some (.int .i64 c.card) := by
  obtain ⟨b, off, e, hA, hlt, hx, hc⟩ := h.at_ hk
  exact ⟨b, off, e, hA, hlt, hx, hc 0 _ rfl, hc 1 _ rfl, hc 2 _ rfl, hc 3 _ rfl⟩
theorem rdChg_at {w : World} {A : Option Addr} {cs : List GChg} (h : Rd 8 encChg w A cs) {k : Nat} (hk : k < cs.length) :
    ∃ b off c, A = some ⟨b, off, none⟩ ∧ b < w.heap.size ∧ cs[k]? = some c ∧ w.cell? ⟨b, off + k * 8, none⟩ = some (.string c.name) ∧ w.cell? ⟨b, off + k * 8 + 1, none⟩ = some (.int .i64 c.place) ∧ w.cell? ⟨b, off + k * 8 + 2, none⟩ = some (.int .i64 c.ph) ∧ w.cell? ⟨b, off + k * 8 + 3, none⟩ = some (.int .i64 c.mn) ∧ w.cell? ⟨b, off + k * 8 + 4, none⟩ = some (.int .i64 c.mx) ∧ w.cell? ⟨b, off + k * 8 + 5, none⟩ = some (.int .i64 c.step) ∧ w.cell? ⟨b, off + k * 8 + 6, none⟩ = some (.int .i64 c.fb) ∧ w.cell? ⟨b, off + k * 8 + 7, none⟩ = some (.int .i64 c.own) := by
  obtain ⟨b, off, e, hA, hlt, hx, hc⟩ := h.at_ hk
  exact ⟨b, off, e, hA, hlt, hx, hc 0 _ rfl, hc 1 _ rfl, hc 2 _ rfl, hc 3 _ rfl, hc 4 _ rfl, hc 5 _ rfl, hc 6 _ rfl, hc 7 _ rfl⟩
theorem rdBay_at {w : World} {A : Option Addr} {cs : List GBay} (h : Rd 2 encBay w A cs) {k : Nat} (hk : k < cs.length) :
    ∃ b off c, A = some ⟨b, off, none⟩ ∧ b < w.heap.size ∧ cs[k]? = some c ∧ w.cell? ⟨b, off + k * 2, none⟩ = some (.string c.name) ∧ w.cell? ⟨b, off + k * 2 + 1, none⟩ = some (.int .i64 c.chg) := by
  obtain ⟨b, off, e, hA, hlt, hx, hc⟩ := h.at_ hk
  exact ⟨b, off, e, hA, hlt, hx, hc 0 _ rfl, hc 1 _ rfl⟩
/-- A site in memory. -/
structure RdSite (w : World) (a1 a2 a3 a4 a5 : Option Addr) (n1 n2 n3 n4 n5 : Nat) (s : GSite) : Prop where
  r1 : Rd 11 encCon w a1 s.cons
  r2 : Rd 1 encS w a2 s.owns
  r3 : Rd 4 encCtr w a3 s.ctrs
  r4 : Rd 8 encChg w a4 s.chgs
  r5 : Rd 2 encBay w a5 s.bays
  l1 : s.cons.length = n1
  l2 : s.owns.length = n2
  l3 : s.ctrs.length = n3
  l4 : s.chgs.length = n4
  l5 : s.bays.length = n5
  m1 : n1 ≤ 9223372036854775807
  m2 : n2 ≤ 9223372036854775807
  m3 : n3 ≤ 9223372036854775807
  m4 : n4 ≤ 9223372036854775807
  m5 : n5 ≤ 9223372036854775807
  nm : ∀ x, x ∈ allNames s → x.size ≤ maxLen
theorem RdSite.keep {w w' : World} {a1 a2 a3 a4 a5 : Option Addr} {n1 n2 n3 n4 n5 : Nat} {s : GSite} (h : RdSite w a1 a2 a3 a4 a5 n1 n2 n3 n4 n5 s) (hb : Below w.heap.size w w') : RdSite w' a1 a2 a3 a4 a5 n1 n2 n3 n4 n5 s :=
  ⟨h.r1.keep hb, h.r2.keep hb, h.r3.keep hb, h.r4.keep hb, h.r5.keep hb, h.l1, h.l2, h.l3, h.l4, h.l5, h.m1, h.m2, h.m3, h.m4, h.m5, h.nm⟩
end Go.Proofs.YtoekpdnpncgeeaaGreat
/-
A site's ranges; walked.
-/
namespace Go.Proofs.YtoekpdnpncgeeaaGreat
open Go.RowKit
set_option linter.unusedVariables false
set_option linter.unusedSimpArgs false
def ampsB (c : GChg) : Bool := decide (c.mn ≤ c.mx) && (decide (c.fb = 0) || (decide (c.mn ≤ c.fb) && decide (c.fb ≤ c.mx)))
/-- The eleven values of a conductor. -/
def okConB (i : Int) (c : GCon) : Bool := decide ((i = 0 → c.up = -1) ∧ (0 < i → 0 ≤ c.up ∧ c.up < i)) && (inside c.limit 1 1000 && inside c.neutral 1 1000) && okFuse c && okCable c
end Go.Proofs.YtoekpdnpncgeeaaGreat
/-
site.namesOf, walked.
-/
namespace Go.Proofs.YtoekpdnpncgeeaaGreat
open Go.RowKit
set_option linter.unusedVariables false
set_option linter.unusedSimpArgs false
def NamesPost (w : World) (s : GSite) (L : Nat) (e : Ending) (w' : World) : Prop := ∃ a c, e = .returned (.slice a L c) ∧ Rd 1 encS w' a (allNames s) ∧ Below w.heap.size w w'
end Go.Proofs.YtoekpdnpncgeeaaGreat
