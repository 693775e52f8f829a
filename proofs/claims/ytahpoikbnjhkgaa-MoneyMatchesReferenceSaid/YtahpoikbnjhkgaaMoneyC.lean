/-
The closures that Split sorts by: the rest of an index, and the comparison of two of them.
-/
import Derived.Test.YtahpoikbnjhkgaaMoneyB
import Derived.Test.YtahpoikbnjhkgaaSortA
import Derived.Deep.QuietTactic
import Derived.BigQuiet
import Derived.Deep.RegionWith
namespace Go.Proofs.Ytahpoikbnjhkgaa
open Go.RowKit

theorem cIsNaN_any (n : Int) (w : World) : Calls Try.prog 38 #[.int .i64 n] w fun e w' => e = .returned (.bool false) ∧ w = w' := by
  have h : (n != n) = false := by simp
  go_enter Try.func38, Try.ntmps38
  go_wp2
  go_ret
  exact ⟨rfl, rfl⟩
theorem cCompare_any (x y : Int) (w : World) : Calls Try.prog 36 #[.int .i64 x, .int .i64 y] w fun e w' => e = .returned (.int .i64 (cmpV x y)) ∧ w = w' := by
  unfold cmpV
  by_cases h1 : x < y
  · rw [if_pos h1]
    go_enter Try.func36, Try.ntmps36
    go_wp2_with (go_at_call 38; refine (cIsNaN_any _ _).mono ?_; rintro e w' ⟨rfl, rfl⟩)
    go_ret
    exact ⟨rfl, rfl⟩
  · rw [if_neg h1]
    by_cases h2 : y < x
    · rw [if_pos h2]
      go_enter Try.func36, Try.ntmps36
      go_wp2_with (go_at_call 38; refine (cIsNaN_any _ _).mono ?_; rintro e w' ⟨rfl, rfl⟩)
      go_ret
      exact ⟨rfl, rfl⟩
    · rw [if_neg h2]
      go_enter Try.func36, Try.ntmps36
      go_wp2_with (go_at_call 38; refine (cIsNaN_any _ _).mono ?_; rintro e w' ⟨rfl, rfl⟩)
      go_ret
      exact ⟨rfl, rfl⟩

/-- The rest of index i. -/
def restV (A S : Int) (ws : List Int) (i : Nat) : Int := A * (ws[i]?.getD 0) % S
theorem mRest_any (A S : Int) (ws : List Int) (i : Nat) (ba bw bs cap : Nat) (a0 : Option Addr) (w : World) (hA : 0 ≤ A) (hA2 : A ≤ 1000000000) (hS : 0 < S) (hS2 : S ≤ 1000000000)
    (ca : w.cell? ⟨ba, 0, none⟩ = some (.int .i64 A)) (cw : w.cell? ⟨bw, 0, none⟩ = some (.slice a0 ws.length cap)) (cs : w.cell? ⟨bs, 0, none⟩ = some (.int .i64 S))
    (hr : Rd 1 encI w a0 ws) (hi : i < ws.length) (_hl : ws.length ≤ 100) (hw : ∀ x ∈ ws, 0 ≤ x ∧ x ≤ 1000000) :
    Calls Try.prog 33 #[.int .i64 i, .pointer (some ⟨ba, 0, none⟩), .pointer (some ⟨bw, 0, none⟩), .pointer (some ⟨bs, 0, none⟩)] w fun e w' => e = .returned (.int .i64 (restV A S ws i)) ∧ ∃ n, w' = w.drewN n := by
  obtain ⟨b, off, rfl, hlt, hc⟩ := hr.int hi
  have hx : 0 ≤ ws[i]?.getD 0 ∧ ws[i]?.getD 0 ≤ 1000000 := by
    rw [List.getElem?_eq_getElem hi]; exact hw _ (List.getElem_mem hi)
  unfold restV
  generalize ws[i]?.getD 0 = x at hc hx ⊢
  obtain ⟨hx0, hx1⟩ := hx
  obtain ⟨m0, m1⟩ := mul_bd hA hA2 hx0 (by omega)
  clear hr hw
  generalize hL : ws.length = L at *
  clear hL
  go_enter Try.func33, Try.ntmps33
  go_wp2
  go_quiet (fail)
  go_wp2
  go_ret
  exact ⟨rfl, nq, rfl⟩

/-- What the comparison reads: the amount, the weights, their sum, the closure of the rest. -/
structure SpCtx (A S : Int) (ws : List Int) (ba bw bs bc cap : Nat) (a0 : Option Addr) (w : World) : Prop where
  hA : 0 ≤ A
  hA2 : A ≤ 1000000000
  hS : 0 < S
  hS2 : S ≤ 1000000000
  hl : ws.length ≤ 100
  hw : ∀ x ∈ ws, 0 ≤ x ∧ x ≤ 1000000
  ca : w.cell? ⟨ba, 0, none⟩ = some (.int .i64 A)
  cw : w.cell? ⟨bw, 0, none⟩ = some (.slice a0 ws.length cap)
  cs : w.cell? ⟨bs, 0, none⟩ = some (.int .i64 S)
  cc : w.cell? ⟨bc, 0, none⟩ = some (.func (.func 33) #[] #[.pointer (some ⟨ba, 0, none⟩), .pointer (some ⟨bw, 0, none⟩), .pointer (some ⟨bs, 0, none⟩)])
  hr : Rd 1 encI w a0 ws
theorem SpCtx.mod {A S : Int} {ws : List Int} {ba bw bs bc cap g : Nat} {a0 : Option Addr} {w w' : World} (h : SpCtx A S ws ba bw bs bc cap a0 w) (hm : Mod (fun k => k = g) w w')
    (ga : ba ≠ g) (gw : bw ≠ g) (gs : bs ≠ g) (gc : bc ≠ g) (gr : ∀ a, a0 = some a → 0 < ws.length → ¬ a.block = g) : SpCtx A S ws ba bw bs bc cap a0 w' :=
  { h with
    ca := (hm.cell (p := ⟨ba, 0, none⟩) (lt_of_cell h.ca) ga).trans h.ca
    cw := (hm.cell (p := ⟨bw, 0, none⟩) (lt_of_cell h.cw) gw).trans h.cw
    cs := (hm.cell (p := ⟨bs, 0, none⟩) (lt_of_cell h.cs) gs).trans h.cs
    cc := (hm.cell (p := ⟨bc, 0, none⟩) (lt_of_cell h.cc) gc).trans h.cc
    hr := h.hr.mod hm gr }
theorem SpCtx.drewN {A S : Int} {ws : List Int} {ba bw bs bc cap : Nat} {a0 : Option Addr} {w : World} (h : SpCtx A S ws ba bw bs bc cap a0 w) (n : Nat) : SpCtx A S ws ba bw bs bc cap a0 (w.drewN n) :=
  { h with ca := h.ca, cw := h.cw, cs := h.cs, cc := h.cc, hr := h.hr.drewN n }
theorem mRest_of {A S : Int} {ws : List Int} {ba bw bs bc cap : Nat} {a0 : Option Addr} {w : World} (h : SpCtx A S ws ba bw bs bc cap a0 w) (i : Nat) (hi : i < ws.length) :
    Calls Try.prog 33 #[.int .i64 i, .pointer (some ⟨ba, 0, none⟩), .pointer (some ⟨bw, 0, none⟩), .pointer (some ⟨bs, 0, none⟩)] w fun e w' => e = .returned (.int .i64 (restV A S ws i)) ∧ ∃ n, w' = w.drewN n :=
  mRest_any A S ws i ba bw bs cap a0 w h.hA h.hA2 h.hS h.hS2 h.ca h.cw h.cs h.hr hi h.hl h.hw
theorem mCmp_any {A S : Int} {ws : List Int} {ba bw bs bc cap : Nat} {a0 : Option Addr} {w : World} (h : SpCtx A S ws ba bw bs bc cap a0 w) (i j : Nat) (hi : i < ws.length) (hj : j < ws.length) :
    Calls Try.prog 35 #[.int .i64 i, .int .i64 j, .pointer (some ⟨bc, 0, none⟩)] w fun e w' => e = .returned (.int .i64 (cmpV (restV A S ws j) (restV A S ws i))) ∧ ∃ n, w' = w.drewN n := by
  have hcc := h.cc
  have H := Lib.hid h
  clear h
  have c1 : ∀ n, Calls Try.prog 33 #[.int .i64 i, .pointer (some ⟨ba, 0, none⟩), .pointer (some ⟨bw, 0, none⟩), .pointer (some ⟨bs, 0, none⟩)] (w.drewN n) fun e w' => e = .returned (.int .i64 (restV A S ws i)) ∧ ∃ m, w' = (w.drewN n).drewN m :=
    fun n => mRest_of (H.out.drewN n) i hi
  have c2 : ∀ n, Calls Try.prog 33 #[.int .i64 j, .pointer (some ⟨ba, 0, none⟩), .pointer (some ⟨bw, 0, none⟩), .pointer (some ⟨bs, 0, none⟩)] (w.drewN n) fun e w' => e = .returned (.int .i64 (restV A S ws j)) ∧ ∃ m, w' = (w.drewN n).drewN m :=
    fun n => mRest_of (H.out.drewN n) j hj
  have C1 := Lib.hid c1
  have C2 := Lib.hid c2
  clear c1 c2
  by_cases hij : i = j
  · subst hij
    go_enter Try.func35, Try.ntmps35
    go_wp2
    go_quiet (first | (go_at_call 33; exact Calls.quiet_of (C1.out _)) | (go_at_call 36; exact Calls.quiet_of_same ((cCompare_any _ _ _).mono (fun _ _ h => ⟨h.1, h.2.symm⟩))))
    go_wp2
    go_ret
    exact ⟨rfl, nq, rfl⟩
  · go_enter Try.func35, Try.ntmps35
    go_wp2
    go_quiet (first | (go_at_call_of 33 (Value.int .i64 (j : Int)); exact Calls.quiet_of (C2.out _)) | (go_at_call_of 33 (Value.int .i64 (i : Int)); exact Calls.quiet_of (C1.out _)) | (go_at_call 36; exact Calls.quiet_of_same ((cCompare_any _ _ _).mono (fun _ _ h => ⟨h.1, h.2.symm⟩))))
    go_wp2
    go_ret
    exact ⟨rfl, nq, rfl⟩
end Go.Proofs.Ytahpoikbnjhkgaa
