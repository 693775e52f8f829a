/-
tree.add.
-/
import Derived.Test.YtjlfnhfiiailgaaCTreeD
import Derived.IntWalk
namespace Go.Proofs.Ytjlfnhfiiailgaa
open Go.RowKit
set_option linter.unusedVariables false
set_option linter.unusedSimpArgs false
/-- Does a charger use a phase? -/
def bitP (ph : Int) (p : Nat) : Bool := decide ((ph / (2 ^ p : Nat)) % 2 = 1)
/-- What add leaves in the cells of a list of loads: those of conductor k grow. -/
def addF (f : Nat → Int) (k : Nat) (ph am : Int) (m : Nat) (i : Nat) : Int := if k * 3 ≤ i ∧ i < k * 3 + m ∧ bitP ph (i - k * 3) = true then f i + am else f i
theorem bits_ph {ph : Int} {p : Nat} (hph : 0 ≤ ph ∧ ph ≤ 7) (hp : p < 3) : (bits BinOp.and IntKind.i64 ph (wrap64 (2 ^ p)) != 0) = bitP ph p := by
  have h : ∀ q : Fin 8, ∀ p : Fin 3, (bits BinOp.and IntKind.i64 ((q.val : Nat) : Int) (wrap64 (2 ^ p.val)) != 0) = bitP ((q.val : Nat) : Int) p.val := by decide +kernel
  have e := h ⟨ph.toNat, by omega⟩ ⟨p, hp⟩
  dsimp only at e
  rw [show ((ph.toNat : Nat) : Int) = ph by omega] at e
  exact e
theorem addF_at (f : Nat → Int) (k : Nat) (ph am : Int) (p : Nat) : addF f k ph am p (k * 3 + p) = f (k * 3 + p) := by
  unfold addF
  rw [if_neg (by omega)]
theorem addF_no {f : Nat → Int} {k : Nat} {ph am : Int} {p : Nat} (h : bitP ph p = false) (i : Nat) : addF f k ph am (p + 1) i = addF f k ph am p i := by
  unfold addF
  by_cases e : i = k * 3 + p
  · subst e
    rw [if_neg (by rintro ⟨_, _, h3⟩; rw [Nat.add_sub_cancel_left, h] at h3; cases h3), if_neg (by omega)]
  · by_cases c : k * 3 ≤ i ∧ i < k * 3 + p ∧ bitP ph (i - k * 3) = true
    · rw [if_pos c, if_pos ⟨c.1, by omega, c.2.2⟩]
    · rw [if_neg c, if_neg (fun h => c ⟨h.1, by omega, h.2.2⟩)]
theorem addF_yes {f : Nat → Int} {k : Nat} {ph am : Int} {p : Nat} (h : bitP ph p = true) (i : Nat) : addF f k ph am (p + 1) i = if i = k * 3 + p then f (k * 3 + p) + am else addF f k ph am p i := by
  by_cases e : i = k * 3 + p
  · subst e
    rw [if_pos rfl]
    unfold addF
    rw [if_pos ⟨by omega, by omega, by rw [Nat.add_sub_cancel_left]; exact h⟩]
  · rw [if_neg e]
    unfold addF
    by_cases c : k * 3 ≤ i ∧ i < k * 3 + p ∧ bitP ph (i - k * 3) = true
    · rw [if_pos c, if_pos ⟨c.1, by omega, c.2.2⟩]
    · rw [if_neg c, if_neg (fun h => c ⟨h.1, by omega, h.2.2⟩)]
theorem addF_zero (f : Nat → Int) (k : Nat) (ph am : Int) (i : Nat) : addF f k ph am 0 i = f i := by unfold addF; rw [if_neg (by omega)]
set_option maxRecDepth 100000 in
set_option maxHeartbeats 4000000 in
theorem trAdd_any (bl k n : Nat) (f : Nat → Int) (ph am : Int) (w : World) (hO : Own w bl 55 (n * 3) (fun i => .int .i64 (f i))) (hk : k < n) (hph : 1 ≤ ph ∧ ph ≤ 7) (hf : ∀ i, i < n * 3 → 0 ≤ f i ∧ f i ≤ 1000000) (ham : 0 ≤ am ∧ am ≤ 80) :
    Calls Try.prog 30 #[.pointer (some ⟨bl, k * 3, none⟩), .int .i64 ph, .int .i64 am] w fun e w' => (∃ v, e = .returned v) ∧ Own w' bl 55 (n * 3) (fun i => .int .i64 (addF f k ph am 3 i)) ∧ Mod (fun j => j = bl) w w' := by
  have HO := Lib.hid hO
  clear hO
  go_enter Try.func30, Try.ntmps30
  go_wp2
  go_loopg [7] 3 (fun g1 v7 wr => ∃ p : Nat, v7 = .int .i64 p ∧ p ≤ 3 ∧ 3 - p ≤ g1 ∧ Hid (Own wr bl 55 (n * 3) (fun i => .int .i64 (addF f k ph am p i))) ∧ Hid (Mod (fun j => j = bl) w wr))
  case atStart => exact ⟨0, by go_num, by omega, by omega, Lib.hid (HO.out.congr (fun i _ => by rw [addF_zero])), Lib.hid (Mod.refl _ _)⟩
  case round =>
    obtain ⟨p, rfl, hp, hg1, HO, HM⟩ := hrel
    by_cases hlt : p < 3
    · have hltz : (p : Int) < 3 := by omega
      have hbit := bits_ph (ph := ph) (p := p) (by omega) hlt
      have hin : k * 3 + p < n * 3 := by omega
      have q0 := HO.out.cell (i := k * 3 + p) hin
      rw [addF_at] at q0
      have qf := HO.out.frozen (k * 3 + p)
      have hfi := hf _ hin
      have HSet := Lib.hid (fun u => HO.out.set (k * 3 + p) u)
      have HMS := Lib.hid (fun u => HM.out.setCell (p := ⟨bl, k * 3 + p, none⟩) (.inl rfl) u)
      have hlb := HO.out.lt
      have HF : Hid (∀ i, addF f k ph am (p + 1) i = if bitP ph p = true ∧ i = k * 3 + p then f (k * 3 + p) + am else addF f k ph am p i) := Lib.hid (fun i => by
        cases hb : bitP ph p
        · rw [addF_no hb, if_neg (by simp)]
        · rw [addF_yes hb]; simp)
      generalize hx : f (k * 3 + p) = x at *
      have hsum : IntKind.i64.wrap (x + am) = x + am := IntWalk.i64_in _ (by omega)
      clear hx
      cases hb : bitP ph p
      · rw [hb] at hbit
        clear q0 qf hsum HSet HMS
        go_wp2_with fail
        go_roundg (3 - (p + 1))
        case measure => omega
        case rel => exact ⟨p + 1, by go_num, by omega, by omega, Lib.hid (HO.out.congr (fun i _ => by rw [HF.out, hb, if_neg (by simp)])), HM⟩
      · rw [hb] at hbit
        go_wp2_with fail
        go_still_tail 9, (by kernel_rfl)
        change wpList _ _ _ _ _ wr.drew
        go_wp2_with fail
        go_roundg (3 - (p + 1))
        case measure => omega
        case rel => exact ⟨p + 1, by go_num, by omega, by omega, Lib.hid ((HSet.out (.int .i64 (x + am))).congr (fun i _ => by
            rw [HF.out, hb]
            by_cases e : i = k * 3 + p
            · rw [if_pos e, if_pos ⟨rfl, e⟩]
            · rw [if_neg e, if_neg (fun h => e h.2)])), Lib.hid (HMS.out (.int .i64 (x + am))).drew⟩
    · have hltz : ¬ (p : Int) < 3 := by omega
      have hp3 : p = 3 := by omega
      subst hp3
      go_wp2_with fail
      go_end0
      exact ⟨⟨_, rfl⟩, HO.out, HM.out⟩
end Go.Proofs.Ytjlfnhfiiailgaa
