/-
Plain: a site with another conductor; less Limit, Neutral and Rated.
-/
import Derived.Test.YtbalhbpaholakaaCLimF0
namespace Go.Proofs.Ytbalhbpaholakaa
open Go.RowKit
set_option linter.unusedVariables false
set_option linter.unusedSimpArgs false
def setS (s : GSite) (k : Nat) (c : GCon) : GSite := ⟨s.cons.set k c, s.owns, s.ctrs, s.chgs, s.bays⟩
theorem limAt_set {s : GSite} {k : Nat} {c : GCon} (hk : k < s.cons.length) (i : Nat) : limAt (setS s k c) i = if i = k then limV c else limAt s i := by
  unfold limAt setS
  dsimp only
  by_cases h : i = k
  · subst h
    rw [if_pos rfl, List.getElem?_set_self hk]
    rfl
  · rw [if_neg h, List.getElem?_set_ne (fun e => h e.symm)]
def derC (c : GCon) (b0 b1 b2 : Int) : GCon := ⟨c.name, c.up, max 1 (IntKind.i64.wrap (c.limit - b0)), max 1 (IntKind.i64.wrap (c.neutral - b1)), if 0 < c.rated then max 1 (IntKind.i64.wrap (c.rated - b2)) else c.rated, c.heat, c.amb, c.most, c.gain, c.loss, c.den⟩
theorem limV_limit (c : GCon) : limV c ≤ c.limit ∧ limV c ≤ c.neutral ∧ limV c ≤ permV c ∧ (c.rated ≠ 0 → limV c ≤ c.rated) := by
  unfold limV
  by_cases h : c.rated = 0
  · rw [if_pos h]; refine ⟨by omega, by omega, by omega, fun h2 => absurd h h2⟩
  · rw [if_neg h]; refine ⟨by omega, by omega, by omega, fun h2 => by omega⟩
theorem limV_der {c : GCon} (h : OkC c) {b0 b1 b2 : Int} (h0 : 0 ≤ b0 ∧ b0 ≤ 255) (h1 : 0 ≤ b1 ∧ b1 ≤ 255) (h2 : 0 ≤ b2 ∧ b2 ≤ 255) : limV (derC c b0 b1 b2) ≤ limV c := by
  have hl := h.lim
  have hn := h.neu
  have w0 : IntKind.i64.wrap (c.limit - b0) = c.limit - b0 := IntWalk.i64_in _ (by omega)
  have w1 : IntKind.i64.wrap (c.neutral - b1) = c.neutral - b1 := IntWalk.i64_in _ (by omega)
  have hp : permV (derC c b0 b1 b2) = permV c := rfl
  unfold limV
  rw [hp]
  show (if (if 0 < c.rated then max 1 (IntKind.i64.wrap (c.rated - b2)) else c.rated) = 0 then min (min (max 1 (IntKind.i64.wrap (c.limit - b0))) (max 1 (IntKind.i64.wrap (c.neutral - b1)))) (permV c) else min (min (min (max 1 (IntKind.i64.wrap (c.limit - b0))) (max 1 (IntKind.i64.wrap (c.neutral - b1)))) (permV c)) (if 0 < c.rated then max 1 (IntKind.i64.wrap (c.rated - b2)) else c.rated)) ≤ _
  rw [w0, w1]
  rcases h.fuse with ⟨h3, _⟩ | ⟨⟨h3, h4⟩, _⟩
  · rw [h3, if_neg (show ¬ (0 : Int) < 0 by omega), if_pos rfl, if_pos rfl]
    omega
  · have w2 : IntKind.i64.wrap (c.rated - b2) = c.rated - b2 := IntWalk.i64_in _ (by omega)
    rw [w2, if_pos (show 0 < c.rated by omega), if_neg (show ¬ max 1 (c.rated - b2) = 0 by omega), if_neg (show ¬ c.rated = 0 by omega)]
    omega
end Go.Proofs.Ytbalhbpaholakaa
