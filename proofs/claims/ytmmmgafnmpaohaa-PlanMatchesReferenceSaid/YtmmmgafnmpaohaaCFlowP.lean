/-
Plain: a way that was found makes a greater flow; a search that found none has a cut.
-/
import Derived.Test.YtmmmgafnmpaohaaGWay
namespace Go.Proofs.Ytmmmgafnmpaohaa

theorem flow_more {nn N s t : Nat} {es : List GEdge} {fl : List Int} {st : List GStep} {p : Nat → Nat} {K : Nat} (hok : okG nn es = true) (hN : es.length = N) (hf : IsFlow nn es s t fl) (W : Way es fl nn N s t st p K) (hst : s ≠ t) :
    0 < roomTo st p (stAt st t).room K ∧ IsFlow nn es s t (flTo fl st p (roomTo st p (stAt st t).room K) K) ∧ net es (flTo fl st p (roomTo st p (stAt st t).room K) K) s = net es fl s + roomTo st p (stAt st t).room K := by
  have hK : 0 < K := by
    rcases Nat.eq_zero_or_pos K with h | h
    · exact absurd (by rw [← W.pK, h, W.p0]) hst
    · exact h
  have hroom : ∀ j, j < K → 0 < (stAt st (p j)).room := fun j hj => by
    obtain ⟨i, _, _, h, _⟩ := W.good j hj
    exact h
  have hr : 0 < roomTo st p (stAt st t).room K := roomTo_pos (by have := hroom 0 hK; rw [W.p0] at this; exact this) hroom
  generalize hg : roomTo st p (stAt st t).room K = r at *
  have P := part_all (r := r) hok hN (hf.len.trans hN) hf.fits W hr (fun j hj => by rw [← hg]; exact roomTo_le hj) K (Nat.le_refl _)
  have hn := P.nets
  rw [W.pK] at hn
  refine ⟨hr, ⟨(flTo_length _ _ _ _ _).trans hf.len, P.fits, fun u u0 u1 us ut => ?_⟩, ?_⟩
  · rw [hn u, hf.kept u u0 u1 us ut, if_neg us, if_neg ut]
    omega
  · rw [hn s, if_pos rfl, if_neg (by omega)]
    omega

theorem cut_most {nn N s t : Nat} {es : List GEdge} {fl : List Int} {seen : List Bool} {st : List GStep} {xs : List Int} (hok : okG nn es = true) (hN : es.length = N) (hs : s < nn) (ht : t < nn) (hst : s ≠ t) (hf : IsFlow nn es s t fl) (hb : Bfs es fl nn N s t seen st xs)
    (hd : ∀ u, u < nn → bAt seen u = true → DoneAt es fl N seen u) : IsCut nn s t seen ∧ capac es seen = net es fl s := by
  have hse : ∀ u : Nat, sAt seen (u : Int) = bAt seen u := fun u => rfl
  have hc : IsCut nn s t seen := ⟨by rw [hb.lenS], by rw [hse]; exact hb.src, by rw [hse]; exact hb.notT⟩
  have hE : okEnds nn es s t = true := okEnds_iff.2 ⟨hok, by omega, by omega, by omega, by omega, by omega⟩
  refine ⟨hc, (tight hE hf hc (fun i hi => ?_)).symm⟩
  obtain ⟨a0, a1, b0, b1, _⟩ := okG_at hok hi
  obtain ⟨u, hu⟩ : ∃ u : Nat, (eAt es i).frm = u := ⟨(eAt es i).frm.toNat, by omega⟩
  obtain ⟨v, hv⟩ : ∃ v : Nat, (eAt es i).to = v := ⟨(eAt es i).to.toNat, by omega⟩
  rw [hu, hv, hse, hse]
  refine ⟨fun h1 h2 => ?_, fun h1 h2 => ?_⟩
  · have := (hd u (by omega) h1 i (by omega)).1 hu h2
    rw [hv] at this
    exact this
  · have := (hd v (by omega) h1 i (by omega)).2 hv h2
    rw [hu] at this
    exact this
end Go.Proofs.Ytmmmgafnmpaohaa
