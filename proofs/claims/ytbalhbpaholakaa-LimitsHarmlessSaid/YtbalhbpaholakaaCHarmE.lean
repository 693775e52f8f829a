/-
LimitsHarmless, walked.
-/
import Derived.Test.YtbalhbpaholakaaCHarmA
import Derived.Test.YtbalhbpaholakaaCHarmC
import Derived.Test.YtbalhbpaholakaaCHarmD
import Derived.Test.YtbalhbpaholakaaCLimS
import Derived.Test.YtbalhbpaholakaaCLimT0
import Derived.Test.YtbalhbpaholakaaCOpenA
import Derived.Test.YtbalhbpaholakaaCPrMath
namespace Go.Proofs.Ytbalhbpaholakaa
open Go.RowKit
set_option linter.unusedVariables false
set_option linter.unusedSimpArgs false
theorem Own.threeT (w : World) (t : TypeId) (x y z : Int) : Own (w.alloc (.cells #[.int .i64 x, .int .i64 y, .int .i64 z] t)) w.heap.size t 3 (v3F x y z) := Own.newAt w t _ w.heap.size rfl rfl (fun i hi => by match i, hi with | 0, _ => rfl | 1, _ => rfl | 2, _ => rfl)
theorem Own.set3T {w : World} {g : Nat} {t : TypeId} {a b c : Int} (h : Own w g t 3 (v3F a b c)) (x y z : Int) : Own (((w.setCell ⟨g, 0, none⟩ (.int .i64 x)).setCell ⟨g, 1, none⟩ (.int .i64 y)).setCell ⟨g, 2, none⟩ (.int .i64 z)) g t 3 (v3F x y z) :=
  (((h.set 0 _).set 1 _).set 2 _).congr (fun i hi => by match i, hi with | 0, _ => rfl | 1, _ => rfl | 2, _ => rfl)
/-- Four lists that grow: three in a box Z, and one more. -/
structure PhM (W : World) (base Z : Nat) (pv : Nat → Value) (ls : Nat → List Int) (av : Value) (al : List Int) : Prop where
  oz : Own W Z 59 3 pv
  op : ∀ q, q < 3 → OwnL W base (pv q) (ls q)
  oa : OwnL W base av al
  ap : ∀ q r, q < 3 → r < 3 → q ≠ r → ∀ k, (pv q).ownBlock = some k → (pv r).ownBlock ≠ some k
  aa : ∀ q, q < 3 → ∀ k, (pv q).ownBlock = some k → av.ownBlock ≠ some k
  hz : Z < base
  hb : base ≤ W.heap.size
theorem PhM.keep {W W' : World} {base Z : Nat} {pv : Nat → Value} {ls : Nat → List Int} {av : Value} {al : List Int} (h : PhM W base Z pv ls av al) (hb : Below W.heap.size W W') : PhM W' base Z pv ls av al :=
  ⟨h.oz.keep hb h.oz.lt, fun q hq => (h.op q hq).keep hb, h.oa.keep hb, h.ap, h.aa, h.hz, Nat.le_trans h.hb hb.size⟩
theorem PhM.push {W : World} {base Z : Nat} {pv : Nat → Value} {ls : Nat → List Int} {av : Value} {al : List Int} (h : PhM W base Z pv ls av al) {q : Nat} (hq : q < 3) (hl : (ls q).length ≤ 1000) (x : Int) :
    Appends Try.prog (W.alloc (.cells #[.int .i64 x] 3)) 29 29 (pv q) (.slice (some ⟨W.heap.size, 0, none⟩) 1 1) ∧
    ∃ v' w1, appV Try.prog (W.alloc (.cells #[.int .i64 x] 3)) 29 29 (pv q) (.slice (some ⟨W.heap.size, 0, none⟩) 1 1) = v' ∧
      appW Try.prog (W.alloc (.cells #[.int .i64 x] 3)) 29 29 (pv q) (.slice (some ⟨W.heap.size, 0, none⟩) 1 1) = w1 ∧ Hid (∃ a c, v' = .slice a ((ls q).length + 1) c) ∧ Hid (Own w1 Z 59 3 pv) ∧
      Hid (PhM (w1.setCell ⟨Z, q, none⟩ v') base Z (fun r => if r = q then v' else pv r) (fun r => if r = q then ls q ++ [x] else ls r) av al) ∧ Hid (Mod (fun j => (pv q).ownBlock = some j ∨ j = Z) W (w1.setCell ⟨Z, q, none⟩ v')) ∧ Hid (Mod (fun j => (pv q).ownBlock = some j) W w1) := by
  obtain ⟨a1, v', w1, a2, a3, a4, a5, a6⟩ := app_int x (h.op q hq) h.hb (by omega)
  have hge : ∀ k, (pv q).ownBlock = some k → base ≤ k ∧ k < W.heap.size := fun k hk => World.ownsRow.lt (h.op q hq) k hk
  have hge' : ∀ k, v'.ownBlock = some k → base ≤ k := fun k hk => (World.ownsRow.lt a4 k hk).1
  have hz := h.hz
  have oz1 : Own w1 Z 59 3 pv := h.oz.mod a5 (fun e => by have := (hge Z e).1; omega)
  have m2 : Mod (fun j => (pv q).ownBlock = some j ∨ j = Z) W (w1.setCell ⟨Z, q, none⟩ v') := (a5.mono (fun j _ h => .inl h)).setCell (p := ⟨Z, q, none⟩) (.inl (.inr rfl)) _
  have m1 : Mod (fun j => j = Z) w1 (w1.setCell ⟨Z, q, none⟩ v') := (show Mod (fun j => j = Z) w1 w1 from Mod.refl _ w1).setCell (p := ⟨Z, q, none⟩) (.inl rfl) _
  have hne : ∀ {u : Value} {zs : List Int}, OwnL W base u zs → (∀ k, (pv q).ownBlock = some k → u.ownBlock ≠ some k) → ∀ k, v'.ownBlock = some k → u.ownBlock ≠ some k := by
    intro u zs hu hd k hk e
    rcases a6 with h6 | h6
    · exact hd k (h6 ▸ hk) e
    · rw [h6] at hk
      injection hk with hk
      have := (World.ownsRow.lt hu k e).2
      omega
  obtain ⟨sa, sc, sv⟩ := a4.shape
  refine ⟨a1, v', w1, a2, a3, Lib.hid ⟨sa, sc, by rw [sv]; simp⟩, Lib.hid oz1, Lib.hid ⟨(oz1.set q v').congr (fun i hi => rfl), ?_, ?_, ?_, ?_, hz, Nat.le_trans h.hb m2.size⟩, Lib.hid m2, Lib.hid a5⟩
  · intro r hr
    try dsimp only
    by_cases e : r = q
    · rw [if_pos e, if_pos e]
      exact a4.mod m1 (fun k hk e2 => by have := hge' k hk; omega)
    · rw [if_neg e, if_neg e]
      refine (h.op r hr).mod m2 (fun k hk e2 => ?_)
      rcases e2 with e2 | e2
      · exact h.ap q r hq hr (fun x => e x.symm) k e2 hk
      · have := (World.ownsRow.lt (h.op r hr) k hk).1; omega
  · refine h.oa.mod m2 (fun k hk e2 => ?_)
    rcases e2 with e2 | e2
    · exact h.aa q hq k e2 hk
    · have := (World.ownsRow.lt h.oa k hk).1; omega
  · intro r t hr ht hrt k
    try dsimp only
    by_cases e : r = q
    · rw [if_pos e, if_neg (fun x => hrt (e.trans x.symm))]
      exact hne (h.op t ht) (fun k hk => h.ap q t hq ht (fun x => hrt (e.trans x)) k hk) k
    · rw [if_neg e]
      by_cases e2 : t = q
      · rw [if_pos e2]
        intro hk hv
        exact hne (h.op r hr) (fun k hk => h.ap q r hq hr (fun x => e x.symm) k hk) k hv hk
      · rw [if_neg e2]
        exact h.ap r t hr ht hrt k
  · intro r hr k
    try dsimp only
    by_cases e : r = q
    · rw [if_pos e]
      exact hne h.oa (fun k hk => h.aa q hq k hk) k
    · rw [if_neg e]
      exact h.aa r hr k
theorem PhM.pushA {W : World} {base Z : Nat} {pv : Nat → Value} {ls : Nat → List Int} {av : Value} {al : List Int} (h : PhM W base Z pv ls av al) (hl : al.length ≤ 1000) (x : Int) :
    Appends Try.prog (W.alloc (.cells #[.int .i64 x] 3)) 29 29 av (.slice (some ⟨W.heap.size, 0, none⟩) 1 1) ∧
    ∃ v' w1, appV Try.prog (W.alloc (.cells #[.int .i64 x] 3)) 29 29 av (.slice (some ⟨W.heap.size, 0, none⟩) 1 1) = v' ∧
      appW Try.prog (W.alloc (.cells #[.int .i64 x] 3)) 29 29 av (.slice (some ⟨W.heap.size, 0, none⟩) 1 1) = w1 ∧ Hid (∃ a c, v' = .slice a (al.length + 1) c) ∧
      Hid (PhM w1 base Z pv ls v' (al ++ [x])) ∧ Hid (Mod (fun j => av.ownBlock = some j) W w1) := by
  obtain ⟨a1, v', w1, a2, a3, a4, a5, a6⟩ := app_int x h.oa h.hb (by omega)
  have hge : ∀ k, av.ownBlock = some k → base ≤ k ∧ k < W.heap.size := fun k hk => World.ownsRow.lt h.oa k hk
  have hz := h.hz
  obtain ⟨sa, sc, sv⟩ := a4.shape
  refine ⟨a1, v', w1, a2, a3, Lib.hid ⟨sa, sc, by rw [sv]; simp⟩, Lib.hid ⟨h.oz.mod a5 (fun e => by have := (hge Z e).1; omega), fun q hq => (h.op q hq).mod a5 (fun k hk e => h.aa q hq k hk e), a4, h.ap, ?_, hz, Nat.le_trans h.hb a5.size⟩, Lib.hid a5⟩
  intro q hq k hk e
  rcases a6 with h6 | h6
  · exact h.aa q hq k hk (h6 ▸ e)
  · rw [h6] at e
    injection e with e
    have := (World.ownsRow.lt (h.op q hq) k hk).2
    omega
/-- The load of conductor c on phase p in tick i. -/
noncomputable def ldF (s : GSite) (qs : List (List Int)) (c i p : Nat) : Int := loadS s (fI (qs[i]?.getD [])) s.chgs.length (c * 3 + p)
noncomputable def phK (s : GSite) (qs : List (List Int)) (c p k : Nat) : List Int := (List.range k).map (fun i => ldF s qs c i p)
noncomputable def anK (s : GSite) (qs : List (List Int)) (c : Nat) (ch : Nat → Nat) (k : Nat) : List Int := (List.range k).map (fun i => ldF s qs c i (ch i))
theorem phK_succ (s qs) (c p k : Nat) : phK s qs c p (k + 1) = phK s qs c p k ++ [ldF s qs c k p] := by unfold phK; rw [List.range_succ, List.map_append]; rfl
theorem anK_succ (s qs) (c : Nat) (ch : Nat → Nat) (k : Nat) : anK s qs c ch (k + 1) = anK s qs c ch k ++ [ldF s qs c k (ch k)] := by unfold anK; rw [List.range_succ, List.map_append]; rfl
theorem phK_len (s qs) (c p k : Nat) : (phK s qs c p k).length = k := by unfold phK; simp
theorem anK_len (s qs) (c : Nat) (ch : Nat → Nat) (k : Nat) : (anK s qs c ch k).length = k := by unfold anK; simp
theorem phK_at (s qs) (c p : Nat) {k i : Nat} (hi : i < k) : fI (phK s qs c p k) i = ldF s qs c i p := by unfold phK fI; rw [List.getElem?_map, List.getElem?_range hi]; rfl
theorem anK_at (s qs) (c : Nat) (ch : Nat → Nat) {k i : Nat} (hi : i < k) : fI (anK s qs c ch k) i = ldF s qs c i (ch i) := by unfold anK fI; rw [List.getElem?_map, List.getElem?_range hi]; rfl
/-- What is at most the limit of a conductor does no harm. -/
theorem harm_c {c : GCon} (hc : OkC c) {x : Int} (h0 : 0 ≤ x) (h : x ≤ limV c) : x ≤ c.limit ∧ x ≤ c.neutral ∧ x ≤ 1000 ∧ (c.rated = 0 ∨ x ≤ c.rated) ∧ (zC c = true ∨ c.gain * x * x ≤ roomC c) := by
  obtain ⟨h1, h2, h3, h4⟩ := limV_limit c
  have hl := hc.lim
  refine ⟨by omega, by omega, by omega, ?_, ?_⟩
  · by_cases e : c.rated = 0
    · exact .inl e
    · have := h4 e; exact .inr (by omega)
  · cases hz : zC c
    · right
      obtain ⟨r1, r2, g1, g2⟩ := hc.room hz
      have hp : permV c = (grN c.gain (roomC c) 1000 : Nat) := by unfold permV; rw [hz]; rfl
      have hk := grN_ok (gain := c.gain) r1 1000
      have hd := okAm_down g1 (m := x.toNat) (n := grN c.gain (roomC c) 1000) (by omega) hk
      unfold okAm at hd
      simp only [decide_eq_true_eq] at hd
      rw [show ((x.toNat : Nat) : Int) = x by omega] at hd
      exact hd
    · exact .inl rfl
theorem ldF_bd {s : GSite} {qs : List (List Int)} {i : Nat} {q : List Int} (hq : qs[i]? = some q) (hb : loadB s q = true) (hv : vioO s q = none) {c p : Nat} (hc : c < s.cons.length) (hp : p < 3) : 0 ≤ ldF s qs c i p ∧ ldF s qs c i p ≤ limAt s c := by
  unfold ldF
  rw [hq]
  refine ⟨(loadS_bd (fun i _ => (cur_bd hb).2 i) _).1, chk_none hb hv hc hp⟩
theorem PhM.congr {W : World} {base Z : Nat} {pv : Nat → Value} {ls ls' : Nat → List Int} {av : Value} {al al' : List Int} (h : PhM W base Z pv ls av al) (e : ∀ q, q < 3 → ls q = ls' q) (e2 : al = al') : PhM W base Z pv ls' av al' :=
  ⟨h.oz, fun q hq => e q hq ▸ h.op q hq, e2 ▸ h.oa, h.ap, h.aa, h.hz, h.hb⟩
theorem ownL_ne {W : World} {base L n : Nat} {v : Value} {xs : List Int} {t : TypeId} {f : Nat → Value} (h : OwnL W base v xs) (ho : Own W L t n f) (ht : t ≠ 3) : v.ownBlock ≠ some L := by
  intro e
  rcases h.2 with ⟨h1, _⟩ | ⟨g, cap, cur, hv, _, hg, _⟩
  · rw [h1] at e; cases e
  · rw [hv] at e
    injection e with e
    dsimp only at e
    subst e
    obtain ⟨cs, hb, _⟩ := ho
    rw [hg] at hb
    injection hb with hb
    injection hb with _ h2 _
    exact ht h2.symm
theorem own_ne {W : World} {L Z n m : Nat} {t u : TypeId} {f g : Nat → Value} (h : Own W L t n f) (k : Own W Z u m g) (ht : t ≠ u) : L ≠ Z := by
  rintro rfl
  obtain ⟨cs, h1, _⟩ := h
  obtain ⟨ds, h2, _⟩ := k
  rw [h1] at h2
  injection h2 with h2
  injection h2 with _ h3 _
  exact ht h3
def conF (g : GCon) (i : Nat) : Value := ((encCon g)[i]?).getD undef
theorem conF_new (W : World) (g : GCon) : Own (W.alloc (.cells #[.string g.name, .int .i64 g.up, .int .i64 g.limit, .int .i64 g.neutral, .int .i64 g.rated, .int .i64 g.heat, .int .i64 g.amb, .int .i64 g.most, .int .i64 g.gain, .int .i64 g.loss, .int .i64 g.den] 55)) W.heap.size 55 11 (conF g) :=
  Own.newAt W 55 _ W.heap.size rfl rfl (fun i hi => by
    match i, hi with
    | 0, _ => rfl
    | 1, _ => rfl
    | 2, _ => rfl
    | 3, _ => rfl
    | 4, _ => rfl
    | 5, _ => rfl
    | 6, _ => rfl
    | 7, _ => rfl
    | 8, _ => rfl
    | 9, _ => rfl
    | 10, _ => rfl)
def chF (nB : Nat) (bs : List Int) (i : Nat) : Nat := (if i < nB then (fI bs i).toNat else i) % 3
noncomputable def midL (s : GSite) (qs : List (List Int)) (c i p q : Nat) : List Int := if q < p then phK s qs c q (i + 1) else phK s qs c q i
set_option maxRecDepth 100000 in
set_option maxHeartbeats 16000000 in
theorem walk_LimitsHarmless (a1 : Option Addr) (n1 c1 : Nat) (a2 : Option Addr) (n2 c2 : Nat) (a3 : Option Addr) (n3 c3 : Nat) (a4 : Option Addr) (n4 c4 : Nat) (a5 : Option Addr) (n5 c5 : Nat) (s : GSite) {w : World} (HS : Hid (RdSite w a1 a2 a3 a4 a5 n1 n2 n3 n4 n5 s)) (_ : WfSite s) (aT : Option Addr) (cT m : Nat) (hs : List HdT) (qs : List (List Int)) (hQ : RdLL encI w aT hs qs) (HNQ : Hid (qs.length = m)) (hm : m ≤ 9223372036854775807) (aB : Option Addr) (cB nB : Nat) (bs : List Int) (hB : Rd 1 encU8 w aB bs) (HNB : Hid (bs.length = nB)) (hnB : nB ≤ 9223372036854775807) (hwB : ∀ x, x ∈ bs → (Lit.int .u8 x).wf = true) :
    Calls Try.prog 6 #[.agg #[.slice a1 n1 c1, .slice a2 n2 c2, .slice a3 n3 c3, .slice a4 n4 c4, .slice a5 n5 c5], .slice aT m cT, .slice aB nB cB] w fun e w' => e = .returned (.bool true) ∧ Below w.heap.size w w' := by
  have HQ := Lib.hid hQ
  have HB8 := Lib.hid hB
  have HWB := Lib.hid hwB
  have HM0 := Lib.hid (LwM.box (c1 := c1) (c2 := c2) (c3 := c3) (c4 := c4) (c5 := c5) HS.out)
  clear hQ hB hwB
  go_enter Try.func6, Try.ntmps6
  go_wp2_with fail
  refine (lhHead_any _).mono ?_
  rintro e w1 ⟨rfl, hb⟩
  have HM := Lib.hid (HM0.out.keep hb)
  generalize hXX : w.heap.size = X at HM ⊢
  have HSZ := Lib.hid hXX
  clear hb HM0 hXX
  by_cases hl : 60 < m
  · have hlz : (60 : Int) < (m : Int) := by omega
    go_wp2_with fail
    go_ret
    exact ⟨rfl, HM.out.bel⟩
  have hlz : ¬ (60 : Int) < (m : Int) := by omega
  go_wp2_with fail
  go_loopg [8] m (fun g1 v8 wr => ∃ i : Nat, v8 = .int .i64 i ∧ i ≤ m ∧ m - i ≤ g1 ∧ Hid (LwM w wr X a1 n1 c1 a2 n2 c2 a3 n3 c3 a4 n4 c4 a5 n5 c5 s) ∧ Hid (∀ t q, t < i → qs[t]? = some q → loadB s q = true ∧ vioO s q = none))
  case atStart => exact ⟨0, by go_num, by omega, by omega, HM, Lib.hid (fun t q ht => by omega)⟩
  case round =>
    clear HM
    obtain ⟨i, rfl, hi, hg1, HM, HA⟩ := hrel
    obtain ⟨k0, k1, k2, k3, k4⟩ : wr.cell? ⟨X, 0, none⟩ = some (.slice a1 n1 c1) ∧ wr.cell? ⟨X, 1, none⟩ = some (.slice a2 n2 c2) ∧ wr.cell? ⟨X, 2, none⟩ = some (.slice a3 n3 c3) ∧ wr.cell? ⟨X, 3, none⟩ = some (.slice a4 n4 c4) ∧ wr.cell? ⟨X, 4, none⟩ = some (.slice a5 n5 c5) := ⟨HM.out.k0, HM.out.k1, HM.out.k2, HM.out.k3, HM.out.k4⟩
    by_cases hlt : i < m
    · have hltz : (i : Int) < (m : Int) := by omega
      obtain ⟨bq, oq, aq, nq, cq, q, hAq, hbq, hqi, hnq, hnm, hrq, hcq⟩ := (HQ.out.keep HM.out.bel).at_ (k := i) (by rw [HNQ.out]; exact hlt)
      have HQI := Lib.hid hqi
      have HRQ := Lib.hid hrq
      have HNQ2 := Lib.hid hnq
      have hnm2 : nq ≤ 9223372036854775807 := by unfold maxLen at hnm; omega
      have HVA := Lib.hid (lhValid_any a1 a2 a3 a4 a5 n1 c1 n2 c2 n3 c3 n4 c4 n5 c5 aq nq cq s q wr.drew (Lib.hid (HM.out.rs.keep (below_drew wr))) (Lib.hid (hrq.drewN 1)) HNQ2 hnm2)
      have QC := Lib.hid hcq
      have HAT : Hid (aT = some ⟨bq, oq, none⟩) := Lib.hid hAq
      clear hqi hrq hnq hnm hbq
      subst hAq
      go_wp2_with fail
      go_still_tail 5, (by kernel_rfl)
      change wpList _ _ _ _ _ wr.drew
      go_wp2_with fail
      refine HVA.out.mono ?_
      rintro e w2 ⟨rfl, hb⟩
      have hbw : Below wr.heap.size wr w2 := (below_drew wr).trans hb
      have HM := Lib.hid (HM.out.keep hbw)
      have HRQ := Lib.hid (HRQ.out.keep hbw)
      have QC : Hid (w2.cell? ⟨bq, oq + i, none⟩ = some (.slice aq nq cq)) := Lib.hid ((hbw.cell (p := ⟨bq, oq + i, none⟩) (World.block_lt_of_cell? wr _ QC.out)).trans QC.out)
      clear hb hbw k0 k1 k2 k3 k4 hcq HVA
      cases hv : lhB s q
      · go_wp2_with fail
        go_ret
        exact ⟨rfl, HM.out.bel⟩
      have HLB := Lib.hid (lhB_load hv)
      clear hv
      obtain ⟨wo, hwo⟩ : ∃ x, x = w2 := ⟨_, rfl⟩
      rw [← hwo]
      subst hwo
      obtain ⟨v0, v1, v2, hv⟩ := vio_agg s q
      obtain ⟨vq, hvq⟩ : ∃ x, x = (vioO s q).isSome := ⟨_, rfl⟩
      have HVQ := Lib.hid hvq
      have HCK : Hid (∀ W, Below wo.heap.size wo W → Calls Try.prog 19 #[.agg #[.slice a1 n1 c1, .slice a2 n2 c2, .slice a3 n3 c3, .slice a4 n4 c4, .slice a5 n5 c5], .slice aq nq cq] W fun e w' => e = .returned (.tuple #[.agg #[.int .i64 v0, .int .i64 v1, .int .i64 v2], .bool vq, .int .i64 0]) ∧ Below W.heap.size W w') := Lib.hid (fun W hW => (limCheck_any a1 a2 a3 a4 a5 n1 c1 n2 c2 n3 c3 n4 c4 n5 c5 aq nq cq s q W (Lib.hid (HM.out.rs.keep hW)) (Lib.hid (HRQ.out.keep hW)) HNQ2 hnm2).mono (fun e w' h => by
        refine ⟨h.1.trans ?_, h.2⟩
        rw [hv, HLB.out, ← hvq]
        rfl))
      clear hv hvq
      go_upto_region 10 with (fail)
      go_cut [11, 12] (fun v11 v12 wx => v11 = .bool vq ∧ v12 = .int .i64 0 ∧ Hid (Below wo.heap.size wo wx))
      case first =>
        refine region_z (S := fun w' => Below wo.heap.size wo w') [] (by kernel_rfl) (Below.refl _ _).drew (fun hHeld => ?_)
        refine wpAnyZ_take (i := 0) (v := .agg #[.slice a1 n1 c1, .slice a2 n2 c2, .slice a3 n3 c3, .slice a4 n4 c4, .slice a5 n5 c5]) [] rfl (by kernel_rfl) (by kernel_rfl) (by kernel_rfl) (by kernel_rfl) (fun _ _ _ h => h) (Or.inl ⟨by kernel_rfl, fun w' hSw => ?_⟩) hHeld ?_
        · have s0 := (HM.out.keep hSw).k0
          have s1 := (HM.out.keep hSw).k1
          have s2 := (HM.out.keep hSw).k2
          have s3 := (HM.out.keep hSw).k3
          have s4 := (HM.out.keep hSw).k4
          have s5 := (hSw.cell (p := ⟨bq, oq + i, none⟩) (World.block_lt_of_cell? _ _ QC.out)).trans QC.out
          clear hHeld hSw
          go_simp
        simp only [Act.put, List.getElem_toArray, List.getElem_cons_zero, List.getElem_cons_succ, List.setIfInBounds_toArray, List.set_cons_zero, List.set_cons_succ]
        refine wpAnyZ_take (i := 1) (v := .slice (some ⟨bq, oq, none⟩) m cT) [] rfl (by kernel_rfl) (by kernel_rfl) (by kernel_rfl) (by kernel_rfl) (fun _ _ _ h => h) (Or.inl ⟨by kernel_rfl, fun w' hSw => ?_⟩) hHeld ?_
        · have s0 := (HM.out.keep hSw).k0
          have s1 := (HM.out.keep hSw).k1
          have s2 := (HM.out.keep hSw).k2
          have s3 := (HM.out.keep hSw).k3
          have s4 := (HM.out.keep hSw).k4
          have s5 := (hSw.cell (p := ⟨bq, oq + i, none⟩) (World.block_lt_of_cell? _ _ QC.out)).trans QC.out
          clear hHeld hSw
          go_simp
        simp only [Act.put, List.getElem_toArray, List.getElem_cons_zero, List.getElem_cons_succ, List.setIfInBounds_toArray, List.set_cons_zero, List.set_cons_succ]
        refine wpAnyZ_take (i := 2) (v := .int .i64 (i : Nat)) [] rfl (by kernel_rfl) (by kernel_rfl) (by kernel_rfl) (by kernel_rfl) (fun _ _ _ h => h) (Or.inl ⟨by kernel_rfl, fun w' hSw => ?_⟩) hHeld ?_
        · have s0 := (HM.out.keep hSw).k0
          have s1 := (HM.out.keep hSw).k1
          have s2 := (HM.out.keep hSw).k2
          have s3 := (HM.out.keep hSw).k3
          have s4 := (HM.out.keep hSw).k4
          have s5 := (hSw.cell (p := ⟨bq, oq + i, none⟩) (World.block_lt_of_cell? _ _ QC.out)).trans QC.out
          clear hHeld hSw
          go_simp
        simp only [Act.put, List.getElem_toArray, List.getElem_cons_zero, List.getElem_cons_succ, List.setIfInBounds_toArray, List.set_cons_zero, List.set_cons_succ]
        refine wpAnyZ_take (i := 3) (v := .pointer (some ⟨bq, oq + i, none⟩)) [] rfl (by kernel_rfl) (by kernel_rfl) (by kernel_rfl) (by kernel_rfl) (fun _ _ _ h => h) (Or.inl ⟨by kernel_rfl, fun w' hSw => ?_⟩) hHeld ?_
        · have s0 := (HM.out.keep hSw).k0
          have s1 := (HM.out.keep hSw).k1
          have s2 := (HM.out.keep hSw).k2
          have s3 := (HM.out.keep hSw).k3
          have s4 := (HM.out.keep hSw).k4
          have s5 := (hSw.cell (p := ⟨bq, oq + i, none⟩) (World.block_lt_of_cell? _ _ QC.out)).trans QC.out
          clear hHeld hSw
          go_simp
        simp only [Act.put, List.getElem_toArray, List.getElem_cons_zero, List.getElem_cons_succ, List.setIfInBounds_toArray, List.set_cons_zero, List.set_cons_succ]
        refine wpAnyZ_take (i := 4) (v := .slice aq nq cq) [] rfl (by kernel_rfl) (by kernel_rfl) (by kernel_rfl) (by kernel_rfl) (fun _ _ _ h => h) (Or.inl ⟨by kernel_rfl, fun w' hSw => ?_⟩) hHeld ?_
        · have s0 := (HM.out.keep hSw).k0
          have s1 := (HM.out.keep hSw).k1
          have s2 := (HM.out.keep hSw).k2
          have s3 := (HM.out.keep hSw).k3
          have s4 := (HM.out.keep hSw).k4
          have s5 := (hSw.cell (p := ⟨bq, oq + i, none⟩) (World.block_lt_of_cell? _ _ QC.out)).trans QC.out
          clear hHeld hSw
          go_simp
        simp only [Act.put, List.getElem_toArray, List.getElem_cons_zero, List.getElem_cons_succ, List.setIfInBounds_toArray, List.set_cons_zero, List.set_cons_succ]
        refine wpAnyZ_two (i := 5) (k := 10) (by kernel_rfl) rfl rfl (fun K' hK => ?_) (fun K' hK => ?_)
        · go_simp
          refine (HCK.out _ hHeld).mono ?_
          rintro e WC ⟨rfl, hbc⟩
          refine hK.out _ _ ?_ (fun hHeld' => ?_)
          · exact hHeld.trans (hbc.mono hHeld.size)
          clear hK K' hHeld hbc
          have hHeld := hHeld'
          clear hHeld'
          try simp only [Act.put, List.getElem_toArray, List.getElem_cons_zero, List.getElem_cons_succ, List.setIfInBounds_toArray, List.set_cons_zero, List.set_cons_succ]
          refine wpAnyZ_take (i := 6) (v := .tuple #[.agg #[.int .i64 v0, .int .i64 v1, .int .i64 v2], .bool vq, .int .i64 0]) [] rfl (by kernel_rfl) (by kernel_rfl) (by kernel_rfl) (by kernel_rfl) (fun _ _ _ h => h) (Or.inl ⟨by kernel_rfl, fun w' hSw => ?_⟩) hHeld ?_
          · clear hHeld hSw
            go_simp
          simp only [Act.put, List.getElem_toArray, List.getElem_cons_zero, List.getElem_cons_succ, List.setIfInBounds_toArray, List.set_cons_zero, List.set_cons_succ]
          refine wpAnyZ_take (i := 7) (v := .agg #[.int .i64 v0, .int .i64 v1, .int .i64 v2]) [] rfl (by kernel_rfl) (by kernel_rfl) (by kernel_rfl) (by kernel_rfl) (fun _ _ _ h => h) (Or.inl ⟨by kernel_rfl, fun w' hSw => ?_⟩) hHeld ?_
          · clear hHeld hSw
            go_simp
          simp only [Act.put, List.getElem_toArray, List.getElem_cons_zero, List.getElem_cons_succ, List.setIfInBounds_toArray, List.set_cons_zero, List.set_cons_succ]
          refine wpAnyZ_take (i := 8) (v := .bool vq) [] rfl (by kernel_rfl) (by kernel_rfl) (by kernel_rfl) (by kernel_rfl) (fun _ _ _ h => h) (Or.inl ⟨by kernel_rfl, fun w' hSw => ?_⟩) hHeld ?_
          · clear hHeld hSw
            go_simp
          simp only [Act.put, List.getElem_toArray, List.getElem_cons_zero, List.getElem_cons_succ, List.setIfInBounds_toArray, List.set_cons_zero, List.set_cons_succ]
          refine wpAnyZ_take (i := 9) (v := .int .i64 0) [] rfl (by kernel_rfl) (by kernel_rfl) (by kernel_rfl) (by kernel_rfl) (fun _ _ _ h => h) (Or.inl ⟨by kernel_rfl, fun w' hSw => ?_⟩) hHeld ?_
          · clear hHeld hSw
            go_simp
          simp only [Act.put, List.getElem_toArray, List.getElem_cons_zero, List.getElem_cons_succ, List.setIfInBounds_toArray, List.set_cons_zero, List.set_cons_succ]
          refine wpAnyZ_one (i := 10) (by kernel_rfl) rfl (fun K' hK => ?_)
          go_simp
          refine hK.out _ _ ?_ (fun hHeld' => ?_)
          · exact hHeld.alloc hHeld.size _
          clear hK K'
          have GG0 := hHeld.size
          have hHeld := hHeld'
          clear hHeld'
          try simp only [Act.put, List.getElem_toArray, List.getElem_cons_zero, List.getElem_cons_succ, List.setIfInBounds_toArray, List.set_cons_zero, List.set_cons_succ]
          obtain ⟨WQ, G, OG, GG, HWQ⟩ : ∃ WQ G, Hid (Own WQ G 39 3 (v3F 0 0 0)) ∧ wo.heap.size ≤ G ∧ Hid (WQ = WC.alloc (.cells #[.int .i64 0, .int .i64 0, .int .i64 0] 39) ∧ G = WC.heap.size) := ⟨_, _, Lib.hid (Own.threeT WC 39 0 0 0), GG0, Lib.hid ⟨rfl, rfl⟩⟩
          rw [← HWQ.out.1] at hHeld ⊢
          rw [← HWQ.out.2]
          refine wpAnyZ_one (i := 11) (by kernel_rfl) rfl (fun K' hK => ?_)
          have c0 : WQ.cell? ⟨G, 0, none⟩ = some (.int .i64 0) := OG.out.cell (i := 0) (by omega)
          have c1 : WQ.cell? ⟨G, 1, none⟩ = some (.int .i64 0) := OG.out.cell (i := 1) (by omega)
          have c2 : WQ.cell? ⟨G, 2, none⟩ = some (.int .i64 0) := OG.out.cell (i := 2) (by omega)
          have f0 := OG.out.frozen 0
          have f1 := OG.out.frozen 1
          have f2 := OG.out.frozen 2
          go_simp
          refine hK.out _ _ ?_ (fun hHeld' => ?_)
          · exact ((hHeld.setCell (p := ⟨G, 0, none⟩) GG _).setCell (p := ⟨G, 1, none⟩) GG _).setCell (p := ⟨G, 2, none⟩) GG _
          have OG3 : Hid (Own (((WQ.setCell ⟨G, 0, none⟩ (.int .i64 v0)).setCell ⟨G, 1, none⟩ (.int .i64 v1)).setCell ⟨G, 2, none⟩ (.int .i64 v2)) G 39 3 (v3F v0 v1 v2)) := Lib.hid (OG.out.set3T _ _ _)
          clear hK K' hHeld c0 c1 c2 f0 f1 f2 OG
          have hHeld := hHeld'
          clear hHeld'
          try simp only [Act.put, List.getElem_toArray, List.getElem_cons_zero, List.getElem_cons_succ, List.setIfInBounds_toArray, List.set_cons_zero, List.set_cons_succ]
          refine wpAnyZ_take (i := 12) (v := .bool vq) [] rfl (by kernel_rfl) (by kernel_rfl) (by kernel_rfl) (by kernel_rfl) (fun _ _ _ h => h) (Or.inl ⟨by kernel_rfl, fun w' hSw => ?_⟩) hHeld ?_
          · clear hHeld hSw
            go_simp
          simp only [Act.put, List.getElem_toArray, List.getElem_cons_zero, List.getElem_cons_succ, List.setIfInBounds_toArray, List.set_cons_zero, List.set_cons_succ]
          refine wpAnyZ_take (i := 13) (v := .int .i64 0) [] rfl (by kernel_rfl) (by kernel_rfl) (by kernel_rfl) (by kernel_rfl) (fun _ _ _ h => h) (Or.inl ⟨by kernel_rfl, fun w' hSw => ?_⟩) hHeld ?_
          · clear hHeld hSw
            go_simp
          simp only [Act.put, List.getElem_toArray, List.getElem_cons_zero, List.getElem_cons_succ, List.setIfInBounds_toArray, List.set_cons_zero, List.set_cons_succ]
          refine wpAnyZ_done (by kernel_rfl) ?_ _
          go_wp2_with fail
          go_meet
          exact ⟨rfl, rfl, Lib.hid hHeld⟩
        · go_simp
          refine hK.out _ _ ?_ (fun hHeld' => ?_)
          · exact hHeld.alloc hHeld.size _
          clear hK K'
          have GG0 := hHeld.size
          have hHeld := hHeld'
          clear hHeld'
          try simp only [Act.put, List.getElem_toArray, List.getElem_cons_zero, List.getElem_cons_succ, List.setIfInBounds_toArray, List.set_cons_zero, List.set_cons_succ]
          obtain ⟨WP, OG, HWQ⟩ : ∃ WP, Hid (Own WP wo.heap.size 39 3 (v3F 0 0 0)) ∧ Hid (WP = (wo.alloc (.cells #[.int .i64 0, .int .i64 0, .int .i64 0] 39)).drew) := ⟨_, Lib.hid (Own.threeT wo 39 0 0 0).drew, Lib.hid rfl⟩
          have GG : wo.heap.size ≤ wo.heap.size := Nat.le_refl _
          rw [← HWQ.out] at hHeld ⊢
          refine wpAnyZ_one (i := 5) (by kernel_rfl) rfl (fun K' hK => ?_)
          go_simp
          refine (HCK.out _ hHeld).mono ?_
          rintro e WC ⟨rfl, hbc⟩
          refine hK.out _ _ ?_ (fun hHeld' => ?_)
          · exact hHeld.trans (hbc.mono hHeld.size)
          have OG : Hid (Own WC wo.heap.size 39 3 (v3F 0 0 0)) := Lib.hid (OG.out.keep hbc OG.out.lt)
          clear hK K' hHeld hbc
          have hHeld := hHeld'
          clear hHeld'
          try simp only [Act.put, List.getElem_toArray, List.getElem_cons_zero, List.getElem_cons_succ, List.setIfInBounds_toArray, List.set_cons_zero, List.set_cons_succ]
          refine wpAnyZ_take (i := 6) (v := .tuple #[.agg #[.int .i64 v0, .int .i64 v1, .int .i64 v2], .bool vq, .int .i64 0]) [] rfl (by kernel_rfl) (by kernel_rfl) (by kernel_rfl) (by kernel_rfl) (fun _ _ _ h => h) (Or.inl ⟨by kernel_rfl, fun w' hSw => ?_⟩) hHeld ?_
          · clear hHeld hSw
            go_simp
          simp only [Act.put, List.getElem_toArray, List.getElem_cons_zero, List.getElem_cons_succ, List.setIfInBounds_toArray, List.set_cons_zero, List.set_cons_succ]
          refine wpAnyZ_take (i := 7) (v := .agg #[.int .i64 v0, .int .i64 v1, .int .i64 v2]) [] rfl (by kernel_rfl) (by kernel_rfl) (by kernel_rfl) (by kernel_rfl) (fun _ _ _ h => h) (Or.inl ⟨by kernel_rfl, fun w' hSw => ?_⟩) hHeld ?_
          · clear hHeld hSw
            go_simp
          simp only [Act.put, List.getElem_toArray, List.getElem_cons_zero, List.getElem_cons_succ, List.setIfInBounds_toArray, List.set_cons_zero, List.set_cons_succ]
          refine wpAnyZ_take (i := 8) (v := .bool vq) [] rfl (by kernel_rfl) (by kernel_rfl) (by kernel_rfl) (by kernel_rfl) (fun _ _ _ h => h) (Or.inl ⟨by kernel_rfl, fun w' hSw => ?_⟩) hHeld ?_
          · clear hHeld hSw
            go_simp
          simp only [Act.put, List.getElem_toArray, List.getElem_cons_zero, List.getElem_cons_succ, List.setIfInBounds_toArray, List.set_cons_zero, List.set_cons_succ]
          refine wpAnyZ_take (i := 9) (v := .int .i64 0) [] rfl (by kernel_rfl) (by kernel_rfl) (by kernel_rfl) (by kernel_rfl) (fun _ _ _ h => h) (Or.inl ⟨by kernel_rfl, fun w' hSw => ?_⟩) hHeld ?_
          · clear hHeld hSw
            go_simp
          simp only [Act.put, List.getElem_toArray, List.getElem_cons_zero, List.getElem_cons_succ, List.setIfInBounds_toArray, List.set_cons_zero, List.set_cons_succ]
          refine wpAnyZ_one (i := 11) (by kernel_rfl) rfl (fun K' hK => ?_)
          have c0 : WC.cell? ⟨wo.heap.size, 0, none⟩ = some (.int .i64 0) := OG.out.cell (i := 0) (by omega)
          have c1 : WC.cell? ⟨wo.heap.size, 1, none⟩ = some (.int .i64 0) := OG.out.cell (i := 1) (by omega)
          have c2 : WC.cell? ⟨wo.heap.size, 2, none⟩ = some (.int .i64 0) := OG.out.cell (i := 2) (by omega)
          have f0 := OG.out.frozen 0
          have f1 := OG.out.frozen 1
          have f2 := OG.out.frozen 2
          go_simp
          refine hK.out _ _ ?_ (fun hHeld' => ?_)
          · exact ((hHeld.setCell (p := ⟨wo.heap.size, 0, none⟩) GG _).setCell (p := ⟨wo.heap.size, 1, none⟩) GG _).setCell (p := ⟨wo.heap.size, 2, none⟩) GG _
          have OG3 : Hid (Own (((WC.setCell ⟨wo.heap.size, 0, none⟩ (.int .i64 v0)).setCell ⟨wo.heap.size, 1, none⟩ (.int .i64 v1)).setCell ⟨wo.heap.size, 2, none⟩ (.int .i64 v2)) wo.heap.size 39 3 (v3F v0 v1 v2)) := Lib.hid (OG.out.set3T _ _ _)
          clear hK K' hHeld c0 c1 c2 f0 f1 f2 OG
          have hHeld := hHeld'
          clear hHeld'
          try simp only [Act.put, List.getElem_toArray, List.getElem_cons_zero, List.getElem_cons_succ, List.setIfInBounds_toArray, List.set_cons_zero, List.set_cons_succ]
          refine wpAnyZ_take (i := 12) (v := .bool vq) [] rfl (by kernel_rfl) (by kernel_rfl) (by kernel_rfl) (by kernel_rfl) (fun _ _ _ h => h) (Or.inl ⟨by kernel_rfl, fun w' hSw => ?_⟩) hHeld ?_
          · clear hHeld hSw
            go_simp
          simp only [Act.put, List.getElem_toArray, List.getElem_cons_zero, List.getElem_cons_succ, List.setIfInBounds_toArray, List.set_cons_zero, List.set_cons_succ]
          refine wpAnyZ_take (i := 13) (v := .int .i64 0) [] rfl (by kernel_rfl) (by kernel_rfl) (by kernel_rfl) (by kernel_rfl) (fun _ _ _ h => h) (Or.inl ⟨by kernel_rfl, fun w' hSw => ?_⟩) hHeld ?_
          · clear hHeld hSw
            go_simp
          simp only [Act.put, List.getElem_toArray, List.getElem_cons_zero, List.getElem_cons_succ, List.setIfInBounds_toArray, List.set_cons_zero, List.set_cons_succ]
          refine wpAnyZ_done (by kernel_rfl) ?_ _
          go_wp2_with fail
          go_meet
          exact ⟨rfl, rfl, Lib.hid hHeld⟩
      case rest =>
        obtain ⟨rfl, rfl, HBC⟩ := hcut
        have HM := Lib.hid (HM.out.keep HBC.out)
        clear HCK QC HBC HRQ
        cases vq
        case true =>
          go_wp2_with fail
          go_ret
          exact ⟨rfl, HM.out.bel⟩
        case false =>
          have HA2 : Hid (∀ t q, t < i + 1 → qs[t]? = some q → loadB s q = true ∧ vioO s q = none) := Lib.hid (fun t q' ht hq' => by
            rcases Nat.lt_succ_iff_lt_or_eq.1 ht with h | h
            · exact HA.out t q' h hq'
            · rw [h, HQI.out] at hq'
              injection hq' with hq'
              subst hq'
              refine ⟨HLB.out, ?_⟩
              have h1 := HVQ.out.symm
              rw [Option.isSome_eq_false_iff, Option.isNone_iff_eq_none] at h1
              exact h1)
          go_wp2_with fail
          go_roundg (m - (i + 1))
          case measure => omega
          case rel => exact ⟨i + 1, by go_num, by omega, by omega, HM, HA2⟩
    have hltz : ¬ (i : Int) < (m : Int) := by omega
    have HAA : Hid (∀ t q, qs[t]? = some q → loadB s q = true ∧ vioO s q = none) := Lib.hid (fun t q hq => HA.out t q (by
      have h1 := (List.getElem?_eq_some_iff.1 hq).1
      have h2 := HNQ.out
      omega) hq)
    clear HA
    by_cases hm0 : m = 0
    · have hmz : decide ((0 : Int) < (m : Int)) = false := decide_eq_false (by omega)
      have hmz2 : ¬ (0 : Int) < (m : Int) := by omega
      clear hm0
      go_wp2_with fail
      go_loopg [7, 13] 1 (fun g1 v7 v13 wr => v13 = .int .i64 0 ∧ v7 = .bool true ∧ Hid (LwM w wr X a1 n1 c1 a2 n2 c2 a3 n3 c3 a4 n4 c4 a5 n5 c5 s))
      case atStart => exact ⟨by go_num, rfl, HM⟩
      case round =>
        clear HM
        obtain ⟨rfl, rfl, HM⟩ := hrel
        obtain ⟨k0, k1, k2, k3, k4⟩ : wr.cell? ⟨X, 0, none⟩ = some (.slice a1 n1 c1) ∧ wr.cell? ⟨X, 1, none⟩ = some (.slice a2 n2 c2) ∧ wr.cell? ⟨X, 2, none⟩ = some (.slice a3 n3 c3) ∧ wr.cell? ⟨X, 3, none⟩ = some (.slice a4 n4 c4) ∧ wr.cell? ⟨X, 4, none⟩ = some (.slice a5 n5 c5) := ⟨HM.out.k0, HM.out.k1, HM.out.k2, HM.out.k3, HM.out.k4⟩
        by_cases hn10 : n1 = 0
        · have hnz : decide ((0 : Int) < (n1 : Int)) = false := decide_eq_false (by omega)
          go_wp2_with fail
          go_ret
          exact ⟨rfl, HM.out.bel⟩
        · have hnz : decide ((0 : Int) < (n1 : Int)) = true := decide_eq_true (by omega)
          go_wp2_with fail
          go_ret
          exact ⟨rfl, HM.out.bel⟩
    obtain ⟨q0, hq0⟩ : ∃ q, qs[0]? = some q := ⟨_, List.getElem?_eq_getElem (by have := HNQ.out; omega)⟩
    have hok : okSB keyL s = true := by
      have h1 := (HAA.out 0 q0 hq0).1
      cases h : okSB keyL s
      · rw [loadB_no1 h] at h1; cases h1
      · rfl
    have HOK := Lib.hid (okSB_iff.1 hok)
    have hn16 : n1 ≤ 16 := by have h1 := HOK.out.n2; have h2 := HS.out.l1; omega
    have HCL : Hid (s.cons.length = n1) := Lib.hid HS.out.l1
    have hmz : decide ((0 : Int) < (m : Int)) = true := decide_eq_true (by omega)
    have HM00 : Hid (0 < m) := Lib.hid (by omega)
    clear hq0 hok hm0
    go_wp2_with fail
    clear hmz
    go_loopg [7, 13] n1 (fun g1 v7 v13 wr => ∃ c : Nat, v13 = .int .i64 c ∧ c ≤ n1 ∧ n1 - c ≤ g1 ∧ v7 = .bool true ∧ Hid (LwM w wr X a1 n1 c1 a2 n2 c2 a3 n3 c3 a4 n4 c4 a5 n5 c5 s))
    case atStart => exact ⟨0, by go_num, by omega, by omega, rfl, HM⟩
    case round =>
      clear HM
      obtain ⟨c, rfl, hc, hg1, rfl, HM⟩ := hrel
      obtain ⟨k0, k1, k2, k3, k4⟩ : wr.cell? ⟨X, 0, none⟩ = some (.slice a1 n1 c1) ∧ wr.cell? ⟨X, 1, none⟩ = some (.slice a2 n2 c2) ∧ wr.cell? ⟨X, 2, none⟩ = some (.slice a3 n3 c3) ∧ wr.cell? ⟨X, 3, none⟩ = some (.slice a4 n4 c4) ∧ wr.cell? ⟨X, 4, none⟩ = some (.slice a5 n5 c5) := ⟨HM.out.k0, HM.out.k1, HM.out.k2, HM.out.k3, HM.out.k4⟩
      by_cases hlc : c < n1
      · have hlcz : decide ((c : Int) < (n1 : Int)) = true := decide_eq_true (by omega)
        have hlcz2 : (c : Int) < (n1 : Int) := by omega
        have hmz : decide ((0 : Int) < (m : Int)) = true := decide_eq_true (by have := HM00.out; omega)
        have hmz2 : (0 : Int) < (m : Int) := by have := HM00.out; omega
        obtain ⟨b, off, g, hAc, hbl, hgx, d0, d1, d2, d3, d4, d5, d6, d7, d8, d9, d10⟩ := rdCon_at HM.out.rs.r1 (k := c) (by rw [HCL.out]; exact hlc)
        have HLI : Hid (limAt s c = limV g) := Lib.hid (by unfold limAt; rw [hgx]; rfl)
        have HOC := Lib.hid (HOK.out.okC hgx)
        have HLD : Hid (∀ i p, i < m → p < 3 → (0 ≤ ldF s qs c i p) ∧ ldF s qs c i p ≤ limV g) := Lib.hid (fun i p hi hp => by
          have hq : qs[i]? = some (qs[i]'(by rw [HNQ.out]; exact hi)) := List.getElem?_eq_getElem _
          have h1 := HAA.out i _ hq
          have h2 := ldF_bd hq h1.1 h1.2 (c := c) (p := p) (by rw [HCL.out]; exact hlc) hp
          rw [HLI.out] at h2
          exact h2)
        have HHC : Hid (∀ x, 0 ≤ x → x ≤ limV g → x ≤ g.limit ∧ x ≤ g.neutral ∧ x ≤ 1000 ∧ (g.rated = 0 ∨ x ≤ g.rated) ∧ (zC g = true ∨ g.gain * x * x ≤ roomC g)) := Lib.hid (fun x h0 h1 => harm_c HOC.out h0 h1)
        have HGN : Hid (1 ≤ g.neutral ∧ g.neutral ≤ 1000) := Lib.hid HOC.out.neu
        have HAC : Hid (a1 = some ⟨b, off, none⟩) := Lib.hid hAc
        clear hgx hbl
        subst hAc
        go_wp2_with fail
        obtain ⟨WA, hWA⟩ : ∃ WA, WA = (wr.alloc (.cells #[.string g.name, .int .i64 g.up, .int .i64 g.limit, .int .i64 g.neutral, .int .i64 g.rated, .int .i64 g.heat, .int .i64 g.amb, .int .i64 g.most, .int .i64 g.gain, .int .i64 g.loss, .int .i64 g.den] 55)).alloc (.cells #[.slice none 0 0, .slice none 0 0, .slice none 0 0] 59) := ⟨_, rfl⟩
        have bA : Below wr.heap.size wr WA := by rw [hWA]; exact ((Below.refl _ wr).alloc (Nat.le_refl _) _).alloc (by simp) _
        have HY : Hid (Own WA wr.heap.size 55 11 (conF g)) := Lib.hid (by rw [hWA]; exact (conF_new wr g).alloc _)
        have HP : Hid (PhM WA (wr.heap.size + 1 + 1) (wr.heap.size + 1) (fun _ => .slice none 0 0) (fun p => phK s qs c p 0) (.slice none 0 0) (anK s qs c (chF nB bs) 0)) := Lib.hid (by
          refine ⟨?_, fun q hq => OwnL.nil _ _, OwnL.nil _ _, fun q r _ _ _ k hk => (by cases hk), fun q _ k hk => (by cases hk), by omega, by rw [hWA]; simp⟩
          rw [hWA]
          have h := Own.newAt (wr.alloc (.cells #[.string g.name, .int .i64 g.up, .int .i64 g.limit, .int .i64 g.neutral, .int .i64 g.rated, .int .i64 g.heat, .int .i64 g.amb, .int .i64 g.most, .int .i64 g.gain, .int .i64 g.loss, .int .i64 g.den] 55)) 59 #[.slice none 0 0, .slice none 0 0, .slice none 0 0] (wr.heap.size + 1) (by simp) (n := 3) rfl (f := fun _ => .slice none 0 0) (fun i hi => by match i, hi with | 0, _ => rfl | 1, _ => rfl | 2, _ => rfl)
          exact h)
        have HM := Lib.hid (HM.out.keep bA)
        have hXY : Hid (X < wr.heap.size) := Lib.hid (World.block_lt_of_cell? _ _ k0)
        rw [← hWA]
        clear hWA bA k0 k1 k2 k3 k4 d0 d1 d2 d3 d4 d5 d6 d7 d8 d9 d10
        generalize wr.heap.size = Y at *
        go_loopg [7, 16, 17] m (fun g2 v7 v16 v17 wq => ∃ (i : Nat) (pv : Nat → Value), v17 = .int .i64 i ∧ i ≤ m ∧ m - i ≤ g2 ∧ v7 = .bool true ∧ Hid (LwM w wq X (some ⟨b, off, none⟩) n1 c1 a2 n2 c2 a3 n3 c3 a4 n4 c4 a5 n5 c5 s) ∧ Hid (Own wq Y 55 11 (conF g)) ∧ Hid (PhM wq (Y + 1 + 1) (Y + 1) pv (fun p => phK s qs c p i) v16 (anK s qs c (chF nB bs) i)))
        case atStart => exact ⟨0, _, by go_num, by omega, by omega, rfl, HM, HY, HP⟩
        case round =>
          clear HM HY HP
          obtain ⟨i, pv, rfl, hi, hg2, rfl, HM, HY, HP⟩ := hrel
          by_cases hlt : i < m
          · have hltz : (i : Int) < (m : Int) := by omega
            obtain ⟨bq, oq, aq, nq, cq, q, hAq, hbq, hqi, hnq, hnm, hrq, hcq⟩ := (HQ.out.keep HM.out.bel).at_ (k := i) (by rw [HNQ.out]; exact hlt)
            have hnm2 : nq ≤ 9223372036854775807 := by unfold maxLen at hnm; omega
            have HRQ := Lib.hid hrq
            have HNQ2 := Lib.hid hnq
            have QC := Lib.hid hcq
            have HAT : Hid (aT = some ⟨bq, oq, none⟩) := Lib.hid hAq
            have HLL : Hid (∀ p, lodF s q (c : Int) p = ldF s qs c i p) := Lib.hid (fun p => by
              have h1 := HAA.out i q hqi
              unfold lodF ldF
              rw [if_pos ⟨h1.1, by omega, by rw [HCL.out]; omega⟩, Int.toNat_natCast, hqi]
              rfl)
            clear hqi hrq hnq hnm hbq
            subst hAq
            obtain ⟨wo, hwo⟩ : ∃ x, x = wr := ⟨_, rfl⟩
            subst hwo
            obtain ⟨k0, k1, k2, k3, k4⟩ : wo.cell? ⟨X, 0, none⟩ = some (.slice (some ⟨b, off, none⟩) n1 c1) ∧ wo.cell? ⟨X, 1, none⟩ = some (.slice a2 n2 c2) ∧ wo.cell? ⟨X, 2, none⟩ = some (.slice a3 n3 c3) ∧ wo.cell? ⟨X, 3, none⟩ = some (.slice a4 n4 c4) ∧ wo.cell? ⟨X, 4, none⟩ = some (.slice a5 n5 c5) := ⟨HM.out.k0, HM.out.k1, HM.out.k2, HM.out.k3, HM.out.k4⟩
            obtain ⟨l0, hl0⟩ : ∃ x, x = ldF s qs c i 0 := ⟨_, rfl⟩
            obtain ⟨l1, hl1⟩ : ∃ x, x = ldF s qs c i 1 := ⟨_, rfl⟩
            obtain ⟨l2, hl2⟩ : ∃ x, x = ldF s qs c i 2 := ⟨_, rfl⟩
            have HL3 := Lib.hid (And.intro hl0 (And.intro hl1 hl2))
            have HCK : Hid (∀ W, Below wo.heap.size wo W → Calls Try.prog 25 #[.agg #[.slice (some ⟨b, off, none⟩) n1 c1, .slice a2 n2 c2, .slice a3 n3 c3, .slice a4 n4 c4, .slice a5 n5 c5], .slice aq nq cq, .int .i64 (c : Nat)] W fun e w' => e = .returned (.agg #[.int .i64 l0, .int .i64 l1, .int .i64 l2]) ∧ Below W.heap.size W w') := Lib.hid (fun W hW => (lhLoads_any (some ⟨b, off, none⟩) a2 a3 a4 a5 n1 c1 n2 c2 n3 c3 n4 c4 n5 c5 aq nq cq s q (c : Int) W (Lib.hid (HM.out.rs.keep hW)) (Lib.hid (HRQ.out.keep hW)) HNQ2 hnm2).mono (fun e w' h => by
              refine ⟨h.1.trans ?_, h.2⟩
              rw [HLL.out, HLL.out, HLL.out, ← hl0, ← hl1, ← hl2]))
            clear hl0 hl1 hl2 hcq
            go_upto_region 22 with (fail)
            go_cut [18] (fun v18 wx => ∃ L, v18 = .pointer (some ⟨L, 0, none⟩) ∧ Hid (Own wx L 60 3 (v3F l0 l1 l2)) ∧ Hid (Below wo.heap.size wo wx))
            case first =>
              clear k0 k1 k2 k3 k4
              refine region_z (S := fun w' => Below wo.heap.size wo w') [] (by kernel_rfl) (Below.refl _ _).drew (fun hHeld => ?_)
              refine wpAnyZ_take (i := 0) (v := .agg #[.slice (some ⟨b, off, none⟩) n1 c1, .slice a2 n2 c2, .slice a3 n3 c3, .slice a4 n4 c4, .slice a5 n5 c5]) [] rfl (by kernel_rfl) (by kernel_rfl) (by kernel_rfl) (by kernel_rfl) (fun _ _ _ h => h) (Or.inl ⟨by kernel_rfl, fun w' hSw => ?_⟩) hHeld ?_
              · have s0 := (HM.out.keep hSw).k0
                have s1 := (HM.out.keep hSw).k1
                have s2 := (HM.out.keep hSw).k2
                have s3 := (HM.out.keep hSw).k3
                have s4 := (HM.out.keep hSw).k4
                have s5 := (hSw.cell (p := ⟨bq, oq + i, none⟩) (World.block_lt_of_cell? _ _ QC.out)).trans QC.out
                clear hHeld hSw
                go_simp
              simp only [Act.put, List.getElem_toArray, List.getElem_cons_zero, List.getElem_cons_succ, List.setIfInBounds_toArray, List.set_cons_zero, List.set_cons_succ]
              refine wpAnyZ_take (i := 1) (v := .slice (some ⟨bq, oq, none⟩) m cT) [] rfl (by kernel_rfl) (by kernel_rfl) (by kernel_rfl) (by kernel_rfl) (fun _ _ _ h => h) (Or.inl ⟨by kernel_rfl, fun w' hSw => ?_⟩) hHeld ?_
              · have s0 := (HM.out.keep hSw).k0
                have s1 := (HM.out.keep hSw).k1
                have s2 := (HM.out.keep hSw).k2
                have s3 := (HM.out.keep hSw).k3
                have s4 := (HM.out.keep hSw).k4
                have s5 := (hSw.cell (p := ⟨bq, oq + i, none⟩) (World.block_lt_of_cell? _ _ QC.out)).trans QC.out
                clear hHeld hSw
                go_simp
              simp only [Act.put, List.getElem_toArray, List.getElem_cons_zero, List.getElem_cons_succ, List.setIfInBounds_toArray, List.set_cons_zero, List.set_cons_succ]
              refine wpAnyZ_take (i := 2) (v := .int .i64 (i : Nat)) [] rfl (by kernel_rfl) (by kernel_rfl) (by kernel_rfl) (by kernel_rfl) (fun _ _ _ h => h) (Or.inl ⟨by kernel_rfl, fun w' hSw => ?_⟩) hHeld ?_
              · have s0 := (HM.out.keep hSw).k0
                have s1 := (HM.out.keep hSw).k1
                have s2 := (HM.out.keep hSw).k2
                have s3 := (HM.out.keep hSw).k3
                have s4 := (HM.out.keep hSw).k4
                have s5 := (hSw.cell (p := ⟨bq, oq + i, none⟩) (World.block_lt_of_cell? _ _ QC.out)).trans QC.out
                clear hHeld hSw
                go_simp
              simp only [Act.put, List.getElem_toArray, List.getElem_cons_zero, List.getElem_cons_succ, List.setIfInBounds_toArray, List.set_cons_zero, List.set_cons_succ]
              refine wpAnyZ_take (i := 3) (v := .pointer (some ⟨bq, oq + i, none⟩)) [] rfl (by kernel_rfl) (by kernel_rfl) (by kernel_rfl) (by kernel_rfl) (fun _ _ _ h => h) (Or.inl ⟨by kernel_rfl, fun w' hSw => ?_⟩) hHeld ?_
              · have s0 := (HM.out.keep hSw).k0
                have s1 := (HM.out.keep hSw).k1
                have s2 := (HM.out.keep hSw).k2
                have s3 := (HM.out.keep hSw).k3
                have s4 := (HM.out.keep hSw).k4
                have s5 := (hSw.cell (p := ⟨bq, oq + i, none⟩) (World.block_lt_of_cell? _ _ QC.out)).trans QC.out
                clear hHeld hSw
                go_simp
              simp only [Act.put, List.getElem_toArray, List.getElem_cons_zero, List.getElem_cons_succ, List.setIfInBounds_toArray, List.set_cons_zero, List.set_cons_succ]
              refine wpAnyZ_take (i := 4) (v := .slice aq nq cq) [] rfl (by kernel_rfl) (by kernel_rfl) (by kernel_rfl) (by kernel_rfl) (fun _ _ _ h => h) (Or.inl ⟨by kernel_rfl, fun w' hSw => ?_⟩) hHeld ?_
              · have s0 := (HM.out.keep hSw).k0
                have s1 := (HM.out.keep hSw).k1
                have s2 := (HM.out.keep hSw).k2
                have s3 := (HM.out.keep hSw).k3
                have s4 := (HM.out.keep hSw).k4
                have s5 := (hSw.cell (p := ⟨bq, oq + i, none⟩) (World.block_lt_of_cell? _ _ QC.out)).trans QC.out
                clear hHeld hSw
                go_simp
              simp only [Act.put, List.getElem_toArray, List.getElem_cons_zero, List.getElem_cons_succ, List.setIfInBounds_toArray, List.set_cons_zero, List.set_cons_succ]
              refine wpAnyZ_take (i := 5) (v := .int .i64 (c : Nat)) [] rfl (by kernel_rfl) (by kernel_rfl) (by kernel_rfl) (by kernel_rfl) (fun _ _ _ h => h) (Or.inl ⟨by kernel_rfl, fun w' hSw => ?_⟩) hHeld ?_
              · have s0 := (HM.out.keep hSw).k0
                have s1 := (HM.out.keep hSw).k1
                have s2 := (HM.out.keep hSw).k2
                have s3 := (HM.out.keep hSw).k3
                have s4 := (HM.out.keep hSw).k4
                have s5 := (hSw.cell (p := ⟨bq, oq + i, none⟩) (World.block_lt_of_cell? _ _ QC.out)).trans QC.out
                clear hHeld hSw
                go_simp
              simp only [Act.put, List.getElem_toArray, List.getElem_cons_zero, List.getElem_cons_succ, List.setIfInBounds_toArray, List.set_cons_zero, List.set_cons_succ]
              refine wpAnyZ_two (i := 6) (k := 7) (by kernel_rfl) rfl rfl (fun K' hK => ?_) (fun K' hK => ?_)
              · go_simp
                refine (HCK.out _ hHeld).mono ?_
                rintro e WC ⟨rfl, hbc⟩
                refine hK.out _ _ ?_ (fun hHeld' => ?_)
                · exact hHeld.trans (hbc.mono hHeld.size)
                clear hK K' hHeld hbc
                have hHeld := hHeld'
                clear hHeld'
                try simp only [Act.put, List.getElem_toArray, List.getElem_cons_zero, List.getElem_cons_succ, List.setIfInBounds_toArray, List.set_cons_zero, List.set_cons_succ]
                refine wpAnyZ_one (i := 7) (by kernel_rfl) rfl (fun K' hK => ?_)
                go_simp
                refine hK.out _ _ ?_ (fun hHeld' => ?_)
                · exact hHeld.alloc hHeld.size _
                clear hK K'
                have GG0 := hHeld.size
                have hHeld := hHeld'
                clear hHeld'
                try simp only [Act.put, List.getElem_toArray, List.getElem_cons_zero, List.getElem_cons_succ, List.setIfInBounds_toArray, List.set_cons_zero, List.set_cons_succ]
                obtain ⟨WQ, G, OG, GG, HWQ⟩ : ∃ WQ G, Hid (Own WQ G 60 3 (v3F 0 0 0)) ∧ wo.heap.size ≤ G ∧ Hid (WQ = WC.alloc (.cells #[.int .i64 0, .int .i64 0, .int .i64 0] 60) ∧ G = WC.heap.size) := ⟨_, _, Lib.hid (Own.threeT WC 60 0 0 0), GG0, Lib.hid ⟨rfl, rfl⟩⟩
                rw [← HWQ.out.1] at hHeld ⊢
                rw [← HWQ.out.2]
                refine wpAnyZ_one (i := 8) (by kernel_rfl) rfl (fun K' hK => ?_)
                have c0 : WQ.cell? ⟨G, 0, none⟩ = some (.int .i64 0) := OG.out.cell (i := 0) (by omega)
                have c1 : WQ.cell? ⟨G, 1, none⟩ = some (.int .i64 0) := OG.out.cell (i := 1) (by omega)
                have c2 : WQ.cell? ⟨G, 2, none⟩ = some (.int .i64 0) := OG.out.cell (i := 2) (by omega)
                have f0 := OG.out.frozen 0
                have f1 := OG.out.frozen 1
                have f2 := OG.out.frozen 2
                go_simp
                refine hK.out _ _ ?_ (fun hHeld' => ?_)
                · exact ((hHeld.setCell (p := ⟨G, 0, none⟩) GG _).setCell (p := ⟨G, 1, none⟩) GG _).setCell (p := ⟨G, 2, none⟩) GG _
                have OG3 : Hid (Own (((WQ.setCell ⟨G, 0, none⟩ (.int .i64 l0)).setCell ⟨G, 1, none⟩ (.int .i64 l1)).setCell ⟨G, 2, none⟩ (.int .i64 l2)) G 60 3 (v3F l0 l1 l2)) := Lib.hid (OG.out.set3T _ _ _)
                clear hK K' hHeld c0 c1 c2 f0 f1 f2 OG
                have hHeld := hHeld'
                clear hHeld'
                try simp only [Act.put, List.getElem_toArray, List.getElem_cons_zero, List.getElem_cons_succ, List.setIfInBounds_toArray, List.set_cons_zero, List.set_cons_succ]
                refine wpAnyZ_done (by kernel_rfl) ?_ _
                go_wp2_with fail
                go_meet
                exact ⟨_, rfl, OG3, Lib.hid hHeld⟩
              · go_simp
                refine hK.out _ _ ?_ (fun hHeld' => ?_)
                · exact hHeld.alloc hHeld.size _
                clear hK K'
                have GG0 := hHeld.size
                have hHeld := hHeld'
                clear hHeld'
                try simp only [Act.put, List.getElem_toArray, List.getElem_cons_zero, List.getElem_cons_succ, List.setIfInBounds_toArray, List.set_cons_zero, List.set_cons_succ]
                obtain ⟨WP, OG, HWQ⟩ : ∃ WP, Hid (Own WP wo.heap.size 60 3 (v3F 0 0 0)) ∧ Hid (WP = (wo.alloc (.cells #[.int .i64 0, .int .i64 0, .int .i64 0] 60)).drew) := ⟨_, Lib.hid (Own.threeT wo 60 0 0 0).drew, Lib.hid rfl⟩
                have GG : wo.heap.size ≤ wo.heap.size := Nat.le_refl _
                rw [← HWQ.out] at hHeld ⊢
                refine wpAnyZ_one (i := 6) (by kernel_rfl) rfl (fun K' hK => ?_)
                go_simp
                refine (HCK.out _ hHeld).mono ?_
                rintro e WC ⟨rfl, hbc⟩
                refine hK.out _ _ ?_ (fun hHeld' => ?_)
                · exact hHeld.trans (hbc.mono hHeld.size)
                have OG : Hid (Own WC wo.heap.size 60 3 (v3F 0 0 0)) := Lib.hid (OG.out.keep hbc OG.out.lt)
                clear hK K' hHeld hbc
                have hHeld := hHeld'
                clear hHeld'
                try simp only [Act.put, List.getElem_toArray, List.getElem_cons_zero, List.getElem_cons_succ, List.setIfInBounds_toArray, List.set_cons_zero, List.set_cons_succ]
                refine wpAnyZ_one (i := 8) (by kernel_rfl) rfl (fun K' hK => ?_)
                have c0 : WC.cell? ⟨wo.heap.size, 0, none⟩ = some (.int .i64 0) := OG.out.cell (i := 0) (by omega)
                have c1 : WC.cell? ⟨wo.heap.size, 1, none⟩ = some (.int .i64 0) := OG.out.cell (i := 1) (by omega)
                have c2 : WC.cell? ⟨wo.heap.size, 2, none⟩ = some (.int .i64 0) := OG.out.cell (i := 2) (by omega)
                have f0 := OG.out.frozen 0
                have f1 := OG.out.frozen 1
                have f2 := OG.out.frozen 2
                go_simp
                refine hK.out _ _ ?_ (fun hHeld' => ?_)
                · exact ((hHeld.setCell (p := ⟨wo.heap.size, 0, none⟩) GG _).setCell (p := ⟨wo.heap.size, 1, none⟩) GG _).setCell (p := ⟨wo.heap.size, 2, none⟩) GG _
                have OG3 : Hid (Own (((WC.setCell ⟨wo.heap.size, 0, none⟩ (.int .i64 l0)).setCell ⟨wo.heap.size, 1, none⟩ (.int .i64 l1)).setCell ⟨wo.heap.size, 2, none⟩ (.int .i64 l2)) wo.heap.size 60 3 (v3F l0 l1 l2)) := Lib.hid (OG.out.set3T _ _ _)
                clear hK K' hHeld c0 c1 c2 f0 f1 f2 OG
                have hHeld := hHeld'
                clear hHeld'
                try simp only [Act.put, List.getElem_toArray, List.getElem_cons_zero, List.getElem_cons_succ, List.setIfInBounds_toArray, List.set_cons_zero, List.set_cons_succ]
                refine wpAnyZ_done (by kernel_rfl) ?_ _
                go_wp2_with fail
                go_meet
                exact ⟨_, rfl, OG3, Lib.hid hHeld⟩
            case rest =>
              obtain ⟨L, rfl, HOL, HBC⟩ := hcut
              have HM := Lib.hid (HM.out.keep HBC.out)
              have HY := Lib.hid (HY.out.keep HBC.out HY.out.lt)
              have HP := Lib.hid (HP.out.keep HBC.out)
              clear HCK QC HBC HRQ k0 k1 k2 k3 k4
              have b0 := HLD.out i 0 hlt (by omega)
              have b1 := HLD.out i 1 hlt (by omega)
              have b2 := HLD.out i 2 hlt (by omega)
              rw [← HL3.out.1] at b0
              rw [← HL3.out.2.1] at b1
              rw [← HL3.out.2.2] at b2
              obtain ⟨e00, e01, e02, _, _⟩ := HHC.out l0 b0.1 b0.2
              obtain ⟨e10, e11, e12, _, _⟩ := HHC.out l1 b1.1 b1.2
              obtain ⟨e20, e21, e22, _, _⟩ := HHC.out l2 b2.1 b2.2
              have HNE := Lib.hid (phNeutral_ok l0 l1 l2 ⟨b0.1, e02⟩ ⟨b1.1, e12⟩ ⟨b2.1, e22⟩ wc)
              have x0 : wc.cell? ⟨L, 0, none⟩ = some (.int .i64 l0) := HOL.out.cell (i := 0) (by omega)
              have x1 : wc.cell? ⟨L, 1, none⟩ = some (.int .i64 l1) := HOL.out.cell (i := 1) (by omega)
              have x2 : wc.cell? ⟨L, 2, none⟩ = some (.int .i64 l2) := HOL.out.cell (i := 2) (by omega)
              go_wp2_with fail
              refine HNE.out.mono ?_
              rintro e w3 ⟨nn, rfl, ⟨hn1, hmin⟩, hb3⟩
              have hng : nn ≤ g.neutral.toNat := hmin _ (by have := HGN.out; omega) (by have := HGN.out; omega) (by have := HGN.out; omega) (by have := HGN.out; omega)
              have hd0 : decide ((nn : Int) ≤ g.neutral) = true := decide_eq_true (by have := HGN.out; omega)
              have hd1 : decide (l0 ≤ g.limit) = true := decide_eq_true e00
              have hd2 : decide (l1 ≤ g.limit) = true := decide_eq_true e10
              have hd3 : decide (l2 ≤ g.limit) = true := decide_eq_true e20
              have HM := Lib.hid (HM.out.keep hb3)
              have HY := Lib.hid (HY.out.keep hb3 HY.out.lt)
              have HP := Lib.hid (HP.out.keep hb3)
              have HOL := Lib.hid (HOL.out.keep hb3 HOL.out.lt)
              have y2 : w3.cell? ⟨Y, 2, none⟩ = some (.int .i64 g.limit) := HY.out.cell (i := 2) (by omega)
              have y3 : w3.cell? ⟨Y, 3, none⟩ = some (.int .i64 g.neutral) := HY.out.cell (i := 3) (by omega)
              clear x0 x1 x2 HNE hb3 hmin hn1 hng e00 e01 e02 e10 e11 e12 e20 e21 e22 b0 b1 b2
              have x0 : w3.cell? ⟨L, 0, none⟩ = some (.int .i64 l0) := HOL.out.cell (i := 0) (by omega)
              have x1 : w3.cell? ⟨L, 1, none⟩ = some (.int .i64 l1) := HOL.out.cell (i := 1) (by omega)
              have x2 : w3.cell? ⟨L, 2, none⟩ = some (.int .i64 l2) := HOL.out.cell (i := 2) (by omega)
              go_wp2_with fail
              have HP0 : Hid (PhM w3 (Y + 1 + 1) (Y + 1) pv (midL s qs c i 0) u16 (anK s qs c (chF nB bs) i)) := Lib.hid (HP.out.congr (fun q hq => by unfold midL; rw [if_neg (by omega)]) rfl)
              clear hd0 hd1 hd2 hd3 y2 y3 x0 x1 x2 HP
              go_loopg [21] 3 (fun g3 v21 wp => ∃ (p : Nat) (pv : Nat → Value), v21 = .int .i64 p ∧ p ≤ 3 ∧ 3 - p ≤ g3 ∧ Hid (LwM w wp X (some ⟨b, off, none⟩) n1 c1 a2 n2 c2 a3 n3 c3 a4 n4 c4 a5 n5 c5 s) ∧ Hid (Own wp Y 55 11 (conF g)) ∧ Hid (Own wp L 60 3 (v3F l0 l1 l2)) ∧ Hid (PhM wp (Y + 1 + 1) (Y + 1) pv (midL s qs c i p) u16 (anK s qs c (chF nB bs) i)))
              case atStart => exact ⟨0, pv, by go_num, by omega, by omega, HM, HY, HOL, HP0⟩
              case round =>
                clear HM HY HOL HP0
                obtain ⟨p, pv, rfl, hp, hg3, HM, HY, HOL, HP⟩ := hrel
                by_cases hlp : p < 3
                · have hlpz : (p : Int) < 3 := by omega
                  obtain ⟨lp, hlpe⟩ : ∃ x, x = ldF s qs c i p := ⟨_, rfl⟩
                  have z1 : wr.cell? ⟨L, p, none⟩ = some (.int .i64 lp) := (HOL.out.cell (i := p) hlp).trans (by
                    rw [hlpe]
                    match p, hlp with
                    | 0, _ => exact congrArg (fun x => some (Value.int .i64 x)) HL3.out.1
                    | 1, _ => exact congrArg (fun x => some (Value.int .i64 x)) HL3.out.2.1
                    | 2, _ => exact congrArg (fun x => some (Value.int .i64 x)) HL3.out.2.2)
                  have z0 : wr.cell? ⟨Y + 1, p, none⟩ = some (pv p) := HP.out.oz.cell hlp
                  have HLP := Lib.hid hlpe
                  have HLQ : Hid (lp = ldF s qs c i p) := Lib.hid hlpe
                  clear hlpe
                  go_wp2_with fail
                  refine region_z (S := fun w' => w'.cell? ⟨Y + 1, p, none⟩ = some (pv p) ∧ w'.cell? ⟨L, p, none⟩ = some (.int .i64 lp)) [9, 10] (by kernel_rfl) ⟨z0, z1⟩ (fun hHeld => ?_)
                  obtain ⟨wd, hwd⟩ : ∃ wd, wd = wr.drew := ⟨_, rfl⟩
                  have bd : Below wr.heap.size wr wd := by rw [hwd]; exact below_drew wr
                  have HM := Lib.hid (HM.out.keep bd)
                  have HY := Lib.hid (HY.out.keep bd HY.out.lt)
                  have HOL := Lib.hid (HOL.out.keep bd HOL.out.lt)
                  have HP := Lib.hid (HP.out.keep bd)
                  rw [← hwd] at hHeld ⊢
                  clear hwd bd z0 z1
                  have hlen : (midL s qs c i p p).length ≤ 1000 := by
                    unfold midL
                    rw [if_neg (by omega), phK_len]
                    omega
                  obtain ⟨ap, v', w4, ap1, ap2, ap3, ap4, ap5, ap6, ap7⟩ := HP.out.push hlp hlen lp
                  obtain ⟨sa, sc, hv'⟩ := ap3.out
                  obtain ⟨LL, hLL⟩ : ∃ x, x = (midL s qs c i p p).length + 1 := ⟨_, rfl⟩
                  rw [← hLL] at hv'
                  subst hv'
                  have OZ4 := ap4
                  have HLC4 : Hid (w4.cell? ⟨L, p, none⟩ = some (.int .i64 lp)) := Lib.hid ((ap7.out.cell (p := ⟨L, p, none⟩) HOL.out.lt (ownL_ne (HP.out.op p hlp) HOL.out (by decide))).trans hHeld.2)
                  have HGE : Hid (∀ k, (pv p).ownBlock = some k → Y + 1 + 1 ≤ k) := Lib.hid (fun k hk => (World.ownsRow.lt (HP.out.op p hlp) k hk).1)
                  have HMn := Lib.hid (HM.out.mod HS.out ap6.out (fun h => by
                    rcases h with h | h
                    · have h1 := HGE.out _ h; have h2 := hXY.out; omega
                    · have h2 := hXY.out; omega) (fun k h => by
                    have h3 := HSZ.out
                    have h2 := hXY.out
                    rcases h with h | h
                    · have h1 := HGE.out _ h; omega
                    · omega))
                  have HYn := Lib.hid (HY.out.mod ap6.out (fun h => by
                    rcases h with h | h
                    · have h1 := HGE.out _ h; omega
                    · omega))
                  have HOLn := Lib.hid (HOL.out.mod ap6.out (fun h => by
                    rcases h with h | h
                    · exact ownL_ne (HP.out.op p hlp) HOL.out (by decide) h
                    · exact own_ne HOL.out HP.out.oz (by decide) h))
                  have HPn : Hid (PhM (w4.setCell ⟨Y + 1, p, none⟩ (.slice sa LL sc)) (Y + 1 + 1) (Y + 1) (fun r => if r = p then .slice sa LL sc else pv r) (midL s qs c i (p + 1)) u16 (anK s qs c (chF nB bs) i)) := Lib.hid (ap5.out.congr (fun q hq => by
                    by_cases e : q = p
                    · rw [if_pos e, e]
                      unfold midL
                      rw [if_neg (by omega), if_pos (by omega), phK_succ, HLQ.out]
                    · rw [if_neg e]
                      unfold midL
                      by_cases e2 : q < p
                      · rw [if_pos e2, if_pos (by omega)]
                      · rw [if_neg e2, if_neg (by omega)]) rfl)
                  clear ap3 ap4 ap5 ap6 ap7 hLL HM HY HOL HP
                  refine wpAnyZ_take (i := 0) (v := .int .i64 (p : Nat)) [9, 10] rfl (by kernel_rfl) (by kernel_rfl) (by kernel_rfl) (by kernel_rfl) (fun _ _ _ h => h) (Or.inl ⟨by kernel_rfl, fun w' hSw => ?_⟩) hHeld ?_
                  · have s0 := hSw.1
                    have s1 := hSw.2
                    clear hHeld hSw
                    go_simp
                  simp only [Act.put, List.getElem_toArray, List.getElem_cons_zero, List.getElem_cons_succ, List.setIfInBounds_toArray, List.set_cons_zero, List.set_cons_succ]
                  refine wpAnyZ_take (i := 1) (v := .int .i64 (p : Nat)) [2, 3, 8, 9, 10] rfl (by kernel_rfl) (by kernel_rfl) (by kernel_rfl) (by kernel_rfl) (fun _ _ _ h => h) (Or.inl ⟨by kernel_rfl, fun w' hSw => ?_⟩) hHeld ?_
                  · have s0 := hSw.1
                    have s1 := hSw.2
                    clear hHeld hSw
                    go_simp
                  simp only [Act.put, List.getElem_toArray, List.getElem_cons_zero, List.getElem_cons_succ, List.setIfInBounds_toArray, List.set_cons_zero, List.set_cons_succ]
                  refine wpAnyZ_take (i := 2) (v := .pointer (some ⟨Y + 1, p, none⟩)) [3, 8, 9, 10] rfl (by kernel_rfl) (by kernel_rfl) (by kernel_rfl) (by kernel_rfl) (fun _ _ _ h => h) (Or.inl ⟨by kernel_rfl, fun w' hSw => ?_⟩) hHeld ?_
                  · have s0 := hSw.1
                    have s1 := hSw.2
                    clear hHeld hSw
                    go_simp
                  simp only [Act.put, List.getElem_toArray, List.getElem_cons_zero, List.getElem_cons_succ, List.setIfInBounds_toArray, List.set_cons_zero, List.set_cons_succ]
                  refine wpAnyZ_take (i := 3) (v := pv p) [8, 9, 10] rfl (by kernel_rfl) (by kernel_rfl) (by kernel_rfl) (by kernel_rfl) (fun _ _ _ h => h) (Or.inl ⟨by kernel_rfl, fun w' hSw => ?_⟩) hHeld ?_
                  · have s0 := hSw.1
                    have s1 := hSw.2
                    clear hHeld hSw
                    go_simp
                  simp only [Act.put, List.getElem_toArray, List.getElem_cons_zero, List.getElem_cons_succ, List.setIfInBounds_toArray, List.set_cons_zero, List.set_cons_succ]
                  refine wpAnyZ_take (i := 4) (v := .int .i64 (p : Nat)) [5, 6, 7, 8, 9, 10] rfl (by kernel_rfl) (by kernel_rfl) (by kernel_rfl) (by kernel_rfl) (fun _ _ _ h => h) (Or.inl ⟨by kernel_rfl, fun w' hSw => ?_⟩) hHeld ?_
                  · have s0 := hSw.1
                    have s1 := hSw.2
                    clear hHeld hSw
                    go_simp
                  simp only [Act.put, List.getElem_toArray, List.getElem_cons_zero, List.getElem_cons_succ, List.setIfInBounds_toArray, List.set_cons_zero, List.set_cons_succ]
                  refine wpAnyZ_take (i := 5) (v := .pointer (some ⟨L, p, none⟩)) [6, 7, 8, 9, 10] rfl (by kernel_rfl) (by kernel_rfl) (by kernel_rfl) (by kernel_rfl) (fun _ _ _ h => h) (Or.inl ⟨by kernel_rfl, fun w' hSw => ?_⟩) hHeld ?_
                  · have s0 := hSw.1
                    have s1 := hSw.2
                    clear hHeld hSw
                    go_simp
                  simp only [Act.put, List.getElem_toArray, List.getElem_cons_zero, List.getElem_cons_succ, List.setIfInBounds_toArray, List.set_cons_zero, List.set_cons_succ]
                  refine wpAnyZ_take (i := 6) (v := .int .i64 lp) [7, 8, 9, 10] rfl (by kernel_rfl) (by kernel_rfl) (by kernel_rfl) (by kernel_rfl) (fun _ _ _ h => h) (Or.inl ⟨by kernel_rfl, fun w' hSw => ?_⟩) hHeld ?_
                  · have s0 := hSw.1
                    have s1 := hSw.2
                    clear hHeld hSw
                    go_simp
                  simp only [Act.put, List.getElem_toArray, List.getElem_cons_zero, List.getElem_cons_succ, List.setIfInBounds_toArray, List.set_cons_zero, List.set_cons_succ]
                  refine wpAnyZ_one (i := 7) (by kernel_rfl) rfl (fun K' hK => ?_)
                  go_simp
                  refine hK.out _ _ ?_ (fun hHeld' => ?_)
                  · obtain ⟨s0, s1⟩ := hHeld
                    exact ⟨(((Below.refl wd.heap.size wd).alloc (Nat.le_refl _) _).cell (World.block_lt_of_cell? _ _ s0)).trans s0, (((Below.refl wd.heap.size wd).alloc (Nat.le_refl _) _).cell (World.block_lt_of_cell? _ _ s1)).trans s1⟩
                  clear hK K' hHeld hHeld'
                  try simp only [Act.put, List.getElem_toArray, List.getElem_cons_zero, List.getElem_cons_succ, List.setIfInBounds_toArray, List.set_cons_zero, List.set_cons_succ]
                  refine wpAnyZ_one (i := 8) (by kernel_rfl) rfl (fun K' hK => ?_)
                  rw [if_pos (by rfl)]
                  refine append_go rfl rfl ap ap1 ap2 ?_
                  refine hK.out _ _ ?_ (fun hHeld' => ?_)
                  · exact ⟨OZ4.out.cell hlp, HLC4.out⟩
                  clear hK K' hHeld'
                  try simp only [Act.put, List.getElem_toArray, List.getElem_cons_zero, List.getElem_cons_succ, List.setIfInBounds_toArray, List.set_cons_zero, List.set_cons_succ]
                  refine wpAnyZ_last (i := 9) (by kernel_rfl) rfl (by kernel_rfl) (fun K' hK => ?_)
                  have hf := OZ4.out.frozen p
                  have hz4 : w4.cell? ⟨Y + 1, p, none⟩ = some (pv p) := OZ4.out.cell hlp
                  go_simp
                  refine hK.out _ _ ?_
                  clear hK K'
                  try simp only [Act.put, List.getElem_toArray, List.getElem_cons_zero, List.getElem_cons_succ, List.setIfInBounds_toArray, List.set_cons_zero, List.set_cons_succ]
                  refine wpAnyZ_last (i := 10) (by kernel_rfl) rfl (by kernel_rfl) (fun K' hK => ?_)
                  go_simp
                  refine hK.out _ _ ?_
                  clear hK K' ap ap1 ap2 hf hz4
                  try simp only [Act.put, List.getElem_toArray, List.getElem_cons_zero, List.getElem_cons_succ, List.setIfInBounds_toArray, List.set_cons_zero, List.set_cons_succ]
                  refine wpAnyZ_done (by kernel_rfl) ?_ _
                  go_step
                  go_step
                  go_wp2_with fail
                  go_roundg (3 - (p + 1))
                  case measure => omega
                  case rel => exact ⟨p + 1, _, by go_num, by omega, by omega, HMn, HYn, HOLn, HPn⟩
                · have hlpz : ¬ (p : Int) < 3 := by omega
                  have HBW := Lib.hid HM.out.bel
                  have HPN : Hid (PhM wr (Y + 1 + 1) (Y + 1) pv (fun q => phK s qs c q (i + 1)) u16 (anK s qs c (chF nB bs) i)) := Lib.hid (HP.out.congr (fun q hq => by unfold midL; rw [if_pos (by omega)]) rfl)
                  obtain ⟨t, ht⟩ : ∃ t, t = chF nB bs i := ⟨_, rfl⟩
                  have htl : t < 3 := by rw [ht]; unfold chF; omega
                  obtain ⟨lt, hlt2⟩ : ∃ x, x = ldF s qs c i t := ⟨_, rfl⟩
                  have z1 : wr.cell? ⟨L, t, none⟩ = some (.int .i64 lt) := (HOL.out.cell (i := t) htl).trans (by
                    rw [hlt2]
                    match t, htl with
                    | 0, _ => exact congrArg (fun x => some (Value.int .i64 x)) HL3.out.1
                    | 1, _ => exact congrArg (fun x => some (Value.int .i64 x)) HL3.out.2.1
                    | 2, _ => exact congrArg (fun x => some (Value.int .i64 x)) HL3.out.2.2)
                  have htz : (t : Int) < 3 := by omega
                  obtain ⟨ap, v', w4, ap1, ap2, ap3, ap4, ap5⟩ := HPN.out.pushA (by rw [anK_len]; omega) lt
                  obtain ⟨sa, sc, hv'⟩ := ap3.out
                  obtain ⟨LL, hLL⟩ : ∃ x, x = (anK s qs c (chF nB bs) i).length + 1 := ⟨_, rfl⟩
                  rw [← hLL] at hv'
                  subst hv'
                  have HGE : Hid (∀ k, u16.ownBlock = some k → Y + 1 + 1 ≤ k) := Lib.hid (fun k hk => (World.ownsRow.lt HPN.out.oa k hk).1)
                  have HMn := Lib.hid (HM.out.mod HS.out ap5.out (fun h => by have h1 := HGE.out _ h; have h2 := hXY.out; omega) (fun k h => by have h1 := HGE.out _ h; have h2 := hXY.out; have h3 := HSZ.out; omega))
                  have HYn := Lib.hid (HY.out.mod ap5.out (fun h => by have h1 := HGE.out _ h; omega))
                  have HPn : Hid (PhM w4 (Y + 1 + 1) (Y + 1) pv (fun p => phK s qs c p (i + 1)) (.slice sa LL sc) (anK s qs c (chF nB bs) (i + 1))) := Lib.hid (ap4.out.congr (fun q hq => rfl) (by rw [anK_succ, ← ht, ← hlt2]))
                  have HT := Lib.hid ht
                  clear ap3 ap4 ap5 hLL HM HY HP HPN hlt2
                  by_cases hib : i < nB
                  · have hibz : (i : Int) < (nB : Int) := by omega
                    obtain ⟨b', off', hA', hbl', hc'⟩ := rd_u8 HB8.out (k := i) (by rw [HNB.out]; exact hib)
                    have hBw : Below w.heap.size w wr := HBW.out
                    have hy : wr.cell? ⟨b', off' + i, none⟩ = some (.int .u8 (fI bs i)) := (hBw.cell (p := ⟨b', off' + i, none⟩) hbl').trans hc'
                    have hyb := u8_bdN HWB.out i
                    have hrem : (fI bs i).tmod 3 = (t : Int) := by rw [ht]; unfold chF; rw [if_pos hib]; rw [Int.tmod_eq_emod_of_nonneg hyb.1]; omega
                    have hrem2 : (fI bs i) % 3 = (t : Int) := by rw [← Int.tmod_eq_emod_of_nonneg hyb.1]; exact hrem
                    have HAB' : Hid (aB = some ⟨b', off', none⟩) := Lib.hid hA'
                    subst hA'
                    clear hc' hbl' hBw ht
                    generalize fI bs i = y at *
                    have hwy : IntKind.i64.wrap y = y := IntWalk.i64_in _ (by omega)
                    go_wp2_with fail
                    go_roundg (m - (i + 1))
                    case measure => omega
                    case rel => exact ⟨i + 1, pv, by go_num, by omega, by omega, rfl, HMn, HYn, HPn⟩
                  · have hibz : ¬ (i : Int) < (nB : Int) := by omega
                    have hrem : ((i : Nat) : Int).tmod 3 = (t : Int) := by rw [ht]; unfold chF; rw [if_neg hib]; rw [Int.tmod_eq_emod_of_nonneg (by omega)]; omega
                    have hrem2 : ((i : Nat) : Int) % 3 = (t : Int) := by rw [ht]; unfold chF; rw [if_neg hib]; omega
                    clear ht
                    go_wp2_with fail
                    go_roundg (m - (i + 1))
                    case measure => omega
                    case rel => exact ⟨i + 1, pv, by go_num, by omega, by omega, rfl, HMn, HYn, HPn⟩
          · have hltz : ¬ (i : Int) < (m : Int) := by omega
            have him : i = m := by omega
            have HPm : Hid (PhM wr (Y + 1 + 1) (Y + 1) pv (fun p => phK s qs c p m) u16 (anK s qs c (chF nB bs) m)) := Lib.hid (by rw [← him]; exact HP.out)
            clear him HP
            go_wp2_with fail
            go_loopg [7, 23] 3 (fun g3 v7 v23 wp => ∃ p : Nat, v23 = .int .i64 p ∧ p ≤ 3 ∧ 3 - p ≤ g3 ∧ v7 = .bool true ∧ Hid (LwM w wp X (some ⟨b, off, none⟩) n1 c1 a2 n2 c2 a3 n3 c3 a4 n4 c4 a5 n5 c5 s) ∧ Hid (Own wp Y 55 11 (conF g)) ∧ Hid (PhM wp (Y + 1 + 1) (Y + 1) pv (fun p => phK s qs c p m) u16 (anK s qs c (chF nB bs) m)))
            case atStart => exact ⟨0, by go_num, by omega, by omega, rfl, HM, HY, HPm⟩
            case round =>
              clear HM HY HPm
              obtain ⟨p, rfl, hp, hg3, rfl, HM, HY, HP⟩ := hrel
              by_cases hlp : p < 3
              · have hlpz : (p : Int) < 3 := by omega
                obtain ⟨ap, cp, hpv, hpr⟩ := (HP.out.op p hlp).rd
                rw [phK_len] at hpv
                have z0 : wr.cell? ⟨Y + 1, p, none⟩ = some (.slice ap m cp) := (HP.out.oz.cell hlp).trans (by rw [hpv])
                have y4 : wr.cell? ⟨Y, 4, none⟩ = some (.int .i64 g.rated) := HY.out.cell (i := 4) (by omega)
                have y5 : wr.cell? ⟨Y, 5, none⟩ = some (.int .i64 g.heat) := HY.out.cell (i := 5) (by omega)
                have HME : Hid (∀ W, Below wr.heap.size wr W → Calls Try.prog 27 #[.agg #[.int .i64 g.rated, .int .i64 g.heat], .slice ap m cp] W fun e w' => e = .returned (.tuple #[.int .i64 (-1), .int .i64 0]) ∧ Below W.heap.size W w') := Lib.hid (fun W hW => fuMelts_ok g HOC.out ap m cp (phK s qs c p m) W (Lib.hid (hpr.keep hW)) (Lib.hid (phK_len _ _ _ _ _)) (by omega) (Lib.hid (fun i hi => by
                  rw [phK_at s qs c p hi]
                  have h1 := HLD.out i p hi hlp
                  have h2 := HHC.out _ h1.1 h1.2
                  exact ⟨⟨h1.1, h2.2.2.1⟩, h2.2.2.2.1⟩)) (Lib.hid (fun a ha => by
                  have h1 := HP.out.op p hlp
                  rw [hpv, ha] at h1
                  exact Nat.lt_of_lt_of_le (ownL_fresh h1 a rfl).2 hW.size)))
                clear hpv hpr
                go_wp2_with fail
                refine region_z (S := fun w' => Below wr.heap.size wr w') [] (by kernel_rfl) (Below.refl _ _).drew (fun hHeld => ?_)
                refine wpAnyZ_take (i := 0) (v := .pointer (some ⟨Y, 4, none⟩)) [] rfl (by kernel_rfl) (by kernel_rfl) (by kernel_rfl) (by kernel_rfl) (fun _ _ _ h => h) (Or.inl ⟨by kernel_rfl, fun w' hSw => ?_⟩) hHeld ?_
                · have s0 := (hSw.cell (p := ⟨Y + 1, p, none⟩) (World.block_lt_of_cell? _ _ z0)).trans z0
                  have s4 := (hSw.cell (p := ⟨Y, 4, none⟩) (World.block_lt_of_cell? _ _ y4)).trans y4
                  have s5 := (hSw.cell (p := ⟨Y, 5, none⟩) (World.block_lt_of_cell? _ _ y5)).trans y5
                  clear hHeld hSw
                  go_simp
                simp only [Act.put, List.getElem_toArray, List.getElem_cons_zero, List.getElem_cons_succ, List.setIfInBounds_toArray, List.set_cons_zero, List.set_cons_succ]
                refine wpAnyZ_take (i := 1) (v := .agg #[.int .i64 g.rated, .int .i64 g.heat]) [] rfl (by kernel_rfl) (by kernel_rfl) (by kernel_rfl) (by kernel_rfl) (fun _ _ _ h => h) (Or.inl ⟨by kernel_rfl, fun w' hSw => ?_⟩) hHeld ?_
                · have s0 := (hSw.cell (p := ⟨Y + 1, p, none⟩) (World.block_lt_of_cell? _ _ z0)).trans z0
                  have s4 := (hSw.cell (p := ⟨Y, 4, none⟩) (World.block_lt_of_cell? _ _ y4)).trans y4
                  have s5 := (hSw.cell (p := ⟨Y, 5, none⟩) (World.block_lt_of_cell? _ _ y5)).trans y5
                  clear hHeld hSw
                  go_simp
                simp only [Act.put, List.getElem_toArray, List.getElem_cons_zero, List.getElem_cons_succ, List.setIfInBounds_toArray, List.set_cons_zero, List.set_cons_succ]
                refine wpAnyZ_take (i := 2) (v := .int .i64 (p : Nat)) [] rfl (by kernel_rfl) (by kernel_rfl) (by kernel_rfl) (by kernel_rfl) (fun _ _ _ h => h) (Or.inl ⟨by kernel_rfl, fun w' hSw => ?_⟩) hHeld ?_
                · have s0 := (hSw.cell (p := ⟨Y + 1, p, none⟩) (World.block_lt_of_cell? _ _ z0)).trans z0
                  have s4 := (hSw.cell (p := ⟨Y, 4, none⟩) (World.block_lt_of_cell? _ _ y4)).trans y4
                  have s5 := (hSw.cell (p := ⟨Y, 5, none⟩) (World.block_lt_of_cell? _ _ y5)).trans y5
                  clear hHeld hSw
                  go_simp
                simp only [Act.put, List.getElem_toArray, List.getElem_cons_zero, List.getElem_cons_succ, List.setIfInBounds_toArray, List.set_cons_zero, List.set_cons_succ]
                refine wpAnyZ_take (i := 3) (v := .pointer (some ⟨Y + 1, p, none⟩)) [] rfl (by kernel_rfl) (by kernel_rfl) (by kernel_rfl) (by kernel_rfl) (fun _ _ _ h => h) (Or.inl ⟨by kernel_rfl, fun w' hSw => ?_⟩) hHeld ?_
                · have s0 := (hSw.cell (p := ⟨Y + 1, p, none⟩) (World.block_lt_of_cell? _ _ z0)).trans z0
                  have s4 := (hSw.cell (p := ⟨Y, 4, none⟩) (World.block_lt_of_cell? _ _ y4)).trans y4
                  have s5 := (hSw.cell (p := ⟨Y, 5, none⟩) (World.block_lt_of_cell? _ _ y5)).trans y5
                  clear hHeld hSw
                  go_simp
                simp only [Act.put, List.getElem_toArray, List.getElem_cons_zero, List.getElem_cons_succ, List.setIfInBounds_toArray, List.set_cons_zero, List.set_cons_succ]
                refine wpAnyZ_take (i := 4) (v := .slice ap m cp) [] rfl (by kernel_rfl) (by kernel_rfl) (by kernel_rfl) (by kernel_rfl) (fun _ _ _ h => h) (Or.inl ⟨by kernel_rfl, fun w' hSw => ?_⟩) hHeld ?_
                · have s0 := (hSw.cell (p := ⟨Y + 1, p, none⟩) (World.block_lt_of_cell? _ _ z0)).trans z0
                  have s4 := (hSw.cell (p := ⟨Y, 4, none⟩) (World.block_lt_of_cell? _ _ y4)).trans y4
                  have s5 := (hSw.cell (p := ⟨Y, 5, none⟩) (World.block_lt_of_cell? _ _ y5)).trans y5
                  clear hHeld hSw
                  go_simp
                simp only [Act.put, List.getElem_toArray, List.getElem_cons_zero, List.getElem_cons_succ, List.setIfInBounds_toArray, List.set_cons_zero, List.set_cons_succ]
                refine wpAnyZ_one (i := 5) (by kernel_rfl) rfl (fun K' hK => ?_)
                go_simp
                refine (HME.out _ hHeld).mono ?_
                rintro e w4 ⟨rfl, hb4⟩
                refine hK.out _ _ ?_ (fun hHeld' => ?_)
                · exact hHeld.trans (hb4.mono hHeld.size)
                clear hK K' hHeld
                have hHeld := hHeld'
                clear hHeld'
                try simp only [Act.put, List.getElem_toArray, List.getElem_cons_zero, List.getElem_cons_succ, List.setIfInBounds_toArray, List.set_cons_zero, List.set_cons_succ]
                refine wpAnyZ_take (i := 6) (v := .tuple #[.int .i64 (-1), .int .i64 0]) [] rfl (by kernel_rfl) (by kernel_rfl) (by kernel_rfl) (by kernel_rfl) (fun _ _ _ h => h) (Or.inl ⟨by kernel_rfl, fun w' hSw => ?_⟩) hHeld ?_
                · clear hHeld hSw
                  go_simp
                simp only [Act.put, List.getElem_toArray, List.getElem_cons_zero, List.getElem_cons_succ, List.setIfInBounds_toArray, List.set_cons_zero, List.set_cons_succ]
                refine wpAnyZ_take (i := 7) (v := .int .i64 (-1)) [] rfl (by kernel_rfl) (by kernel_rfl) (by kernel_rfl) (by kernel_rfl) (fun _ _ _ h => h) (Or.inl ⟨by kernel_rfl, fun w' hSw => ?_⟩) hHeld ?_
                · clear hHeld hSw
                  go_simp
                simp only [Act.put, List.getElem_toArray, List.getElem_cons_zero, List.getElem_cons_succ, List.setIfInBounds_toArray, List.set_cons_zero, List.set_cons_succ]
                refine wpAnyZ_take (i := 8) (v := .int .i64 0) [] rfl (by kernel_rfl) (by kernel_rfl) (by kernel_rfl) (by kernel_rfl) (fun _ _ _ h => h) (Or.inl ⟨by kernel_rfl, fun w' hSw => ?_⟩) hHeld ?_
                · clear hHeld hSw
                  go_simp
                simp only [Act.put, List.getElem_toArray, List.getElem_cons_zero, List.getElem_cons_succ, List.setIfInBounds_toArray, List.set_cons_zero, List.set_cons_succ]
                refine wpAnyZ_take (i := 9) (v := .int .i64 (-1)) [] rfl (by kernel_rfl) (by kernel_rfl) (by kernel_rfl) (by kernel_rfl) (fun _ _ _ h => h) (Or.inl ⟨by kernel_rfl, fun w' hSw => ?_⟩) hHeld ?_
                · clear hHeld hSw
                  go_simp
                simp only [Act.put, List.getElem_toArray, List.getElem_cons_zero, List.getElem_cons_succ, List.setIfInBounds_toArray, List.set_cons_zero, List.set_cons_succ]
                refine wpAnyZ_take (i := 10) (v := .int .i64 0) [] rfl (by kernel_rfl) (by kernel_rfl) (by kernel_rfl) (by kernel_rfl) (fun _ _ _ h => h) (Or.inl ⟨by kernel_rfl, fun w' hSw => ?_⟩) hHeld ?_
                · clear hHeld hSw
                  go_simp
                simp only [Act.put, List.getElem_toArray, List.getElem_cons_zero, List.getElem_cons_succ, List.setIfInBounds_toArray, List.set_cons_zero, List.set_cons_succ]
                refine wpAnyZ_done (by kernel_rfl) ?_ _
                go_step
                go_step
                refine wp_world (fun W => Below wr.heap.size wr W) hHeld (fun w4 hbw => ?_)
                clear hHeld
                have HM := Lib.hid (HM.out.keep hbw)
                have HY := Lib.hid (HY.out.keep hbw HY.out.lt)
                have HP := Lib.hid (HP.out.keep hbw)
                clear hbw z0 y4 y5 HME
                go_wp2_with fail
                go_roundg (3 - (p + 1))
                case measure => omega
                case rel => exact ⟨p + 1, by go_num, by omega, by omega, rfl, HM, HY, HP⟩
              · have hlpz : ¬ (p : Int) < 3 := by omega
                obtain ⟨ap, cp, hpv, hpr⟩ := HP.out.oa.rd
                rw [anK_len] at hpv
                have y6 : wr.cell? ⟨Y, 6, none⟩ = some (.int .i64 g.amb) := HY.out.cell (i := 6) (by omega)
                have y7 : wr.cell? ⟨Y, 7, none⟩ = some (.int .i64 g.most) := HY.out.cell (i := 7) (by omega)
                have y8 : wr.cell? ⟨Y, 8, none⟩ = some (.int .i64 g.gain) := HY.out.cell (i := 8) (by omega)
                have y9 : wr.cell? ⟨Y, 9, none⟩ = some (.int .i64 g.loss) := HY.out.cell (i := 9) (by omega)
                have y10 : wr.cell? ⟨Y, 10, none⟩ = some (.int .i64 g.den) := HY.out.cell (i := 10) (by omega)
                have HHO := Lib.hid (cbHot_ok g HOC.out ap m cp (anK s qs c (chF nB bs) m) wr (Lib.hid hpr) (Lib.hid (anK_len _ _ _ _ _)) (by omega) (Lib.hid (fun i hi => by
                  rw [anK_at s qs c (chF nB bs) hi]
                  have h1 := HLD.out i (chF nB bs i) hi (by unfold chF; omega)
                  have h2 := HHC.out _ h1.1 h1.2
                  exact ⟨⟨h1.1, h2.2.2.1⟩, h2.2.2.2.2⟩)) (Lib.hid (fun a ha => by
                  have h1 := HP.out.oa
                  rw [hpv, ha] at h1
                  exact (ownL_fresh h1 a rfl).2)))
                clear hpr
                subst hpv
                go_wp2_with fail
                refine HHO.out.mono ?_
                rintro e w4 ⟨rfl, hb4⟩
                have HM := Lib.hid (HM.out.keep hb4)
                clear hb4 y6 y7 y8 y9 y10 HHO
                go_wp2_with fail
                go_roundg (n1 - (c + 1))
                case measure => omega
                case rel => exact ⟨c + 1, by go_num, by omega, by omega, rfl, HM⟩
      · have hlcz : decide ((c : Int) < (n1 : Int)) = false := decide_eq_false (by omega)
        have hlcz2 : ¬ (c : Int) < (n1 : Int) := by omega
        go_wp2_with fail
        go_ret
        exact ⟨rfl, HM.out.bel⟩
end Go.Proofs.Ytbalhbpaholakaa
