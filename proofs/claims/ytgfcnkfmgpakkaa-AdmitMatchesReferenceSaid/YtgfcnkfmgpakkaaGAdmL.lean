/-
Several texts in one: AdmM, AdmL.
-/
import Derived.Test.YtgfcnkfmgpakkaaGAdmG
import Derived.Test.YtgfcnkfmgpakkaaCPlanRS
import Derived.Test.YtgfcnkfmgpakkaaGAdmJ
/-
law28.column, walked.
-/
namespace Go.Proofs.Ytgfcnkfmgpakkaa
open Go.RowKit
set_option linter.unusedVariables false
set_option linter.unusedSimpArgs false
abbrev colOf (ps : List (List Int)) : List Int := ps.map (fun p => fAt p 0)
abbrev tailsOf (ps : List (List Int)) : List (List Int) := ps.map List.tail
/-- Two lists of the call's own, apart. -/
structure ColM (B : Nat) (W : World) (v u : Value) (xs : List Int) (rs : List RowV) : Prop where
  o5 : OwnN W B v xs
  o6 : OwnS W B u rs
  ap : ApartV v u
theorem rd_lit1 {α : Type} {sz : Nat} {enc : α → List Value} (hsz : ∀ x, (enc x).length = sz) (W : World) (t : TypeId) (x : α) : Rd sz enc (W.alloc (.cells (enc x).toArray t)) (some ⟨W.heap.size, 0, none⟩) [x] :=
  (Own.new W t (enc x).toArray undef).rd (by rw [List.size_toArray, hsz]; simp) hsz (fun k y hy j v hv => by
    have hk : k = 0 := by have := (List.getElem?_eq_some_iff.1 hy).1; simp at this; exact this
    subst hk
    simp at hy
    subst hy
    show (enc x).toArray[0 * sz + j]?.getD undef = v
    rw [Nat.zero_mul, Nat.zero_add, List.getElem?_toArray, hv]; rfl)
theorem rd_lits {α : Type} {sz : Nat} {enc : α → List Value} {W W1 : World} {L : Nat} {xs : List α} (h : Rd sz enc W (some ⟨L, 0, none⟩) xs) (hs : W.heap.size ≤ W1.heap.size) (hc : ∀ {p : Addr} {c : Value}, W.cell? p = some c → p.block = L → W1.cell? p = some c) : Rd sz enc W1 (some ⟨L, 0, none⟩) xs := by
  intro h0
  obtain ⟨b, off, e, hlt, hcc⟩ := h h0
  injection e with e
  injection e with e1 e2
  subst e1 e2
  exact ⟨_, _, rfl, Nat.lt_of_lt_of_le hlt hs, fun k x hx j v hv => hc (hcc k x hx j v hv) rfl⟩
/-- Both literals first, in whatever order: then the numbers' append, then the rows'. -/
theorem col_apps {B LA LB : Nat} {W0 : World} {v u : Value} {xs : List Int} {rs : List RowV} {x : Int} {r : RowV} (h : ColM B W0 v u xs rs) (hb : B ≤ W0.heap.size) (rdA : Rd 1 encI W0 (some ⟨LA, 0, none⟩) [x]) (rdB : Rd 1 encRow W0 (some ⟨LB, 0, none⟩) [r]) (hL : v.ownBlock ≠ some LB) (hx : xs.length ≤ 1000) (hr : rs.length ≤ 1000) :
    Appends Try.prog W0 23 23 v (.slice (some ⟨LA, 0, none⟩) 1 1) ∧ ∃ v' W1, appV Try.prog W0 23 23 v (.slice (some ⟨LA, 0, none⟩) 1 1) = v' ∧ appW Try.prog W0 23 23 v (.slice (some ⟨LA, 0, none⟩) 1 1) = W1 ∧
      Appends Try.prog W1 28 28 u (.slice (some ⟨LB, 0, none⟩) 1 1) ∧ ∃ u' W2, appV Try.prog W1 28 28 u (.slice (some ⟨LB, 0, none⟩) 1 1) = u' ∧ appW Try.prog W1 28 28 u (.slice (some ⟨LB, 0, none⟩) 1 1) = W2 ∧
        Hid (ColM B W2 v' u' (xs ++ [x]) (rs ++ [r])) ∧ Hid (Below B W0 W1) ∧ Hid (Below B W0 W2) := by
  obtain ⟨p1, v', W1, av1, aw1, o1, s1⟩ := app_argR (P := Try.prog) (ty := 23) (c := 1) appInfoNum Try.underlying23 rfl (by omega) encI_len1 encI_one h.o5 rdA (m := 1) rfl hb (by unfold maxLen; omega) (by omega)
  obtain ⟨o6, a6⟩ := s1.out.row h.o6 h.ap
  have rdB1 : Rd 1 encRow W1 (some ⟨LB, 0, none⟩) [r] := rd_lits rdB s1.out.bel.size (fun hc he => s1.out.cell hc (by rw [he]; exact hL))
  obtain ⟨p2, u', W2, av2, aw2, o2, s2⟩ := app_argR (P := Try.prog) (ty := 28) (c := 1) appInfoRow Try.underlying28 rfl (by omega) encRow_len encRow_one o6 rdB1 (m := 1) rfl (Nat.le_trans hb s1.out.bel.size) (by unfold maxLen; omega) (by omega)
  obtain ⟨o5, a5⟩ := s2.out.row o1.out a6.symm
  exact ⟨p1, v', W1, av1, aw1, p2, u', W2, av2, aw2, Lib.hid ⟨o5, o2.out, a5.symm⟩, Lib.hid s1.out.bel, Lib.hid (s1.out.bel.trans s2.out.bel)⟩
/-- The rows' literal behind the numbers' append. -/
theorem col_apps2 {B : Nat} {W0 : World} {v u : Value} {xs : List Int} {rs : List RowV} (x : Int) (r : RowV) (h : ColM B W0 v u xs rs) (hb : B ≤ W0.heap.size) (hx : xs.length ≤ 1000) (hr : rs.length ≤ 1000) :
    Appends Try.prog (W0.alloc (.cells #[.int .i64 x] 3)) 23 23 v (.slice (some ⟨W0.heap.size, 0, none⟩) 1 1) ∧ ∃ v' W1, appV Try.prog (W0.alloc (.cells #[.int .i64 x] 3)) 23 23 v (.slice (some ⟨W0.heap.size, 0, none⟩) 1 1) = v' ∧ appW Try.prog (W0.alloc (.cells #[.int .i64 x] 3)) 23 23 v (.slice (some ⟨W0.heap.size, 0, none⟩) 1 1) = W1 ∧
      Appends Try.prog (W1.alloc (.cells #[.slice r.a r.n r.c] 23)) 28 28 u (.slice (some ⟨W1.heap.size, 0, none⟩) 1 1) ∧ ∃ u' W2, appV Try.prog (W1.alloc (.cells #[.slice r.a r.n r.c] 23)) 28 28 u (.slice (some ⟨W1.heap.size, 0, none⟩) 1 1) = u' ∧ appW Try.prog (W1.alloc (.cells #[.slice r.a r.n r.c] 23)) 28 28 u (.slice (some ⟨W1.heap.size, 0, none⟩) 1 1) = W2 ∧
        Hid (ColM B W2 v' u' (xs ++ [x]) (rs ++ [r])) ∧ Hid (Below B W0 W1) ∧ Hid (Below B W0 W2) := by
  obtain ⟨p1, v', W1, av1, aw1, o1, s1⟩ := app_num x h.o5 hb (by omega)
  obtain ⟨o6, a6⟩ := s1.out.row h.o6 h.ap
  obtain ⟨p2, u', W2, av2, aw2, o2, s2⟩ := app_row r.a r.n r.c o6 (Nat.le_trans hb s1.out.bel.size) (by omega)
  obtain ⟨o5, a5⟩ := s2.out.row o1.out a6.symm
  exact ⟨p1, v', W1, av1, aw1, p2, u', W2, av2, aw2, Lib.hid ⟨o5, o2.out, a5.symm⟩, Lib.hid s1.out.bel, Lib.hid (s1.out.bel.trans s2.out.bel)⟩
/-- The rows that are left. -/
structure RestOk (w : World) (rs : List RowV) (ps : List (List Int)) (k : Nat) : Prop where
  len : rs.length = k
  row : ∀ (i : Nat) (r : RowV) (p : List Int), i < k → rs[i]? = some r → ps[i]? = some p → p.tail.length = r.n ∧ r.n ≤ 9223372036854775807 ∧ Rd 1 encI w r.a p.tail ∧ r.n ≤ r.c
theorem RestOk.snoc {w : World} {rs : List RowV} {ps : List (List Int)} {k : Nat} {r : RowV} {p : List Int} (h : RestOk w rs ps k) (hp : ps[k]? = some p) (hr : p.tail.length = r.n ∧ r.n ≤ 9223372036854775807 ∧ Rd 1 encI w r.a p.tail ∧ r.n ≤ r.c) : RestOk w (rs ++ [r]) ps (k + 1) := by
  refine ⟨by rw [List.length_append, h.len]; rfl, fun i r' p' hi h1 h2 => ?_⟩
  by_cases c : i = k
  · subst c
    rw [List.getElem?_append_right (by rw [h.len]; exact Nat.le_refl _), h.len] at h1
    simp at h1
    subst h1
    rw [hp] at h2
    injection h2 with h2
    subst h2
    exact hr
  · rw [List.getElem?_append_left (by rw [h.len]; omega)] at h1
    exact h.row i r' p' (by omega) h1 h2
theorem RestOk.done {w w' : World} {A : Option Addr} {rs : List RowV} {ps : List (List Int)} (h : RestOk w rs ps ps.length) (hb : Below w.heap.size w w') (ht : Rd 1 encRow w' A rs) : RdP w' A rs (tailsOf ps) ∧ capsOk rs := by
  refine ⟨⟨ht, by rw [List.length_map]; exact h.len, fun k r p hr hp => ?_⟩, fun r hr => ?_⟩
  · rw [List.getElem?_map] at hp
    obtain ⟨q, hq, e⟩ := Option.map_eq_some_iff.1 hp
    have hk : k < ps.length := (List.getElem?_eq_some_iff.1 hq).1
    obtain ⟨x1, x2, x3, x4⟩ := h.row k r q hk hr hq
    rw [← e]
    exact ⟨x1, x2, x3.keep hb⟩
  · obtain ⟨i, hi, e⟩ := List.getElem_of_mem hr
    have hi2 : i < ps.length := by rw [← h.len]; exact hi
    exact (h.row i r ps[i] hi2 (by rw [List.getElem?_eq_getElem hi, e]) (List.getElem?_eq_getElem hi2)).2.2.2
/-- What column says. -/
def ColPost (w : World) (ps : List (List Int)) (M : Nat) (e : Ending) (w' : World) : Prop :=
  Below w.heap.size w w' ∧
  (((∃ k, k < M ∧ (rowAt ps k).length = 0) ∧ e = .returned (.tuple #[.slice none 0 0, .slice none 0 0, .bool false])) ∨
   ((∀ k, k < M → 0 < (rowAt ps k).length) ∧ ∃ a c a2 c2 rs, e = .returned (.tuple #[.slice a M c, .slice a2 M c2, .bool true]) ∧ Rd 1 encI w' a (colOf ps) ∧ RdP w' a2 rs (tailsOf ps) ∧ capsOk rs))
set_option maxRecDepth 100000 in
set_option maxHeartbeats 8000000 in
theorem laColumn_any (A : Option Addr) (c M : Nat) (rs : List RowV) (ps : List (List Int)) (w : World) (hR : RdP w A rs ps) (hcap : capsOk rs) (HM : Hid (ps.length = M)) (hM : M ≤ 1000) :
    Calls Try.prog 26 #[.slice A M c] w (ColPost w ps M) := by
  have HR := Lib.hid hR
  have HC := Lib.hid hcap
  have HP0 : Hid (ColM w.heap.size w (.slice none 0 0) (.slice none 0 0) [] []) := Lib.hid ⟨OwnR.nil _ _, OwnR.nil _ _, ApartV.nil _⟩
  have HRW0 : Hid (RestOk w [] ps 0) := Lib.hid ⟨rfl, fun i r p hi => by omega⟩
  clear hR hcap
  go_enter Try.func26, Try.ntmps26
  go_wp2
  go_loopg [5, 6, 8, 11] M (fun g1 v5 v6 v8 v11 wr => ∃ (k : Nat) (rs' : List RowV), v11 = .int .i64 k ∧ k ≤ M ∧ M - k ≤ g1 ∧ Hid (∀ i, i < k → 0 < (rowAt ps i).length) ∧ Hid (RestOk w rs' ps k) ∧ Hid (ColM w.heap.size wr v5 v6 (colOf (ps.take k)) rs' ∧ Below w.heap.size w wr))
  case atStart => exact ⟨0, [], by go_num, by omega, by omega, Lib.hid (fun i hi => by omega), HRW0, Lib.hid ⟨HP0.out, Below.refl _ _⟩⟩
  case round =>
    obtain ⟨k, rs', rfl, hk, hg1, HA, HRW, HP⟩ := hrel
    by_cases hlt : k < M
    · have hltz : (k : Int) < (M : Int) := by omega
      obtain ⟨b, off, r, hAe, hbl, hc0, hrn, hr63, hrr⟩ := (HR.out.keep HP.out.2).at_ (k := k) (by rw [HM.out]; exact hlt)
      subst hAe
      by_cases hz : r.n = 0
      · have HPost : Hid (∀ e w', Below w.heap.size w w' → e = Ending.returned (.tuple #[.slice none 0 0, .slice none 0 0, .bool false]) → ColPost w ps M e w') := Lib.hid (fun e w' hb he => ⟨hb, .inl ⟨⟨k, hlt, by rw [hrn, hz]⟩, he⟩⟩)
        have HB : Hid (Below w.heap.size w wr) := Lib.hid HP.out.2
        rw [hz] at hc0
        clear hrn hrr hz
        go_wp2
        go_ret3
        exact HPost.out _ _ HB.out rfl
      · have hnz : ((r.n : Int) == 0) = false := by simp; omega
        have hn1 : (1 : Int) ≤ (r.n : Int) := by omega
        have hn1z : (0 : Int) < (r.n : Int) := by omega
        obtain ⟨p, hp⟩ : ∃ p, p = rowAt ps k := ⟨_, rfl⟩
        have hpk : ps[k]? = some p := by rw [hp]; simp [rowAt, List.getElem?_eq_getElem (show k < ps.length by rw [HM.out]; exact hlt)]
        have hrk : rs[k]? = some r := by
          obtain ⟨b9, o9, r9, hA9, _, hr9, hc9⟩ := HR.out.top.at_ (k := k) (by rw [HR.out.len, HM.out]; exact hlt)
          injection hA9 with hA9
          injection hA9 with e1 e2
          subst e1 e2
          have h9 := hc9 0 _ rfl
          have h8 := (HP.out.2.cell (p := ⟨b, off + k * 1 + 0, none⟩) (World.block_lt_of_cell? w _ h9)).trans h9
          have h7 : wr.cell? ⟨b, off + k * 1 + 0, none⟩ = some (.slice r.a r.n r.c) := by rw [Nat.mul_one, Nat.add_zero]; exact hc0
          rw [h7] at h8
          injection h8 with h8
          injection h8 with e1 e2 e3
          have : r = r9 := by cases r; cases r9; simp_all
          rw [this]; exact hr9
        obtain ⟨q1, q2, q3⟩ := HR.out.row k r p hrk hpk
        have hcp := HC.out r (List.mem_of_getElem? hrk)
        obtain ⟨b1, o1, hra, l1w, hcell⟩ := q3 (by omega)
        have hx1w : w.cell? ⟨b1, o1, none⟩ = some (.int .i64 (fAt p 0)) := by
          have h0 : p[0]? = some (fAt p 0) := by
            have : 0 < p.length := by omega
            simp [fAt, List.getElem?_eq_getElem this]
          have := hcell 0 _ h0 0 _ rfl
          simpa using this
        have hra2 : Rd 1 encI w (some ⟨b1, o1, none⟩) p := by rw [← hra]; exact q3
        have Hcase : ∃ a', Hid (((r.c = 1 ∧ a' = some ⟨b1, o1, none⟩) ∨ (¬ r.c = 1 ∧ a' = some ⟨b1, o1 + 1, none⟩)) ∧ Rd 1 encI w a' p.tail) := by
          by_cases c1 : r.c = 1
          · refine ⟨_, Lib.hid ⟨.inl ⟨c1, rfl⟩, ?_⟩⟩
            have : p.tail = [] := List.eq_nil_of_length_eq_zero (by rw [List.length_tail]; omega)
            rw [this]; exact Rd.nil
          · exact ⟨_, Lib.hid ⟨.inr ⟨c1, rfl⟩, rd_tail1 hra2⟩⟩
        obtain ⟨a', hcs⟩ := Hcase
        have HRW2 : Hid (RestOk w (rs' ++ [⟨a', r.n - 1, r.c - 1⟩]) ps (k + 1)) := Lib.hid (HRW.out.snoc hpk ⟨by rw [List.length_tail]; dsimp only; omega, by dsimp only; omega, hcs.out.2, by dsimp only; omega⟩)
        have Hcs : Hid ((r.c = 1 ∧ a' = some ⟨b1, o1, none⟩) ∨ (¬ r.c = 1 ∧ a' = some ⟨b1, o1 + 1, none⟩)) := Lib.hid hcs.out.1
        have HG : Hid (∀ i, i < k + 1 → 0 < (rowAt ps i).length) := Lib.hid (fun i hi => by
          by_cases c : i = k
          · subst c; rw [← hp]; omega
          · exact HA.out i (by omega))
        have HCOL : Hid (colOf (ps.take (k + 1)) = colOf (ps.take k) ++ [fAt p 0]) := Lib.hid (by unfold colOf; rw [take_snoc hpk, List.map_append]; rfl)
        obtain ⟨x, hx⟩ : ∃ x, x = fAt p 0 := ⟨_, rfl⟩
        rw [← hx] at hx1w
        have Hx := Lib.hid hx
        have Hra := Lib.hid hra
        have Hp := Lib.hid hp
        clear hcell q3 hra2 hpk hrk hcs hx hra hp q1 hrr hrn
        have hncz := hcp
        clear HA HRW
        have hxl : (colOf (ps.take k)).length ≤ 1000 := by simp only [colOf, List.length_map, List.length_take]; omega
        have hM := HP.out.1
        have hB0 := HP.out.2.drew
        have hB1 : Below w.heap.size w wr.drew := hB0
        have lo5 : ∀ q, u5.ownBlock = some q → q < wr.heap.size := fun q hq => (World.ownsRow.lt hM.o5 q hq).2
        have hMd : ColM w.heap.size wr.drew u5 u6 (colOf (ps.take k)) rs' := ⟨hM.o5, hM.o6, hM.ap⟩
        have hsz : w.heap.size ≤ wr.drew.heap.size := hB1.size
        have hrs : rs'.length ≤ 1000 := by have := HRW2.out.len; simp at this; omega
        have hMA : ColM w.heap.size ((wr.drew.alloc (.cells #[.int .i64 x] 3)).alloc (.cells #[.slice a' (r.n - 1) (r.c - 1)] 23)) u5 u6 (colOf (ps.take k)) rs' := ⟨(hMd.o5.alloc _).alloc _, (hMd.o6.alloc _).alloc _, hMd.ap⟩
        have hMB : ColM w.heap.size ((wr.drew.alloc (.cells #[.slice a' (r.n - 1) (r.c - 1)] 23)).alloc (.cells #[.int .i64 x] 3)) u5 u6 (colOf (ps.take k)) rs' := ⟨(hMd.o5.alloc _).alloc _, (hMd.o6.alloc _).alloc _, hMd.ap⟩
        have rA1 : Rd 1 encI ((wr.drew.alloc (.cells #[.int .i64 x] 3)).alloc (.cells #[.slice a' (r.n - 1) (r.c - 1)] 23)) (some ⟨wr.heap.size, 0, none⟩) [x] := (rd_lit1 encI_len1 wr.drew 3 x).keep ((Below.refl _ _).alloc (Nat.le_refl _) _)
        have rA2 : Rd 1 encRow ((wr.drew.alloc (.cells #[.int .i64 x] 3)).alloc (.cells #[.slice a' (r.n - 1) (r.c - 1)] 23)) (some ⟨wr.heap.size + 1, 0, none⟩) [⟨a', r.n - 1, r.c - 1⟩] := by
          have h := rd_lit1 encRow_len (wr.drew.alloc (.cells #[.int .i64 x] 3)) 23 (⟨a', r.n - 1, r.c - 1⟩ : RowV)
          rw [World.size_alloc] at h
          exact h
        have rB1 : Rd 1 encRow ((wr.drew.alloc (.cells #[.slice a' (r.n - 1) (r.c - 1)] 23)).alloc (.cells #[.int .i64 x] 3)) (some ⟨wr.heap.size, 0, none⟩) [⟨a', r.n - 1, r.c - 1⟩] := (rd_lit1 encRow_len wr.drew 23 (⟨a', r.n - 1, r.c - 1⟩ : RowV)).keep ((Below.refl _ _).alloc (Nat.le_refl _) _)
        have rB2 : Rd 1 encI ((wr.drew.alloc (.cells #[.slice a' (r.n - 1) (r.c - 1)] 23)).alloc (.cells #[.int .i64 x] 3)) (some ⟨wr.heap.size + 1, 0, none⟩) [x] := by
          have h := rd_lit1 encI_len1 (wr.drew.alloc (.cells #[.slice a' (r.n - 1) (r.c - 1)] 23)) 3 x
          rw [World.size_alloc] at h
          exact h
        have szA : w.heap.size ≤ ((wr.drew.alloc (.cells #[.int .i64 x] 3)).alloc (.cells #[.slice a' (r.n - 1) (r.c - 1)] 23)).heap.size := by rw [World.size_alloc, World.size_alloc]; omega
        have szB : w.heap.size ≤ ((wr.drew.alloc (.cells #[.slice a' (r.n - 1) (r.c - 1)] 23)).alloc (.cells #[.int .i64 x] 3)).heap.size := by rw [World.size_alloc, World.size_alloc]; omega
        have wA : Below w.heap.size wr.drew ((wr.drew.alloc (.cells #[.int .i64 x] 3)).alloc (.cells #[.slice a' (r.n - 1) (r.c - 1)] 23)) := ((Below.refl w.heap.size wr.drew).alloc hsz _).alloc (Nat.le_trans hsz (by simp)) _
        have wB : Below w.heap.size wr.drew ((wr.drew.alloc (.cells #[.slice a' (r.n - 1) (r.c - 1)] 23)).alloc (.cells #[.int .i64 x] 3)) := ((Below.refl w.heap.size wr.drew).alloc hsz _).alloc (Nat.le_trans hsz (by simp)) _
        obtain ⟨pA1, vA', XA1, vA1, WA1, pA2, uA', XA2, vA2, WA2, cA, bA1, bA2⟩ := col_apps2 x (⟨a', r.n - 1, r.c - 1⟩ : RowV) hMd hsz hxl hrs
        obtain ⟨pB1, vB', XB1, vB1, WB1, pB2, uB', XB2, vB2, WB2, cB, bB1', bB2'⟩ := col_apps hMA szA rA1 rA2 (fun e => by have := lo5 _ e; omega) hxl hrs
        obtain ⟨pC1, vC', XC1, vC1, WC1, pC2, uC', XC2, vC2, WC2, cC, bC1', bC2'⟩ := col_apps hMB szB rB2 rB1 (fun e => by have := lo5 _ e; omega) hxl hrs
        have bB1 := Lib.hid (wA.trans bB1'.out)
        have bB2 := Lib.hid (wA.trans bB2'.out)
        have bC1 := Lib.hid (wB.trans bC1'.out)
        have bC2 := Lib.hid (wB.trans bC2'.out)
        have HFA : Hid (ColM w.heap.size XA2 vA' uA' (colOf (ps.take (k + 1))) (rs' ++ [⟨a', r.n - 1, r.c - 1⟩]) ∧ Below w.heap.size w XA2) := Lib.hid ⟨by rw [HCOL.out, ← Hx.out]; exact cA.out, hB1.trans bA2.out⟩
        have HFB : Hid (ColM w.heap.size XB2 vB' uB' (colOf (ps.take (k + 1))) (rs' ++ [⟨a', r.n - 1, r.c - 1⟩]) ∧ Below w.heap.size w XB2) := Lib.hid ⟨by rw [HCOL.out, ← Hx.out]; exact cB.out, hB1.trans bB2.out⟩
        have HFC : Hid (ColM w.heap.size XC2 vC' uC' (colOf (ps.take (k + 1))) (rs' ++ [⟨a', r.n - 1, r.c - 1⟩]) ∧ Below w.heap.size w XC2) := Lib.hid ⟨by rw [HCOL.out, ← Hx.out]; exact cC.out, hB1.trans bC2.out⟩
        have HB := Lib.hid HP.out.2
        have l1 := l1w
        have hx1 := hx1w
        clear hM hMd hMA hMB rA1 rA2 rB1 rB2 szA szB wA wB cA cB cC bB1' bB2' bC1' bC2' lo5 hB1
        go_upto_region 8 with (fail)
        refine region_z (S := fun w' => Below w.heap.size w w') [12] (by kernel_rfl) HB.out.drew (fun hHeld => ?_)
        refine wpAnyZ_take (i := 0) (v := u5) [12] rfl (by kernel_rfl) (by kernel_rfl) (by kernel_rfl) (by kernel_rfl) (fun _ _ _ h => h) (Or.inl ⟨by rfl, fun w' hSw => ?_⟩) hHeld ?_
        · clear hHeld
          go_simp
        simp only [Act.put, List.setIfInBounds_toArray, List.set_cons_zero, List.set_cons_succ]
        refine wpAnyZ_take (i := 1) (v := .slice r.a r.n r.c) [12] rfl (by kernel_rfl) (by kernel_rfl) (by kernel_rfl) (by kernel_rfl) (fun _ _ _ h => h) (Or.inl ⟨by rfl, fun w' hSw => ?_⟩) hHeld ?_
        · clear hHeld
          go_simp
        simp only [Act.put, List.setIfInBounds_toArray, List.set_cons_zero, List.set_cons_succ]
        refine wpAnyZ_take (i := 2) (v := .pointer (some ⟨b1, o1, none⟩)) [12] rfl (by kernel_rfl) (by kernel_rfl) (by kernel_rfl) (by kernel_rfl) (fun _ _ _ h => h) (Or.inl ⟨by rfl, fun w' hSw => ?_⟩) hHeld ?_
        · clear hHeld
          rw [Hra.out]
          go_simp
        simp only [Act.put, List.setIfInBounds_toArray, List.set_cons_zero, List.set_cons_succ]
        refine wpAnyZ_take (i := 3) (v := .int .i64 x) [12] rfl (by kernel_rfl) (by kernel_rfl) (by kernel_rfl) (by kernel_rfl) (fun _ _ _ h => h) (Or.inl ⟨by rfl, fun w' hSw => ?_⟩) hHeld ?_
        · clear hHeld
          have s0 := (hSw.cell (p := ⟨b1, o1, none⟩) l1).trans hx1
          go_simp
        simp only [Act.put, List.setIfInBounds_toArray, List.set_cons_zero, List.set_cons_succ]
        refine wpAnyZ_take (i := 6) (v := u6) [12] rfl (by kernel_rfl) (by kernel_rfl) (by kernel_rfl) (by kernel_rfl) (fun _ _ _ h => h) (Or.inl ⟨by rfl, fun w' hSw => ?_⟩) hHeld ?_
        · clear hHeld
          go_simp
        simp only [Act.put, List.setIfInBounds_toArray, List.set_cons_zero, List.set_cons_succ]
        refine wpAnyZ_take (i := 7) (v := .slice r.a r.n r.c) [12] rfl (by kernel_rfl) (by kernel_rfl) (by kernel_rfl) (by kernel_rfl) (fun _ _ _ h => h) (Or.inl ⟨by rfl, fun w' hSw => ?_⟩) hHeld ?_
        · clear hHeld
          go_simp
        simp only [Act.put, List.setIfInBounds_toArray, List.set_cons_zero, List.set_cons_succ]
        refine wpAnyZ_take (i := 8) (v := .slice a' (r.n - 1) (r.c - 1)) [12] rfl (by kernel_rfl) (by kernel_rfl) (by kernel_rfl) (by kernel_rfl) (fun _ _ _ h => h) (Or.inl ⟨by rfl, fun w' hSw => ?_⟩) hHeld ?_
        · clear hHeld
          rw [Hra.out]
          rcases Hcs.out with ⟨h1, h2⟩ | ⟨h1, h2⟩
          · rw [h1, h2]
            rw [h1] at hncz
            go_simp
          · rw [h2]
            go_simp
        simp only [Act.put, List.setIfInBounds_toArray, List.set_cons_zero, List.set_cons_succ]
        refine wpAnyZ_two (i := 4) (k := 9) (by kernel_rfl) rfl rfl (fun K' hK => ?_) (fun K' hK => ?_)
        · go_simp
          refine hK.out _ _ ?_ (fun hHeld => ?_)
          · exact hHeld.alloc hHeld.size _
          clear hK K'
          try simp only [Act.put, List.setIfInBounds_toArray, List.set_cons_zero, List.set_cons_succ]
          refine wpAnyZ_two (i := 5) (k := 9) (by kernel_rfl) rfl rfl (fun K' hK => ?_) (fun K' hK => ?_)
          · rw [if_pos (by rfl)]
            refine append_go rfl rfl pA1 vA1 WA1 ?_
            refine hK.out _ _ ?_ (fun hHeld => ?_)
            · exact hB0.trans bA1.out
            clear hK K'
            try simp only [Act.put, List.setIfInBounds_toArray, List.set_cons_zero, List.set_cons_succ]
            refine wpAnyZ_one (i := 9) (by kernel_rfl) rfl (fun K' hK => ?_)
            go_simp
            refine hK.out _ _ ?_ (fun hHeld => ?_)
            · exact hHeld.alloc hHeld.size _
            clear hK K'
            try simp only [Act.put, List.setIfInBounds_toArray, List.set_cons_zero, List.set_cons_succ]
            refine wpAnyZ_one (i := 10) (by kernel_rfl) rfl (fun K' hK => ?_)
            rw [if_pos (by rfl)]
            refine append_go rfl rfl pA2 vA2 WA2 ?_
            refine hK.out _ _ ?_ (fun hHeld => ?_)
            · exact hB0.trans bA2.out
            clear hK K'
            try simp only [Act.put, List.setIfInBounds_toArray, List.set_cons_zero, List.set_cons_succ]
            refine wpAnyZ_one (i := 11) (by kernel_rfl) rfl (fun K' hK => ?_)
            go_simp
            refine hK.out _ _ ?_ (fun hHeld => ?_)
            · exact hHeld
            clear hK K'
            try simp only [Act.put, List.setIfInBounds_toArray, List.set_cons_zero, List.set_cons_succ]
            refine wpAnyZ_last (i := 12) (by kernel_rfl) rfl (by kernel_rfl) (fun K' hK => ?_)
            go_simp
            refine hK.out _ _ ?_
            clear hK K'
            try simp only [Act.put, List.setIfInBounds_toArray, List.set_cons_zero, List.set_cons_succ]
            refine wpAnyZ_done (by kernel_rfl) ?_ _
            clear hHeld
            go_step
            go_wp2
            refine Handed.intro (M - (k + 1)) (by omega) ?_
            go_step
            (repeat apply Exists.intro)
            exact ⟨⟨k + 1, rs' ++ [⟨a', r.n - 1, r.c - 1⟩], by go_num, by omega, by omega, HG, HRW2, HFA⟩, rfl⟩
          · go_simp
            refine hK.out _ _ ?_ (fun hHeld => ?_)
            · exact hHeld.alloc hHeld.size _
            clear hK K'
            try simp only [Act.put, List.setIfInBounds_toArray, List.set_cons_zero, List.set_cons_succ]
            refine wpAnyZ_one (i := 5) (by kernel_rfl) rfl (fun K' hK => ?_)
            rw [if_pos (by rfl)]
            refine append_go rfl rfl pB1 vB1 WB1 ?_
            refine hK.out _ _ ?_ (fun hHeld => ?_)
            · exact hB0.trans bB1.out
            clear hK K'
            try simp only [Act.put, List.setIfInBounds_toArray, List.set_cons_zero, List.set_cons_succ]
            refine wpAnyZ_one (i := 10) (by kernel_rfl) rfl (fun K' hK => ?_)
            rw [if_pos (by rfl)]
            refine append_go rfl rfl pB2 vB2 WB2 ?_
            refine hK.out _ _ ?_ (fun hHeld => ?_)
            · exact hB0.trans bB2.out
            clear hK K'
            try simp only [Act.put, List.setIfInBounds_toArray, List.set_cons_zero, List.set_cons_succ]
            refine wpAnyZ_one (i := 11) (by kernel_rfl) rfl (fun K' hK => ?_)
            go_simp
            refine hK.out _ _ ?_ (fun hHeld => ?_)
            · exact hHeld
            clear hK K'
            try simp only [Act.put, List.setIfInBounds_toArray, List.set_cons_zero, List.set_cons_succ]
            refine wpAnyZ_last (i := 12) (by kernel_rfl) rfl (by kernel_rfl) (fun K' hK => ?_)
            go_simp
            refine hK.out _ _ ?_
            clear hK K'
            try simp only [Act.put, List.setIfInBounds_toArray, List.set_cons_zero, List.set_cons_succ]
            refine wpAnyZ_done (by kernel_rfl) ?_ _
            clear hHeld
            go_step
            go_wp2
            refine Handed.intro (M - (k + 1)) (by omega) ?_
            go_step
            (repeat apply Exists.intro)
            exact ⟨⟨k + 1, rs' ++ [⟨a', r.n - 1, r.c - 1⟩], by go_num, by omega, by omega, HG, HRW2, HFB⟩, rfl⟩
        · go_simp
          refine hK.out _ _ ?_ (fun hHeld => ?_)
          · exact hHeld.alloc hHeld.size _
          clear hK K'
          try simp only [Act.put, List.setIfInBounds_toArray, List.set_cons_zero, List.set_cons_succ]
          refine wpAnyZ_one (i := 4) (by kernel_rfl) rfl (fun K' hK => ?_)
          go_simp
          refine hK.out _ _ ?_ (fun hHeld => ?_)
          · exact hHeld.alloc hHeld.size _
          clear hK K'
          try simp only [Act.put, List.setIfInBounds_toArray, List.set_cons_zero, List.set_cons_succ]
          refine wpAnyZ_one (i := 5) (by kernel_rfl) rfl (fun K' hK => ?_)
          rw [if_pos (by rfl)]
          refine append_go rfl rfl pC1 vC1 WC1 ?_
          refine hK.out _ _ ?_ (fun hHeld => ?_)
          · exact hB0.trans bC1.out
          clear hK K'
          try simp only [Act.put, List.setIfInBounds_toArray, List.set_cons_zero, List.set_cons_succ]
          refine wpAnyZ_one (i := 10) (by kernel_rfl) rfl (fun K' hK => ?_)
          rw [if_pos (by rfl)]
          refine append_go rfl rfl pC2 vC2 WC2 ?_
          refine hK.out _ _ ?_ (fun hHeld => ?_)
          · exact hB0.trans bC2.out
          clear hK K'
          try simp only [Act.put, List.setIfInBounds_toArray, List.set_cons_zero, List.set_cons_succ]
          refine wpAnyZ_one (i := 11) (by kernel_rfl) rfl (fun K' hK => ?_)
          go_simp
          refine hK.out _ _ ?_ (fun hHeld => ?_)
          · exact hHeld
          clear hK K'
          try simp only [Act.put, List.setIfInBounds_toArray, List.set_cons_zero, List.set_cons_succ]
          refine wpAnyZ_last (i := 12) (by kernel_rfl) rfl (by kernel_rfl) (fun K' hK => ?_)
          go_simp
          refine hK.out _ _ ?_
          clear hK K'
          try simp only [Act.put, List.setIfInBounds_toArray, List.set_cons_zero, List.set_cons_succ]
          refine wpAnyZ_done (by kernel_rfl) ?_ _
          clear hHeld
          go_step
          go_wp2
          refine Handed.intro (M - (k + 1)) (by omega) ?_
          go_step
          (repeat apply Exists.intro)
          exact ⟨⟨k + 1, rs' ++ [⟨a', r.n - 1, r.c - 1⟩], by go_num, by omega, by omega, HG, HRW2, HFC⟩, rfl⟩
    · have hltz : ¬ (k : Int) < (M : Int) := by omega
      have hkM : k = M := by omega
      subst hkM
      have hcm := HP.out.1
      rw [List.take_of_length_le (by rw [HM.out]; exact Nat.le_refl _)] at hcm
      obtain ⟨a1, c1, e1, q1, r1⟩ := hcm.o5.rdC encI_len1
      obtain ⟨a2, c2, e2, q2, r2⟩ := hcm.o6.rdC encRow_len
      have hrw := HRW.out
      rw [show (colOf ps).length = k by simp [colOf, HM.out]] at e1
      rw [hrw.len] at e2
      have hrw2 : RestOk w rs' ps ps.length := by rw [HM.out]; exact hrw
      obtain ⟨r3, r4⟩ := hrw2.done HP.out.2 r2
      have HPost : Hid (∀ e, e = Ending.returned (.tuple #[u5, u6, .bool true]) → ColPost w ps k e wr) := Lib.hid (fun e he => ⟨HP.out.2, .inr ⟨HA.out, a1, c1, a2, c2, rs', by rw [he, e1, e2], r1, r3, r4⟩⟩)
      clear e1 e2 r1 r2 r3 r4 hcm hrw hrw2
      go_wp2
      go_ret3
      exact HPost.out _ rfl
end Go.Proofs.Ytgfcnkfmgpakkaa
/-
The reference's Advance, walked.
-/
namespace Go.Proofs.Ytgfcnkfmgpakkaa
open Go.RowKit
set_option linter.unusedVariables false
set_option linter.unusedSimpArgs false
/-- A job's cells, and a list that grows, while the reference's Advance makes a round. -/
structure RAm (w1 X : World) (b : Nat) (j : GJob) (v : Value) (xs : List GJob) : Prop where
  o : Own X b 25 5 (jobF j)
  l : OwnJ X w1.heap.size v xs
  ne : v.ownBlock ≠ some b
  b1 : w1.heap.size ≤ b
  bel : Below w1.heap.size w1 X
theorem RAm.set {w1 X : World} {b : Nat} {j j' : GJob} {v : Value} {xs : List GJob} (h : RAm w1 X b j v xs) (i : Nat) (u : Value) (hj : ∀ k, k < 5 → (if k = i then u else jobF j k) = jobF j' k) : RAm w1 (X.setCell ⟨b, i, none⟩ u) b j' v xs := by
  have hM : Mod (fun q => q = b) X (X.setCell ⟨b, i, none⟩ u) := (Mod.refl (fun q => q = b) X).setCell (p := ⟨b, i, none⟩) (.inl rfl) _
  exact ⟨(h.o.set i u).congr hj, h.l.mod hM (fun q hq e => h.ne (by rw [hq, e])), h.ne, h.b1, h.bel.setCell (p := ⟨b, i, none⟩) h.b1 _⟩
theorem RAm.next {w1 X : World} {b : Nat} {j : GJob} {d : Int} {v : Value} {xs : List GJob} (h : RAm w1 X b (withE j (j.energy - d)) v xs) {a c : Int} (h0 : a = max 0 (j.frm - 1)) (h1 : c = max 0 (j.till - 1)) :
    RAm w1 ((X.setCell ⟨b, 0, none⟩ (.int .i64 a)).setCell ⟨b, 1, none⟩ (.int .i64 c)) b (nextJ j d) v xs := by
  subst h0 h1
  refine (h.set (j' := ⟨max 0 (j.frm - 1), j.till, j.energy - d, j.rate, j.rank⟩) 0 _ (fun k hk => ?_)).set 1 _ (fun k hk => ?_)
  · rcases k with _ | _ | _ | _ | _ | k
    all_goals first | rfl | omega
  · rcases k with _ | _ | _ | _ | _ | k
    all_goals first | rfl | omega
theorem okD_over {js : List GJob} {sup done : List Int} {k : Nat} (hk : k < js.length) (h : fAt sup 0 < S (k + 1) (fAt done)) : okD js sup done = false := by
  refine okD_not (fun x => ?_)
  obtain ⟨x1, x2, x3, x4, x5⟩ := x
  have := S_mono_n (g := fAt done) (n := k + 1) (m := js.length) (by omega) (fun i hi => (x4 i hi).1)
  omega
set_option maxRecDepth 100000 in
set_option maxHeartbeats 8000000 in
theorem raAdvance_any (A A2 A3 : Option Addr) (c N c2 T c3 M : Nat) (js : List GJob) (sup done : List Int) (w : World) (hR : Rd 5 encJ w A js) (HN : Hid (js.length = N)) (hl : N ≤ 9223372036854775807) (hR2 : Rd 1 encI w A2 sup) (HN2 : Hid (sup.length = T)) (hl2 : T ≤ 9223372036854775807)
    (hR3 : Rd 1 encI w A3 done) (HN3 : Hid (done.length = M)) (hl3 : M ≤ 9223372036854775807) :
    Calls Try.prog 30 #[.slice A N c, .slice A2 T c2, .slice A3 M c3] w (AdvPost w js sup done N T) := by
  go_enter Try.func30, Try.ntmps30
  go_wp2_with fail
  refine (rpValid_any A A2 c N c2 T js sup w hR HN hl hR2 HN2 hl2).mono ?_
  rintro e w1 ⟨rfl, b1⟩
  cases hok : okP js sup
  · have HBAD : Hid (∀ (e : Ending) (w' : World), Below w1.heap.size w1 w' → e = .returned (.tuple #[.slice none 0 0, .slice none 0 0, .int .i64 1]) → AdvPost w js sup done N T e w') := Lib.hid (fun e w' hb he => ⟨below_then b1 hb, .inl ⟨okD_not (fun h => by rw [hok] at h; cases h.1), he⟩⟩)
    go_wp2_with fail
    go_ret3
    exact HBAD.out _ _ (Below.refl _ _) rfl
  obtain ⟨⟨t1, t2⟩, _, _⟩ := okP_iff.1 hok
  rw [HN.out] at t1
  rw [HN2.out] at t2
  have HOK := Lib.hid hok
  have B1 := Lib.hid b1
  have HBADX : Hid (okD js sup done = false → ∀ (e : Ending) (w' : World), Below w1.heap.size w1 w' → e = .returned (.tuple #[.slice none 0 0, .slice none 0 0, .int .i64 1]) → AdvPost w js sup done N T e w') := Lib.hid (fun h e w' hb he => ⟨below_then B1.out hb, .inl ⟨h, he⟩⟩)
  clear hok
  by_cases hT : T = 0
  · have HBAD := Lib.hid (HBADX.out (okD_not (fun h => by have := h.2.1; rw [HN2.out] at this; omega)))
    subst hT
    go_wp2_with fail
    go_ret3
    exact HBAD.out _ _ (Below.refl _ _) rfl
  have hTz : ((T : Int) == 0) = false := by simp; omega
  have hT0 : (0 : Int) < (T : Int) := by omega
  by_cases hM : M = N
  case neg =>
    have HBAD := Lib.hid (HBADX.out (okD_not (fun h => by have := h.2.2.1; rw [HN.out, HN3.out] at this; exact hM this)))
    have hMz : ((M : Int) != (N : Int)) = true := by rw [bne_iff_ne]; omega
    clear hM
    go_wp2_with fail
    go_ret3
    exact HBAD.out _ _ (Below.refl _ _) rfl
  subst hM
  obtain ⟨N, rfl⟩ : ∃ N, M = N := ⟨M, rfl⟩
  have HR := Lib.hid (hR.keep b1)
  have HR2 := Lib.hid (hR2.keep b1)
  have HR3 := Lib.hid (hR3.keep b1)
  obtain ⟨bs, os, hA2, hbs, hcs⟩ := (hR2.keep b1).int (k := 0) (by rw [HN2.out]; omega)
  subst hA2
  have hcs0 : w1.cell? ⟨bs, os, none⟩ = some (.int .i64 (fAt sup 0)) := hcs
  have hs0 := okP_sup HOK.out (t := 0) (by rw [HN2.out]; omega)
  obtain ⟨s0, hs0e⟩ : ∃ s0, s0 = fAt sup 0 := ⟨_, rfl⟩
  rw [← hs0e] at hcs0 hs0
  have HS0 := Lib.hid hs0e
  have HT : Hid (0 < sup.length) := Lib.hid (by rw [HN2.out]; omega)
  have HO0 : Hid (OwnJ w1 w1.heap.size (.slice none 0 0) []) := Lib.hid (OwnR.nil _ _)
  clear hcs hs0e hR hR2 hR3 b1
  have hTpos : 0 < T := by omega
  clear hT
  go_wp2
  go_loopg [9, 10, 11, 12] M (fun g1 v9 v10 v11 v12 wr => ∃ k : Nat, v11 = .int .i64 k ∧ v9 = .int .i64 (s0 - S k (fAt done)) ∧ k ≤ M ∧ M - k ≤ g1 ∧ Hid (okDTo js done k ∧ S k (fAt done) ≤ s0) ∧ Hid (OwnJ wr w1.heap.size v10 (mk k (fun i => nextJ (jAt js i) (fAt done i)))) ∧ Hid (Below w1.heap.size w1 wr))
  case atStart => exact ⟨0, by go_num, by simp [S], by omega, by omega, Lib.hid ⟨fun i hi => by omega, by simp [S]; omega⟩, HO0, Lib.hid (Below.refl _ _)⟩
  case round =>
    obtain ⟨k, rfl, rfl, hk, hg1, HA, HX, HB⟩ := hrel
    obtain ⟨sb1, sb2⟩ := done_bound HOK.out (by rw [HN.out]; exact hk) HA.out.1
    have sb3 := HA.out.2
    obtain ⟨sk, hsk⟩ : ∃ sk, sk = S k (fAt done) := ⟨_, rfl⟩
    rw [← hsk] at sb1 sb2 sb3 ⊢
    by_cases hlt : k < M
    · have hltz : (k : Int) < (M : Int) := by omega
      obtain ⟨bj, oj, j, rfl, hbj, hj, c0, c1, c2', c3', c4⟩ := rdJ_at (HR.out.keep HB.out) (k := k) (by rw [HN.out]; exact hlt)
      have hjk : jAt js k = j := by simp [jAt, hj]
      have hjb := okP_job HOK.out (i := k) (by rw [HN.out]; exact hlt)
      rw [hjk] at hjb
      obtain ⟨d, hd⟩ : ∃ d, d = fAt done k := ⟨_, rfl⟩
      have HD := Lib.hid hd
      have HJ := Lib.hid hjk
      have HSK := Lib.hid hsk
      have hM0 : RAm w1 (wr.alloc (.cells #[.int .i64 j.frm, .int .i64 j.till, .int .i64 j.energy, .int .i64 j.rate, .int .i64 j.rank] 25)) wr.heap.size j u10 (mk k (fun i => nextJ (jAt js i) (fAt done i))) :=
        ⟨jobNew wr j, HX.out.alloc _, (fun e => by have := (World.ownsRow.lt HX.out _ e).2; omega), HB.out.size, HB.out.alloc HB.out.size _⟩
      obtain ⟨W, hW⟩ : ∃ W, W = wr.alloc (.cells #[.int .i64 j.frm, .int .i64 j.till, .int .i64 j.energy, .int .i64 j.rate, .int .i64 j.rank] 25) := ⟨_, rfl⟩
      obtain ⟨b, hb⟩ : ∃ b, b = wr.heap.size := ⟨_, rfl⟩
      rw [← hW, ← hb] at hM0
      have HW := Lib.hid hW.symm
      have Hb := Lib.hid hb.symm
      obtain ⟨b3, o3, hA3, l3, hc3a⟩ := (HR3.out.keep hM0.bel).int (k := k) (by rw [HN3.out]; exact hlt)
      subst hA3
      have hc3 : W.cell? ⟨b3, o3 + k, none⟩ = some (.int .i64 (fAt done k)) := hc3a
      rw [← hd] at hc3
      obtain ⟨b3w, o3w, hA3w, l3w, hc3w0⟩ := HR3.out.int (k := k) (by rw [HN3.out]; exact hlt)
      injection hA3w with hA3w
      injection hA3w with e3 e4
      subst e3 e4
      have hc3w : w1.cell? ⟨b3, o3 + k, none⟩ = some (.int .i64 (fAt done k)) := hc3w0
      rw [← hd] at hc3w
      have hc3w := Lib.hid hc3w
      have l3w := Lib.hid l3w
      have k0 : W.cell? ⟨b, 0, none⟩ = some (.int .i64 j.frm) := hM0.o.cell (i := 0) (by omega)
      have k1 : W.cell? ⟨b, 1, none⟩ = some (.int .i64 j.till) := hM0.o.cell (i := 1) (by omega)
      have k2 : W.cell? ⟨b, 2, none⟩ = some (.int .i64 j.energy) := hM0.o.cell (i := 2) (by omega)
      have k3 : W.cell? ⟨b, 3, none⟩ = some (.int .i64 j.rate) := hM0.o.cell (i := 3) (by omega)
      have k4 : W.cell? ⟨b, 4, none⟩ = some (.int .i64 j.rank) := hM0.o.cell (i := 4) (by omega)
      have kf2 := hM0.o.frozen 2
      have lx := hM0.o.lt
      have HM := Lib.hid hM0
      have HBW : Hid (Below w1.heap.size w1 W) := Lib.hid hM0.bel
      clear hj hjk hd hsk hW hb hM0 HX HB hc3a hc3w0
      obtain ⟨p1, p2, p3, p4, p5, p6, p7, _, _⟩ := hjb
      rw [HN2.out] at p3
      go_upto_region 9 with (fail)
      rw [HW.out, Hb.out]
      clear c0 c1 c2' c3' c4
      by_cases hgood : okD1 j d ∧ d ≤ s0 - sk
      · have HA2 : Hid (okDTo js done (k + 1) ∧ S (k + 1) (fAt done) ≤ s0) := Lib.hid ⟨okDTo_succ.2 ⟨HA.out.1, by rw [HJ.out, ← HD.out]; exact hgood.1⟩, by rw [S_succ, ← HSK.out, ← HD.out]; omega⟩
        have HS2 : Hid (S (k + 1) (fAt done) = sk + d) := Lib.hid (by rw [S_succ, ← HSK.out, ← HD.out])
        have HSN : Hid (mk (k + 1) (fun i => nextJ (jAt js i) (fAt done i)) = mk k (fun i => nextJ (jAt js i) (fAt done i)) ++ [nextJ j d]) := Lib.hid (by rw [mk_succ, HJ.out, ← HD.out])
        obtain ⟨g, g6⟩ := hgood
        unfold okD1 at g
        obtain ⟨g1', g2, g3, g4⟩ := g
        have n0 : decide (d < 0) = false := by simp; omega
        have n1 : decide (j.rate < d) = false := by simp; omega
        have n2 : decide (j.energy < d) = false := by simp; omega
        have n6 : decide (s0 - sk < d) = false := by simp; omega
        have q : decide (0 < d) = false ∨ (decide (0 < d) = true ∧ decide (0 < j.frm) = false ∧ (j.till == 0) = false) := by
          by_cases hp : 0 < d
          · right
            obtain ⟨a, c⟩ := g4 hp
            refine ⟨by simp; omega, by simp; omega, by simp; omega⟩
          · left; simp; omega
        clear g4
        rcases q with q1 | ⟨q1, q2, q3⟩
        all_goals
          go_wp2_with fail
          go_quiet (fail)
          go_upto_region 12 with (fail)
          refine wp_world (fun X => RAm w1 X b j u10 (mk k (fun i => nextJ (jAt js i) (fAt done i)))) ⟨HM.out.o, HM.out.l, HM.out.ne, HM.out.b1, below_drewN HM.out.bel _⟩ ?_
          clear hc3 k0 k1 k2 k3 k4 kf2 lx HM HBW HW l3
          intro W M0
          have l3x := Nat.lt_of_lt_of_le l3w.out M0.bel.size
          have hc3 : W.cell? ⟨b3, o3 + k, none⟩ = some (.int .i64 d) := (M0.bel.cell (p := ⟨b3, o3 + k, none⟩) l3w.out).trans hc3w.out
          have k2 : W.cell? ⟨b, 2, none⟩ = some (.int .i64 j.energy) := M0.o.cell (i := 2) (by omega)
          have kf2 := M0.o.frozen 2
          have lx := M0.o.lt
          have l3 := l3x
          have HM := Lib.hid M0
          clear M0 l3x
          refine region_z (S := fun w' => Below W.heap.size W w') [8] (by kernel_rfl) (Below.refl _ _).drew (fun hHeld => ?_)
          refine wpAnyZ_take (i := 0) (v := .pointer (some ⟨b, 2, none⟩)) [8] rfl (by kernel_rfl) (by kernel_rfl) (by kernel_rfl) (by kernel_rfl) (fun _ _ _ h => h) (Or.inl ⟨by rfl, fun w' hSw => ?_⟩) hHeld ?_
          · clear hHeld
            go_simp
          simp only [Act.put, List.setIfInBounds_toArray, List.set_cons_zero, List.set_cons_succ]
          refine wpAnyZ_take (i := 1) (v := .int .i64 j.energy) [8] rfl (by kernel_rfl) (by kernel_rfl) (by kernel_rfl) (by kernel_rfl) (fun _ _ _ h => h) (Or.inl ⟨by rfl, fun w' hSw => ?_⟩) hHeld ?_
          · clear hHeld
            have s0 := (hSw.cell (p := ⟨b, 2, none⟩) lx).trans k2
            go_simp
          simp only [Act.put, List.setIfInBounds_toArray, List.set_cons_zero, List.set_cons_succ]
          refine wpAnyZ_take (i := 2) (v := .slice (some ⟨b3, o3, none⟩) M c3) [8] rfl (by kernel_rfl) (by kernel_rfl) (by kernel_rfl) (by kernel_rfl) (fun _ _ _ h => h) (Or.inl ⟨by rfl, fun w' hSw => ?_⟩) hHeld ?_
          · clear hHeld
            go_simp
          simp only [Act.put, List.setIfInBounds_toArray, List.set_cons_zero, List.set_cons_succ]
          refine wpAnyZ_take (i := 3) (v := .int .i64 k) [8] rfl (by kernel_rfl) (by kernel_rfl) (by kernel_rfl) (by kernel_rfl) (fun _ _ _ h => h) (Or.inl ⟨by rfl, fun w' hSw => ?_⟩) hHeld ?_
          · clear hHeld
            go_simp
          simp only [Act.put, List.setIfInBounds_toArray, List.set_cons_zero, List.set_cons_succ]
          refine wpAnyZ_take (i := 4) (v := .pointer (some ⟨b3, o3 + k, none⟩)) [8] rfl (by kernel_rfl) (by kernel_rfl) (by kernel_rfl) (by kernel_rfl) (fun _ _ _ h => h) (Or.inl ⟨by rfl, fun w' hSw => ?_⟩) hHeld ?_
          · clear hHeld
            go_simp
          simp only [Act.put, List.setIfInBounds_toArray, List.set_cons_zero, List.set_cons_succ]
          refine wpAnyZ_take (i := 5) (v := .int .i64 d) [8] rfl (by kernel_rfl) (by kernel_rfl) (by kernel_rfl) (by kernel_rfl) (fun _ _ _ h => h) (Or.inl ⟨by rfl, fun w' hSw => ?_⟩) hHeld ?_
          · clear hHeld
            have s0 := (hSw.cell (p := ⟨b3, o3 + k, none⟩) l3).trans hc3
            go_simp
          simp only [Act.put, List.setIfInBounds_toArray, List.set_cons_zero, List.set_cons_succ]
          refine wpAnyZ_take (i := 6) (v := .int .i64 (j.energy - d)) [8] rfl (by kernel_rfl) (by kernel_rfl) (by kernel_rfl) (by kernel_rfl) (fun _ _ _ h => h) (Or.inl ⟨by rfl, fun w' hSw => ?_⟩) hHeld ?_
          · clear hHeld
            go_simp
            exact wrap_fitA (by omega) (by omega)
          simp only [Act.put, List.setIfInBounds_toArray, List.set_cons_zero, List.set_cons_succ]
          refine wpAnyZ_take (i := 7) (v := .pointer (some ⟨b, 2, none⟩)) [8] rfl (by kernel_rfl) (by kernel_rfl) (by kernel_rfl) (by kernel_rfl) (fun _ _ _ h => h) (Or.inl ⟨by rfl, fun w' hSw => ?_⟩) hHeld ?_
          · clear hHeld
            go_simp
          simp only [Act.put, List.setIfInBounds_toArray, List.set_cons_zero, List.set_cons_succ]
          clear hHeld
          refine wpAnyZ_last (i := 8) (by kernel_rfl) rfl (by kernel_rfl) (fun K' hK => ?_)
          go_simp
          refine hK.out _ _ ?_
          clear hK K'
          try simp only [Act.put, List.setIfInBounds_toArray, List.set_cons_zero, List.set_cons_succ]
          refine wpAnyZ_done (by kernel_rfl) ?_ _
          go_step
          go_upto_region 13 with (fail)
          have hM2 : RAm w1 (W.setCell ⟨b, 2, none⟩ (.int .i64 (j.energy - d))).drew b (withE j (j.energy - d)) u10 (mk k (fun i => nextJ (jAt js i) (fAt done i))) := by
            have h := HM.out.set (j' := withE j (j.energy - d)) 2 (.int .i64 (j.energy - d)) (fun i hi => by
              rcases i with _ | _ | _ | _ | _ | i
              all_goals first | rfl | omega)
            exact ⟨h.o, h.l, h.ne, h.b1, h.bel.drew⟩
          refine wp_world (fun X => RAm w1 X b (withE j (j.energy - d)) u10 (mk k (fun i => nextJ (jAt js i) (fAt done i)))) hM2 ?_
          clear hc3 k2 kf2 lx l3 HM hM2
          intro W M0
          have k0 : W.cell? ⟨b, 0, none⟩ = some (.int .i64 j.frm) := M0.o.cell (i := 0) (by omega)
          have k1 : W.cell? ⟨b, 1, none⟩ = some (.int .i64 j.till) := M0.o.cell (i := 1) (by omega)
          have f0 := M0.o.frozen 0
          have f1 := M0.o.frozen 1
          have HM := Lib.hid M0
          clear M0
          go_upto_region 15 with (fail)
          all_goals
            refine wp_world (fun X => RAm w1 X b (nextJ j d) u10 (mk k (fun i => nextJ (jAt js i) (fAt done i)))) (HM.out.next (by omega) (by omega)) ?_
            clear k0 k1 f0 f1 HM
            intro W M0
            obtain ⟨j', hj'⟩ : ∃ j', j' = nextJ j d := ⟨_, rfl⟩
            rw [← hj'] at M0
            have k0 : W.cell? ⟨b, 0, none⟩ = some (.int .i64 j'.frm) := M0.o.cell (i := 0) (by omega)
            have k1 : W.cell? ⟨b, 1, none⟩ = some (.int .i64 j'.till) := M0.o.cell (i := 1) (by omega)
            have k2 : W.cell? ⟨b, 2, none⟩ = some (.int .i64 j'.energy) := M0.o.cell (i := 2) (by omega)
            have k3 : W.cell? ⟨b, 3, none⟩ = some (.int .i64 j'.rate) := M0.o.cell (i := 3) (by omega)
            have k4 : W.cell? ⟨b, 4, none⟩ = some (.int .i64 j'.rank) := M0.o.cell (i := 4) (by omega)
            obtain ⟨ap, v', w2, av, aw, HO1, HA1⟩ := app_job j'.frm j'.till j'.energy j'.rate j'.rank M0.l M0.bel.size (by rw [mk_len]; omega)
            have HB2 : Hid (Below w1.heap.size w1 w2) := Lib.hid (M0.bel.trans HA1.out.bel)
            have HO2 : Hid (OwnJ w2 w1.heap.size v' (mk (k + 1) (fun i => nextJ (jAt js i) (fAt done i)))) := Lib.hid (by rw [HSN.out, ← hj']; exact HO1.out)
            clear M0 HO1 HA1 hj' HSN
            go_wp2
            all_goals
              refine Handed.intro (M - (k + 1)) (by omega) ?_
              go_step
              (repeat apply Exists.intro)
              exact ⟨⟨k + 1, by go_num, by rw [HS2.out]; exact val_int (by omega), by omega, by omega, HA2, HO2, HB2⟩, rfl⟩
      · have hkN : k < js.length := by rw [HN.out]; exact hlt
        have HBAD : Hid (∀ (e : Ending) (w' : World), Below w1.heap.size w1 w' → e = .returned (.tuple #[.slice none 0 0, .slice none 0 0, .int .i64 1]) → AdvPost w js sup done M T e w') := Lib.hid (HBADX.out (by
          by_cases g : okD1 j d
          · exact okD_over hkN (by rw [S_succ, ← HSK.out, ← HD.out, ← HS0.out]; have : ¬ d ≤ s0 - sk := fun h => hgood ⟨g, h⟩; omega)
          · exact okD_not (fun h => g (by have := h.2.2.2.1 k hkN; rwa [HJ.out, ← HD.out] at this))))
        rw [Classical.not_and_iff_not_or_not, okD1_bool, Classical.not_not] at hgood
        by_cases n0 : d < 0
        · have n0z : decide (d < 0) = true := by simp; omega
          clear hgood
          go_wp2_with fail
          go_quiet (fail)
          go_wp2
          go_ret3
          exact HBAD.out _ _ (below_drewN HBW.out _) rfl
        have n0z : decide (d < 0) = false := by simp; omega
        by_cases n1 : j.rate < d
        · have n1z : decide (j.rate < d) = true := by simp; omega
          clear hgood
          go_wp2_with fail
          go_quiet (fail)
          go_wp2
          go_ret3
          exact HBAD.out _ _ (below_drewN HBW.out _) rfl
        have n1z : decide (j.rate < d) = false := by simp; omega
        by_cases n2 : j.energy < d
        · have n2z : decide (j.energy < d) = true := by simp; omega
          clear hgood
          go_wp2_with fail
          go_quiet (fail)
          go_wp2
          go_ret3
          exact HBAD.out _ _ (below_drewN HBW.out _) rfl
        have n2z : decide (j.energy < d) = false := by simp; omega
        by_cases n3 : 0 < d
        case neg => exfalso; omega
        have n3z : decide (0 < d) = true := by simp; omega
        by_cases n4 : 0 < j.frm
        · have n4z : decide (0 < j.frm) = true := by simp; omega
          clear hgood
          go_wp2_with fail
          go_quiet (fail)
          go_wp2
          go_ret3
          exact HBAD.out _ _ (below_drewN HBW.out _) rfl
        have n4z : decide (0 < j.frm) = false := by simp; omega
        by_cases n5 : j.till = 0
        · have n5z : (j.till == 0) = true := by simp; omega
          clear hgood
          go_wp2_with fail
          go_quiet (fail)
          go_wp2
          go_ret3
          exact HBAD.out _ _ (below_drewN HBW.out _) rfl
        have n5z : (j.till == 0) = false := by simp; omega
        have n6z : decide (s0 - sk < d) = true := by simp; omega
        clear hgood
        go_wp2_with fail
        go_quiet (fail)
        go_wp2
        go_ret3
        exact HBAD.out _ _ (below_drewN HBW.out _) rfl
    · have hltz : ¬ (k : Int) < (M : Int) := by omega
      have hkM : k = M := by omega
      subst hkM
      have HF : Hid (okD js sup done = true) := Lib.hid (okD_iff.2 ⟨HOK.out, HT.out, by rw [HN3.out, HN.out], by rw [HN.out]; exact HA.out.1, by rw [HN.out, ← HS0.out]; exact HA.out.2⟩)
      have HT2 : Hid (sup.tail.length = T - 1) := Lib.hid (by rw [List.length_tail, HN2.out])
      obtain ⟨a1, d1, e1, r1⟩ := HX.out.rd encJ_len5
      rw [mk_len] at e1
      have HE1 := Lib.hid e1
      have HN1 : Hid (Rd 5 encJ wr a1 (nextJs js done)) := Lib.hid (by unfold nextJs; rw [HN.out]; exact r1)
      obtain ⟨wy, hwy⟩ : ∃ wy, wy = wr := ⟨wr, rfl⟩
      subst hwy
      have HO0 : Hid (OwnN wy wy.heap.size (.slice none 0 0) []) := Lib.hid (OwnR.nil _ _)
      clear hsk e1 r1 HX HA
      go_wp2
      go_loopg [13, 14] T (fun g1 v13 v14 wx => ∃ i : Nat, v14 = .int .i64 i ∧ 1 ≤ i ∧ i ≤ T ∧ T - i ≤ g1 ∧ Hid (OwnN wx wy.heap.size v13 (sup.tail.take (i - 1))) ∧ Hid (Below wy.heap.size wy wx))
      case atStart => exact ⟨1, by go_num, by omega, by omega, by omega, HO0, Lib.hid (Below.refl _ _)⟩
      case round =>
        clear HO0
        obtain ⟨i, rfl, hi1, hi2, hg2, HX, HB2⟩ := hrel
        by_cases hit : i < T
        · have hitz : (i : Int) < (T : Int) := by omega
          obtain ⟨bx, ox, x, hA2, hbx, hx, hcx⟩ := ((HR2.out.keep HB.out).keep HB2.out).at_ (k := i) (by rw [HN2.out]; exact hit)
          have hc0 : wr.cell? ⟨bx, ox + i, none⟩ = some (.int .i64 x) := by have := hcx 0 _ rfl; simpa using this
          injection hA2 with hA2
          injection hA2 with e1 e2
          subst e1 e2
          have hxt : sup.tail[i - 1]? = some x := by rw [List.getElem?_tail, Nat.sub_add_cancel hi1]; exact hx
          have HSN := Lib.hid (take_snoc hxt)
          obtain ⟨ap, v', w2, av, aw, HO1, HA1⟩ := app_num x HX.out HB2.out.size (by rw [List.length_take]; omega)
          have HB3 := Lib.hid (HB2.out.trans HA1.out.bel)
          have HO2 : Hid (OwnN w2 wy.heap.size v' (sup.tail.take (i + 1 - 1))) := Lib.hid (by rw [show i + 1 - 1 = i - 1 + 1 by omega, HSN.out]; exact HO1.out)
          clear HO1 HA1 HX HB2 HSN hxt hx hcx
          go_wp2
          go_roundg (T - (i + 1))
          case measure => omega
          case rel => exact ⟨i + 1, by go_num, by omega, by omega, by omega, HO2, HB3⟩
        · have hitz : ¬ (i : Int) < (T : Int) := by omega
          obtain ⟨a2, d2, e2, q2, r2⟩ := HX.out.rdC encI_len1
          rw [List.take_of_length_le (by rw [HT2.out]; omega)] at e2 q2 r2
          rw [HT2.out] at e2 q2
          have HE1' := HE1.out
          subst HE1' e2
          have HPost : Hid (AdvPost w js sup done k T (.returned (.tuple #[.slice a1 k d1, .slice a2 (T - 1) d2, .int .i64 0])) wr) := Lib.hid ⟨below_then B1.out (below_then HB.out HB2.out), .inr ⟨HF.out, a1, d1, a2, d2, rfl, q2, HN1.out.keep HB2.out, r2⟩⟩
          clear q2 r2 HX
          go_wp2
          go_ret3
          exact HPost.out
end Go.Proofs.Ytgfcnkfmgpakkaa
