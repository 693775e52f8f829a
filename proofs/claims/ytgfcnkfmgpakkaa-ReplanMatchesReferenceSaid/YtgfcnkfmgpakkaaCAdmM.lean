/-
law28.column, walked.
-/
import Derived.Test.YtgfcnkfmgpakkaaGAdmG
import Derived.Test.YtgfcnkfmgpakkaaCPlanRS
namespace Go.Proofs.Ytgfcnkfmgpakkaa
open Go.RowKit
set_option linter.unusedVariables false
set_option linter.unusedSimpArgs false
abbrev colOf (ps : List (List Int)) : List Int := ps.map (fun p => fAt p 0)
abbrev tailsOf (ps : List (List Int)) : List (List Int) := ps.map List.tail
/-- Two lists of the call's own, apart. -/
structure ColM (B : Nat) (W : World) (v u : Value) (xs : List Int) (rs : List RowV) : Prop where
  o5 : OwnN W B v xs
  o6 : OwnS W B u rs
  ap : ApartV v u
theorem rd_lit1 {α : Type} {sz : Nat} {enc : α → List Value} (hsz : ∀ x, (enc x).length = sz) (W : World) (t : TypeId) (x : α) : Rd sz enc (W.alloc (.cells (enc x).toArray t)) (some ⟨W.heap.size, 0, none⟩) [x] :=
  (Own.new W t (enc x).toArray undef).rd (by rw [List.size_toArray, hsz]; simp) hsz (fun k y hy j v hv => by
    have hk : k = 0 := by have := (List.getElem?_eq_some_iff.1 hy).1; simp at this; exact this
    subst hk
    simp at hy
    subst hy
    show (enc x).toArray[0 * sz + j]?.getD undef = v
    rw [Nat.zero_mul, Nat.zero_add, List.getElem?_toArray, hv]; rfl)
theorem rd_lits {α : Type} {sz : Nat} {enc : α → List Value} {W W1 : World} {L : Nat} {xs : List α} (h : Rd sz enc W (some ⟨L, 0, none⟩) xs) (hs : W.heap.size ≤ W1.heap.size) (hc : ∀ {p : Addr} {c : Value}, W.cell? p = some c → p.block = L → W1.cell? p = some c) : Rd sz enc W1 (some ⟨L, 0, none⟩) xs := by
  intro h0
  obtain ⟨b, off, e, hlt, hcc⟩ := h h0
  injection e with e
  injection e with e1 e2
  subst e1 e2
  exact ⟨_, _, rfl, Nat.lt_of_lt_of_le hlt hs, fun k x hx j v hv => hc (hcc k x hx j v hv) rfl⟩
/-- Both literals first, in whatever order: then the numbers' append, then the rows'. -/
theorem col_apps {B LA LB : Nat} {W0 : World} {v u : Value} {xs : List Int} {rs : List RowV} {x : Int} {r : RowV} (h : ColM B W0 v u xs rs) (hb : B ≤ W0.heap.size) (rdA : Rd 1 encI W0 (some ⟨LA, 0, none⟩) [x]) (rdB : Rd 1 encRow W0 (some ⟨LB, 0, none⟩) [r]) (hL : v.ownBlock ≠ some LB) (hx : xs.length ≤ 1000) (hr : rs.length ≤ 1000) :
    Appends Try.prog W0 23 23 v (.slice (some ⟨LA, 0, none⟩) 1 1) ∧ ∃ v' W1, appV Try.prog W0 23 23 v (.slice (some ⟨LA, 0, none⟩) 1 1) = v' ∧ appW Try.prog W0 23 23 v (.slice (some ⟨LA, 0, none⟩) 1 1) = W1 ∧
      Appends Try.prog W1 28 28 u (.slice (some ⟨LB, 0, none⟩) 1 1) ∧ ∃ u' W2, appV Try.prog W1 28 28 u (.slice (some ⟨LB, 0, none⟩) 1 1) = u' ∧ appW Try.prog W1 28 28 u (.slice (some ⟨LB, 0, none⟩) 1 1) = W2 ∧
        Hid (ColM B W2 v' u' (xs ++ [x]) (rs ++ [r])) ∧ Hid (Below B W0 W1) ∧ Hid (Below B W0 W2) := by
  obtain ⟨p1, v', W1, av1, aw1, o1, s1⟩ := app_argR (P := Try.prog) (ty := 23) (c := 1) appInfoNum Try.underlying23 rfl (by omega) encI_len1 encI_one h.o5 rdA (m := 1) rfl hb (by unfold maxLen; omega) (by omega)
  obtain ⟨o6, a6⟩ := s1.out.row h.o6 h.ap
  have rdB1 : Rd 1 encRow W1 (some ⟨LB, 0, none⟩) [r] := rd_lits rdB s1.out.bel.size (fun hc he => s1.out.cell hc (by rw [he]; exact hL))
  obtain ⟨p2, u', W2, av2, aw2, o2, s2⟩ := app_argR (P := Try.prog) (ty := 28) (c := 1) appInfoRow Try.underlying28 rfl (by omega) encRow_len encRow_one o6 rdB1 (m := 1) rfl (Nat.le_trans hb s1.out.bel.size) (by unfold maxLen; omega) (by omega)
  obtain ⟨o5, a5⟩ := s2.out.row o1.out a6.symm
  exact ⟨p1, v', W1, av1, aw1, p2, u', W2, av2, aw2, Lib.hid ⟨o5, o2.out, a5.symm⟩, Lib.hid s1.out.bel, Lib.hid (s1.out.bel.trans s2.out.bel)⟩
/-- The rows' literal behind the numbers' append. -/
theorem col_apps2 {B : Nat} {W0 : World} {v u : Value} {xs : List Int} {rs : List RowV} (x : Int) (r : RowV) (h : ColM B W0 v u xs rs) (hb : B ≤ W0.heap.size) (hx : xs.length ≤ 1000) (hr : rs.length ≤ 1000) :
    Appends Try.prog (W0.alloc (.cells #[.int .i64 x] 3)) 23 23 v (.slice (some ⟨W0.heap.size, 0, none⟩) 1 1) ∧ ∃ v' W1, appV Try.prog (W0.alloc (.cells #[.int .i64 x] 3)) 23 23 v (.slice (some ⟨W0.heap.size, 0, none⟩) 1 1) = v' ∧ appW Try.prog (W0.alloc (.cells #[.int .i64 x] 3)) 23 23 v (.slice (some ⟨W0.heap.size, 0, none⟩) 1 1) = W1 ∧
      Appends Try.prog (W1.alloc (.cells #[.slice r.a r.n r.c] 23)) 28 28 u (.slice (some ⟨W1.heap.size, 0, none⟩) 1 1) ∧ ∃ u' W2, appV Try.prog (W1.alloc (.cells #[.slice r.a r.n r.c] 23)) 28 28 u (.slice (some ⟨W1.heap.size, 0, none⟩) 1 1) = u' ∧ appW Try.prog (W1.alloc (.cells #[.slice r.a r.n r.c] 23)) 28 28 u (.slice (some ⟨W1.heap.size, 0, none⟩) 1 1) = W2 ∧
        Hid (ColM B W2 v' u' (xs ++ [x]) (rs ++ [r])) ∧ Hid (Below B W0 W1) ∧ Hid (Below B W0 W2) := by
  obtain ⟨p1, v', W1, av1, aw1, o1, s1⟩ := app_num x h.o5 hb (by omega)
  obtain ⟨o6, a6⟩ := s1.out.row h.o6 h.ap
  obtain ⟨p2, u', W2, av2, aw2, o2, s2⟩ := app_row r.a r.n r.c o6 (Nat.le_trans hb s1.out.bel.size) (by omega)
  obtain ⟨o5, a5⟩ := s2.out.row o1.out a6.symm
  exact ⟨p1, v', W1, av1, aw1, p2, u', W2, av2, aw2, Lib.hid ⟨o5, o2.out, a5.symm⟩, Lib.hid s1.out.bel, Lib.hid (s1.out.bel.trans s2.out.bel)⟩
/-- The rows that are left. -/
structure RestOk (w : World) (rs : List RowV) (ps : List (List Int)) (k : Nat) : Prop where
  len : rs.length = k
  row : ∀ (i : Nat) (r : RowV) (p : List Int), i < k → rs[i]? = some r → ps[i]? = some p → p.tail.length = r.n ∧ r.n ≤ 9223372036854775807 ∧ Rd 1 encI w r.a p.tail ∧ r.n ≤ r.c
theorem RestOk.snoc {w : World} {rs : List RowV} {ps : List (List Int)} {k : Nat} {r : RowV} {p : List Int} (h : RestOk w rs ps k) (hp : ps[k]? = some p) (hr : p.tail.length = r.n ∧ r.n ≤ 9223372036854775807 ∧ Rd 1 encI w r.a p.tail ∧ r.n ≤ r.c) : RestOk w (rs ++ [r]) ps (k + 1) := by
  refine ⟨by rw [List.length_append, h.len]; rfl, fun i r' p' hi h1 h2 => ?_⟩
  by_cases c : i = k
  · subst c
    rw [List.getElem?_append_right (by rw [h.len]; exact Nat.le_refl _), h.len] at h1
    simp at h1
    subst h1
    rw [hp] at h2
    injection h2 with h2
    subst h2
    exact hr
  · rw [List.getElem?_append_left (by rw [h.len]; omega)] at h1
    exact h.row i r' p' (by omega) h1 h2
theorem RestOk.done {w w' : World} {A : Option Addr} {rs : List RowV} {ps : List (List Int)} (h : RestOk w rs ps ps.length) (hb : Below w.heap.size w w') (ht : Rd 1 encRow w' A rs) : RdP w' A rs (tailsOf ps) ∧ capsOk rs := by
  refine ⟨⟨ht, by rw [List.length_map]; exact h.len, fun k r p hr hp => ?_⟩, fun r hr => ?_⟩
  · rw [List.getElem?_map] at hp
    obtain ⟨q, hq, e⟩ := Option.map_eq_some_iff.1 hp
    have hk : k < ps.length := (List.getElem?_eq_some_iff.1 hq).1
    obtain ⟨x1, x2, x3, x4⟩ := h.row k r q hk hr hq
    rw [← e]
    exact ⟨x1, x2, x3.keep hb⟩
  · obtain ⟨i, hi, e⟩ := List.getElem_of_mem hr
    have hi2 : i < ps.length := by rw [← h.len]; exact hi
    exact (h.row i r ps[i] hi2 (by rw [List.getElem?_eq_getElem hi, e]) (List.getElem?_eq_getElem hi2)).2.2.2
/-- What column says. -/
def ColPost (w : World) (ps : List (List Int)) (M : Nat) (e : Ending) (w' : World) : Prop :=
  Below w.heap.size w w' ∧
  (((∃ k, k < M ∧ (rowAt ps k).length = 0) ∧ e = .returned (.tuple #[.slice none 0 0, .slice none 0 0, .bool false])) ∨
   ((∀ k, k < M → 0 < (rowAt ps k).length) ∧ ∃ a c a2 c2 rs, e = .returned (.tuple #[.slice a M c, .slice a2 M c2, .bool true]) ∧ Rd 1 encI w' a (colOf ps) ∧ RdP w' a2 rs (tailsOf ps) ∧ capsOk rs))
set_option maxRecDepth 100000 in
set_option maxHeartbeats 8000000 in
theorem laColumn_any (A : Option Addr) (c M : Nat) (rs : List RowV) (ps : List (List Int)) (w : World) (hR : RdP w A rs ps) (hcap : capsOk rs) (HM : Hid (ps.length = M)) (hM : M ≤ 1000) :
    Calls Try.prog 26 #[.slice A M c] w (ColPost w ps M) := by
  have HR := Lib.hid hR
  have HC := Lib.hid hcap
  have HP0 : Hid (ColM w.heap.size w (.slice none 0 0) (.slice none 0 0) [] []) := Lib.hid ⟨OwnR.nil _ _, OwnR.nil _ _, ApartV.nil _⟩
  have HRW0 : Hid (RestOk w [] ps 0) := Lib.hid ⟨rfl, fun i r p hi => by omega⟩
  clear hR hcap
  go_enter Try.func26, Try.ntmps26
  go_wp2
  go_loopg [5, 6, 8, 11] M (fun g1 v5 v6 v8 v11 wr => ∃ (k : Nat) (rs' : List RowV), v11 = .int .i64 k ∧ k ≤ M ∧ M - k ≤ g1 ∧ Hid (∀ i, i < k → 0 < (rowAt ps i).length) ∧ Hid (RestOk w rs' ps k) ∧ Hid (ColM w.heap.size wr v5 v6 (colOf (ps.take k)) rs' ∧ Below w.heap.size w wr))
  case atStart => exact ⟨0, [], by go_num, by omega, by omega, Lib.hid (fun i hi => by omega), HRW0, Lib.hid ⟨HP0.out, Below.refl _ _⟩⟩
  case round =>
    obtain ⟨k, rs', rfl, hk, hg1, HA, HRW, HP⟩ := hrel
    by_cases hlt : k < M
    · have hltz : (k : Int) < (M : Int) := by omega
      obtain ⟨b, off, r, hAe, hbl, hc0, hrn, hr63, hrr⟩ := (HR.out.keep HP.out.2).at_ (k := k) (by rw [HM.out]; exact hlt)
      subst hAe
      by_cases hz : r.n = 0
      · have HPost : Hid (∀ e w', Below w.heap.size w w' → e = Ending.returned (.tuple #[.slice none 0 0, .slice none 0 0, .bool false]) → ColPost w ps M e w') := Lib.hid (fun e w' hb he => ⟨hb, .inl ⟨⟨k, hlt, by rw [hrn, hz]⟩, he⟩⟩)
        have HB : Hid (Below w.heap.size w wr) := Lib.hid HP.out.2
        rw [hz] at hc0
        clear hrn hrr hz
        go_wp2
        go_ret3
        exact HPost.out _ _ HB.out rfl
      · have hnz : ((r.n : Int) == 0) = false := by simp; omega
        have hn1 : (1 : Int) ≤ (r.n : Int) := by omega
        have hn1z : (0 : Int) < (r.n : Int) := by omega
        obtain ⟨p, hp⟩ : ∃ p, p = rowAt ps k := ⟨_, rfl⟩
        have hpk : ps[k]? = some p := by rw [hp]; simp [rowAt, List.getElem?_eq_getElem (show k < ps.length by rw [HM.out]; exact hlt)]
        have hrk : rs[k]? = some r := by
          obtain ⟨b9, o9, r9, hA9, _, hr9, hc9⟩ := HR.out.top.at_ (k := k) (by rw [HR.out.len, HM.out]; exact hlt)
          injection hA9 with hA9
          injection hA9 with e1 e2
          subst e1 e2
          have h9 := hc9 0 _ rfl
          have h8 := (HP.out.2.cell (p := ⟨b, off + k * 1 + 0, none⟩) (World.block_lt_of_cell? w _ h9)).trans h9
          have h7 : wr.cell? ⟨b, off + k * 1 + 0, none⟩ = some (.slice r.a r.n r.c) := by rw [Nat.mul_one, Nat.add_zero]; exact hc0
          rw [h7] at h8
          injection h8 with h8
          injection h8 with e1 e2 e3
          have : r = r9 := by cases r; cases r9; simp_all
          rw [this]; exact hr9
        obtain ⟨q1, q2, q3⟩ := HR.out.row k r p hrk hpk
        have hcp := HC.out r (List.mem_of_getElem? hrk)
        obtain ⟨b1, o1, hra, l1w, hcell⟩ := q3 (by omega)
        have hx1w : w.cell? ⟨b1, o1, none⟩ = some (.int .i64 (fAt p 0)) := by
          have h0 : p[0]? = some (fAt p 0) := by
            have : 0 < p.length := by omega
            simp [fAt, List.getElem?_eq_getElem this]
          have := hcell 0 _ h0 0 _ rfl
          simpa using this
        have hra2 : Rd 1 encI w (some ⟨b1, o1, none⟩) p := by rw [← hra]; exact q3
        have Hcase : ∃ a', Hid (((r.c = 1 ∧ a' = some ⟨b1, o1, none⟩) ∨ (¬ r.c = 1 ∧ a' = some ⟨b1, o1 + 1, none⟩)) ∧ Rd 1 encI w a' p.tail) := by
          by_cases c1 : r.c = 1
          · refine ⟨_, Lib.hid ⟨.inl ⟨c1, rfl⟩, ?_⟩⟩
            have : p.tail = [] := List.eq_nil_of_length_eq_zero (by rw [List.length_tail]; omega)
            rw [this]; exact Rd.nil
          · exact ⟨_, Lib.hid ⟨.inr ⟨c1, rfl⟩, rd_tail1 hra2⟩⟩
        obtain ⟨a', hcs⟩ := Hcase
        have HRW2 : Hid (RestOk w (rs' ++ [⟨a', r.n - 1, r.c - 1⟩]) ps (k + 1)) := Lib.hid (HRW.out.snoc hpk ⟨by rw [List.length_tail]; dsimp only; omega, by dsimp only; omega, hcs.out.2, by dsimp only; omega⟩)
        have Hcs : Hid ((r.c = 1 ∧ a' = some ⟨b1, o1, none⟩) ∨ (¬ r.c = 1 ∧ a' = some ⟨b1, o1 + 1, none⟩)) := Lib.hid hcs.out.1
        have HG : Hid (∀ i, i < k + 1 → 0 < (rowAt ps i).length) := Lib.hid (fun i hi => by
          by_cases c : i = k
          · subst c; rw [← hp]; omega
          · exact HA.out i (by omega))
        have HCOL : Hid (colOf (ps.take (k + 1)) = colOf (ps.take k) ++ [fAt p 0]) := Lib.hid (by unfold colOf; rw [take_snoc hpk, List.map_append]; rfl)
        obtain ⟨x, hx⟩ : ∃ x, x = fAt p 0 := ⟨_, rfl⟩
        rw [← hx] at hx1w
        have Hx := Lib.hid hx
        have Hra := Lib.hid hra
        have Hp := Lib.hid hp
        clear hcell q3 hra2 hpk hrk hcs hx hra hp q1 hrr hrn
        have hncz := hcp
        clear HA HRW
        have hxl : (colOf (ps.take k)).length ≤ 1000 := by simp only [colOf, List.length_map, List.length_take]; omega
        have hM := HP.out.1
        have hB0 := HP.out.2.drew
        have hB1 : Below w.heap.size w wr.drew := hB0
        have lo5 : ∀ q, u5.ownBlock = some q → q < wr.heap.size := fun q hq => (World.ownsRow.lt hM.o5 q hq).2
        have hMd : ColM w.heap.size wr.drew u5 u6 (colOf (ps.take k)) rs' := ⟨hM.o5, hM.o6, hM.ap⟩
        have hsz : w.heap.size ≤ wr.drew.heap.size := hB1.size
        have hrs : rs'.length ≤ 1000 := by have := HRW2.out.len; simp at this; omega
        have hMA : ColM w.heap.size ((wr.drew.alloc (.cells #[.int .i64 x] 3)).alloc (.cells #[.slice a' (r.n - 1) (r.c - 1)] 23)) u5 u6 (colOf (ps.take k)) rs' := ⟨(hMd.o5.alloc _).alloc _, (hMd.o6.alloc _).alloc _, hMd.ap⟩
        have hMB : ColM w.heap.size ((wr.drew.alloc (.cells #[.slice a' (r.n - 1) (r.c - 1)] 23)).alloc (.cells #[.int .i64 x] 3)) u5 u6 (colOf (ps.take k)) rs' := ⟨(hMd.o5.alloc _).alloc _, (hMd.o6.alloc _).alloc _, hMd.ap⟩
        have rA1 : Rd 1 encI ((wr.drew.alloc (.cells #[.int .i64 x] 3)).alloc (.cells #[.slice a' (r.n - 1) (r.c - 1)] 23)) (some ⟨wr.heap.size, 0, none⟩) [x] := (rd_lit1 encI_len1 wr.drew 3 x).keep ((Below.refl _ _).alloc (Nat.le_refl _) _)
        have rA2 : Rd 1 encRow ((wr.drew.alloc (.cells #[.int .i64 x] 3)).alloc (.cells #[.slice a' (r.n - 1) (r.c - 1)] 23)) (some ⟨wr.heap.size + 1, 0, none⟩) [⟨a', r.n - 1, r.c - 1⟩] := by
          have h := rd_lit1 encRow_len (wr.drew.alloc (.cells #[.int .i64 x] 3)) 23 (⟨a', r.n - 1, r.c - 1⟩ : RowV)
          rw [World.size_alloc] at h
          exact h
        have rB1 : Rd 1 encRow ((wr.drew.alloc (.cells #[.slice a' (r.n - 1) (r.c - 1)] 23)).alloc (.cells #[.int .i64 x] 3)) (some ⟨wr.heap.size, 0, none⟩) [⟨a', r.n - 1, r.c - 1⟩] := (rd_lit1 encRow_len wr.drew 23 (⟨a', r.n - 1, r.c - 1⟩ : RowV)).keep ((Below.refl _ _).alloc (Nat.le_refl _) _)
        have rB2 : Rd 1 encI ((wr.drew.alloc (.cells #[.slice a' (r.n - 1) (r.c - 1)] 23)).alloc (.cells #[.int .i64 x] 3)) (some ⟨wr.heap.size + 1, 0, none⟩) [x] := by
          have h := rd_lit1 encI_len1 (wr.drew.alloc (.cells #[.slice a' (r.n - 1) (r.c - 1)] 23)) 3 x
          rw [World.size_alloc] at h
          exact h
        have szA : w.heap.size ≤ ((wr.drew.alloc (.cells #[.int .i64 x] 3)).alloc (.cells #[.slice a' (r.n - 1) (r.c - 1)] 23)).heap.size := by rw [World.size_alloc, World.size_alloc]; omega
        have szB : w.heap.size ≤ ((wr.drew.alloc (.cells #[.slice a' (r.n - 1) (r.c - 1)] 23)).alloc (.cells #[.int .i64 x] 3)).heap.size := by rw [World.size_alloc, World.size_alloc]; omega
        have wA : Below w.heap.size wr.drew ((wr.drew.alloc (.cells #[.int .i64 x] 3)).alloc (.cells #[.slice a' (r.n - 1) (r.c - 1)] 23)) := ((Below.refl w.heap.size wr.drew).alloc hsz _).alloc (Nat.le_trans hsz (by simp)) _
        have wB : Below w.heap.size wr.drew ((wr.drew.alloc (.cells #[.slice a' (r.n - 1) (r.c - 1)] 23)).alloc (.cells #[.int .i64 x] 3)) := ((Below.refl w.heap.size wr.drew).alloc hsz _).alloc (Nat.le_trans hsz (by simp)) _
        obtain ⟨pA1, vA', XA1, vA1, WA1, pA2, uA', XA2, vA2, WA2, cA, bA1, bA2⟩ := col_apps2 x (⟨a', r.n - 1, r.c - 1⟩ : RowV) hMd hsz hxl hrs
        obtain ⟨pB1, vB', XB1, vB1, WB1, pB2, uB', XB2, vB2, WB2, cB, bB1', bB2'⟩ := col_apps hMA szA rA1 rA2 (fun e => by have := lo5 _ e; omega) hxl hrs
        obtain ⟨pC1, vC', XC1, vC1, WC1, pC2, uC', XC2, vC2, WC2, cC, bC1', bC2'⟩ := col_apps hMB szB rB2 rB1 (fun e => by have := lo5 _ e; omega) hxl hrs
        have bB1 := Lib.hid (wA.trans bB1'.out)
        have bB2 := Lib.hid (wA.trans bB2'.out)
        have bC1 := Lib.hid (wB.trans bC1'.out)
        have bC2 := Lib.hid (wB.trans bC2'.out)
        have HFA : Hid (ColM w.heap.size XA2 vA' uA' (colOf (ps.take (k + 1))) (rs' ++ [⟨a', r.n - 1, r.c - 1⟩]) ∧ Below w.heap.size w XA2) := Lib.hid ⟨by rw [HCOL.out, ← Hx.out]; exact cA.out, hB1.trans bA2.out⟩
        have HFB : Hid (ColM w.heap.size XB2 vB' uB' (colOf (ps.take (k + 1))) (rs' ++ [⟨a', r.n - 1, r.c - 1⟩]) ∧ Below w.heap.size w XB2) := Lib.hid ⟨by rw [HCOL.out, ← Hx.out]; exact cB.out, hB1.trans bB2.out⟩
        have HFC : Hid (ColM w.heap.size XC2 vC' uC' (colOf (ps.take (k + 1))) (rs' ++ [⟨a', r.n - 1, r.c - 1⟩]) ∧ Below w.heap.size w XC2) := Lib.hid ⟨by rw [HCOL.out, ← Hx.out]; exact cC.out, hB1.trans bC2.out⟩
        have HB := Lib.hid HP.out.2
        have l1 := l1w
        have hx1 := hx1w
        clear hM hMd hMA hMB rA1 rA2 rB1 rB2 szA szB wA wB cA cB cC bB1' bB2' bC1' bC2' lo5 hB1
        go_upto_region 8 with (fail)
        refine region_z (S := fun w' => Below w.heap.size w w') [12] (by kernel_rfl) HB.out.drew (fun hHeld => ?_)
        refine wpAnyZ_take (i := 0) (v := u5) [12] rfl (by kernel_rfl) (by kernel_rfl) (by kernel_rfl) (by kernel_rfl) (fun _ _ _ h => h) (Or.inl ⟨by rfl, fun w' hSw => ?_⟩) hHeld ?_
        · clear hHeld
          go_simp
        simp only [Act.put, List.setIfInBounds_toArray, List.set_cons_zero, List.set_cons_succ]
        refine wpAnyZ_take (i := 1) (v := .slice r.a r.n r.c) [12] rfl (by kernel_rfl) (by kernel_rfl) (by kernel_rfl) (by kernel_rfl) (fun _ _ _ h => h) (Or.inl ⟨by rfl, fun w' hSw => ?_⟩) hHeld ?_
        · clear hHeld
          go_simp
        simp only [Act.put, List.setIfInBounds_toArray, List.set_cons_zero, List.set_cons_succ]
        refine wpAnyZ_take (i := 2) (v := .pointer (some ⟨b1, o1, none⟩)) [12] rfl (by kernel_rfl) (by kernel_rfl) (by kernel_rfl) (by kernel_rfl) (fun _ _ _ h => h) (Or.inl ⟨by rfl, fun w' hSw => ?_⟩) hHeld ?_
        · clear hHeld
          rw [Hra.out]
          go_simp
        simp only [Act.put, List.setIfInBounds_toArray, List.set_cons_zero, List.set_cons_succ]
        refine wpAnyZ_take (i := 3) (v := .int .i64 x) [12] rfl (by kernel_rfl) (by kernel_rfl) (by kernel_rfl) (by kernel_rfl) (fun _ _ _ h => h) (Or.inl ⟨by rfl, fun w' hSw => ?_⟩) hHeld ?_
        · clear hHeld
          have s0 := (hSw.cell (p := ⟨b1, o1, none⟩) l1).trans hx1
          go_simp
        simp only [Act.put, List.setIfInBounds_toArray, List.set_cons_zero, List.set_cons_succ]
        refine wpAnyZ_take (i := 6) (v := u6) [12] rfl (by kernel_rfl) (by kernel_rfl) (by kernel_rfl) (by kernel_rfl) (fun _ _ _ h => h) (Or.inl ⟨by rfl, fun w' hSw => ?_⟩) hHeld ?_
        · clear hHeld
          go_simp
        simp only [Act.put, List.setIfInBounds_toArray, List.set_cons_zero, List.set_cons_succ]
        refine wpAnyZ_take (i := 7) (v := .slice r.a r.n r.c) [12] rfl (by kernel_rfl) (by kernel_rfl) (by kernel_rfl) (by kernel_rfl) (fun _ _ _ h => h) (Or.inl ⟨by rfl, fun w' hSw => ?_⟩) hHeld ?_
        · clear hHeld
          go_simp
        simp only [Act.put, List.setIfInBounds_toArray, List.set_cons_zero, List.set_cons_succ]
        refine wpAnyZ_take (i := 8) (v := .slice a' (r.n - 1) (r.c - 1)) [12] rfl (by kernel_rfl) (by kernel_rfl) (by kernel_rfl) (by kernel_rfl) (fun _ _ _ h => h) (Or.inl ⟨by rfl, fun w' hSw => ?_⟩) hHeld ?_
        · clear hHeld
          rw [Hra.out]
          rcases Hcs.out with ⟨h1, h2⟩ | ⟨h1, h2⟩
          · rw [h1, h2]
            rw [h1] at hncz
            go_simp
          · rw [h2]
            go_simp
        simp only [Act.put, List.setIfInBounds_toArray, List.set_cons_zero, List.set_cons_succ]
        refine wpAnyZ_two (i := 4) (k := 9) (by kernel_rfl) rfl rfl (fun K' hK => ?_) (fun K' hK => ?_)
        · go_simp
          refine hK.out _ _ ?_ (fun hHeld => ?_)
          · exact hHeld.alloc hHeld.size _
          clear hK K'
          try simp only [Act.put, List.setIfInBounds_toArray, List.set_cons_zero, List.set_cons_succ]
          refine wpAnyZ_two (i := 5) (k := 9) (by kernel_rfl) rfl rfl (fun K' hK => ?_) (fun K' hK => ?_)
          · rw [if_pos (by rfl)]
            refine append_go rfl rfl pA1 vA1 WA1 ?_
            refine hK.out _ _ ?_ (fun hHeld => ?_)
            · exact hB0.trans bA1.out
            clear hK K'
            try simp only [Act.put, List.setIfInBounds_toArray, List.set_cons_zero, List.set_cons_succ]
            refine wpAnyZ_one (i := 9) (by kernel_rfl) rfl (fun K' hK => ?_)
            go_simp
            refine hK.out _ _ ?_ (fun hHeld => ?_)
            · exact hHeld.alloc hHeld.size _
            clear hK K'
            try simp only [Act.put, List.setIfInBounds_toArray, List.set_cons_zero, List.set_cons_succ]
            refine wpAnyZ_one (i := 10) (by kernel_rfl) rfl (fun K' hK => ?_)
            rw [if_pos (by rfl)]
            refine append_go rfl rfl pA2 vA2 WA2 ?_
            refine hK.out _ _ ?_ (fun hHeld => ?_)
            · exact hB0.trans bA2.out
            clear hK K'
            try simp only [Act.put, List.setIfInBounds_toArray, List.set_cons_zero, List.set_cons_succ]
            refine wpAnyZ_one (i := 11) (by kernel_rfl) rfl (fun K' hK => ?_)
            go_simp
            refine hK.out _ _ ?_ (fun hHeld => ?_)
            · exact hHeld
            clear hK K'
            try simp only [Act.put, List.setIfInBounds_toArray, List.set_cons_zero, List.set_cons_succ]
            refine wpAnyZ_last (i := 12) (by kernel_rfl) rfl (by kernel_rfl) (fun K' hK => ?_)
            go_simp
            refine hK.out _ _ ?_
            clear hK K'
            try simp only [Act.put, List.setIfInBounds_toArray, List.set_cons_zero, List.set_cons_succ]
            refine wpAnyZ_done (by kernel_rfl) ?_ _
            clear hHeld
            go_step
            go_wp2
            refine Handed.intro (M - (k + 1)) (by omega) ?_
            go_step
            (repeat apply Exists.intro)
            exact ⟨⟨k + 1, rs' ++ [⟨a', r.n - 1, r.c - 1⟩], by go_num, by omega, by omega, HG, HRW2, HFA⟩, rfl⟩
          · go_simp
            refine hK.out _ _ ?_ (fun hHeld => ?_)
            · exact hHeld.alloc hHeld.size _
            clear hK K'
            try simp only [Act.put, List.setIfInBounds_toArray, List.set_cons_zero, List.set_cons_succ]
            refine wpAnyZ_one (i := 5) (by kernel_rfl) rfl (fun K' hK => ?_)
            rw [if_pos (by rfl)]
            refine append_go rfl rfl pB1 vB1 WB1 ?_
            refine hK.out _ _ ?_ (fun hHeld => ?_)
            · exact hB0.trans bB1.out
            clear hK K'
            try simp only [Act.put, List.setIfInBounds_toArray, List.set_cons_zero, List.set_cons_succ]
            refine wpAnyZ_one (i := 10) (by kernel_rfl) rfl (fun K' hK => ?_)
            rw [if_pos (by rfl)]
            refine append_go rfl rfl pB2 vB2 WB2 ?_
            refine hK.out _ _ ?_ (fun hHeld => ?_)
            · exact hB0.trans bB2.out
            clear hK K'
            try simp only [Act.put, List.setIfInBounds_toArray, List.set_cons_zero, List.set_cons_succ]
            refine wpAnyZ_one (i := 11) (by kernel_rfl) rfl (fun K' hK => ?_)
            go_simp
            refine hK.out _ _ ?_ (fun hHeld => ?_)
            · exact hHeld
            clear hK K'
            try simp only [Act.put, List.setIfInBounds_toArray, List.set_cons_zero, List.set_cons_succ]
            refine wpAnyZ_last (i := 12) (by kernel_rfl) rfl (by kernel_rfl) (fun K' hK => ?_)
            go_simp
            refine hK.out _ _ ?_
            clear hK K'
            try simp only [Act.put, List.setIfInBounds_toArray, List.set_cons_zero, List.set_cons_succ]
            refine wpAnyZ_done (by kernel_rfl) ?_ _
            clear hHeld
            go_step
            go_wp2
            refine Handed.intro (M - (k + 1)) (by omega) ?_
            go_step
            (repeat apply Exists.intro)
            exact ⟨⟨k + 1, rs' ++ [⟨a', r.n - 1, r.c - 1⟩], by go_num, by omega, by omega, HG, HRW2, HFB⟩, rfl⟩
        · go_simp
          refine hK.out _ _ ?_ (fun hHeld => ?_)
          · exact hHeld.alloc hHeld.size _
          clear hK K'
          try simp only [Act.put, List.setIfInBounds_toArray, List.set_cons_zero, List.set_cons_succ]
          refine wpAnyZ_one (i := 4) (by kernel_rfl) rfl (fun K' hK => ?_)
          go_simp
          refine hK.out _ _ ?_ (fun hHeld => ?_)
          · exact hHeld.alloc hHeld.size _
          clear hK K'
          try simp only [Act.put, List.setIfInBounds_toArray, List.set_cons_zero, List.set_cons_succ]
          refine wpAnyZ_one (i := 5) (by kernel_rfl) rfl (fun K' hK => ?_)
          rw [if_pos (by rfl)]
          refine append_go rfl rfl pC1 vC1 WC1 ?_
          refine hK.out _ _ ?_ (fun hHeld => ?_)
          · exact hB0.trans bC1.out
          clear hK K'
          try simp only [Act.put, List.setIfInBounds_toArray, List.set_cons_zero, List.set_cons_succ]
          refine wpAnyZ_one (i := 10) (by kernel_rfl) rfl (fun K' hK => ?_)
          rw [if_pos (by rfl)]
          refine append_go rfl rfl pC2 vC2 WC2 ?_
          refine hK.out _ _ ?_ (fun hHeld => ?_)
          · exact hB0.trans bC2.out
          clear hK K'
          try simp only [Act.put, List.setIfInBounds_toArray, List.set_cons_zero, List.set_cons_succ]
          refine wpAnyZ_one (i := 11) (by kernel_rfl) rfl (fun K' hK => ?_)
          go_simp
          refine hK.out _ _ ?_ (fun hHeld => ?_)
          · exact hHeld
          clear hK K'
          try simp only [Act.put, List.setIfInBounds_toArray, List.set_cons_zero, List.set_cons_succ]
          refine wpAnyZ_last (i := 12) (by kernel_rfl) rfl (by kernel_rfl) (fun K' hK => ?_)
          go_simp
          refine hK.out _ _ ?_
          clear hK K'
          try simp only [Act.put, List.setIfInBounds_toArray, List.set_cons_zero, List.set_cons_succ]
          refine wpAnyZ_done (by kernel_rfl) ?_ _
          clear hHeld
          go_step
          go_wp2
          refine Handed.intro (M - (k + 1)) (by omega) ?_
          go_step
          (repeat apply Exists.intro)
          exact ⟨⟨k + 1, rs' ++ [⟨a', r.n - 1, r.c - 1⟩], by go_num, by omega, by omega, HG, HRW2, HFC⟩, rfl⟩
    · have hltz : ¬ (k : Int) < (M : Int) := by omega
      have hkM : k = M := by omega
      subst hkM
      have hcm := HP.out.1
      rw [List.take_of_length_le (by rw [HM.out]; exact Nat.le_refl _)] at hcm
      obtain ⟨a1, c1, e1, q1, r1⟩ := hcm.o5.rdC encI_len1
      obtain ⟨a2, c2, e2, q2, r2⟩ := hcm.o6.rdC encRow_len
      have hrw := HRW.out
      rw [show (colOf ps).length = k by simp [colOf, HM.out]] at e1
      rw [hrw.len] at e2
      have hrw2 : RestOk w rs' ps ps.length := by rw [HM.out]; exact hrw
      obtain ⟨r3, r4⟩ := hrw2.done HP.out.2 r2
      have HPost : Hid (∀ e, e = Ending.returned (.tuple #[u5, u6, .bool true]) → ColPost w ps k e wr) := Lib.hid (fun e he => ⟨HP.out.2, .inr ⟨HA.out, a1, c1, a2, c2, rs', by rw [he, e1, e2], r1, r3, r4⟩⟩)
      clear e1 e2 r1 r2 r3 r4 hcm hrw hrw2
      go_wp2
      go_ret3
      exact HPost.out _ rfl
end Go.Proofs.Ytgfcnkfmgpakkaa
