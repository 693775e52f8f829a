/-
Several texts in one: TreeE, TreeMath2, RegT, TreeF, TreeG.
-/
import Derived.Test.YtoekpdnpncgeeaaGreatGLTreeA
import Derived.IntWalk
import Derived.Test.YtoekpdnpncgeeaaGreatGBase
import Derived.StillTailTactics
/-
tree.add.
-/
namespace Go.Proofs.YtoekpdnpncgeeaaGreat
open Go.RowKit
set_option linter.unusedVariables false
set_option linter.unusedSimpArgs false
/-- Does a charger use a phase? -/
def bitP (ph : Int) (p : Nat) : Bool := decide ((ph / (2 ^ p : Nat)) % 2 = 1)
/-- What add leaves in the cells of a list of loads: those of conductor k grow. -/
def addF (f : Nat → Int) (k : Nat) (ph am : Int) (m : Nat) (i : Nat) : Int := if k * 3 ≤ i ∧ i < k * 3 + m ∧ bitP ph (i - k * 3) = true then f i + am else f i
theorem bits_ph {ph : Int} {p : Nat} (hph : 0 ≤ ph ∧ ph ≤ 7) (hp : p < 3) : (bits BinOp.and IntKind.i64 ph (wrap64 (2 ^ p)) != 0) = bitP ph p := by
  have h : ∀ q : Fin 8, ∀ p : Fin 3, (bits BinOp.and IntKind.i64 ((q.val : Nat) : Int) (wrap64 (2 ^ p.val)) != 0) = bitP ((q.val : Nat) : Int) p.val := by decide +kernel
  have e := h ⟨ph.toNat, by omega⟩ ⟨p, hp⟩
  dsimp only at e
  rw [show ((ph.toNat : Nat) : Int) = ph by omega] at e
  exact e
theorem addF_at (f : Nat → Int) (k : Nat) (ph am : Int) (p : Nat) : addF f k ph am p (k * 3 + p) = f (k * 3 + p) := by
  unfold addF
  rw [if_neg (by omega)]
theorem addF_no {f : Nat → Int} {k : Nat} {ph am : Int} {p : Nat} (h : bitP ph p = false) (i : Nat) : addF f k ph am (p + 1) i = addF f k ph am p i := by
  unfold addF
  by_cases e : i = k * 3 + p
  · subst e
    rw [if_neg (by rintro ⟨_, _, h3⟩; rw [Nat.add_sub_cancel_left, h] at h3; cases h3), if_neg (by omega)]
  · by_cases c : k * 3 ≤ i ∧ i < k * 3 + p ∧ bitP ph (i - k * 3) = true
    · rw [if_pos c, if_pos ⟨c.1, by omega, c.2.2⟩]
    · rw [if_neg c, if_neg (fun h => c ⟨h.1, by omega, h.2.2⟩)]
theorem addF_yes {f : Nat → Int} {k : Nat} {ph am : Int} {p : Nat} (h : bitP ph p = true) (i : Nat) : addF f k ph am (p + 1) i = if i = k * 3 + p then f (k * 3 + p) + am else addF f k ph am p i := by
  by_cases e : i = k * 3 + p
  · subst e
    rw [if_pos rfl]
    unfold addF
    rw [if_pos ⟨by omega, by omega, by rw [Nat.add_sub_cancel_left]; exact h⟩]
  · rw [if_neg e]
    unfold addF
    by_cases c : k * 3 ≤ i ∧ i < k * 3 + p ∧ bitP ph (i - k * 3) = true
    · rw [if_pos c, if_pos ⟨c.1, by omega, c.2.2⟩]
    · rw [if_neg c, if_neg (fun h => c ⟨h.1, by omega, h.2.2⟩)]
theorem addF_zero (f : Nat → Int) (k : Nat) (ph am : Int) (i : Nat) : addF f k ph am 0 i = f i := by unfold addF; rw [if_neg (by omega)]
end Go.Proofs.YtoekpdnpncgeeaaGreat
/-
Plain: the loads. No program in sight.
-/
namespace Go.Proofs.YtoekpdnpncgeeaaGreat
set_option linter.unusedVariables false
set_option linter.unusedSimpArgs false
def fI (xs : List Int) (i : Nat) : Int := xs[i]?.getD 0
def phOf (s : GSite) (i : Nat) : Int := (s.chgs[i]?.map GChg.ph).getD 0
/-- A charger is on a conductor, on a phase. -/
def onB (s : GSite) (c k p : Nat) : Bool := bitP (phOf s c) p && decide (k ∈ pth s.cons (placeOf s c : Nat))
/-- The load of the first m chargers, on the cell of conductor j / 3, phase j % 3. -/
def loadS (s : GSite) (am : Nat → Int) (m j : Nat) : Int := S m (fun c => pick (onB s c (j / 3) (j % 3) = true) (am c))
def loadM (s : GSite) (am : Nat → Int) (m : Nat) (pre : List Nat) (j : Nat) : Int := loadS s am m j + pick (bitP (phOf s m) (j % 3) = true) (((pre.count (j / 3) : Nat) : Int) * am m)
theorem loadS_zero (s : GSite) (am : Nat → Int) (j : Nat) : loadS s am 0 j = 0 := rfl
theorem loadM_nil (s : GSite) (am : Nat → Int) (m j : Nat) : loadM s am m [] j = loadS s am m j := by
  unfold loadM pick
  simp
theorem loadM_all (s : GSite) (am : Nat → Int) (m j : Nat) (hn : (pth s.cons (placeOf s m : Nat)).Nodup) : loadM s am m (pth s.cons (placeOf s m : Nat)) j = loadS s am (m + 1) j := by
  unfold loadM loadS
  rw [S_succ, hn.count]
  congr 1
  unfold onB pick
  by_cases h1 : bitP (phOf s m) (j % 3) = true
  · by_cases h2 : j / 3 ∈ pth s.cons (placeOf s m : Nat)
    · simp [h1, h2]
    · simp [h1, h2]
  · simp [h1]
theorem loadM_step (s : GSite) (am : Nat → Int) (m : Nat) (pre : List Nat) (k : Nat) (j : Nat) : addF (loadM s am m pre) k (phOf s m) (am m) 3 j = loadM s am m (pre ++ [k]) j := by
  unfold addF
  by_cases c : k * 3 ≤ j ∧ j < k * 3 + 3 ∧ bitP (phOf s m) (j - k * 3) = true
  · rw [if_pos c]
    have e1 : j / 3 = k := by omega
    have e2 : j - k * 3 = j % 3 := by omega
    have hb := c.2.2
    rw [e2] at hb
    unfold loadM
    rw [hb, e1, pick_pos rfl, pick_pos rfl, List.count_append, List.count_singleton_self, Int.natCast_add, Int.add_mul]
    simp
    omega
  · rw [if_neg c]
    unfold loadM
    congr 1
    by_cases e1 : j / 3 = k
    · have e2 : j - k * 3 = j % 3 := by omega
      rw [e2] at c
      have hb : bitP (phOf s m) (j % 3) = false := by
        cases h : bitP (phOf s m) (j % 3)
        · rfl
        · exact absurd ⟨by omega, by omega, h⟩ c
      rw [hb, pick_neg (by simp), pick_neg (by simp)]
    · have e : List.count (j / 3) [k] = 0 := by
        rw [List.count_eq_zero]
        simpa using e1
      rw [List.count_append, e, Nat.add_zero]
theorem loadS_bd {s : GSite} {am : Nat → Int} {m : Nat} (h : ∀ c, c < m → 0 ≤ am c ∧ am c ≤ 80) (j : Nat) : 0 ≤ loadS s am m j ∧ loadS s am m j ≤ m * 80 := by
  unfold loadS
  constructor
  · refine S_nonneg (fun c hc => ?_)
    have := h c hc
    unfold pick
    split <;> omega
  · refine S_bound (fun c hc => ?_)
    have := h c hc
    unfold pick
    split <;> omega
theorem loadM_bd {s : GSite} {am : Nat → Int} {m : Nat} (h : ∀ c, c < m + 1 → 0 ≤ am c ∧ am c ≤ 80) (pre : List Nat) (j : Nat) : 0 ≤ loadM s am m pre j ∧ loadM s am m pre j ≤ m * 80 + pre.length * 80 := by
  have h1 := loadS_bd (s := s) (am := am) (m := m) (fun c hc => h c (by omega)) j
  have h2 := h m (by omega)
  have h3 : pre.count (j / 3) ≤ pre.length := List.count_le_length
  have h4 : 0 ≤ ((pre.count (j / 3) : Nat) : Int) * am m := Int.mul_nonneg (by omega) h2.1
  have h5 : ((pre.count (j / 3) : Nat) : Int) * am m ≤ pre.length * 80 := by
    have a1 : ((pre.count (j / 3) : Nat) : Int) * am m ≤ ((pre.count (j / 3) : Nat) : Int) * 80 := Int.mul_le_mul_of_nonneg_left h2.2 (by omega)
    omega
  unfold loadM pick
  split <;> omega
/-- The numbers are currents of all chargers. -/
def curB (s : GSite) (xs : List Int) : Bool := decide (xs.length = s.chgs.length) && xs.all (fun a => decide (0 ≤ a ∧ a ≤ 80))
noncomputable def loadB (s : GSite) (xs : List Int) : Bool := okSB keyL s && curB s xs
theorem curB_iff {s : GSite} {xs : List Int} : curB s xs = true ↔ (xs.length = s.chgs.length ∧ ∀ i, i < xs.length → 0 ≤ fI xs i ∧ fI xs i ≤ 80) := by
  unfold curB
  simp only [Bool.and_eq_true, decide_eq_true_eq, List.all_eq_true]
  constructor
  · rintro ⟨h1, h2⟩
    refine ⟨h1, fun i hi => ?_⟩
    have := h2 xs[i] (List.getElem_mem hi)
    unfold fI
    rw [List.getElem?_eq_getElem hi]
    exact this
  · rintro ⟨h1, h2⟩
    refine ⟨h1, fun a ha => ?_⟩
    obtain ⟨i, hi, e⟩ := List.getElem_of_mem ha
    have := h2 i hi
    unfold fI at this
    rw [List.getElem?_eq_getElem hi] at this
    rw [← e]
    exact this
theorem loadB_no1 {s : GSite} {xs : List Int} (h : okSB keyL s = false) : loadB s xs = false := by unfold loadB; rw [h]; rfl
theorem loadB_no2 {s : GSite} {xs : List Int} (h : curB s xs = false) : loadB s xs = false := by unfold loadB; rw [h, Bool.and_false]
theorem loadB_yes {s : GSite} {xs : List Int} (h : okSB keyL s = true) (h2 : curB s xs = true) : loadB s xs = true := by unfold loadB; rw [h, h2]; rfl
theorem curB_no1 {s : GSite} {xs : List Int} (h : xs.length ≠ s.chgs.length) : curB s xs = false := by
  cases e : curB s xs
  · rfl
  · exact absurd (curB_iff.1 e).1 h
theorem curB_no2 {s : GSite} {xs : List Int} {i : Nat} (hi : i < xs.length) (h : ¬ (0 ≤ fI xs i ∧ fI xs i ≤ 80)) : curB s xs = false := by
  cases e : curB s xs
  · rfl
  · exact absurd ((curB_iff.1 e).2 i hi) h
abbrev R3 : Type := Int × Int × Int
def enc3 (r : R3) : List Value := [.int .i64 r.1, .int .i64 r.2.1, .int .i64 r.2.2]
def row3 (f : Nat → Int) (k : Nat) : R3 := (f (k * 3), f (k * 3 + 1), f (k * 3 + 2))
/-- All loads, conductor by conductor. -/
def loadsOf (s : GSite) (xs : List Int) : List R3 := (List.range s.cons.length).map (row3 (loadS s (fI xs) s.chgs.length))
noncomputable def loadsO (s : GSite) (xs : List Int) : List R3 := if loadB s xs = true then loadsOf s xs else []
theorem loadsO_no {s : GSite} {xs : List Int} (h : loadB s xs = false) : loadsO s xs = [] := by unfold loadsO; rw [h]; rfl
theorem loadsO_yes {s : GSite} {xs : List Int} (h : loadB s xs = true) : loadsO s xs = loadsOf s xs := by unfold loadsO; rw [if_pos h]
theorem loadsOf_len (s : GSite) (xs : List Int) : (loadsOf s xs).length = s.cons.length := by unfold loadsOf; simp
theorem loadsOf_at {s : GSite} {xs : List Int} {k : Nat} (hk : k < s.cons.length) : (loadsOf s xs)[k]? = some (row3 (loadS s (fI xs) s.chgs.length) k) := by
  unfold loadsOf
  rw [List.getElem?_map, List.getElem?_range hk]
  rfl
/-- The cells of a list of loads, read. -/
theorem Own.rd3 {w : World} {g : Nat} {t : TypeId} {n : Nat} {f : Nat → Int} (h : Own w g t (n * 3) (fun i => .int .i64 (f i))) : Rd 3 enc3 w (some ⟨g, 0, none⟩) ((List.range n).map (row3 f)) := by
  refine h.rd (by simp) (fun x => rfl) (fun k x hx j v hv => ?_)
  rw [List.getElem?_map] at hx
  obtain ⟨k', hk', rfl⟩ := Option.map_eq_some_iff.1 hx
  have e : k' = k := by
    have hlt : k < n := by
      have := (List.getElem?_eq_some_iff.1 hk').1
      simpa using this
    rw [List.getElem?_range hlt] at hk'
    injection hk' with hk'
    exact hk'.symm
  subst e
  match j, hv with
  | 0, hv => simp [enc3, row3] at hv; rw [← hv]; rfl
  | 1, hv => simp [enc3, row3] at hv; rw [← hv]
  | 2, hv => simp [enc3, row3] at hv; rw [← hv]
  | j + 3, hv => simp [enc3] at hv
end Go.Proofs.YtoekpdnpncgeeaaGreat
/-
A region whose order is drawn, inside a round of a wide fence, where all operations but a last few are still, and those come up in one order.
-/
namespace Go.Proofs.YtoekpdnpncgeeaaGreat
theorem wpIn_region_still_tail {P : Program} {lp m id : Nat} {Q : Exit → Act → World → Prop} {a : Act} {w : World} {l : List Oper} (n : Nat) (hm : P.follows .mixedOrders = true) (hp : (l.toArray.all fun o => noDefer o.op) = true) (hB : Region.lexTailB .any l.toArray n = true)
    (h : wpStill P l.toArray { w with drawn := w.drawn + 1 } (fun a' => wpList P l.toArray (fun e a' w' => e = .normal ∧ Q .normal a' w') (l.drop n) a' { w with drawn := w.drawn + 1 }) (l.take n) a) : (Code.region id l.toArray true).wpIn (Fence.wide.inRound lp) m P Q a w := by
  simp only [Region.lexTailB, Bool.and_eq_true, decide_eq_true_eq] at hB
  obtain ⟨⟨⟨⟨hsel, hn⟩, hs⟩, hc⟩, hlex⟩ := hB
  have hn' : n < l.length := by simpa using hn
  have htl : (l.take n).length = n := by simp; omega
  have hdl : (l.drop n).length = l.toArray.size - n := by simp
  have inv0 : HeadInv .any l.toArray n (Array.replicate l.toArray.size false) :=
    ⟨by simp, fun j oj _ hl => (by rw [getD_replicate_false] at hl; cases hl), fun t _ ht => getD_in (by simpa using ht) (getD_replicate_false _ _)⟩
  have H := wpAnyL_lex (md := .any) (g := l.toArray.size - n) hsel hs hc hn (l.take n) 0 _ a (fun j hj => by
    have hj' : j < n := by rw [htl] at hj; exact hj
    simp [hj']) (by simpa using htl) inv0 (by rw [htl]; exact hlex) h
  have hL : ¬ LetsOut (fun (e : Exit) (a' : Act) (w' : World) => e = .normal ∧ Q .normal a' w') := fun ⟨_, _, h, _⟩ => by cases h
  have H2 := wpAny_of_head (Q' := fun e a' w' => e = .normal ∧ Q .normal a' w') (g := l.toArray.size - n) (fun listed a' hL => by
    have := wpAny_of_seq (md := .any) (Q' := fun e a' w' => e = .normal ∧ Q .normal a' w') (l.drop n) n listed a' { w with drawn := w.drawn + 1 } (fun j => by simp [List.getElem?_drop]) (by rw [hdl]; exact hL.1) hL.2
    rwa [hdl] at this) _ _ _ H
  rw [htl, show n + (l.toArray.size - n) = l.toArray.size by omega] at H2
  have h1 : (Code.region id l.toArray true).wpIn (Fence.wide.inRound lp) m P (fun (e : Exit) (a' : Act) (w' : World) => e = .normal ∧ Q .normal a' w') a w := wpIn_region_any hm (any_wide hp hL _ _ _ _ H2)
  refine wpIn_mono h1 ?_
  rintro e a' w' ⟨rfl, h2⟩
  exact h2
end Go.Proofs.YtoekpdnpncgeeaaGreat
/-
tree.Loads.
-/
namespace Go.Proofs.YtoekpdnpncgeeaaGreat
open Go.RowKit Go.Shelf
attribute [local go_sem] Oper.semAt_some
set_option linter.unusedVariables false
set_option linter.unusedSimpArgs false
def findLoopT (n : Nat) : Code → Option Code
  | .loop c => if (findRegion n c).isSome then some c else none
  | .seq a b => match findLoopT n a with
    | some c => some c
    | none => findLoopT n b
  | .block _ c => findLoopT n c
  | .scope c => findLoopT n c
  | .cond _ a b => match findLoopT n a with
    | some c => some c
    | none => findLoopT n b
  | _ => none
theorem Own.cellsAt {w : World} {g : Nat} {t : TypeId} {n : Nat} {f : Nat → Value} (h : Own w g t n f) {o : Obj} (ho : w.heap[g]? = some o) : o.isCells = true := by
  obtain ⟨cs, hb, _, _⟩ := h
  rw [hb] at ho
  cases ho
  rfl
theorem keepsFrom_mod1 {M : Nat → Prop} {W W' : World} (h : Mod M W W') (B : Nat) (hM : ∀ k, M k → ∀ o, W.heap[k]? = some o → o.isCells = true) : KeepsFrom B W W' :=
  ⟨h.size, fun k o _ hk ho => (h.block k (Array.getElem?_eq_some_iff.1 hk).1 (fun hm => by have := hM k hm o hk; rw [ho] at this; cases this)).trans hk⟩
theorem Marks.below1 {B : Nat} {W W' : World} {ds : List Deferred} (h : Marks B W ds) (hb : Below W.heap.size W W') : Marks B W' ds :=
  h.keeps ⟨hb.size, fun k o _ hk _ => by
    have hl : k < W.heap.size := (Array.getElem?_eq_some_iff.1 hk).1
    rw [hb.block k hl]; exact hk⟩
/-- Marks that lie below m0. -/
def MarksB (B m0 : Nat) (W : World) (ds : List Deferred) : Prop := Marks B W ds ∧ ∀ d, d ∈ ds → ∃ D, d.target = .collected D ∧ D < m0
theorem MarksB.nc {B m0 : Nat} {W W' : World} {ds : List Deferred} (h : MarksB B m0 W ds) (hn : Nc m0 W W') : MarksB B m0 W' ds := by
  obtain ⟨⟨Ds, e, hd, hD⟩, hl⟩ := h
  obtain ⟨row, hg, hr⟩ := hn
  refine ⟨⟨Ds, e, hd, fun D hm => ⟨(hD D hm).1, Nat.lt_of_lt_of_le (hD D hm).2.1 hg.size, ?_⟩⟩, hl⟩
  rw [hg.block D (hD D hm).2.1 ?_]
  · exact (hD D hm).2.2
  · intro e2
    have h1 := (hr D e2.symm).1
    obtain ⟨D', e3, h3⟩ := hl ⟨.collected D, #[]⟩ (by rw [e]; exact List.mem_map.2 ⟨D, hm, rfl⟩)
    injection e3 with e3
    omega
theorem marks_snoc {B m0 : Nat} {W : World} {ds : List Deferred} {D : Nat} (h : MarksB B m0 W ds) (hD : m0 ≤ D) (hB : B ≤ D) (hd : W.heap[D]? = some (.deferred (some []))) : Marks B W ({ target := .collected D, args := #[] } :: ds) := by
  obtain ⟨⟨Ds, e, hn, hm⟩, hl⟩ := h
  refine ⟨D :: Ds, by rw [e]; rfl, List.nodup_cons.2 ⟨fun hx => ?_, hn⟩, fun D' hm' => ?_⟩
  · obtain ⟨D', e3, h3⟩ := hl ⟨.collected D, #[]⟩ (by rw [e]; exact List.mem_map.2 ⟨D, hx, rfl⟩)
    injection e3 with e3
    omega
  · rcases List.mem_cons.1 hm' with rfl | hm'
    · exact ⟨hB, (Array.getElem?_eq_some_iff.1 hd).1, hd⟩
    · exact hm D' hm'
/-- The frame in which the body begins. -/
def LdA (w : World) (g0 X k : Nat) (a' : Act) : Prop := ∃ u0 u1 u4 u5 u6 u7 u12 u13 u14 u15 u16 u17 u18 u19 u20 u21 u22 u23 u24 u25 u26 u27 u28 u29 u30 u31 u32 u33 u34 u35 u36 u37 u38 u39 u40 u41 u42 u43 u44 u45 u46 u47 u48 u49 u50 u51 u52 u53 u54 u55 u56 u57 u58 u59 u60 u61 u62 u63 u64 : Value, a' = ⟨List.toArray (u0 :: u1 :: (.pointer (some ⟨w.heap.size, 0, none⟩)) :: (.pointer (some ⟨w.heap.size + 1, 0, none⟩)) :: u4 :: u5 :: u6 :: u7 :: (.pointer (some ⟨g0 + 1, 0, none⟩)) :: (.pointer (some ⟨X, 0, none⟩)) :: (.pointer (some ⟨X + 1, 0, none⟩)) :: (.int .i64 (k : Nat)) :: u12 :: u13 :: u14 :: u15 :: u16 :: u17 :: u18 :: u19 :: u20 :: u21 :: u22 :: u23 :: u24 :: u25 :: u26 :: u27 :: u28 :: u29 :: u30 :: u31 :: u32 :: u33 :: u34 :: u35 :: u36 :: u37 :: u38 :: u39 :: u40 :: u41 :: u42 :: u43 :: u44 :: u45 :: u46 :: u47 :: u48 :: u49 :: u50 :: u51 :: u52 :: u53 :: u54 :: u55 :: u56 :: u57 :: u58 :: u59 :: u60 :: u61 :: u62 :: u63 :: u64 :: []), []⟩
end Go.Proofs.YtoekpdnpncgeeaaGreat
/-
tree.Loads, the whole.
-/
namespace Go.Proofs.YtoekpdnpncgeeaaGreat
open Go.RowKit Go.Shelf
attribute [local go_sem] Oper.semAt_some
set_option linter.unusedVariables false
set_option linter.unusedSimpArgs false
def LdMu (n4 : Nat) (a : Act) (_ : World) : Nat := n4 - (intOf (a.tmps.getD 43 undef)).toNat
/-- What Loads does. -/
def LdPost (w : World) (s : GSite) (xs : List Int) (e : Ending) (w' : World) : Prop := ∃ a c, e = .returned (.tuple #[.slice a (loadsO s xs).length c, .int .i64 (errO (loadB s xs))]) ∧ Rd 3 enc3 w' a (loadsO s xs) ∧ Below w.heap.size w w'
/-- The same, with a list of the call's own. -/
def LdPostF (w : World) (s : GSite) (xs : List Int) (e : Ending) (w' : World) : Prop := ∃ a c, e = .returned (.tuple #[.slice a (loadsO s xs).length c, .int .i64 (errO (loadB s xs))]) ∧ Rd 3 enc3 w' a (loadsO s xs) ∧ (∀ x, a = some x → w.heap.size ≤ x.block ∧ x.block < w'.heap.size) ∧ Below w.heap.size w w'
end Go.Proofs.YtoekpdnpncgeeaaGreat
