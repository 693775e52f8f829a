/-
Several texts in one: TreeE, TreeMath2, RegT, TreeF, TreeG.
-/
import Derived.Test.YtpkonifeieepfaaGreatGLTreeA
import Derived.IntWalk
import Derived.Test.YtpkonifeieepfaaGreatGBase
import Derived.StillTailTactics
/-
tree.add.
-/
namespace Go.Proofs.YtpkonifeieepfaaGreat
open Go.RowKit
set_option linter.unusedVariables false
set_option linter.unusedSimpArgs false
/-- Does a charger use a phase? -/
def bitP (ph : Int) (p : Nat) : Bool := decide ((ph / (2 ^ p : Nat)) % 2 = 1)
/-- What add leaves in the cells of a list of loads: those of conductor k grow. -/
def addF (f : Nat → Int) (k : Nat) (ph am : Int) (m : Nat) (i : Nat) : Int := if k * 3 ≤ i ∧ i < k * 3 + m ∧ bitP ph (i - k * 3) = true then f i + am else f i
theorem bits_ph {ph : Int} {p : Nat} (hph : 0 ≤ ph ∧ ph ≤ 7) (hp : p < 3) : (bits BinOp.and IntKind.i64 ph (wrap64 (2 ^ p)) != 0) = bitP ph p := by
  have h : ∀ q : Fin 8, ∀ p : Fin 3, (bits BinOp.and IntKind.i64 ((q.val : Nat) : Int) (wrap64 (2 ^ p.val)) != 0) = bitP ((q.val : Nat) : Int) p.val := by decide +kernel
  have e := h ⟨ph.toNat, by omega⟩ ⟨p, hp⟩
  dsimp only at e
  rw [show ((ph.toNat : Nat) : Int) = ph by omega] at e
  exact e
theorem addF_at (f : Nat → Int) (k : Nat) (ph am : Int) (p : Nat) : addF f k ph am p (k * 3 + p) = f (k * 3 + p) := by
  unfold addF
  rw [if_neg (by omega)]
theorem addF_no {f : Nat → Int} {k : Nat} {ph am : Int} {p : Nat} (h : bitP ph p = false) (i : Nat) : addF f k ph am (p + 1) i = addF f k ph am p i := by
  unfold addF
  by_cases e : i = k * 3 + p
  · subst e
    rw [if_neg (by rintro ⟨_, _, h3⟩; rw [Nat.add_sub_cancel_left, h] at h3; cases h3), if_neg (by omega)]
  · by_cases c : k * 3 ≤ i ∧ i < k * 3 + p ∧ bitP ph (i - k * 3) = true
    · rw [if_pos c, if_pos ⟨c.1, by omega, c.2.2⟩]
    · rw [if_neg c, if_neg (fun h => c ⟨h.1, by omega, h.2.2⟩)]
theorem addF_yes {f : Nat → Int} {k : Nat} {ph am : Int} {p : Nat} (h : bitP ph p = true) (i : Nat) : addF f k ph am (p + 1) i = if i = k * 3 + p then f (k * 3 + p) + am else addF f k ph am p i := by
  by_cases e : i = k * 3 + p
  · subst e
    rw [if_pos rfl]
    unfold addF
    rw [if_pos ⟨by omega, by omega, by rw [Nat.add_sub_cancel_left]; exact h⟩]
  · rw [if_neg e]
    unfold addF
    by_cases c : k * 3 ≤ i ∧ i < k * 3 + p ∧ bitP ph (i - k * 3) = true
    · rw [if_pos c, if_pos ⟨c.1, by omega, c.2.2⟩]
    · rw [if_neg c, if_neg (fun h => c ⟨h.1, by omega, h.2.2⟩)]
theorem addF_zero (f : Nat → Int) (k : Nat) (ph am : Int) (i : Nat) : addF f k ph am 0 i = f i := by unfold addF; rw [if_neg (by omega)]
set_option maxRecDepth 100000 in
set_option maxHeartbeats 4000000 in
theorem trAdd_any (bl k n : Nat) (f : Nat → Int) (ph am : Int) (w : World) (hO : Own w bl 38 (n * 3) (fun i => .int .i64 (f i))) (hk : k < n) (hph : 1 ≤ ph ∧ ph ≤ 7) (hf : ∀ i, i < n * 3 → 0 ≤ f i ∧ f i ≤ 1000000) (ham : 0 ≤ am ∧ am ≤ 80) :
    Calls Tryz.prog 42 #[.pointer (some ⟨bl, k * 3, none⟩), .int .i64 ph, .int .i64 am] w fun e w' => (∃ v, e = .returned v) ∧ Own w' bl 38 (n * 3) (fun i => .int .i64 (addF f k ph am 3 i)) ∧ Mod (fun j => j = bl) w w' := by
  have HO := Lib.hid hO
  clear hO
  go_enter Tryz.func42, Tryz.ntmps42
  go_wp2
  go_loopg [7] 3 (fun g1 v7 wr => ∃ p : Nat, v7 = .int .i64 p ∧ p ≤ 3 ∧ 3 - p ≤ g1 ∧ Hid (Own wr bl 38 (n * 3) (fun i => .int .i64 (addF f k ph am p i))) ∧ Hid (Mod (fun j => j = bl) w wr))
  case atStart => exact ⟨0, by go_num, by omega, by omega, Lib.hid (HO.out.congr (fun i _ => by rw [addF_zero])), Lib.hid (Mod.refl _ _)⟩
  case round =>
    obtain ⟨p, rfl, hp, hg1, HO, HM⟩ := hrel
    by_cases hlt : p < 3
    · have hltz : (p : Int) < 3 := by omega
      have hbit := bits_ph (ph := ph) (p := p) (by omega) hlt
      have hin : k * 3 + p < n * 3 := by omega
      have q0 := HO.out.cell (i := k * 3 + p) hin
      rw [addF_at] at q0
      have qf := HO.out.frozen (k * 3 + p)
      have hfi := hf _ hin
      have HSet := Lib.hid (fun u => HO.out.set (k * 3 + p) u)
      have HMS := Lib.hid (fun u => HM.out.setCell (p := ⟨bl, k * 3 + p, none⟩) (.inl rfl) u)
      have hlb := HO.out.lt
      have HF : Hid (∀ i, addF f k ph am (p + 1) i = if bitP ph p = true ∧ i = k * 3 + p then f (k * 3 + p) + am else addF f k ph am p i) := Lib.hid (fun i => by
        cases hb : bitP ph p
        · rw [addF_no hb, if_neg (by simp)]
        · rw [addF_yes hb]; simp)
      generalize hx : f (k * 3 + p) = x at *
      have hsum : IntKind.i64.wrap (x + am) = x + am := IntWalk.i64_in _ (by omega)
      clear hx
      cases hb : bitP ph p
      · rw [hb] at hbit
        clear q0 qf hsum HSet HMS
        go_wp2_with fail
        go_roundg (3 - (p + 1))
        case measure => omega
        case rel => exact ⟨p + 1, by go_num, by omega, by omega, Lib.hid (HO.out.congr (fun i _ => by rw [HF.out, hb, if_neg (by simp)])), HM⟩
      · rw [hb] at hbit
        go_wp2_with fail
        go_still_tail 9, (by kernel_rfl)
        change wpList _ _ _ _ _ wr.drew
        go_wp2_with fail
        go_roundg (3 - (p + 1))
        case measure => omega
        case rel => exact ⟨p + 1, by go_num, by omega, by omega, Lib.hid ((HSet.out (.int .i64 (x + am))).congr (fun i _ => by
            rw [HF.out, hb]
            by_cases e : i = k * 3 + p
            · rw [if_pos e, if_pos ⟨rfl, e⟩]
            · rw [if_neg e, if_neg (fun h => e h.2)])), Lib.hid (HMS.out (.int .i64 (x + am))).drew⟩
    · have hltz : ¬ (p : Int) < 3 := by omega
      have hp3 : p = 3 := by omega
      subst hp3
      go_wp2_with fail
      go_end0
      exact ⟨⟨_, rfl⟩, HO.out, HM.out⟩
end Go.Proofs.YtpkonifeieepfaaGreat
/-
Plain: the loads. No program in sight.
-/
namespace Go.Proofs.YtpkonifeieepfaaGreat
set_option linter.unusedVariables false
set_option linter.unusedSimpArgs false
def fI (xs : List Int) (i : Nat) : Int := xs[i]?.getD 0
def phOf (s : GSite) (i : Nat) : Int := (s.chgs[i]?.map GChg.ph).getD 0
/-- A charger is on a conductor, on a phase. -/
def onB (s : GSite) (c k p : Nat) : Bool := bitP (phOf s c) p && decide (k ∈ pth s.cons (placeOf s c : Nat))
/-- The load of the first m chargers, on the cell of conductor j / 3, phase j % 3. -/
def loadS (s : GSite) (am : Nat → Int) (m j : Nat) : Int := S m (fun c => pick (onB s c (j / 3) (j % 3) = true) (am c))
def loadM (s : GSite) (am : Nat → Int) (m : Nat) (pre : List Nat) (j : Nat) : Int := loadS s am m j + pick (bitP (phOf s m) (j % 3) = true) (((pre.count (j / 3) : Nat) : Int) * am m)
theorem loadS_zero (s : GSite) (am : Nat → Int) (j : Nat) : loadS s am 0 j = 0 := rfl
theorem loadM_nil (s : GSite) (am : Nat → Int) (m j : Nat) : loadM s am m [] j = loadS s am m j := by
  unfold loadM pick
  simp
theorem loadM_all (s : GSite) (am : Nat → Int) (m j : Nat) (hn : (pth s.cons (placeOf s m : Nat)).Nodup) : loadM s am m (pth s.cons (placeOf s m : Nat)) j = loadS s am (m + 1) j := by
  unfold loadM loadS
  rw [S_succ, hn.count]
  congr 1
  unfold onB pick
  by_cases h1 : bitP (phOf s m) (j % 3) = true
  · by_cases h2 : j / 3 ∈ pth s.cons (placeOf s m : Nat)
    · simp [h1, h2]
    · simp [h1, h2]
  · simp [h1]
theorem loadM_step (s : GSite) (am : Nat → Int) (m : Nat) (pre : List Nat) (k : Nat) (j : Nat) : addF (loadM s am m pre) k (phOf s m) (am m) 3 j = loadM s am m (pre ++ [k]) j := by
  unfold addF
  by_cases c : k * 3 ≤ j ∧ j < k * 3 + 3 ∧ bitP (phOf s m) (j - k * 3) = true
  · rw [if_pos c]
    have e1 : j / 3 = k := by omega
    have e2 : j - k * 3 = j % 3 := by omega
    have hb := c.2.2
    rw [e2] at hb
    unfold loadM
    rw [hb, e1, pick_pos rfl, pick_pos rfl, List.count_append, List.count_singleton_self, Int.natCast_add, Int.add_mul]
    simp
    omega
  · rw [if_neg c]
    unfold loadM
    congr 1
    by_cases e1 : j / 3 = k
    · have e2 : j - k * 3 = j % 3 := by omega
      rw [e2] at c
      have hb : bitP (phOf s m) (j % 3) = false := by
        cases h : bitP (phOf s m) (j % 3)
        · rfl
        · exact absurd ⟨by omega, by omega, h⟩ c
      rw [hb, pick_neg (by simp), pick_neg (by simp)]
    · have e : List.count (j / 3) [k] = 0 := by
        rw [List.count_eq_zero]
        simpa using e1
      rw [List.count_append, e, Nat.add_zero]
theorem loadS_bd {s : GSite} {am : Nat → Int} {m : Nat} (h : ∀ c, c < m → 0 ≤ am c ∧ am c ≤ 80) (j : Nat) : 0 ≤ loadS s am m j ∧ loadS s am m j ≤ m * 80 := by
  unfold loadS
  constructor
  · refine S_nonneg (fun c hc => ?_)
    have := h c hc
    unfold pick
    split <;> omega
  · refine S_bound (fun c hc => ?_)
    have := h c hc
    unfold pick
    split <;> omega
theorem loadM_bd {s : GSite} {am : Nat → Int} {m : Nat} (h : ∀ c, c < m + 1 → 0 ≤ am c ∧ am c ≤ 80) (pre : List Nat) (j : Nat) : 0 ≤ loadM s am m pre j ∧ loadM s am m pre j ≤ m * 80 + pre.length * 80 := by
  have h1 := loadS_bd (s := s) (am := am) (m := m) (fun c hc => h c (by omega)) j
  have h2 := h m (by omega)
  have h3 : pre.count (j / 3) ≤ pre.length := List.count_le_length
  have h4 : 0 ≤ ((pre.count (j / 3) : Nat) : Int) * am m := Int.mul_nonneg (by omega) h2.1
  have h5 : ((pre.count (j / 3) : Nat) : Int) * am m ≤ pre.length * 80 := by
    have a1 : ((pre.count (j / 3) : Nat) : Int) * am m ≤ ((pre.count (j / 3) : Nat) : Int) * 80 := Int.mul_le_mul_of_nonneg_left h2.2 (by omega)
    omega
  unfold loadM pick
  split <;> omega
/-- The numbers are currents of all chargers. -/
def curB (s : GSite) (xs : List Int) : Bool := decide (xs.length = s.chgs.length) && xs.all (fun a => decide (0 ≤ a ∧ a ≤ 80))
noncomputable def loadB (s : GSite) (xs : List Int) : Bool := okSB keyL s && curB s xs
theorem curB_iff {s : GSite} {xs : List Int} : curB s xs = true ↔ (xs.length = s.chgs.length ∧ ∀ i, i < xs.length → 0 ≤ fI xs i ∧ fI xs i ≤ 80) := by
  unfold curB
  simp only [Bool.and_eq_true, decide_eq_true_eq, List.all_eq_true]
  constructor
  · rintro ⟨h1, h2⟩
    refine ⟨h1, fun i hi => ?_⟩
    have := h2 xs[i] (List.getElem_mem hi)
    unfold fI
    rw [List.getElem?_eq_getElem hi]
    exact this
  · rintro ⟨h1, h2⟩
    refine ⟨h1, fun a ha => ?_⟩
    obtain ⟨i, hi, e⟩ := List.getElem_of_mem ha
    have := h2 i hi
    unfold fI at this
    rw [List.getElem?_eq_getElem hi] at this
    rw [← e]
    exact this
theorem loadB_no1 {s : GSite} {xs : List Int} (h : okSB keyL s = false) : loadB s xs = false := by unfold loadB; rw [h]; rfl
theorem loadB_no2 {s : GSite} {xs : List Int} (h : curB s xs = false) : loadB s xs = false := by unfold loadB; rw [h, Bool.and_false]
theorem loadB_yes {s : GSite} {xs : List Int} (h : okSB keyL s = true) (h2 : curB s xs = true) : loadB s xs = true := by unfold loadB; rw [h, h2]; rfl
theorem curB_no1 {s : GSite} {xs : List Int} (h : xs.length ≠ s.chgs.length) : curB s xs = false := by
  cases e : curB s xs
  · rfl
  · exact absurd (curB_iff.1 e).1 h
theorem curB_no2 {s : GSite} {xs : List Int} {i : Nat} (hi : i < xs.length) (h : ¬ (0 ≤ fI xs i ∧ fI xs i ≤ 80)) : curB s xs = false := by
  cases e : curB s xs
  · rfl
  · exact absurd ((curB_iff.1 e).2 i hi) h
abbrev R3 : Type := Int × Int × Int
def enc3 (r : R3) : List Value := [.int .i64 r.1, .int .i64 r.2.1, .int .i64 r.2.2]
def row3 (f : Nat → Int) (k : Nat) : R3 := (f (k * 3), f (k * 3 + 1), f (k * 3 + 2))
/-- All loads, conductor by conductor. -/
def loadsOf (s : GSite) (xs : List Int) : List R3 := (List.range s.cons.length).map (row3 (loadS s (fI xs) s.chgs.length))
noncomputable def loadsO (s : GSite) (xs : List Int) : List R3 := if loadB s xs = true then loadsOf s xs else []
theorem loadsO_no {s : GSite} {xs : List Int} (h : loadB s xs = false) : loadsO s xs = [] := by unfold loadsO; rw [h]; rfl
theorem loadsO_yes {s : GSite} {xs : List Int} (h : loadB s xs = true) : loadsO s xs = loadsOf s xs := by unfold loadsO; rw [if_pos h]
theorem loadsOf_len (s : GSite) (xs : List Int) : (loadsOf s xs).length = s.cons.length := by unfold loadsOf; simp
theorem loadsOf_at {s : GSite} {xs : List Int} {k : Nat} (hk : k < s.cons.length) : (loadsOf s xs)[k]? = some (row3 (loadS s (fI xs) s.chgs.length) k) := by
  unfold loadsOf
  rw [List.getElem?_map, List.getElem?_range hk]
  rfl
/-- The cells of a list of loads, read. -/
theorem Own.rd3 {w : World} {g : Nat} {t : TypeId} {n : Nat} {f : Nat → Int} (h : Own w g t (n * 3) (fun i => .int .i64 (f i))) : Rd 3 enc3 w (some ⟨g, 0, none⟩) ((List.range n).map (row3 f)) := by
  refine h.rd (by simp) (fun x => rfl) (fun k x hx j v hv => ?_)
  rw [List.getElem?_map] at hx
  obtain ⟨k', hk', rfl⟩ := Option.map_eq_some_iff.1 hx
  have e : k' = k := by
    have hlt : k < n := by
      have := (List.getElem?_eq_some_iff.1 hk').1
      simpa using this
    rw [List.getElem?_range hlt] at hk'
    injection hk' with hk'
    exact hk'.symm
  subst e
  match j, hv with
  | 0, hv => simp [enc3, row3] at hv; rw [← hv]; rfl
  | 1, hv => simp [enc3, row3] at hv; rw [← hv]
  | 2, hv => simp [enc3, row3] at hv; rw [← hv]
  | j + 3, hv => simp [enc3] at hv
end Go.Proofs.YtpkonifeieepfaaGreat
/-
A region whose order is drawn, inside a round of a wide fence, where all operations but a last few are still, and those come up in one order.
-/
namespace Go.Proofs.YtpkonifeieepfaaGreat
theorem wpIn_region_still_tail {P : Program} {lp m id : Nat} {Q : Exit → Act → World → Prop} {a : Act} {w : World} {l : List Oper} (n : Nat) (hm : P.follows .mixedOrders = true) (hp : (l.toArray.all fun o => noDefer o.op) = true) (hB : Region.lexTailB .any l.toArray n = true)
    (h : wpStill P l.toArray { w with drawn := w.drawn + 1 } (fun a' => wpList P l.toArray (fun e a' w' => e = .normal ∧ Q .normal a' w') (l.drop n) a' { w with drawn := w.drawn + 1 }) (l.take n) a) : (Code.region id l.toArray true).wpIn (Fence.wide.inRound lp) m P Q a w := by
  simp only [Region.lexTailB, Bool.and_eq_true, decide_eq_true_eq] at hB
  obtain ⟨⟨⟨⟨hsel, hn⟩, hs⟩, hc⟩, hlex⟩ := hB
  have hn' : n < l.length := by simpa using hn
  have htl : (l.take n).length = n := by simp; omega
  have hdl : (l.drop n).length = l.toArray.size - n := by simp
  have inv0 : HeadInv .any l.toArray n (Array.replicate l.toArray.size false) :=
    ⟨by simp, fun j oj _ hl => (by rw [getD_replicate_false] at hl; cases hl), fun t _ ht => getD_in (by simpa using ht) (getD_replicate_false _ _)⟩
  have H := wpAnyL_lex (md := .any) (g := l.toArray.size - n) hsel hs hc hn (l.take n) 0 _ a (fun j hj => by
    have hj' : j < n := by rw [htl] at hj; exact hj
    simp [hj']) (by simpa using htl) inv0 (by rw [htl]; exact hlex) h
  have hL : ¬ LetsOut (fun (e : Exit) (a' : Act) (w' : World) => e = .normal ∧ Q .normal a' w') := fun ⟨_, _, h, _⟩ => by cases h
  have H2 := wpAny_of_head (Q' := fun e a' w' => e = .normal ∧ Q .normal a' w') (g := l.toArray.size - n) (fun listed a' hL => by
    have := wpAny_of_seq (md := .any) (Q' := fun e a' w' => e = .normal ∧ Q .normal a' w') (l.drop n) n listed a' { w with drawn := w.drawn + 1 } (fun j => by simp [List.getElem?_drop]) (by rw [hdl]; exact hL.1) hL.2
    rwa [hdl] at this) _ _ _ H
  rw [htl, show n + (l.toArray.size - n) = l.toArray.size by omega] at H2
  have h1 : (Code.region id l.toArray true).wpIn (Fence.wide.inRound lp) m P (fun (e : Exit) (a' : Act) (w' : World) => e = .normal ∧ Q .normal a' w') a w := wpIn_region_any hm (any_wide hp hL _ _ _ _ H2)
  refine wpIn_mono h1 ?_
  rintro e a' w' ⟨rfl, h2⟩
  exact h2
end Go.Proofs.YtpkonifeieepfaaGreat
/-
tree.Loads.
-/
namespace Go.Proofs.YtpkonifeieepfaaGreat
open Go.RowKit Go.Shelf
attribute [local go_sem] Oper.semAt_some
set_option linter.unusedVariables false
set_option linter.unusedSimpArgs false
def findLoopT (n : Nat) : Code → Option Code
  | .loop c => if (findRegion n c).isSome then some c else none
  | .seq a b => match findLoopT n a with
    | some c => some c
    | none => findLoopT n b
  | .block _ c => findLoopT n c
  | .scope c => findLoopT n c
  | .cond _ a b => match findLoopT n a with
    | some c => some c
    | none => findLoopT n b
  | _ => none
noncomputable def ldBody : Code := ((Tryz.f18.body.bind (findLoopT 11)).getD .skip)
/-- The memory of Loads: the boxes of the site and of the currents, the list of loads and its cell. -/
structure LdM (w W : World) (a1 : Option Addr) (n1 c1 : Nat) (a2 : Option Addr) (n2 c2 : Nat) (a3 : Option Addr) (n3 c3 : Nat) (a4 : Option Addr) (n4 c4 : Nat) (a5 : Option Addr) (n5 c5 : Nat) (aA : Option Addr) (nA cA : Nat) (g0 : Nat) (f : Nat → Int) : Prop where
  k0 : W.cell? ⟨w.heap.size, 0, none⟩ = some (.slice a1 n1 c1)
  k1 : W.cell? ⟨w.heap.size, 1, none⟩ = some (.slice a2 n2 c2)
  k2 : W.cell? ⟨w.heap.size, 2, none⟩ = some (.slice a3 n3 c3)
  k3 : W.cell? ⟨w.heap.size, 3, none⟩ = some (.slice a4 n4 c4)
  k4 : W.cell? ⟨w.heap.size, 4, none⟩ = some (.slice a5 n5 c5)
  ka : W.cell? ⟨w.heap.size + 1, 0, none⟩ = some (.slice aA nA cA)
  kl : Own W (g0 + 1) 32 1 (fun _ => .slice (some ⟨g0, 0, none⟩) n1 n1)
  og : Own W g0 38 (n1 * 3) (fun j => .int .i64 (f j))
  bel : Below w.heap.size w W
  lg : w.heap.size + 2 ≤ g0
theorem LdM.nc {w W W' : World} {a1 : Option Addr} {n1 c1 : Nat} {a2 : Option Addr} {n2 c2 : Nat} {a3 : Option Addr} {n3 c3 : Nat} {a4 : Option Addr} {n4 c4 : Nat} {a5 : Option Addr} {n5 c5 : Nat} {aA : Option Addr} {nA cA : Nat} {g0 : Nat} {f : Nat → Int} (h : LdM w W a1 n1 c1 a2 n2 c2 a3 n3 c3 a4 n4 c4 a5 n5 c5 aA nA cA g0 f) {B : Nat} (hn : Nc B W W') (hB : w.heap.size ≤ B) : LdM w W' a1 n1 c1 a2 n2 c2 a3 n3 c3 a4 n4 c4 a5 n5 c5 aA nA cA g0 f :=
  ⟨cell_nc1 h.k0 hn, cell_nc1 h.k1 hn, cell_nc1 h.k2 hn, cell_nc1 h.k3 hn, cell_nc1 h.k4 hn, cell_nc1 h.ka hn, h.kl.nc hn, h.og.nc hn, below_nc h.bel (Nat.le_refl _) hn hB, h.lg⟩
theorem LdM.keep {w W W' : World} {a1 : Option Addr} {n1 c1 : Nat} {a2 : Option Addr} {n2 c2 : Nat} {a3 : Option Addr} {n3 c3 : Nat} {a4 : Option Addr} {n4 c4 : Nat} {a5 : Option Addr} {n5 c5 : Nat} {aA : Option Addr} {nA cA : Nat} {g0 : Nat} {f : Nat → Int} (h : LdM w W a1 n1 c1 a2 n2 c2 a3 n3 c3 a4 n4 c4 a5 n5 c5 aA nA cA g0 f) (hb : Below W.heap.size W W') : LdM w W' a1 n1 c1 a2 n2 c2 a3 n3 c3 a4 n4 c4 a5 n5 c5 aA nA cA g0 f := by
  have l0 := World.block_lt_of_cell? W _ h.k0
  have la := World.block_lt_of_cell? W _ h.ka
  dsimp only at l0 la
  exact ⟨(hb.cell (p := ⟨w.heap.size, 0, none⟩) l0).trans h.k0, (hb.cell (p := ⟨w.heap.size, 1, none⟩) l0).trans h.k1, (hb.cell (p := ⟨w.heap.size, 2, none⟩) l0).trans h.k2, (hb.cell (p := ⟨w.heap.size, 3, none⟩) l0).trans h.k3, (hb.cell (p := ⟨w.heap.size, 4, none⟩) l0).trans h.k4, (hb.cell (p := ⟨w.heap.size + 1, 0, none⟩) la).trans h.ka, h.kl.keep hb h.kl.lt, h.og.keep hb h.og.lt, below_then h.bel hb, h.lg⟩
theorem LdM.write {w W W' : World} {a1 : Option Addr} {n1 c1 : Nat} {a2 : Option Addr} {n2 c2 : Nat} {a3 : Option Addr} {n3 c3 : Nat} {a4 : Option Addr} {n4 c4 : Nat} {a5 : Option Addr} {n5 c5 : Nat} {aA : Option Addr} {nA cA : Nat} {g0 : Nat} {f f' : Nat → Int} (h : LdM w W a1 n1 c1 a2 n2 c2 a3 n3 c3 a4 n4 c4 a5 n5 c5 aA nA cA g0 f) (hm : Mod (fun j => j = g0) W W') (ho : Own W' g0 38 (n1 * 3) (fun j => .int .i64 (f' j))) : LdM w W' a1 n1 c1 a2 n2 c2 a3 n3 c3 a4 n4 c4 a5 n5 c5 aA nA cA g0 f' := by
  have l0 := World.block_lt_of_cell? W _ h.k0
  have la := World.block_lt_of_cell? W _ h.ka
  dsimp only at l0 la
  have hg := h.lg
  exact ⟨(hm.cell (p := ⟨w.heap.size, 0, none⟩) l0 (by dsimp only; omega)).trans h.k0, (hm.cell (p := ⟨w.heap.size, 1, none⟩) l0 (by dsimp only; omega)).trans h.k1, (hm.cell (p := ⟨w.heap.size, 2, none⟩) l0 (by dsimp only; omega)).trans h.k2, (hm.cell (p := ⟨w.heap.size, 3, none⟩) l0 (by dsimp only; omega)).trans h.k3, (hm.cell (p := ⟨w.heap.size, 4, none⟩) l0 (by dsimp only; omega)).trans h.k4, (hm.cell (p := ⟨w.heap.size + 1, 0, none⟩) la (by dsimp only; omega)).trans h.ka, h.kl.mod hm (by omega), ho, h.bel.trans (hm.below h.bel.size (fun j _ hj => by omega)), h.lg⟩
theorem LdM.fun {w W : World} {a1 : Option Addr} {n1 c1 : Nat} {a2 : Option Addr} {n2 c2 : Nat} {a3 : Option Addr} {n3 c3 : Nat} {a4 : Option Addr} {n4 c4 : Nat} {a5 : Option Addr} {n5 c5 : Nat} {aA : Option Addr} {nA cA : Nat} {g0 : Nat} {f f' : Nat → Int} (h : LdM w W a1 n1 c1 a2 n2 c2 a3 n3 c3 a4 n4 c4 a5 n5 c5 aA nA cA g0 f) (e : ∀ j, f j = f' j) : LdM w W a1 n1 c1 a2 n2 c2 a3 n3 c3 a4 n4 c4 a5 n5 c5 aA nA cA g0 f' := by
  have : f = f' := funext e
  rw [← this]; exact h
theorem Own.cellsAt {w : World} {g : Nat} {t : TypeId} {n : Nat} {f : Nat → Value} (h : Own w g t n f) {o : Obj} (ho : w.heap[g]? = some o) : o.isCells = true := by
  obtain ⟨cs, hb, _, _⟩ := h
  rw [hb] at ho
  cases ho
  rfl
theorem keepsFrom_mod1 {M : Nat → Prop} {W W' : World} (h : Mod M W W') (B : Nat) (hM : ∀ k, M k → ∀ o, W.heap[k]? = some o → o.isCells = true) : KeepsFrom B W W' :=
  ⟨h.size, fun k o _ hk ho => (h.block k (Array.getElem?_eq_some_iff.1 hk).1 (fun hm => by have := hM k hm o hk; rw [ho] at this; cases this)).trans hk⟩
theorem Marks.below1 {B : Nat} {W W' : World} {ds : List Deferred} (h : Marks B W ds) (hb : Below W.heap.size W W') : Marks B W' ds :=
  h.keeps ⟨hb.size, fun k o _ hk _ => by
    have hl : k < W.heap.size := (Array.getElem?_eq_some_iff.1 hk).1
    rw [hb.block k hl]; exact hk⟩
/-- Marks that lie below m0. -/
def MarksB (B m0 : Nat) (W : World) (ds : List Deferred) : Prop := Marks B W ds ∧ ∀ d, d ∈ ds → ∃ D, d.target = .collected D ∧ D < m0
theorem MarksB.nc {B m0 : Nat} {W W' : World} {ds : List Deferred} (h : MarksB B m0 W ds) (hn : Nc m0 W W') : MarksB B m0 W' ds := by
  obtain ⟨⟨Ds, e, hd, hD⟩, hl⟩ := h
  obtain ⟨row, hg, hr⟩ := hn
  refine ⟨⟨Ds, e, hd, fun D hm => ⟨(hD D hm).1, Nat.lt_of_lt_of_le (hD D hm).2.1 hg.size, ?_⟩⟩, hl⟩
  rw [hg.block D (hD D hm).2.1 ?_]
  · exact (hD D hm).2.2
  · intro e2
    have h1 := (hr D e2.symm).1
    obtain ⟨D', e3, h3⟩ := hl ⟨.collected D, #[]⟩ (by rw [e]; exact List.mem_map.2 ⟨D, hm, rfl⟩)
    injection e3 with e3
    omega
theorem marks_snoc {B m0 : Nat} {W : World} {ds : List Deferred} {D : Nat} (h : MarksB B m0 W ds) (hD : m0 ≤ D) (hB : B ≤ D) (hd : W.heap[D]? = some (.deferred (some []))) : Marks B W ({ target := .collected D, args := #[] } :: ds) := by
  obtain ⟨⟨Ds, e, hn, hm⟩, hl⟩ := h
  refine ⟨D :: Ds, by rw [e]; rfl, List.nodup_cons.2 ⟨fun hx => ?_, hn⟩, fun D' hm' => ?_⟩
  · obtain ⟨D', e3, h3⟩ := hl ⟨.collected D, #[]⟩ (by rw [e]; exact List.mem_map.2 ⟨D, hx, rfl⟩)
    injection e3 with e3
    omega
  · rcases List.mem_cons.1 hm' with rfl | hm'
    · exact ⟨hB, (Array.getElem?_eq_some_iff.1 hd).1, hd⟩
    · exact hm D' hm'
/-- What holds between two conductors of a charger's way: X is the box of the charger's number, X + 1 that of the charger. -/
def LdI (w : World) (a1 : Option Addr) (n1 c1 : Nat) (a2 : Option Addr) (n2 c2 : Nat) (a3 : Option Addr) (n3 c3 : Nat) (a4 : Option Addr) (n4 c4 : Nat) (a5 : Option Addr) (n5 c5 : Nat) (aA : Option Addr) (nA cA : Nat) (g0 X m0 B i : Nat) (ph : Int) (f : Nat → Int) (ds : List Deferred) (W : World) : Prop :=
  LdM w W a1 n1 c1 a2 n2 c2 a3 n3 c3 a4 n4 c4 a5 n5 c5 aA nA cA g0 f ∧ W.cell? ⟨X, 0, none⟩ = some (.int .i64 (i : Nat)) ∧ W.cell? ⟨X + 1, 2, none⟩ = some (.int .i64 ph) ∧ MarksB B m0 W ds ∧ m0 ≤ W.heap.size
theorem LdI.nc {w W W' : World} {a1 : Option Addr} {n1 c1 : Nat} {a2 : Option Addr} {n2 c2 : Nat} {a3 : Option Addr} {n3 c3 : Nat} {a4 : Option Addr} {n4 c4 : Nat} {a5 : Option Addr} {n5 c5 : Nat} {aA : Option Addr} {nA cA : Nat} {g0 X m0 B i : Nat} {ph : Int} {f : Nat → Int} {ds : List Deferred} (h : LdI w a1 n1 c1 a2 n2 c2 a3 n3 c3 a4 n4 c4 a5 n5 c5 aA nA cA g0 X m0 B i ph f ds W) (hn : Nc m0 W W') (hB : w.heap.size ≤ m0) : LdI w a1 n1 c1 a2 n2 c2 a3 n3 c3 a4 n4 c4 a5 n5 c5 aA nA cA g0 X m0 B i ph f ds W' := by
  obtain ⟨a, b, c, d, e⟩ := h
  refine ⟨a.nc hn hB, cell_nc1 b hn, cell_nc1 c hn, d.nc hn, ?_⟩
  obtain ⟨row, hg, _⟩ := hn
  exact Nat.le_trans e hg.size
/-- The frame in which the body begins. -/
def LdA (w : World) (g0 X k : Nat) (a' : Act) : Prop := ∃ u0 u1 u4 u5 u6 u7 u12 u13 u14 u15 u16 u17 u18 u19 u20 u21 u22 u23 u24 u25 u26 u27 u28 u29 u30 u31 u32 u33 u34 u35 u36 u37 u38 u39 u40 u41 u42 u43 u44 u45 u46 u47 u48 u49 u50 u51 u52 u53 u54 u55 u56 u57 u58 u59 u60 u61 u62 u63 u64 : Value, a' = ⟨List.toArray (u0 :: u1 :: (.pointer (some ⟨w.heap.size, 0, none⟩)) :: (.pointer (some ⟨w.heap.size + 1, 0, none⟩)) :: u4 :: u5 :: u6 :: u7 :: (.pointer (some ⟨g0 + 1, 0, none⟩)) :: (.pointer (some ⟨X, 0, none⟩)) :: (.pointer (some ⟨X + 1, 0, none⟩)) :: (.int .i64 (k : Nat)) :: u12 :: u13 :: u14 :: u15 :: u16 :: u17 :: u18 :: u19 :: u20 :: u21 :: u22 :: u23 :: u24 :: u25 :: u26 :: u27 :: u28 :: u29 :: u30 :: u31 :: u32 :: u33 :: u34 :: u35 :: u36 :: u37 :: u38 :: u39 :: u40 :: u41 :: u42 :: u43 :: u44 :: u45 :: u46 :: u47 :: u48 :: u49 :: u50 :: u51 :: u52 :: u53 :: u54 :: u55 :: u56 :: u57 :: u58 :: u59 :: u60 :: u61 :: u62 :: u63 :: u64 :: []), []⟩
set_option maxRecDepth 100000 in
set_option maxHeartbeats 4000000 in
theorem ld_round (w W : World) (a1 : Option Addr) (n1 c1 : Nat) (a2 : Option Addr) (n2 c2 : Nat) (a3 : Option Addr) (n3 c3 : Nat) (a4 : Option Addr) (n4 c4 : Nat) (a5 : Option Addr) (n5 c5 : Nat) (aA : Option Addr) (nA cA : Nat) (g0 B i : Nat) (s : GSite) (xs : List Int) (ds : List Deferred) (R : Act → World → Prop) (Q0 : Exit → Act → World → Prop)
  (HS : Hid (RdSite w a1 a2 a3 a4 a5 n1 n2 n3 n4 n5 s)) (HOK : Hid (OkSite keyL s)) (HX : Hid (Rd 1 encI w aA xs)) (HA : Hid (xs.length = s.chgs.length ∧ ∀ i, i < xs.length → 0 ≤ fI xs i ∧ fI xs i ≤ 80)) (HNA : Hid (xs.length = nA)) (hi : i < n4)
  (HM : Hid (LdM w W a1 n1 c1 a2 n2 c2 a3 n3 c3 a4 n4 c4 a5 n5 c5 aA nA cA g0 (loadS s (fI xs) i))) (hmk : Marks B W ds) (hB : w.heap.size ≤ B) (hBW : B ≤ W.heap.size) (u0 u1 u4 u5 u6 u7 u9 u10 u11 u12 u13 u14 u15 u16 u17 u18 u19 u20 u21 u22 u23 u24 u25 u26 u27 u28 u29 u30 u31 u32 u33 u34 u35 u36 u37 u38 u39 u40 u44 u45 u46 u47 u48 u49 u50 u51 u52 u53 u54 u55 u56 u57 u58 u59 u60 u61 u62 u63 u64 : Value)
  (HK : Hid (∀ (W' : World) (D : Nat) (u0 u1 u4 u5 u6 u7 u9 u10 u11 u12 u13 u14 u15 u16 u17 u18 u19 u20 u21 u22 u23 u24 u25 u26 u27 u28 u29 u30 u31 u32 u33 u34 u35 u36 u37 u38 u39 u40 u44 u45 u46 u47 u48 u49 u50 u51 u52 u53 u54 u55 u56 u57 u58 u59 u60 u61 u62 u63 u64 : Value), LdM w W' a1 n1 c1 a2 n2 c2 a3 n3 c3 a4 n4 c4 a5 n5 c5 aA nA cA g0 (loadS s (fI xs) (i + 1)) → Marks B W' ({ target := .collected D, args := #[] } :: ds) → B ≤ W'.heap.size → R ⟨List.toArray (u0 :: u1 :: (.pointer (some ⟨w.heap.size, 0, none⟩)) :: (.pointer (some ⟨w.heap.size + 1, 0, none⟩)) :: u4 :: u5 :: u6 :: u7 :: (.pointer (some ⟨g0 + 1, 0, none⟩)) :: u9 :: u10 :: u11 :: u12 :: u13 :: u14 :: u15 :: u16 :: u17 :: u18 :: u19 :: u20 :: u21 :: u22 :: u23 :: u24 :: u25 :: u26 :: u27 :: u28 :: u29 :: u30 :: u31 :: u32 :: u33 :: u34 :: u35 :: u36 :: u37 :: u38 :: u39 :: u40 :: (.slice a4 n4 c4) :: (.int .i64 (n4 : Nat)) :: (.int .i64 ((i : Int) + 1)) :: u44 :: u45 :: u46 :: u47 :: u48 :: u49 :: u50 :: u51 :: u52 :: u53 :: u54 :: u55 :: u56 :: u57 :: u58 :: u59 :: u60 :: u61 :: u62 :: u63 :: u64 :: []), { target := .collected D, args := #[] } :: ds⟩ W')) :
  Code.wp Tryz.prog ldBody (Exit.then R Q0) ⟨List.toArray (u0 :: u1 :: (.pointer (some ⟨w.heap.size, 0, none⟩)) :: (.pointer (some ⟨w.heap.size + 1, 0, none⟩)) :: u4 :: u5 :: u6 :: u7 :: (.pointer (some ⟨g0 + 1, 0, none⟩)) :: u9 :: u10 :: u11 :: u12 :: u13 :: u14 :: u15 :: u16 :: u17 :: u18 :: u19 :: u20 :: u21 :: u22 :: u23 :: u24 :: u25 :: u26 :: u27 :: u28 :: u29 :: u30 :: u31 :: u32 :: u33 :: u34 :: u35 :: u36 :: u37 :: u38 :: u39 :: u40 :: (.slice a4 n4 c4) :: (.int .i64 (n4 : Nat)) :: (.int .i64 (i : Nat)) :: u44 :: u45 :: u46 :: u47 :: u48 :: u49 :: u50 :: u51 :: u52 :: u53 :: u54 :: u55 :: u56 :: u57 :: u58 :: u59 :: u60 :: u61 :: u62 :: u63 :: u64 :: []), ds⟩ W := by
  obtain ⟨m1, m2, m3, m4, m5⟩ : n1 ≤ 9223372036854775807 ∧ n2 ≤ 9223372036854775807 ∧ n3 ≤ 9223372036854775807 ∧ n4 ≤ 9223372036854775807 ∧ n5 ≤ 9223372036854775807 := ⟨HS.out.m1, HS.out.m2, HS.out.m3, HS.out.m4, HS.out.m5⟩
  have hi4 : i < s.chgs.length := by rw [HS.out.l4]; exact hi
  have hcl : s.cons.length = n1 := HS.out.l1
  have hn16 : n1 ≤ 16 := by have := HOK.out.n2; omega
  have hn4 : n4 ≤ 16 := by have := HOK.out.n6; have := HOK.out.n5; have := HS.out.l4; omega
  have hwW := HM.out.bel.size
  obtain ⟨b, off, g, hA4, hbl, hgx, d0, d1, d2, d3, d4, d5, d6, d7⟩ := rdChg_at HS.out.r4 hi4
  obtain ⟨p1, p2, p3⟩ := HOK.out.place hgx
  have HP3 := Lib.hid p3
  have hpn : placeOf s i < s.cons.length := by omega
  have hph : phOf s i = g.ph := by unfold phOf; rw [hgx]; rfl
  have hphb : 1 ≤ g.ph ∧ g.ph ≤ 7 := by
    have h1 := HOK.out.chg g (List.mem_of_getElem? hgx)
    unfold okChg at h1
    simp only [decide_eq_true_eq] at h1
    exact h1.2.2.1
  have HPH := Lib.hid hph
  have hiA : i < xs.length := by rw [HA.out.1]; exact hi4
  obtain ⟨ba, oa, hAA, hba, hax⟩ := HX.out.int hiA
  have hax1 : w.cell? ⟨ba, oa + i, none⟩ = some (.int .i64 (fI xs i)) := hax
  have hab := HA.out.2 i hiA
  have HA1 : Hid (∀ a, a1 = some a → a.block < w.heap.size) := Lib.hid (fun a ha => by
    obtain ⟨b', off', hA', hb', _⟩ := HS.out.r1 (by have := HOK.out.n1; omega)
    rw [hA'] at ha
    cases ha
    exact hb')
  subst hA4 hAA
  have e0 := (HM.out.bel.cell (p := ⟨b, off + i * 8, none⟩) hbl).trans d0
  have e1 := (HM.out.bel.cell (p := ⟨b, off + i * 8 + 1, none⟩) hbl).trans d1
  have e2 := (HM.out.bel.cell (p := ⟨b, off + i * 8 + 2, none⟩) hbl).trans d2
  have e3 := (HM.out.bel.cell (p := ⟨b, off + i * 8 + 3, none⟩) hbl).trans d3
  have e4 := (HM.out.bel.cell (p := ⟨b, off + i * 8 + 4, none⟩) hbl).trans d4
  have e5 := (HM.out.bel.cell (p := ⟨b, off + i * 8 + 5, none⟩) hbl).trans d5
  have e6 := (HM.out.bel.cell (p := ⟨b, off + i * 8 + 6, none⟩) hbl).trans d6
  have e7 := (HM.out.bel.cell (p := ⟨b, off + i * 8 + 7, none⟩) hbl).trans d7
  clear d0 d1 d2 d3 d4 d5 d6 d7 hax hgx p1 p2 p3 hph
  have hbW : b < W.heap.size := by omega
  have hiz : (i : Int) < (n4 : Int) := by omega
  obtain ⟨k0, k1, k2, k3, k4⟩ : W.cell? ⟨w.heap.size, 0, none⟩ = some (.slice a1 n1 c1) ∧ W.cell? ⟨w.heap.size, 1, none⟩ = some (.slice a2 n2 c2) ∧ W.cell? ⟨w.heap.size, 2, none⟩ = some (.slice a3 n3 c3) ∧ W.cell? ⟨w.heap.size, 3, none⟩ = some (.slice (some ⟨b, off, none⟩) n4 c4) ∧ W.cell? ⟨w.heap.size, 4, none⟩ = some (.slice a5 n5 c5) := ⟨HM.out.k0, HM.out.k1, HM.out.k2, HM.out.k3, HM.out.k4⟩
  have l0 : w.heap.size < W.heap.size := World.block_lt_of_cell? W _ k0
  conv => arg 2; whnf
  go_wp2_with fail
  obtain ⟨Wc, hWc⟩ : ∃ Wc, Wc = (W.alloc (.cells #[.int .i64 i] 3)).alloc (.cells #[.string g.name, .int .i64 g.place, .int .i64 g.ph, .int .i64 g.mn, .int .i64 g.mx, .int .i64 g.step, .int .i64 g.fb, .int .i64 g.own] 45) := ⟨_, rfl⟩
  have bwc : Below W.heap.size W Wc := by rw [hWc]; exact ((Below.refl _ W).alloc (Nat.le_refl _) _).alloc (by simp) _
  have x0 : Wc.cell? ⟨W.heap.size, 0, none⟩ = some (.int .i64 i) := by rw [hWc]; go_simp
  have x1 : Wc.cell? ⟨W.heap.size + 1, 2, none⟩ = some (.int .i64 g.ph) := by rw [hWc]; go_simp
  have hsc : Wc.heap.size = W.heap.size + 2 := by rw [hWc]; simp
  rw [← hWc]
  clear hWc
  refine (trWay_any a1 a2 a3 (some ⟨b, off, none⟩) a5 n1 c1 n2 c2 n3 c3 n4 c4 n5 c5 g.place Wc).mono ?_
  rintro e w2 ⟨rfl, hw2⟩
  have bw2 : Below Wc.heap.size Wc w2 := by rw [hw2]; exact ((Below.refl _ Wc).alloc (Nat.le_refl _) _).alloc (by simp) _
  have z0 : w2.cell? ⟨Wc.heap.size + 1, 0, none⟩ = some (.int .i64 ((placeOf s i : Nat) : Int)) := by rw [hw2, HP3.out]; go_simp
  have z1 : w2.cell? ⟨Wc.heap.size, 0, none⟩ = some (.slice a1 n1 c1) := by rw [hw2]; go_simp
  have y0 := (bw2.cell (p := ⟨W.heap.size, 0, none⟩) (by dsimp only; omega)).trans x0
  have y1 := (bw2.cell (p := ⟨W.heap.size + 1, 2, none⟩) (by dsimp only; omega)).trans x1
  have hs2 : w2.heap.size = W.heap.size + 4 := by rw [hw2, World.size_alloc, World.size_alloc, hsc]
  have bw := bwc.trans (bw2.mono (by omega))
  have HM2 := Lib.hid (HM.out.keep bw)
  have HMK : Hid (MarksB B w2.heap.size w2 ds) := Lib.hid ⟨hmk.below1 bw, fun d hd => by
    obtain ⟨Ds, e, _, hD⟩ := hmk
    rw [e] at hd
    obtain ⟨D, hm, rfl⟩ := List.mem_map.1 hd
    exact ⟨D, rfl, by have := (hD D hm).2.1; omega⟩⟩
  have hR2 := HS.out.r1.keep (below_then HM.out.bel bw)
  obtain ⟨X, hX⟩ : ∃ X, X = W.heap.size := ⟨_, rfl⟩
  rw [← hX] at y0 y1 hsc hs2 ⊢
  rw [hsc] at z0 z1 ⊢
  have hg2 : g0 + 1 < X := by have := HM.out.kl.lt; omega
  have hBX : B ≤ X := by omega
  have HX1 := Lib.hid hX
  clear hw2 bw2 bwc x0 x1 HM bw hmk hX k0 k1 k2 k3 k4 e0 e1 e2 e3 e4 e5 e6 e7
  have Hsz := Lib.hid (And.intro hsc hs2)
  clear hsc hs2
  go_wp2_with fail
  refine range_way HOK.out.ups hpn hcl (by omega) (g := .tmp 51) (p := 52) (X + 2 + 1) (X + 2) w.heap.size rfl z0 z1 hR2 HA1.out (by have := Hsz.out; omega) (fun pre W' => LdI w a1 n1 c1 a2 n2 c2 a3 n3 c3 (some ⟨b, off, none⟩) n4 c4 a5 n5 c5 (some ⟨ba, oa, none⟩) nA cA g0 X w2.heap.size B i g.ph (loadM s (fI xs) i (pre.map (fun (y : WayAt s.cons (placeOf s i)) => y.1))) ds W') (fun _ _ _ => False) ?hI (fun _ _ _ _ h _ => h) ?h0 (fun x a' => LdA w g0 X x.1 a') ?assign ?body ?done (fun _ _ _ _ _ _ h _ => h.elim)
  case hI => exact fun pre W' W'' h hn => h.nc hn (by have := Hsz.out; omega)
  case h0 => exact ⟨HM2.out.fun (fun j => (loadM_nil _ _ _ _).symm), y0, y1, HMK.out, Nat.le_refl _⟩
  case assign =>
    intro l x W1 K hK
    gi_wp2
    exact ⟨_, _, _, _, _, _, _, _, _, _, _, _, _, _, _, _, _, _, _, _, _, _, _, _, _, _, _, _, _, _, _, _, _, _, _, _, _, _, _, _, _, _, _, _, _, _, _, _, _, _, _, _, _, _, _, _, _, _, _, rfl⟩
  case body =>
    rintro l pre ⟨k, hk⟩ a' W1 ⟨m, x0, x1, mk, hs⟩ ⟨u0, u1, u4, u5, u6, u7, u12, u13, u14, u15, u16, u17, u18, u19, u20, u21, u22, u23, u24, u25, u26, u27, u28, u29, u30, u31, u32, u33, u34, u35, u36, u37, u38, u39, u40, u41, u42, u43, u44, u45, u46, u47, u48, u49, u50, u51, u52, u53, u54, u55, u56, u57, u58, u59, u60, u61, u62, u63, u64, rfl⟩ hlen
    dsimp only at hlen ⊢
    have hkn : k < n1 := by
      have := pth_le HOK.out.ups (placeOf s i) hpn k hk
      omega
    have hlen16 : pre.length ≤ 16 := by
      have := pth_len HOK.out.ups (placeOf s i) hpn
      omega
    have q8 := m.kl.cell (i := 0) (by omega)
    have qa := m.ka
    have qx := (m.bel.cell (p := ⟨ba, oa + i, none⟩) hba).trans hax1
    have hkz : (k : Int) < (n1 : Int) := by omega
    have hinA : i < nA := by rw [← HNA.out]; exact hiA
    have hinAz : (i : Int) < (nA : Int) := by omega
    have hogd : Own W1.drew g0 38 (n1 * 3) (fun j => .int .i64 (loadM s (fI xs) i (pre.map (fun (y : WayAt s.cons (placeOf s i)) => y.1)) j)) := m.og
    have HAd := Lib.hid (trAdd_any g0 k n1 (loadM s (fI xs) i (pre.map (fun (y : WayAt s.cons (placeOf s i)) => y.1))) g.ph (fI xs i) W1.drew hogd hkn hphb (fun j _ => by
      have h := loadM_bd (s := s) (am := fI xs) (m := i) (fun c hc => HA.out.2 c (by omega)) (pre.map (fun (y : WayAt s.cons (placeOf s i)) => y.1)) j
      rw [List.length_map] at h
      omega) hab)
    have Hm := Lib.hid m
    have Hmk := Lib.hid mk
    have Hx := Lib.hid (And.intro x0 x1)
    clear m mk hogd
    generalize hAM : fI xs i = am at *
    have HAM := Lib.hid hAM
    clear hAM
    gi_wp2
    refine wpIn_region_still_tail 9 (by kernel_rfl) (by kernel_rfl) (by kernel_rfl) ?_
    simp only [List.take_succ_cons, List.take_zero, List.drop_succ_cons, List.drop_zero]
    repeat still_step
    try refine wpStill_nil ?_
    change wpList _ _ _ _ _ W1.drew
    go_wp2_with fail
    refine HAd.out.mono ?_
    rintro e w' ⟨⟨v, rfl⟩, ho, hm⟩
    have hm1 : Mod (fun j => j = g0) W1 w' := (Mod.refl _ W1).drew.trans hm
    have m := Hm.out
    have mk := Hmk.out
    have hwx := Hsz.out
    have hgW : g0 < W1.heap.size := m.og.lt
    have hlg := m.lg
    have hbl1 : Below w.heap.size W1 w' := hm1.below m.bel.size (fun j _ hj => by omega)
    have hkf : ∀ B', KeepsFrom B' W1 w' := fun B' => keepsFrom_mod1 hm1 B' (fun q hq o hoo => by subst hq; exact m.og.cellsAt hoo)
    have HP : Hid (KeepsFrom w2.heap.size W1 w' ∧ KpW w.heap.size (X + 2) W1 w' ∧ LdI w a1 n1 c1 a2 n2 c2 a3 n3 c3 (some ⟨b, off, none⟩) n4 c4 a5 n5 c5 (some ⟨ba, oa, none⟩) nA cA g0 X w2.heap.size B i g.ph (loadM s (fI xs) i ((pre ++ [(⟨k, hk⟩ : WayAt s.cons (placeOf s i))]).map (fun (y : WayAt s.cons (placeOf s i)) => y.1))) ds w') := Lib.hid (by
      refine ⟨hkf _, ⟨hbl1, hm1.block _ (by omega) (by omega)⟩, ?_⟩
      refine ⟨(m.write hm1 ho).fun (fun j => ?_), (hm1.cell (p := ⟨X, 0, none⟩) (by dsimp only; omega) (by dsimp only; omega)).trans Hx.out.1, (hm1.cell (p := ⟨X + 1, 2, none⟩) (by dsimp only; omega) (by dsimp only; omega)).trans Hx.out.2, ⟨mk.1.keeps (hkf _), mk.2⟩, Nat.le_trans hs hm1.size⟩
      rw [List.map_append, ← HAM.out, ← HPH.out]
      exact loadM_step s (fI xs) i (pre.map (fun (y : WayAt s.cons (placeOf s i)) => y.1)) k j)
    clear m mk hm hm1 ho hkf hbl1
    go_wp2_with fail
    exact HP.out
  case done =>
    intro D ys W1 hD hS hm hdf
    obtain ⟨m, x0, x1, mk, hs⟩ := hm
    have hS' : ys.map (fun (y : WayAt s.cons (placeOf s i)) => y.1) = pth s.cons (placeOf s i : Nat) := hS
    rw [hS'] at m
    have HF := Lib.hid (m.fun (fun j => loadM_all s (fI xs) i j (pth_nodup HOK.out.ups hpn)))
    have HMk := Lib.hid (marks_snoc mk hD (by have := Hsz.out; omega) hdf)
    have hBW1 : B ≤ W1.heap.size := by have := Hsz.out; omega
    clear m x0 x1 mk hS hS' hdf
    go_wp2_with fail
    exact HK.out W1 D _ _ _ _ _ _ _ _ _ _ _ _ _ _ _ _ _ _ _ _ _ _ _ _ _ _ _ _ _ _ _ _ _ _ _ _ _ _ _ _ _ _ _ _ _ _ _ _ _ _ _ _ _ _ _ _ _ _ _ HF.out HMk.out hBW1
end Go.Proofs.YtpkonifeieepfaaGreat
/-
tree.Loads, the whole.
-/
namespace Go.Proofs.YtpkonifeieepfaaGreat
open Go.RowKit Go.Shelf
attribute [local go_sem] Oper.semAt_some
set_option linter.unusedVariables false
set_option linter.unusedSimpArgs false
/-- What holds at the head of each round. -/
def LdInv (w : World) (a1 : Option Addr) (n1 c1 : Nat) (a2 : Option Addr) (n2 c2 : Nat) (a3 : Option Addr) (n3 c3 : Nat) (a4 : Option Addr) (n4 c4 : Nat) (a5 : Option Addr) (n5 c5 : Nat) (aA : Option Addr) (nA cA : Nat) (g0 B : Nat) (s : GSite) (xs : List Int) (a : Act) (W : World) : Prop :=
  ∃ (i : Nat) (ds : List Deferred) (u0 u1 u4 u5 u6 u7 u9 u10 u11 u12 u13 u14 u15 u16 u17 u18 u19 u20 u21 u22 u23 u24 u25 u26 u27 u28 u29 u30 u31 u32 u33 u34 u35 u36 u37 u38 u39 u40 u44 u45 u46 u47 u48 u49 u50 u51 u52 u53 u54 u55 u56 u57 u58 u59 u60 u61 u62 u63 u64 : Value), i ≤ n4 ∧ LdM w W a1 n1 c1 a2 n2 c2 a3 n3 c3 a4 n4 c4 a5 n5 c5 aA nA cA g0 (loadS s (fI xs) i) ∧ Marks B W ds ∧ B ≤ W.heap.size ∧ a = ⟨List.toArray (u0 :: u1 :: (.pointer (some ⟨w.heap.size, 0, none⟩)) :: (.pointer (some ⟨w.heap.size + 1, 0, none⟩)) :: u4 :: u5 :: u6 :: u7 :: (.pointer (some ⟨g0 + 1, 0, none⟩)) :: u9 :: u10 :: u11 :: u12 :: u13 :: u14 :: u15 :: u16 :: u17 :: u18 :: u19 :: u20 :: u21 :: u22 :: u23 :: u24 :: u25 :: u26 :: u27 :: u28 :: u29 :: u30 :: u31 :: u32 :: u33 :: u34 :: u35 :: u36 :: u37 :: u38 :: u39 :: u40 :: (.slice a4 n4 c4) :: (.int .i64 (n4 : Nat)) :: (.int .i64 (i : Nat)) :: u44 :: u45 :: u46 :: u47 :: u48 :: u49 :: u50 :: u51 :: u52 :: u53 :: u54 :: u55 :: u56 :: u57 :: u58 :: u59 :: u60 :: u61 :: u62 :: u63 :: u64 :: []), ds⟩
def LdMu (n4 : Nat) (a : Act) (_ : World) : Nat := n4 - (intOf (a.tmps.getD 43 undef)).toNat
/-- What Loads does. -/
def LdPost (w : World) (s : GSite) (xs : List Int) (e : Ending) (w' : World) : Prop := ∃ a c, e = .returned (.tuple #[.slice a (loadsO s xs).length c, .int .i64 (errO (loadB s xs))]) ∧ Rd 3 enc3 w' a (loadsO s xs) ∧ Below w.heap.size w w'
/-- The same, with a list of the call's own. -/
def LdPostF (w : World) (s : GSite) (xs : List Int) (e : Ending) (w' : World) : Prop := ∃ a c, e = .returned (.tuple #[.slice a (loadsO s xs).length c, .int .i64 (errO (loadB s xs))]) ∧ Rd 3 enc3 w' a (loadsO s xs) ∧ (∀ x, a = some x → w.heap.size ≤ x.block ∧ x.block < w'.heap.size) ∧ Below w.heap.size w w'
theorem row3Info : (Tryz.prog.info? 38).map (fun i => (i.zero, i.size, i.bytes)) = some (some (.agg #[.int .i64 0, .int .i64 0, .int .i64 0]), 3, 24) := by kernel_rfl
theorem mk_rows3 (n : Nat) (h : n ≤ 1000000) (W : World) : ∃ W', (Instr.makeSlice 32 (.int .i64 n) (.int .i64 n)).run Tryz.prog W = .ok (.slice (some ⟨W.heap.size, 0, none⟩) n n) W' ∧ Own W' W.heap.size 38 (n * 3) (fun _ => .int .i64 0) ∧ Below W.heap.size W W' ∧ W'.heap.size = W.heap.size + 1 := by
  refine ⟨_, mk_row 32 38 _ 3 24 Tryz.underlying32 row3Info (n : Int) (by omega) (by omega) (by omega) W, ?_, (Below.refl _ W).alloc (Nat.le_refl _) _, by simp⟩
  have h := Own.made W 38 #[.int .i64 0, .int .i64 0, .int .i64 0] (n * 3)
  refine h.congr (fun i _ => ?_)
  have h3 : i % 3 = 0 ∨ i % 3 = 1 ∨ i % 3 = 2 := by omega
  rcases h3 with e | e | e <;> simp [e]
set_option maxRecDepth 100000 in
set_option maxHeartbeats 8000000 in
theorem trLoads_fresh (a1 : Option Addr) (n1 c1 : Nat) (a2 : Option Addr) (n2 c2 : Nat) (a3 : Option Addr) (n3 c3 : Nat) (a4 : Option Addr) (n4 c4 : Nat) (a5 : Option Addr) (n5 c5 : Nat) (aA : Option Addr) (nA cA : Nat) (s : GSite) (xs : List Int) (w : World) (HS : Hid (RdSite w a1 a2 a3 a4 a5 n1 n2 n3 n4 n5 s)) (HX : Hid (Rd 1 encI w aA xs)) (HNA : Hid (xs.length = nA)) (hnA : nA ≤ 9223372036854775807) :
    Calls Tryz.prog 18 #[.agg #[.slice a1 n1 c1, .slice a2 n2 c2, .slice a3 n3 c3, .slice a4 n4 c4, .slice a5 n5 c5], .slice aA nA cA] w fun e w' => LdPostF w s xs e w' := by
  obtain ⟨m1, m2, m3, m4, m5⟩ : n1 ≤ 9223372036854775807 ∧ n2 ≤ 9223372036854775807 ∧ n3 ≤ 9223372036854775807 ∧ n4 ≤ 9223372036854775807 ∧ n5 ≤ 9223372036854775807 := ⟨HS.out.m1, HS.out.m2, HS.out.m3, HS.out.m4, HS.out.m5⟩
  have hW0 : Below w.heap.size w ((w.alloc (.cells #[.slice a1 n1 c1, .slice a2 n2 c2, .slice a3 n3 c3, .slice a4 n4 c4, .slice a5 n5 c5] 28)).alloc (.cells #[.slice aA nA cA] 29)) := ((Below.refl _ w).alloc (Nat.le_refl _) _).alloc (by simp) _
  have HV := Lib.hid (stValid_any a1 a2 a3 a4 a5 n1 c1 n2 c2 n3 c3 n4 c4 n5 c5 s ((w.alloc (.cells #[.slice a1 n1 c1, .slice a2 n2 c2, .slice a3 n3 c3, .slice a4 n4 c4, .slice a5 n5 c5] 28)).alloc (.cells #[.slice aA nA cA] 29)) (Lib.hid (HS.out.keep hW0)))
  refine (callsIn_wide (n := 5)).1 ?_
  refine callsIn_of_wp_marks Tryz.func18 rfl trivial ?_ rfl
  refine wpIn_wide.2 ?_
  simp only [Tryz.ntmps18, List.size_toArray, List.length_cons, List.length_nil, Nat.reduceAdd, Nat.reduceSub, Array.replicate_succ, Array.replicate_zero, List.push_toArray, List.append_toArray, List.nil_append, List.cons_append]
  go_wp2_with fail
  refine HV.out.mono ?_
  rintro e w1 ⟨rfl, hb1⟩
  have hb : Below w.heap.size w w1 := below_then hW0 hb1
  have hs1 : w.heap.size + 2 ≤ w1.heap.size := by have := hb1.size; rw [World.size_alloc, World.size_alloc] at this; exact this
  have q0 : w1.cell? ⟨w.heap.size, 0, none⟩ = some (.slice a1 n1 c1) := (hb1.cell (p := ⟨w.heap.size, 0, none⟩) (by simp; omega)).trans (by go_simp)
  have q1 : w1.cell? ⟨w.heap.size, 1, none⟩ = some (.slice a2 n2 c2) := (hb1.cell (p := ⟨w.heap.size, 1, none⟩) (by simp; omega)).trans (by go_simp)
  have q2 : w1.cell? ⟨w.heap.size, 2, none⟩ = some (.slice a3 n3 c3) := (hb1.cell (p := ⟨w.heap.size, 2, none⟩) (by simp; omega)).trans (by go_simp)
  have q3 : w1.cell? ⟨w.heap.size, 3, none⟩ = some (.slice a4 n4 c4) := (hb1.cell (p := ⟨w.heap.size, 3, none⟩) (by simp; omega)).trans (by go_simp)
  have q4 : w1.cell? ⟨w.heap.size, 4, none⟩ = some (.slice a5 n5 c5) := (hb1.cell (p := ⟨w.heap.size, 4, none⟩) (by simp; omega)).trans (by go_simp)
  have qa : w1.cell? ⟨w.heap.size + 1, 0, none⟩ = some (.slice aA nA cA) := (hb1.cell (p := ⟨w.heap.size + 1, 0, none⟩) (by simp)).trans (by go_simp)
  have HB := Lib.hid hb
  clear hb hb1 HV hW0
  cases hok : okSB keyL s
  · have HN : Hid (loadB s xs = false) := Lib.hid (loadB_no1 hok)
    go_wp2_with fail
    refine leaves_marks (B := w.heap.size) [] _ (Marks.nil _ _) (fun W3 hT => ⟨_, results_tmp2 (t := 4) (u := 5) (by kernel_rfl) _ _ _, none, 0, by rw [HN.out, loadsO_no HN.out]; rfl, by rw [loadsO_no HN.out]; exact Rd.nil, fun x hx => (by cases hx), HB.out.trans (taken_below1 hT (Nat.le_refl _))⟩)
  have HOK := Lib.hid (okSB_iff.1 hok)
  by_cases hlen : nA = n4
  case neg =>
    have HN : Hid (loadB s xs = false) := Lib.hid (loadB_no2 (curB_no1 (by rw [HNA.out, HS.out.l4]; exact hlen)))
    have hlz : ¬ (nA : Int) = (n4 : Int) := by omega
    clear hok
    go_wp2_with fail
    refine leaves_marks (B := w.heap.size) [] _ (Marks.nil _ _) (fun W3 hT => ⟨_, results_tmp2 (t := 4) (u := 5) (by kernel_rfl) _ _ _, none, 0, by rw [HN.out, loadsO_no HN.out]; rfl, by rw [loadsO_no HN.out]; exact Rd.nil, fun x hx => (by cases hx), HB.out.trans (taken_below1 hT (Nat.le_refl _))⟩)
  subst hlen
  have hn16 : n1 ≤ 16 := by have := HOK.out.n2; have := HS.out.l1; omega
  have HOKB := Lib.hid hok
  clear hok
  go_wp2_with fail
  go_loopg [7, 25] nA (fun g1 v7 v25 wr => ∃ k : Nat, v25 = .int .i64 k ∧ k ≤ nA ∧ nA - k ≤ g1 ∧ Hid (∀ i, i < k → 0 ≤ fI xs i ∧ fI xs i ≤ 80) ∧ w1 = wr)
  case atStart => exact ⟨0, by go_num, by omega, by omega, Lib.hid (fun i hi => absurd hi (by omega)), rfl⟩
  case round =>
    obtain ⟨k, rfl, hk, hg1, HA, rfl⟩ := hrel
    by_cases hlt : k < nA
    · have hltz : (k : Int) < (nA : Int) := by omega
      obtain ⟨ba, oa, hAA, hba, hax⟩ := HX.out.int (k := k) (by rw [HNA.out]; exact hlt)
      have hx1 : w1.cell? ⟨ba, oa + k, none⟩ = some (.int .i64 (fI xs k)) := (HB.out.cell (p := ⟨ba, oa + k, none⟩) hba).trans hax
      have HXK : Hid (¬ (0 ≤ fI xs k ∧ fI xs k ≤ 80) → loadB s xs = false) := Lib.hid (fun h => loadB_no2 (curB_no2 (by rw [HNA.out]; exact hlt) h))
      have HX2 : Hid (0 ≤ fI xs k ∧ fI xs k ≤ 80 → ∀ i, i < k + 1 → 0 ≤ fI xs i ∧ fI xs i ≤ 80) := Lib.hid (fun h i hi => by
        rcases Nat.lt_succ_iff_lt_or_eq.1 hi with h1 | h1
        · exact HA.out i h1
        · rw [h1]; exact h)
      subst hAA
      clear hax HA
      generalize fI xs k = x at *
      by_cases h0 : x < 0
      · have HN : Hid (loadB s xs = false) := Lib.hid (HXK.out (by omega))
        clear HXK HX2
        go_wp2_with fail
        refine leaves_marks (B := w.heap.size) [] _ (Marks.nil _ _) (fun W3 hT => ⟨_, results_tmp2 (t := 4) (u := 5) (by kernel_rfl) _ _ _, none, 0, by rw [HN.out, loadsO_no HN.out]; rfl, by rw [loadsO_no HN.out]; exact Rd.nil, fun x hx => (by cases hx), HB.out.trans (taken_below1 hT (Nat.le_refl _))⟩)
      · by_cases h1 : 80 < x
        · have HN : Hid (loadB s xs = false) := Lib.hid (HXK.out (by omega))
          clear HXK HX2
          go_wp2_with fail
          refine leaves_marks (B := w.heap.size) [] _ (Marks.nil _ _) (fun W3 hT => ⟨_, results_tmp2 (t := 4) (u := 5) (by kernel_rfl) _ _ _, none, 0, by rw [HN.out, loadsO_no HN.out]; rfl, by rw [loadsO_no HN.out]; exact Rd.nil, fun x hx => (by cases hx), HB.out.trans (taken_below1 hT (Nat.le_refl _))⟩)
        · have HA2 := Lib.hid (HX2.out (by omega))
          clear HXK HX2
          go_wp2_with fail
          go_roundg (nA - (k + 1))
          case measure => omega
          case rel => exact ⟨k + 1, by go_num, by omega, by omega, HA2, rfl⟩
    · have hltz : ¬ (k : Int) < (nA : Int) := by omega
      have hkn : k = nA := by omega
      subst hkn
      have HCU : Hid (xs.length = s.chgs.length ∧ ∀ i, i < xs.length → 0 ≤ fI xs i ∧ fI xs i ≤ 80) := Lib.hid ⟨by rw [HNA.out, HS.out.l4], fun i hi => HA.out i (by rw [HNA.out] at hi; exact hi)⟩
      have HY : Hid (loadB s xs = true) := Lib.hid (loadB_yes HOKB.out (curB_iff.2 HCU.out))
      obtain ⟨W2, hmk, ho2, bw2, hsz2⟩ := mk_rows3 n1 (by omega) w1
      have HO2 := Lib.hid ho2
      have HBW2 := Lib.hid bw2
      obtain ⟨g0, hg0⟩ : ∃ g0, g0 = w1.heap.size := ⟨_, rfl⟩
      have HG0 := Lib.hid hg0
      have HSZ2 := Lib.hid hsz2
      have hlt2 : w.heap.size + 1 < W2.heap.size := by omega
      have hlt3 : w.heap.size < W2.heap.size := by omega
      have HBL : Hid (Below W2.heap.size W2 (W2.alloc (.cells #[.slice (some ⟨w1.heap.size, 0, none⟩) n1 n1] 32))) := Lib.hid ((Below.refl _ W2).alloc (Nat.le_refl _) _)
      have HOL : Hid (Own (W2.alloc (.cells #[.slice (some ⟨w1.heap.size, 0, none⟩) n1 n1] 32)) (w1.heap.size + 1) 32 1 (fun _ => .slice (some ⟨w1.heap.size, 0, none⟩) n1 n1)) := Lib.hid (by
        have h := Own.one W2 32 (.slice (some ⟨w1.heap.size, 0, none⟩) n1 n1)
        rw [hsz2] at h
        exact h)
      have HMM : Hid (LdM w (W2.alloc (.cells #[.slice (some ⟨w1.heap.size, 0, none⟩) n1 n1] 32)) a1 n1 c1 a2 n2 c2 a3 n3 c3 a4 k c4 a5 n5 c5 aA k cA w1.heap.size (loadS s (fI xs) 0)) := Lib.hid (by
        have hbb := bw2.trans (HBL.out.mono (by omega))
        exact ⟨(hbb.cell (p := ⟨w.heap.size, 0, none⟩) (by dsimp only; omega)).trans q0, (hbb.cell (p := ⟨w.heap.size, 1, none⟩) (by dsimp only; omega)).trans q1, (hbb.cell (p := ⟨w.heap.size, 2, none⟩) (by dsimp only; omega)).trans q2, (hbb.cell (p := ⟨w.heap.size, 3, none⟩) (by dsimp only; omega)).trans q3, (hbb.cell (p := ⟨w.heap.size, 4, none⟩) (by dsimp only; omega)).trans q4, (hbb.cell (p := ⟨w.heap.size + 1, 0, none⟩) (by dsimp only; omega)).trans qa, HOL.out, (HO2.out.keep HBL.out HO2.out.lt).congr (fun i _ => rfl), below_then HB.out hbb, by omega⟩)
      clear ho2 bw2 HA hsz2
      have r3 := (HBW2.out.cell (p := ⟨w.heap.size, 3, none⟩) (by dsimp only; omega)).trans q3
      go_wp2_with fail
      rw [HSZ2.out]
      generalize hWW : W2.alloc (.cells #[.slice (some ⟨w1.heap.size, 0, none⟩) n1 n1] 32) = W3 at *
      have hbs : w.heap.size ≤ W3.heap.size := HMM.out.bel.size
      have hn1m : n1 ≤ 9223372036854775807 := m1
      refine wp_loop (LdInv w a1 n1 c1 a2 n2 c2 a3 n3 c3 a4 k c4 a5 n5 c5 aA k cA w1.heap.size W3.heap.size s xs) (LdMu k) ?_ ?_
      · exact ⟨0, [], _, _, _, _, _, _, _, _, _, _, _, _, _, _, _, _, _, _, _, _, _, _, _, _, _, _, _, _, _, _, _, _, _, _, _, _, _, _, _, _, _, _, _, _, _, _, _, _, _, _, _, _, _, _, _, _, _, _, _, by omega, HMM.out, Marks.nil _ _, Nat.le_refl _, rfl⟩
      · rintro a W ⟨i, ds, u0, u1, u4, u5, u6, u7, u9, u10, u11, u12, u13, u14, u15, u16, u17, u18, u19, u20, u21, u22, u23, u24, u25, u26, u27, u28, u29, u30, u31, u32, u33, u34, u35, u36, u37, u38, u39, u40, u44, u45, u46, u47, u48, u49, u50, u51, u52, u53, u54, u55, u56, u57, u58, u59, u60, u61, u62, u63, u64, hi, m, hmk, hBW, rfl⟩
        by_cases hlt : i < k
        · refine ld_round w W a1 n1 c1 a2 n2 c2 a3 n3 c3 a4 k c4 a5 n5 c5 aA k cA w1.heap.size W3.heap.size i s xs ds _ _ HS HOK HX HCU HNA hlt (Lib.hid m) hmk hbs hBW _ _ _ _ _ _ _ _ _ _ _ _ _ _ _ _ _ _ _ _ _ _ _ _ _ _ _ _ _ _ _ _ _ _ _ _ _ _ _ _ _ _ _ _ _ _ _ _ _ _ _ _ _ _ _ _ _ _ _ (Lib.hid ?_)
          intro W' D y0 y1 y4 y5 y6 y7 y9 y10 y11 y12 y13 y14 y15 y16 y17 y18 y19 y20 y21 y22 y23 y24 y25 y26 y27 y28 y29 y30 y31 y32 y33 y34 y35 y36 y37 y38 y39 y40 y44 y45 y46 y47 y48 y49 y50 y51 y52 y53 y54 y55 y56 y57 y58 y59 y60 y61 y62 y63 y64 m' hmk' hBW'
          refine ⟨⟨i + 1, _, _, _, _, _, _, _, _, _, _, _, _, _, _, _, _, _, _, _, _, _, _, _, _, _, _, _, _, _, _, _, _, _, _, _, _, _, _, _, _, _, _, _, _, _, _, _, _, _, _, _, _, _, _, _, _, _, _, _, _, by omega, m', hmk', hBW', rfl⟩, ?_⟩
          show k - (intOf (.int .i64 ((i : Int) + 1))).toNat < k - (intOf (.int .i64 (i : Int))).toNat
          simp [intOf]
          omega
        · have hik : i = k := by omega
          have hltz : ¬ (i : Int) < (k : Int) := by omega
          subst hik
          have ql := m.kl.cell (i := 0) (by omega)
          have HMo := Lib.hid m
          clear m
          go_wp2_with fail
          refine leaves_marks (B := W3.heap.size) ds _ hmk (fun W4 hT => ⟨_, results_tmp2 (t := 4) (u := 5) (by kernel_rfl) _ _ _, ?_⟩)
          have hog := hT.own HMo.out.og
          have hl : s.cons.length = n1 := HS.out.l1
          have hcl : s.chgs.length = i := HS.out.l4
          refine ⟨some ⟨w1.heap.size, 0, none⟩, n1, ?_, ?_, fun x hx => (by injection hx with hx; subst hx; exact ⟨HB.out.size, hog.lt⟩), HMo.out.bel.trans (taken_below1 hT hbs)⟩
          · rw [HY.out, loadsO_yes HY.out, loadsOf_len, hl]
            rfl
          · rw [loadsO_yes HY.out]
            unfold loadsOf
            rw [hl, hcl]
            exact hog.rd3
theorem trLoads_any (a1 : Option Addr) (n1 c1 : Nat) (a2 : Option Addr) (n2 c2 : Nat) (a3 : Option Addr) (n3 c3 : Nat) (a4 : Option Addr) (n4 c4 : Nat) (a5 : Option Addr) (n5 c5 : Nat) (aA : Option Addr) (nA cA : Nat) (s : GSite) (xs : List Int) (w : World) (HS : Hid (RdSite w a1 a2 a3 a4 a5 n1 n2 n3 n4 n5 s)) (HX : Hid (Rd 1 encI w aA xs)) (HNA : Hid (xs.length = nA)) (hnA : nA ≤ 9223372036854775807) :
    Calls Tryz.prog 18 #[.agg #[.slice a1 n1 c1, .slice a2 n2 c2, .slice a3 n3 c3, .slice a4 n4 c4, .slice a5 n5 c5], .slice aA nA cA] w fun e w' => LdPost w s xs e w' := (trLoads_fresh a1 n1 c1 a2 n2 c2 a3 n3 c3 a4 n4 c4 a5 n5 c5 aA nA cA s xs w HS HX HNA hnA).mono (fun e w' h => by obtain ⟨a, c, h1, h2, _, h3⟩ := h; exact ⟨a, c, h1, h2, h3⟩)
end Go.Proofs.YtpkonifeieepfaaGreat
