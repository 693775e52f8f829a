/-
Several texts in one: TwZ0, TwZ1.
-/
import Derived.Test.YtkbbapefgifagaaGreatDoorCTwY6
/-
Two controllers: the site of a controller, in plain numbers.
-/
namespace Go.Proofs.YtkbbapefgifagaaGreatDoor
open Go.RowKit
set_option linter.unusedVariables false
set_option linter.unusedSimpArgs false
theorem okNameT1 {b : UInt8} (h : 97 ≤ b.toNat ∧ b.toNat ≤ 122) (hk : ¬ [b] ∈ keyL) : okNameB keyL ⟨#[b]⟩ = true := by
  rw [okNameB_iff]
  refine ⟨⟨Nat.le_refl _, (by show 1 ≤ 12; omega), h, fun i h0 h1 => ?_⟩, ?_⟩
  · have h1' : i < 1 := h1
    omega
  · rw [ByteArray.toList_eq]
    exact hk
theorem okName2 {b c : UInt8} (h : 97 ≤ b.toNat ∧ b.toNat ≤ 122) (h2 : 97 ≤ c.toNat ∧ c.toNat ≤ 122) (hk : ¬ [b, c] ∈ keyL) : okNameB keyL ⟨#[b, c]⟩ = true := by
  rw [okNameB_iff]
  refine ⟨⟨(by show 1 ≤ 2; omega), (by show 2 ≤ 12; omega), h, fun i h0 h1 => ?_⟩, ?_⟩
  · have h1' : i < 2 := h1
    have e : i = 1 := by omega
    subst e
    exact .inl h2
  · rw [ByteArray.toList_eq]
    exact hk
def twC (cap : Int) : GCon := ⟨⟨#[102]⟩, -1, cap, 1000, 0, 0, 0, 0, 0, 0, 0⟩
def twN (i : Nat) : ByteArray := ⟨#[112, (97 + i).toUInt8]⟩
def twG (i : Nat) : GChg := ⟨twN i, 0, 1, 6, 32, 2, 0, 0⟩
def twS (n : Nat) (cap : Int) : GSite := ⟨[twC cap], [⟨#[111]⟩], [], (List.range n).map twG, []⟩
theorem twN_ok {i : Nat} (h : i < 4) : okNameB keyL (twN i) = true := by
  match i, h with
  | 0, _ => exact okName2 (by decide) (by decide) (by decide)
  | 1, _ => exact okName2 (by decide) (by decide) (by decide)
  | 2, _ => exact okName2 (by decide) (by decide) (by decide)
  | 3, _ => exact okName2 (by decide) (by decide) (by decide)
theorem twC_ok {cap : Int} (h : 1 ≤ cap ∧ cap ≤ 1000) : okCon 0 (twC cap) = true := by
  unfold okCon
  rw [show okUp 0 (twC cap).up = true from rfl, show okFuse (twC cap) = true from by simp [okFuse, twC], show okCable (twC cap) = true from by simp [okCable, twC], inside_iff.2 (show 1 ≤ (twC cap).limit ∧ (twC cap).limit ≤ 1000 from h), show inside (twC cap).neutral 1 1000 = true from rfl]
  rfl
theorem twS_ok {n : Nat} {cap : Int} (hn0 : 0 < n) (hn : n ≤ 4) (h : 1 ≤ cap ∧ cap ≤ 1000) : OkSite keyL (twS n cap) := by
  refine ⟨(show 1 ≤ 1 by decide), (show 1 ≤ 16 by decide), (show 1 ≤ 8 by decide), (show 0 ≤ 32 by decide), (by simp [twS]; omega), (show 0 ≤ 24 by decide), ⟨?_, ?_⟩, ?_, ?_, List.nodup_nil, ?_, ?_⟩
  · intro x hx
    have hx' : x ∈ [(⟨#[102]⟩ : ByteArray), ⟨#[111]⟩] ++ ((List.range n).map twG).map GChg.name := by simpa [allNames, twS, twC] using hx
    rcases List.mem_append.1 hx' with hx' | hx'
    · simp only [List.mem_cons, List.not_mem_nil, or_false] at hx'
      rcases hx' with rfl | rfl <;> exact okNameT1 (by decide) (by decide)
    · rw [List.map_map] at hx'
      obtain ⟨i, hi, rfl⟩ := List.mem_map.1 hx'
      exact twN_ok (by have := List.mem_range.1 hi; omega)
  · have e : ∀ m, m < 5 → (allNames (twS m cap)).map (·.toList) = [[102], [111]] ++ (List.range m).map (fun i => [112, (97 + i).toUInt8]) := by
      intro m _
      show (([(⟨#[102]⟩ : ByteArray)] ++ [(⟨#[111]⟩ : ByteArray)] ++ [] ++ ((List.range m).map twG).map GChg.name ++ [] : List ByteArray)).map (·.toList) = _
      simp [List.map_map, ByteArray.toList_eq, Function.comp_def, twG, twN]
    rw [e n (by omega)]
    match n, hn0, hn with
    | 1, _, _ => decide
    | 2, _, _ => decide
    | 3, _, _ => decide
    | 4, _, _ => decide
  · intro i c hc
    match i, hc with
    | 0, hc => cases hc; exact twC_ok h
    | i + 1, hc => cases hc
  · intro c hc; cases hc
  · intro c hc
    obtain ⟨i, hi, rfl⟩ := List.mem_map.1 hc
    show okChg 1 1 (twG i) = true
    simp [okChg, twG]
  · intro c hc; cases hc
theorem twC_lim {cap : Int} (h : 1 ≤ cap ∧ cap ≤ 1000) : limV (twC cap) = cap := by
  unfold limV permV
  rw [if_pos (show (twC cap).rated = 0 from rfl), if_pos (show zC (twC cap) = true from by simp [zC, twC])]
  show min (min cap 1000) 1000 = cap
  omega
theorem tw_mem0 {n : Nat} {cap : Int} (hn0 : 0 < n) (hn : n ≤ 4) : memL (twS n cap) 0 = (List.range n).map (fun (i : Nat) => (i : Int)) := by
  match n, hn0, hn with
  | 1, _, _ => rfl
  | 2, _, _ => rfl
  | 3, _, _ => rfl
  | 4, _, _ => rfl
theorem tw_mem1 {n : Nat} {cap : Int} (hn0 : 0 < n) (hn : n ≤ 4) : memL (twS n cap) 1 = [] ∧ memL (twS n cap) 2 = [] := by
  match n, hn0, hn with
  | 1, _, _ => exact ⟨rfl, rfl⟩
  | 2, _, _ => exact ⟨rfl, rfl⟩
  | 3, _, _ => exact ⟨rfl, rfl⟩
  | 4, _, _ => exact ⟨rfl, rfl⟩
theorem twS_park {n : Nat} {cap : Int} (hn0 : 0 < n) (hn : n ≤ 4) (h : 1 ≤ cap ∧ cap ≤ 1000) : ParkS (twS n cap) n cap := by
  have hB := okSB_iff.2 (twS_ok hn0 hn h)
  refine ⟨hB, ?_, ?_, hn0, hn⟩
  · unfold rowsO
    rw [if_pos hB]
    show rowsL (twS n cap) (0 + 1 + 1 + 1) = _
    obtain ⟨h1, h2⟩ := tw_mem1 (cap := cap) hn0 hn
    rw [rowsL_no (by rw [h2]; rfl), rowsL_no (by rw [h1]; rfl), rowsL_yes (by rw [tw_mem0 hn0 hn]; simp; omega), tw_mem0 hn0 hn]
    show [] ++ [(⟨limV (twC cap), _⟩ : GRow)] = _
    rw [twC_lim h]
    rfl
  · intro x hx
    obtain ⟨i, hi, rfl⟩ := List.mem_map.1 hx
    exact ⟨rfl, rfl, rfl, rfl, rfl, rfl, rfl⟩
end Go.Proofs.YtkbbapefgifagaaGreatDoor
/-
Two controllers: what holds of both halves, in plain numbers.
-/
namespace Go.Proofs.YtkbbapefgifagaaGreatDoor
set_option linter.unusedVariables false
set_option linter.unusedSimpArgs false
/-- A controller. -/
structure Hf where
  sh : Shr
  ls : List Lse
  rs : Nat → Rmp
  wa : Nat → Bool
  num : Int
  sent : List Trn
  acks : List Int
def alvS (n : Nat) (tick : Int) (ls : List Lse) : Int := sumN (alvF (exL tick ls)) n
/-- The amperes that are under way. -/
def fl : List Trn → List Int → Int
  | [], _ => 0
  | t :: r, inn => (if t.num ∈ inn then 0 else t.amp) + fl r inn
theorem fl_snoc (t : Trn) (inn : List Int) : ∀ s : List Trn, fl (s ++ [t]) inn = fl s inn + (if t.num ∈ inn then 0 else t.amp)
  | [] => by simp [fl]
  | a :: r => by simp only [List.cons_append, fl, fl_snoc t inn r]; omega
theorem fl_nonneg {inn : List Int} : ∀ {s : List Trn}, (∀ t ∈ s, 0 ≤ t.amp) → 0 ≤ fl s inn
  | [], _ => by simp [fl]
  | a :: r, h => by
    have h1 := fl_nonneg (inn := inn) (s := r) (fun t ht => h t (List.mem_cons_of_mem _ ht))
    have h2 := h a (List.mem_cons_self)
    simp only [fl]
    split <;> omega
theorem fl_same {inn inn' : List Int} : ∀ {s : List Trn}, (∀ t ∈ s, (t.num ∈ inn' ↔ t.num ∈ inn)) → fl s inn' = fl s inn
  | [], _ => rfl
  | a :: r, h => by
    simp only [fl]
    rw [fl_same (fun t ht => h t (List.mem_cons_of_mem _ ht))]
    by_cases e : a.num ∈ inn
    · rw [if_pos e, if_pos ((h a List.mem_cons_self).2 e)]
    · rw [if_neg e, if_neg (fun e2 => e ((h a List.mem_cons_self).1 e2))]
theorem fl_recv {inn inn' : List Int} {x : Trn} (hx : x.num ∉ inn) (hi : ∀ m, m ∈ inn' ↔ m = x.num ∨ m ∈ inn) : ∀ {s : List Trn}, (s.map (·.num)).Nodup → x ∈ s → fl s inn' = fl s inn - x.amp
  | [], _, hm => by cases hm
  | a :: r, hd, hm => by
    simp only [fl]
    rw [List.map_cons, List.nodup_cons] at hd
    by_cases e : x = a
    · subst e
      rw [if_pos ((hi _).2 (.inl rfl)), if_neg hx, fl_same (inn := inn) (inn' := inn') (fun t ht => by
        rw [hi]
        constructor
        · rintro (h | h)
          · exact absurd (List.mem_map.2 ⟨t, ht, h⟩) hd.1
          · exact h
        · exact .inr)]
      omega
    · have hr : x ∈ r := by
        rcases List.mem_cons.1 hm with h | h
        · exact absurd h e
        · exact h
      rw [fl_recv hx hi hd.2 hr]
      have hne : a.num ≠ x.num := fun h => hd.1 (List.mem_map.2 ⟨x, hr, h.symm⟩)
      by_cases ea : a.num ∈ inn
      · rw [if_pos ea, if_pos ((hi _).2 (.inr ea))]; omega
      · rw [if_neg ea, if_neg (fun h => by rcases (hi _).1 h with h | h; exact hne h; exact ea h)]; omega
theorem alvF_filter (p : Lse → Bool) (l : List Lse) : ∀ i, alvF (l.filter p) i ≤ alvF l i := by
  have key : ∀ (l : List Lse) (f g : Nat → Int), (∀ i, f i ≤ g i) → ∀ i, (l.filter p).foldl (fun f x => updF f x.chg.toNat x.amp) f i ≤ l.foldl (fun f x => updF f x.chg.toNat x.amp) g i := by
    intro l
    induction l with
    | nil => exact fun f g h i => h i
    | cons a r ih =>
      intro f g h i
      rw [List.filter_cons]
      by_cases e : p a = true
      · rw [if_pos e]
        exact ih _ _ (fun j => by dsimp only [updF]; have := h j; have := h a.chg.toNat; split <;> omega) i
      · rw [if_neg e]
        exact ih _ _ (fun j => by
          dsimp only [updF]
          have := h j
          by_cases ej : j = a.chg.toNat
          · rw [if_pos ej, ← ej]; omega
          · rw [if_neg ej]; exact this) i
  exact key l _ _ (fun _ => Int.le_refl _)
theorem exL_exL {t t' : Int} (h : t ≤ t') (ls : List Lse) : exL t' (exL t ls) = exL t' ls := by
  unfold exL
  rw [List.filter_filter]
  congr 1
  funext x
  by_cases e : t' < x.frm + 23
  · rw [decide_eq_true e, decide_eq_true (show t < x.frm + 23 by omega)]; rfl
  · rw [decide_eq_false e]; rfl
theorem alvS_tick {n : Nat} {t t' : Int} (h : t ≤ t') (ls : List Lse) : alvS n t' ls ≤ alvS n t ls := by
  unfold alvS
  rw [← exL_exL h ls]
  exact sumN_le (fun i _ => alvF_filter _ _ i)
theorem alvS_ex {n : Nat} {t : Int} (ls : List Lse) : alvS n t (exL t ls) = alvS n t ls := by
  unfold alvS; rw [exL_exL (Int.le_refl _)]
theorem alvF_more {l : List Lse} {v : Nat → Int} : ∀ (g : List Lse), (∀ x ∈ g, ∃ i : Nat, x.chg = (i : Int) ∧ x.amp ≤ v i) → ∀ i, alvF (l ++ g) i ≤ max (alvF l i) (v i) := by
  intro g hg
  have key : ∀ (g : List Lse) (f : Nat → Int), (∀ x ∈ g, ∃ i : Nat, x.chg = (i : Int) ∧ x.amp ≤ v i) → (∀ i, f i ≤ max (alvF l i) (v i)) → ∀ i, g.foldl (fun f x => updF f x.chg.toNat x.amp) f i ≤ max (alvF l i) (v i) := by
    intro g
    induction g with
    | nil => exact fun f _ h i => h i
    | cons a r ih =>
      intro f h hf i
      refine ih _ (fun x hx => h x (List.mem_cons_of_mem _ hx)) (fun j => ?_) i
      obtain ⟨c, hc, ha⟩ := h a List.mem_cons_self
      have := hf j
      dsimp only [updF]
      rw [hc, Int.toNat_natCast]
      by_cases e : j = c
      · subst e; rw [if_pos rfl]; omega
      · rw [if_neg e]; exact this
  intro i
  have e : alvF (l ++ g) = g.foldl (fun f x => updF f x.chg.toNat x.amp) (alvF l) := by unfold alvF; rw [List.foldl_append]
  rw [e]
  exact key g _ hg (fun i => by omega) i
theorem alvS_more {n : Nat} {t cap : Int} {l g : List Lse} {v : Nat → Int} (hg : ∀ x ∈ g, ∃ i : Nat, x.chg = (i : Int) ∧ x.amp ≤ v i) (h : sumN (fun i => max (alvF (exL t l) i) (v i)) n ≤ cap) : alvS n t (l ++ g) ≤ cap := by
  refine Int.le_trans ?_ h
  unfold alvS
  refine sumN_le (fun i _ => ?_)
  have e : exL t (l ++ g) = exL t l ++ exL t g := by unfold exL; rw [List.filter_append]
  rw [e]
  exact alvF_more _ (fun x hx => hg x (List.mem_filter.1 hx).1) i
/-- What holds of a controller at a tick, before turn r. -/
structure HfOk (n : Nat) (tick : Int) (r : Nat) (x : Hf) : Prop where
  sh : ShOk x.sh
  ls : LsOk x.ls
  fr : ∀ y ∈ x.ls, y.frm ≤ tick
  cg : ∀ y ∈ x.ls, y.chg < (n : Int)
  nu : ∀ y ∈ x.ls, y.num < x.num
  n1 : 1 ≤ x.num
  n2 : x.num ≤ 1 + 4 * tick
  rm : ∀ i, i < n → (x.rs i).snc ≤ tick
  al : alvS n tick x.ls ≤ x.sh.hav
  nx : x.sh.nxt = (x.sent.length : Int) + 1
  se : ∀ (k : Nat) t, x.sent[k]? = some t → t.num = (k : Int) + 1 ∧ 1 ≤ t.amp ∧ t.amp ≤ 20
  sl : x.sent.length ≤ r
  ak : x.acks.length ≤ r
structure Two (n m : Nat) (tot tick : Int) (r : Nat) (x y : Hf) : Prop where
  hx : HfOk n tick r x
  hy : HfOk m tick r y
  ix : ∀ k ∈ x.sh.inn, k ≤ (y.sent.length : Int)
  iy : ∀ k ∈ y.sh.inn, k ≤ (x.sent.length : Int)
  cons : x.sh.hav + y.sh.hav + fl x.sent y.sh.inn + fl y.sent x.sh.inn = tot
  t0 : 0 ≤ tick
  t1 : tick ≤ r
  r1 : r ≤ 200
  tt : tot ≤ 198
theorem Two.swap {n m : Nat} {tot tick : Int} {r : Nat} {x y : Hf} (h : Two n m tot tick r x y) : Two m n tot tick r y x :=
  ⟨h.hy, h.hx, h.iy, h.ix, by have := h.cons; omega, h.t0, h.t1, h.r1, h.tt⟩
theorem HfOk.amp {n : Nat} {tick : Int} {r : Nat} {x : Hf} (h : HfOk n tick r x) : ∀ t ∈ x.sent, 0 ≤ t.amp := fun t ht => by
  obtain ⟨k, hk⟩ := List.mem_iff_getElem?.1 ht
  have := h.se k t hk
  omega
theorem HfOk.nodup {n : Nat} {tick : Int} {r : Nat} {x : Hf} (h : HfOk n tick r x) : (x.sent.map (·.num)).Nodup := by
  refine List.pairwise_iff_getElem.2 (fun i j hi hj hij => ?_)
  rw [List.length_map] at hi hj
  rw [List.getElem_map, List.getElem_map]
  have h1 := (h.se i _ (List.getElem?_eq_getElem hi)).1
  have h2 := (h.se j _ (List.getElem?_eq_getElem hj)).1
  omega
theorem HfOk.trn {n : Nat} {tick : Int} {r : Nat} {x : Hf} (h : HfOk n tick r x) (hr : r ≤ 200) {t : Trn} (ht : t ∈ x.sent) : TrnOk t ∧ t.amp ≤ 20 ∧ t.num ≤ (x.sent.length : Int) := by
  obtain ⟨k, hk⟩ := List.mem_iff_getElem?.1 ht
  have h1 := h.se k t hk
  have h2 := (List.getElem?_eq_some_iff.1 hk).1
  have h3 := h.sl
  exact ⟨⟨by omega, by omega, by omega, by omega⟩, by omega, by omega⟩
theorem HfOk.next {n : Nat} {tick : Int} {r : Nat} {x : Hf} (h : HfOk n tick r x) : HfOk n tick (r + 1) x :=
  ⟨h.sh, h.ls, h.fr, h.cg, h.nu, h.n1, h.n2, h.rm, h.al, h.nx, h.se, Nat.le_succ_of_le h.sl, Nat.le_succ_of_le h.ak⟩
theorem Two.next {n m : Nat} {tot tick : Int} {r : Nat} {x y : Hf} (h : Two n m tot tick r x y) (hr : r < 200) : Two n m tot tick (r + 1) x y :=
  ⟨h.hx.next, h.hy.next, h.ix, h.iy, h.cons, h.t0, by have := h.t1; omega, hr, h.tt⟩
theorem alvS_nn {n : Nat} {tick : Int} {ls : List Lse} (h : LsOk ls) : 0 ≤ alvS n tick ls := by
  unfold alvS
  have hb := alvF_bd (l := exL tick ls) (fun x hx => h.ok x (List.mem_filter.1 hx).1)
  exact (sumN_bd (n := n) (fun i _ => hb i) n (Nat.le_refl _)).1
/-- What both have together. -/
theorem Two.sum {n m : Nat} {tot tick : Int} {r : Nat} {x y : Hf} (h : Two n m tot tick r x y) : x.sh.hav + y.sh.hav ≤ tot := by
  have h1 := fl_nonneg (inn := y.sh.inn) h.hx.amp
  have h2 := fl_nonneg (inn := x.sh.inn) h.hy.amp
  have := h.cons
  omega
theorem Two.hav {n m : Nat} {tot tick : Int} {r : Nat} {x y : Hf} (h : Two n m tot tick r x y) : 0 ≤ x.sh.hav ∧ x.sh.hav ≤ 198 := by
  have h1 := h.sum
  have h2 := h.hx.sh.h1
  have h3 := h.hy.sh.h1
  have h4 := h.tt
  omega
/-- One sends. -/
def sendX (x : Hf) (q : Int) : Hf := { x with sh := ⟨x.sh.hav - q, x.sh.nxt + 1, x.sh.out ++ [⟨x.sh.nxt, q⟩], x.sh.inn⟩, sent := x.sent ++ [⟨x.sh.nxt, q⟩] }
theorem Two.send {n m : Nat} {tot tick : Int} {r : Nat} {x y : Hf} (h : Two n m tot tick r x y) (hr : r < 200) {q : Int} (h1 : 1 ≤ q) (h2 : q ≤ 20) (h3 : q ≤ x.sh.hav - alvS n tick x.ls) (h4 : x.sh.out.length < 64) : Two n m tot tick (r + 1) (sendX x q) y := by
  have hs := h.hx.sl
  have hn := h.hx.nx
  have ha := alvS_nn (n := n) (tick := tick) h.hx.ls
  obtain ⟨g1, g2, g3, g4, g5, g6, g7, g8, g9, g10⟩ := h.hx.sh
  have hno : x.sh.nxt ∉ y.sh.inn := fun hm => by have := h.iy _ hm; omega
  refine ⟨⟨⟨?_, ?_, ?_, ?_, ?_, g6, ?_, g8, ?_, g10⟩, h.hx.ls, h.hx.fr, h.hx.cg, h.hx.nu, h.hx.n1, h.hx.n2, h.hx.rm, ?_, ?_, ?_, ?_, Nat.le_succ_of_le h.hx.ak⟩, h.hy.next, h.ix, ?_, ?_, h.t0, by have := h.t1; omega, hr, h.tt⟩
  · show 0 ≤ x.sh.hav - q; omega
  · show x.sh.hav - q ≤ 1000; omega
  · show 1 ≤ x.sh.nxt + 1; omega
  · show x.sh.nxt + 1 ≤ 1000001; omega
  · show (x.sh.out ++ [_]).length ≤ 64; rw [List.length_append]; simp; omega
  · intro t ht
    rcases List.mem_append.1 ht with ht | ht
    · exact ⟨(g7 t ht).1, by show t.num < x.sh.nxt + 1; have := (g7 t ht).2; omega⟩
    · rw [List.mem_singleton] at ht
      subst ht
      exact ⟨⟨by show 1 ≤ x.sh.nxt; omega, by show x.sh.nxt ≤ 1000000; omega, h1, by show q ≤ 1000; omega⟩, by show x.sh.nxt < x.sh.nxt + 1; omega⟩
  · show ((x.sh.out ++ [(⟨x.sh.nxt, q⟩ : Trn)]).map (·.num)).Pairwise (· < ·)
    rw [List.map_append, List.pairwise_append]
    refine ⟨g9, by simp, fun a ha b hb => ?_⟩
    obtain ⟨t, ht, rfl⟩ := List.mem_map.1 ha
    simp at hb
    subst hb
    exact (g7 t ht).2
  · show alvS n tick x.ls ≤ x.sh.hav - q; omega
  · show x.sh.nxt + 1 = ((x.sent ++ [_]).length : Int) + 1; rw [List.length_append]; simp; omega
  · intro k t ht
    have ht' : (x.sent ++ [(⟨x.sh.nxt, q⟩ : Trn)])[k]? = some t := ht
    by_cases hk : k < x.sent.length
    · rw [List.getElem?_append_left hk] at ht'
      exact h.hx.se k t ht'
    · rw [List.getElem?_append_right (by omega)] at ht'
      have hk2 : k = x.sent.length := by
        have := (List.getElem?_eq_some_iff.1 ht').1
        simp at this
        omega
      subst hk2
      simp at ht'
      subst ht'
      exact ⟨hn, h1, h2⟩
  · show (x.sent ++ [_]).length ≤ r + 1; rw [List.length_append]; simp; omega
  · intro k hk
    have := h.iy k hk
    show k ≤ ((x.sent ++ [_]).length : Int)
    rw [List.length_append]; simp; omega
  · show x.sh.hav - q + y.sh.hav + fl (x.sent ++ [⟨x.sh.nxt, q⟩]) y.sh.inn + fl y.sent x.sh.inn = tot
    rw [fl_snoc, if_neg hno]
    have := h.cons
    show x.sh.hav - q + y.sh.hav + (fl x.sent y.sh.inn + q) + fl y.sent x.sh.inn = tot
    omega
/-- One receives. -/
def recvX (x : Hf) (t : Trn) (k : Nat) : Hf := { x with sh := ⟨x.sh.hav + t.amp, x.sh.nxt, x.sh.out, insL x.sh.inn k t.num⟩, acks := x.acks ++ [t.num] }
theorem mem_insL {xs : List Int} {k : Nat} {a m : Int} : m ∈ insL xs k a ↔ m = a ∨ m ∈ xs := by
  unfold insL
  rw [List.mem_append, List.mem_cons]
  constructor
  · rintro (h | h | h)
    · exact .inr (List.mem_of_mem_take h)
    · exact .inl h
    · exact .inr (List.mem_of_mem_drop h)
  · rintro (h | h)
    · exact .inr (.inl h)
    · rw [← List.take_append_drop k xs] at h
      rcases List.mem_append.1 h with h | h
      · exact .inl h
      · exact .inr (.inr h)
theorem Two.recv {n m : Nat} {tot tick : Int} {r : Nat} {x y : Hf} (h : Two n m tot tick r x y) (hr : r < 200) {t : Trn} (ht : t ∈ y.sent) (hn : t.num ∉ x.sh.inn) (hl : x.sh.inn.length < 64) {k : Nat} (hs : (insL x.sh.inn k t.num).Pairwise (· < ·)) : Two n m tot tick (r + 1) (recvX x t k) y := by
  have hfl := fl_recv (inn := x.sh.inn) (inn' := insL x.sh.inn k t.num) hn (fun m => mem_insL) h.hy.nodup ht
  obtain ⟨ok, h20, hle⟩ := h.hy.trn h.r1 ht
  have hh := h.hav
  obtain ⟨g1, g2, g3, g4, g5, g6, g7, g8, g9, g10⟩ := h.hx.sh
  have o1 := ok.n1
  have o2 := ok.n2
  have o3 := ok.a1
  refine ⟨⟨⟨?_, ?_, g3, g4, g5, ?_, g7, ?_, g9, ?_⟩, h.hx.ls, h.hx.fr, h.hx.cg, h.hx.nu, h.hx.n1, h.hx.n2, h.hx.rm, ?_, h.hx.nx, h.hx.se, Nat.le_succ_of_le h.hx.sl, ?_⟩, h.hy.next, ?_, h.iy, ?_, h.t0, by have := h.t1; omega, hr, h.tt⟩
  · show 0 ≤ x.sh.hav + t.amp; omega
  · show x.sh.hav + t.amp ≤ 1000; omega
  · show (insL x.sh.inn k t.num).length ≤ 64; rw [insL_len]; omega
  · intro p hp
    rcases mem_insL.1 hp with rfl | hp
    · omega
    · exact g8 p hp
  · show ((insL x.sh.inn k t.num).map id).Pairwise (· < ·)
    rw [List.map_id]; exact hs
  · show alvS n tick x.ls ≤ x.sh.hav + t.amp; have := h.hx.al; omega
  · show (x.acks ++ [_]).length ≤ r + 1; have := h.hx.ak; rw [List.length_append]; simp; omega
  · intro p hp
    rcases mem_insL.1 hp with rfl | hp
    · exact hle
    · exact h.ix p hp
  · show x.sh.hav + t.amp + y.sh.hav + fl x.sent y.sh.inn + fl y.sent (insL x.sh.inn k t.num) = tot
    rw [hfl]
    have := h.cons
    omega
/-- One hears a transfer once more. -/
def twiceX (x : Hf) (a : Int) : Hf := { x with acks := x.acks ++ [a] }
theorem Two.twice {n m : Nat} {tot tick : Int} {r : Nat} {x y : Hf} (h : Two n m tot tick r x y) (hr : r < 200) (a : Int) : Two n m tot tick (r + 1) (twiceX x a) y :=
  ⟨⟨h.hx.sh, h.hx.ls, h.hx.fr, h.hx.cg, h.hx.nu, h.hx.n1, h.hx.n2, h.hx.rm, h.hx.al, h.hx.nx, h.hx.se, Nat.le_succ_of_le h.hx.sl, by show (x.acks ++ [_]).length ≤ r + 1; have := h.hx.ak; rw [List.length_append]; simp; omega⟩, h.hy.next, h.ix, h.iy, h.cons, h.t0, by have := h.t1; omega, hr, h.tt⟩
/-- One hears an acknowledgement. -/
def ackX (x : Hf) (k : Nat) : Hf := { x with sh := ⟨x.sh.hav, x.sh.nxt, x.sh.out.take k ++ x.sh.out.drop (k + 1), x.sh.inn⟩ }
theorem cut_sub {α : Type} (xs : List α) (k : Nat) : (xs.take k ++ xs.drop (k + 1)).Sublist xs := by
  have h : (xs.take k ++ xs.drop (k + 1)).Sublist (xs.take k ++ xs.drop k) := List.Sublist.append (List.Sublist.refl _) (by
    rw [← List.drop_drop]
    exact List.drop_sublist _ _)
  rwa [List.take_append_drop] at h
theorem Two.acked {n m : Nat} {tot tick : Int} {r : Nat} {x y : Hf} (h : Two n m tot tick r x y) (hr : r < 200) (k : Nat) : Two n m tot tick (r + 1) (ackX x k) y := by
  obtain ⟨g1, g2, g3, g4, g5, g6, g7, g8, g9, g10⟩ := h.hx.sh
  have hs := cut_sub x.sh.out k
  refine ⟨⟨⟨g1, g2, g3, g4, Nat.le_trans hs.length_le g5, g6, fun t ht => g7 t (hs.subset ht), g8, g9.sublist (hs.map _), g10⟩, h.hx.ls, h.hx.fr, h.hx.cg, h.hx.nu, h.hx.n1, h.hx.n2, h.hx.rm, h.hx.al, h.hx.nx, h.hx.se, Nat.le_succ_of_le h.hx.sl, Nat.le_succ_of_le h.hx.ak⟩, h.hy.next, h.ix, h.iy, h.cons, h.t0, by have := h.t1; omega, hr, h.tt⟩
/-- What is wanted changes. -/
def wantX (x : Hf) (wa : Nat → Bool) : Hf := { x with wa := wa }
theorem Two.want {n m : Nat} {tot tick : Int} {r : Nat} {x y : Hf} (h : Two n m tot tick r x y) (hr : r < 200) (wa : Nat → Bool) : Two n m tot tick (r + 1) (wantX x wa) y :=
  ⟨⟨h.hx.sh, h.hx.ls, h.hx.fr, h.hx.cg, h.hx.nu, h.hx.n1, h.hx.n2, h.hx.rm, h.hx.al, h.hx.nx, h.hx.se, Nat.le_succ_of_le h.hx.sl, Nat.le_succ_of_le h.hx.ak⟩, h.hy.next, h.ix, h.iy, h.cons, h.t0, by have := h.t1; omega, hr, h.tt⟩
/-- What holds behind a decision, still in its tick. -/
structure DecOk (n : Nat) (tick : Int) (x : Hf) (ls : List Lse) (rs : Nat → Rmp) (num : Int) : Prop where
  lo : LsOk ls
  fr : ∀ y ∈ ls, y.frm ≤ tick
  cg : ∀ y ∈ ls, y.chg < (n : Int)
  nu : ∀ y ∈ ls, y.num < num
  n1 : 1 ≤ num
  n2 : num ≤ x.num + 4
  rm : ∀ i, i < n → (rs i).snc ≤ tick + 1
  al : alvS n tick ls ≤ x.sh.hav
def decX (x : Hf) (ls : List Lse) (rs : Nat → Rmp) (num : Int) : Hf := { x with ls := ls, rs := rs, num := num }
theorem HfOk.dec {n : Nat} {tick : Int} {r : Nat} {x : Hf} (h : HfOk n tick r x) {ls : List Lse} {rs : Nat → Rmp} {num : Int} (d : DecOk n tick x ls rs num) : HfOk n (tick + 1) (r + 1) (decX x ls rs num) :=
  ⟨h.sh, d.lo, fun y hy => by have := d.fr y hy; omega, d.cg, d.nu, d.n1, by show num ≤ 1 + 4 * (tick + 1); have := h.n2; have := d.n2; omega, d.rm, Int.le_trans (alvS_tick (by omega) _) d.al, h.nx, h.se, Nat.le_succ_of_le h.sl, Nat.le_succ_of_le h.ak⟩
theorem Two.tick {n m : Nat} {tot tick : Int} {r : Nat} {x y : Hf} (h : Two n m tot tick r x y) (hr : r < 200) {l1 l2 : List Lse} {r1 r2 : Nat → Rmp} {n1 n2 : Int} (d1 : DecOk n tick x l1 r1 n1) (d2 : DecOk m tick y l2 r2 n2) : Two n m tot (tick + 1) (r + 1) (decX x l1 r1 n1) (decX y l2 r2 n2) :=
  ⟨h.hx.dec d1, h.hy.dec d2, h.ix, h.iy, h.cons, by have := h.t0; omega, by have := h.t1; omega, hr, h.tt⟩
/-- The leases that have been granted so far, of those that Decide gives. -/
structure GrOk (n : Nat) (tick num num0 : Int) (v : Nat → Int) (l : List Lse) (j : Nat) (ls : List Lse) : Prop where
  lo : LsOk ls
  nu : ∀ y ∈ ls, y.num < num
  n1 : num0 ≤ num
  n2 : num ≤ num0 + (j : Int)
  g : ∃ g, ls = l ++ g ∧ ∀ x ∈ g, x.frm = tick ∧ ∃ i : Nat, i < n ∧ x.chg = (i : Int) ∧ x.amp ≤ v i
theorem GrOk.grant {n : Nat} {tick num num0 : Int} {v : Nat → Int} {l : List Lse} {j : Nat} {ls : List Lse} (h : GrOk n tick num num0 v l j ls) {x : Lse} (hok : LseOk x) (hfr : ∀ y ∈ ls, y.frm ≤ tick) (h1 : x.num = num0 + (j : Int)) (h2 : x.frm = tick) (h3 : ∃ i : Nat, i < n ∧ x.chg = (i : Int) ∧ x.amp ≤ v i) (hl : ls.length < 64) : GrOk n tick (x.num + 1) num0 v l (j + 1) (ls ++ [x]) := by
  have h4 := h.n1
  have h5 := h.n2
  refine ⟨⟨by rw [List.length_append]; simp; omega, ?_, ?_⟩, ?_, by omega, by omega, ?_⟩
  · intro y hy
    rcases List.mem_append.1 hy with hy | hy
    · exact h.lo.ok y hy
    · rw [List.mem_singleton] at hy; subst hy; exact hok
  · rw [List.pairwise_append]
    refine ⟨h.lo.chain, by simp, fun a ha b hb => ?_⟩
    rw [List.mem_singleton] at hb
    subst hb
    exact ⟨by have := h.nu a ha; omega, by rw [h2]; exact hfr a ha⟩
  · intro y hy
    rcases List.mem_append.1 hy with hy | hy
    · have := h.nu y hy; omega
    · rw [List.mem_singleton] at hy; subst hy; omega
  · obtain ⟨g, hg, hx⟩ := h.g
    refine ⟨g ++ [x], by rw [hg, List.append_assoc], fun y hy => ?_⟩
    rcases List.mem_append.1 hy with hy | hy
    · exact hx y hy
    · rw [List.mem_singleton] at hy; subst hy; exact ⟨h2, h3⟩
theorem GrOk.pass {n : Nat} {tick num num0 : Int} {v : Nat → Int} {l : List Lse} {j : Nat} {ls : List Lse} (h : GrOk n tick num num0 v l j ls) : GrOk n tick num num0 v l (j + 1) ls :=
  ⟨h.lo, h.nu, h.n1, by have := h.n2; omega, h.g⟩
end Go.Proofs.YtkbbapefgifagaaGreatDoor
