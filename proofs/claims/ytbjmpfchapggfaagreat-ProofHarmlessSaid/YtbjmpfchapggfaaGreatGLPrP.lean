/-
Several texts in one: PrHd, OwnW, PrPk, PrF.
-/
import Derived.Test.YtbjmpfchapggfaaGreatGLPrV
import Derived.Test.YtbjmpfchapggfaaGreatGLLimG
import Derived.Test.YtbjmpfchapggfaaGreatGBase
import Derived.Test.YtbjmpfchapggfaaGreatGLApp
import Derived.Test.YtbjmpfchapggfaaGreatGLSiteR
import Derived.Test.YtbjmpfchapggfaaGreatGLPrC
import Derived.Test.YtbjmpfchapggfaaGreatGLRefA
/-
Law 10's head: the site with a feeder and three chargers, in plain numbers.
-/
namespace Go.Proofs.YtbjmpfchapggfaaGreat
open Go.RowKit
set_option linter.unusedVariables false
set_option linter.unusedSimpArgs false
def pkC (n : Int) : GCon := ⟨⟨#[102]⟩, -1, n, 100, 0, 0, 0, 0, 0, 0, 0⟩
def pkG (b : UInt8) : GChg := ⟨⟨#[b]⟩, 0, 1, 6, 32, 1, 0, 0⟩
def pkS (n : Int) : GSite := ⟨[pkC n], [⟨#[111]⟩], [], [pkG 120, pkG 121, pkG 122], []⟩
theorem pkS_ok {n : Int} (hn : n = 50 ∨ n = 67 ∨ n = 68 ∨ n = 70) : OkSite keyL (pkS n) := by
  refine ⟨(show 1 ≤ 1 by decide), (show 1 ≤ 16 by decide), (show 1 ≤ 8 by decide), (show 0 ≤ 32 by decide), (show 3 ≤ 16 by decide), (show 0 ≤ 24 by decide), ⟨?_, ?_⟩, ?_, ?_, List.nodup_nil, ?_, ?_⟩
  · intro x hx
    have hx' : x ∈ [(⟨#[102]⟩ : ByteArray), ⟨#[111]⟩, ⟨#[120]⟩, ⟨#[121]⟩, ⟨#[122]⟩] := hx
    simp only [List.mem_cons, List.not_mem_nil, or_false] at hx'
    rcases hx' with rfl | rfl | rfl | rfl | rfl <;> exact okName1 (by decide) (by decide)
  · have e : (allNames (pkS n)).map (·.toList) = [[102], [111], [120], [121], [122]] := by
      show [(⟨#[102]⟩ : ByteArray), ⟨#[111]⟩, ⟨#[120]⟩, ⟨#[121]⟩, ⟨#[122]⟩].map (·.toList) = _
      simp only [List.map_cons, List.map_nil, ByteArray.toList_eq]
    rw [e]
    decide
  · intro i c hc
    match i, hc with
    | 0, hc =>
      cases hc
      rcases hn with rfl | rfl | rfl | rfl <;> decide
    | i + 1, hc => cases hc
  · intro c hc; cases hc
  · intro c hc
    have hc' : c ∈ [pkG 120, pkG 121, pkG 122] := hc
    simp only [List.mem_cons, List.not_mem_nil, or_false] at hc'
    rcases hc' with rfl | rfl | rfl
    · show okChg 1 1 (pkG 120) = true; decide
    · show okChg 1 1 (pkG 121) = true; decide
    · show okChg 1 1 (pkG 122) = true; decide
  · intro c hc; cases hc
def pkT : List Int := [32, 16, 20]
theorem pk_load {n : Int} (hn : n = 50 ∨ n = 67 ∨ n = 68 ∨ n = 70) : loadB (pkS n) pkT = true := by
  refine loadB_yes (okSB_iff.2 (pkS_ok hn)) (curB_iff.2 ⟨rfl, fun i hi => ?_⟩)
  have hi' : i < 3 := hi
  match i, hi' with
  | 0, _ => decide
  | 1, _ => decide
  | 2, _ => decide
theorem pk_short (n : Int) : loadB (pkS n) [32, 16] = false := loadB_no2 (by
  cases h : curB (pkS n) [32, 16]
  · rfl
  · exact absurd (curB_iff.1 h).1 (show ¬ (2 = 3) by decide))
theorem pk_vio50 : vioO (pkS 50) pkT = some 0 := vioO_at (pk_load (.inl rfl)) (by decide) (fun i hi => by omega) (by rfl)
theorem pk_vio68 : vioO (pkS 68) pkT = none := vioO_all (pk_load (.inr (.inr (.inl rfl)))) (fun t ht => by
  have ht' : t < 3 := ht
  match t, ht' with
  | 0, _ => rfl
  | 1, _ => rfl
  | 2, _ => rfl)
theorem pk_loads : loadsOf (pkS 68) pkT = [(68, 0, 0)] := rfl
theorem pk_mem : memL (pkS 50) 0 = [0, 1, 2] := rfl
theorem pk_lim (n : Int) (h : 0 ≤ n ∧ n ≤ 100) : limAt (pkS n) 0 = limV (pkC n) := rfl
def pkV (j : Nat) : Int := if j = 0 then 0 else if j = 1 then 2 else 1
theorem pk_sort {v : Nat → Int} (h : Sorts (keyW pkT) 0 3 (fI [0, 1, 2]) v) : ∀ j, j < 3 → v j = pkV j := by
  have hm : ∀ k, k < 3 → v k = 0 ∨ v k = 1 ∨ v k = 2 := fun k hk => by
    obtain ⟨j, h1, h2, h3⟩ := h.mem (Nat.zero_le k) hk
    rw [h3]
    match j, h2 with
    | 0, _ => exact .inl rfl
    | 1, _ => exact .inr (.inl rfl)
    | 2, _ => exact .inr (.inr rfl)
  have k0 : keyW pkT 0 = 32 := rfl
  have k1 : keyW pkT 1 = 16 := rfl
  have k2 : keyW pkT 2 = 20 := rfl
  have s1 := h.sorted 0 1 (by omega) (by omega) (by omega)
  have s2 := h.sorted 1 2 (by omega) (by omega) (by omega)
  unfold klt at s1 s2
  have m0 := hm 0 (by omega)
  have m1 := hm 1 (by omega)
  have m2 := hm 2 (by omega)
  have hv : v 0 = 0 ∧ v 1 = 2 ∧ v 2 = 1 := by
    rcases m0 with e0 | e0 | e0 <;> rcases m1 with e1 | e1 | e1 <;> rcases m2 with e2 | e2 | e2 <;> rw [e0, e1] at s1 <;> rw [e1, e2] at s2 <;> rw [e0, e1, e2] <;> simp only [k0, k1, k2] at s1 s2 <;> omega
  intro j hj
  match j, hj with
  | 0, _ => exact hv.1
  | 1, _ => exact hv.2.1
  | 2, _ => exact hv.2.2
theorem outW_congr {f v v' : Nat → Int} {L : Int} {k : Nat} (h : ∀ j, j < k → v j = v' j) (i : Nat) : outW f v L k i = outW f v' L k i := by
  unfold outW
  refine S_congr (fun j hj => ?_)
  have hp : preS f v j = preS f v' j := by
    unfold preS
    exact S_congr (fun m hm => by rw [h m (by omega)])
  unfold cutW
  rw [h j hj, hp]
theorem pk_wit {ws : List Int} (h : IsWit (pkS 50) pkT 0 ws) : ws = [32, 0, 19] := by
  obtain ⟨v, h1, h2⟩ := h
  have h3 := pk_sort h1
  rw [h2]
  show rowN (outW (fI pkT) v 51 3) 3 = _
  rw [rowN_congr (fun i _ => outW_congr h3 i)]
  rfl
theorem pk_prove50 {ps : List R3} {ws : List Int} {er : Int} (h : PvR (pkS 50) pkT ps ws er) : ps = [] ∧ ws = [32, 0, 19] ∧ er = 13 := by
  rcases h with ⟨h, _⟩ | ⟨_, t, h1, h2, h3, h4⟩ | ⟨_, h, _⟩
  · rw [pk_load (.inl rfl)] at h; cases h
  · rw [pk_vio50] at h1
    injection h1 with h1
    subst h1
    exact ⟨h2, pk_wit h4, h3⟩
  · rw [pk_vio50] at h; cases h
theorem pk_prove68 {ps : List R3} {ws : List Int} {er : Int} (h : PvR (pkS 68) pkT ps ws er) : ps = [(68, 0, 0)] ∧ ws = [] ∧ er = 0 := by
  rcases h with ⟨h, _⟩ | ⟨_, t, h1, _⟩ | ⟨_, _, h1, h2, h3⟩
  · rw [pk_load (.inr (.inr (.inl rfl)))] at h; cases h
  · rw [pk_vio68] at h1; cases h1
  · exact ⟨h1.trans pk_loads, h2, h3⟩
theorem pk_proveS {n : Int} {ps : List R3} {ws : List Int} {er : Int} (h : PvR (pkS n) [32, 16] ps ws er) : ps = [] ∧ ws = [] ∧ er = 1 := by
  rcases h with ⟨_, h1, h2, h3⟩ | ⟨h, _⟩ | ⟨h, _⟩
  · exact ⟨h1, h2, h3⟩
  · rw [pk_short] at h; cases h
  · rw [pk_short] at h; cases h
theorem pk_ok1 {n a b c : Int} (hl : limAt (pkS n) 0 = n) (h : 68 ≤ a ∧ a ≤ n ∧ 0 ≤ b ∧ b ≤ n ∧ 0 ≤ c ∧ c ≤ n) : okPr (pkS n) (fI pkT) (F3 [(a, b, c)]) := by
  intro k hk p hp
  have hk' : k < 1 := hk
  have hk0 : k = 0 := by omega
  subst hk0
  rw [hl]
  have o0 : ownA (pkS n) (fI pkT) 0 (pkS n).chgs.length 0 = 68 := rfl
  have o1 : ownA (pkS n) (fI pkT) 0 (pkS n).chgs.length 1 = 0 := rfl
  have o2 : ownA (pkS n) (fI pkT) 0 (pkS n).chgs.length 2 = 0 := rfl
  match p, hp with
  | 0, _ => show (68 + 0 : Int) ≤ a ∧ a ≤ n; omega
  | 1, _ => show (0 + 0 : Int) ≤ b ∧ b ≤ n; omega
  | 2, _ => show (0 + 0 : Int) ≤ c ∧ c ≤ n; omega
theorem pk_c68 : prB (pkS 68) pkT [(68, 0, 0)] = true := prB_yes (pk_load (.inr (.inr (.inl rfl)))) rfl (pk_ok1 rfl (by omega))
theorem pk_c70 : prB (pkS 70) pkT [(70, 5, 0)] = true := prB_yes (pk_load (.inr (.inr (.inr rfl)))) rfl (pk_ok1 rfl (by omega))
theorem pk_c67 : prB (pkS 67) pkT [(68, 0, 0)] = false := prB_no (fun h => by
  have h1 := (h.2.2 0 (by decide) 0 (by decide)).2
  have h2 : (68 : Int) ≤ 67 := h1
  omega)
theorem pk_c70b : prB (pkS 70) pkT [(67, 0, 0)] = false := prB_no (fun h => by
  have h1 := (h.2.2 0 (by decide) 0 (by decide)).1
  have h2 : (68 + 0 : Int) ≤ 67 := h1
  omega)
theorem pk_c70n : prB (pkS 70) pkT [] = false := prB_no (fun h => by
  have h1 : 0 = 1 := h.2.1
  omega)
/-- What park does. -/
def PkPost (n : Int) (w : World) (e : Ending) (w' : World) : Prop := ∃ a1 c1 a2 c2 a4 c4, e = .returned (.agg #[.slice a1 1 c1, .slice a2 1 c2, .slice none 0 0, .slice a4 3 c4, .slice none 0 0]) ∧ RdSite w' a1 a2 none a4 none 1 1 0 3 0 (pkS n) ∧ Below w.heap.size w w' ∧ (∀ a, a1 = some a → w.heap.size ≤ a.block) ∧ (∀ a, a2 = some a → w.heap.size ≤ a.block) ∧ ∀ a, a4 = some a → w.heap.size ≤ a.block
end Go.Proofs.YtbjmpfchapggfaaGreat
/-
Lists of the call's own that are written: what their cells hold.
-/
namespace Go.Proofs.YtbjmpfchapggfaaGreat
open Go.RowKit
set_option linter.unusedVariables false
set_option linter.unusedSimpArgs false
theorem OwnR.open_ {α : Type} {t : TypeId} {sz : Nat} {enc : α → List Value} {w : World} {base : Nat} {v : Value} {xs : List α} (hsz : ∀ x, (enc x).length = sz) (h : OwnR t sz enc w base v xs) (h0 : 0 < xs.length) :
    ∃ g cap F, v = .slice (some ⟨g, 0, none⟩) xs.length cap ∧ base ≤ g ∧ xs.length ≤ cap ∧ cap ≤ maxLen ∧ Own w g t (cap * sz) F ∧ ∀ k x j u, xs[k]? = some x → (enc x)[j]? = some u → F (k * sz + j) = u := by
  rcases h.2 with ⟨h1, h2⟩ | ⟨g, cap, cur, hv, hb, hg, hl, hm, hs, hc⟩
  · omega
  · refine ⟨g, cap, fun i => cur[i]?.getD (.int .i64 0), hv, hb, hl, hm, ⟨cur, hg, by omega, fun i hi => ?_⟩, fun k x j u hx hu => ?_⟩
    · have : i < cur.size := by omega
      simp [Array.getElem?_eq_getElem this]
    · have h3 := flatR_at hsz xs k j x u hx hu
      have hk := (List.getElem?_eq_some_iff.1 hx).1
      have hj : j < sz := by rw [← hsz x]; exact (List.getElem?_eq_some_iff.1 hu).1
      have hlt : k * sz + j < xs.length * sz := by
        have : k * sz + sz ≤ xs.length * sz := by rw [← Nat.succ_mul]; exact Nat.mul_le_mul_right _ hk
        omega
      rw [← hc, List.getElem?_take_of_lt hlt, Array.getElem?_toList] at h3
      dsimp only
      rw [h3]
      rfl
theorem encCon_one (c : GCon) (u : Value) (h : u ∈ encCon c) : u.oneCell' = true := by
  simp [encCon] at h
  rcases h with rfl | rfl | rfl | rfl | rfl | rfl | rfl | rfl | rfl | rfl | rfl <;> rfl
theorem infoCond : (Tryz.prog.info? 50).map (fun i => (i.zero, i.size, i.bytes)) = some (some (.agg #[.string ⟨#[]⟩, .int .i64 0, .int .i64 0, .int .i64 0, .int .i64 0, .int .i64 0, .int .i64 0, .int .i64 0, .int .i64 0, .int .i64 0, .int .i64 0]), 11, 96) := by kernel_rfl
/-- Room for some conductors. -/
theorem mk_conds (n : Nat) (hn : n ≤ 1000) : ∃ mc : Array Value, (∀ W : World, (Instr.makeSlice 22 (.int .i64 0) (.int .i64 n)).run Tryz.prog W = .ok (.slice (some ⟨W.heap.size, 0, none⟩) 0 n) (W.alloc (.cells mc 50))) ∧ ∀ (W : World) (base : Nat), base ≤ W.heap.size → OwnR 50 11 encCon (W.alloc (.cells mc 50)) base (.slice (some ⟨W.heap.size, 0, none⟩) 0 n) ([] : List GCon) := by
  refine ⟨madeCells (Value.agg #[.string ⟨#[]⟩, .int .i64 0, .int .i64 0, .int .i64 0, .int .i64 0, .int .i64 0, .int .i64 0, .int .i64 0, .int .i64 0, .int .i64 0, .int .i64 0]).cells (n * 11), fun W => ?_, fun W base hb => ?_⟩
  · exact mk_noneR 22 50 _ 11 96 Tryz.underlying22 infoCond n (by omega) (by omega) W
  · refine OwnR.made W _ n (by unfold maxLen; omega) ?_ hb
    simp [madeCells]
theorem app_conds {w : World} {base : Nat} {v : Value} {xs ys : List GCon} {A : Option Addr} {m c : Nat} (h : OwnR 50 11 encCon w base v xs) (hy : Rd 11 encCon w A ys) (hym : ys.length = m) (hb : base ≤ w.heap.size) (hl : xs.length + m ≤ 1000) :
    Appends Tryz.prog w 22 22 v (.slice A m c) ∧ ∃ v' w1, appV Tryz.prog w 22 22 v (.slice A m c) = v' ∧ appW Tryz.prog w 22 22 v (.slice A m c) = w1 ∧ Hid (OwnR 50 11 encCon w1 base v' (xs ++ ys)) ∧ Hid (Aside base v v' w w1) :=
  app_argR infoCond Tryz.underlying22 rfl (by omega) encCon_len encCon_one h hy hym hb (by unfold maxLen; omega) (Nat.le_trans (Nat.mul_le_mul hl (Nat.le_refl 96)) (by omega))
end Go.Proofs.YtbjmpfchapggfaaGreat
/-
Law 10's park.
-/
namespace Go.Proofs.YtbjmpfchapggfaaGreat
open Go.RowKit
set_option linter.unusedVariables false
set_option linter.unusedSimpArgs false
theorem encChg_one (c : GChg) (u : Value) (h : u ∈ encChg c) : u.oneCell' = true := by
  simp [encChg] at h
  rcases h with rfl | rfl | rfl | rfl | rfl | rfl | rfl | rfl <;> rfl
theorem infoChg : (Tryz.prog.info? 64).map (fun i => (i.zero, i.size, i.bytes)) = some (some (.agg #[.string ⟨#[]⟩, .int .i64 0, .int .i64 0, .int .i64 0, .int .i64 0, .int .i64 0, .int .i64 0, .int .i64 0]), 8, 72) := by kernel_rfl
def pkCh (k : Nat) : List GChg := ([pkG 120, pkG 121, pkG 122] : List GChg).take k
def pkB (k : Nat) : UInt8 := if k = 0 then 120 else if k = 1 then 121 else 122
theorem pkCh_succ {k : Nat} (h : k < 3) : pkCh (k + 1) = pkCh k ++ [pkG (pkB k)] := by
  match k, h with
  | 0, _ => rfl
  | 1, _ => rfl
  | 2, _ => rfl
def pkBx (b1 b2 : Nat) (v : Value) (i : Nat) : Value := if i = 0 then .slice (some ⟨b1, 0, none⟩) 1 1 else if i = 1 then .slice (some ⟨b2, 0, none⟩) 1 1 else if i = 3 then v else .slice none 0 0
set_option maxRecDepth 100000 in
set_option maxHeartbeats 4000000 in
theorem ltenPark_any (n : Int) (w : World) : Calls Tryz.prog 21 #[.int .i64 n] w fun e w' => PkPost n w e w' := by
  go_enter Tryz.func21, Tryz.ntmps21
  go_wp2_with fail
  obtain ⟨W, hW⟩ : ∃ W, W = (((((w.alloc (.cells #[.slice none 0 0, .slice none 0 0, .slice none 0 0, .slice none 0 0, .slice none 0 0] 28)).alloc (.cells #[.string ⟨#[102]⟩, .int .i64 (-1), .int .i64 n, .int .i64 100, .int .i64 0, .int .i64 0, .int .i64 0, .int .i64 0, .int .i64 0, .int .i64 0, .int .i64 0] 50)).alloc (.cells #[.string ⟨#[111]⟩] 117)).alloc (.cells #[.slice (some ⟨w.heap.size + 1, 0, none⟩) 1 1, .slice (some ⟨w.heap.size + 1 + 1, 0, none⟩) 1 1, .slice none 0 0, .slice none 0 0, .slice none 0 0] 28)).alloc (.cells #[.string ⟨#[120]⟩, .string ⟨#[121]⟩, .string ⟨#[122]⟩] 9)) := ⟨_, rfl⟩
  rw [← hW]
  have hz : W.heap.size = w.heap.size + 5 := by rw [hW]; simp
  have o0 : Own W w.heap.size 28 5 (fun _ => .slice none 0 0) := by
    have h := ((((Own.new w 28 #[.slice none 0 0, .slice none 0 0, .slice none 0 0, .slice none 0 0, .slice none 0 0] undef).alloc (.cells #[.string ⟨#[102]⟩, .int .i64 (-1), .int .i64 n, .int .i64 100, .int .i64 0, .int .i64 0, .int .i64 0, .int .i64 0, .int .i64 0, .int .i64 0, .int .i64 0] 50)).alloc (.cells #[.string ⟨#[111]⟩] 117)).alloc (.cells #[.slice (some ⟨w.heap.size + 1, 0, none⟩) 1 1, .slice (some ⟨w.heap.size + 1 + 1, 0, none⟩) 1 1, .slice none 0 0, .slice none 0 0, .slice none 0 0] 28)).alloc (.cells #[.string ⟨#[120]⟩, .string ⟨#[121]⟩, .string ⟨#[122]⟩] 9)
    rw [hW]
    exact h.congr (fun i hi => by match i, hi with | 0, _ => rfl | 1, _ => rfl | 2, _ => rfl | 3, _ => rfl | 4, _ => rfl)
  have o3 : Own W (w.heap.size + 1 + 1 + 1) 28 5 (pkBx (w.heap.size + 1) (w.heap.size + 1 + 1) (.slice none 0 0)) := by
    have h := (Own.new (((w.alloc (.cells #[.slice none 0 0, .slice none 0 0, .slice none 0 0, .slice none 0 0, .slice none 0 0] 28)).alloc (.cells #[.string ⟨#[102]⟩, .int .i64 (-1), .int .i64 n, .int .i64 100, .int .i64 0, .int .i64 0, .int .i64 0, .int .i64 0, .int .i64 0, .int .i64 0, .int .i64 0] 50)).alloc (.cells #[.string ⟨#[111]⟩] 117)) 28 #[.slice (some ⟨w.heap.size + 1, 0, none⟩) 1 1, .slice (some ⟨w.heap.size + 1 + 1, 0, none⟩) 1 1, .slice none 0 0, .slice none 0 0, .slice none 0 0] undef).alloc (.cells #[.string ⟨#[120]⟩, .string ⟨#[121]⟩, .string ⟨#[122]⟩] 9)
    rw [World.size_alloc, World.size_alloc, World.size_alloc] at h
    rw [hW]
    exact h.congr (fun i hi => by match i, hi with | 0, _ => rfl | 1, _ => rfl | 2, _ => rfl | 3, _ => rfl | 4, _ => rfl)
  have r1 : Rd 11 encCon W (some ⟨w.heap.size + 1, 0, none⟩) (pkS n).cons := by
    have h := rd_lit (sz := 11) (enc := encCon) (fun _ => rfl) (w.alloc (.cells #[.slice none 0 0, .slice none 0 0, .slice none 0 0, .slice none 0 0, .slice none 0 0] 28)) 50 #[.string ⟨#[102]⟩, .int .i64 (-1), .int .i64 n, .int .i64 100, .int .i64 0, .int .i64 0, .int .i64 0, .int .i64 0, .int .i64 0, .int .i64 0, .int .i64 0] (pkS n).cons rfl
    rw [World.size_alloc] at h
    rw [hW]
    exact ((h.keep ((Below.refl _ _).alloc (Nat.le_refl _) _)).keep ((Below.refl _ _).alloc (Nat.le_refl _) _)).keep ((Below.refl _ _).alloc (Nat.le_refl _) _)
  have r2 : Rd 1 encS W (some ⟨w.heap.size + 1 + 1, 0, none⟩) (pkS n).owns := by
    have h := rd_lit (sz := 1) (enc := encS) (fun _ => rfl) ((w.alloc (.cells #[.slice none 0 0, .slice none 0 0, .slice none 0 0, .slice none 0 0, .slice none 0 0] 28)).alloc (.cells #[.string ⟨#[102]⟩, .int .i64 (-1), .int .i64 n, .int .i64 100, .int .i64 0, .int .i64 0, .int .i64 0, .int .i64 0, .int .i64 0, .int .i64 0, .int .i64 0] 50)) 117 #[.string ⟨#[111]⟩] (pkS n).owns rfl
    rw [World.size_alloc, World.size_alloc] at h
    rw [hW]
    exact (h.keep ((Below.refl _ _).alloc (Nat.le_refl _) _)).keep ((Below.refl _ _).alloc (Nat.le_refl _) _)
  have hnm : ∀ k, k < 3 → W.cell? ⟨w.heap.size + 1 + 1 + 1 + 1, k, none⟩ = some (.string ⟨#[pkB k]⟩) := by
    intro k hk
    rw [hW]
    match k, hk with
    | 0, _ => go_simp; rfl
    | 1, _ => go_simp; rfl
    | 2, _ => go_simp; rfl
  have bW : Below w.heap.size w W := by
    rw [hW]
    exact (((((Below.refl _ w).alloc (Nat.le_refl _) _).alloc (by simp) _).alloc (by simp; omega) _).alloc (by simp; omega) _).alloc (by simp; omega) _
  have HO0 := Lib.hid o0
  have HO3 := Lib.hid o3
  have HR1 := Lib.hid r1
  have HR2 := Lib.hid r2
  have HNM := Lib.hid hnm
  have HBW := Lib.hid bW
  have HZ := Lib.hid hz
  clear hW o0 o3 r1 r2 hnm bW hz
  obtain ⟨X, hX⟩ : ∃ X, X = w.heap.size := ⟨_, rfl⟩
  rw [← hX] at HO0 HO3 HR1 HR2 HNM HZ ⊢
  have HSZ : Hid (w.heap.size = X) := Lib.hid hX.symm
  clear hX
  have HL0 : Hid (OwnR 64 8 encChg W W.heap.size (.slice none 0 0) (pkCh 0)) := Lib.hid (OwnR.nil _ _)
  go_loopg [5, 14] 3 (fun gg _ v14 wr => ∃ (k : Nat) (v : Value), v14 = .int .i64 k ∧ k ≤ 3 ∧ 3 - k ≤ gg ∧ Hid (∃ a c, v = .slice a k c) ∧ Hid (OwnR 64 8 encChg wr W.heap.size v (pkCh k)) ∧ Hid (Own wr (X + 1 + 1 + 1) 28 5 (pkBx (X + 1) (X + 1 + 1) v)) ∧ Hid (Mod (fun j => j = X + 1 + 1 + 1 ∨ W.heap.size ≤ j) W wr))
  case atStart => exact ⟨0, .slice none 0 0, by go_num, by omega, by omega, Lib.hid ⟨none, 0, rfl⟩, HL0, HO3, Lib.hid (Mod.refl _ _)⟩
  case round =>
    clear HL0 HO3
    obtain ⟨k, v, rfl, hk, hgg, HV, HL, HB, HM⟩ := hrel
    obtain ⟨av0, cv0, hv0⟩ := HV.out
    by_cases hlt : k < 3
    · have hltz : (k : Int) < 3 := by omega
      have nm := (HM.out.cell (p := ⟨X + 1 + 1 + 1 + 1, k, none⟩) (World.block_lt_of_cell? _ _ (HNM.out k hlt)) (by show ¬ (X + 1 + 1 + 1 + 1 = X + 1 + 1 + 1 ∨ W.heap.size ≤ X + 1 + 1 + 1 + 1); have := HZ.out; omega)).trans (HNM.out k hlt)
      have b3 : wr.cell? ⟨X + 1 + 1 + 1, 3, none⟩ = some v := HB.out.cell (i := 3) (by omega)
      subst hv0
      have hsw : W.heap.size ≤ wr.heap.size := HM.out.size
      obtain ⟨ap, v', w2, av, aw, HL1, HA1⟩ := app_lit (P := Tryz.prog) (ty := 25) (c := 1) infoChg Tryz.underlying25 rfl (by omega) encChg_len encChg_one HL.out hsw (lit := #[.string ⟨#[pkB k]⟩, .int .i64 0, .int .i64 1, .int .i64 6, .int .i64 32, .int .i64 1, .int .i64 0, .int .i64 0]) (ys := [pkG (pkB k)]) (m := 1) rfl rfl (by unfold pkCh; simp; omega) (by omega)
      have hlt3 : X + 1 + 1 + 1 < W.heap.size := by have := HZ.out; omega
      have HB2 := Lib.hid (HB.out.keep HA1.out.bel hlt3)
      have hln : (pkCh k ++ [pkG (pkB k)]).length = k + 1 := by unfold pkCh; simp; omega
      obtain ⟨a', c', hv'⟩ := HL1.out.shape
      rw [hln] at hv'
      have c3 := HB2.out.cell (i := 3) (by omega)
      have f3 := HB2.out.frozen 3
      have hst : Mod (fun j => j = X + 1 + 1 + 1) w2 (w2.setCell ⟨X + 1 + 1 + 1, 3, none⟩ v') := (show Mod (fun j => j = X + 1 + 1 + 1) w2 w2 from Mod.refl _ w2).setCell (p := ⟨X + 1 + 1 + 1, 3, none⟩) (.inl rfl) _
      have HL2 : Hid (OwnR 64 8 encChg (w2.setCell ⟨X + 1 + 1 + 1, 3, none⟩ v') W.heap.size v' (pkCh (k + 1))) := Lib.hid (by
        rw [pkCh_succ hlt]
        exact HL1.out.mod hst (fun q hq e => by
          have := (World.ownsRow.lt HL1.out _ hq).1
          omega))
      have HB3 : Hid (Own (w2.setCell ⟨X + 1 + 1 + 1, 3, none⟩ v') (X + 1 + 1 + 1) 28 5 (pkBx (X + 1) (X + 1 + 1) v')) := Lib.hid ((HB2.out.set 3 v').congr (fun i hi => by
        match i, hi with
        | 0, _ => rfl
        | 1, _ => rfl
        | 2, _ => rfl
        | 3, _ => rfl
        | 4, _ => rfl))
      have HM3 : Hid (Mod (fun j => j = X + 1 + 1 + 1 ∨ W.heap.size ≤ j) W (w2.setCell ⟨X + 1 + 1 + 1, 3, none⟩ v')) := Lib.hid ((HM.out.trans ((Mod.of_below HA1.out.bel).mono (fun j _ h => .inr (by omega)))).trans (hst.mono (fun j _ h => .inl h)))
      have HV3 : Hid (∃ a c, v' = .slice a ((k + 1 : Nat) : Nat) c) := Lib.hid ⟨a', c', hv'⟩
      subst hv'
      clear HL1 HA1 HB2 HL HB HM HV hst hln
      go_wp2_with fail
      go_roundg (3 - (k + 1))
      case measure => omega
      case rel => exact ⟨k + 1, _, by go_num, by omega, by omega, HV3, HL2, HB3, HM3⟩
    · have hltz : ¬ (k : Int) < 3 := by omega
      have e3 : k = 3 := by omega
      subst e3
      subst hv0
      have hz := HZ.out
      have HR0 := HO0.out.mod HM.out (fun h => by omega)
      have b0 : wr.cell? ⟨X + 1 + 1 + 1, 0, none⟩ = some (.slice (some ⟨X + 1, 0, none⟩) 1 1) := HB.out.cell (i := 0) (by omega)
      have b1 : wr.cell? ⟨X + 1 + 1 + 1, 1, none⟩ = some (.slice (some ⟨X + 1 + 1, 0, none⟩) 1 1) := HB.out.cell (i := 1) (by omega)
      have b2 : wr.cell? ⟨X + 1 + 1 + 1, 2, none⟩ = some (.slice none 0 0) := HB.out.cell (i := 2) (by omega)
      have b3 : wr.cell? ⟨X + 1 + 1 + 1, 3, none⟩ = some (.slice av0 3 cv0) := HB.out.cell (i := 3) (by omega)
      have b4 : wr.cell? ⟨X + 1 + 1 + 1, 4, none⟩ = some (.slice none 0 0) := HB.out.cell (i := 4) (by omega)
      have c0 := HR0.cell (i := 0) (by omega)
      have c1 := HR0.cell (i := 1) (by omega)
      have c2 := HR0.cell (i := 2) (by omega)
      have c3 := HR0.cell (i := 3) (by omega)
      have c4 := HR0.cell (i := 4) (by omega)
      have f0 := HR0.frozen 0
      have f1 := HR0.frozen 1
      have f2 := HR0.frozen 2
      have f3 := HR0.frozen 3
      have f4 := HR0.frozen 4
      have HR0h := Lib.hid HR0
      have hmx : Mod (fun j => j = X) wr (((((wr.setCell ⟨X, 0, none⟩ (.slice (some ⟨X + 1, 0, none⟩) 1 1)).setCell ⟨X, 1, none⟩ (.slice (some ⟨X + 1 + 1, 0, none⟩) 1 1)).setCell ⟨X, 2, none⟩ (.slice none 0 0)).setCell ⟨X, 3, none⟩ (.slice av0 3 cv0)).setCell ⟨X, 4, none⟩ (.slice none 0 0)) := (((((show Mod (fun j => j = X) wr wr from Mod.refl _ wr).setCell (p := ⟨X, 0, none⟩) (.inl rfl) _).setCell (p := ⟨X, 1, none⟩) (.inl rfl) _).setCell (p := ⟨X, 2, none⟩) (.inl rfl) _).setCell (p := ⟨X, 3, none⟩) (.inl rfl) _).setCell (p := ⟨X, 4, none⟩) (.inl rfl) _
      have hmw : Mod (fun j => j = X ∨ j = X + 1 + 1 + 1 ∨ W.heap.size ≤ j) W (((((wr.setCell ⟨X, 0, none⟩ (.slice (some ⟨X + 1, 0, none⟩) 1 1)).setCell ⟨X, 1, none⟩ (.slice (some ⟨X + 1 + 1, 0, none⟩) 1 1)).setCell ⟨X, 2, none⟩ (.slice none 0 0)).setCell ⟨X, 3, none⟩ (.slice av0 3 cv0)).setCell ⟨X, 4, none⟩ (.slice none 0 0)) := (HM.out.mono (fun j _ h => .inr h)).trans (hmx.mono (fun j _ h => .inl h))
      have HOF := Lib.hid (((((HR0.set 0 (.slice (some ⟨X + 1, 0, none⟩) 1 1)).set 1 (.slice (some ⟨X + 1 + 1, 0, none⟩) 1 1)).set 2 (.slice none 0 0)).set 3 (.slice av0 3 cv0)).set 4 (.slice none 0 0))
      have HF : Hid (PkPost n w (.returned (.agg #[.slice (some ⟨X + 1, 0, none⟩) 1 1, .slice (some ⟨X + 1 + 1, 0, none⟩) 1 1, .slice none 0 0, .slice av0 3 cv0, .slice none 0 0])) (((((wr.setCell ⟨X, 0, none⟩ (.slice (some ⟨X + 1, 0, none⟩) 1 1)).setCell ⟨X, 1, none⟩ (.slice (some ⟨X + 1 + 1, 0, none⟩) 1 1)).setCell ⟨X, 2, none⟩ (.slice none 0 0)).setCell ⟨X, 3, none⟩ (.slice av0 3 cv0)).setCell ⟨X, 4, none⟩ (.slice none 0 0))) := Lib.hid (by
        obtain ⟨a, c, e, hr⟩ := HL.out.rd encChg_len
        injection e with e1 _ _
        have hfr : ∀ x, av0 = some x → W.heap.size ≤ x.block := fun x hx => by
          have := (World.ownsRow.lt HL.out x.block (by rw [hx]; rfl)).1
          exact this
        have hr4 : Rd 8 encChg (((((wr.setCell ⟨X, 0, none⟩ (.slice (some ⟨X + 1, 0, none⟩) 1 1)).setCell ⟨X, 1, none⟩ (.slice (some ⟨X + 1 + 1, 0, none⟩) 1 1)).setCell ⟨X, 2, none⟩ (.slice none 0 0)).setCell ⟨X, 3, none⟩ (.slice av0 3 cv0)).setCell ⟨X, 4, none⟩ (.slice none 0 0)) av0 (pkS n).chgs := by
          have hr' : Rd 8 encChg wr av0 (pkCh 3) := by rw [e1]; exact hr
          exact hr'.mod hmx (fun x hx _ h => by have := hfr x hx; have := HZ.out; omega)
        have hsz := HSZ.out
        refine ⟨some ⟨X + 1, 0, none⟩, 1, some ⟨X + 1 + 1, 0, none⟩, 1, av0, cv0, rfl, ⟨HR1.out.mod hmw (fun x hx _ h => ?_), HR2.out.mod hmw (fun x hx _ h => ?_), Rd.nil, hr4, Rd.nil, rfl, rfl, rfl, rfl, rfl, by omega, by omega, by omega, by omega, by omega, fun x hx => ?_⟩, HBW.out.trans (hmw.below HBW.out.size (fun j _ h => by omega)), fun x hx => ?_, fun x hx => ?_, fun x hx => by have := hfr x hx; omega⟩
        · injection hx with hx
          subst hx
          dsimp only at h
          omega
        · injection hx with hx
          subst hx
          dsimp only at h
          omega
        · have hx' : x ∈ [(⟨#[102]⟩ : ByteArray), ⟨#[111]⟩, ⟨#[120]⟩, ⟨#[121]⟩, ⟨#[122]⟩] := hx
          simp only [List.mem_cons, List.not_mem_nil, or_false] at hx'
          rcases hx' with rfl | rfl | rfl | rfl | rfl <;> (show 1 ≤ maxLen; unfold maxLen; omega)
        · injection hx with hx
          subst hx
          show w.heap.size ≤ X + 1
          omega
        · injection hx with hx
          subst hx
          show w.heap.size ≤ X + 1 + 1
          omega)
      clear hz HR0 hmx hmw
      go_wp2_with fail
      refine bodyPost_ret (results_c1 (a := 2) (ty := 28) (b := X) (by kernel_rfl) rfl (load_site (HOF.out.cell (i := 0) (by omega)) (HOF.out.cell (i := 1) (by omega)) (HOF.out.cell (i := 2) (by omega)) (HOF.out.cell (i := 3) (by omega)) (HOF.out.cell (i := 4) (by omega)))) rfl ?_
      exact HF.out
end Go.Proofs.YtbjmpfchapggfaaGreat
/-
law10: few.
-/
namespace Go.Proofs.YtbjmpfchapggfaaGreat
open Go.RowKit
set_option linter.unusedVariables false
set_option linter.unusedSimpArgs false
set_option maxRecDepth 100000 in
set_option maxHeartbeats 4000000 in
theorem ltenFew_any (a1 a2 a3 a4 a5 : Option Addr) (n1 c1 n2 c2 n3 c3 n4 c4 n5 c5 : Nat) (s : GSite) (aP : Option Addr) (nP cP : Nat) (bL : Nat) (aA : Option Addr) (nA cA : Nat) (w : World) (HS : Hid (RdSite w a1 a2 a3 a4 a5 n1 n2 n3 n4 n5 s)) (hL : w.cell? ⟨bL, 0, none⟩ = some (.slice aA nA cA)) (hnA : nA ≤ 9223372036854775807) (hnP : nP ≤ 9223372036854775807) :
    Calls Tryz.prog 7 #[.agg #[.slice a1 n1 c1, .slice a2 n2 c2, .slice a3 n3 c3, .slice a4 n4 c4, .slice a5 n5 c5], .agg #[.slice aP nP cP], .slice (some ⟨bL, 0, none⟩) 1 1] w fun e w' => e = .returned (.bool (decide (nA ≤ 40) && (fewS s && decide (nP ≤ 40)))) ∧ Below w.heap.size w w' := by
  obtain ⟨W0, hW0⟩ : ∃ W0, W0 = (w.alloc (.cells #[.slice a1 n1 c1, .slice a2 n2 c2, .slice a3 n3 c3, .slice a4 n4 c4, .slice a5 n5 c5] 28)).alloc (.cells #[.slice aP nP cP] 32) := ⟨_, rfl⟩
  have hm0 : LwM w W0 w.heap.size a1 n1 c1 a2 n2 c2 a3 n3 c3 a4 n4 c4 a5 n5 c5 s := by
    rw [hW0]
    exact (LwM.box (c1 := c1) (c2 := c2) (c3 := c3) (c4 := c4) (c5 := c5) HS.out).keep ((Below.refl _ _).alloc (Nat.le_refl _) _)
  have kp : W0.cell? ⟨w.heap.size + 1, 0, none⟩ = some (.slice aP nP cP) := by rw [hW0]; go_simp
  have kl : W0.cell? ⟨bL, 0, none⟩ = some (.slice aA nA cA) := (hm0.bel.cell (p := ⟨bL, 0, none⟩) (World.block_lt_of_cell? _ _ hL)).trans hL
  have HW0 := Lib.hid hW0
  have HM := Lib.hid hm0
  clear hW0 hm0 hL
  obtain ⟨k0, k1, k2, k3, k4⟩ : W0.cell? ⟨w.heap.size, 0, none⟩ = some (.slice a1 n1 c1) ∧ W0.cell? ⟨w.heap.size, 1, none⟩ = some (.slice a2 n2 c2) ∧ W0.cell? ⟨w.heap.size, 2, none⟩ = some (.slice a3 n3 c3) ∧ W0.cell? ⟨w.heap.size, 3, none⟩ = some (.slice a4 n4 c4) ∧ W0.cell? ⟨w.heap.size, 4, none⟩ = some (.slice a5 n5 c5) := ⟨HM.out.k0, HM.out.k1, HM.out.k2, HM.out.k3, HM.out.k4⟩
  go_enter Tryz.func7, Tryz.ntmps7
  go_wp2_with fail
  rw [← HW0.out]
  clear HW0
  obtain ⟨X, hX⟩ : ∃ X, X = w.heap.size := ⟨_, rfl⟩
  rw [← hX] at HM kp k0 k1 k2 k3 k4 ⊢
  clear hX
  have HF4 := Lib.hid (r4Few_any a1 a2 a3 a4 a5 n1 c1 n2 c2 n3 c3 n4 c4 n5 c5 s W0 (Lib.hid HM.out.rs))
  have HBW := Lib.hid HM.out.bel
  have lP := World.block_lt_of_cell? _ _ kp
  dsimp only at lP
  clear HM
  go_loopg [8, 11] 1 (fun g1 _ v11 wr => ∃ k : Nat, v11 = .int .i64 k ∧ k ≤ 1 ∧ 1 - k ≤ g1 ∧ Hid (k = 1 → nA ≤ 40) ∧ wr = W0)
  case atStart => exact ⟨0, by go_num, by omega, by omega, Lib.hid (fun h => by omega), rfl⟩
  case round =>
    obtain ⟨k, rfl, hk, hg1, HK, rfl⟩ := hrel
    by_cases hlt : k = 0
    · subst hlt
      by_cases h40 : nA ≤ 40
      · have h40z : ¬ (40 : Int) < (nA : Int) := by omega
        go_wp2_with fail
        go_roundg (1 - (0 + 1))
        case measure => omega
        case rel => exact ⟨1, by go_num, by omega, by omega, Lib.hid (fun _ => h40), rfl⟩
      · have h40z : (40 : Int) < (nA : Int) := by omega
        have HR : Hid (decide (nA ≤ 40) = false) := Lib.hid (decide_eq_false h40)
        go_wp2_with fail
        go_ret
        exact ⟨by rw [HR.out]; rfl, HBW.out⟩
    · have hk1 : k = 1 := by omega
      subst hk1
      have HR : Hid (decide (nA ≤ 40) = true) := Lib.hid (decide_eq_true (HK.out rfl))
      clear HK kl
      go_wp2_with fail
      refine HF4.out.mono ?_
      rintro e w1 ⟨rfl, hb⟩
      have kp1 := (hb.cell (p := ⟨X + 1, 0, none⟩) lP).trans kp
      have HB1 := Lib.hid (below_then HBW.out hb)
      obtain ⟨z, hz⟩ : ∃ z, z = fewS s := ⟨_, rfl⟩
      rw [← hz]
      have HZ := Lib.hid hz
      clear hb HF4 HBW kp k0 k1 k2 k3 k4 hz
      cases z
      · go_wp2_with fail
        go_ret
        exact ⟨by rw [HR.out, ← HZ.out]; rfl, HB1.out⟩
      · by_cases hp : nP ≤ 40
        · have hpz : (nP : Int) ≤ 40 := by omega
          have hpd : decide ((nP : Int) ≤ 40) = true := decide_eq_true hpz
          have HR2 : Hid (decide (nP ≤ 40) = true) := Lib.hid (decide_eq_true hp)
          go_wp2_with fail
          go_ret
          exact ⟨by rw [HR.out, ← HZ.out, HR2.out]; rfl, HB1.out⟩
        · have hpz : ¬ (nP : Int) ≤ 40 := by omega
          have hpd : decide ((nP : Int) ≤ 40) = false := decide_eq_false hpz
          have HR2 : Hid (decide (nP ≤ 40) = false) := Lib.hid (decide_eq_false hp)
          go_wp2_with fail
          go_ret
          exact ⟨by rw [HR.out, ← HZ.out, HR2.out]; rfl, HB1.out⟩
end Go.Proofs.YtbjmpfchapggfaaGreat
