/-
Law 09: the example site; the site in its box.
-/
import Derived.Test.YtbalhbpaholakaaCLimI
import Derived.Test.YtbalhbpaholakaaCLimF
import Derived.Test.YtbalhbpaholakaaCLimJ
namespace Go.Proofs.Ytbalhbpaholakaa
open Go.RowKit
set_option linter.unusedVariables false
set_option linter.unusedSimpArgs false
theorem okName1 {b : UInt8} (h : 97 ≤ b.toNat ∧ b.toNat ≤ 122) (hk : ¬ [b] ∈ keyL) : okNameB keyL ⟨#[b]⟩ = true := by
  rw [okNameB_iff]
  refine ⟨⟨Nat.le_refl _, (by show 1 ≤ 12; omega), h, fun i h0 h1 => ?_⟩, ?_⟩
  · have h1' : i < 1 := h1
    omega
  · rw [ByteArray.toList_eq]
    exact hk
def exS : GSite := ⟨[⟨⟨#[102]⟩, -1, 32, 40, 25, 100, 0, 0, 0, 0, 0⟩, ⟨⟨#[99]⟩, 0, 20, 16, 0, 0, 0, 0, 0, 0, 0⟩], [⟨#[111]⟩], [], [⟨⟨#[97]⟩, 0, 1, 6, 32, 1, 0, 0⟩, ⟨⟨#[98]⟩, 1, 3, 6, 32, 1, 0, 0⟩], []⟩
theorem exS_ok : OkSite keyL exS := by
  refine ⟨by decide, by decide, by decide, by decide, by decide, by decide, ⟨?_, ?_⟩, ?_, ?_, by decide, ?_, ?_⟩
  · intro x hx
    have hx' : x ∈ [(⟨#[102]⟩ : ByteArray), ⟨#[99]⟩, ⟨#[111]⟩, ⟨#[97]⟩, ⟨#[98]⟩] := hx
    simp only [List.mem_cons, List.not_mem_nil, or_false] at hx'
    rcases hx' with rfl | rfl | rfl | rfl | rfl <;> exact okName1 (by decide) (by decide)
  · have e : (allNames exS).map (·.toList) = [[102], [99], [111], [97], [98]] := by
      show [(⟨#[102]⟩ : ByteArray), ⟨#[99]⟩, ⟨#[111]⟩, ⟨#[97]⟩, ⟨#[98]⟩].map (·.toList) = _
      simp only [List.map_cons, List.map_nil, ByteArray.toList_eq]
    rw [e]
    decide
  · intro i c hc
    match i, hc with
    | 0, hc => cases hc; decide
    | 1, hc => cases hc; decide
    | i + 2, hc => cases hc
  · intro c hc; cases hc
  · intro c hc
    have hc' : c ∈ [(⟨⟨#[97]⟩, 0, 1, 6, 32, 1, 0, 0⟩ : GChg), ⟨⟨#[98]⟩, 1, 3, 6, 32, 1, 0, 0⟩] := hc
    simp only [List.mem_cons, List.not_mem_nil, or_false] at hc'
    rcases hc' with rfl | rfl <;> decide
  · intro c hc; cases hc
theorem exS_B : okSB keyL exS = true := okSB_iff.2 exS_ok
theorem ex_o0 : okCo exS 0 = true := okCo_yes exS_B (by decide)
theorem ex_o1 : okCo exS 1 = true := okCo_yes exS_B (by decide)
theorem ex_o2 : okCo exS 2 = false := okCo_no2 (by decide)
theorem ex_l0 : limO exS 0 = 25 := by rw [limO_yes ex_o0]; rfl
theorem ex_l1 : limO exS 1 = 16 := by rw [limO_yes ex_o1]; rfl
theorem ex_l2 : limO exS 2 = 0 := limO_no ex_o2
theorem ex_rows : rowsO exS = [⟨25, [0, 1]⟩, ⟨25, [1]⟩, ⟨16, [1]⟩, ⟨16, [1]⟩] := by rw [rowsO_yes exS_B]; rfl
theorem ex_a : loadB exS [10, 16] = true := loadB_yes exS_B (by decide)
theorem ex_b : loadB exS [9, 16] = true := loadB_yes exS_B (by decide)
theorem ex_c : loadB exS [0, 17] = true := loadB_yes exS_B (by decide)
theorem ex_d : loadB exS [0] = false := loadB_no2 (by decide)
theorem ex_va : vioO exS [10, 16] = some 0 := by unfold vioO; rw [if_pos ex_a]; rfl
theorem ex_vb : vioO exS [9, 16] = none := by unfold vioO; rw [if_pos ex_b]; rfl
theorem ex_vc : vioO exS [0, 17] = some 3 := by unfold vioO; rw [if_pos ex_c]; rfl
theorem ex_vd : vioO exS [0] = none := vioO_no ex_d
theorem ex_wa : vioV exS [10, 16] (some 0) = .agg #[.int .i64 0, .int .i64 0, .int .i64 26] := rfl
theorem ex_wc : vioV exS [0, 17] (some 3) = .agg #[.int .i64 1, .int .i64 0, .int .i64 17] := rfl
theorem flatMap_at {α : Type} {sz : Nat} {enc : α → List Value} (hsz : ∀ x, (enc x).length = sz) : ∀ (xs : List α) (k : Nat) (x : α) (j : Nat), xs[k]? = some x → j < sz → (xs.flatMap enc)[k * sz + j]? = (enc x)[j]?
  | [], k, x, j, h, _ => by simp at h
  | y :: ys, 0, x, j, h, hj => by
    simp at h
    subst h
    rw [List.flatMap_cons, Nat.zero_mul, Nat.zero_add, List.getElem?_append_left (by rw [hsz]; exact hj)]
  | y :: ys, k + 1, x, j, h, hj => by
    rw [List.getElem?_cons_succ] at h
    rw [List.flatMap_cons, List.getElem?_append_right (by rw [hsz, Nat.succ_mul]; omega), hsz, show (k + 1) * sz + j - sz = k * sz + j by rw [Nat.succ_mul]; omega]
    exact flatMap_at hsz ys k x j h hj
/-- A literal slice, read. -/
theorem rd_lit {α : Type} {sz : Nat} {enc : α → List Value} (hsz : ∀ x, (enc x).length = sz) (W : World) (t : TypeId) (cs : Array Value) (xs : List α) (h : cs.toList = xs.flatMap enc) : Rd sz enc (W.alloc (.cells cs t)) (some ⟨W.heap.size, 0, none⟩) xs := by
  have hcs : cs = (xs.flatMap enc).toArray := by rw [← h]
  refine (Own.new W t cs undef).rd (sz := sz) ?_ hsz (fun k x hx j v hv => ?_)
  · have : cs.size = (xs.flatMap enc).length := by rw [hcs]; simp
    rw [this]
    clear h hcs this
    induction xs with
    | nil => simp
    | cons x xs ih => rw [List.flatMap_cons, List.length_append, hsz, List.length_cons, Nat.succ_mul]; omega
  · have hj : j < sz := by rw [← hsz x]; exact (List.getElem?_eq_some_iff.1 hv).1
    have := flatMap_at hsz xs k x j hx hj
    rw [hcs, List.getElem?_toArray, this, hv]
    rfl
/-- The site that came in, and its box X. -/
structure LwM (w W : World) (X : Nat) (a1 : Option Addr) (n1 c1 : Nat) (a2 : Option Addr) (n2 c2 : Nat) (a3 : Option Addr) (n3 c3 : Nat) (a4 : Option Addr) (n4 c4 : Nat) (a5 : Option Addr) (n5 c5 : Nat) (s : GSite) : Prop where
  bel : Below w.heap.size w W
  k0 : W.cell? ⟨X, 0, none⟩ = some (.slice a1 n1 c1)
  k1 : W.cell? ⟨X, 1, none⟩ = some (.slice a2 n2 c2)
  k2 : W.cell? ⟨X, 2, none⟩ = some (.slice a3 n3 c3)
  k3 : W.cell? ⟨X, 3, none⟩ = some (.slice a4 n4 c4)
  k4 : W.cell? ⟨X, 4, none⟩ = some (.slice a5 n5 c5)
  rs : RdSite W a1 a2 a3 a4 a5 n1 n2 n3 n4 n5 s
theorem LwM.keep {w W W' : World} {X : Nat} {a1 : Option Addr} {n1 c1 : Nat} {a2 : Option Addr} {n2 c2 : Nat} {a3 : Option Addr} {n3 c3 : Nat} {a4 : Option Addr} {n4 c4 : Nat} {a5 : Option Addr} {n5 c5 : Nat} {s : GSite} (h : LwM w W X a1 n1 c1 a2 n2 c2 a3 n3 c3 a4 n4 c4 a5 n5 c5 s) (hb : Below W.heap.size W W') : LwM w W' X a1 n1 c1 a2 n2 c2 a3 n3 c3 a4 n4 c4 a5 n5 c5 s := by
  have l := World.block_lt_of_cell? W _ h.k0
  exact ⟨below_then h.bel hb, (hb.cell (p := ⟨X, 0, none⟩) l).trans h.k0, (hb.cell (p := ⟨X, 1, none⟩) l).trans h.k1, (hb.cell (p := ⟨X, 2, none⟩) l).trans h.k2, (hb.cell (p := ⟨X, 3, none⟩) l).trans h.k3, (hb.cell (p := ⟨X, 4, none⟩) l).trans h.k4, h.rs.keep hb⟩
theorem LwM.mod {w W W' : World} {X : Nat} {a1 : Option Addr} {n1 c1 : Nat} {a2 : Option Addr} {n2 c2 : Nat} {a3 : Option Addr} {n3 c3 : Nat} {a4 : Option Addr} {n4 c4 : Nat} {a5 : Option Addr} {n5 c5 : Nat} {s : GSite} (h : LwM w W X a1 n1 c1 a2 n2 c2 a3 n3 c3 a4 n4 c4 a5 n5 c5 s) (hw : RdSite w a1 a2 a3 a4 a5 n1 n2 n3 n4 n5 s) {M : Nat → Prop} (hm : Mod M W W') (hX : ¬ M X) (hM : ∀ k, M k → w.heap.size ≤ k) : LwM w W' X a1 n1 c1 a2 n2 c2 a3 n3 c3 a4 n4 c4 a5 n5 c5 s := by
  have l := World.block_lt_of_cell? W _ h.k0
  have hb : Below w.heap.size w W' := h.bel.trans (hm.below h.bel.size (fun k _ hk => hM k hk))
  exact ⟨hb, (hm.cell (p := ⟨X, 0, none⟩) l hX).trans h.k0, (hm.cell (p := ⟨X, 1, none⟩) l hX).trans h.k1, (hm.cell (p := ⟨X, 2, none⟩) l hX).trans h.k2, (hm.cell (p := ⟨X, 3, none⟩) l hX).trans h.k3, (hm.cell (p := ⟨X, 4, none⟩) l hX).trans h.k4, hw.keep hb⟩
theorem LwM.box {w : World} {a1 : Option Addr} {n1 c1 : Nat} {a2 : Option Addr} {n2 c2 : Nat} {a3 : Option Addr} {n3 c3 : Nat} {a4 : Option Addr} {n4 c4 : Nat} {a5 : Option Addr} {n5 c5 : Nat} {s : GSite} (h : RdSite w a1 a2 a3 a4 a5 n1 n2 n3 n4 n5 s) : LwM w (w.alloc (.cells #[.slice a1 n1 c1, .slice a2 n2 c2, .slice a3 n3 c3, .slice a4 n4 c4, .slice a5 n5 c5] 28)) w.heap.size a1 n1 c1 a2 n2 c2 a3 n3 c3 a4 n4 c4 a5 n5 c5 s :=
  ⟨(Below.refl _ w).alloc (Nat.le_refl _) _, by go_simp, by go_simp, by go_simp, by go_simp, by go_simp, h.keep ((Below.refl _ w).alloc (Nat.le_refl _) _)⟩
theorem loadsO_len (s : GSite) (xs : List Int) : (loadsO s xs).length ≤ 16 := by
  unfold loadsO
  by_cases h : loadB s xs = true
  · rw [if_pos h, loadsOf_len]
    unfold loadB at h
    rw [Bool.and_eq_true] at h
    exact (okSB_iff.1 h.1).n2
  · rw [if_neg h]; simp

theorem load_site {W : World} {b : Nat} {v0 v1 v2 v3 v4 : Value} (c0 : W.cell? ⟨b, 0, none⟩ = some v0) (c1 : W.cell? ⟨b, 1, none⟩ = some v1) (c2 : W.cell? ⟨b, 2, none⟩ = some v2) (c3 : W.cell? ⟨b, 3, none⟩ = some v3) (c4 : W.cell? ⟨b, 4, none⟩ = some v4) : (loadVar 28 ⟨b, 0, none⟩).run Try.prog W = .ok (.agg #[v0, v1, v2, v3, v4]) W := by
  go_simp
/-- What example does. -/
def ExPost (w : World) (e : Ending) (w' : World) : Prop := ∃ a1 a2 a4, e = .returned (.agg #[.slice a1 2 2, .slice a2 1 1, .slice none 0 0, .slice a4 2 2, .slice none 0 0]) ∧ RdSite w' a1 a2 none a4 none 2 1 0 2 0 exS ∧ Below w.heap.size w w'
set_option maxRecDepth 100000 in
set_option maxHeartbeats 4000000 in
theorem lhEx_any (w : World) : Calls Try.prog 41 #[] w fun e w' => ExPost w e w' := by
  go_enter Try.func41, Try.ntmps41
  go_wp2_with fail
  obtain ⟨W, hW⟩ : ∃ W, W = (((w.alloc (.cells #[.slice (some ⟨w.heap.size + 1, 0, none⟩) 2 2, .slice (some ⟨w.heap.size + 1 + 1, 0, none⟩) 1 1, .slice none 0 0, .slice (some ⟨w.heap.size + 1 + 1 + 1, 0, none⟩) 2 2, .slice none 0 0] 28)).alloc (.cells #[.string ⟨#[102]⟩, .int .i64 (-1), .int .i64 32, .int .i64 40, .int .i64 25, .int .i64 100, .int .i64 0, .int .i64 0, .int .i64 0, .int .i64 0, .int .i64 0, .string ⟨#[99]⟩, .int .i64 0, .int .i64 20, .int .i64 16, .int .i64 0, .int .i64 0, .int .i64 0, .int .i64 0, .int .i64 0, .int .i64 0, .int .i64 0] 55)).alloc (.cells #[.string ⟨#[111]⟩] 134)).alloc (.cells #[.string ⟨#[97]⟩, .int .i64 0, .int .i64 1, .int .i64 6, .int .i64 32, .int .i64 1, .int .i64 0, .int .i64 0, .string ⟨#[98]⟩, .int .i64 1, .int .i64 3, .int .i64 6, .int .i64 32, .int .i64 1, .int .i64 0, .int .i64 0] 95) := ⟨_, rfl⟩
  have c0 : W.cell? ⟨w.heap.size, 0, none⟩ = some (.slice (some ⟨w.heap.size + 1, 0, none⟩) 2 2) := by rw [hW]; go_simp
  have c1 : W.cell? ⟨w.heap.size, 1, none⟩ = some (.slice (some ⟨w.heap.size + 1 + 1, 0, none⟩) 1 1) := by rw [hW]; go_simp
  have c2 : W.cell? ⟨w.heap.size, 2, none⟩ = some (.slice none 0 0) := by rw [hW]; go_simp
  have c3 : W.cell? ⟨w.heap.size, 3, none⟩ = some (.slice (some ⟨w.heap.size + 1 + 1 + 1, 0, none⟩) 2 2) := by rw [hW]; go_simp
  have c4 : W.cell? ⟨w.heap.size, 4, none⟩ = some (.slice none 0 0) := by rw [hW]; go_simp
  have r1 : Rd 11 encCon W (some ⟨w.heap.size + 1, 0, none⟩) exS.cons := by
    have h := rd_lit (sz := 11) (enc := encCon) (fun _ => rfl) (w.alloc (.cells #[.slice (some ⟨w.heap.size + 1, 0, none⟩) 2 2, .slice (some ⟨w.heap.size + 1 + 1, 0, none⟩) 1 1, .slice none 0 0, .slice (some ⟨w.heap.size + 1 + 1 + 1, 0, none⟩) 2 2, .slice none 0 0] 28)) 55 #[.string ⟨#[102]⟩, .int .i64 (-1), .int .i64 32, .int .i64 40, .int .i64 25, .int .i64 100, .int .i64 0, .int .i64 0, .int .i64 0, .int .i64 0, .int .i64 0, .string ⟨#[99]⟩, .int .i64 0, .int .i64 20, .int .i64 16, .int .i64 0, .int .i64 0, .int .i64 0, .int .i64 0, .int .i64 0, .int .i64 0, .int .i64 0] exS.cons rfl
    rw [World.size_alloc] at h
    rw [hW]; exact (h.keep ((Below.refl _ _).alloc (Nat.le_refl _) _)).keep ((Below.refl _ _).alloc (Nat.le_refl _) _)
  have r2 : Rd 1 encS W (some ⟨w.heap.size + 1 + 1, 0, none⟩) exS.owns := by
    have h := rd_lit (sz := 1) (enc := encS) (fun _ => rfl) ((w.alloc (.cells #[.slice (some ⟨w.heap.size + 1, 0, none⟩) 2 2, .slice (some ⟨w.heap.size + 1 + 1, 0, none⟩) 1 1, .slice none 0 0, .slice (some ⟨w.heap.size + 1 + 1 + 1, 0, none⟩) 2 2, .slice none 0 0] 28)).alloc (.cells #[.string ⟨#[102]⟩, .int .i64 (-1), .int .i64 32, .int .i64 40, .int .i64 25, .int .i64 100, .int .i64 0, .int .i64 0, .int .i64 0, .int .i64 0, .int .i64 0, .string ⟨#[99]⟩, .int .i64 0, .int .i64 20, .int .i64 16, .int .i64 0, .int .i64 0, .int .i64 0, .int .i64 0, .int .i64 0, .int .i64 0, .int .i64 0] 55)) 134 #[.string ⟨#[111]⟩] exS.owns rfl
    rw [World.size_alloc, World.size_alloc] at h
    rw [hW]; exact h.keep ((Below.refl _ _).alloc (Nat.le_refl _) _)
  have r4 : Rd 8 encChg W (some ⟨w.heap.size + 1 + 1 + 1, 0, none⟩) exS.chgs := by
    have h := rd_lit (sz := 8) (enc := encChg) (fun _ => rfl) (((w.alloc (.cells #[.slice (some ⟨w.heap.size + 1, 0, none⟩) 2 2, .slice (some ⟨w.heap.size + 1 + 1, 0, none⟩) 1 1, .slice none 0 0, .slice (some ⟨w.heap.size + 1 + 1 + 1, 0, none⟩) 2 2, .slice none 0 0] 28)).alloc (.cells #[.string ⟨#[102]⟩, .int .i64 (-1), .int .i64 32, .int .i64 40, .int .i64 25, .int .i64 100, .int .i64 0, .int .i64 0, .int .i64 0, .int .i64 0, .int .i64 0, .string ⟨#[99]⟩, .int .i64 0, .int .i64 20, .int .i64 16, .int .i64 0, .int .i64 0, .int .i64 0, .int .i64 0, .int .i64 0, .int .i64 0, .int .i64 0] 55)).alloc (.cells #[.string ⟨#[111]⟩] 134)) 95 #[.string ⟨#[97]⟩, .int .i64 0, .int .i64 1, .int .i64 6, .int .i64 32, .int .i64 1, .int .i64 0, .int .i64 0, .string ⟨#[98]⟩, .int .i64 1, .int .i64 3, .int .i64 6, .int .i64 32, .int .i64 1, .int .i64 0, .int .i64 0] exS.chgs rfl
    rw [World.size_alloc, World.size_alloc, World.size_alloc] at h
    rw [hW]; exact h
  have bb : Below w.heap.size w W := by rw [hW]; exact ((((Below.refl _ w).alloc (Nat.le_refl _) _).alloc (by simp) _).alloc (by simp; omega) _).alloc (by simp; omega) _
  rw [← hW]
  clear hW
  refine bodyPost_ret (results_c1 (a := 0) (ty := 28) (b := w.heap.size) (by kernel_rfl) rfl (load_site c0 c1 c2 c3 c4)) rfl ?_
  exact ⟨_, _, _, rfl, ⟨r1, r2, Rd.nil, r4, Rd.nil, rfl, rfl, rfl, rfl, rfl, by omega, by omega, by omega, by omega, by omega, fun x hx => by
    have h1 := (okNameB_iff.1 (exS_ok.names.1 x hx)).1.2.1
    unfold maxLen
    omega⟩, bb⟩
end Go.Proofs.Ytbalhbpaholakaa
