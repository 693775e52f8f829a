/-
tree.Loads.
-/
import Derived.Test.YtjlfnhfiiailgaaCTreeMath2
import Derived.Test.YtjlfnhfiiailgaaCRegT
import Derived.IntWalk
namespace Go.Proofs.Ytjlfnhfiiailgaa
open Go.RowKit Go.Shelf
attribute [local go_sem] Oper.semAt_some
set_option linter.unusedVariables false
set_option linter.unusedSimpArgs false
def findLoopT (n : Nat) : Code → Option Code
  | .loop c => if (findRegion n c).isSome then some c else none
  | .seq a b => match findLoopT n a with
    | some c => some c
    | none => findLoopT n b
  | .block _ c => findLoopT n c
  | .scope c => findLoopT n c
  | .cond _ a b => match findLoopT n a with
    | some c => some c
    | none => findLoopT n b
  | _ => none
noncomputable def ldBody : Code := ((Try.f14.body.bind (findLoopT 11)).getD .skip)
/-- The memory of Loads: the boxes of the site and of the currents, the list of loads and its cell. -/
structure LdM (w W : World) (a1 : Option Addr) (n1 c1 : Nat) (a2 : Option Addr) (n2 c2 : Nat) (a3 : Option Addr) (n3 c3 : Nat) (a4 : Option Addr) (n4 c4 : Nat) (a5 : Option Addr) (n5 c5 : Nat) (aA : Option Addr) (nA cA : Nat) (g0 : Nat) (f : Nat → Int) : Prop where
  k0 : W.cell? ⟨w.heap.size, 0, none⟩ = some (.slice a1 n1 c1)
  k1 : W.cell? ⟨w.heap.size, 1, none⟩ = some (.slice a2 n2 c2)
  k2 : W.cell? ⟨w.heap.size, 2, none⟩ = some (.slice a3 n3 c3)
  k3 : W.cell? ⟨w.heap.size, 3, none⟩ = some (.slice a4 n4 c4)
  k4 : W.cell? ⟨w.heap.size, 4, none⟩ = some (.slice a5 n5 c5)
  ka : W.cell? ⟨w.heap.size + 1, 0, none⟩ = some (.slice aA nA cA)
  kl : Own W (g0 + 1) 35 1 (fun _ => .slice (some ⟨g0, 0, none⟩) n1 n1)
  og : Own W g0 55 (n1 * 3) (fun j => .int .i64 (f j))
  bel : Below w.heap.size w W
  lg : w.heap.size + 2 ≤ g0
theorem LdM.nc {w W W' : World} {a1 : Option Addr} {n1 c1 : Nat} {a2 : Option Addr} {n2 c2 : Nat} {a3 : Option Addr} {n3 c3 : Nat} {a4 : Option Addr} {n4 c4 : Nat} {a5 : Option Addr} {n5 c5 : Nat} {aA : Option Addr} {nA cA : Nat} {g0 : Nat} {f : Nat → Int} (h : LdM w W a1 n1 c1 a2 n2 c2 a3 n3 c3 a4 n4 c4 a5 n5 c5 aA nA cA g0 f) {B : Nat} (hn : Nc B W W') (hB : w.heap.size ≤ B) : LdM w W' a1 n1 c1 a2 n2 c2 a3 n3 c3 a4 n4 c4 a5 n5 c5 aA nA cA g0 f :=
  ⟨cell_nc1 h.k0 hn, cell_nc1 h.k1 hn, cell_nc1 h.k2 hn, cell_nc1 h.k3 hn, cell_nc1 h.k4 hn, cell_nc1 h.ka hn, h.kl.nc hn, h.og.nc hn, below_nc h.bel (Nat.le_refl _) hn hB, h.lg⟩
theorem LdM.keep {w W W' : World} {a1 : Option Addr} {n1 c1 : Nat} {a2 : Option Addr} {n2 c2 : Nat} {a3 : Option Addr} {n3 c3 : Nat} {a4 : Option Addr} {n4 c4 : Nat} {a5 : Option Addr} {n5 c5 : Nat} {aA : Option Addr} {nA cA : Nat} {g0 : Nat} {f : Nat → Int} (h : LdM w W a1 n1 c1 a2 n2 c2 a3 n3 c3 a4 n4 c4 a5 n5 c5 aA nA cA g0 f) (hb : Below W.heap.size W W') : LdM w W' a1 n1 c1 a2 n2 c2 a3 n3 c3 a4 n4 c4 a5 n5 c5 aA nA cA g0 f := by
  have l0 := World.block_lt_of_cell? W _ h.k0
  have la := World.block_lt_of_cell? W _ h.ka
  dsimp only at l0 la
  exact ⟨(hb.cell (p := ⟨w.heap.size, 0, none⟩) l0).trans h.k0, (hb.cell (p := ⟨w.heap.size, 1, none⟩) l0).trans h.k1, (hb.cell (p := ⟨w.heap.size, 2, none⟩) l0).trans h.k2, (hb.cell (p := ⟨w.heap.size, 3, none⟩) l0).trans h.k3, (hb.cell (p := ⟨w.heap.size, 4, none⟩) l0).trans h.k4, (hb.cell (p := ⟨w.heap.size + 1, 0, none⟩) la).trans h.ka, h.kl.keep hb h.kl.lt, h.og.keep hb h.og.lt, below_then h.bel hb, h.lg⟩
theorem LdM.write {w W W' : World} {a1 : Option Addr} {n1 c1 : Nat} {a2 : Option Addr} {n2 c2 : Nat} {a3 : Option Addr} {n3 c3 : Nat} {a4 : Option Addr} {n4 c4 : Nat} {a5 : Option Addr} {n5 c5 : Nat} {aA : Option Addr} {nA cA : Nat} {g0 : Nat} {f f' : Nat → Int} (h : LdM w W a1 n1 c1 a2 n2 c2 a3 n3 c3 a4 n4 c4 a5 n5 c5 aA nA cA g0 f) (hm : Mod (fun j => j = g0) W W') (ho : Own W' g0 55 (n1 * 3) (fun j => .int .i64 (f' j))) : LdM w W' a1 n1 c1 a2 n2 c2 a3 n3 c3 a4 n4 c4 a5 n5 c5 aA nA cA g0 f' := by
  have l0 := World.block_lt_of_cell? W _ h.k0
  have la := World.block_lt_of_cell? W _ h.ka
  dsimp only at l0 la
  have hg := h.lg
  exact ⟨(hm.cell (p := ⟨w.heap.size, 0, none⟩) l0 (by dsimp only; omega)).trans h.k0, (hm.cell (p := ⟨w.heap.size, 1, none⟩) l0 (by dsimp only; omega)).trans h.k1, (hm.cell (p := ⟨w.heap.size, 2, none⟩) l0 (by dsimp only; omega)).trans h.k2, (hm.cell (p := ⟨w.heap.size, 3, none⟩) l0 (by dsimp only; omega)).trans h.k3, (hm.cell (p := ⟨w.heap.size, 4, none⟩) l0 (by dsimp only; omega)).trans h.k4, (hm.cell (p := ⟨w.heap.size + 1, 0, none⟩) la (by dsimp only; omega)).trans h.ka, h.kl.mod hm (by omega), ho, h.bel.trans (hm.below h.bel.size (fun j _ hj => by omega)), h.lg⟩
theorem LdM.fun {w W : World} {a1 : Option Addr} {n1 c1 : Nat} {a2 : Option Addr} {n2 c2 : Nat} {a3 : Option Addr} {n3 c3 : Nat} {a4 : Option Addr} {n4 c4 : Nat} {a5 : Option Addr} {n5 c5 : Nat} {aA : Option Addr} {nA cA : Nat} {g0 : Nat} {f f' : Nat → Int} (h : LdM w W a1 n1 c1 a2 n2 c2 a3 n3 c3 a4 n4 c4 a5 n5 c5 aA nA cA g0 f) (e : ∀ j, f j = f' j) : LdM w W a1 n1 c1 a2 n2 c2 a3 n3 c3 a4 n4 c4 a5 n5 c5 aA nA cA g0 f' := by
  have : f = f' := funext e
  rw [← this]; exact h
theorem Own.cellsAt {w : World} {g : Nat} {t : TypeId} {n : Nat} {f : Nat → Value} (h : Own w g t n f) {o : Obj} (ho : w.heap[g]? = some o) : o.isCells = true := by
  obtain ⟨cs, hb, _, _⟩ := h
  rw [hb] at ho
  cases ho
  rfl
theorem keepsFrom_mod1 {M : Nat → Prop} {W W' : World} (h : Mod M W W') (B : Nat) (hM : ∀ k, M k → ∀ o, W.heap[k]? = some o → o.isCells = true) : KeepsFrom B W W' :=
  ⟨h.size, fun k o _ hk ho => (h.block k (Array.getElem?_eq_some_iff.1 hk).1 (fun hm => by have := hM k hm o hk; rw [ho] at this; cases this)).trans hk⟩
theorem Marks.below1 {B : Nat} {W W' : World} {ds : List Deferred} (h : Marks B W ds) (hb : Below W.heap.size W W') : Marks B W' ds :=
  h.keeps ⟨hb.size, fun k o _ hk _ => by
    have hl : k < W.heap.size := (Array.getElem?_eq_some_iff.1 hk).1
    rw [hb.block k hl]; exact hk⟩
/-- Marks that lie below m0. -/
def MarksB (B m0 : Nat) (W : World) (ds : List Deferred) : Prop := Marks B W ds ∧ ∀ d, d ∈ ds → ∃ D, d.target = .collected D ∧ D < m0
theorem MarksB.nc {B m0 : Nat} {W W' : World} {ds : List Deferred} (h : MarksB B m0 W ds) (hn : Nc m0 W W') : MarksB B m0 W' ds := by
  obtain ⟨⟨Ds, e, hd, hD⟩, hl⟩ := h
  obtain ⟨row, hg, hr⟩ := hn
  refine ⟨⟨Ds, e, hd, fun D hm => ⟨(hD D hm).1, Nat.lt_of_lt_of_le (hD D hm).2.1 hg.size, ?_⟩⟩, hl⟩
  rw [hg.block D (hD D hm).2.1 ?_]
  · exact (hD D hm).2.2
  · intro e2
    have h1 := (hr D e2.symm).1
    obtain ⟨D', e3, h3⟩ := hl ⟨.collected D, #[]⟩ (by rw [e]; exact List.mem_map.2 ⟨D, hm, rfl⟩)
    injection e3 with e3
    omega
theorem marks_snoc {B m0 : Nat} {W : World} {ds : List Deferred} {D : Nat} (h : MarksB B m0 W ds) (hD : m0 ≤ D) (hB : B ≤ D) (hd : W.heap[D]? = some (.deferred (some []))) : Marks B W ({ target := .collected D, args := #[] } :: ds) := by
  obtain ⟨⟨Ds, e, hn, hm⟩, hl⟩ := h
  refine ⟨D :: Ds, by rw [e]; rfl, List.nodup_cons.2 ⟨fun hx => ?_, hn⟩, fun D' hm' => ?_⟩
  · obtain ⟨D', e3, h3⟩ := hl ⟨.collected D, #[]⟩ (by rw [e]; exact List.mem_map.2 ⟨D, hx, rfl⟩)
    injection e3 with e3
    omega
  · rcases List.mem_cons.1 hm' with rfl | hm'
    · exact ⟨hB, (Array.getElem?_eq_some_iff.1 hd).1, hd⟩
    · exact hm D' hm'
/-- What holds between two conductors of a charger's way: X is the box of the charger's number, X + 1 that of the charger. -/
def LdI (w : World) (a1 : Option Addr) (n1 c1 : Nat) (a2 : Option Addr) (n2 c2 : Nat) (a3 : Option Addr) (n3 c3 : Nat) (a4 : Option Addr) (n4 c4 : Nat) (a5 : Option Addr) (n5 c5 : Nat) (aA : Option Addr) (nA cA : Nat) (g0 X m0 B i : Nat) (ph : Int) (f : Nat → Int) (ds : List Deferred) (W : World) : Prop :=
  LdM w W a1 n1 c1 a2 n2 c2 a3 n3 c3 a4 n4 c4 a5 n5 c5 aA nA cA g0 f ∧ W.cell? ⟨X, 0, none⟩ = some (.int .i64 (i : Nat)) ∧ W.cell? ⟨X + 1, 2, none⟩ = some (.int .i64 ph) ∧ MarksB B m0 W ds ∧ m0 ≤ W.heap.size
theorem LdI.nc {w W W' : World} {a1 : Option Addr} {n1 c1 : Nat} {a2 : Option Addr} {n2 c2 : Nat} {a3 : Option Addr} {n3 c3 : Nat} {a4 : Option Addr} {n4 c4 : Nat} {a5 : Option Addr} {n5 c5 : Nat} {aA : Option Addr} {nA cA : Nat} {g0 X m0 B i : Nat} {ph : Int} {f : Nat → Int} {ds : List Deferred} (h : LdI w a1 n1 c1 a2 n2 c2 a3 n3 c3 a4 n4 c4 a5 n5 c5 aA nA cA g0 X m0 B i ph f ds W) (hn : Nc m0 W W') (hB : w.heap.size ≤ m0) : LdI w a1 n1 c1 a2 n2 c2 a3 n3 c3 a4 n4 c4 a5 n5 c5 aA nA cA g0 X m0 B i ph f ds W' := by
  obtain ⟨a, b, c, d, e⟩ := h
  refine ⟨a.nc hn hB, cell_nc1 b hn, cell_nc1 c hn, d.nc hn, ?_⟩
  obtain ⟨row, hg, _⟩ := hn
  exact Nat.le_trans e hg.size
/-- The frame in which the body begins. -/
def LdA (w : World) (g0 X k : Nat) (a' : Act) : Prop := ∃ u0 u1 u4 u5 u6 u7 u12 u13 u14 u15 u16 u17 u18 u19 u20 u21 u22 u23 u24 u25 u26 u27 u28 u29 u30 u31 u32 u33 u34 u35 u36 u37 u38 u39 u40 u41 u42 u43 u44 u45 u46 u47 u48 u49 u50 u51 u52 u53 u54 u55 u56 u57 u58 u59 u60 u61 u62 u63 u64 : Value, a' = ⟨List.toArray (u0 :: u1 :: (.pointer (some ⟨w.heap.size, 0, none⟩)) :: (.pointer (some ⟨w.heap.size + 1, 0, none⟩)) :: u4 :: u5 :: u6 :: u7 :: (.pointer (some ⟨g0 + 1, 0, none⟩)) :: (.pointer (some ⟨X, 0, none⟩)) :: (.pointer (some ⟨X + 1, 0, none⟩)) :: (.int .i64 (k : Nat)) :: u12 :: u13 :: u14 :: u15 :: u16 :: u17 :: u18 :: u19 :: u20 :: u21 :: u22 :: u23 :: u24 :: u25 :: u26 :: u27 :: u28 :: u29 :: u30 :: u31 :: u32 :: u33 :: u34 :: u35 :: u36 :: u37 :: u38 :: u39 :: u40 :: u41 :: u42 :: u43 :: u44 :: u45 :: u46 :: u47 :: u48 :: u49 :: u50 :: u51 :: u52 :: u53 :: u54 :: u55 :: u56 :: u57 :: u58 :: u59 :: u60 :: u61 :: u62 :: u63 :: u64 :: []), []⟩
set_option maxRecDepth 100000 in
set_option maxHeartbeats 4000000 in
theorem ld_round (w W : World) (a1 : Option Addr) (n1 c1 : Nat) (a2 : Option Addr) (n2 c2 : Nat) (a3 : Option Addr) (n3 c3 : Nat) (a4 : Option Addr) (n4 c4 : Nat) (a5 : Option Addr) (n5 c5 : Nat) (aA : Option Addr) (nA cA : Nat) (g0 B i : Nat) (s : GSite) (xs : List Int) (ds : List Deferred) (R : Act → World → Prop) (Q0 : Exit → Act → World → Prop)
  (HS : Hid (RdSite w a1 a2 a3 a4 a5 n1 n2 n3 n4 n5 s)) (HOK : Hid (OkSite keyL s)) (HX : Hid (Rd 1 encI w aA xs)) (HA : Hid (xs.length = s.chgs.length ∧ ∀ i, i < xs.length → 0 ≤ fI xs i ∧ fI xs i ≤ 80)) (HNA : Hid (xs.length = nA)) (hi : i < n4)
  (HM : Hid (LdM w W a1 n1 c1 a2 n2 c2 a3 n3 c3 a4 n4 c4 a5 n5 c5 aA nA cA g0 (loadS s (fI xs) i))) (hmk : Marks B W ds) (hB : w.heap.size ≤ B) (hBW : B ≤ W.heap.size) (u0 u1 u4 u5 u6 u7 u9 u10 u11 u12 u13 u14 u15 u16 u17 u18 u19 u20 u21 u22 u23 u24 u25 u26 u27 u28 u29 u30 u31 u32 u33 u34 u35 u36 u37 u38 u39 u40 u44 u45 u46 u47 u48 u49 u50 u51 u52 u53 u54 u55 u56 u57 u58 u59 u60 u61 u62 u63 u64 : Value)
  (HK : Hid (∀ (W' : World) (D : Nat) (u0 u1 u4 u5 u6 u7 u9 u10 u11 u12 u13 u14 u15 u16 u17 u18 u19 u20 u21 u22 u23 u24 u25 u26 u27 u28 u29 u30 u31 u32 u33 u34 u35 u36 u37 u38 u39 u40 u44 u45 u46 u47 u48 u49 u50 u51 u52 u53 u54 u55 u56 u57 u58 u59 u60 u61 u62 u63 u64 : Value), LdM w W' a1 n1 c1 a2 n2 c2 a3 n3 c3 a4 n4 c4 a5 n5 c5 aA nA cA g0 (loadS s (fI xs) (i + 1)) → Marks B W' ({ target := .collected D, args := #[] } :: ds) → B ≤ W'.heap.size → R ⟨List.toArray (u0 :: u1 :: (.pointer (some ⟨w.heap.size, 0, none⟩)) :: (.pointer (some ⟨w.heap.size + 1, 0, none⟩)) :: u4 :: u5 :: u6 :: u7 :: (.pointer (some ⟨g0 + 1, 0, none⟩)) :: u9 :: u10 :: u11 :: u12 :: u13 :: u14 :: u15 :: u16 :: u17 :: u18 :: u19 :: u20 :: u21 :: u22 :: u23 :: u24 :: u25 :: u26 :: u27 :: u28 :: u29 :: u30 :: u31 :: u32 :: u33 :: u34 :: u35 :: u36 :: u37 :: u38 :: u39 :: u40 :: (.slice a4 n4 c4) :: (.int .i64 (n4 : Nat)) :: (.int .i64 ((i : Int) + 1)) :: u44 :: u45 :: u46 :: u47 :: u48 :: u49 :: u50 :: u51 :: u52 :: u53 :: u54 :: u55 :: u56 :: u57 :: u58 :: u59 :: u60 :: u61 :: u62 :: u63 :: u64 :: []), { target := .collected D, args := #[] } :: ds⟩ W')) :
  Code.wp Try.prog ldBody (Exit.then R Q0) ⟨List.toArray (u0 :: u1 :: (.pointer (some ⟨w.heap.size, 0, none⟩)) :: (.pointer (some ⟨w.heap.size + 1, 0, none⟩)) :: u4 :: u5 :: u6 :: u7 :: (.pointer (some ⟨g0 + 1, 0, none⟩)) :: u9 :: u10 :: u11 :: u12 :: u13 :: u14 :: u15 :: u16 :: u17 :: u18 :: u19 :: u20 :: u21 :: u22 :: u23 :: u24 :: u25 :: u26 :: u27 :: u28 :: u29 :: u30 :: u31 :: u32 :: u33 :: u34 :: u35 :: u36 :: u37 :: u38 :: u39 :: u40 :: (.slice a4 n4 c4) :: (.int .i64 (n4 : Nat)) :: (.int .i64 (i : Nat)) :: u44 :: u45 :: u46 :: u47 :: u48 :: u49 :: u50 :: u51 :: u52 :: u53 :: u54 :: u55 :: u56 :: u57 :: u58 :: u59 :: u60 :: u61 :: u62 :: u63 :: u64 :: []), ds⟩ W := by
  obtain ⟨m1, m2, m3, m4, m5⟩ : n1 ≤ 9223372036854775807 ∧ n2 ≤ 9223372036854775807 ∧ n3 ≤ 9223372036854775807 ∧ n4 ≤ 9223372036854775807 ∧ n5 ≤ 9223372036854775807 := ⟨HS.out.m1, HS.out.m2, HS.out.m3, HS.out.m4, HS.out.m5⟩
  have hi4 : i < s.chgs.length := by rw [HS.out.l4]; exact hi
  have hcl : s.cons.length = n1 := HS.out.l1
  have hn16 : n1 ≤ 16 := by have := HOK.out.n2; omega
  have hn4 : n4 ≤ 16 := by have := HOK.out.n6; have := HOK.out.n5; have := HS.out.l4; omega
  have hwW := HM.out.bel.size
  obtain ⟨b, off, g, hA4, hbl, hgx, d0, d1, d2, d3, d4, d5, d6, d7⟩ := rdChg_at HS.out.r4 hi4
  obtain ⟨p1, p2, p3⟩ := HOK.out.place hgx
  have HP3 := Lib.hid p3
  have hpn : placeOf s i < s.cons.length := by omega
  have hph : phOf s i = g.ph := by unfold phOf; rw [hgx]; rfl
  have hphb : 1 ≤ g.ph ∧ g.ph ≤ 7 := by
    have h1 := HOK.out.chg g (List.mem_of_getElem? hgx)
    unfold okChg at h1
    simp only [decide_eq_true_eq] at h1
    exact h1.2.2.1
  have HPH := Lib.hid hph
  have hiA : i < xs.length := by rw [HA.out.1]; exact hi4
  obtain ⟨ba, oa, hAA, hba, hax⟩ := HX.out.int hiA
  have hax1 : w.cell? ⟨ba, oa + i, none⟩ = some (.int .i64 (fI xs i)) := hax
  have hab := HA.out.2 i hiA
  have HA1 : Hid (∀ a, a1 = some a → a.block < w.heap.size) := Lib.hid (fun a ha => by
    obtain ⟨b', off', hA', hb', _⟩ := HS.out.r1 (by have := HOK.out.n1; omega)
    rw [hA'] at ha
    cases ha
    exact hb')
  subst hA4 hAA
  have e0 := (HM.out.bel.cell (p := ⟨b, off + i * 8, none⟩) hbl).trans d0
  have e1 := (HM.out.bel.cell (p := ⟨b, off + i * 8 + 1, none⟩) hbl).trans d1
  have e2 := (HM.out.bel.cell (p := ⟨b, off + i * 8 + 2, none⟩) hbl).trans d2
  have e3 := (HM.out.bel.cell (p := ⟨b, off + i * 8 + 3, none⟩) hbl).trans d3
  have e4 := (HM.out.bel.cell (p := ⟨b, off + i * 8 + 4, none⟩) hbl).trans d4
  have e5 := (HM.out.bel.cell (p := ⟨b, off + i * 8 + 5, none⟩) hbl).trans d5
  have e6 := (HM.out.bel.cell (p := ⟨b, off + i * 8 + 6, none⟩) hbl).trans d6
  have e7 := (HM.out.bel.cell (p := ⟨b, off + i * 8 + 7, none⟩) hbl).trans d7
  clear d0 d1 d2 d3 d4 d5 d6 d7 hax hgx p1 p2 p3 hph
  have hbW : b < W.heap.size := by omega
  have hiz : (i : Int) < (n4 : Int) := by omega
  obtain ⟨k0, k1, k2, k3, k4⟩ : W.cell? ⟨w.heap.size, 0, none⟩ = some (.slice a1 n1 c1) ∧ W.cell? ⟨w.heap.size, 1, none⟩ = some (.slice a2 n2 c2) ∧ W.cell? ⟨w.heap.size, 2, none⟩ = some (.slice a3 n3 c3) ∧ W.cell? ⟨w.heap.size, 3, none⟩ = some (.slice (some ⟨b, off, none⟩) n4 c4) ∧ W.cell? ⟨w.heap.size, 4, none⟩ = some (.slice a5 n5 c5) := ⟨HM.out.k0, HM.out.k1, HM.out.k2, HM.out.k3, HM.out.k4⟩
  have l0 : w.heap.size < W.heap.size := World.block_lt_of_cell? W _ k0
  conv => arg 2; whnf
  go_wp2_with fail
  obtain ⟨Wc, hWc⟩ : ∃ Wc, Wc = (W.alloc (.cells #[.int .i64 i] 3)).alloc (.cells #[.string g.name, .int .i64 g.place, .int .i64 g.ph, .int .i64 g.mn, .int .i64 g.mx, .int .i64 g.step, .int .i64 g.fb, .int .i64 g.own] 42) := ⟨_, rfl⟩
  have bwc : Below W.heap.size W Wc := by rw [hWc]; exact ((Below.refl _ W).alloc (Nat.le_refl _) _).alloc (by simp) _
  have x0 : Wc.cell? ⟨W.heap.size, 0, none⟩ = some (.int .i64 i) := by rw [hWc]; go_simp
  have x1 : Wc.cell? ⟨W.heap.size + 1, 2, none⟩ = some (.int .i64 g.ph) := by rw [hWc]; go_simp
  have hsc : Wc.heap.size = W.heap.size + 2 := by rw [hWc]; simp
  rw [← hWc]
  clear hWc
  refine (trWay_any a1 a2 a3 (some ⟨b, off, none⟩) a5 n1 c1 n2 c2 n3 c3 n4 c4 n5 c5 g.place Wc).mono ?_
  rintro e w2 ⟨rfl, hw2⟩
  have bw2 : Below Wc.heap.size Wc w2 := by rw [hw2]; exact ((Below.refl _ Wc).alloc (Nat.le_refl _) _).alloc (by simp) _
  have z0 : w2.cell? ⟨Wc.heap.size + 1, 0, none⟩ = some (.int .i64 ((placeOf s i : Nat) : Int)) := by rw [hw2, HP3.out]; go_simp
  have z1 : w2.cell? ⟨Wc.heap.size, 0, none⟩ = some (.slice a1 n1 c1) := by rw [hw2]; go_simp
  have y0 := (bw2.cell (p := ⟨W.heap.size, 0, none⟩) (by dsimp only; omega)).trans x0
  have y1 := (bw2.cell (p := ⟨W.heap.size + 1, 2, none⟩) (by dsimp only; omega)).trans x1
  have hs2 : w2.heap.size = W.heap.size + 4 := by rw [hw2, World.size_alloc, World.size_alloc, hsc]
  have bw := bwc.trans (bw2.mono (by omega))
  have HM2 := Lib.hid (HM.out.keep bw)
  have HMK : Hid (MarksB B w2.heap.size w2 ds) := Lib.hid ⟨hmk.below1 bw, fun d hd => by
    obtain ⟨Ds, e, _, hD⟩ := hmk
    rw [e] at hd
    obtain ⟨D, hm, rfl⟩ := List.mem_map.1 hd
    exact ⟨D, rfl, by have := (hD D hm).2.1; omega⟩⟩
  have hR2 := HS.out.r1.keep (below_then HM.out.bel bw)
  obtain ⟨X, hX⟩ : ∃ X, X = W.heap.size := ⟨_, rfl⟩
  rw [← hX] at y0 y1 hsc hs2 ⊢
  rw [hsc] at z0 z1 ⊢
  have hg2 : g0 + 1 < X := by have := HM.out.kl.lt; omega
  have hBX : B ≤ X := by omega
  have HX1 := Lib.hid hX
  clear hw2 bw2 bwc x0 x1 HM bw hmk hX k0 k1 k2 k3 k4 e0 e1 e2 e3 e4 e5 e6 e7
  have Hsz := Lib.hid (And.intro hsc hs2)
  clear hsc hs2
  go_wp2_with fail
  refine range_way HOK.out.ups hpn hcl (by omega) (g := .tmp 51) (p := 52) (X + 2 + 1) (X + 2) w.heap.size rfl z0 z1 hR2 HA1.out (by have := Hsz.out; omega) (fun pre W' => LdI w a1 n1 c1 a2 n2 c2 a3 n3 c3 (some ⟨b, off, none⟩) n4 c4 a5 n5 c5 (some ⟨ba, oa, none⟩) nA cA g0 X w2.heap.size B i g.ph (loadM s (fI xs) i (pre.map (fun (y : WayAt s.cons (placeOf s i)) => y.1))) ds W') (fun _ _ _ => False) ?hI (fun _ _ _ _ h _ => h) ?h0 (fun x a' => LdA w g0 X x.1 a') ?assign ?body ?done (fun _ _ _ _ _ _ h _ => h.elim)
  case hI => exact fun pre W' W'' h hn => h.nc hn (by have := Hsz.out; omega)
  case h0 => exact ⟨HM2.out.fun (fun j => (loadM_nil _ _ _ _).symm), y0, y1, HMK.out, Nat.le_refl _⟩
  case assign =>
    intro l x W1 K hK
    gi_wp2
    exact ⟨_, _, _, _, _, _, _, _, _, _, _, _, _, _, _, _, _, _, _, _, _, _, _, _, _, _, _, _, _, _, _, _, _, _, _, _, _, _, _, _, _, _, _, _, _, _, _, _, _, _, _, _, _, _, _, _, _, _, _, rfl⟩
  case body =>
    rintro l pre ⟨k, hk⟩ a' W1 ⟨m, x0, x1, mk, hs⟩ ⟨u0, u1, u4, u5, u6, u7, u12, u13, u14, u15, u16, u17, u18, u19, u20, u21, u22, u23, u24, u25, u26, u27, u28, u29, u30, u31, u32, u33, u34, u35, u36, u37, u38, u39, u40, u41, u42, u43, u44, u45, u46, u47, u48, u49, u50, u51, u52, u53, u54, u55, u56, u57, u58, u59, u60, u61, u62, u63, u64, rfl⟩ hlen
    dsimp only at hlen ⊢
    have hkn : k < n1 := by
      have := pth_le HOK.out.ups (placeOf s i) hpn k hk
      omega
    have hlen16 : pre.length ≤ 16 := by
      have := pth_len HOK.out.ups (placeOf s i) hpn
      omega
    have q8 := m.kl.cell (i := 0) (by omega)
    have qa := m.ka
    have qx := (m.bel.cell (p := ⟨ba, oa + i, none⟩) hba).trans hax1
    have hkz : (k : Int) < (n1 : Int) := by omega
    have hinA : i < nA := by rw [← HNA.out]; exact hiA
    have hinAz : (i : Int) < (nA : Int) := by omega
    have hogd : Own W1.drew g0 55 (n1 * 3) (fun j => .int .i64 (loadM s (fI xs) i (pre.map (fun (y : WayAt s.cons (placeOf s i)) => y.1)) j)) := m.og
    have HAd := Lib.hid (trAdd_any g0 k n1 (loadM s (fI xs) i (pre.map (fun (y : WayAt s.cons (placeOf s i)) => y.1))) g.ph (fI xs i) W1.drew hogd hkn hphb (fun j _ => by
      have h := loadM_bd (s := s) (am := fI xs) (m := i) (fun c hc => HA.out.2 c (by omega)) (pre.map (fun (y : WayAt s.cons (placeOf s i)) => y.1)) j
      rw [List.length_map] at h
      omega) hab)
    have Hm := Lib.hid m
    have Hmk := Lib.hid mk
    have Hx := Lib.hid (And.intro x0 x1)
    clear m mk hogd
    generalize hAM : fI xs i = am at *
    have HAM := Lib.hid hAM
    clear hAM
    gi_wp2
    refine wpIn_region_still_tail 9 (by kernel_rfl) (by kernel_rfl) (by kernel_rfl) ?_
    simp only [List.take_succ_cons, List.take_zero, List.drop_succ_cons, List.drop_zero]
    repeat still_step
    try refine wpStill_nil ?_
    change wpList _ _ _ _ _ W1.drew
    go_wp2_with fail
    refine HAd.out.mono ?_
    rintro e w' ⟨⟨v, rfl⟩, ho, hm⟩
    have hm1 : Mod (fun j => j = g0) W1 w' := (Mod.refl _ W1).drew.trans hm
    have m := Hm.out
    have mk := Hmk.out
    have hwx := Hsz.out
    have hgW : g0 < W1.heap.size := m.og.lt
    have hlg := m.lg
    have hbl1 : Below w.heap.size W1 w' := hm1.below m.bel.size (fun j _ hj => by omega)
    have hkf : ∀ B', KeepsFrom B' W1 w' := fun B' => keepsFrom_mod1 hm1 B' (fun q hq o hoo => by subst hq; exact m.og.cellsAt hoo)
    have HP : Hid (KeepsFrom w2.heap.size W1 w' ∧ KpW w.heap.size (X + 2) W1 w' ∧ LdI w a1 n1 c1 a2 n2 c2 a3 n3 c3 (some ⟨b, off, none⟩) n4 c4 a5 n5 c5 (some ⟨ba, oa, none⟩) nA cA g0 X w2.heap.size B i g.ph (loadM s (fI xs) i ((pre ++ [(⟨k, hk⟩ : WayAt s.cons (placeOf s i))]).map (fun (y : WayAt s.cons (placeOf s i)) => y.1))) ds w') := Lib.hid (by
      refine ⟨hkf _, ⟨hbl1, hm1.block _ (by omega) (by omega)⟩, ?_⟩
      refine ⟨(m.write hm1 ho).fun (fun j => ?_), (hm1.cell (p := ⟨X, 0, none⟩) (by dsimp only; omega) (by dsimp only; omega)).trans Hx.out.1, (hm1.cell (p := ⟨X + 1, 2, none⟩) (by dsimp only; omega) (by dsimp only; omega)).trans Hx.out.2, ⟨mk.1.keeps (hkf _), mk.2⟩, Nat.le_trans hs hm1.size⟩
      rw [List.map_append, ← HAM.out, ← HPH.out]
      exact loadM_step s (fI xs) i (pre.map (fun (y : WayAt s.cons (placeOf s i)) => y.1)) k j)
    clear m mk hm hm1 ho hkf hbl1
    go_wp2_with fail
    exact HP.out
  case done =>
    intro D ys W1 hD hS hm hdf
    obtain ⟨m, x0, x1, mk, hs⟩ := hm
    have hS' : ys.map (fun (y : WayAt s.cons (placeOf s i)) => y.1) = pth s.cons (placeOf s i : Nat) := hS
    rw [hS'] at m
    have HF := Lib.hid (m.fun (fun j => loadM_all s (fI xs) i j (pth_nodup HOK.out.ups hpn)))
    have HMk := Lib.hid (marks_snoc mk hD (by have := Hsz.out; omega) hdf)
    have hBW1 : B ≤ W1.heap.size := by have := Hsz.out; omega
    clear m x0 x1 mk hS hS' hdf
    go_wp2_with fail
    exact HK.out W1 D _ _ _ _ _ _ _ _ _ _ _ _ _ _ _ _ _ _ _ _ _ _ _ _ _ _ _ _ _ _ _ _ _ _ _ _ _ _ _ _ _ _ _ _ _ _ _ _ _ _ _ _ _ _ _ _ _ _ _ HF.out HMk.out hBW1
end Go.Proofs.Ytjlfnhfiiailgaa
