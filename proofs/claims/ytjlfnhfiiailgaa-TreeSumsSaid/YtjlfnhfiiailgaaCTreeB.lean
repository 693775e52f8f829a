/-
tree.collect and tree.has, over a way.
-/
import Derived.Test.YtjlfnhfiiailgaaCTreeA
import Derived.Test.YtjlfnhfiiailgaaCAppI
namespace Go.Proofs.Ytjlfnhfiiailgaa
open Go.RowKit Go.Shelf
attribute [local go_sem] Oper.semAt_some
set_option linter.unusedVariables false
set_option linter.unusedSimpArgs false
/-- The way as numbers. -/
def pthI (cs : List GCon) (c : Nat) : List Int := (pth cs (c : Int)).map (fun (k : Nat) => (k : Int))
def wayI {cs : List GCon} {c : Nat} (ys : List (WayAt cs c)) : List Int := ys.map (fun y => ((y.1 : Nat) : Int))
theorem wayI_all {cs : List GCon} {c : Nat} {ys : List (WayAt cs c)} (h : ys.map (·.1) = pth cs (c : Int)) : wayI ys = pthI cs c := by
  have e := congrArg (List.map (fun (k : Nat) => (k : Int))) h
  rw [List.map_map] at e
  exact e
theorem Own.one (w : World) (t : TypeId) (v : Value) : Own (w.alloc (.cells #[v] t)) w.heap.size t 1 (fun _ => v) :=
  Own.newAt w t #[v] _ rfl rfl (fun i hi => by
    have h : i = 0 := by simp at hi; omega
    subst h
    rfl)
theorem OwnL.cells {w : World} {base : Nat} {v : Value} {xs : List Int} (h : OwnL w base v xs) {k : Nat} (hk : v.ownBlock = some k) : ∃ o : Obj, w.heap[k]? = some o ∧ o.isCells = true := by
  rcases h.2 with ⟨rfl, _⟩ | ⟨g, cap, cur, rfl, hb, hgg, _⟩
  · cases hk
  · cases hk
    exact ⟨_, hgg, rfl⟩
theorem wayI_snoc {cs : List GCon} {c : Nat} (ys : List (WayAt cs c)) (y : WayAt cs c) : wayI (ys ++ [y]) = wayI ys ++ [((y.1 : Nat) : Int)] := by unfold wayI; rw [List.map_append]; rfl
theorem OwnL.nc {W W' : World} {base B : Nat} {v : Value} {xs : List Int} (h : OwnL W base v xs) (hn : Nc B W W') : OwnL W' base v xs := ownsRow_nc h hn
theorem taken_below1 {B B' : Nat} {W W' : World} (hT : Taken B W W') (hB : B' ≤ B) : Below B' W W' :=
  ⟨hT.1, hT.2.1, hT.2.2.1, Nat.le_of_eq hT.2.2.2.1.symm, fun k hk => hT.2.2.2.2.1 k (by omega)⟩
theorem OwnL.taken {B : Nat} {W W' : World} {base : Nat} {v : Value} {xs : List Int} (h : OwnL W base v xs) (hT : Taken B W W') : OwnL W' base v xs := by
  refine ⟨h.1, ?_⟩
  rcases h.2 with x | ⟨g, cap, cur, rfl, hb, hgg, rest⟩
  · exact .inl x
  · exact .inr ⟨g, cap, cur, rfl, hb, hT.2.2.2.2.2 g _ hgg rfl, rest⟩
theorem append_opIn {F : Fence} {n : Nat} {P : Program} {w : World} {t ty : TypeId} {s x : Operand} {d : Option Tmp} {pos : String} {after : Array Go.Edge} {guard : Option (Nat × Bool)} {a : Act} {K : Act → World → Prop} {Q : Exit → Act → World → Prop}
    (h : Appends P w t ty (a.eval s) (a.eval x)) : Oper.wpIn F n P ⟨d, .call { callee := .builtin .append, args := #[s, x], argTypes := #[t, t] }, ty, pos, after, guard⟩ a w K Q = K (a.put d (appV P w t ty (a.eval s) (a.eval x))) (appW P w t ty (a.eval s) (a.eval x)) := by
  unfold Oper.wpIn
  rw [Oper.semAt_eq _ _ _ (fun c e => by cases e)]
  unfold execOp
  simp only [Oper.about, resolve, invoke, builtin, Sem.run_bind, Sem.run_pure, Result.andThen_ok, List.map_toArray, List.map_cons, List.map_nil, append_pre h, Target.leads]
  exact propext ⟨fun h => h.2, fun h => ⟨fun _ e => (by cases e), h⟩⟩
attribute [go_sem ↓] append_opIn
/-- What a round of collect leaves. -/
def CoI (w : World) (xs : List Int) (W : World) : Prop := ∃ v, Own W w.heap.size 29 1 (fun _ => v) ∧ OwnL W (w.heap.size + 1) v xs ∧ Below w.heap.size w W ∧ w.heap.size < W.heap.size
theorem CoI.nc {w W W' : World} {xs : List Int} {B : Nat} (h : CoI w xs W) (hn : Nc B W W') (hB : w.heap.size ≤ B) : CoI w xs W' := by
  obtain ⟨v, a, b, c, d⟩ := h
  exact ⟨v, a.nc hn, b.nc hn, below_nc c (Nat.le_refl _) hn hB, (a.nc hn).lt⟩
def CoA (w : World) (x : Nat) (a' : Act) : Prop := ∃ u0 u1 u2 u5 u6 u7 u8 u9 u10 u11 : Value, a' = ⟨List.toArray (u0 :: u1 :: u2 :: (.pointer (some ⟨w.heap.size, 0, none⟩)) :: (.int .i64 (x : Nat)) :: u5 :: u6 :: u7 :: u8 :: u9 :: u10 :: u11 :: []), []⟩
set_option maxRecDepth 100000 in
set_option maxHeartbeats 4000000 in
theorem trCollect_any (bc bs : Nat) (cs : List GCon) (hu : OkUps cs) (c0 : Nat) (hc : c0 < cs.length) (a1 : Option Addr) (n1 c1 : Nat) (hn1 : cs.length = n1) (hm1 : n1 ≤ 16) (w : World)
    (hbc : w.cell? ⟨bc, 0, none⟩ = some (.int .i64 (c0 : Nat))) (hbs : w.cell? ⟨bs, 0, none⟩ = some (.slice a1 n1 c1)) (hR : Rd 11 encCon w a1 cs) (hA : ∀ a, a1 = some a → a.block < w.heap.size) :
    Calls Try.prog 27 #[.func (.func 39) #[] #[.pointer (some ⟨bc, 0, none⟩), .pointer (some ⟨bs, 0, none⟩)]] w fun e w' => ∃ a c, e = .returned (.slice a (pthI cs c0).length c) ∧ Rd 1 encI w' a (pthI cs c0) ∧ Below w.heap.size w w' := by
  have lc := World.block_lt_of_cell? w _ hbc
  have ls := World.block_lt_of_cell? w _ hbs
  dsimp only at lc ls
  refine (callsIn_wide (n := 5)).1 ?_
  refine callsIn_of_wp_marks Try.func27 rfl trivial ?_ rfl
  refine wpIn_wide.2 ?_
  simp only [Try.ntmps27, List.size_toArray, List.length_cons, List.length_nil, Nat.reduceAdd, Nat.reduceSub, Array.replicate_succ, Array.replicate_zero, List.push_toArray, List.append_toArray, List.nil_append, List.cons_append]
  go_wp2_with fail
  obtain ⟨W0, hW0⟩ : ∃ W0, W0 = w.alloc (.cells #[.slice none 0 0] 29) := ⟨_, rfl⟩
  have b0 : Below w.heap.size w W0 := by rw [hW0]; exact (Below.refl _ w).alloc (Nat.le_refl _) _
  have hO : Own W0 w.heap.size 29 1 (fun _ => .slice none 0 0) := by rw [hW0]; exact Own.one _ _ _
  have hs0 : w.heap.size < W0.heap.size := hO.lt
  rw [← hW0]
  have z0 := (b0.cell (p := ⟨bc, 0, none⟩) lc).trans hbc
  have z1 := (b0.cell (p := ⟨bs, 0, none⟩) ls).trans hbs
  have HPL : Hid ((pth cs (c0 : Int)).length ≤ 1000000) := Lib.hid (by have := pth_len hu c0 hc; omega)
  refine range_way hu hc hn1 (by omega) (g := .tmp 5) (p := 6) bc bs w.heap.size rfl z0 z1 (hR.keep b0) hA b0.size (fun pre W' => CoI w (wayI pre) W') (fun _ _ _ => False) ?hI (fun _ _ _ _ h _ => h) ?h0 (fun x a' => CoA w x.1 a') ?assign ?body ?done (fun _ _ _ _ _ _ h _ => h.elim)
  case hI => exact fun pre W W' h hn => h.nc hn b0.size
  case h0 => exact ⟨_, hO, World.ownsRow_nil _ _ _ _, b0, hs0⟩
  case assign =>
    intro l x W1 K hK
    gi_wp2
    exact ⟨_, _, _, _, _, _, _, _, _, _, rfl⟩
  case body =>
    rintro l pre ⟨k, hk⟩ a' W1 ⟨v, o1, o2, o3, o4⟩ ⟨u0, u1, u2, u5, u6, u7, u8, u9, u10, u11, rfl⟩ hlen
    dsimp only at hlen ⊢
    have hlw : (wayI pre).length ≤ 1000000 := by
      have : (wayI pre).length = pre.length := by unfold wayI; simp
      have := HPL.out
      omega
    have q0 := o1.cell (i := 0) (by omega)
    have qf := o1.frozen 0
    obtain ⟨ap, v', w1, ap1, ap2, ap3, ap4, ap5⟩ := app_int ((k : Nat) : Int) o2 (by omega) hlw
    have hnb : ∀ j, v.ownBlock = some j → w.heap.size + 1 ≤ j := fun j hj => (World.ownsRow.lt o2 j hj).1
    have hnb' : ∀ j, v'.ownBlock = some j → w.heap.size + 1 ≤ j := fun j hj => (World.ownsRow.lt ap3 j hj).1
    have p1 : Own w1 w.heap.size 29 1 (fun _ => v) := o1.mod ap4 (fun h => by have := hnb _ h; omega)
    have pf := p1.frozen 0
    have pc := p1.cell (i := 0) (by omega)
    have el : (wayI pre ++ [((k : Nat) : Int)]).length = (wayI pre).length + 1 := by simp
    obtain ⟨a', c', hv'⟩ := ap3.shape
    rw [el] at hv'
    have hcl := fun j (hj : v.ownBlock = some j) => OwnL.cells o2 hj
    have hm1 : Mod (fun j => v.ownBlock = some j ∨ j = w.heap.size) W1 (w1.setCell ⟨w.heap.size, 0, none⟩ v') := (ap4.mono (fun j _ h => .inl h)).setCell (p := ⟨w.heap.size, 0, none⟩) (.inl (.inr rfl)) _
    have hbl : Below w.heap.size W1 (w1.setCell ⟨w.heap.size, 0, none⟩ v') := hm1.below (by omega) (fun j _ h => by
      rcases h with h | h
      · have := hnb j h; omega
      · omega)
    have HP : Hid (KeepsFrom W0.heap.size W1 (w1.setCell ⟨w.heap.size, 0, none⟩ v') ∧ KpW w.heap.size bs W1 (w1.setCell ⟨w.heap.size, 0, none⟩ v') ∧ CoI w (wayI (pre ++ [(⟨k, hk⟩ : WayAt cs c0)])) (w1.setCell ⟨w.heap.size, 0, none⟩ v')) := Lib.hid (by
      refine ⟨⟨hbl.size, fun q o hq ho hoc => ?_⟩, ⟨hbl, hbl.block bs ls⟩, ?_⟩
      · rw [← ho]
        refine hm1.block q (Array.getElem?_eq_some_iff.1 ho).1 ?_
        rintro (h | h)
        · obtain ⟨o', h1, h2⟩ := hcl q h
          rw [ho] at h1
          cases h1
          rw [hoc] at h2
          cases h2
        · omega
      · rw [wayI_snoc]
        refine ⟨v', (p1.set 0 _).congr (fun i hi => ?_), ap3.mod (M := fun j => j = w.heap.size) ((Mod.refl (fun j => j = w.heap.size) w1).setCell (p := ⟨w.heap.size, 0, none⟩) (.inl rfl) _) (fun j hj h => by have := hnb' j hj; omega), o3.trans hbl, by have := hbl.size; omega⟩
        have h0 : i = 0 := by omega
        simp [h0])
    clear hm1 hbl
    subst hv'
    clear hnb'
    clear ap3 ap4 ap5 p1 o1 o2 hnb hcl
    gi_wp2
    exact HP.out
  case done =>
    intro D ys W1 hD hS hi hdf
    obtain ⟨v, o1, o2, o3, o4⟩ := hi
    rw [wayI_all hS] at o2
    have q0 := o1.cell (i := 0) (by omega)
    have HO := Lib.hid o2
    have hw0 : w.heap.size ≤ D := by omega
    have hmk : Marks w.heap.size W1 [{ target := .collected D, args := #[] }] := ⟨[D], rfl, by simp, fun D' hD' => by
      have e : D' = D := by simpa using hD'
      subst e
      exact ⟨hw0, (Array.getElem?_eq_some_iff.1 hdf).1, hdf⟩⟩
    have HMK := Lib.hid hmk
    have HB := Lib.hid o3
    clear o1 o2 hmk hdf o3
    go_wp2_with fail
    refine leaves_marks (B := w.heap.size) _ _ HMK.out (fun W3 hT => ?_)
    have ho3 := OwnL.taken HO.out hT
    obtain ⟨a, c, hv, hr⟩ := ho3.rd
    exact ⟨v, results_tmp (t := 2) (by kernel_rfl) _ _ _, a, c, by rw [hv], hr, HB.out.trans (taken_below1 hT (Nat.le_refl _))⟩
end Go.Proofs.Ytjlfnhfiiailgaa
