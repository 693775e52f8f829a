/-
plan.Schedule, walked: its result, the graph, the plan or the cut.
-/
import Derived.Test.YtgfcnkfmgpakkaaGPlanX
import Derived.Test.YtgfcnkfmgpakkaaGPlanU
import Derived.Test.YtgfcnkfmgpakkaaGPlanB
import Derived.Test.YtgfcnkfmgpakkaaGFlowQ
import Derived.Laws.EntriesVeiled
namespace Go.Proofs.Ytgfcnkfmgpakkaa
open Go.RowKit Go.Shelf
set_option linter.unusedVariables false
theorem results_tct {P : Program} {fn : Func} {t a x : Tmp} {ty : TypeId} {tmps : Array Value} {b : Nat} {u : Value} {w : World} (h : fn.results = #[.tmp t, .cell a ty, .tmp x]) (ha : tmps.getD a undef = .pointer (some ⟨b, 0, none⟩)) (hl : (loadVar ty ⟨b, 0, none⟩).run P w = .ok u w) :
    (results fn tmps).run P w = .ok (.tuple #[tmps.getD t undef, u, tmps.getD x undef]) w := by
  have ha' : tmps[a]?.getD undef = .pointer (some ⟨b, 0, none⟩) := by simpa using ha
  simp [results, h, ha', hl, asAddr]
theorem load_cut {W : World} {b : Nat} {f : Nat → Value} (h : Own W b 30 2 f) : (loadVar 30 ⟨b, 0, none⟩).run Try.prog W = .ok (.agg #[f 0, f 1]) W := by
  have c0 := h.cell (i := 0) (by omega)
  have c1 := h.cell (i := 1) (by omega)
  go_simp
def nilV : Value := .slice none 0 0
/-- What Schedule does. -/
def SchedPost (w : World) (js : List GJob) (sup : List Int) (N : Nat) (e : Ending) (w' : World) : Prop :=
  Below w.heap.size w w' ∧
  ((okP js sup = false ∧ e = .returned (.tuple #[.slice none 0 0, .agg #[.slice none 0 0, .slice none 0 0], .int .i64 1])) ∨
   (∃ gt rs ps, e = .returned (.tuple #[.slice (some ⟨gt, 0, none⟩) N N, .agg #[.slice none 0 0, .slice none 0 0], .int .i64 0]) ∧ RdP w' (some ⟨gt, 0, none⟩) rs ps ∧ ps.length = N ∧ planB js sup ps = true) ∨
   (∃ a3 c3 a4 c4 cj cs, e = .returned (.tuple #[.slice none 0 0, .agg #[.slice a3 cj.length c3, .slice a4 cs.length c4], .int .i64 10]) ∧ Rd 1 encI w' a3 cj ∧ Rd 1 encI w' a4 cs ∧ cj.length ≤ 12 ∧ cs.length ≤ 24 ∧ cutPB js sup cj cs = true))
/-- Rows that lie within their capacity. -/
def capsOk (rs : List RowV) : Prop := ∀ r, r ∈ rs → r.n ≤ r.c
theorem capsOk_mk {N T : Nat} (f : Nat → Option Addr) : capsOk (mk N (fun i => ⟨f i, T, T⟩)) := by
  intro r hr
  obtain ⟨i, hi, e⟩ := List.getElem_of_mem hr
  rw [mk_len] at hi
  have := mk_at (n := N) (fun i => (⟨f i, T, T⟩ : RowV)) hi
  rw [List.getElem?_eq_getElem (by rw [mk_len]; exact hi)] at this
  injection this with this
  rw [← e, this]
  exact Nat.le_refl _
/-- A slice of a block that is younger than the world. -/
def FreshV (w : World) (v : Value) : Prop := ∀ q, v.ownBlock = some q → w.heap.size ≤ q
/-- What Schedule does; its plan's rows lie within their capacity. -/
def SchedPostC (w : World) (js : List GJob) (sup : List Int) (N : Nat) (e : Ending) (w' : World) : Prop :=
  Below w.heap.size w w' ∧
  ((okP js sup = false ∧ e = .returned (.tuple #[.slice none 0 0, .agg #[.slice none 0 0, .slice none 0 0], .int .i64 1])) ∨
   (∃ gt rs ps, e = .returned (.tuple #[.slice (some ⟨gt, 0, none⟩) N N, .agg #[.slice none 0 0, .slice none 0 0], .int .i64 0]) ∧ RdP w' (some ⟨gt, 0, none⟩) rs ps ∧ ps.length = N ∧ planB js sup ps = true ∧ capsOk rs) ∨
   (∃ a3 c3 a4 c4 cj cs, e = .returned (.tuple #[.slice none 0 0, .agg #[.slice a3 cj.length c3, .slice a4 cs.length c4], .int .i64 10]) ∧ Rd 1 encI w' a3 cj ∧ Rd 1 encI w' a4 cs ∧ cj.length ≤ 12 ∧ cs.length ≤ 24 ∧ cutPB js sup cj cs = true ∧ FreshV w (.slice a4 cs.length c4)))
set_option maxRecDepth 100000 in
set_option maxHeartbeats 16000000 in
theorem plSchedule_caps (A A2 : Option Addr) (c N c2 T : Nat) (js : List GJob) (sup : List Int) (w : World) (hR : Rd 5 encJ w A js) (HN : Hid (js.length = N)) (hl : N ≤ 9223372036854775807) (hR2 : Rd 1 encI w A2 sup) (HN2 : Hid (sup.length = T)) (hl2 : T ≤ 9223372036854775807) :
    Calls Try.prog 23 #[.slice A N c, .slice A2 T c2] w (SchedPostC w js sup N) := by
  refine (callsIn_wide (n := 5)).1 ?_
  refine callsIn_of_wp_marks Try.func23 rfl trivial ?_ rfl
  refine wpIn_wide.2 ?_
  simp only [Try.ntmps23, List.size_toArray, List.length_cons, List.length_nil, Nat.reduceAdd, Nat.reduceSub, Array.replicate_succ, Array.replicate_zero, List.push_toArray, List.append_toArray, List.nil_append, List.cons_append]
  have a1 : Below w.heap.size w ((w.alloc (.cells #[.slice A N c] 22)).alloc (.cells #[.slice none 0 0, .slice none 0 0] 30)) := ((Below.refl _ w).alloc (Nat.le_refl _) _).alloc (by simp) _
  go_wp2_with fail
  refine (plValid_any A A2 c N c2 T js sup _ (hR.keep a1) HN hl (hR2.keep a1) HN2 hl2).mono ?_
  rintro e w1 ⟨rfl, hb1⟩
  have k0 : w1.cell? ⟨w.heap.size, 0, none⟩ = some (.slice A N c) := (hb1.cell (p := ⟨w.heap.size, 0, none⟩) (by simp; omega)).trans (by go_simp)
  have o5 : Own w1 (w.heap.size + 1) 30 2 (fun _ => .slice none 0 0) := by
    have := new_cut (w.alloc (.cells #[.slice A N c] 22))
    rw [World.size_alloc] at this
    exact this.keep hb1 (by simp)
  have b1 : Below w.heap.size w w1 := below_then a1 hb1
  clear hb1 a1
  cases hok : okP js sup
  · have c50 := o5.cell (i := 0) (by omega)
    have c51 := o5.cell (i := 1) (by omega)
    have f50 := o5.frozen 0
    have f51 := o5.frozen 1
    have HO := Lib.hid ((o5.set 0 (.slice none 0 0)).set 1 (.slice none 0 0))
    have HB := Lib.hid ((b1.setCell (p := ⟨w.heap.size + 1, 0, none⟩) (by dsimp only; omega) (.slice none 0 0)).setCell (p := ⟨w.heap.size + 1, 1, none⟩) (by dsimp only; omega) (.slice none 0 0))
    clear o5
    go_wp2_with fail
    refine leaves_marks (B := w.heap.size) [] _ (Marks.nil _ _) (fun W3 hT => ⟨_, results_tct (t := 4) (a := 5) (x := 6) (by kernel_rfl) rfl (load_cut (hT.own HO.out)), HB.out.trans (taken_below hT (Nat.le_refl _)), .inl ⟨hok, rfl⟩⟩)
  · obtain ⟨⟨t1, t2⟩, _, _⟩ := okP_iff.1 hok
    rw [HN.out] at t1
    rw [HN2.out] at t2
    have HOK := Lib.hid hok
    clear hok
    have lo5 := o5.lt
    have HO5 := Lib.hid o5
    clear o5
    go_wp2_with fail
    have kk0 : ((w1.alloc (.cells #[(.func (.func 51) #[] #[])] 65)).alloc (.cells #[(.func (.func 52) #[] #[.pointer (some ⟨w.heap.size, 0, none⟩)])] 65)).cell? ⟨w.heap.size, 0, none⟩ = some (.slice A N c) := ((((Below.refl _ w1).alloc (Nat.le_refl _) _).alloc (by simp) _).cell (p := ⟨w.heap.size, 0, none⟩) (by dsimp only; omega)).trans k0
    obtain ⟨nn, hnn⟩ : ∃ nn, nn = 2 + N + T := ⟨_, rfl⟩
    have hcl := plSched2_any T w.heap.size 0 N c A _ (by omega) (by omega) kk0
    rw [← hnn] at hcl
    have Hnn := Lib.hid hnn.symm
    clear hnn
    refine hcl.mono ?_
    clear hcl
    rintro e w' ⟨rfl, rfl⟩
    have bw : Below w1.heap.size w1 (((w1.alloc (.cells #[(.func (.func 51) #[] #[])] 65)).alloc (.cells #[(.func (.func 52) #[] #[.pointer (some ⟨w.heap.size, 0, none⟩)])] 65)).alloc (.cells #[.int .i64 nn, .slice none 0 0] 68)) := (((Below.refl _ w1).alloc (Nat.le_refl _) _).alloc (by simp) _).alloc (by simp; omega) _
    have HM0 : Hid (SCm w (((w1.alloc (.cells #[(.func (.func 51) #[] #[])] 65)).alloc (.cells #[(.func (.func 52) #[] #[.pointer (some ⟨w.heap.size, 0, none⟩)])] 65)).alloc (.cells #[.int .i64 nn, .slice none 0 0] 68)) A c N w1.heap.size nn (.slice none 0 0) []) := by
      refine Lib.hid ⟨(bw.cell (p := ⟨w.heap.size, 0, none⟩) (by dsimp only; omega)).trans k0, HO5.out.keep bw HO5.out.lt, by go_simp, by go_simp, ?_, OwnR.nil _ _, below_then b1 bw, by omega⟩
      refine Own.newAt _ _ _ _ (by simp) (n := 2) rfl (fun i hi => ?_)
      rcases i with _ | _ | i
      · rfl
      · rfl
      · omega
    clear bw kk0 k0 HO5 lo5
    go_upto_region 8 with (fail)
    generalize hbi : w1.heap.size = bi at *
    clear hbi
    refine wp_world (fun W => SCm w W A c N bi nn (.slice none 0 0) []) HM0.out ?_
    intro W0 M0
    clear HM0
    have q0 := M0.k0
    have HM0 := Lib.hid M0
    clear M0 b1
    have HRS := Lib.hid (And.intro hR hR2)
    clear hR hR2
    go_wp2
    clear q0
    have HE := Lib.hid (fun (k : Nat) (hk : k < N) => okP_job HOK.out (i := k) (by rw [HN.out]; exact hk))
    go_loopg [12, 43] N (fun g1 v12 v43 wr => ∃ (k : Nat) (v : Value), v12 = .int .i64 (S k (fun i => (jAt js i).energy)) ∧ v43 = .int .i64 k ∧ k ≤ N ∧ N - k ≤ g1 ∧ Hid (SCm w wr A c N bi nn v (mk k (edJ js))))
    case atStart => exact ⟨0, _, by go_num, by go_num, by omega, by omega, HM0⟩
    case round =>
      as_aux_lemma =>
      clear HM0
      obtain ⟨k, v, rfl, rfl, hk, hg1, HM⟩ := hrel
      have bk : 0 ≤ S k (fun i => (jAt js i).energy) ∧ S k (fun i => (jAt js i).energy) ≤ 12000 := by
        have h1 := S_nonneg (n := k) (g := fun i => (jAt js i).energy) (fun i hi => (HE.out i (by omega)).2.2.2.1)
        have h2 := S_bound (n := k) (g := fun i => (jAt js i).energy) (c := 1000) (fun i hi => (HE.out i (by omega)).2.2.2.2.1)
        omega
      by_cases hlt : k < N
      · have hltz : (k : Int) < (N : Int) := by omega
        obtain ⟨b, off, j, hA, hbl, hj, g0, g1, g2, g3, g4⟩ := rdJ_at (HRS.out.1.keep HM.out.bel) (k := k) (by rw [HN.out]; exact hlt)
        subst hA
        have ej : jAt js k = j := by unfold jAt; rw [hj]; rfl
        have hen := HE.out k hlt
        rw [ej] at hen
        have e45 := hen.2.2.2.1
        have e46 := hen.2.2.2.2.1
        have Hs : Hid (S (k + 1) (fun i => (jAt js i).energy) = S k (fun i => (jAt js i).energy) + j.energy) := Lib.hid (by rw [S_succ, ej])
        have Hes : Hid (mk (k + 1) (edJ js) = mk k (edJ js) ++ [⟨0, ((2 + k : Nat) : Int), j.energy⟩]) := Lib.hid (by rw [mk_succ]; unfold edJ; rw [ej]; simp)
        have hv : ∀ q, v.ownBlock = some q → q < wr.heap.size := fun q hq => (HM.out.own_ge hq).2
        have hmsz := HM.out.size
        have ba : Below wr.heap.size wr (wr.alloc (.cells #[.int .i64 j.frm, .int .i64 j.till, .int .i64 j.energy, .int .i64 j.rate, .int .i64 j.rank] 25)) := (Below.refl _ wr).alloc (Nat.le_refl _) _
        have HM1 := Lib.hid (HM.out.keep ba)
        have cx : (wr.alloc (.cells #[.int .i64 j.frm, .int .i64 j.till, .int .i64 j.energy, .int .i64 j.rate, .int .i64 j.rank] 25)).cell? ⟨wr.heap.size, 2, none⟩ = some (.int .i64 j.energy) := by go_simp
        clear hj hen HM ba
        generalize S k (fun i => (jAt js i).energy) = need at *
        go_upto_region 11 with (fail)
        refine wp_normal (fun K hK => ?_)
        refine sc11 w _ _ c N bi nn k v (mk k (edJ js)) j.energy [] K (by omega) (by rw [mk_len]; omega) HM1 wr.heap.size cx (fun h => by have := hv _ h; omega) _ _ _ _ _ _ _ _ _ _ _ _ _ _ _ _ _ _ _ _ _ _ _ _ _ _ _ _ _ _ _ _ _ _ _ _ _ _ _ _ _ _ _ _ _ _ _ _ _ _ _ _ _ _ _ _ _ _ _ _ _ _ _ _ _ _ _ _ _ _ _ _ _ _ _ _ _ _ _ _ _ _ _ _ _ _ _ _ _ _ _ _ _ _ _ _ _ _ _ _ _ _ _ _ _ _ _ _ _ _ _ _ _ _ _ _ _ _ _ _ _ _ _ _ _ _ _ _ _ _ _ _ _ _ _ _ _ _ _ _ _ _ _ _ _ _ _ _ _ _ _ _ _ _ _ _ _ _ _ _ _ _ _ _ _ _ _ _ (Lib.hid ?_)
        intro W' v'
        intros
        rename_i m' hmod
        refine hK _ _ ?_
        clear hK K
        have cx' : W'.cell? ⟨wr.heap.size, 2, none⟩ = some (.int .i64 j.energy) := (hmod.cell (p := ⟨wr.heap.size, 2, none⟩) (by simp) (fun h => by
          rcases h with h | h
          · have := hv _ h; dsimp only at this; omega
          · dsimp only at h; omega)).trans cx
        rw [← Hes.out] at m'
        have lx := World.block_lt_of_cell? W' _ cx'
        have HM2 := Lib.hid (m'.keep (((Below.refl _ W').alloc (Nat.le_refl _) (.cells #[.int .i64 need, .int .i64 j.energy] 3))))
        have hs2 := plSum_two need j.energy W' (by omega) (by omega)
        have HS2 := Lib.hid hs2
        clear m' hmod cx HM1 g0 g1 g2 g3 g4 hs2 hv Hes
        go_step
        go_wp2_with fail
        refine HS2.out.mono ?_
        rintro e w' ⟨rfl, rfl⟩
        go_wp2
        go_roundg (N - (k + 1))
        case measure => omega
        case rel => exact ⟨k + 1, v', by rw [Hs.out], by go_num, by omega, by omega, HM2⟩
      · have hltz : ¬ (k : Int) < (N : Int) := by omega
        have hkN : N = k := by omega
        subst hkN
        clear hk hg1 hlt hltz
        obtain ⟨need, hneed⟩ : ∃ need, need = S N (fun i => (jAt js i).energy) := ⟨_, rfl⟩
        rw [← hneed] at bk ⊢
        have Hneed := Lib.hid hneed
        clear hneed HE
        have HMv := HM
        clear HM
        go_wp2
        have HSU := Lib.hid (fun (t : Nat) (ht : t < T) => okP_sup HOK.out (t := t) (by rw [HN2.out]; exact ht))
        go_loopg [68] T (fun g1 v68 wr => ∃ (k : Nat) (v : Value), v68 = .int .i64 k ∧ k ≤ T ∧ T - k ≤ g1 ∧ Hid (SCm w wr A c N bi nn v (mk N (edJ js) ++ mk k (edT N sup))))
        case atStart => exact ⟨0, _, by go_num, by omega, by omega, Lib.hid (by have := HMv.out; simpa [mk] using this)⟩
        case round =>
          as_aux_lemma =>
          clear HMv
          obtain ⟨k, v, rfl, hk, hg1, HM⟩ := hrel
          by_cases hlt : k < T
          · have hltz : (k : Int) < (T : Int) := by omega
            obtain ⟨b, off, hA, hbl, hc0⟩ := (HRS.out.2.keep HM.out.bel).int (k := k) (by rw [HN2.out]; exact hlt)
            have hc1 : wr.cell? ⟨b, off + k, none⟩ = some (.int .i64 (fAt sup k)) := hc0
            have hsu := HSU.out k hlt
            subst hA
            have Hes : Hid (mk N (edJ js) ++ mk (k + 1) (edT N sup) = (mk N (edJ js) ++ mk k (edT N sup)) ++ [⟨((2 + N + k : Nat) : Int), 1, fAt sup k⟩]) := Lib.hid (by rw [mk_succ, List.append_assoc]; simp [edT])
            clear hc0
            generalize fAt sup k = sk at *
            go_upto_region 17 with (fail)
            refine wp_normal (fun K hK => ?_)
            refine sc17 w wr A c N bi nn k v (mk N (edJ js) ++ mk k (edT N sup)) sk [] K (by omega) (by rw [List.length_append, mk_len, mk_len]; omega) HM (by omega) _ _ _ _ _ _ _ _ _ _ _ _ _ _ _ _ _ _ _ _ _ _ _ _ _ _ _ _ _ _ _ _ _ _ _ _ _ _ _ _ _ _ _ _ _ _ _ _ _ _ _ _ _ _ _ _ _ _ _ _ _ _ _ _ _ _ _ _ _ _ _ _ _ _ _ _ _ _ _ _ _ _ _ _ _ _ _ _ _ _ _ _ _ _ _ _ _ _ _ _ _ _ _ _ _ _ _ _ _ _ _ _ _ _ _ _ _ _ _ _ _ _ _ _ _ _ _ _ _ _ _ _ _ _ _ _ _ _ _ _ _ _ _ _ _ _ _ _ _ _ _ _ _ _ _ _ _ _ _ _ _ _ _ _ _ _ _ _ (Lib.hid ?_)
            intro W' v'
            intros
            rename_i m' hmod
            refine hK _ _ ?_
            clear hK K
            rw [← Hes.out] at m'
            have HM2 := Lib.hid m'
            clear m' hmod hc1 HM Hes
            go_step
            go_wp2
            go_roundg (T - (k + 1))
            case measure => omega
            case rel => exact ⟨k + 1, v', by go_num, by omega, by omega, HM2⟩
          · have hltz : ¬ (k : Int) < (T : Int) := by omega
            have hkT : T = k := by omega
            subst hkT
            clear hk hg1 hlt hltz HSU
            have q0 := HM.out.k0
            have hws := HM.out.bel.size
            have l0 := World.block_lt_of_cell? wr _ q0
            go_wp2
            clear q0
            refine wp_loop (SInv3 w A A2 c N c2 T bi nn wr.heap.size js need (mk N (edJ js) ++ mk T (edT N sup))) (SMu3 N) ?_ ?_
            · exact ⟨0, v, [], by omega, by have := HM.out; simpa [rowsR] using this, Marks.nil _ _, Nat.le_refl _, fr_intro (FR3 w A A2 c N c2 T bi 0 need) rfl⟩
            · rintro a W ⟨k, v, ds, hk, m, hmk, hBW, f, rfl⟩
              by_cases hlt : k < N
              · exact sc3_some w W A A2 c N c2 T bi nn wr.heap.size k js sup need v (mk N (edJ js) ++ mk T (edT N sup)) ds _ f (Lib.hid HRS.out.1) HN HOK HN2 hlt (by rw [List.length_append, mk_len, mk_len]; omega) m hmk hws hBW
              · have hltz : ¬ (k : Int) < (N : Int) := by omega
                have hkN : N = k := by omega
                subst hkN
                have hes : mk N (edJ js) ++ mk T (edT N sup) ++ rowsR js N N = graphP js sup := by unfold graphP; rw [HN.out, HN2.out, List.append_assoc]
                rw [hes] at m
                obtain ⟨L, hL⟩ : ∃ L, (graphP js sup).length = L := ⟨_, rfl⟩
                obtain ⟨aE, cE, hvE, rdE⟩ := m.oe.rd encE_len
                rw [hL] at hvE
                have HL := Lib.hid hL
                subst hvE
                have HEn : Hid (okEnds nn (graphP js sup) 0 1 = true) := Lib.hid (by
                  have := graphP_ok HOK.out
                  rw [HN.out, HN2.out, show (2 + (N : Int) + (T : Int)) = ((2 + N + T : Nat) : Int) by omega, Hnn.out] at this
                  exact this)
                have HLM : Hid (L = N + T + offJ js N) := Lib.hid (by rw [← HL.out, graphP_len, HN.out, HN2.out]; omega)
                have gc0 := m.og.cell (i := 0) (by omega)
                have gc1 := m.og.cell (i := 1) (by omega)
                have gc0' : W.cell? ⟨bi + 2, 0, none⟩ = some (.int .i64 nn) := gc0
                have gc1' : W.cell? ⟨bi + 2, 1, none⟩ = some (.slice aE L cE) := gc1
                have HM9 := Lib.hid m
                have Hmk := Lib.hid hmk
                have Hrd := Lib.hid rdE
                clear m gc0 gc1 hes hL HM hmk rdE l0 hlt hltz hk
                simp only [FR3]
                go_wp2_with fail
                refine (fMost_cases nn 0 1 cE L aE (graphP js sup) W Hrd.out HL HEn).mono ?_
                rintro e W1 ⟨gF, gs, fl, side, rfl, r1, r2, hf, hc, hcap, hb⟩
                rw [Int.toNat_natCast]
                have HM1 := Lib.hid (HM9.out.keep hb)
                have Hmk1 := Lib.hid (Hmk.out.below hb)
                have hBW1 : wr.heap.size ≤ W1.heap.size := Nat.le_trans hBW hb.size
                have Hr1 := Lib.hid r1
                have Hr2 := Lib.hid r2
                have Hf := Lib.hid (And.intro hf (And.intro hc hcap))
                have hbd := net_le_bound (okEnds_iff.1 HEn.out).1 hf 0
                obtain ⟨am, ham⟩ : ∃ am, am = net (graphP js sup) fl 0 := ⟨_, rfl⟩
                rw [← ham] at hbd ⊢
                have Ham := Lib.hid ham
                clear r1 r2 hf hc hcap ham hb HM9 Hmk Hrd gc0' gc1'
                by_cases hless : am < need
                · as_aux_lemma =>
                  have k0 := HM1.out.k0
                  have k9 := HM1.out.k9
                  have k10 := HM1.out.k10
                  go_upto_region 30 with (fail)
                  refine wp_normal (fun K hK => ?_)
                  refine sc30 w W1 A A2 c N c2 T bi gs nn side ds K Hnn.out (by have := Hnn.out; omega) k0 k9 k10 Hr2.out (Lib.hid (by have := Hf.out.2.1.len; omega)) _ _ _ _ _ _ _ _ _ _ _ _ _ _ _ _ _ _ _ _ _ _ _ _ _ _ _ _ _ _ _ _ _ _ _ _ _ _ _ _ _ _ _ _ _ _ _ _ _ _ _ _ _ _ _ _ _ _ _ _ _ _ _ _ _ _ _ _ _ _ _ _ _ _ _ _ _ _ _ _ _ _ _ _ _ _ _ _ _ _ _ _ _ _ _ _ _ _ _ _ _ _ _ _ _ _ _ _ _ _ _ _ _ _ _ _ _ _ _ _ _ _ _ _ _ _ _ _ _ _ _ _ _ _ _ _ _ _ _ _ _ _ _ _ _ _ _ _ _ _ _ _ _ _ _ _ _ _ _ _ _ _ _ _ _ _ _ _ (Lib.hid ?_)
                  intro W2 b24 a3 a4 c3 c4
                  intros
                  rename_i cut
                  refine hK _ _ ?_
                  clear hK K k0 k9 k10
                  have HM2 := Lib.hid (HM1.out.keep cut.bel)
                  have Hmk2 := Lib.hid (Hmk1.out.below cut.bel)
                  have hcj := chosen_len side 2 N
                  have hcs := chosen_len side (2 + N) T
                  have HC : Hid (cutPB js sup (chosenTo side 2 N) (chosenTo side (2 + N) T) = true) := Lib.hid (cut_of_side HN.out HN2.out HOK.out (by rw [Hnn.out]; exact Hf.out.2.1) (by
                    rw [Hf.out.2.2, ← Ham.out]
                    unfold allE
                    rw [HN.out, ← Hneed.out]
                    exact hless))
                  generalize chosenTo side 2 N = cj at *
                  generalize chosenTo side (2 + N) T = cs at *
                  have q240 := cut.own.cell (i := 0) (by omega)
                  have q241 := cut.own.cell (i := 1) (by omega)
                  have q240' : W2.cell? ⟨b24, 0, none⟩ = some (.slice a3 cj.length c3) := q240
                  have q241' : W2.cell? ⟨b24, 1, none⟩ = some (.slice a4 cs.length c4) := q241
                  have c50 := HM2.out.o5.cell (i := 0) (by omega)
                  have c51 := HM2.out.o5.cell (i := 1) (by omega)
                  have f50 := HM2.out.o5.frozen 0
                  have f51 := HM2.out.o5.frozen 1
                  have HE5 := Lib.hid (cut_end (n3 := cj.length) (n4 := cs.length) (c3 := c3) (c4 := c4) HM2.out.o5 cut.r3 cut.r4 Hmk2.out HM2.out.bel)
                  have HFR : Hid (FreshV w (.slice a4 cs.length c4)) := Lib.hid (fun q hq => Nat.le_trans HM1.out.bel.size (cut.fr q hq))
                  have hb24 := cut.lb
                  have hne24 : b24 ≠ w.heap.size + 1 := by have := HM1.out.bb; have := HM1.out.size; omega
                  clear cut q240 q241 HM2 Hmk2 HM1 Hmk1
                  go_step
                  go_wp2
                  go_region
                  go_step
                  go_wp2_with fail
                  obtain ⟨E1, E2, E3, E4, E5⟩ := HE5.out
                  refine leaves_marks (B := wr.heap.size) ds _ E4 (fun W3 hT => ⟨_, results_tct (t := 4) (a := 5) (x := 6) (by kernel_rfl) rfl (load_cut (hT.own E1)), E5.trans (taken_below hT hws), .inr (.inr ⟨a3, c3, a4, c4, cj, cs, rfl, E2.taken hT, E3.taken hT, by omega, by omega, HC.out, HFR.out⟩)⟩)
                · have k0 := HM1.out.k0
                  have HTB := Lib.hid (plTable_any N T W1 t1 t2)
                  go_wp2_with fail
                  refine HTB.out.mono ?_
                  clear HTB
                  rintro e W2 ⟨ga, gt, rfl, oa, ot, hb2, hga, hgt, hne⟩
                  obtain ⟨bp, hbp⟩ : ∃ bp, bp = W2.heap.size := ⟨_, rfl⟩
                  have hoffN := off_le HOK.out N (by rw [HN.out]; omega)
                  obtain ⟨R0, hR0⟩ : ∃ R0, R0 = offJ js N := ⟨_, rfl⟩
                  have hLM := HLM.out
                  rw [← hR0] at hLM hoffN
                  subst hLM
                  have hLz : (N : Int) + (T : Int) ≤ ((N + T + R0 : Nat) : Int) := by omega
                  have HM2 := Lib.hid (HM1.out.keep hb2)
                  have k02 := HM2.out.k0
                  have l02 := World.block_lt_of_cell? W2 _ k02
                  have Hmk2 := Lib.hid (Hmk1.out.below hb2)
                  have Hr12 := Lib.hid (Hr1.out.keep hb2)
                  have Hoa := Lib.hid oa
                  have Hot := Lib.hid ot
                  have hbW2 := hb2.size
                  have HR0 := Lib.hid hR0
                  have hsb : w.heap.size + 1 < W1.heap.size := HM1.out.o5.lt
                  clear oa ot hb2 hR0 k0 HM1 Hmk1 HLM
                  go_upto_region 34 with (fail)
                  obtain ⟨ad, had⟩ : ∃ ad : Option Addr, ad = if R0 = 0 then some ⟨gF, 0, none⟩ else some ⟨gF, N + T, none⟩ := ⟨_, rfl⟩
                  generalize (if N + T + R0 = N + T then some (⟨gF, 0, none⟩ : Addr) else some ⟨gF, N + T, none⟩) = ad2
                  rw [← had, ← hbp]
                  have bw : Below W2.heap.size W2 ((W2.alloc (.cells #[.slice (some ⟨gt, 0, none⟩) N N] 28)).alloc (.cells #[.slice ad R0 R0] 23)) := ((Below.refl _ W2).alloc (Nat.le_refl _) _).alloc (by simp) _
                  have SP0 : SPm w ((W2.alloc (.cells #[.slice (some ⟨gt, 0, none⟩) N N] 28)).alloc (.cells #[.slice ad R0 R0] 23)) A c N T bp gt ga gF (N + T + R0) fl (planTo js T fl 0) (offJ js N - offJ js 0) := by
                    have e0 : offJ js N - offJ js 0 = R0 := by rw [HR0.out]; rfl
                    rw [e0]
                    have lot := Hot.out.lt
                    have loa := Hoa.out.lt
                    refine ⟨(bw.cell (p := ⟨w.heap.size, 0, none⟩) l02).trans k02, HM2.out.o5.keep bw HM2.out.o5.lt, by rw [hbp]; go_simp, ⟨ad, ?_, fun h0 => by rw [had, if_neg (by omega)]; congr 2; omega⟩, Hot.out.keep bw lot, ?_, Hr12.out.keep bw, below_then HM2.out.bel bw, by omega, by omega, fun h0 => ?_, by omega, by omega, hne⟩
                    · exact Own.newAt _ _ _ _ (by simp [hbp]) (n := 1) rfl (one_cellI _)
                    · exact (Hoa.out.keep bw loa).congr (fun i hi => by unfold matC planTo; rw [if_neg (Nat.not_lt_zero _)])
                    · obtain ⟨b9, o9, e9, l9, _⟩ := Hr1.out h0
                      injection e9 with e9
                      injection e9 with e9 _
                      subst e9
                      omega
                  have mk3 := Hmk2.out.below bw
                  have hB3 : wr.heap.size ≤ ((W2.alloc (.cells #[.slice (some ⟨gt, 0, none⟩) N N] 28)).alloc (.cells #[.slice ad R0 R0] 23)).heap.size := Nat.le_trans (Nat.le_trans hBW1 hbW2) bw.size
                  refine wp_world (fun W => SPm w W A c N T bp gt ga gF (N + T + R0) fl (planTo js T fl 0) (offJ js N - offJ js 0) ∧ Marks wr.heap.size W ds ∧ wr.heap.size ≤ W.heap.size) ⟨SP0, mk3, hB3⟩ ?_
                  rintro W4 ⟨SP4, mk4, hB4⟩
                  have q04 := SP4.k0
                  have HSP := Lib.hid SP4
                  clear SP0 mk3 hB3 SP4 bw had hbp k02 l02 HM2 Hmk2 Hr12 Hoa Hot
                  go_wp2
                  refine wp_loop (SInv4 w A c N T bp gt ga gF (N + T + R0) wr.heap.size js fl) (SMu4 N) ?_ ?_
                  · exact ⟨0, ds, by omega, HSP.out, mk4, hB4, fr_intro (FR4 w A c N bp 0) rfl⟩
                  · rintro a W5 ⟨k, ds5, hk, m5, hmk5, hBW5, f5, rfl⟩
                    by_cases hlt : k < N
                    · exact sp4_some w W5 A c N T bp gt ga gF (N + T + R0) wr.heap.size k js sup fl ds5 _ f5 (Lib.hid HRS.out.1) HN HOK HN2 hlt (by rw [HR0.out]) (Lib.hid (by rw [Hf.out.1.len]; exact HL.out)) m5 hmk5 hws hBW5
                    · have hltz : ¬ (k : Int) < (N : Int) := by omega
                      have hkN : N = k := by omega
                      subst hkN
                      have c25 := m5.k25
                      have c50 := m5.o5.cell (i := 0) (by omega)
                      have c51 := m5.o5.cell (i := 1) (by omega)
                      have f50 := m5.o5.frozen 0
                      have f51 := m5.o5.frozen 1
                      have hg1 := m5.b1
                      have hg2 := m5.b2
                      have hM : Mod (fun q => q = w.heap.size + 1) W5 ((W5.setCell ⟨w.heap.size + 1, 0, none⟩ (.slice none 0 0)).setCell ⟨w.heap.size + 1, 1, none⟩ (.slice none 0 0)) :=
                        ((Mod.refl (fun q => q = w.heap.size + 1) W5).setCell (p := ⟨w.heap.size + 1, 0, none⟩) (.inl rfl) _).setCell (p := ⟨w.heap.size + 1, 1, none⟩) (.inl rfl) _
                      have H1 := Lib.hid ((m5.o5.set 0 (.slice none 0 0)).set 1 (.slice none 0 0))
                      have H2 := Lib.hid (m5.ot.mod hM (by omega))
                      have H3 := Lib.hid (m5.oa.mod hM (by omega))
                      have H4 := Lib.hid (hmk5.keeps (keepsFrom_mod hM wr.heap.size (fun q hq o ho => by subst hq; exact m5.o5.cells ho)))
                      have H5 := Lib.hid (m5.bel.trans (hM.below m5.bel.size (fun q _ hq => by omega)))
                      have HP : Hid (planB js sup (mk N (fun i => mk T (fun t => planTo js T fl N i t))) = true) := Lib.hid (by
                        have hfl := Hf.out.1
                        rw [show ((nn : Nat) : Int) = 2 + (js.length : Int) + (sup.length : Int) by rw [HN.out, HN2.out]; have := Hnn.out; omega] at hfl
                        have hp := flow_plan HOK.out hfl (by
                          rw [← Ham.out]
                          unfold allE
                          rw [HN.out, ← Hneed.out]
                          omega)
                        rw [HN2.out] at hp
                        exact planB_flow HN.out HN2.out HOK.out hp (fun i t hi ht => by unfold planTo; rw [if_pos hi]))
                      clear m5 hmk5 hM
                      simp only [FR4]
                      go_wp2_with fail
                      refine leaves_marks (B := wr.heap.size) ds5 _ H4.out (fun W3 hT => ⟨_, results_tct (t := 4) (a := 5) (x := 6) (by kernel_rfl) rfl (load_cut (hT.own H1.out)), H5.out.trans (taken_below hT hws), .inr (.inl ⟨gt, _, _, rfl, rdP_own (hT.own H2.out) (hT.own H3.out) t2, mk_len _ _, HP.out, capsOk_mk _⟩)⟩)
theorem plSchedule_any (A A2 : Option Addr) (c N c2 T : Nat) (js : List GJob) (sup : List Int) (w : World) (hR : Rd 5 encJ w A js) (HN : Hid (js.length = N)) (hl : N ≤ 9223372036854775807) (hR2 : Rd 1 encI w A2 sup) (HN2 : Hid (sup.length = T)) (hl2 : T ≤ 9223372036854775807) :
    Calls Try.prog 23 #[.slice A N c, .slice A2 T c2] w (SchedPost w js sup N) := by
  refine (plSchedule_caps A A2 c N c2 T js sup w hR HN hl hR2 HN2 hl2).mono ?_
  rintro e w' ⟨h1, h | ⟨gt, rs, ps, h2, h3, h4, h5, _⟩ | h⟩
  · exact ⟨h1, .inl h⟩
  · exact ⟨h1, .inr (.inl ⟨gt, rs, ps, h2, h3, h4, h5⟩)⟩
  · obtain ⟨a3, c3, a4, c4, cj, cs, h2, h3, h4, h5, h6, h7, _⟩ := h
    exact ⟨h1, .inr (.inr ⟨a3, c3, a4, c4, cj, cs, h2, h3, h4, h5, h6, h7⟩)⟩
end Go.Proofs.Ytgfcnkfmgpakkaa
