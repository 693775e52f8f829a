/-
The search for a way, walked.
-/
import Derived.Test.YtgfcnkfmgpakkaaGFlowN
import Derived.Test.YtgfcnkfmgpakkaaCFlowS
namespace Go.Proofs.Ytgfcnkfmgpakkaa
open Go.RowKit Go.Shelf

def SDone (es : List GEdge) (fl : List Int) (nn N s t : Nat) (seen : List Bool) (st : List GStep) : Prop :=
  Found es fl nn N s t seen st ∨ ∃ xs, Bfs es fl nn N s t seen st xs ∧ ∀ u, u < nn → bAt seen u = true → DoneAt es fl N seen u

theorem bAt_rep (nn u : Nat) : bAt (List.replicate nn false) u = false := by
  unfold bAt
  rw [List.getElem?_replicate]
  split <;> rfl
theorem Bfs.init {es : List GEdge} {fl : List Int} {nn N s t : Nat} (hs : s < nn) (hst : s ≠ t) : Bfs es fl nn N s t ((List.replicate nn false).set s true) (List.replicate nn default) [(s : Int)] := by
  have hb : ∀ u, bAt ((List.replicate nn false).set s true) u = if u = s then true else false := fun u => by
    rw [bAt_set (by simpa using hs), bAt_rep]
  have hone : ∀ u, bAt ((List.replicate nn false).set s true) u = true → u = s := fun u hu => by
    rw [hb] at hu
    by_cases e : u = s
    · exact e
    · rw [if_neg e] at hu; cases hu
  refine ⟨by simp, by simp, by rw [hb]; simp, ⟨fun _ => 0, fun v _ _ => by simp, ?_⟩, fun v _ hv => by rw [hone v hv]; simp, fun x hx => ?_, ?_, ?_⟩
  · intro v hv hvs hne
    exact absurd (hone v hvs) hne
  · rw [List.mem_singleton] at hx
    exact ⟨s, hx, hs, by rw [hb]; simp⟩
  · rw [count_set _ _ (by simpa using hs) (bAt_rep nn s)]
    simp [List.count_replicate]
  · rw [hb, if_neg (fun e => hst e.symm)]

theorem search_round (gN gF gA nn N c s t b5 b8 b9 bq gs gb B : Nat) (A : Option Addr) (es : List GEdge) (fl : List Int) (w : World) (hnet : Hid (NetRd w gN gF gA nn N c A es fl)) (Q0 : Exit → Act → World → Prop)
    (hexit : Hid (∀ a' W', SExit gN nn N s t b5 b8 b9 bq gs gb B es fl w a' W' → Q0 (.exit 0) a' W')) (v : Value) (seen : List Bool) (st : List GStep) (xs : List Int) (h : Nat) (ds : List Deferred) (u11 u12 u13 u14 u15 u16 u17 u18 u19 u20 u21 u22 u23 u24 u25 u26 u27 u28 u29 u30 u31 u32 u33 u34 u35 u36 u37 u38 u39 u40 u41 u42 u43 u44 u45 u46 u47 u48 u49 u50 u51 u52 u53 u54 u55 u56 u57 u58 u59 u60 u61 u62 u63 : Value) (W : World) 
    (hmem : SMem W b5 b8 b9 bq gs gb B nn t v seen st xs h) (hbfs : Bfs es fl nn N s t seen st xs) (hdone : Hid (∀ p u : Nat, p < h → xs[p]? = some (u : Int) → DoneAt es fl N seen u)) (hbw : Below w.heap.size w W) (hBW : B ≤ W.heap.size) (hwB : w.heap.size ≤ bq) (hwS : w.heap.size ≤ gs) (hwb : w.heap.size ≤ gb) (hwBB : w.heap.size ≤ B) (hmk : Marks B W ds) :
    Code.wp Try.prog searchBody (Exit.then (fun a' W' => SInv gN nn N s t b5 b8 b9 bq gs gb B es fl w a' W' ∧ SMu bq nn a' W' < SMu bq nn ⟨List.toArray ((.pointer (some ⟨gN, 0, none⟩)) :: (.int .i64 s) :: (.int .i64 t) :: undef :: undef :: (.pointer (some ⟨b5, 0, none⟩)) :: (.slice none 0 0) :: (.slice none 0 0) :: (.pointer (some ⟨b8, 0, none⟩)) :: (.pointer (some ⟨b9, 0, none⟩)) :: (.pointer (some ⟨bq, 0, none⟩)) :: u11 :: u12 :: u13 :: u14 :: u15 :: u16 :: u17 :: u18 :: u19 :: u20 :: u21 :: u22 :: u23 :: u24 :: u25 :: u26 :: u27 :: u28 :: u29 :: u30 :: u31 :: u32 :: u33 :: u34 :: u35 :: u36 :: u37 :: u38 :: u39 :: u40 :: u41 :: u42 :: u43 :: u44 :: u45 :: u46 :: u47 :: u48 :: u49 :: u50 :: u51 :: u52 :: u53 :: u54 :: u55 :: u56 :: u57 :: u58 :: u59 :: u60 :: u61 :: u62 :: u63 :: []), ds⟩ W) Q0) ⟨List.toArray ((.pointer (some ⟨gN, 0, none⟩)) :: (.int .i64 s) :: (.int .i64 t) :: undef :: undef :: (.pointer (some ⟨b5, 0, none⟩)) :: (.slice none 0 0) :: (.slice none 0 0) :: (.pointer (some ⟨b8, 0, none⟩)) :: (.pointer (some ⟨b9, 0, none⟩)) :: (.pointer (some ⟨bq, 0, none⟩)) :: u11 :: u12 :: u13 :: u14 :: u15 :: u16 :: u17 :: u18 :: u19 :: u20 :: u21 :: u22 :: u23 :: u24 :: u25 :: u26 :: u27 :: u28 :: u29 :: u30 :: u31 :: u32 :: u33 :: u34 :: u35 :: u36 :: u37 :: u38 :: u39 :: u40 :: u41 :: u42 :: u43 :: u44 :: u45 :: u46 :: u47 :: u48 :: u49 :: u50 :: u51 :: u52 :: u53 :: u54 :: u55 :: u56 :: u57 :: u58 :: u59 :: u60 :: u61 :: u62 :: u63 :: []), ds⟩ W := by
  have hhx := hmem.qu.le
  rcases Nat.lt_or_ge h xs.length with hh | hh
  · exact search_some gN gF gA nn N c s t b5 b8 b9 bq gs gb B A es fl w hnet Q0 hexit v seen st xs h ds u11 u12 u13 u14 u15 u16 u17 u18 u19 u20 u21 u22 u23 u24 u25 u26 u27 u28 u29 u30 u31 u32 u33 u34 u35 u36 u37 u38 u39 u40 u41 u42 u43 u44 u45 u46 u47 u48 u49 u50 u51 u52 u53 u54 u55 u56 u57 u58 u59 u60 u61 u62 u63 W hh hmem hbfs hdone hbw hBW hwB hwS hwb hwBB hmk
  · obtain rfl : h = xs.length := by omega
    exact search_none gN nn N s t b5 b8 b9 bq gs gb B es fl w Q0 hexit v seen st xs ds u11 u12 u13 u14 u15 u16 u17 u18 u19 u20 u21 u22 u23 u24 u25 u26 u27 u28 u29 u30 u31 u32 u33 u34 u35 u36 u37 u38 u39 u40 u41 u42 u43 u44 u45 u46 u47 u48 u49 u50 u51 u52 u53 u54 u55 u56 u57 u58 u59 u60 u61 u62 u63 W _ hmem hbfs hdone hbw hmk

set_option maxRecDepth 100000 in
set_option maxHeartbeats 16000000 in
theorem fSearch_t (gN gF gA nn N c s t : Nat) (A : Option Addr) (es : List GEdge) (fl : List Int) (w : World) (hnet : NetRd w gN gF gA nn N c A es fl) (hs : s < nn) (_ht : t < nn) (hst : s ≠ t) :
    Calls Try.prog 85 #[.pointer (some ⟨gN, 0, none⟩), .int .i64 s, .int .i64 t] w (SearchPost (fun _ => SDone es fl nn N s t) w nn) := by
  have Hnet := Lib.hid hnet
  obtain ⟨n0, n1, n2, n3, hfl, hrows, hedges, hlen, hok, hfits⟩ := hnet
  obtain ⟨k1, k2, hl⟩ := (okG_iff.1 hok).1
  have lN := World.block_lt_of_cell? w _ n0
  dsimp only at lN
  have lN1 : gN < w.heap.size + 1 := by omega
  have lN2 : gN < w.heap.size + 1 + 1 := by omega
  have lN3 : gN < w.heap.size + 1 + 1 + 1 := by omega
  have lN4 : gN < w.heap.size + 1 + 1 + 1 + 1 := by omega
  have hmk := mk_row (P := Try.prog) 75 4 (.bool false) 1 1 Try.underlying75 infoBool nn (by omega) (by omega) (by omega)
  have hmk2 := mk_row (P := Try.prog) 101 122 (.agg #[.int .i64 0, .int .i64 0, .int .i64 0, .bool false]) 4 32 Try.underlying101 infoStep nn (by omega) (by omega) (by omega)
  have s1 : (s : Int) < (nn : Int) := by omega
  refine (callsIn_wide (n := 5)).1 ?_
  refine callsIn_of_wp_marks Try.func85 rfl trivial ?_ rfl
  refine wpIn_wide.2 ?_
  simp only [Try.ntmps85, List.size_toArray, List.length_cons, List.length_nil, Nat.reduceAdd, Nat.reduceSub, Array.replicate_succ, Array.replicate_zero, List.push_toArray, List.append_toArray, List.nil_append, List.cons_append]
  go_wp2_with fail
  go_step3
  go_wp2_with fail
  go_cut [8, 9] from 14 to 63 (fun s8 s9 W => ∃ b8 b9 gs gb : Nat, s8 = .pointer (some ⟨b8, 0, none⟩) ∧ s9 = .pointer (some ⟨b9, 0, none⟩) ∧ Own W b8 75 1 (fun _ => .slice (some ⟨gs, 0, none⟩) nn nn) ∧ Own W b9 101 1 (fun _ => .slice (some ⟨gb, 0, none⟩) nn nn) ∧ Own W gs 4 nn (fun _ => .bool false) ∧ Own W gb 122 (nn * 4) (stCell (List.replicate nn default)) ∧ Own W w.heap.size 3 1 (fun _ => .int .i64 t) ∧ Below w.heap.size w W ∧ w.heap.size ≤ gs ∧ w.heap.size ≤ gb)
  case first => as_aux_lemma =>
    clear hfl hrows hedges hok hfits n1 n2 n3
    go_region_held3 (fun w' => w'.cell? ⟨gN, 0, none⟩ = some (.int .i64 nn)) (first | exact n0 | (refine Eq.trans (Below.cell (B := w.heap.size) (w := w) (p := ⟨gN, 0, none⟩) ?_ lN) n0; repeat (first | exact Below.refl _ _ | refine Below.drew ?_ | refine Below.alloc ?_ (by first | (simp; done) | (simp; omega)) _ | refine Below.setCell ?_ (by first | (simp; done) | (simp; omega)) _))) (fail)
    all_goals
      go_wp2_with fail
      go_meet
      iterate 4 apply Exists.intro
      refine ⟨rfl, rfl, ?_, ?_, ?_, ?_, ?_, ?_, ?_, ?_⟩
      · refine Own.drew ?_
        repeat (first | exact Own.newAt _ _ _ _ (by simp; done) rfl (one_cell _) | refine Own.alloc ?_ _)
      · refine Own.drew ?_
        repeat (first | exact Own.newAt _ _ _ _ (by simp; done) rfl (one_cell _) | refine Own.alloc ?_ _)
      · refine Own.drew ?_
        repeat (first | exact Own.madeAt _ _ _ _ _ (by simp; done) | refine Own.alloc ?_ _)
      · refine Own.drew ?_
        repeat (first | exact made_step _ _ _ (by simp; done) | refine Own.alloc ?_ _)
      · refine Own.drew ?_
        repeat (first | exact Own.newAt _ _ _ _ rfl rfl (one_cell _) | refine Own.alloc ?_ _)
      · refine Below.drew ?_
        repeat (first | exact Below.refl _ _ | refine Below.alloc ?_ (by first | (simp; done) | (simp; omega)) _)
      · omega
      · omega
  case rest =>
    obtain ⟨b8, b9, gs, gb, rfl, rfl, h8, h9, hgs, hgb, h5, hb0, z1, z2⟩ := hcut
    have c8 := h8.cell (i := 0) (by omega)
    have l8 := h8.lt
    have x1 := hgs.cell hs
    have x2 := hgs.frozen s
    have x3 := hgs.lt
    clear hmk hmk2
    go_wp2_with fail
    have hsz0 : (wc.setCell ⟨gs, s, none⟩ (.bool true)).heap.size = wc.heap.size := by simp [World.setCell]
    have Hsz0 := Lib.hid hsz0; clear hsz0
    have hq : Queue ((wc.setCell ⟨gs, s, none⟩ (.bool true)).alloc (.cells #[.slice none 0 0, .int .i64 0] 115)) wc.heap.size (wc.heap.size + 1) (.slice none 0 0) [] 0 :=
      ⟨Own.newAt _ 115 _ _ Hsz0.out (n := 2) rfl (queue_cells _), World.ownsRow_nil _ _ _ _, Nat.le_refl _⟩
    have h8b := (h8.other (p := ⟨gs, s, none⟩) (h8.ne hgs (by decide)) (.bool true)).alloc (.cells #[.slice none 0 0, .int .i64 0] 115)
    have h9b := (h9.other (p := ⟨gs, s, none⟩) (h9.ne hgs (by decide)) (.bool true)).alloc (.cells #[.slice none 0 0, .int .i64 0] 115)
    have h5b := (h5.other (p := ⟨gs, s, none⟩) (h5.ne hgs (by decide)) (.bool true)).alloc (.cells #[.slice none 0 0, .int .i64 0] 115)
    have hgbb := (hgb.other (p := ⟨gs, s, none⟩) (hgb.ne hgs (by decide)) (.bool true)).alloc (.cells #[.slice none 0 0, .int .i64 0] 115)
    have hgsb := (hgs.set s (.bool true)).alloc (.cells #[.slice none 0 0, .int .i64 0] 115)
    have hb1 : Below w.heap.size w ((wc.setCell ⟨gs, s, none⟩ (.bool true)).alloc (.cells #[.slice none 0 0, .int .i64 0] 115)) := (hb0.setCell (p := ⟨gs, s, none⟩) z1 _).alloc (by rw [Hsz0.out]; exact hb0.size) _
    refine (fPush_any wc.heap.size (wc.heap.size + 1) (.slice none 0 0) [] 0 s _ hq (by simp [Hsz0.out]) (by simp)).mono ?_
    rintro e w1 ⟨rfl, v1, hq1, hm1, hv1⟩
    have hmem : SMem w1 w.heap.size b8 b9 wc.heap.size gs gb (wc.heap.size + 1) nn t v1 ((List.replicate nn false).set s true) (List.replicate nn default) [(s : Int)] 0 := by
      have nb : ∀ {g ty n f}, Own wc g ty n f → ¬ (g = wc.heap.size ∨ (Value.slice none 0 0).ownBlock = some g) := by
        rintro g ty n f hO (h | h)
        · have := hO.lt; omega
        · simp [Value.ownBlock] at h
      exact ⟨h5b.mod hm1 (nb h5), h8b.mod hm1 (nb h8), h9b.mod hm1 (nb h9), (hgsb.mod hm1 (nb hgs)).congr (fun i hi => by
        rw [List.getElem?_set]
        by_cases e : i = s
        · subst e; simp [hs]
        · have e' : ¬ s = i := fun x => e x.symm
          simp [e, e', hi]), hgbb.mod hm1 (nb hgb), hq1, by have := h5.lt; omega⟩
    have hbw : Below w.heap.size w w1 := hb1.trans (hm1.below hb1.size (fun k _ hk => by
      rcases hk with h | h
      · have := hb0.size; omega
      · simp [Value.ownBlock] at h))
    have hqB : wc.heap.size + 1 ≤ w1.heap.size := by have := hm1.size; simpa [Hsz0.out] using this
    clear hq h8b h9b h5b hgbb hgsb hb1 hq1 hm1 c8 l8 x1 x2 x3 h8 h9 hgs hgb h5
    go_wp2_with fail
    refine wp_label ?_
    rename_i hK
    refine hK _ _ ?_
    clear hK
    go_wp2_with fail
    refine wp_loop (SInv gN nn N s t w.heap.size b8 b9 wc.heap.size gs gb (wc.heap.size + 1) es fl w) (SMu wc.heap.size nn) ?_ ?_
    · exact ⟨v1, _, _, _, 0, [], hmem, Bfs.init hs hst, fun p u hp => absurd hp (Nat.not_lt_zero _), hbw, hqB, Marks.nil _ _, _, _, _, _, _, _, _, _, _, _, _, _, _, _, _, _, _, _, _, _, _, _, _, _, _, _, _, _, _, _, _, _, _, _, _, _, _, _, _, _, _, _, _, _, _, _, _, _, _, _, _, _, _, rfl⟩
    · rintro a W ⟨v', seen', st', xs', h', ds', m1, m2, m3, m7, m8, m9, u11, u12, u13, u14, u15, u16, u17, u18, u19, u20, u21, u22, u23, u24, u25, u26, u27, u28, u29, u30, u31, u32, u33, u34, u35, u36, u37, u38, u39, u40, u41, u42, u43, u44, u45, u46, u47, u48, u49, u50, u51, u52, u53, u54, u55, u56, u57, u58, u59, u60, u61, u62, u63, rfl⟩
      refine search_round gN gF gA nn N c s t w.heap.size b8 b9 wc.heap.size gs gb (wc.heap.size + 1) A es fl w Hnet _ (Lib.hid (fun a' W' hx => ?_)) v' seen' st' xs' h' ds' u11 u12 u13 u14 u15 u16 u17 u18 u19 u20 u21 u22 u23 u24 u25 u26 u27 u28 u29 u30 u31 u32 u33 u34 u35 u36 u37 u38 u39 u40 u41 u42 u43 u44 u45 u46 u47 u48 u49 u50 u51 u52 u53 u54 u55 u56 u57 u58 u59 u60 u61 u62 u63 W m1 m2 (Lib.hid m3) m7 m8 hb0.size z1 z2 (by have := hb0.size; omega) m9
      obtain ⟨y, seen2, st2, xs2, h2, ds2, q1, q2, q7, q9, p11, p12, p13, p14, p15, p16, p17, p18, p19, p20, p21, p22, p23, p24, p25, p26, p27, p28, p29, p30, p31, p32, p33, p34, p35, p36, p37, p38, p39, p40, p41, p42, p43, p44, p45, p46, p47, p48, p49, p50, p51, p52, p53, p54, p55, p56, p57, p58, p59, p60, p61, p62, p63, rfl⟩ := hx
      have c8 := q1.k8.cell (i := 0) (by omega)
      have c9 := q1.k9.cell (i := 0) (by omega)
      go_wp2_with fail
      go_region_held3 (fun w' => w'.cell? ⟨b8, 0, none⟩ = some (.slice (some ⟨gs, 0, none⟩) nn nn) ∧ w'.cell? ⟨b9, 0, none⟩ = some (.slice (some ⟨gb, 0, none⟩) nn nn)) (exact ⟨c8, c9⟩) (fail)
      go_wp2_with fail
      refine leaves_marks (B := wc.heap.size + 1) ds2 _ (q9.below (Below.refl _ _).drew) (fun W3 hT => ⟨.tuple #[.slice (some ⟨gs, 0, none⟩) nn nn, .slice (some ⟨gb, 0, none⟩) nn nn], ?_, gs, gb, seen2, st2, rfl, hT.own q1.sn, hT.own q1.by_, ?_, ?_, z1, z2⟩)
      · exact results_tmp2 (t := 6) (u := 7) (by kernel_rfl) _ _ _
      · rcases q2 with q2 | ⟨q2, q3⟩
        · exact .inl q2
        · exact .inr ⟨xs2, q2, q3⟩
      · have := hb0.size
        exact q7.trans ⟨hT.1, hT.2.1, hT.2.2.1, Nat.le_of_eq hT.2.2.2.1.symm, fun k hk => hT.2.2.2.2.1 k (by omega)⟩
end Go.Proofs.Ytgfcnkfmgpakkaa
