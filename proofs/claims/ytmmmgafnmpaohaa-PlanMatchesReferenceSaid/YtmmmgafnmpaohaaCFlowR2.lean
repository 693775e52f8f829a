/-
The reference's search, walked.
-/
import Derived.Test.YtmmmgafnmpaohaaCFlowR5
import Derived.Test.YtmmmgafnmpaohaaGFlowQ
namespace Go.Proofs.Ytmmmgafnmpaohaa
open Go.RowKit
set_option linter.unusedVariables false
theorem mk_opq {P : Program} (t e : TypeId) (z : Value) (bytes : Nat) (ht : P.underlying t = some (.slice e)) (hinfo : (P.info? e).map (fun i => (i.zero, i.size, i.bytes)) = some (some z, 1, bytes)) (hz : z.cells = #[z])
    (n : Nat) (hb : bytes * n ≤ 281474976710656) (h63 : n ≤ 9223372036854775807) :
    ∃ mc : Array Value, (∀ W : World, (Instr.makeSlice t (.int .i64 n) (.int .i64 n)).run P W = .ok (.slice (some ⟨W.heap.size, 0, none⟩) n n) (W.alloc (.cells mc e))) ∧ ∀ (W : World) (g : Nat), W.heap.size = g → Own (W.alloc (.cells mc e)) g e n (fun _ => z) := by
  refine ⟨madeCells #[z] (n * 1), fun W => ?_, fun W g hg => ?_⟩
  · have := mk_row (P := P) t e z 1 bytes ht hinfo (n : Int) (by omega) (by omega) (by omega) W
    rw [hz] at this
    simpa using this
  · subst hg
    exact Own.made1 W e z n
def ReachPost (w : World) (nn N s : Nat) (es : List GEdge) (fl : List Int) (e : Ending) (w' : World) : Prop :=
  ∃ gs gb seen st, e = .returned (.tuple #[.slice (some ⟨gs, 0, none⟩) nn nn, .slice (some ⟨gb, 0, none⟩) nn nn]) ∧ Own w' gs 4 nn (fun i => .bool (bAt seen i)) ∧ Own w' gb 3 nn (fun i => .int .i64 (byOf N (stAt st i))) ∧ Below w.heap.size w w' ∧ w.heap.size ≤ gs ∧ w.heap.size ≤ gb ∧ gs ≠ gb ∧
    seen.length = nn ∧ st.length = nn ∧ bAt seen s = true ∧ (∃ rk, TreeAt es fl nn N s seen st rk) ∧ ∀ u, u < nn → bAt seen u = true → DoneAt es fl N seen u
set_option maxRecDepth 100000 in
set_option maxHeartbeats 8000000 in
theorem rfReached_any (nn c N s c2 : Nat) (A A2 : Option Addr) (es : List GEdge) (fl : List Int) (w : World) (hR : Rd 3 encE w A es) (HN : Hid (es.length = N)) (HE : Hid (okG nn es = true)) (hs : s < nn) (hR2 : Rd 1 encI w A2 fl) (HN2 : Hid (fl.length = N)) :
    Calls Try.prog 68 #[.agg #[.int .i64 nn, .slice A N c], .slice A2 N c2, .int .i64 s] w (ReachPost w nn N s es fl) := by
  obtain ⟨n1, n2, hl⟩ := (okG_iff.1 HE.out).1
  rw [HN.out] at hl
  obtain ⟨mb, hmk, hmb⟩ := mk_opq (P := Try.prog) 65 4 (.bool false) 1 Try.underlying65 infoBool rfl nn (by omega) (by omega)
  obtain ⟨mi, hmk2, hmi⟩ := mk_opq (P := Try.prog) 23 3 (.int .i64 0) 8 Try.underlying23 infoInt rfl nn (by omega) (by omega)
  have Hmb := Lib.hid hmb
  have Hmi := Lib.hid hmi
  clear hmb hmi
  have hsz : (s : Int) < (nn : Int) := by omega
  go_enter Try.func68, Try.ntmps68
  go_upto_region 3 with (fail)
  refine wp_world (fun W => Own W (w.heap.size + 1) 4 nn (fun _ => .bool false) ∧ Own W (w.heap.size + 1 + 1) 3 nn (fun _ => .int .i64 0) ∧ W.cell? ⟨w.heap.size, 0, none⟩ = some (.int .i64 nn) ∧ W.cell? ⟨w.heap.size, 1, none⟩ = some (.slice A N c) ∧ Below w.heap.size w W ∧ W.heap.size = w.heap.size + 3) ⟨(Hmb.out _ _ (by simp)).alloc _, Hmi.out _ _ (by simp), by go_simp, by go_simp, (((Below.refl _ w).alloc (Nat.le_refl _) _).alloc (by simp) _).alloc (by simp; omega) _, by simp⟩ ?_
  rintro W2 ⟨o1, o2, k0, k1, b2, hsz2⟩
  clear hmk hmk2 Hmb Hmi
  have x1 := o1.cell hs
  have x2 := o1.frozen s
  have ob := (o1.set s (.bool true)).congr (f' := fun i => .bool (bAt ((List.replicate nn false).set s true) i)) (fun i hi => by
    rw [bAt_set (by simpa using hs)]
    by_cases e : i = s
    · simp [e]
    · have : bAt (List.replicate nn false) i = false := by unfold bAt; rw [List.getElem?_replicate, if_pos hi]; rfl
      simp [e, this])
  have oi := (o2.other (p := ⟨w.heap.size + 1, s, none⟩) (by simp) (.bool true)).congr (f' := fun i => .int .i64 (byOf N (stAt (List.replicate nn stZero) i))) (fun i hi => by
    have : stAt (List.replicate nn stZero) i = stZero := by unfold stAt; rw [List.getElem?_replicate, if_pos hi]; rfl
    rw [this]; rfl)
  have hb3 := b2.setCell (p := ⟨w.heap.size + 1, s, none⟩) (Nat.le_succ _) (.bool true)
  have hs3 : (W2.setCell ⟨w.heap.size + 1, s, none⟩ (.bool true)).heap.size = w.heap.size + 3 := by rw [← hsz2]; simp [World.setCell]
  have k03 : (W2.setCell ⟨w.heap.size + 1, s, none⟩ (.bool true)).cell? ⟨w.heap.size, 0, none⟩ = some (.int .i64 nn) := by rw [World.cell?_setCell_far _ _ _ _ (by simp)]; exact k0
  have k13 : (W2.setCell ⟨w.heap.size + 1, s, none⟩ (.bool true)).cell? ⟨w.heap.size, 1, none⟩ = some (.slice A N c) := by rw [World.cell?_setCell_far _ _ _ _ (by simp)]; exact k1
  obtain ⟨p1, v0, W0, p2, p3, p4, p5, _⟩ := app_rows (P := Try.prog) (ty := 23) (c := 1) (m := 1) (base := w.heap.size + 3) (w := (W2.setCell ⟨w.heap.size + 1, s, none⟩ (.bool true)).alloc (.cells #[.int .i64 s] 3)) appInfoInt Try.underlying23 rfl (by omega) encI_len encI_one (OwnR.nil (t := 3) (sz := 1) (enc := encI) _ _) (own_int1 _ s) rfl ⟨_, rfl⟩ (by rw [World.size_alloc, hs3]; omega) (by simp; unfold maxLen; omega) (by simp)
  rw [hs3] at p1 p2 p3
  have m5 : Mod (fun _ => False) (W2.setCell ⟨w.heap.size + 1, s, none⟩ (.bool true)) W0 := ((Mod.refl _ _).alloc _).trans (p5.mono (fun k _ hk => by cases hk))
  have RS : Hid (RSt nn N (w.heap.size + 3) (w.heap.size + 1) (w.heap.size + 1 + 1) w W0 v0 ((List.replicate nn false).set s true) (List.replicate nn stZero) [(s : Int)]) :=
    Lib.hid ⟨ob.mod m5 (fun h => h), oi.mod m5 (fun h => h), p4, hb3.trans (m5.below hb3.size (fun _ _ h => h.elim)), by rw [← hs3]; exact m5.size, by omega, by omega, by omega, by omega, by omega⟩
  have k04 : W0.cell? ⟨w.heap.size, 0, none⟩ = some (.int .i64 nn) := (m5.cell (p := ⟨w.heap.size, 0, none⟩) (by rw [hs3]; simp) (fun h => h)).trans k03
  have k14 : W0.cell? ⟨w.heap.size, 1, none⟩ = some (.slice A N c) := (m5.cell (p := ⟨w.heap.size, 1, none⟩) (by rw [hs3]; simp) (fun h => h)).trans k13
  have Hsz2 := Lib.hid hsz2
  clear ob oi hb3 m5 p4 p5 o1 o2 b2 k03 k13 k0 k1 hs3
  go_wp2
  go_loopg [10, 11] nn (fun g1 v10 v11 wr => ∃ (k : Nat) (seen : List Bool) (st : List GStep) (xs : List Int), v11 = .int .i64 k ∧ k ≤ xs.length ∧ xs.length ≤ nn ∧ nn - k ≤ g1 ∧ Hid (RSt nn N (w.heap.size + 3) (w.heap.size + 1) (w.heap.size + 1 + 1) w wr v10 seen st xs) ∧ Hid (Bfs es fl nn N s nn seen st xs) ∧ Hid (DoneL es fl N seen xs k) ∧ wr.cell? ⟨w.heap.size, 0, none⟩ = some (.int .i64 nn) ∧ wr.cell? ⟨w.heap.size, 1, none⟩ = some (.slice A N c))
  case atStart => exact ⟨0, _, _, _, by go_num, by simp, by simp; omega, by omega, RS, Lib.hid (bfs_start hs), Lib.hid (fun j u hj => absurd hj (Nat.not_lt_zero _)), k04, k14⟩
  case round =>
    obtain ⟨k, seen, st, xs, rfl, hk, hkn, hg1, HS, HB, HD, c0, c1⟩ := hrel
    clear RS k04 k14
    obtain ⟨a10, cc10, rfl, hrd⟩ := HS.out.ls.rd encI_len
    by_cases hlt : k < xs.length
    · have hltz : (k : Int) < (xs.length : Int) := by omega
      obtain ⟨b, off, u', rfl, hbl, hx, hcc⟩ := hrd.at_ (k := k) hlt
      have hc0 := hcc 0 _ rfl
      rw [Nat.mul_one, Nat.add_zero] at hc0
      obtain ⟨u, rfl, hu, hus⟩ := HB.out.elems u' (List.mem_of_getElem? hx)
      have HX := Lib.hid hx
      clear hcc hbl hx hrd
      go_wp2
      go_loopg [10, 13] N (fun g2 v10 v13 wr => ∃ (i : Nat) (seen : List Bool) (st : List GStep) (xs : List Int), v13 = .int .i64 i ∧ i ≤ N ∧ N - i ≤ g2 ∧ k < xs.length ∧ xs.length ≤ nn ∧ Hid (xs[k]? = some (u : Int)) ∧ Hid (RSt nn N (w.heap.size + 3) (w.heap.size + 1) (w.heap.size + 1 + 1) w wr v10 seen st xs) ∧ Hid (Bfs es fl nn N s nn seen st xs) ∧ Hid (DoneL es fl N seen xs k) ∧ Hid (DoneTo es fl seen u i) ∧ Hid (bAt seen u = true) ∧ wr.cell? ⟨w.heap.size, 0, none⟩ = some (.int .i64 nn) ∧ wr.cell? ⟨w.heap.size, 1, none⟩ = some (.slice A N c))
      case atStart => exact ⟨0, seen, st, xs, by go_num, by omega, by omega, hlt, hkn, HX, HS, HB, HD, Lib.hid (fun j hj => absurd hj (Nat.not_lt_zero _)), Lib.hid hus, c0, c1⟩
      case round =>
        clear HS HB HD HX c0 c1 hc0 hlt hkn hk hus
        obtain ⟨i, seen, st, xs, rfl, hi, hg2, hlt, hkn, HX, HS, HB, HD, HT, HU, c0, c1⟩ := hrel
        by_cases hiN : i < N
        · have hiz : (i : Int) < (N : Int) := by omega
          obtain ⟨a10, cc10, rfl, _⟩ := HS.out.ls.rd encI_len
          obtain ⟨be, oe, e, hA, hble, he, g0, g1, g2⟩ := rdE_at (hR.keep HS.out.bel) (k := i) (by rw [HN.out]; exact hiN)
          obtain ⟨bf, of, hA2, hblf, gf0⟩ := hR2.int (k := i) (by rw [HN2.out]; exact hiN)
          have gf : wr.cell? ⟨bf, of + i, none⟩ = some (.int .i64 (fAt fl i)) := (HS.out.bel.cell (p := ⟨bf, of + i, none⟩) hblf).trans gf0
          have ee : eAt es i = e := by unfold eAt; rw [he]; rfl
          have ok := okG_at HE.out (i := i) (by rw [HN.out]; exact hiN)
          rw [ee] at ok
          obtain ⟨ef, et, ec⟩ := e
          obtain ⟨ok1, ok2, ok3, ok4, ok5, ok6⟩ := ok
          dsimp only at ok1 ok2 ok3 ok4 ok5 ok6 g0 g1 g2
          obtain ⟨a, rfl⟩ : ∃ a : Nat, ef = a := ⟨ef.toNat, by omega⟩
          obtain ⟨d, rfl⟩ : ∃ d : Nat, et = d := ⟨et.toNat, by omega⟩
          obtain ⟨f, hf⟩ : ∃ f, f = fAt fl i := ⟨_, rfl⟩
          rw [← hf] at gf
          have had : a < nn := by omega
          have hdd : d < nn := by omega
          subst hA hA2
          have IS0 : Hid (InSt nn N s k u i wr.heap.size es fl w (wr.alloc (.cells #[.int .i64 a, .int .i64 d, .int .i64 ec] 60)) (.slice a10 xs.length cc10) seen st xs) :=
            Lib.hid ⟨HS.out.alloc _, HB.out, hlt, hkn, HX.out, HD.out, HT.out, HU.out, fun h => by have := (World.ownsRow.lt HS.out.ls _ h).2; omega, by simp, HS.out.hb⟩
          have RC0 : Hid (RCell nn N c wr.heap.size bf (of + i) (some ⟨be, oe, none⟩) a d ec f w (wr.alloc (.cells #[.int .i64 a, .int .i64 d, .int .i64 ec] 60))) := by
            have lw : w.heap.size < wr.heap.size := World.block_lt_of_cell? wr _ c0
            have lf : bf < wr.heap.size := Nat.lt_of_lt_of_le hblf HS.out.bel.size
            refine ⟨?_, ?_, by go_simp, by go_simp, by go_simp, ?_⟩
            · rw [World.cell?_alloc_lt wr _ ⟨w.heap.size, 0, none⟩ lw]; exact c0
            · rw [World.cell?_alloc_lt wr _ ⟨w.heap.size, 1, none⟩ lw]; exact c1
            · rw [World.cell?_alloc_lt wr _ ⟨bf, of + i, none⟩ lf]; exact gf
          have Hee := Lib.hid ee
          have Hf := Lib.hid hf
          clear HS HB HX HD HT HU gf gf0 he ee hf hlt hkn ok1 ok3 hble
          go_upto_region 13 with (fail)
          refine wp_normal (fun K hK => ?_)
          have HK := Lib.hid hK
          clear hK
          go_wp2
          refine HK.out _ _ ?_
          clear HK K
          go_step
          go_step
          refine wp_world (fun W => InSt nn N s k u i wr.heap.size es fl w W (.slice a10 xs.length cc10) seen st xs ∧ RCell nn N c wr.heap.size bf (of + i) (some ⟨be, oe, none⟩) a d ec f w W) ⟨IS0.out, RC0.out⟩ ?_
          rintro W ⟨IS, RC⟩
          clear IS0 RC0 c0 c1 g0 g1 g2
          go_step
          go_cut [10] (fun v W' => ∃ seen' st' xs', Hid (InSt nn N s k u i wr.heap.size es fl w W' v seen' st' xs') ∧ Hid (RCell nn N c wr.heap.size bf (of + i) (some ⟨be, oe, none⟩) a d ec f w W') ∧ Hid (a = u → f < ec → bAt seen' d = true))
          case first => as_aux_lemma =>
            obtain ⟨r1, r2, r3, r4, r5, r6⟩ := id RC
            have sd := IS.r.sn.cell hdd
            have hdz : (d : Int) < (nn : Int) := by omega
            by_cases h1 : a = u
            · by_cases h2 : f < ec
              · cases h3 : bAt seen d
                · go_step
                  refine wp_normal (fun K hK => ?_)
                  refine reachA W (w.heap.size + 1) wr.heap.size bf of nn N i c2 a d u ec f _ K h1 h2 h3 hiz hdz r3 r4 r5 r6 sd _ _ _ _ _ _ _ _ _ _ _ _ _ _ _ _ _ _ _ _ _ _ _ _ _ _ _ _ _ _ _ _ _ _ _ _ _ _ _ _ _ _ _ _ _ _ _ _ _ _ _ _ _ _ _ _ _ _ _ _ _ _ _ _ _ _ _ _ _ _ _ _ _ _ _ _ _ _ _ _ _ _ _ _ _ _ _ _ _ _ _ _ _ _ _ _ _ _ _ _ _ _ _ _ _ _ _ _ _ _ _ _ _ _ _ _ _ _ _ ?_
                  refine Lib.hid ?_
                  intro nq v50 v51 v52 v53 v54 v55 v56 v57 v58 v59 v60 v61 v62 v63 v64 v65 v66 v67 v68 v69
                  refine hK _ _ ?_
                  clear hK K
                  have IS' := IS.drewN nq
                  have RC' := RC.drewN nq
                  clear IS RC r1 r2 r3 r4 r5 r6 sd
                  generalize W.drewN nq = W' at IS' RC' ⊢
                  obtain ⟨p1, v', W3, p2, p3, p4, p5, p6, p7, p8, p9, ⟨z, p10⟩, p11, p12, p13⟩ := IS'.mark RC' hblf (by omega) ⟨i, (eAt es i).to, (eAt es i).cap - fAt fl i, true⟩ d i hdd h3 hu (step_fwd hiN (by rw [Hee.out, h1]) (by rw [Hee.out, ← Hf.out]; exact h2)) (by dsimp only; rw [Hee.out]) rfl
                  obtain ⟨r1, r2, r3, r4, r5, r6⟩ := RC'
                  obtain ⟨t1, t2, t3, t4, t5, t6⟩ := p12
                  obtain ⟨s1, s2, s3, s4, s5, s6⟩ := p13
                  have Q := Lib.hid (And.intro p4 (And.intro p5 p6))
                  clear IS' p4 p5 p6 p7
                  go_step
                  go_wp2
                  go_meet
                  exact ⟨_, _, _, Q.out.1, Q.out.2.1, Lib.hid (fun _ _ => Q.out.2.2.out)⟩
                · go_step
                  refine wp_normal (fun K hK => ?_)
                  refine reachB W (w.heap.size + 1) wr.heap.size bf of nn N i c2 a d u ec f _ K h1 h2 h3 hiz hdz r3 r4 r5 r6 sd _ _ _ _ _ _ _ _ _ _ _ _ _ _ _ _ _ _ _ _ _ _ _ _ _ _ _ _ _ _ _ _ _ _ _ _ _ _ _ _ _ _ _ _ _ _ _ _ _ _ _ _ _ _ _ _ _ _ _ _ _ _ _ _ _ _ _ _ _ _ _ _ _ _ _ _ _ _ _ _ _ _ _ _ _ _ _ _ _ _ _ _ _ _ _ _ _ _ _ _ _ _ _ _ _ _ _ _ _ _ _ _ _ _ _ _ _ _ _ ?_
                  refine Lib.hid ?_
                  intro nq v50 v51 v52 v53 v54 v55 v56 v57 v58 v59 v60 v61 v62 v63 v64 v65 v66 v67 v68 v69
                  refine hK _ _ ?_
                  clear hK K
                  have IS' := IS.drewN nq
                  have RC' := RC.drewN nq
                  clear IS RC r1 r2 r3 r4 r5 r6 sd
                  generalize W.drewN nq = W' at IS' RC' ⊢
                  have Q := Lib.hid (And.intro IS' (And.intro RC' h3))
                  clear IS' RC'
                  go_step
                  go_wp2
                  go_meet
                  exact ⟨_, _, _, Lib.hid Q.out.1, Lib.hid Q.out.2.1, Lib.hid (fun _ _ => Q.out.2.2)⟩
              · have h2' : ec ≤ f := by omega
                go_step
                refine wp_normal (fun K hK => ?_)
                refine reachC W (w.heap.size + 1) wr.heap.size bf of nn N i c2 a d u ec f _ K h1 h2' hiz hdz r3 r4 r5 r6 sd _ _ _ _ _ _ _ _ _ _ _ _ _ _ _ _ _ _ _ _ _ _ _ _ _ _ _ _ _ _ _ _ _ _ _ _ _ _ _ _ _ _ _ _ _ _ _ _ _ _ _ _ _ _ _ _ _ _ _ _ _ _ _ _ _ _ _ _ _ _ _ _ _ _ _ _ _ _ _ _ _ _ _ _ _ _ _ _ _ _ _ _ _ _ _ _ _ _ _ _ _ _ _ _ _ _ _ _ _ _ _ _ _ _ _ _ _ _ _ ?_
                refine Lib.hid ?_
                intro nq v50 v51 v52 v53 v54 v55 v56 v57 v58 v59 v60 v61 v62 v63 v64 v65 v66 v67 v68 v69
                refine hK _ _ ?_
                clear hK K
                have IS' := IS.drewN nq
                have RC' := RC.drewN nq
                clear IS RC r1 r2 r3 r4 r5 r6 sd
                generalize W.drewN nq = W' at IS' RC' ⊢
                have Q := Lib.hid (And.intro IS' (And.intro RC' h2))
                clear IS' RC'
                go_step
                go_wp2
                go_meet
                exact ⟨_, _, _, Lib.hid Q.out.1, Lib.hid Q.out.2.1, Lib.hid (fun _ h => by have := Q.out.2.2; omega)⟩
            · go_step
              refine wp_normal (fun K hK => ?_)
              refine reachD W (w.heap.size + 1) wr.heap.size bf of nn N i c2 a d u ec f _ K h1 hiz hdz r3 r4 r5 r6 sd _ _ _ _ _ _ _ _ _ _ _ _ _ _ _ _ _ _ _ _ _ _ _ _ _ _ _ _ _ _ _ _ _ _ _ _ _ _ _ _ _ _ _ _ _ _ _ _ _ _ _ _ _ _ _ _ _ _ _ _ _ _ _ _ _ _ _ _ _ _ _ _ _ _ _ _ _ _ _ _ _ _ _ _ _ _ _ _ _ _ _ _ _ _ _ _ _ _ _ _ _ _ _ _ _ _ _ _ _ _ _ _ _ _ _ _ _ _ _ ?_
              refine Lib.hid ?_
              intro nq v50 v51 v52 v53 v54 v55 v56 v57 v58 v59 v60 v61 v62 v63 v64 v65 v66 v67 v68 v69
              refine hK _ _ ?_
              clear hK K
              have IS' := IS.drewN nq
              have RC' := RC.drewN nq
              clear IS RC r1 r2 r3 r4 r5 r6 sd
              generalize W.drewN nq = W' at IS' RC' ⊢
              have Q := Lib.hid (And.intro IS' (And.intro RC' h1))
              clear IS' RC'
              go_step
              go_wp2
              go_meet
              exact ⟨_, _, _, Lib.hid Q.out.1, Lib.hid Q.out.2.1, Lib.hid (fun h => absurd h Q.out.2.2)⟩
          case rest =>
            clear IS RC
            obtain ⟨seen', st', xs', IS, RC, HF⟩ := hcut
            obtain ⟨r1, r2, r3, r4, r5, r6⟩ := id RC.out
            have sa := IS.out.r.sn.cell had
            have haz : (a : Int) < (nn : Int) := by omega
            have fin : ∀ (W3 : World) (v : Value) (seen3 : List Bool) (st3 : List GStep) (xs3 : List Int), InSt nn N s k u i wr.heap.size es fl w W3 v seen3 st3 xs3 → RCell nn N c wr.heap.size bf (of + i) (some ⟨be, oe, none⟩) a d ec f w W3 → (a = u → f < ec → bAt seen3 d = true) → (d = u → 0 < f → bAt seen3 a = true) →
                ∃ (i' : Nat) (seen : List Bool) (st : List GStep) (xs : List Int), (Value.int .i64 ((i : Int) + 1)) = .int .i64 i' ∧ i' ≤ N ∧ N - i' ≤ N - (i + 1) ∧ k < xs.length ∧ xs.length ≤ nn ∧ Hid (xs[k]? = some (u : Int)) ∧ Hid (RSt nn N (w.heap.size + 3) (w.heap.size + 1) (w.heap.size + 1 + 1) w W3 v seen st xs) ∧ Hid (Bfs es fl nn N s nn seen st xs) ∧ Hid (DoneL es fl N seen xs k) ∧ Hid (DoneTo es fl seen u i') ∧ Hid (bAt seen u = true) ∧ W3.cell? ⟨w.heap.size, 0, none⟩ = some (.int .i64 nn) ∧ W3.cell? ⟨w.heap.size, 1, none⟩ = some (.slice (some ⟨be, oe, none⟩) N c) := by
              intro W3 v seen3 st3 xs3 I R f1 f2
              refine ⟨i + 1, seen3, st3, xs3, natcast_succ i, by omega, by omega, I.k1, I.k2, Lib.hid I.at_, Lib.hid I.r, Lib.hid I.b, Lib.hid I.dl, Lib.hid (I.dt.succ ?_ ?_), Lib.hid I.us, R.1, R.2.1⟩
              · rw [Hee.out, ← Hf.out]
                intro x1 x2
                exact f1 (Int.ofNat.inj x1) x2
              · rw [Hee.out, ← Hf.out]
                intro x1 x2
                exact f2 (Int.ofNat.inj x1) x2
            have FIN := Lib.hid fin
            clear fin
            by_cases h1 : d = u
            · have hb1 : ((d : Int) == (u : Int)) = true := by rw [h1]; simp
              by_cases h2 : 0 < f
              · cases h3 : bAt seen' a
                · rw [h3] at sa
                  have hau : a ≠ u := by
                    rintro rfl
                    have := IS.out.us
                    rw [h3] at this
                    cases this
                  obtain ⟨p1, v', W3, p2, p3, p4, p5, p6, p7, p8, p9, ⟨z, p10⟩, p11, p12, p13⟩ := IS.out.mark RC.out hblf (by omega) ⟨i, (eAt es i).frm, fAt fl i, false⟩ a ((i : Int) + (N : Int)) had h3 hu (step_bwd hiN (by rw [Hee.out]; dsimp only; omega) (by rw [Hee.out, h1]) (by rw [← Hf.out]; exact h2)) (by dsimp only; rw [Hee.out]) rfl
                  obtain ⟨t1, t2, t3, t4, t5, t6⟩ := p12
                  obtain ⟨s1, s2, s3, s4, s5, s6⟩ := p13
                  have REL := Lib.hid (FIN.out W3 v' _ _ _ p4.out p5.out (fun x y => p7.out _ (HF.out x y)) (fun _ _ => p6.out))
                  clear IS RC HF p4 p5 p6 p7 FIN
                  go_wp2
                  go_roundg (N - (i + 1))
                  case measure => omega
                  case rel => exact REL.out
                · rw [h3] at sa
                  have REL := Lib.hid (FIN.out _ _ _ _ _ IS.out RC.out HF.out (fun _ _ => h3))
                  clear IS RC HF FIN
                  go_wp2
                  go_roundg (N - (i + 1))
                  case measure => omega
                  case rel => exact REL.out
              · have h2' : ¬ 0 < f := h2
                have REL := Lib.hid (FIN.out _ _ _ _ _ IS.out RC.out HF.out (fun _ h => absurd h h2))
                clear IS RC HF FIN
                go_wp2
                go_roundg (N - (i + 1))
                case measure => omega
                case rel => exact REL.out
            · have hb1 : ((d : Int) == (u : Int)) = false := by rw [beq_eq_false_iff_ne]; omega
              have REL := Lib.hid (FIN.out _ _ _ _ _ IS.out RC.out HF.out (fun h => absurd h h1))
              clear IS RC HF FIN
              go_wp2
              go_roundg (N - (i + 1))
              case measure => omega
              case rel => exact REL.out
        · have hiz : ¬ (i : Int) < (N : Int) := by omega
          have hin : i = N := by omega
          subst hin
          have HD2 : Hid (DoneL es fl i seen xs (k + 1)) := Lib.hid (fun j v hj hx => by
            by_cases e : j = k
            · subst e
              have := HX.out.symm.trans hx
              have : u = v := Int.ofNat.inj (Option.some.inj this)
              subst this
              exact HT.out
            · exact HD.out j v (by omega) hx)
          clear HD HT
          go_wp2
          go_roundg (nn - (k + 1))
          case measure => omega
          case rel => exact ⟨k + 1, seen, st, xs, by go_num, by omega, hkn, by omega, HS, HB, HD2, c0, c1⟩
    · have hltz : ¬ (k : Int) < (xs.length : Int) := by omega
      have hdone := reach_end HB.out HD.out (by omega)
      obtain ⟨rk, _, ht⟩ := HB.out.tree
      have PP : Hid (ReachPost w nn N s es fl (.returned (.tuple #[.slice (some ⟨w.heap.size + 1, 0, none⟩) nn nn, .slice (some ⟨w.heap.size + 1 + 1, 0, none⟩) nn nn])) wr) := Lib.hid ⟨_, _, seen, st, rfl, HS.out.sn, HS.out.by_, HS.out.bel, by omega, by omega, by omega, HB.out.lenS, HB.out.lenB, HB.out.src, ⟨rk, ht⟩, hdone⟩
      clear hrd HS HB HD hdone ht
      go_wp2
      go_ret2
      exact PP.out
end Go.Proofs.Ytmmmgafnmpaohaa
