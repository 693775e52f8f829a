/-
The second loop of plan.CheckCut: what holds at the head of each round.
-/
import Derived.Test.YtgfcnkfmgpakkaaCPlanH
namespace Go.Proofs.Ytgfcnkfmgpakkaa
open Go.RowKit Go.Shelf
set_option linter.unusedVariables false
def CInv (w : World) (A A2 A3 A4 : Option Addr) (c N c2 T c3 N3 c4 N4 bi gi B : Nat) (js : List GJob) (cj cs : List Int) (R1 : Int) (a : Act) (W : World) : Prop :=
  ∃ (k : Nat) (need : Int) (ds : List Deferred) (u2 u4 u6 u7 u8 u10 u13 u14 u15 u16 u17 u18 u19 u20 u21 u22 u23 u24 u25 u26 u27 u28 u29 u30 u31 u32 u33 u34 u35 u36 u37 u38 u39 u40 u41 u42 u43 u44 u45 u46 u47 u48 u49 u50 u51 u52 u53 u54 u55 u56 u57 u58 u59 u63 u64 u65 u66 u67 u68 u69 u70 u71 u72 u73 u74 u75 u76 u77 u78 u79 u80 u81 u82 u83 u84 u85 u86 u87 u88 u89 u90 u91 u92 u93 u94 u95 u96 : Value), k ≤ N3 ∧ need = S k (fun i => (jAt js (fAt cj i).toNat).energy) ∧ CCm w W A A3 A4 c N c3 N3 c4 N4 T bi (bi + 1) gi cs (R1 + S k (fun i => freeJ js T (inL cs) (fAt cj i).toNat)) ∧ Marks B W ds ∧ B ≤ W.heap.size ∧ a = ⟨List.toArray ((.slice A N c) :: (.slice A2 T c2) :: u2 :: (.pointer (some ⟨w.heap.size, 0, none⟩)) :: u4 :: (.pointer (some ⟨w.heap.size + 1, 0, none⟩)) :: u6 :: u7 :: u8 :: (.pointer (some ⟨bi, 0, none⟩)) :: u10 :: (.int .i64 need) :: (.pointer (some ⟨bi + 1, 0, none⟩)) :: u13 :: u14 :: u15 :: u16 :: u17 :: u18 :: u19 :: u20 :: u21 :: u22 :: u23 :: u24 :: u25 :: u26 :: u27 :: u28 :: u29 :: u30 :: u31 :: u32 :: u33 :: u34 :: u35 :: u36 :: u37 :: u38 :: u39 :: u40 :: u41 :: u42 :: u43 :: u44 :: u45 :: u46 :: u47 :: u48 :: u49 :: u50 :: u51 :: u52 :: u53 :: u54 :: u55 :: u56 :: u57 :: u58 :: u59 :: (.slice A3 N3 c3) :: (.int .i64 N3) :: (.int .i64 (k : Nat)) :: u63 :: u64 :: u65 :: u66 :: u67 :: u68 :: u69 :: u70 :: u71 :: u72 :: u73 :: u74 :: u75 :: u76 :: u77 :: u78 :: u79 :: u80 :: u81 :: u82 :: u83 :: u84 :: u85 :: u86 :: u87 :: u88 :: u89 :: u90 :: u91 :: u92 :: u93 :: u94 :: u95 :: u96 :: []), ds⟩
def CMu (N3 : Nat) (a : Act) (_ : World) : Nat := N3 - (intOf (a.tmps.getD 62 undef)).toNat
theorem freeJ_bd {js : List GJob} {sup : List Int} (hok : okP js sup = true) (cs : Nat → Bool) {i : Nat} (hi : i < js.length) : 0 ≤ freeJ js sup.length cs i ∧ freeJ js sup.length cs i ≤ 24000 := by
  obtain ⟨_, _, _, _, _, a, b, _⟩ := okP_job hok hi
  have hT := (okP_iff.1 hok).1.2
  unfold freeJ
  have h1 := S_nonneg (n := sup.length) (g := fun t => pick (inJ (jAt js i) t ∧ cs t = false) (jAt js i).rate) (fun t _ => by unfold pick; split <;> omega)
  have h2 := S_bound (n := sup.length) (g := fun t => pick (inJ (jAt js i) t ∧ cs t = false) (jAt js i).rate) (c := 1000) (fun t _ => by unfold pick; split <;> omega)
  omega
set_option maxRecDepth 100000 in
set_option maxHeartbeats 2000000 in
theorem cc_some (w W : World) (A A2 A3 A4 : Option Addr) (c N c2 T c3 N3 c4 N4 bi gi B k : Nat) (js : List GJob) (sup cj cs : List Int) (need R1 : Int) (ds : List Deferred) (Q0 : Exit → Act → World → Prop)
  (HR : Hid (Rd 5 encJ w A js)) (HN : Hid (js.length = N)) (HOK : Hid (okP js sup = true)) (HN2 : Hid (sup.length = T)) (HR3 : Hid (Rd 1 encI w A3 cj)) (HN3 : Hid (cj.length = N3)) (HG : Hid (goodTo cj N cj.length)) (hR1 : 0 ≤ R1 ∧ R1 ≤ 24000)
  (hk : k < N3) (hneed : need = S k (fun i => (jAt js (fAt cj i).toNat).energy)) (m : CCm w W A A3 A4 c N c3 N3 c4 N4 T bi (bi + 1) gi cs (R1 + S k (fun i => freeJ js T (inL cs) (fAt cj i).toNat))) (hmk : Marks B W ds) (hB : w.heap.size ≤ B) (hBW : B ≤ W.heap.size) (u2 u4 u6 u7 u8 u10 u13 u14 u15 u16 u17 u18 u19 u20 u21 u22 u23 u24 u25 u26 u27 u28 u29 u30 u31 u32 u33 u34 u35 u36 u37 u38 u39 u40 u41 u42 u43 u44 u45 u46 u47 u48 u49 u50 u51 u52 u53 u54 u55 u56 u57 u58 u59 u63 u64 u65 u66 u67 u68 u69 u70 u71 u72 u73 u74 u75 u76 u77 u78 u79 u80 u81 u82 u83 u84 u85 u86 u87 u88 u89 u90 u91 u92 u93 u94 u95 u96 : Value) :
  Code.wp Try.prog ccBody (Exit.then (fun a' W' => CInv w A A2 A3 A4 c N c2 T c3 N3 c4 N4 bi gi B js cj cs R1 a' W' ∧ CMu N3 a' W' < CMu N3 ⟨List.toArray ((.slice A N c) :: (.slice A2 T c2) :: u2 :: (.pointer (some ⟨w.heap.size, 0, none⟩)) :: u4 :: (.pointer (some ⟨w.heap.size + 1, 0, none⟩)) :: u6 :: u7 :: u8 :: (.pointer (some ⟨bi, 0, none⟩)) :: u10 :: (.int .i64 need) :: (.pointer (some ⟨bi + 1, 0, none⟩)) :: u13 :: u14 :: u15 :: u16 :: u17 :: u18 :: u19 :: u20 :: u21 :: u22 :: u23 :: u24 :: u25 :: u26 :: u27 :: u28 :: u29 :: u30 :: u31 :: u32 :: u33 :: u34 :: u35 :: u36 :: u37 :: u38 :: u39 :: u40 :: u41 :: u42 :: u43 :: u44 :: u45 :: u46 :: u47 :: u48 :: u49 :: u50 :: u51 :: u52 :: u53 :: u54 :: u55 :: u56 :: u57 :: u58 :: u59 :: (.slice A3 N3 c3) :: (.int .i64 N3) :: (.int .i64 (k : Nat)) :: u63 :: u64 :: u65 :: u66 :: u67 :: u68 :: u69 :: u70 :: u71 :: u72 :: u73 :: u74 :: u75 :: u76 :: u77 :: u78 :: u79 :: u80 :: u81 :: u82 :: u83 :: u84 :: u85 :: u86 :: u87 :: u88 :: u89 :: u90 :: u91 :: u92 :: u93 :: u94 :: u95 :: u96 :: []), ds⟩ W) Q0) ⟨List.toArray ((.slice A N c) :: (.slice A2 T c2) :: u2 :: (.pointer (some ⟨w.heap.size, 0, none⟩)) :: u4 :: (.pointer (some ⟨w.heap.size + 1, 0, none⟩)) :: u6 :: u7 :: u8 :: (.pointer (some ⟨bi, 0, none⟩)) :: u10 :: (.int .i64 need) :: (.pointer (some ⟨bi + 1, 0, none⟩)) :: u13 :: u14 :: u15 :: u16 :: u17 :: u18 :: u19 :: u20 :: u21 :: u22 :: u23 :: u24 :: u25 :: u26 :: u27 :: u28 :: u29 :: u30 :: u31 :: u32 :: u33 :: u34 :: u35 :: u36 :: u37 :: u38 :: u39 :: u40 :: u41 :: u42 :: u43 :: u44 :: u45 :: u46 :: u47 :: u48 :: u49 :: u50 :: u51 :: u52 :: u53 :: u54 :: u55 :: u56 :: u57 :: u58 :: u59 :: (.slice A3 N3 c3) :: (.int .i64 N3) :: (.int .i64 (k : Nat)) :: u63 :: u64 :: u65 :: u66 :: u67 :: u68 :: u69 :: u70 :: u71 :: u72 :: u73 :: u74 :: u75 :: u76 :: u77 :: u78 :: u79 :: u80 :: u81 :: u82 :: u83 :: u84 :: u85 :: u86 :: u87 :: u88 :: u89 :: u90 :: u91 :: u92 :: u93 :: u94 :: u95 :: u96 :: []), ds⟩ W := by
  have hN12 : N ≤ 12 := by have := (okP_iff.1 HOK.out).1.1; rw [HN.out] at this; exact this
  have hl3 : N3 ≤ N := by have := good_len HG.out; rw [HN3.out] at this; exact this
  have hgk := good_ge HG.out (i := k) (by rw [HN3.out]; exact hk)
  obtain ⟨d, hd⟩ : ∃ d : Nat, fAt cj k = d := ⟨(fAt cj k).toNat, by omega⟩
  have hdN : d < N := by omega
  obtain ⟨b3, o3, rfl, hb3, c3k⟩ := (HR3.out.keep m.bel).int (k := k) (by rw [HN3.out]; exact hk)
  have c3k' : W.cell? ⟨b3, o3 + k, none⟩ = some (.int .i64 d) := by rw [c3k]; exact congrArg (fun x => some (Value.int .i64 x)) hd
  obtain ⟨bj, oj, e, _⟩ := HR.out (by rw [HN.out]; omega)
  subst e
  have idx : ∀ i, i < k → (fAt cj i).toNat < js.length := fun i hi => by
    have := good_ge HG.out (i := i) (by rw [HN3.out]; omega)
    rw [HN.out]; omega
  have bn : 0 ≤ need ∧ need ≤ 100000 := by
    rw [hneed]
    have h1 := S_nonneg (n := k) (g := fun i => (jAt js (fAt cj i).toNat).energy) (fun i hi => (okP_job HOK.out (idx i hi)).2.2.2.1)
    have h2 := S_bound (n := k) (g := fun i => (jAt js (fAt cj i).toNat).energy) (c := 1000) (fun i hi => (okP_job HOK.out (idx i hi)).2.2.2.2.1)
    omega
  have br : 0 ≤ R1 + S k (fun i => freeJ js T (inL cs) (fAt cj i).toNat) ∧ R1 + S k (fun i => freeJ js T (inL cs) (fAt cj i).toNat) ≤ 400000 := by
    have h1 := S_nonneg (n := k) (g := fun i => freeJ js T (inL cs) (fAt cj i).toNat) (fun i hi => by rw [← HN2.out]; exact (freeJ_bd HOK.out (inL cs) (idx i hi)).1)
    have h2 := S_bound (n := k) (g := fun i => freeJ js T (inL cs) (fAt cj i).toNat) (c := 24000) (fun i hi => by rw [← HN2.out]; exact (freeJ_bd HOK.out (inL cs) (idx i hi)).2)
    omega
  refine cc_round w W A2 A4 bj oj b3 o3 c N c2 T c3 N3 c4 N4 bi gi B k d js sup cj cs need _ ds _ Q0 HR HN HOK HN2 hk (by omega) c3k' hdN bn br (Lib.hid m) hmk hB hBW _ _ _ _ _ _ _ _ _ _ _ _ _ _ _ _ _ _ _ _ _ _ _ _ _ _ _ _ _ _ _ _ _ _ _ _ _ _ _ _ _ _ _ _ _ _ _ _ _ _ _ _ _ _ _ _ _ _ _ _ _ _ _ _ _ _ _ _ _ _ _ _ _ _ _ _ _ _ _ _ _ _ _ _ _ _ _ (Lib.hid ?_)
  intro W' D v2 v4 v6 v7 v8 v10 v13 v14 v15 v16 v17 v18 v19 v20 v21 v22 v23 v24 v25 v26 v27 v28 v29 v30 v31 v32 v33 v34 v35 v36 v37 v38 v39 v40 v41 v42 v43 v44 v45 v46 v47 v48 v49 v50 v51 v52 v53 v54 v55 v56 v57 v58 v59 v63 v64 v65 v66 v67 v68 v69 v70 v71 v72 v73 v74 v75 v76 v77 v78 v79 v80 v81 v82 v83 v84 v85 v86 v87 v88 v89 v90 v91 v92 v93 v94 v95 v96 m' mk' hb'
  refine ⟨⟨k + 1, need + (jAt js d).energy, _, _, _, _, _, _, _, _, _, _, _, _, _, _, _, _, _, _, _, _, _, _, _, _, _, _, _, _, _, _, _, _, _, _, _, _, _, _, _, _, _, _, _, _, _, _, _, _, _, _, _, _, _, _, _, _, _, _, _, _, _, _, _, _, _, _, _, _, _, _, _, _, _, _, _, _, _, _, _, _, _, _, _, _, _, _, _, _, hk, ?_, ?_, mk', hb', rfl⟩, ?_⟩
  · rw [S_succ, hneed, hd]; rfl
  · rw [S_succ, hd, ← Int.add_assoc]
    have e := freeTo_all HOK.out (inL cs) (i := d) (by rw [HN.out]; exact hdN)
    rw [HN2.out] at e
    rw [e] at m'
    exact m'
  · show N3 - (intOf (.int .i64 ((k : Int) + 1))).toNat < N3 - (intOf (.int .i64 (k : Int))).toNat
    simp [intOf]
    omega
end Go.Proofs.Ytgfcnkfmgpakkaa
