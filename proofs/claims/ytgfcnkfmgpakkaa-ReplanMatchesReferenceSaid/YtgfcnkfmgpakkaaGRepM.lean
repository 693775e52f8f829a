/-
Several texts in one: RepMath, RepMath2, RepMath3, RepN0, RepLow.
-/
import Derived.Test.YtgfcnkfmgpakkaaGMath
import Derived.Test.YtgfcnkfmgpakkaaGPlanC
/-
Plain laws of the jobs that are kept: the order, what some jobs can be met means, the kept ones, cuts that explain. No program in sight.
-/
namespace Go.Proofs.Ytgfcnkfmgpakkaa
set_option linter.unusedVariables false
set_option linter.unusedSimpArgs false
/-- Some of the jobs. -/
def someJ (js : List GJob) (l : List Int) : List GJob := l.map (fun i => jAt js i.toNat)
def ValidL (n : Nat) (l : List Int) : Prop := ∀ i, i ∈ l → 0 ≤ i ∧ i < n
theorem someJ_len (js : List GJob) (l : List Int) : (someJ js l).length = l.length := by simp [someJ]
theorem someJ_at (js : List GJob) {l : List Int} {k : Nat} (h : k < l.length) : jAt (someJ js l) k = jAt js (fAt l k).toNat := by
  simp [someJ, jAt, fAt, List.getElem?_map, List.getElem?_eq_getElem h]
theorem someJ_snoc (js : List GJob) (l : List Int) (i : Int) : someJ js (l ++ [i]) = someJ js l ++ [jAt js i.toNat] := by simp [someJ]
theorem fAt_mem {l : List Int} {k : Nat} (h : k < l.length) : fAt l k ∈ l := by
  simp [fAt, List.getElem?_eq_getElem h]
theorem mem_fAt {l : List Int} {x : Int} (h : x ∈ l) : ∃ k, k < l.length ∧ fAt l k = x := by
  obtain ⟨k, hk, e⟩ := List.getElem_of_mem h
  exact ⟨k, hk, by simp [fAt, List.getElem?_eq_getElem hk, e]⟩
theorem nodup_fAt {l : List Int} (h : l.Nodup) {i k : Nat} (hi : i < l.length) (hk : k < l.length) (e : fAt l i = fAt l k) : i = k := by
  simp [fAt, List.getElem?_eq_getElem hi, List.getElem?_eq_getElem hk] at e
  exact (List.getElem_inj h).1 e
/-- A sum over the places of a list of different numbers. -/
theorem S_nodup {l : List Int} {n : Nat} (hn : l.Nodup) (hv : ValidL n l) (f : Nat → Int) : S l.length (fun k => f (fAt l k).toNat) = S n (fun i => pick (inL l i = true) (f i)) := by
  have e : ∀ i, i < n → pick (inL l i = true) (f i) = S l.length (fun k => pick (fAt l k = (i : Int)) (f (fAt l k).toNat)) := by
    intro i hi
    by_cases h : inL l i = true
    · rw [pick_pos h]
      unfold inL at h
      simp only [decide_eq_true_eq] at h
      obtain ⟨k, hk, e⟩ := mem_fAt h
      rw [S_single (k := k) hk (fun m hm hne => pick_neg (fun x => hne (nodup_fAt hn hm hk (x.trans e.symm))) _), pick_pos e, e]
      simp
    · rw [pick_neg h, S_none (fun k hk => pick_neg (fun x => h (by unfold inL; rw [← x]; simpa using fAt_mem hk)) _)]
  rw [S_congr e, S_swap]
  refine S_congr fun k hk => ?_
  have hv' := hv _ (fAt_mem hk)
  rw [S_single (n := n) (k := (fAt l k).toNat) (by omega) (fun i hi hne => pick_neg (fun x => hne (by omega)) _), pick_pos (by omega)]
/-- The jobs, those that are not in a list without any need. -/
def maskJ (js : List GJob) (l : List Int) : List GJob := mk js.length (fun i => if inL l i = true then jAt js i else withE (jAt js i) 0)
theorem maskJ_len (js : List GJob) (l : List Int) : (maskJ js l).length = js.length := mk_len _ _
theorem maskJ_in {js : List GJob} {l : List Int} {i : Nat} (hi : i < js.length) (h : inL l i = true) : jAt (maskJ js l) i = jAt js i := by
  unfold maskJ; rw [mk_j _ hi, if_pos h]
theorem maskJ_out {js : List GJob} {l : List Int} {i : Nat} (hi : i < js.length) (h : ¬ inL l i = true) : jAt (maskJ js l) i = withE (jAt js i) 0 := by
  unfold maskJ; rw [mk_j _ hi, if_neg h]
theorem maskJ_rest (js : List GJob) (l : List Int) {i : Nat} (hi : i < js.length) : (jAt (maskJ js l) i).frm = (jAt js i).frm ∧ (jAt (maskJ js l) i).till = (jAt js i).till ∧ (jAt (maskJ js l) i).rate = (jAt js i).rate ∧ (jAt (maskJ js l) i).rank = (jAt js i).rank := by
  by_cases h : inL l i = true
  · rw [maskJ_in hi h]; exact ⟨rfl, rfl, rfl, rfl⟩
  · rw [maskJ_out hi h]; exact ⟨rfl, rfl, rfl, rfl⟩
theorem maskJ_inJ (js : List GJob) (l : List Int) {i : Nat} (hi : i < js.length) (t : Nat) : inJ (jAt (maskJ js l) i) t ↔ inJ (jAt js i) t := by
  obtain ⟨a, b, _⟩ := maskJ_rest js l hi
  unfold inJ; rw [a, b]
theorem okP_mask {js : List GJob} {sup : List Int} (l : List Int) (h : okP js sup = true) : okP (maskJ js l) sup = true := by
  obtain ⟨⟨a1, a2⟩, a3, a4⟩ := okP_iff.1 h
  refine okP_iff.2 ⟨⟨by rw [maskJ_len]; exact a1, a2⟩, a3, fun j hj => ?_⟩
  obtain ⟨i, hi, e⟩ := List.getElem_of_mem hj
  rw [maskJ_len] at hi
  have e2 : j = jAt (maskJ js l) i := by rw [← e, jAt_lt (by rw [maskJ_len]; exact hi)]
  obtain ⟨b1, b2, b3, b4, b5, b6, b7, b8, b9⟩ := okP_job h hi
  rw [e2, okJ_iff]
  by_cases c : inL l i = true
  · rw [maskJ_in hi c]; exact ⟨b1, b2, b3, b4, b5, b6, b7, b8, b9⟩
  · rw [maskJ_out hi c]; exact ⟨b1, b2, b3, Int.le_refl _, by simp [withE], b6, b7, b8, b9⟩
/-- Those of a list can be met. -/
def MetA (js : List GJob) (sup : List Int) (l : List Int) : Prop := Met (maskJ js l) sup
theorem MetA.mono {js : List GJob} {sup sup' : List Int} {l l' : List Int} (hok : okP js sup = true) (hs : sup'.length = sup.length) (hsup : ∀ t, t < sup.length → fAt sup t ≤ fAt sup' t) (hl : ∀ i, i ∈ l' → i ∈ l) (h : MetA js sup l) : MetA js sup' l' := by
  refine Met.mono (js := maskJ js l) (by rw [maskJ_len, maskJ_len]) hs h (fun i hi => ?_) (fun i hi => ?_) (fun i t hi _ hin => ?_) hsup <;> rw [maskJ_len] at hi
  · have e0 := (okP_job hok hi).2.2.2.1
    by_cases c : inL l' i = true
    · have c2 : inL l i = true := by unfold inL at *; simp only [decide_eq_true_eq] at *; exact hl _ c
      rw [maskJ_in hi c, maskJ_in hi c2]
      exact ⟨e0, Int.le_refl _⟩
    · rw [maskJ_out hi c]
      refine ⟨Int.le_refl _, ?_⟩
      by_cases c2 : inL l i = true
      · rw [maskJ_in hi c2]; exact e0
      · rw [maskJ_out hi c2]; exact Int.le_refl _
  · rw [(maskJ_rest js l hi).2.2.1, (maskJ_rest js l' hi).2.2.1]
    exact Int.le_refl _
  · rw [maskJ_inJ js l' hi]
    exact (maskJ_inJ js l hi t).1 hin
theorem MetA.sub {js : List GJob} {sup : List Int} {l l' : List Int} (hok : okP js sup = true) (hl : ∀ i, i ∈ l' → i ∈ l) (h : MetA js sup l) : MetA js sup l' := h.mono hok rfl (fun _ _ => Int.le_refl _) hl
/-- As a list of jobs, and as jobs without need. -/
theorem met_some {js : List GJob} {sup : List Int} {l : List Int} (hok : okP js sup = true) (hn : l.Nodup) (hv : ValidL js.length l) : Met (someJ js l) sup ↔ MetA js sup l := by
  constructor
  · rintro ⟨P, hP⟩
    have at_ : ∀ k, k < l.length → ∀ t, S l.length (fun m => pick (fAt l m = fAt l k) (P m t)) = P k t := fun k hk t => by
      rw [S_single (k := k) hk (fun m hm hne => pick_neg (fun x => hne (nodup_fAt hn hm hk x)) _), pick_pos rfl]
    have key : ∀ i, i < js.length → (inL l i = true → ∃ k, k < l.length ∧ fAt l k = (i : Int)) := fun i hi h => by
      unfold inL at h
      simp only [decide_eq_true_eq] at h
      exact mem_fAt h
    have out : ∀ i t, ¬ inL l i = true → S l.length (fun m => pick (fAt l m = (i : Int)) (P m t)) = 0 := fun i t h => S_none (fun m hm => pick_neg (fun x => h (by unfold inL; rw [← x]; simpa using fAt_mem hm)) _)
    have hlen := someJ_len js l
    refine ⟨fun i t => S l.length (fun m => pick (fAt l m = (i : Int)) (P m t)), ⟨fun i t hi ht => ?_, fun i t hi ht => ?_, fun i t hi ht hnj => ?_, fun i hi => ?_, fun t ht => ?_⟩⟩ <;> (try rw [maskJ_len] at hi)
    · refine S_nonneg fun m hm => ?_
      unfold pick
      split
      · exact hP.lo m t (by omega) ht
      · exact Int.le_refl _
    · rw [(maskJ_rest js l hi).2.2.1]
      by_cases c : inL l i = true
      · obtain ⟨k, hk, e⟩ := key i hi c
        show S l.length (fun m => pick (fAt l m = (i : Int)) (P m t)) ≤ _
        rw [← e, at_ k hk]
        have := hP.hi k t (by omega) ht
        rw [someJ_at js hk, e] at this
        simpa using this
      · show S l.length (fun m => pick (fAt l m = (i : Int)) (P m t)) ≤ _
        rw [out i t c]
        exact (okP_job hok hi).2.2.2.2.2.1
    · rw [maskJ_inJ js l hi] at hnj
      show S l.length (fun m => pick (fAt l m = (i : Int)) (P m t)) = 0
      by_cases c : inL l i = true
      · obtain ⟨k, hk, e⟩ := key i hi c
        rw [← e, at_ k hk]
        refine hP.out k t (by omega) ht (fun h => hnj ?_)
        rw [someJ_at js hk, e] at h
        simpa using h
      · exact out i t c
    · show S sup.length (fun t => S l.length (fun m => pick (fAt l m = (i : Int)) (P m t))) = _
      by_cases c : inL l i = true
      · obtain ⟨k, hk, e⟩ := key i hi c
        rw [maskJ_in hi c, S_congr (h := P k) (fun t ht => by rw [← e, at_ k hk])]
        have := hP.got k (by omega)
        rw [someJ_at js hk, e] at this
        simpa using this
      · rw [maskJ_out hi c, S_none (fun t ht => out i t c)]
        rfl
    · rw [maskJ_len]
      show S js.length (fun i => S l.length (fun m => pick (fAt l m = (i : Int)) (P m t))) ≤ _
      rw [S_swap, S_congr (h := fun m => P m t) (fun m hm => ?_)]
      · have := hP.fits t ht
        rw [hlen] at this
        exact this
      · have hv' := hv _ (fAt_mem hm)
        rw [S_single (k := (fAt l m).toNat) (by omega) (fun i hi hne => pick_neg (fun x => hne (by omega)) _), pick_pos (by omega)]
  · rintro ⟨P, hP⟩
    have hlen := someJ_len js l
    have hm := maskJ_len js l
    have lt : ∀ k, k < l.length → (fAt l k).toNat < js.length ∧ inL l (fAt l k).toNat = true := fun k hk => by
      have hv' := hv _ (fAt_mem hk)
      refine ⟨by omega, ?_⟩
      unfold inL
      rw [show (((fAt l k).toNat : Nat) : Int) = fAt l k by omega]
      simpa using fAt_mem hk
    refine ⟨fun k t => P (fAt l k).toNat t, ⟨fun k t hk ht => ?_, fun k t hk ht => ?_, fun k t hk ht hnj => ?_, fun k hk => ?_, fun t ht => ?_⟩⟩ <;> (try rw [hlen] at hk)
    · exact hP.lo _ t (by rw [hm]; exact (lt k hk).1) ht
    · rw [someJ_at js hk, ← (maskJ_rest js l (lt k hk).1).2.2.1]
      exact hP.hi _ t (by rw [hm]; exact (lt k hk).1) ht
    · rw [someJ_at js hk, ← maskJ_inJ js l (lt k hk).1] at hnj
      exact hP.out _ t (by rw [hm]; exact (lt k hk).1) ht hnj
    · rw [someJ_at js hk, ← maskJ_in (lt k hk).1 (lt k hk).2]
      exact hP.got _ (by rw [hm]; exact (lt k hk).1)
    · rw [hlen, S_nodup hn hv (fun i => P i t)]
      have h1 := S_le (n := js.length) (g := fun i => pick (inL l i = true) (P i t)) (h := fun i => P i t) (fun i hi => by
        unfold pick
        split
        · exact Int.le_refl _
        · exact hP.lo i t (by rw [hm]; exact hi) ht)
      have h2 := hP.fits t ht
      rw [hm] at h2
      omega
theorem nodup_snoc {l : List Int} {i : Int} (h : l.Nodup) (hi : ¬ i ∈ l) : (l ++ [i]).Nodup := by
  rw [List.nodup_append]
  refine ⟨h, by simp, fun a ha b hb e => ?_⟩
  simp at hb
  subst hb
  subst e
  exact hi ha
theorem ValidL.snoc {n : Nat} {l : List Int} {i : Int} (h : ValidL n l) (h0 : 0 ≤ i) (h1 : i < n) : ValidL n (l ++ [i]) := fun x hx => by
  rcases List.mem_append.1 hx with hx | hx
  · exact h x hx
  · simp at hx; subst hx; exact ⟨h0, h1⟩
theorem okP_some {js : List GJob} {sup : List Int} {l : List Int} (hok : okP js sup = true) (hv : ValidL js.length l) (hl : l.length ≤ 12) : okP (someJ js l) sup = true := by
  obtain ⟨⟨a1, a2⟩, a3, a4⟩ := okP_iff.1 hok
  refine okP_iff.2 ⟨⟨by rw [someJ_len]; exact hl, a2⟩, a3, fun j hj => ?_⟩
  obtain ⟨i, hi, e⟩ := List.mem_map.1 hj
  have hv' := hv i hi
  rw [← e]
  exact a4 _ (by rw [jAt_lt (by omega)]; exact List.getElem_mem _)
theorem nodup_len {n : Nat} {l : List Int} (hn : l.Nodup) (hv : ValidL n l) : l.length ≤ n := by
  have h := S_nodup hn hv (fun _ => 1)
  have h1 : S l.length (fun _ => 1) = (l.length : Int) := by
    generalize l.length = m
    induction m with
    | zero => rfl
    | succ m ih => rw [S_succ, ih]; simp
  have h2 : S n (fun i => pick (inL l i = true) 1) ≤ (n : Int) * 1 := S_bound (fun i hi => by unfold pick; split <;> omega)
  have h3 : S l.length (fun k => (fun _ : Nat => (1 : Int)) (fAt l k).toNat) = S l.length (fun _ => 1) := rfl
  omega
end Go.Proofs.Ytgfcnkfmgpakkaa
/-
Plain laws of the kept jobs: cuts that explain, the kept ones step by step, what Check decides. No program in sight.
-/
namespace Go.Proofs.Ytgfcnkfmgpakkaa
set_option linter.unusedVariables false
set_option linter.unusedSimpArgs false
/-- A cut explains that a job is broken. -/
def expl (js : List GJob) (sup : List Int) (c : List Int × List Int) (i : Int) (kept : List Int) : Prop := cutPB js sup c.1 c.2 = true ∧ i ∈ c.1 ∧ ∀ x, x ∈ c.1 → x = i ∨ x ∈ kept
theorem good_nodup {xs : List Int} {N : Int} {k : Nat} (h : goodTo xs N k) (hk : k = xs.length) : xs.Nodup := by
  refine List.pairwise_iff_getElem.2 fun i m h1 hm hi e => ?_
  have := good_lt h i m hi (by omega)
  simp [fAt, List.getElem?_eq_getElem h1, List.getElem?_eq_getElem hm] at this
  omega
theorem good_valid {xs : List Int} {N : Nat} (h : goodTo xs (N : Int) xs.length) : ValidL N xs := fun x hx => by
  obtain ⟨k, hk, e⟩ := mem_fAt hx
  have := (good_ge h (i := k) hk)
  omega
theorem cutPB_iff {js : List GJob} {sup cj cs : List Int} : cutPB js sup cj cs = true ↔ (okP js sup = true ∧ goodTo cj js.length cj.length ∧ goodTo cs sup.length cs.length ∧ roomC js sup (inL cj) (inL cs) < needC js (inL cj)) := by
  unfold cutPB
  simp only [Bool.and_eq_true, decide_eq_true_eq, marksB_iff]
  constructor
  · rintro ⟨a, ⟨b, c⟩, d⟩; exact ⟨a, b, c, d⟩
  · rintro ⟨a, b, c, d⟩; exact ⟨a, ⟨b, c⟩, d⟩
/-- A right cut whose jobs lie in a list: its jobs cannot be met. -/
theorem cut_not {js : List GJob} {sup cj cs l : List Int} (h : cutPB js sup cj cs = true) (hl : ∀ x, x ∈ cj → x ∈ l) : ¬ MetA js sup l := by
  rintro ⟨P, hP⟩
  obtain ⟨hok, h1, h2, h3⟩ := cutPB_iff.1 h
  have hb := not_both (okP_mask l hok) hP (inL cj) (inL cs)
  have hin : ∀ i, inL cj i = true → inL l i = true := fun i hi => by unfold inL at *; simp only [decide_eq_true_eq] at *; exact hl _ hi
  have e1 : needC (maskJ js l) (inL cj) = needC js (inL cj) := by
    unfold needC
    rw [maskJ_len]
    refine S_congr fun i hi => ?_
    unfold pick
    split
    · rw [maskJ_in hi (hin i (by assumption))]
    · rfl
  have e2 : roomC (maskJ js l) sup (inL cj) (inL cs) = roomC js sup (inL cj) (inL cs) := by
    unfold roomC
    rw [maskJ_len]
    congr 1
    refine S_congr fun i hi => ?_
    unfold pick
    split
    · refine S_congr fun t ht => ?_
      rw [maskJ_in hi (hin i (by assumption))]
    · rfl
  omega
theorem expl_not {js : List GJob} {sup : List Int} {c : List Int × List Int} {i : Int} {kept : List Int} (h : expl js sup c i kept) : ¬ MetA js sup (kept ++ [i]) :=
  cut_not h.1 (fun x hx => by
    rcases h.2.2 x hx with e | e
    · rw [e]; simp
    · simp [e])
/-- The cut of some jobs, named by the numbers that they have among all. -/
theorem cut_named {js : List GJob} {sup which cj cs named : List Int} (hok : okP js sup = true) (hn : which.Nodup) (hv : ValidL js.length which) (hc : cutPB (someJ js which) sup cj cs = true)
    (hg : goodTo named js.length named.length) (hm : ∀ x, x ∈ named ↔ ∃ k, k ∈ cj ∧ x = fAt which k.toNat) : cutPB js sup named cs = true := by
  obtain ⟨_, h1, h2, h3⟩ := cutPB_iff.1 hc
  rw [someJ_len] at h1
  have hcv : ValidL which.length cj := good_valid h1
  have hcn : cj.Nodup := good_nodup h1 rfl
  have hnn : named.Nodup := good_nodup hg rfl
  have hmapN : (cj.map (fun k => fAt which k.toNat)).Nodup := by
    refine List.pairwise_iff_getElem.2 fun i m h1 hm hi e => ?_
    rw [List.length_map] at hm h1
    rw [List.getElem_map, List.getElem_map] at e
    have v1 := hcv _ (List.getElem_mem h1)
    have v2 := hcv _ (List.getElem_mem hm)
    have e2 := nodup_fAt hn (i := cj[i].toNat) (k := cj[m].toNat) (by omega) (by omega) e
    have e3 : cj[i] = cj[m] := by omega
    have := (List.getElem_inj hcn).1 e3
    omega
  have hmapV : ValidL js.length (cj.map (fun k => fAt which k.toNat)) := fun x hx => by
    obtain ⟨k, hk, e⟩ := List.mem_map.1 hx
    have := hcv k hk
    rw [← e]
    exact hv _ (fAt_mem (by omega))
  have sums : ∀ f : Nat → Int, S js.length (fun i => pick (inL named i = true) (f i)) = S which.length (fun k => pick (inL cj k = true) (f (fAt which k).toNat)) := fun f => by
    rw [← S_nodup hcn hcv (fun k => f (fAt which k).toNat)]
    have e := S_nodup hmapN hmapV f
    rw [List.length_map] at e
    have e2 : S cj.length (fun k => f (fAt (cj.map (fun k => fAt which k.toNat)) k).toNat) = S cj.length (fun k => f (fAt which (fAt cj k).toNat).toNat) := S_congr fun k hk => by
      simp [fAt, List.getElem?_map, List.getElem?_eq_getElem hk]
    rw [← e2, e]
    refine S_congr fun i hi => ?_
    have : inL named i = inL (cj.map (fun k => fAt which k.toNat)) i := by
      unfold inL
      rw [decide_eq_decide, hm, List.mem_map]
      constructor
      · rintro ⟨k, a, b⟩; exact ⟨k, a, b.symm⟩
      · rintro ⟨k, a, b⟩; exact ⟨k, a, b.symm⟩
    rw [this]
  refine cutPB_iff.2 ⟨hok, hg, h2, ?_⟩
  have e1 : needC js (inL named) = needC (someJ js which) (inL cj) := by
    unfold needC
    rw [sums (fun i => (jAt js i).energy), someJ_len]
    exact S_congr fun k hk => by rw [someJ_at js hk]
  have e2 : roomC js sup (inL named) (inL cs) = roomC (someJ js which) sup (inL cj) (inL cs) := by
    unfold roomC
    rw [sums (fun i => S sup.length (fun t => pick (inJ (jAt js i) t ∧ inL cs t = false) (jAt js i).rate)), someJ_len]
    congr 1
    exact S_congr fun k hk => by rw [someJ_at js hk]
  omega
/-- Schedule's cut for the kept ones and a further one explains why that is broken. -/
theorem expl_named {js : List GJob} {sup kept cj cs named : List Int} {i : Int} (hok : okP js sup = true) (hn : (kept ++ [i]).Nodup) (hv : ValidL js.length (kept ++ [i])) (hmet : Met (someJ js kept) sup) (hl : kept.length < 12) (hc : cutPB (someJ js (kept ++ [i])) sup cj cs = true)
    (hg : goodTo named js.length named.length) (hm : ∀ x, x ∈ named ↔ ∃ k, k ∈ cj ∧ x = fAt (kept ++ [i]) k.toNat) : expl js sup (named, cs) i kept := by
  refine ⟨cut_named hok hn hv hc hg hm, (hm i).2 ⟨(kept.length : Int), ?_, by simp [fAt]⟩, fun x hx => ?_⟩
  · refine Classical.byContradiction fun hnot => ?_
    have h2 := (cutPB_iff.1 hc).2.2.2
    rw [someJ_snoc] at h2
    have h3 := cut_butlast (js := someJ js kept) (cj := inL cj) (by unfold inL; rw [someJ_len]; simpa using hnot) h2
    obtain ⟨P, hP⟩ := hmet
    have hok2 : okP (someJ js kept) sup = true := okP_some hok (fun x hx => hv x (by simp [hx])) (by omega)
    have := not_both hok2 hP (inL cj) (inL cs)
    omega
  · obtain ⟨k, hk, e⟩ := (hm x).1 hx
    have h1 := (cutPB_iff.1 hc).2.1
    rw [someJ_len] at h1
    have hv2 := good_valid h1 k hk
    have : fAt (kept ++ [i]) k.toNat ∈ kept ++ [i] := fAt_mem (by omega)
    rw [← e] at this
    rcases List.mem_append.1 this with h | h
    · exact .inr h
    · simp at h; exact .inl h
theorem take_snocM {α : Type} {xs : List α} {k : Nat} {x : α} (h : xs[k]? = some x) : xs.take (k + 1) = xs.take k ++ [x] := by
  obtain ⟨hk, e⟩ := List.getElem?_eq_some_iff.1 h
  rw [List.take_succ_eq_append_getElem hk, e]
/-- One job more, in its turn. -/
noncomputable def stepK (js : List GJob) (sup kept : List Int) (i : Int) : List Int := @ite _ (Met (someJ js (kept ++ [i])) sup) (Classical.propDecidable _) (kept ++ [i]) kept
noncomputable def keptTo (js : List GJob) (sup ord : List Int) (k : Nat) : List Int := (ord.take k).foldl (stepK js sup) []
theorem keptTo_zero (js : List GJob) (sup ord : List Int) : keptTo js sup ord 0 = [] := rfl
theorem keptTo_succ {js : List GJob} {sup ord : List Int} {k : Nat} {i : Int} (h : ord[k]? = some i) : keptTo js sup ord (k + 1) = stepK js sup (keptTo js sup ord k) i := by
  unfold keptTo
  rw [take_snocM h, List.foldl_append]
  rfl
theorem stepK_yes {js : List GJob} {sup kept : List Int} {i : Int} (h : Met (someJ js (kept ++ [i])) sup) : stepK js sup kept i = kept ++ [i] := by unfold stepK; rw [if_pos h]
theorem stepK_no {js : List GJob} {sup kept : List Int} {i : Int} (h : ¬ Met (someJ js (kept ++ [i])) sup) : stepK js sup kept i = kept := by unfold stepK; rw [if_neg h]
/-- What the kept ones are, as far as the order has come. -/
structure Kept (js : List GJob) (sup ord : List Int) (k : Nat) : Prop where
  sub : ∀ x, x ∈ keptTo js sup ord k → x ∈ ord.take k
  nodup : (keptTo js sup ord k).Nodup
  met : Met (someJ js (keptTo js sup ord k)) sup
  len : (keptTo js sup ord k).length ≤ k
  rest : ∀ m i, m < k → ord[m]? = some i → ¬ i ∈ keptTo js sup ord k → ¬ MetA js sup (keptTo js sup ord m ++ [i])
theorem met_nil (sup : List Int) (h : ∀ y, y ∈ sup → okU y = true) : Met [] sup := by
  refine ⟨fun _ _ => 0, ⟨fun i t hi => by simp at hi, fun i t hi => by simp at hi, fun i t hi => by simp at hi, fun i hi => by simp at hi, fun t ht => ?_⟩⟩
  simp only [S, List.length_nil]
  have := h (fAt sup t) (fAt_mem ht)
  unfold okU at this
  simp only [decide_eq_true_eq] at this
  exact this.1
theorem take_valid {n : Nat} {ord : List Int} (hv : ValidL n ord) (k : Nat) : ValidL n (ord.take k) := fun x hx => hv x (List.mem_of_mem_take hx)
theorem not_take {ord : List Int} (hn : ord.Nodup) {k : Nat} {i : Int} (h : ord[k]? = some i) : ¬ i ∈ ord.take k := by
  intro hm
  obtain ⟨m, hm1, hm2⟩ := List.getElem_of_mem hm
  rw [List.length_take] at hm1
  rw [List.getElem_take] at hm2
  obtain ⟨hk, e⟩ := List.getElem?_eq_some_iff.1 h
  have := (List.getElem_inj hn).1 (hm2.trans e.symm)
  omega
theorem kept_all {js : List GJob} {sup ord : List Int} (hok : okP js sup = true) (hn : ord.Nodup) (hv : ValidL js.length ord) : ∀ k, k ≤ ord.length → Kept js sup ord k
  | 0, _ => ⟨fun x hx => by simp [keptTo_zero] at hx, by simp [keptTo_zero], met_nil sup (okP_iff.1 hok).2.1, by simp [keptTo_zero], fun m i hm => by omega⟩
  | k + 1, hk => by
    have ih := kept_all hok hn hv k (by omega)
    obtain ⟨i, hi⟩ : ∃ i, ord[k]? = some i := ⟨ord[k], List.getElem?_eq_getElem (by omega)⟩
    have hnot := not_take hn hi
    have hvi := hv i (List.mem_of_getElem? hi)
    have hni : ¬ i ∈ keptTo js sup ord k := fun h => hnot (ih.sub i h)
    have hvk : ValidL js.length (keptTo js sup ord k) := fun x hx => take_valid hv k x (ih.sub x hx)
    have hnd := nodup_snoc ih.nodup hni
    have hvs := hvk.snoc hvi.1 hvi.2
    have htk : ord.take (k + 1) = ord.take k ++ [i] := take_snocM hi
    by_cases hm : Met (someJ js (keptTo js sup ord k ++ [i])) sup
    · have e : keptTo js sup ord (k + 1) = keptTo js sup ord k ++ [i] := by rw [keptTo_succ hi, stepK_yes hm]
      refine ⟨fun x hx => ?_, by rw [e]; exact hnd, by rw [e]; exact hm, by rw [e, List.length_append]; have := ih.len; simp; omega, fun m i' hmk hi' hni' => ?_⟩
      · rw [e] at hx
        rw [htk]
        rcases List.mem_append.1 hx with h | h
        · exact List.mem_append.2 (.inl (ih.sub x h))
        · exact List.mem_append.2 (.inr h)
      · rw [e] at hni'
        by_cases c : m = k
        · subst c
          rw [hi] at hi'
          injection hi' with hi'
          subst hi'
          exact absurd (List.mem_append.2 (.inr (by simp))) hni'
        · exact ih.rest m i' (by omega) hi' (fun h => hni' (List.mem_append.2 (.inl h)))
    · have e : keptTo js sup ord (k + 1) = keptTo js sup ord k := by rw [keptTo_succ hi, stepK_no hm]
      refine ⟨fun x hx => ?_, by rw [e]; exact ih.nodup, by rw [e]; exact ih.met, by rw [e]; have := ih.len; omega, fun m i' hmk hi' hni' => ?_⟩
      · rw [e] at hx
        rw [htk]
        exact List.mem_append.2 (.inl (ih.sub x hx))
      · rw [e] at hni'
        by_cases c : m = k
        · subst c
          rw [hi] at hi'
          injection hi' with hi'
          subst hi'
          exact fun h => hm ((met_some hok hnd hvs).2 h)
        · exact ih.rest m i' (by omega) hi' hni'
theorem kept_valid {js : List GJob} {sup ord : List Int} (hok : okP js sup = true) (hn : ord.Nodup) (hv : ValidL js.length ord) {k : Nat} (hk : k ≤ ord.length) : ValidL js.length (keptTo js sup ord k) := fun x hx => take_valid hv k x ((kept_all hok hn hv k hk).sub x hx)
theorem kept_prefix {js : List GJob} {sup ord : List Int} {k m : Nat} (h : k ≤ m) : keptTo js sup ord k <+: keptTo js sup ord m := by
  induction m with
  | zero => have : k = 0 := by omega
            subst this; exact List.prefix_refl _
  | succ m ih =>
    by_cases c : k = m + 1
    · subst c; exact List.prefix_refl _
    · refine (ih (by omega)).trans ?_
      cases hi : ord[m]? with
      | none =>
        have hl : ord.length ≤ m := List.getElem?_eq_none_iff.1 hi
        unfold keptTo
        rw [List.take_of_length_le hl, List.take_of_length_le (by omega)]
        exact List.prefix_refl _
      | some i =>
        rw [keptTo_succ hi]
        by_cases hm : Met (someJ js (keptTo js sup ord m ++ [i])) sup
        · rw [stepK_yes hm]; exact List.prefix_append _ _
        · rw [stepK_no hm]; exact List.prefix_refl _
end Go.Proofs.Ytgfcnkfmgpakkaa
/-
Plain laws of the kept jobs: the order is one, what Check decides, that it accepts what Keep gives and nothing else; the best set; more supply. No program in sight.
-/
namespace Go.Proofs.Ytgfcnkfmgpakkaa
set_option linter.unusedVariables false
set_option linter.unusedSimpArgs false
def before (js : List GJob) (a b : Int) : Prop := (jAt js a.toNat).rank < (jAt js b.toNat).rank ∨ ((jAt js a.toNat).rank = (jAt js b.toNat).rank ∧ a < b)
structure IsOrd (js : List GJob) (ord : List Int) : Prop where
  mem : ∀ x, x ∈ ord ↔ 0 ≤ x ∧ x < js.length
  sorted : ord.Pairwise (before js)
theorem before_irrefl {js : List GJob} {a : Int} (h : before js a a) : False := by unfold before at h; omega
theorem before_asymm {js : List GJob} {a b : Int} (h : before js a b) (k : before js b a) : False := by unfold before at *; omega
theorem before_trans {js : List GJob} {a b c : Int} (h : before js a b) (k : before js b c) : before js a c := by unfold before at *; omega
theorem IsOrd.nodup {js : List GJob} {ord : List Int} (h : IsOrd js ord) : ord.Nodup := h.sorted.imp (fun {a b} hab e => by subst e; exact before_irrefl hab)
theorem IsOrd.valid {js : List GJob} {ord : List Int} (h : IsOrd js ord) : ValidL js.length ord := fun x hx => (h.mem x).1 hx
theorem IsOrd.len {js : List GJob} {ord : List Int} (h : IsOrd js ord) : ord.length = js.length := by
  have h0 := S_nodup h.nodup h.valid (fun _ => 1)
  have h1 : ∀ m, S m (fun _ => 1) = (m : Int) := by
    intro m
    induction m with
    | zero => rfl
    | succ m ih => rw [S_succ, ih]; simp
  have h2 : S js.length (fun i => pick (inL ord i = true) 1) = S js.length (fun _ => 1) := S_congr fun i hi => pick_pos (by unfold inL; simpa using (h.mem i).2 ⟨by omega, by omega⟩) _
  have h3 : S ord.length (fun k => (fun _ : Nat => (1 : Int)) (fAt ord k).toNat) = S ord.length (fun _ => 1) := rfl
  have e1 := h1 ord.length
  have e2 := h1 js.length
  omega
theorem sorted_unique {R : Int → Int → Prop} (ha : ∀ x y, R x y → R y x → False) : ∀ {a b : List Int}, a.Pairwise R → b.Pairwise R → (∀ x, x ∈ a ↔ x ∈ b) → a = b
  | [], b, _, _, h => by
    cases b with
    | nil => rfl
    | cons y b => exact absurd ((h y).2 (by simp)) (by simp)
  | x :: a, b, h1, h2, h => by
    cases b with
    | nil => exact absurd ((h x).1 (by simp)) (by simp)
    | cons y b =>
      rw [List.pairwise_cons] at h1 h2
      have hxy : x = y := by
        refine Classical.byContradiction fun hne => ?_
        have hx : x ∈ b := by
          rcases List.mem_cons.1 ((h x).1 (by simp)) with e | e
          · exact absurd e hne
          · exact e
        have hy : y ∈ a := by
          rcases List.mem_cons.1 ((h y).2 (by simp)) with e | e
          · exact absurd e.symm hne
          · exact e
        exact ha x y (h1.1 y hy) (h2.1 x hx)
      subst hxy
      have hxa : ¬ x ∈ a := fun m => ha x x (h1.1 x m) (h1.1 x m)
      have hxb : ¬ x ∈ b := fun m => ha x x (h2.1 x m) (h2.1 x m)
      rw [sorted_unique ha h1.2 h2.2 (fun z => ⟨fun hz => by
        rcases List.mem_cons.1 ((h z).1 (by simp [hz])) with e | e
        · subst e; exact absurd hz hxa
        · exact e, fun hz => by
        rcases List.mem_cons.1 ((h z).2 (by simp [hz])) with e | e
        · subst e; exact absurd hz hxb
        · exact e⟩)]
theorem order_unique {js : List GJob} {a b : List Int} (ha : IsOrd js a) (hb : IsOrd js b) : a = b :=
  sorted_unique (R := before js) (fun _ _ h k => before_asymm h k) ha.sorted hb.sorted (fun x => by rw [ha.mem, hb.mem])
/-- What Check looks at, job after job. -/
def explO (js : List GJob) (sup : List Int) : Option (List Int × List Int) → Int → List Int → Prop
  | none, _, _ => False
  | some c, i, kept => expl js sup c i kept
noncomputable def stepC (js : List GJob) (sup kept : List Int) (cuts : List (List Int × List Int)) (s : Option (Nat × Nat)) (i : Int) : Option (Nat × Nat) :=
  match s with
  | none => none
  | some (a, b) => if kept[a]? = some i then some (a + 1, b) else @ite _ (explO js sup cuts[b]? i (kept.take a)) (Classical.propDecidable _) (some (a, b + 1)) none
noncomputable def chkTo (js : List GJob) (sup kept : List Int) (cuts : List (List Int × List Int)) (ord : List Int) (k : Nat) : Option (Nat × Nat) := (ord.take k).foldl (stepC js sup kept cuts) (some (0, 0))
theorem chkTo_succ {js : List GJob} {sup kept : List Int} {cuts : List (List Int × List Int)} {ord : List Int} {k : Nat} {i : Int} (h : ord[k]? = some i) : chkTo js sup kept cuts ord (k + 1) = stepC js sup kept cuts (chkTo js sup kept cuts ord k) i := by
  unfold chkTo
  rw [take_snocM h, List.foldl_append]
  rfl
theorem stepC_keep {js : List GJob} {sup kept : List Int} {cuts : List (List Int × List Int)} {a b : Nat} {i : Int} (h : kept[a]? = some i) : stepC js sup kept cuts (some (a, b)) i = some (a + 1, b) := by unfold stepC; simp only []; rw [if_pos h]
theorem stepC_cut {js : List GJob} {sup kept : List Int} {cuts : List (List Int × List Int)} {a b : Nat} {i : Int} (h : ¬ kept[a]? = some i) (he : explO js sup cuts[b]? i (kept.take a)) : stepC js sup kept cuts (some (a, b)) i = some (a, b + 1) := by unfold stepC; simp only []; rw [if_neg h, if_pos he]
theorem stepC_bad {js : List GJob} {sup kept : List Int} {cuts : List (List Int × List Int)} {a b : Nat} {i : Int} (h : ¬ kept[a]? = some i) (he : ¬ explO js sup cuts[b]? i (kept.take a)) : stepC js sup kept cuts (some (a, b)) i = none := by unfold stepC; simp only []; rw [if_neg h, if_neg he]
theorem chkTo_none {js : List GJob} {sup kept : List Int} {cuts : List (List Int × List Int)} {ord : List Int} {k m : Nat} (hm : k ≤ m) (h : chkTo js sup kept cuts ord k = none) : chkTo js sup kept cuts ord m = none := by
  induction m with
  | zero => have : k = 0 := by omega
            subst this; exact h
  | succ m ih =>
    by_cases c : k = m + 1
    · subst c; exact h
    · have := ih (by omega)
      cases hi : ord[m]? with
      | none =>
        have hl : ord.length ≤ m := List.getElem?_eq_none_iff.1 hi
        unfold chkTo at *
        rw [List.take_of_length_le (by omega)]
        rwa [List.take_of_length_le hl] at this
      | some i => rw [chkTo_succ hi, this]; rfl
theorem chkTo_sum {js : List GJob} {sup kept : List Int} {cuts : List (List Int × List Int)} {ord : List Int} : ∀ {k a b : Nat}, k ≤ ord.length → chkTo js sup kept cuts ord k = some (a, b) → a + b = k ∧ a ≤ kept.length ∧ b ≤ cuts.length
  | 0, a, b, _, h => by
    unfold chkTo at h
    simp at h
    obtain ⟨rfl, rfl⟩ := h
    exact ⟨rfl, Nat.zero_le _, Nat.zero_le _⟩
  | k + 1, a, b, hk, h => by
    have hi : ord[k]? = some ord[k] := List.getElem?_eq_getElem (by omega)
    rw [chkTo_succ hi] at h
    cases hs : chkTo js sup kept cuts ord k with
    | none => rw [hs] at h; simp [stepC] at h
    | some ab =>
      obtain ⟨a', b'⟩ := ab
      rw [hs] at h
      obtain ⟨h1, h2, h3⟩ := chkTo_sum (by omega) hs
      by_cases c : kept[a']? = some ord[k]
      · rw [stepC_keep c] at h
        simp at h
        obtain ⟨rfl, rfl⟩ := h
        have := (List.getElem?_eq_some_iff.1 c).1
        exact ⟨by omega, by omega, h3⟩
      · by_cases d : explO js sup cuts[b']? ord[k] (kept.take a')
        · rw [stepC_cut c d] at h
          simp at h
          obtain ⟨rfl, rfl⟩ := h
          refine ⟨by omega, h2, ?_⟩
          cases hb : cuts[b']? with
          | none => rw [hb] at d; exact d.elim
          | some x => have := (List.getElem?_eq_some_iff.1 hb).1; omega
        · rw [stepC_bad c d] at h
          cases h
/-- What both Checks decide. -/
noncomputable def chkB (js : List GJob) (sup ord kept : List Int) (cuts : List (List Int × List Int)) : Bool :=
  @decide (okP js sup = true ∧ kept.length + cuts.length = js.length ∧ (∃ b, chkTo js sup kept cuts ord ord.length = some (kept.length, b)) ∧ Met (someJ js kept) sup) (Classical.propDecidable _)
theorem chkB_iff {js : List GJob} {sup ord kept : List Int} {cuts : List (List Int × List Int)} : chkB js sup ord kept cuts = true ↔ (okP js sup = true ∧ kept.length + cuts.length = js.length ∧ (∃ b, chkTo js sup kept cuts ord ord.length = some (kept.length, b)) ∧ Met (someJ js kept) sup) := by
  unfold chkB
  exact @decide_eq_true_iff _ (Classical.propDecidable _)
theorem chkB_not {js : List GJob} {sup ord kept : List Int} {cuts : List (List Int × List Int)} (h : ¬ (okP js sup = true ∧ kept.length + cuts.length = js.length ∧ (∃ b, chkTo js sup kept cuts ord ord.length = some (kept.length, b)) ∧ Met (someJ js kept) sup)) : chkB js sup ord kept cuts = false := by
  cases e : chkB js sup ord kept cuts
  · rfl
  · exact absurd (chkB_iff.1 e) h
theorem met_prefix {js l : List GJob} {sup : List Int} (h : Met (js ++ l) sup) : Met js sup := by
  induction l generalizing js with
  | nil => simpa using h
  | cons x l ih =>
    have : Met ((js ++ [x]) ++ l) sup := by simpa using h
    exact (ih this).butlast
theorem met_take {js : List GJob} {sup l : List Int} (h : Met (someJ js l) sup) (m : Nat) : Met (someJ js (l.take m)) sup := by
  have e : someJ js l = someJ js (l.take m) ++ someJ js (l.drop m) := by unfold someJ; rw [← List.map_append, List.take_append_drop]
  rw [e] at h
  exact met_prefix h
/-- What Check accepts has been kept. -/
theorem chk_only {js : List GJob} {sup ord kept : List Int} {cuts : List (List Int × List Int)} (hok : okP js sup = true) (ho : IsOrd js ord) (hmet : Met (someJ js kept) sup) : ∀ {k a b : Nat}, k ≤ ord.length → chkTo js sup kept cuts ord k = some (a, b) → kept.take a = keptTo js sup ord k
  | 0, a, b, _, h => by
    unfold chkTo at h
    simp at h
    obtain ⟨rfl, rfl⟩ := h
    simp [keptTo_zero]
  | k + 1, a, b, hk, h => by
    have hi : ord[k]? = some ord[k] := List.getElem?_eq_getElem (by omega)
    rw [chkTo_succ hi] at h
    have K := kept_all hok ho.nodup ho.valid k (by omega)
    cases hs : chkTo js sup kept cuts ord k with
    | none => rw [hs] at h; simp [stepC] at h
    | some ab =>
      obtain ⟨a', b'⟩ := ab
      rw [hs] at h
      have ih := chk_only hok ho hmet (by omega) hs
      by_cases c : kept[a']? = some ord[k]
      · rw [stepC_keep c] at h
        simp at h
        obtain ⟨rfl, rfl⟩ := h
        rw [keptTo_succ hi, stepK_yes (by rw [← ih, ← take_snocM c]; exact met_take hmet _), take_snocM c, ih]
      · by_cases d : explO js sup cuts[b']? ord[k] (kept.take a')
        · rw [stepC_cut c d] at h
          simp at h
          obtain ⟨rfl, rfl⟩ := h
          have hni : ¬ ord[k] ∈ keptTo js sup ord k := fun x => not_take ho.nodup hi (K.sub _ x)
          have hvi := ho.valid _ (List.mem_of_getElem? hi)
          rw [keptTo_succ hi, stepK_no (fun hm => ?_), ih]
          have hma := (met_some hok (nodup_snoc K.nodup hni) ((kept_valid hok ho.nodup ho.valid (by omega)).snoc hvi.1 hvi.2)).1 hm
          cases hb : cuts[b']? with
          | none => rw [hb] at d; exact d.elim
          | some x =>
            rw [hb, ih] at d
            exact expl_not d hma
        · rw [stepC_bad c d] at h
          cases h
theorem chkB_only {js : List GJob} {sup ord kept : List Int} {cuts : List (List Int × List Int)} (ho : IsOrd js ord) (h : chkB js sup ord kept cuts = true) : kept = keptTo js sup ord ord.length := by
  obtain ⟨h1, h2, ⟨b, h3⟩, h4⟩ := chkB_iff.1 h
  have := chk_only h1 ho h4 (Nat.le_refl _) h3
  rwa [List.take_of_length_le (Nat.le_refl _)] at this
/-- The cuts of the broken ones, as far as the order has come. -/
structure CutsTo (js : List GJob) (sup ord : List Int) (k : Nat) (C : List (List Int × List Int)) : Prop where
  len : C.length + (keptTo js sup ord k).length = k
  ex : ∀ m i, m < k → ord[m]? = some i → ¬ Met (someJ js (keptTo js sup ord m ++ [i])) sup → explO js sup C[m - (keptTo js sup ord m).length]? i (keptTo js sup ord m)
theorem CutsTo.zero (js : List GJob) (sup ord : List Int) : CutsTo js sup ord 0 [] := ⟨by simp [keptTo_zero], fun m i hm => by omega⟩
theorem CutsTo.kept {js : List GJob} {sup ord : List Int} {k : Nat} {C : List (List Int × List Int)} {i : Int} (h : CutsTo js sup ord k C) (hi : ord[k]? = some i) (hm : Met (someJ js (keptTo js sup ord k ++ [i])) sup) : CutsTo js sup ord (k + 1) C := by
  refine ⟨?_, fun m i' hmk hi' hn => ?_⟩
  · rw [keptTo_succ hi, stepK_yes hm, List.length_append]
    have := h.len
    simp; omega
  · by_cases c : m = k
    · subst c
      rw [hi] at hi'
      injection hi' with hi'
      subst hi'
      exact absurd hm hn
    · exact h.ex m i' (by omega) hi' hn
theorem kept_len {js : List GJob} {sup ord : List Int} {k m : Nat} (h : m ≤ k) : (keptTo js sup ord k).length ≤ (keptTo js sup ord m).length + (k - m) := by
  induction k with
  | zero => have : m = 0 := by omega
            subst this; omega
  | succ k ih =>
    by_cases c : m = k + 1
    · subst c; omega
    · have := ih (by omega)
      cases hi : ord[k]? with
      | none =>
        have hl : ord.length ≤ k := List.getElem?_eq_none_iff.1 hi
        have e : keptTo js sup ord (k + 1) = keptTo js sup ord k := by unfold keptTo; rw [List.take_of_length_le hl, List.take_of_length_le (by omega)]
        rw [e]; omega
      | some i =>
        rw [keptTo_succ hi]
        by_cases hm : Met (someJ js (keptTo js sup ord k ++ [i])) sup
        · rw [stepK_yes hm, List.length_append]; simp; omega
        · rw [stepK_no hm]; omega
theorem CutsTo.broken {js : List GJob} {sup ord : List Int} {k : Nat} {C : List (List Int × List Int)} {i : Int} {c : List Int × List Int} (h : CutsTo js sup ord k C) (hi : ord[k]? = some i) (hm : ¬ Met (someJ js (keptTo js sup ord k ++ [i])) sup) (hc : expl js sup c i (keptTo js sup ord k)) : CutsTo js sup ord (k + 1) (C ++ [c]) := by
  refine ⟨?_, fun m i' hmk hi' hn => ?_⟩
  · rw [keptTo_succ hi, stepK_no hm, List.length_append]
    have := h.len
    simp; omega
  · by_cases e : m = k
    · subst e
      rw [hi] at hi'
      injection hi' with hi'
      subst hi'
      have hl := h.len
      rw [List.getElem?_append_right (by omega), show m - (keptTo js sup ord m).length - C.length = 0 by omega]
      exact hc
    · have hx := h.ex m i' (by omega) hi' hn
      have hl := h.len
      have h1 : (keptTo js sup ord (m + 1)).length = (keptTo js sup ord m).length := by rw [keptTo_succ hi', stepK_no hn]
      have h2 := kept_len (js := js) (sup := sup) (ord := ord) (k := k) (m := m + 1) (by omega)
      have h3 := kept_len (js := js) (sup := sup) (ord := ord) (k := m) (m := 0) (by omega)
      rw [keptTo_zero] at h3
      simp at h3
      rw [List.getElem?_append_left (by omega)]
      exact hx
theorem not_later {js : List GJob} {sup ord : List Int} (ho : IsOrd js ord) (hok : okP js sup = true) {k : Nat} {i : Int} (hi : ord[k]? = some i) (hm : ¬ Met (someJ js (keptTo js sup ord k ++ [i])) sup) : ∀ {m : Nat}, k < m → m ≤ ord.length → ¬ i ∈ keptTo js sup ord m
  | m + 1, h1, h2, hmem => by
    by_cases c : m = k
    · subst c
      rw [keptTo_succ hi, stepK_no hm] at hmem
      exact not_take ho.nodup hi ((kept_all hok ho.nodup ho.valid m (by omega)).sub i hmem)
    · have hx : ord[m]? = some ord[m] := List.getElem?_eq_getElem (by omega)
      have ih := not_later ho hok hi hm (m := m) (by omega) (by omega)
      rw [keptTo_succ hx] at hmem
      by_cases d : Met (someJ js (keptTo js sup ord m ++ [ord[m]])) sup
      · rw [stepK_yes d] at hmem
        rcases List.mem_append.1 hmem with e | e
        · exact ih e
        · simp at e
          obtain ⟨hk, e2⟩ := List.getElem?_eq_some_iff.1 hi
          have := (List.getElem_inj ho.nodup).1 (e2.trans e)
          omega
      · rw [stepK_no d] at hmem
        exact ih hmem
theorem prefix_take {α : Type} {a b : List α} (h : a <+: b) : b.take a.length = a := (List.prefix_iff_eq_take.1 h).symm
theorem chk_runs {js : List GJob} {sup ord : List Int} {C : List (List Int × List Int)} (hok : okP js sup = true) (ho : IsOrd js ord) (hC : CutsTo js sup ord ord.length C) : ∀ {k : Nat}, k ≤ ord.length → chkTo js sup (keptTo js sup ord ord.length) C ord k = some ((keptTo js sup ord k).length, k - (keptTo js sup ord k).length)
  | 0, _ => by simp [chkTo, keptTo_zero]
  | k + 1, hk => by
    have hi : ord[k]? = some ord[k] := List.getElem?_eq_getElem (by omega)
    have ih := chk_runs hok ho hC (k := k) (by omega)
    have hl := (kept_all hok ho.nodup ho.valid k (by omega)).len
    have hp := prefix_take (kept_prefix (js := js) (sup := sup) (ord := ord) (k := k) (m := ord.length) (by omega))
    rw [chkTo_succ hi, ih]
    by_cases hm : Met (someJ js (keptTo js sup ord k ++ [ord[k]])) sup
    · have e : keptTo js sup ord (k + 1) = keptTo js sup ord k ++ [ord[k]] := by rw [keptTo_succ hi, stepK_yes hm]
      have hp2 := kept_prefix (js := js) (sup := sup) (ord := ord) (k := k + 1) (m := ord.length) hk
      rw [e] at hp2
      obtain ⟨t, ht⟩ := hp2
      rw [stepC_keep (by rw [← ht]; simp), e, List.length_append]
      simp
    · have e : keptTo js sup ord (k + 1) = keptTo js sup ord k := by rw [keptTo_succ hi, stepK_no hm]
      have hnl := not_later ho hok hi hm (m := ord.length) (by omega) (Nat.le_refl _)
      rw [stepC_cut (fun h => hnl (List.mem_of_getElem? h)) (by rw [hp]; exact hC.ex k _ (by omega) hi hm), e]
      congr 2
      omega
theorem chkB_keep {js : List GJob} {sup ord : List Int} {C : List (List Int × List Int)} (hok : okP js sup = true) (ho : IsOrd js ord) (hC : CutsTo js sup ord ord.length C) : chkB js sup ord (keptTo js sup ord ord.length) C = true :=
  chkB_iff.2 ⟨hok, by have := hC.len; rw [ho.len] at this ⊢; omega, ⟨_, chk_runs hok ho hC (Nat.le_refl _)⟩, (kept_all hok ho.nodup ho.valid _ (Nat.le_refl _)).met⟩
theorem kept_mem {js : List GJob} {sup ord : List Int} (hok : okP js sup = true) (ho : IsOrd js ord) {k m : Nat} (hm : m ≤ ord.length) {x : Int} (hx : x ∈ keptTo js sup ord k) (hk : k ≤ m) : x ∈ keptTo js sup ord m := (kept_prefix (js := js) (sup := sup) (ord := ord) hk).subset hx
/-- The first one that is in exactly one of both, another set that can be met and the kept ones, is a kept one. -/
theorem kept_best {js : List GJob} {sup ord other : List Int} (hok : okP js sup = true) (ho : IsOrd js ord) (hmet : MetA js sup other) {k : Nat} {i : Int} (hi : ord[k]? = some i) (heq : ∀ m x, m < k → ord[m]? = some x → (x ∈ keptTo js sup ord ord.length ↔ x ∈ other)) (h : i ∈ other) : i ∈ keptTo js sup ord ord.length := by
  have hk := (List.getElem?_eq_some_iff.1 hi).1
  refine Classical.byContradiction fun hn => ?_
  refine (kept_all hok ho.nodup ho.valid ord.length (Nat.le_refl _)).rest k i hk hi hn (hmet.sub hok fun x hx => ?_)
  rcases List.mem_append.1 hx with e | e
  · have hs := (kept_all hok ho.nodup ho.valid k (by omega)).sub x e
    obtain ⟨m, hm1, hm2⟩ := List.getElem_of_mem hs
    rw [List.length_take] at hm1
    rw [List.getElem_take] at hm2
    exact (heq m x (by omega) (by rw [List.getElem?_eq_getElem (by omega), hm2])).1 (kept_mem hok ho (Nat.le_refl _) e (by omega))
  · simp at e; subst e; exact h
theorem kept_metA {js : List GJob} {sup ord : List Int} (hok : okP js sup = true) (ho : IsOrd js ord) : MetA js sup (keptTo js sup ord ord.length) := by
  have K := kept_all hok ho.nodup ho.valid ord.length (Nat.le_refl _)
  exact (met_some hok K.nodup (kept_valid hok ho.nodup ho.valid (Nat.le_refl _))).1 K.met
theorem kept_more {js : List GJob} {sup wide ord : List Int} (hok : okP js sup = true) (hok2 : okP js wide = true) (hs : wide.length = sup.length) (hw : ∀ t, t < sup.length → fAt sup t ≤ fAt wide t) (ho : IsOrd js ord) {k : Nat} {i : Int} (hi : ord[k]? = some i)
    (heq : ∀ m x, m < k → ord[m]? = some x → (x ∈ keptTo js sup ord ord.length ↔ x ∈ keptTo js wide ord ord.length)) (h : i ∈ keptTo js sup ord ord.length) : i ∈ keptTo js wide ord ord.length :=
  kept_best hok2 ho (MetA.mono hok hs hw (fun _ hx => hx) (kept_metA hok ho)) hi (fun m x hm hx => (heq m x hm hx).symm) h
theorem mask_all {js : List GJob} {l : List Int} (h : ∀ x : Int, 0 ≤ x → x < js.length → x ∈ l) : maskJ js l = js := by
  refine List.ext_getElem (maskJ_len js l) fun i h1 h2 => ?_
  have e := maskJ_in (js := js) (l := l) h2 (by unfold inL; simpa using h i (by omega) (by omega))
  rwa [jAt_lt h1, jAt_lt h2] at e
theorem kept_everyone {js : List GJob} {sup ord : List Int} (hok : okP js sup = true) (ho : IsOrd js ord) (hmet : Met js sup) : ∀ {k : Nat}, k ≤ ord.length → keptTo js sup ord k = ord.take k
  | 0, _ => by simp [keptTo_zero]
  | k + 1, hk => by
    have hi : ord[k]? = some ord[k] := List.getElem?_eq_getElem (by omega)
    have ih := kept_everyone hok ho hmet (k := k) (by omega)
    have hall : MetA js sup ord := by unfold MetA; rw [mask_all (fun x h0 h1 => (ho.mem x).2 ⟨h0, h1⟩)]; exact hmet
    have htk : ord.take (k + 1) = ord.take k ++ [ord[k]] := take_snocM hi
    rw [keptTo_succ hi, stepK_yes, ih, htk]
    rw [ih, ← htk]
    refine (met_some hok (ho.nodup.sublist (List.take_sublist _ _)) (take_valid ho.valid _)).2 (hall.sub hok fun x hx => List.mem_of_mem_take hx)
theorem broken_alone {js : List GJob} {sup ord : List Int} (hok : okP js sup = true) (ho : IsOrd js ord) {i : Int} (h0 : 0 ≤ i) (h1 : i < js.length) (hn : ¬ i ∈ keptTo js sup ord ord.length) : ¬ Met (someJ js (i :: keptTo js sup ord ord.length)) sup := by
  have K := kept_all hok ho.nodup ho.valid ord.length (Nat.le_refl _)
  have hv := kept_valid hok ho.nodup ho.valid (Nat.le_refl ord.length)
  obtain ⟨k, hk, e⟩ := List.getElem_of_mem ((ho.mem i).2 ⟨h0, h1⟩)
  intro hm
  have hm2 := (met_some hok (List.nodup_cons.2 ⟨hn, K.nodup⟩) (fun x hx => by
    rcases List.mem_cons.1 hx with r | r
    · rw [r]; exact ⟨h0, h1⟩
    · exact hv x r)).1 hm
  refine K.rest k i hk (by rw [List.getElem?_eq_getElem hk, e]) hn (hm2.sub hok fun x hx => ?_)
  rcases List.mem_append.1 hx with r | r
  · exact List.mem_cons.2 (.inr (kept_mem hok ho (Nat.le_refl _) r (by omega)))
  · simp at r; subst r; exact List.mem_cons.2 (.inl rfl)
end Go.Proofs.Ytgfcnkfmgpakkaa
/-
Plain facts for the first check of the laws of replan: one slot.
-/
namespace Go.Proofs.Ytgfcnkfmgpakkaa
set_option linter.unusedVariables false
set_option linter.unusedSimpArgs false
/-- One slot: the jobs are met if their energies fit. -/
theorem met_slot {js : List GJob} {c : Int} (hj : ∀ i, i < js.length → (jAt js i).frm = 0 ∧ (jAt js i).till = 1 ∧ 0 ≤ (jAt js i).energy ∧ (jAt js i).energy ≤ (jAt js i).rate) : Met js [c] ↔ S js.length (fun i => (jAt js i).energy) ≤ c := by
  constructor
  · rintro ⟨P, h1, h2, h3, h4, h5⟩
    have := h5 0 (by simp)
    have e : S js.length (fun i => P i 0) = S js.length (fun i => (jAt js i).energy) := S_congr (fun i hi => by
      have := h4 i hi
      simpa [S] using this)
    rw [e] at this
    simpa [fAt] using this
  · intro h
    refine ⟨fun i _ => (jAt js i).energy, ⟨fun i t hi ht => (hj i hi).2.2.1, fun i t hi ht => (hj i hi).2.2.2, fun i t hi ht hn => ?_, fun i hi => by simp [S], fun t ht => ?_⟩⟩
    · exfalso
      apply hn
      have := hj i hi
      simp at ht
      subst ht
      unfold inJ
      simp [this.1, this.2.1]
    · simp at ht
      subst ht
      simpa [fAt] using h
def hr1 : List GJob := [⟨0, 1, 4, 10, 1⟩, ⟨0, 1, 5, 10, 1⟩]
def hr2 : List GJob := [⟨0, 1, 6, 10, 2⟩, ⟨0, 1, 5, 10, 1⟩, ⟨0, 1, 4, 10, 3⟩]
def hr3 : List GJob := [⟨0, 1, 11, 20, 1⟩, ⟨0, 1, 10, 10, 9⟩]
theorem hr_ord1 : IsOrd hr1 [0, 1] := ⟨fun x => by
  simp [hr1]
  omega, by
  simp only [List.pairwise_cons, List.mem_cons, List.not_mem_nil, or_false, forall_eq, false_implies, implies_true, and_true, List.Pairwise.nil, before]
  decide⟩
theorem hr_ord2 : IsOrd hr2 [1, 0, 2] := ⟨fun x => by
  simp [hr2]
  omega, by
  simp only [List.pairwise_cons, List.mem_cons, List.not_mem_nil, or_false, forall_eq_or_imp, forall_eq, false_implies, implies_true, and_true, List.Pairwise.nil, before]
  decide⟩
theorem hr_ord3 : IsOrd hr3 [0, 1] := ⟨fun x => by
  simp [hr3]
  omega, by
  simp only [List.pairwise_cons, List.mem_cons, List.not_mem_nil, or_false, forall_eq, false_implies, implies_true, and_true, List.Pairwise.nil, before]
  decide⟩
theorem hr_kept1 : ∀ ord, IsOrd hr1 ord → keptTo hr1 [10] ord ord.length = [0, 1] := by
  intro ord h
  obtain rfl := order_unique h hr_ord1
  show keptTo hr1 [10] [0, 1] 2 = [0, 1]
  rw [keptTo_succ (k := 1) (i := 1) rfl, keptTo_succ (k := 0) (i := 0) rfl, keptTo_zero, stepK_yes (kept := []) (i := 0) ((met_slot (by decide)).2 (by decide)), stepK_yes ((met_slot (by decide)).2 (by decide))]
  rfl
theorem hr_kept2 : ∀ ord, IsOrd hr2 ord → keptTo hr2 [10] ord ord.length = [1, 2] := by
  intro ord h
  obtain rfl := order_unique h hr_ord2
  show keptTo hr2 [10] [1, 0, 2] 3 = [1, 2]
  rw [keptTo_succ (k := 2) (i := 2) rfl, keptTo_succ (k := 1) (i := 0) rfl, keptTo_succ (k := 0) (i := 1) rfl, keptTo_zero, stepK_yes (kept := []) (i := 1) ((met_slot (by decide)).2 (by decide)), stepK_no (i := 0) (fun hm => absurd ((met_slot (by decide)).1 hm) (by decide)), stepK_yes ((met_slot (by decide)).2 (by decide))]
  rfl
theorem hr_kept3 : ∀ ord, IsOrd hr3 ord → keptTo hr3 [10] ord ord.length = [1] := by
  intro ord h
  obtain rfl := order_unique h hr_ord3
  show keptTo hr3 [10] [0, 1] 2 = [1]
  rw [keptTo_succ (k := 1) (i := 1) rfl, keptTo_succ (k := 0) (i := 0) rfl, keptTo_zero, stepK_no (kept := []) (i := 0) (fun hm => absurd ((met_slot (by decide)).1 hm) (by decide)), stepK_yes ((met_slot (by decide)).2 (by decide))]
  rfl
theorem hr_ok1 : okP hr1 [10] = true := by decide
theorem hr_ok2 : okP hr2 [10] = true := by decide
theorem hr_ok3 : okP hr3 [10] = true := by decide
end Go.Proofs.Ytgfcnkfmgpakkaa
/-
Plain law: the jobs from some place of the order on left out; the same ones of the others are kept. No program in sight.
-/
namespace Go.Proofs.Ytgfcnkfmgpakkaa
set_option linter.unusedVariables false
set_option linter.unusedSimpArgs false
/-- The numbers below k that are in a list, in increasing order. -/
def upTo (l : List Int) : Nat → List Int
  | 0 => []
  | k + 1 => upTo l k ++ (if inL l k = true then [(k : Int)] else [])
theorem mem_upTo {l : List Int} {k : Nat} {x : Int} : x ∈ upTo l k ↔ 0 ≤ x ∧ x < k ∧ x ∈ l := by
  induction k with
  | zero => simp [upTo]; omega
  | succ k ih =>
    unfold upTo
    rw [List.mem_append, ih]
    by_cases h : inL l k = true
    · have h2 : (k : Int) ∈ l := by unfold inL at h; simpa using h
      rw [if_pos h, List.mem_singleton]
      constructor
      · rintro (⟨a, b, c⟩ | rfl)
        · exact ⟨a, by omega, c⟩
        · exact ⟨by omega, by omega, h2⟩
      · rintro ⟨a, b, c⟩
        by_cases e : x = k
        · exact .inr e
        · exact .inl ⟨a, by omega, c⟩
    · have h2 : ¬ (k : Int) ∈ l := fun m => h (by unfold inL; simpa using m)
      rw [if_neg h]
      constructor
      · rintro (⟨a, b, c⟩ | h)
        · exact ⟨a, by omega, c⟩
        · cases h
      · rintro ⟨a, b, c⟩
        by_cases e : x = k
        · subst e; exact absurd c h2
        · exact .inl ⟨a, by omega, c⟩
theorem upTo_lt (l : List Int) (k : Nat) : (upTo l k).Pairwise (· < ·) := by
  induction k with
  | zero => simp [upTo]
  | succ k ih =>
    unfold upTo
    rw [List.pairwise_append]
    refine ⟨ih, by split <;> simp, fun a ha b hb => ?_⟩
    have h1 := mem_upTo.1 ha
    split at hb
    · simp at hb; omega
    · cases hb
theorem upTo_len (l : List Int) (k : Nat) : (upTo l k).length ≤ k := by
  induction k with
  | zero => simp [upTo]
  | succ k ih =>
    unfold upTo
    rw [List.length_append]
    split <;> simp <;> omega
theorem lt_nodup {l : List Int} (h : l.Pairwise (· < ·)) : l.Nodup := h.imp (fun {a b} hab e => by omega)
theorem lt_fAt {l : List Int} (h : l.Pairwise (· < ·)) {i k : Nat} (hik : i < k) (hk : k < l.length) : fAt l i < fAt l k := by
  have := List.pairwise_iff_getElem.1 h i k (by omega) hk hik
  simpa [fAt, List.getElem?_eq_getElem hk, List.getElem?_eq_getElem (show i < l.length by omega)] using this
theorem someJ_some (js : List GJob) (f : List Int) {l : List Int} (hv : ValidL f.length l) : someJ (someJ js f) l = someJ js (l.map (fun k => fAt f k.toNat)) := by
  unfold someJ
  rw [List.map_map]
  refine List.map_congr_left fun i hi => ?_
  have := hv i hi
  exact someJ_at js (l := f) (k := i.toNat) (by omega)
theorem kept_early {js : List GJob} {sup ord : List Int} (hn : ord.Nodup) {n : Nat} {x : Int} (hx : x ∈ ord.take n) : ∀ {m : Nat}, n ≤ m → m ≤ ord.length → x ∈ keptTo js sup ord m → x ∈ keptTo js sup ord n
  | 0, h1, _, h => by have : n = 0 := by omega
                      subst this; exact h
  | m + 1, h1, h2, h => by
    by_cases c : n = m + 1
    · subst c; exact h
    · have hi : ord[m]? = some ord[m] := List.getElem?_eq_getElem (by omega)
      refine kept_early hn hx (m := m) (by omega) (by omega) ?_
      rw [keptTo_succ hi] at h
      by_cases d : Met (someJ js (keptTo js sup ord m ++ [ord[m]])) sup
      · rw [stepK_yes d] at h
        rcases List.mem_append.1 h with e | e
        · exact e
        · simp at e
          refine absurd ?_ (not_take hn hi)
          rw [← e]
          exact (List.take_prefix_take_left (show n ≤ m by omega)).subset hx
      · rwa [stepK_no d] at h
theorem order_lower {js : List GJob} {ord f ord' : List Int} {n : Nat} (ho : IsOrd js ord) (hf : f = upTo (ord.take n) js.length) (ho' : IsOrd (someJ js f) ord') : ord'.map (fun k => fAt f k.toNat) = ord.take n := by
  have hlt : f.Pairwise (· < ·) := by rw [hf]; exact upTo_lt _ _
  have hl := someJ_len js f
  refine sorted_unique (R := before js) (fun _ _ h k => before_asymm h k) ?_ (ho.sorted.sublist (List.take_sublist _ _)) (fun x => ?_)
  · rw [List.pairwise_map]
    refine ho'.sorted.imp_of_mem (fun {a b} ha hb hab => ?_)
    have va := ho'.valid a ha
    have vb := ho'.valid b hb
    rw [hl] at va vb
    unfold before at hab ⊢
    rw [someJ_at js (l := f) (k := a.toNat) (by omega), someJ_at js (l := f) (k := b.toNat) (by omega)] at hab
    rcases hab with h | ⟨h, h2⟩
    · exact .inl h
    · exact .inr ⟨h, lt_fAt hlt (by omega) (by omega)⟩
  · rw [List.mem_map]
    constructor
    · rintro ⟨k, hk, e⟩
      have vk := ho'.valid k hk
      rw [hl] at vk
      have hm : fAt f k.toNat ∈ f := fAt_mem (by omega)
      rw [e] at hm
      have hm2 : x ∈ upTo (ord.take n) js.length := by rw [← hf]; exact hm
      exact (mem_upTo.1 hm2).2.2
    · intro hx
      have hv := ho.valid x (List.mem_of_mem_take hx)
      have hm : x ∈ f := by rw [hf]; exact mem_upTo.2 ⟨hv.1, by omega, hx⟩
      obtain ⟨k, hk, e⟩ := mem_fAt hm
      exact ⟨(k : Int), (ho'.mem _).2 ⟨by omega, by rw [hl]; omega⟩, by simpa using e⟩
theorem kept_lower {js : List GJob} {sup ord f ord' : List Int} {n : Nat} (hok : okP js sup = true) (ho : IsOrd js ord) (hn : n ≤ ord.length) (hf : f = upTo (ord.take n) js.length) (ho' : IsOrd (someJ js f) ord') {k : Nat} (hk : k < f.length) :
    (fAt f k ∈ keptTo js sup ord ord.length ↔ (k : Int) ∈ keptTo (someJ js f) sup ord' ord'.length) := by
  have hmap := order_lower ho hf ho'
  have hlen : ord'.length = n := by
    have := congrArg List.length hmap
    rw [List.length_map, List.length_take] at this
    omega
  have hlt : f.Pairwise (· < ·) := by rw [hf]; exact upTo_lt _ _
  have hl := someJ_len js f
  have hvf : ValidL js.length f := fun x hx => by
    have hx2 : x ∈ upTo (ord.take n) js.length := by rw [← hf]; exact hx
    have := mem_upTo.1 hx2
    omega
  have hfl : f.length ≤ js.length := by rw [hf]; exact upTo_len _ _
  have h12 := (okP_iff.1 hok).1.1
  have hok' : okP (someJ js f) sup = true := okP_some hok hvf (by omega)
  have main : ∀ m, m ≤ n → (keptTo (someJ js f) sup ord' m).map (fun k => fAt f k.toNat) = keptTo js sup ord m := by
    intro m
    induction m with
    | zero => intro _; simp [keptTo_zero]
    | succ m ih =>
      intro hm
      have ih := ih (by omega)
      have hi : ord'[m]? = some ord'[m] := List.getElem?_eq_getElem (by omega)
      have hi2 : ord[m]? = some (fAt f (ord'[m]).toNat) := by
        have e : (ord.take n)[m]? = some (fAt f (ord'[m]).toNat) := by rw [← hmap, List.getElem?_map, hi]; rfl
        rw [List.getElem?_take] at e
        split at e
        · exact e
        · cases e
      have K := kept_all hok' ho'.nodup ho'.valid m (by omega)
      have hv : ValidL f.length (keptTo (someJ js f) sup ord' m ++ [ord'[m]]) := by
        rw [← hl]
        have v := ho'.valid ord'[m] (List.getElem_mem _)
        exact (kept_valid hok' ho'.nodup ho'.valid (by omega)).snoc v.1 v.2
      have es := someJ_some js f hv
      rw [List.map_append, ih] at es
      simp only [List.map_cons, List.map_nil] at es
      rw [keptTo_succ hi, keptTo_succ hi2]
      by_cases d : Met (someJ js (keptTo js sup ord m ++ [fAt f (ord'[m]).toNat])) sup
      · rw [stepK_yes d, stepK_yes (by rw [es]; exact d), List.map_append, ih]
        rfl
      · rw [stepK_no d, stepK_no (by rw [es]; exact d), ih]
  have hxt : fAt f k ∈ ord.take n := by
    have hm : fAt f k ∈ f := fAt_mem hk
    have hx2 : fAt f k ∈ upTo (ord.take n) js.length := by rw [← hf]; exact hm
    exact (mem_upTo.1 hx2).2.2
  have m1 := main n (Nat.le_refl _)
  rw [← hlen] at m1
  constructor
  · intro h
    have h1 := kept_early ho.nodup hxt hn (Nat.le_refl _) h
    rw [← hlen, ← m1, List.mem_map] at h1
    obtain ⟨i, hi, e⟩ := h1
    have vi := kept_valid hok' ho'.nodup ho'.valid (Nat.le_refl _) i hi
    rw [hl] at vi
    have := nodup_fAt (lt_nodup hlt) (i := i.toNat) (k := k) (by omega) hk e
    have e2 : i = (k : Int) := by omega
    rw [← e2]; exact hi
  · intro h
    refine kept_mem hok ho (Nat.le_refl _) (k := ord'.length) ?_ (by omega)
    rw [← m1, List.mem_map]
    exact ⟨(k : Int), h, by simp⟩
end Go.Proofs.Ytgfcnkfmgpakkaa
