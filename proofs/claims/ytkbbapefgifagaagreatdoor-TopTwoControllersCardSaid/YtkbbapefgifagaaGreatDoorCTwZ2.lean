/-
Two controllers: a controller in memory.
-/
import Derived.Test.YtkbbapefgifagaaGreatDoorGTwZ
import Derived.Test.YtkbbapefgifagaaGreatDoorCOwnW
namespace Go.Proofs.YtkbbapefgifagaaGreatDoor
open Go.RowKit
set_option linter.unusedVariables false
set_option linter.unusedSimpArgs false
/-- Where a controller's lists lie. -/
structure HfAd where
  aO : Option Addr
  nO : Nat
  cO : Nat
  aI : Option Addr
  nI : Nat
  cI : Nat
  a1 : Option Addr
  c1 : Nat
  a2 : Option Addr
  c2 : Nat
  a3 : Option Addr
  c3 : Nat
  bC : Nat
  oC : Nat
  c4 : Nat
  a5 : Option Addr
  c5 : Nat
  aL : Option Addr
  nL : Nat
  cL : Nat
  bR : Nat
  oR : Nat
  cR : Nat
  bD : Nat
  oD : Nat
  cD : Nat
  vS : Value
  vK : Value
  cap : Int
/-- The cells of a controller. -/
def hfL (n : Nat) (x : Hf) (A : HfAd) : List Value :=
  [.int .i64 x.sh.hav, .int .i64 x.sh.nxt, .slice A.aO A.nO A.cO, .slice A.aI A.nI A.cI, .slice A.a1 1 A.c1, .slice A.a2 1 A.c2, .slice A.a3 0 A.c3, .slice (some ⟨A.bC, A.oC, none⟩) n A.c4, .slice A.a5 0 A.c5, .slice A.aL A.nL A.cL, .slice (some ⟨A.bR, A.oR, none⟩) n A.cR, .slice (some ⟨A.bD, A.oD, none⟩) n A.cD, .int .i64 x.num, A.vS, A.vK]
def hfF (l : List Value) : Nat → Value := fun i => l[i]?.getD undef
theorem hfF_set {l : List Value} {i : Nat} (h : i < l.length) (u : Value) (j : Nat) : (if j = i then u else hfF l j) = hfF (l.set i u) j := by
  unfold hfF
  by_cases e : j = i
  · subst e; rw [if_pos rfl, List.getElem?_set_self h]; rfl
  · rw [if_neg e, List.getElem?_set_ne (fun h => e h.symm)]
theorem Own.hfSet {W : World} {H : Nat} {t : TypeId} {n : Nat} {l : List Value} (h : Own W H t n (hfF l)) {i : Nat} (hi : i < l.length) (u : Value) : Own (W.setCell ⟨H, i, none⟩ u) H t n (hfF (l.set i u)) :=
  (h.set i u).congr (fun j _ => hfF_set hi u j)
/-- A list lies apart from some blocks. -/
def Apt (N : Nat → Prop) (a : Option Addr) (n : Nat) : Prop := ∀ p, a = some p → 0 < n → ¬ N p.block
/-- A controller's lists: those that are only read lie apart from N. -/
structure HfX (B : Nat) (M N : Nat → Prop) (H n : Nat) (x : Hf) (A : HfAd) (W : World) : Prop where
  sh : RdShr W A.aO A.nO A.aI A.nI x.sh
  st : RdSite W A.a1 A.a2 A.a3 (some ⟨A.bC, A.oC, none⟩) A.a5 1 1 0 n 0 (twS n A.cap)
  cp : 1 ≤ A.cap ∧ A.cap ≤ 1000
  ls : Rd 5 encLse W A.aL x.ls
  ll : x.ls.length = A.nL
  rm : RmC A.bR A.oR n x.rs W
  dm : DmOk A.bD A.oD n x.wa W
  pO : Apt N A.aO x.sh.out.length
  pI : Apt N A.aI x.sh.inn.length
  p1 : Apt N A.a1 1
  p2 : Apt N A.a2 1
  pC : ¬ N A.bC
  pL : Apt N A.aL x.ls.length
  pR : ¬ N A.bR
  pD : ¬ N A.bD
  oS : OwnR 47 2 encTrn W B A.vS x.sent
  oK : OwnR 3 1 encI W B A.vK x.acks
  mH : M H
  mS : ∀ k, A.vS.ownBlock = some k → M k
  mK : ∀ k, A.vK.ownBlock = some k → M k
  sH : A.vS.ownBlock ≠ some H
  kH : A.vK.ownBlock ≠ some H
  sK : ∀ k, A.vS.ownBlock = some k → A.vK.ownBlock ≠ some k
theorem Rd.modA {α : Type} {sz : Nat} {enc : α → List Value} {w w' : World} {A : Option Addr} {xs : List α} {P N : Nat → Prop} (h : Rd sz enc w A xs) (hm : Mod P w w') (ha : Apt N A xs.length) (hP : ∀ k, P k → N k) : Rd sz enc w' A xs :=
  h.mod hm (fun a e h0 hp => ha a e h0 (hP _ hp))
/-- What changes H, or blocks of others, leaves a controller's lists as they are. -/
theorem HfX.mod {B : Nat} {M N P : Nat → Prop} {H n : Nat} {x : Hf} {A : HfAd} {W W' : World} (h : HfX B M N H n x A W) (hn : 0 < n) (hm : Mod P W W') (hP : ∀ k, P k → N k) (hS : ∀ k, P k → A.vS.ownBlock ≠ some k) (hK : ∀ k, P k → A.vK.ownBlock ≠ some k) : HfX B M N H n x A W' := by
  have hC : ∀ i, i < n → ∀ c, W.cell? c = W.cell? c := fun _ _ _ => rfl
  refine ⟨⟨h.sh.ro.modA hm h.pO hP, h.sh.lo, h.sh.ri.modA hm h.pI hP, h.sh.li⟩, ⟨h.st.r1.modA hm h.p1 hP, h.st.r2.modA hm h.p2 hP, ?_, ?_, ?_, h.st.l1, h.st.l2, h.st.l3, h.st.l4, h.st.l5, h.st.m1, h.st.m2, h.st.m3, h.st.m4, h.st.m5, h.st.nm⟩, h.cp, h.ls.modA hm h.pL hP, h.ll, ?_, ?_, h.pO, h.pI, h.p1, h.p2, h.pC, h.pL, h.pR, h.pD, ?_, ?_, h.mH, h.mS, h.mK, h.sH, h.kH, h.sK⟩
  · exact h.st.r3.mod hm (fun a _ h0 => absurd h0 (by show ¬ 0 < 0; omega))
  · exact h.st.r4.mod hm (fun a e _ hp => by injection e with e; subst e; exact h.pC (hP _ hp))
  · exact h.st.r5.mod hm (fun a _ h0 => absurd h0 (by show ¬ 0 < 0; omega))
  · intro i hi
    obtain ⟨q0, q1, q2⟩ := h.rm i hi
    exact ⟨(hm.cell (zb q0) (fun hp => h.pR (hP _ hp))).trans q0, (hm.cell (zb q1) (fun hp => h.pR (hP _ hp))).trans q1, q2⟩
  · intro i hi
    obtain ⟨q0, q1, q2, q3⟩ := h.dm i hi
    exact ⟨(hm.cell (zb q0) (fun hp => h.pD (hP _ hp))).trans q0, (hm.cell (zb q1) (fun hp => h.pD (hP _ hp))).trans q1, (hm.cell (zb q2) (fun hp => h.pD (hP _ hp))).trans q2, (hm.cell (zb q3) (fun hp => h.pD (hP _ hp))).trans q3⟩
  · exact h.oS.mod hm (fun k hk hp => hS k hp hk)
  · exact h.oK.mod hm (fun k hk hp => hK k hp hk)
theorem HfX.keep {B : Nat} {M N : Nat → Prop} {H n : Nat} {x : Hf} {A : HfAd} {W W' : World} (h : HfX B M N H n x A W) (hn : 0 < n) (hb : Below W.heap.size W W') : HfX B M N H n x A W' := by
  refine h.mod (P := fun _ => False) hn ((Mod.of_below hb).mono (fun k hk h => by omega)) (fun _ h => h.elim) (fun _ h => h.elim) (fun _ h => h.elim)
theorem HfX.hmod {B : Nat} {M N : Nat → Prop} {H n : Nat} {x : Hf} {A : HfAd} {W W' : World} (h : HfX B M N H n x A W) (hn : 0 < n) (hMN : ∀ k, M k → N k) (hm : Mod (fun k => k = H) W W') : HfX B M N H n x A W' :=
  h.mod hn hm (fun k e => by rw [e]; exact hMN _ h.mH) (fun k e => by rw [e]; exact h.sH) (fun k e => by rw [e]; exact h.kH)
theorem apt_new {N : Nat → Prop} {a : Option Addr} {n : Nat} {s : Nat} (hN : ∀ k, N k → k < s) (ha : ∀ p, a = some p → s ≤ p.block) : Apt N a n := fun p e _ hp => by
  have := hN _ hp
  have := ha p e
  omega
theorem rd_ltA {α : Type} {sz : Nat} {enc : α → List Value} {w : World} {A : Option Addr} {xs : List α} (h : Rd sz enc w A xs) (h0 : 0 < xs.length) {p : Addr} (e : A = some p) : p.block < w.heap.size := by
  obtain ⟨b, off, e2, hlt, _⟩ := h h0
  rw [e] at e2
  injection e2 with e2
  rw [e2]; exact hlt
/-- More blocks may be written, if they are new. -/
theorem HfX.more {B : Nat} {M N N' : Nat → Prop} {H n : Nat} {x : Hf} {A : HfAd} {W : World} (h : HfX B M N H n x A W) (hn : 0 < n) (hN : ∀ k, N' k → N k ∨ W.heap.size ≤ k) : HfX B M N' H n x A W := by
  have ap : ∀ {α : Type} {sz : Nat} {enc : α → List Value} {a : Option Addr} {xs : List α}, Rd sz enc W a xs → Apt N a xs.length → Apt N' a xs.length := by
    intro α sz enc a xs hr ha p e h0 hp
    have := rd_ltA hr h0 e
    rcases hN _ hp with h1 | h1
    · exact ha p e h0 h1
    · omega
  have bl : ∀ {b o : Nat} {v : Value}, W.cell? ⟨b, o, none⟩ = some v → ¬ N b → ¬ N' b := by
    intro b o v hc hb hp
    have := zb hc
    rcases hN _ hp with h1 | h1
    · exact hb h1
    · dsimp only at this; omega
  refine ⟨h.sh, h.st, h.cp, h.ls, h.ll, h.rm, h.dm, ap h.sh.ro h.pO, ap h.sh.ri h.pI, ap h.st.r1 h.p1, ap h.st.r2 h.p2, ?_, ap h.ls h.pL, bl (h.rm 0 hn).1 h.pR, bl (h.dm 0 hn).1 h.pD, h.oS, h.oK, h.mH, h.mS, h.mK, h.sH, h.kH, h.sK⟩
  intro hp
  have hlen : 0 < (twS n A.cap).chgs.length := by simp [twS]; exact hn
  have := rd_ltA h.st.r4 hlen rfl
  rcases hN _ hp with h1 | h1
  · exact h.pC h1
  · dsimp only at this; omega
/-- Another set of own blocks, with the same lists. -/
theorem HfX.mine {B : Nat} {M M' N : Nat → Prop} {H n : Nat} {x : Hf} {A : HfAd} {W : World} (h : HfX B M N H n x A W) (hM : ∀ k, M k → M' k) : HfX B M' N H n x A W :=
  ⟨h.sh, h.st, h.cp, h.ls, h.ll, h.rm, h.dm, h.pO, h.pI, h.p1, h.p2, h.pC, h.pL, h.pR, h.pD, h.oS, h.oK, hM _ h.mH, fun k hk => hM _ (h.mS k hk), fun k hk => hM _ (h.mK k hk), h.sH, h.kH, h.sK⟩
/-- Another share. -/
theorem HfX.share {B : Nat} {M N : Nat → Prop} {H n : Nat} {x : Hf} {A : HfAd} {W : World} (h : HfX B M N H n x A W) {s : Shr} {aO : Option Addr} {nO cO : Nat} {aI : Option Addr} {nI cI : Nat} (hr : RdShr W aO nO aI nI s) (hO : Apt N aO s.out.length) (hI : Apt N aI s.inn.length) : HfX B M N H n { x with sh := s } { A with aO := aO, nO := nO, cO := cO, aI := aI, nI := nI, cI := cI } W :=
  ⟨hr, h.st, h.cp, h.ls, h.ll, h.rm, h.dm, hO, hI, h.p1, h.p2, h.pC, h.pL, h.pR, h.pD, h.oS, h.oK, h.mH, h.mS, h.mK, h.sH, h.kH, h.sK⟩
/-- Other leases, and another number. -/
theorem HfX.leases {B : Nat} {M N : Nat → Prop} {H n : Nat} {x : Hf} {A : HfAd} {W : World} (h : HfX B M N H n x A W) {l : List Lse} {aL : Option Addr} {nL cL : Nat} (num : Int) (hr : Rd 5 encLse W aL l) (hl : l.length = nL) (hp : Apt N aL l.length) : HfX B M N H n { x with ls := l, num := num } { A with aL := aL, nL := nL, cL := cL } W :=
  ⟨h.sh, h.st, h.cp, hr, hl, h.rm, h.dm, h.pO, h.pI, h.p1, h.p2, h.pC, hp, h.pR, h.pD, h.oS, h.oK, h.mH, h.mS, h.mK, h.sH, h.kH, h.sK⟩
/-- Other ramps. -/
theorem HfX.ramps {B : Nat} {M N : Nat → Prop} {H n : Nat} {x : Hf} {A : HfAd} {W : World} (h : HfX B M N H n x A W) {rs : Nat → Rmp} {bR oR cR : Nat} (hr : RmC bR oR n rs W) (hp : ¬ N bR) : HfX B M N H n { x with rs := rs } { A with bR := bR, oR := oR, cR := cR } W :=
  ⟨h.sh, h.st, h.cp, h.ls, h.ll, hr, h.dm, h.pO, h.pI, h.p1, h.p2, h.pC, h.pL, hp, h.pD, h.oS, h.oK, h.mH, h.mS, h.mK, h.sH, h.kH, h.sK⟩
/-- Other demands. -/
theorem HfX.dems {B : Nat} {M N : Nat → Prop} {H n : Nat} {x : Hf} {A : HfAd} {W : World} (h : HfX B M N H n x A W) {wa : Nat → Bool} {bD oD cD : Nat} (hr : DmOk bD oD n wa W) (hp : ¬ N bD) : HfX B M N H n { x with wa := wa } { A with bD := bD, oD := oD, cD := cD } W :=
  ⟨h.sh, h.st, h.cp, h.ls, h.ll, h.rm, hr, h.pO, h.pI, h.p1, h.p2, h.pC, h.pL, h.pR, hp, h.oS, h.oK, h.mH, h.mS, h.mK, h.sH, h.kH, h.sK⟩
/-- Another limit. -/
theorem HfX.limit {B : Nat} {M N : Nat → Prop} {H n : Nat} {x : Hf} {A : HfAd} {W : World} (h : HfX B M N H n x A W) {a1 : Option Addr} {c1 : Nat} {cap : Int} (hr : Rd 11 encCon W a1 [twC cap]) (hc : 1 ≤ cap ∧ cap ≤ 1000) (hp : Apt N a1 1) : HfX B M N H n x { A with a1 := a1, c1 := c1, cap := cap } W :=
  ⟨h.sh, ⟨hr, h.st.r2, h.st.r3, h.st.r4, h.st.r5, rfl, h.st.l2, h.st.l3, h.st.l4, h.st.l5, h.st.m1, h.st.m2, h.st.m3, h.st.m4, h.st.m5, h.st.nm⟩, hc, h.ls, h.ll, h.rm, h.dm, h.pO, h.pI, hp, h.p2, h.pC, h.pL, h.pR, h.pD, h.oS, h.oK, h.mH, h.mS, h.mK, h.sH, h.kH, h.sK⟩
/-- The transfers that were sent, one more. -/
theorem app_trn {w : World} {base : Nat} {v : Value} {xs : List Trn} (t : Trn) (h : OwnR 47 2 encTrn w base v xs) (hb : base ≤ w.heap.size) (hl : xs.length ≤ 1000) :
    Appends Tryz.prog (w.alloc (.cells #[.int .i64 t.num, .int .i64 t.amp] 47)) 29 29 v (.slice (some ⟨w.heap.size, 0, none⟩) 1 1) ∧
    ∃ v' w1, appV Tryz.prog (w.alloc (.cells #[.int .i64 t.num, .int .i64 t.amp] 47)) 29 29 v (.slice (some ⟨w.heap.size, 0, none⟩) 1 1) = v' ∧ appW Tryz.prog (w.alloc (.cells #[.int .i64 t.num, .int .i64 t.amp] 47)) 29 29 v (.slice (some ⟨w.heap.size, 0, none⟩) 1 1) = w1 ∧ Hid (OwnR 47 2 encTrn w1 base v' (xs ++ [t]) ∧ Mod (fun k => v.ownBlock = some k) w w1 ∧ (v'.ownBlock = v.ownBlock ∨ v'.ownBlock = some (w.heap.size + 1))) := by
  have rd : Rd 2 encTrn (w.alloc (.cells #[.int .i64 t.num, .int .i64 t.amp] 47)) (some ⟨w.heap.size, 0, none⟩) [t] :=
    (Own.new w 47 #[.int .i64 t.num, .int .i64 t.amp] undef).rd (by simp) encTrn_len (fun k y hy j u hu => by
      have hk : k = 0 := by have := (List.getElem?_eq_some_iff.1 hy).1; simp at this; exact this
      subst hk
      simp at hy
      subst hy
      show ([Value.int .i64 t.num, .int .i64 t.amp].toArray)[0 * 2 + j]?.getD undef = u
      rw [Nat.zero_mul, Nat.zero_add, List.getElem?_toArray]
      have hu' : [Value.int .i64 t.num, .int .i64 t.amp][j]? = some u := hu
      rw [hu']; rfl)
  obtain ⟨h1, v', w1, e1, e2, e3, e4, e5⟩ := app_rows (P := Tryz.prog) (ty := 29) (c := 1) (m := 1) appInfoTrn Tryz.underlying29 rfl (by omega) encTrn_len encTrn_one (h.alloc _) rd rfl ⟨_, rfl⟩ (by simp; omega) (by unfold maxLen; omega) (by omega)
  refine ⟨h1, v', w1, e1, e2, Lib.hid ⟨e3, ((Mod.refl _ w).alloc _).trans e4, ?_⟩⟩
  simpa using e5
/-- The acknowledgements, one more. -/
theorem app_ack {w : World} {base : Nat} {v : Value} {xs : List Int} (t : Int) (h : OwnR 3 1 encI w base v xs) (hb : base ≤ w.heap.size) (hl : xs.length ≤ 1000) :
    Appends Tryz.prog (w.alloc (.cells #[.int .i64 t] 3)) 30 30 v (.slice (some ⟨w.heap.size, 0, none⟩) 1 1) ∧
    ∃ v' w1, appV Tryz.prog (w.alloc (.cells #[.int .i64 t] 3)) 30 30 v (.slice (some ⟨w.heap.size, 0, none⟩) 1 1) = v' ∧ appW Tryz.prog (w.alloc (.cells #[.int .i64 t] 3)) 30 30 v (.slice (some ⟨w.heap.size, 0, none⟩) 1 1) = w1 ∧ Hid (OwnR 3 1 encI w1 base v' (xs ++ [t]) ∧ Mod (fun k => v.ownBlock = some k) w w1 ∧ (v'.ownBlock = v.ownBlock ∨ v'.ownBlock = some (w.heap.size + 1))) := by
  have rd : Rd 1 encI (w.alloc (.cells #[.int .i64 t] 3)) (some ⟨w.heap.size, 0, none⟩) [t] :=
    (Own.new w 3 #[.int .i64 t] undef).rd (by simp) encI_len1 (fun k y hy j u hu => by
      have hk : k = 0 := by have := (List.getElem?_eq_some_iff.1 hy).1; simp at this; exact this
      subst hk
      simp at hy
      subst hy
      have hj : j = 0 := by have := (List.getElem?_eq_some_iff.1 hu).1; simp [encI] at this; exact this
      subst hj
      have hu' : some (Value.int .i64 t) = some u := hu
      injection hu')
  obtain ⟨h1, v', w1, e1, e2, e3, e4, e5⟩ := app_rows (P := Tryz.prog) (ty := 30) (c := 1) (m := 1) appInfoNum Tryz.underlying30 rfl (by omega) encI_len1 encI_one (h.alloc _) rd rfl ⟨_, rfl⟩ (by simp; omega) (by unfold maxLen; omega) (by omega)
  refine ⟨h1, v', w1, e1, e2, Lib.hid ⟨e3, ((Mod.refl _ w).alloc _).trans e4, ?_⟩⟩
  simpa using e5
end Go.Proofs.YtkbbapefgifagaaGreatDoor
