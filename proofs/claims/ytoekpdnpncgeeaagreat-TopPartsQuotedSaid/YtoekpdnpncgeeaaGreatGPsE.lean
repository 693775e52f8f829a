/-
Several texts in one: PsE, PsF, PsV, PsW.
-/
import Derived.Test.YtoekpdnpncgeeaaGreatGPsA
/-
Trees of nodes: leaves, nodes with kids, and what the parser makes of tokens.
-/
namespace Go.Proofs.YtoekpdnpncgeeaaGreat
open Go.RowKit
set_option linter.unusedVariables false
set_option linter.unusedSimpArgs false
structure Lf where
  kind : Int
  name : ByteArray
  n : Int
  pos : Nat
structure Nd (X : Type) where
  kind : Int
  name : ByteArray
  n : Int
  pos : Nat
  kids : List X
def okLf : World → Nat → Nat → NH → Lf → Prop := fun _ _ _ h x => h.kind = x.kind ∧ h.name = x.name ∧ h.n = x.n ∧ h.pos = x.pos ∧ h.len = 0
theorem okLf_firm : Firm okLf := ⟨fun h _ => h⟩
/-- A list of nodes in the blocks from lo to hi. -/
structure GrT {X : Type} (ok : World → Nat → Nat → NH → X → Prop) (W : World) (lo hi : Nat) (v : Value) (hs : List NH) (xs : List X) : Prop where
  own : OwnR 56 5 encNH W lo v hs
  top : ∀ b, v.ownBlock = some b → b < hi
  len : hs.length = xs.length
  mem : ∀ (k : Nat) (h : NH) (x : X), hs[k]? = some h → xs[k]? = some x → ∃ lo' hi', lo ≤ lo' ∧ lo' ≤ hi' ∧ hi' ≤ hi ∧ ok W lo' hi' h x
variable {X : Type} {ok : World → Nat → Nat → NH → X → Prop}
theorem GrL.tree {W : World} {base : Nat} {v : Value} {hs : List NH} {xs : List X} (h : GrL ok W base v hs xs) : GrT ok W base W.heap.size v hs xs :=
  ⟨h.own, fun b hb => (World.ownsRow.lt h.own b hb).2, h.len, fun k x y hx hy => by
    obtain ⟨lo, hi, h1, h2, h3, h4, h5⟩ := h.mem k x y hx hy
    exact ⟨lo, hi, h1, h2, h3, h5⟩⟩
theorem GrT.calm (hf : Firm ok) {W W' : World} {lo hi : Nat} {v : Value} {hs : List NH} {xs : List X} (h : GrT ok W lo hi v hs xs) (hc : Calm lo hi W W') : GrT ok W' lo hi v hs xs :=
  ⟨h.own.mod hc (fun k hk => by have := World.ownsRow.lt h.own k hk; have := h.top k hk; omega), h.top, h.len, fun k x y hx hy => by
    obtain ⟨lo', hi', h1, h2, h3, h5⟩ := h.mem k x y hx hy
    exact ⟨lo', hi', h1, h2, h3, hf.calm h5 (hc.mono (fun j _ a b => a ⟨by omega, by omega⟩))⟩⟩
def okNd {X : Type} (ok : World → Nat → Nat → NH → X → Prop) : World → Nat → Nat → NH → Nd X → Prop := fun W lo hi h x => h.kind = x.kind ∧ h.name = x.name ∧ h.n = x.n ∧ h.pos = x.pos ∧ ∃ hs, GrT ok W lo hi (.slice h.a h.len h.c) hs x.kids
theorem okNd_firm (hf : Firm ok) : Firm (okNd ok) := ⟨fun h hc => ⟨h.1, h.2.1, h.2.2.1, h.2.2.2.1, by obtain ⟨hs, k⟩ := h.2.2.2.2; exact ⟨hs, k.calm hf hc⟩⟩⟩
theorem GrT.rd {W : World} {lo hi : Nat} {a : Option Addr} {n c : Nat} {hs : List NH} {xs : List X} (h : GrT ok W lo hi (.slice a n c) hs xs) : hs.length = n ∧ Rd 5 encNH W a hs := by
  obtain ⟨A', c', e', r'⟩ := h.own.rd encNH_len
  injection e' with e1 e2 e3
  exact ⟨e2.symm, by rw [e1]; exact r'⟩
/-- Values of attributes. -/
def isVal (isN : ByteArray → Bool) (t : Tok) : Bool := t.kind == 2 || (t.kind == 1 && isN t.text)
def lfOf (t : Tok) : Lf := if t.kind == 2 then ⟨6, ⟨#[]⟩, t.n, t.pos⟩ else ⟨5, t.text, 0, t.pos⟩
def valsT (isN : ByteArray → Bool) : List Tok → List Tok
  | [] => []
  | t :: r => if isVal isN t then t :: valsT isN r else []
theorem valsT_le (isN : ByteArray → Bool) : ∀ l : List Tok, (valsT isN l).length ≤ l.length
  | [] => Nat.le_refl _
  | t :: r => by
    unfold valsT
    split
    · have := valsT_le isN r; simp; omega
    · simp
end Go.Proofs.YtoekpdnpncgeeaaGreat
/-
What the parser makes of tokens (plain; sources without errors).
-/
namespace Go.Proofs.YtoekpdnpncgeeaaGreat
open Go.RowKit
set_option linter.unusedVariables false
set_option linter.unusedSimpArgs false
def inD (l : List (List UInt8)) (s : ByteArray) : Bool := l.contains s.toList
theorem inD_eq (l : List (List UInt8)) (s : ByteArray) : inB l s = inD l s := by
  symm
  apply inB_of
  unfold inD
  rw [List.contains_iff_mem]
def nkD (s : ByteArray) : Bool := !inD keyL s
def nwD (s : ByteArray) : Bool := nkD s || inD wordL s
def kindD (s : ByteArray) : Int := if s.toList == [102, 101, 101, 100, 101, 114] then 1 else if s.toList == [99, 97, 98, 108, 101] then 2 else if s.toList == [111, 119, 110, 101, 114] then 3 else if s.toList == [99, 111, 110, 116, 114, 97, 99, 116] then 4 else if s.toList == [99, 104, 97, 114, 103, 101, 114] then 5 else if s.toList == [98, 97, 121] then 6 else if s.toList == [116, 97, 114, 105, 102, 102] then 7 else 0
def valsP (isN : ByteArray → Bool) (toks : List Tok) : Nat → Nat → List Tok
  | 0, _ => []
  | f + 1, p => match toks[p]? with
    | some t => if isVal isN t then t :: valsP isN toks f (p + 1) else []
    | none => []
def attrN (k : Int) (t : Tok) (vs : List Tok) : Nd Lf := ⟨k, t.text, 0, t.pos, vs.map lfOf⟩
def attrsP (toks : List Tok) : Nat → Nat → List (Nd Lf) × Nat
  | 0, p => ([], p)
  | f + 1, p => match toks[p]? with
    | some t => if t.kind == 1 && inD attrL t.text then
        ((attrN 3 t (valsP nkD toks (toks.length - (p + 1)) (p + 1))) :: (attrsP toks f (p + 1 + (valsP nkD toks (toks.length - (p + 1)) (p + 1)).length)).1, (attrsP toks f (p + 1 + (valsP nkD toks (toks.length - (p + 1)) (p + 1)).length)).2)
      else ([], p)
    | none => ([], p)
/-- The punctuation x stands at p. -/
def punP (toks : List Tok) (x : List UInt8) (p : Nat) : Bool := match toks[p]? with
  | some t => t.kind == 3 && t.text.toList == x
  | none => false
def artP (toks : List Tok) (p : Nat) : Option (Nd Lf × Nat) := match toks[p]? with
  | some t => if t.kind == 1 && inD artL t.text && punP toks [59] (p + 1 + (valsP nwD toks (toks.length - (p + 1)) (p + 1)).length) then
      some (attrN 4 t (valsP nwD toks (toks.length - (p + 1)) (p + 1)), p + 1 + (valsP nwD toks (toks.length - (p + 1)) (p + 1)).length + 1)
    else none
  | none => none
def artsP (toks : List Tok) : Nat → Nat → Option (List (Nd Lf) × Nat)
  | 0, _ => none
  | f + 1, p => if punP toks [125] p then some ([], p + 1) else match artP toks p with
    | some (n, q) => (artsP toks f q).map (fun x => (n :: x.1, x.2))
    | none => none
def itemP (toks : List Tok) (p : Nat) : Option (Nd (Nd Lf) × Nat) := match toks[p]?, toks[p + 1]? with
  | some t, some u => if t.kind == 1 && kindD t.text != 0 && u.kind == 1 && nkD u.text then
      (if kindD t.text == 7 then (if punP toks [123] (attrsP toks (toks.length - (p + 2)) (p + 2)).2 then
          (artsP toks (toks.length - ((attrsP toks (toks.length - (p + 2)) (p + 2)).2 + 1)) ((attrsP toks (toks.length - (p + 2)) (p + 2)).2 + 1)).map (fun x => (⟨2, u.text, kindD t.text, t.pos, (attrsP toks (toks.length - (p + 2)) (p + 2)).1 ++ x.1⟩, x.2))
        else none)
      else if punP toks [59] (attrsP toks (toks.length - (p + 2)) (p + 2)).2 then
        some (⟨2, u.text, kindD t.text, t.pos, (attrsP toks (toks.length - (p + 2)) (p + 2)).1⟩, (attrsP toks (toks.length - (p + 2)) (p + 2)).2 + 1)
      else none)
    else none
  | _, _ => none
def itemsP (toks : List Tok) : Nat → Nat → Option (List (Nd (Nd Lf)))
  | 0, p => if p < toks.length then none else some []
  | f + 1, p => if p < toks.length then (match itemP toks p with
      | some (n, q) => (itemsP toks f q).map (fun x => n :: x)
      | none => none) else some []
theorem valsP_stop (isN : ByteArray → Bool) (toks : List Tok) (f p : Nat) (t : Tok) (h : toks[p]? = some t) (hv : isVal isN t = false) : valsP isN toks f p = [] := by
  cases f with
  | zero => rfl
  | succ f => unfold valsP; rw [h]; simp [hv]
theorem valsP_end (isN : ByteArray → Bool) (toks : List Tok) (f p : Nat) (h : toks.length ≤ p) : valsP isN toks f p = [] := by
  cases f with
  | zero => rfl
  | succ f => unfold valsP; rw [List.getElem?_eq_none h]
theorem valsP_cons (isN : ByteArray → Bool) (toks : List Tok) (f p : Nat) (t : Tok) (h : toks[p]? = some t) (hv : isVal isN t = true) (hf : toks.length - p ≤ f) : ∃ f', f = f' + 1 ∧ toks.length - (p + 1) ≤ f' ∧ valsP isN toks f p = t :: valsP isN toks f' (p + 1) := by
  have hp := (List.getElem?_eq_some_iff.1 h).1
  cases f with
  | zero => omega
  | succ f =>
    refine ⟨f, rfl, by omega, ?_⟩
    conv =>
      lhs
      unfold valsP
      rw [h]
    simp [hv]
theorem valsP_len (isN : ByteArray → Bool) (toks : List Tok) : ∀ (f p : Nat), p ≤ toks.length → p + (valsP isN toks f p).length ≤ toks.length
  | 0, p, h => by simpa [valsP] using h
  | f + 1, p, h => by
    unfold valsP
    cases hx : toks[p]? with
    | none => simpa using h
    | some t =>
      have hp := (List.getElem?_eq_some_iff.1 hx).1
      have := valsP_len isN toks f (p + 1) (by omega)
      simp only
      split
      · simp; omega
      · simpa using h
theorem peek_some {toks : List Tok} {len q : Nat} {t : Tok} (h : peekT toks len q = t) (hk : t.kind ≠ 0) : toks[q]? = some t := by
  unfold peekT at h
  cases hx : toks[q]? with
  | none => rw [hx] at h; subst h; exact absurd rfl hk
  | some u => rw [hx] at h; simp at h; rw [h]
theorem vals_stop {isN : ByteArray → Bool} {toks : List Tok} {len q : Nat} {t : Tok} (h : peekT toks len q = t) (hv : isVal isN t = false) (f : Nat) : valsP isN toks f q = [] := by
  unfold peekT at h
  cases hx : toks[q]? with
  | none => exact valsP_end isN toks f q (by rw [List.getElem?_eq_none_iff] at hx; exact hx)
  | some u => rw [hx] at h; simp at h; subst h; exact valsP_stop isN toks f q u hx hv
end Go.Proofs.YtoekpdnpncgeeaaGreat
/-
The parser: values.
-/
namespace Go.Proofs.YtoekpdnpncgeeaaGreat
open Go.RowKit
set_option linter.unusedVariables false
set_option linter.unusedSimpArgs false
set_option maxRecDepth 100000 in
set_option maxHeartbeats 8000000 in
/-- A node without kids. -/
theorem paNode_leaf (R : Nat) (aT : Option Addr) (nT cT : Nat) (toks : List Tok) (len q : Nat) (t : Tok) (kind : Int) (name : ByteArray) (n : Int) (w : World) (HM : Hid (PaM w R aT nT cT toks len q)) :
    Calls Tryz.prog 31 #[tokV t, .int .i64 kind, .string name, .int .i64 n, .slice none 0 0] w fun e w' => ∃ h : NH, e = .returned (nhV h) ∧ okLf w' w.heap.size w'.heap.size h ⟨kind, name, n, t.pos⟩ ∧ PaM w' R aT nT cT toks len q ∧ Mod (fun j => j = R) w w' := by
  refine (paNode_any (X := Lf) okLf_firm R aT nT cT toks len t kind name n 0 none 0 (fun _ => 93) (fun _ => #[]) (fun _ => #[]) (fun _ => q) (fun _ => []) w HM (Lib.hid (fun i hi => absurd hi (by omega))) (by omega) (Lib.hid (fun i hi => by obtain rfl : i = 0 := (by omega); exact ⟨by simp [kidsF], by simp⟩)) (fun i args W => by go_simp) (Lib.hid (fun i hi => absurd hi (by omega)))).mono ?_
  rintro e w4 ⟨na, nl, nc, nhs, rfl, hg4, hp4, hmo4⟩
  refine ⟨_, rfl, ⟨rfl, rfl, rfl, rfl, ?_⟩, hp4, hmo4⟩
  obtain ⟨A', c', e', _⟩ := hg4.own.rd encNH_len
  injection e' with _ e2 _
  show nl = 0
  rw [e2, hg4.len]
  rfl
set_option maxRecDepth 100000 in
set_option maxHeartbeats 8000000 in
theorem paValues_ok (isN : ByteArray → Bool) (FS : Nat) (R : Nat) (aT : Option Addr) (nT cT : Nat) (toks : List Tok) (len p : Nat) (w : World) (HM : Hid (PaM w R aT nT cT toks len p)) (hp : p ≤ toks.length) (hCF : ∀ (args : Array Value) (W : World), (callFunc FS args).run Tryz.prog W = .ok (.enter FS args) W) (HIS : Hid (∀ s W, Calls Tryz.prog FS #[.string s] W fun e w' => e = .returned (.bool (isN s)) ∧ w' = W)) :
    Calls Tryz.prog 117 #[.pointer (some ⟨R, 0, none⟩), .func (.func FS) #[] #[]] w (KidPost okLf w R aT nT cT toks len (p + (valsP isN toks (toks.length - p) p).length) ((valsP isN toks (toks.length - p) p).map lfOf)) := by
  have HLN : Hid (toks.length = nT ∧ nT ≤ 2000) := Lib.hid ⟨HM.out.ln.1, HM.out.ln.2.1⟩
  have HRL : Hid (R < w.heap.size) := Lib.hid HM.out.ow.lt
  have HG : Hid (GrL okLf w w.heap.size (.slice none 0 0) [] (([] : List Tok).map lfOf)) := Lib.hid (GrL.nil _ _)
  have HMo : Hid (Mod (fun j => j = R) w w) := Lib.hid (Mod.refl _ _)
  have HP := Lib.hid hp
  obtain ⟨all, hall⟩ : ∃ all, all = valsP isN toks (toks.length - p) p := ⟨_, rfl⟩
  have HALL : Hid (([] : List Tok) ++ valsP isN toks (toks.length - p) p = all) := Lib.hid hall.symm
  rw [← hall]
  clear hall hp
  go_enter Tryz.func117, Tryz.ntmps117
  go_wp2_with fail
  go_loopg [5] (toks.length - p) (fun g1 v5 wr => ∃ (q f : Nat) (v : Value) (hs : List NH) (acc : List Tok), v5 = v ∧ q ≤ toks.length ∧ toks.length - q ≤ g1 ∧ Hid (GrL okLf wr w.heap.size v hs (acc.map lfOf)) ∧ Hid (PaM wr R aT nT cT toks len q) ∧ Hid (Mod (fun j => j = R) w wr) ∧ Hid (acc ++ valsP isN toks f q = all ∧ toks.length - q ≤ f) ∧ p + acc.length = q)
  case atStart => exact ⟨p, toks.length - p, _, [], [], rfl, HP.out, by omega, HG, HM, HMo, Lib.hid ⟨HALL.out, Nat.le_refl _⟩, by simp⟩
  case round =>
    clear HG HM HMo HALL
    obtain ⟨q, f, v, hs, acc, rfl, hq, hg1, HG, HM, HMo, HA, hpq⟩ := hrel
    obtain ⟨va, vc, hv⟩ := HG.out.own.shape
    obtain ⟨vn, hvn⟩ : ∃ vn, vn = hs.length := ⟨_, rfl⟩
    rw [← hvn] at hv
    clear hvn
    subst hv
    have HLA : Hid (acc.length ≤ 2000) := Lib.hid (by have := HLN.out; omega)
    have hqn : q ≤ 2000 := by have := HLN.out; omega
    go_wp2_with fail
    refine (paPeek_any R aT nT cT toks len q wr HM).mono ?_
    rintro e w1 ⟨rfl, hb1⟩
    obtain ⟨t, ht⟩ : ∃ t, peekT toks len q = t := ⟨_, rfl⟩
    have HT := Lib.hid ht
    rw [ht]
    clear ht
    obtain ⟨tk, tx, tn, tp⟩ := t
    rw [show tokV ⟨tk, tx, tn, tp⟩ = .agg #[.int .i64 tk, .string tx, .int .i64 tn, .int .i64 (tp : Nat)] from rfl]
    have HM1 := Lib.hid (HM.out.keep hb1)
    have HG1 := Lib.hid (HG.out.keep okLf_firm hb1)
    have HMo1 : Hid (Mod (fun j => j = R) w w1) := Lib.hid (HMo.out.trans (modB hb1))
    clear hb1 HM HG HMo
    go_upto_region 4 with (fail)
    obtain ⟨w4, hw4⟩ : ∃ W, W = w1.alloc (.cells #[.int .i64 tk, .string tx, .int .i64 tn, .int .i64 (tp : Nat)] 90) := ⟨_, rfl⟩
    have hb4 : Below w1.heap.size w1 w4 := by rw [hw4]; exact (Below.refl _ _).alloc (Nat.le_refl _) _
    have HO4 : Hid (Own w4 w1.heap.size 90 4 (fun i => ([.int .i64 tk, .string tx, .int .i64 tn, .int .i64 (tp : Nat)] : List Value)[i]?.getD undef)) := Lib.hid (by rw [hw4]; exact own_tok w1 tk tn tp tx _ rfl)
    rw [← hw4]
    obtain ⟨Z, hZ⟩ : ∃ Z, Z = w1.heap.size := ⟨_, rfl⟩
    rw [← hZ] at HO4 ⊢
    have HM4 := Lib.hid (HM1.out.keep hb4)
    have HG4 := Lib.hid (HG1.out.keep okLf_firm hb4)
    have HMo4 : Hid (Mod (fun j => j = R) w w4) := Lib.hid (HMo1.out.trans (modB hb4))
    clear hb4 hw4 hZ HM1 HG1 HMo1
    have y0 : w4.cell? ⟨Z, 0, none⟩ = some (.int .i64 tk) := HO4.out.cell (i := 0) (by omega)
    have y1 : w4.cell? ⟨Z, 1, none⟩ = some (.string tx) := HO4.out.cell (i := 1) (by omega)
    have y2 : w4.cell? ⟨Z, 2, none⟩ = some (.int .i64 tn) := HO4.out.cell (i := 2) (by omega)
    have y3 : w4.cell? ⟨Z, 3, none⟩ = some (.int .i64 (tp : Nat)) := HO4.out.cell (i := 3) (by omega)
    have hZl : Z < w4.heap.size := HO4.out.lt
    have hqw : IntKind.i64.wrap ((q : Int) + 1) = (q : Int) + 1 := IntWalk.i64_in _ (by omega)
    by_cases h2 : tk = 2
    · subst h2
      obtain ⟨f', hff, hf', hval⟩ := valsP_cons isN toks f q _ (peek_some HT.out (by show (2 : Int) ≠ 0; omega)) (by simp [isVal]) HA.out.2
      have hql := (List.getElem?_eq_some_iff.1 (peek_some HT.out (by show (2 : Int) ≠ 0; omega))).1
      have HA2 : Hid ((acc ++ [(⟨2, tx, tn, tp⟩ : Tok)]) ++ valsP isN toks f' (q + 1) = all ∧ toks.length - (q + 1) ≤ f') := Lib.hid ⟨by rw [List.append_assoc, List.singleton_append, ← hval]; exact HA.out.1, hf'⟩
      clear hval hff HA hf'
      go_wp2_with fail
      refine (paNode_leaf R aT nT cT toks len q ⟨2, tx, tn, tp⟩ 6 ⟨#[]⟩ tn w4 HM4).mono ?_
      rintro e w5 ⟨h, rfl, hok, hM5, hmo5⟩
      have HM5 := Lib.hid hM5
      have HMo5 : Hid (Mod (fun j => j = R) w w5) := Lib.hid (HMo4.out.trans hmo5)
      have HG5 : Hid (GrL okLf w5 w.heap.size (.slice va vn vc) hs (acc.map lfOf)) := Lib.hid (HG4.out.mod okLf_firm hmo5 (fun j hj _ e => by have := HRL.out; omega))
      obtain ⟨hkk, hna, hnn, hpo, ha, hln, hc⟩ := h
      have HOB := Lib.hid (World.ownsRow.lt HG4.out.own)
      have HS5 : Hid (w4.heap.size ≤ w5.heap.size) := Lib.hid hmo5.size
      have HOK := Lib.hid hok
      clear hM5 hmo5 hok
      obtain ⟨ap, v', w6, av, aw, HG6, HM6, HB6⟩ := app_node okLf_firm HG5.out (by have := HMo5.out.size; omega) (by rw [HG5.out.len, List.length_map]; have := HLA.out; omega) ⟨hkk, hna, hnn, hpo, ha, hln, hc⟩ ⟨6, ⟨#[]⟩, tn, tp⟩ (lo := w4.heap.size) (hi := w5.heap.size) (by have := HMo4.out.size; omega) HS5.out (Nat.le_refl _) (fun b hb => .inl (HOB.out b hb).2) HOK.out
      have HP6 : Hid (PaM w6 R aT nT cT toks len q) := Lib.hid (HM5.out.mod HM6.out (fun j hj e => by have := (World.ownsRow.lt HG5.out.own _ e).1; have := HRL.out; omega))
      have HMo6 : Hid (Mod (fun j => j = R) w w6) := Lib.hid (HMo5.out.trans2 HM6.out (fun j hj e => by have := (World.ownsRow.lt HG5.out.own _ e).1; omega))
      have HG6 : Hid (GrL okLf w6 w.heap.size v' (hs ++ [⟨hkk, hna, hnn, hpo, ha, hln, hc⟩]) ((acc ++ [(⟨2, tx, tn, tp⟩ : Tok)]).map lfOf)) := Lib.hid (by rw [List.map_append, List.map_singleton]; exact HG6.out)
      clear HG5 HM5 HMo5 HOB HS5 HM6 HB6 HOK HM4 HG4 HMo4 y0 y1 y2 y3
      rw [show nhV ⟨hkk, hna, hnn, hpo, ha, hln, hc⟩ = .agg #[.int .i64 hkk, .string hna, .int .i64 hnn, .int .i64 (hpo : Nat), .slice ha hln hc] from rfl]
      obtain ⟨k0, k1, k2, k3⟩ := HP6.out.cells
      have fr := HP6.out.ow.frozen 1
      have hRl : R < w6.heap.size := HP6.out.ow.lt
      go_wp2_with fail
      clear ap av aw
      obtain ⟨w7, hw7⟩ : ∃ W, W = w6.setCell ⟨R, 1, none⟩ (.int .i64 ((q : Int) + 1)) := ⟨_, rfl⟩
      have HM7 : Hid (PaM w7 R aT nT cT toks len (q + 1)) := Lib.hid (by rw [hw7]; exact HP6.out.setPos (q + 1))
      have hmr : Mod (fun j => j = R) w6 w7 := by rw [hw7]; exact (show Mod (fun j => j = R) w6 w6 from Mod.refl _ w6).setCell (p := ⟨R, 1, none⟩) (.inl rfl) _
      have HMo7 : Hid (Mod (fun j => j = R) w w7) := Lib.hid (HMo6.out.trans hmr)
      have HG7 := Lib.hid (HG6.out.mod okLf_firm hmr (fun j hj _ e => by have := HRL.out; omega))
      rw [← hw7]
      clear hw7 hmr HP6 HMo6 HG6 k0 k1 k2 k3 fr hRl
      go_roundg (toks.length - (q + 1))
      case measure => omega
      case rel => exact ⟨q + 1, f', _, _, acc ++ [(⟨2, tx, tn, tp⟩ : Tok)], rfl, by omega, by omega, HG7, HM7, HMo7, HA2, by rw [List.length_append, List.length_singleton]; omega⟩
    · by_cases h1 : tk = 1
      · subst h1
        obtain ⟨z, hz⟩ : ∃ z, z = isN tx := ⟨_, rfl⟩
        have HIX : Hid (∀ W, Calls Tryz.prog FS #[.string tx] W fun e w' => e = .returned (.bool z) ∧ w' = W) := Lib.hid (fun W => by rw [hz]; exact HIS.out tx W)
        have HZ := Lib.hid hz
        clear hz
        cases z
        · have HE : Hid (acc = all ∧ p + acc.length = q) := Lib.hid ⟨by
            have h := HA.out.1
            rw [vals_stop HT.out (by unfold isVal; simp [← HZ.out]) f, List.append_nil] at h
            exact h, hpq⟩
          go_wp2_with fail
          refine (HIX.out w4).mono ?_
          rintro e wq ⟨rfl, hwq⟩
          subst hwq
          go_wp2_with fail
          go_ret
          obtain ⟨e1, e2⟩ := HE.out
          refine ⟨va, vn, vc, hs, rfl, ?_, ?_, HMo4.out⟩
          · rw [← e1]; exact HG4.out
          · rw [← e1, e2]; exact HM4.out
        · obtain ⟨f', hff, hf', hval⟩ := valsP_cons isN toks f q _ (peek_some HT.out (by show (1 : Int) ≠ 0; omega)) (by unfold isVal; simp [← HZ.out]) HA.out.2
          have hql := (List.getElem?_eq_some_iff.1 (peek_some HT.out (by show (1 : Int) ≠ 0; omega))).1
          have HA2 : Hid ((acc ++ [(⟨1, tx, tn, tp⟩ : Tok)]) ++ valsP isN toks f' (q + 1) = all ∧ toks.length - (q + 1) ≤ f') := Lib.hid ⟨by rw [List.append_assoc, List.singleton_append, ← hval]; exact HA.out.1, hf'⟩
          clear hval hff HA hf'
          go_wp2_with fail
          refine (HIX.out w4).mono ?_
          rintro e wq ⟨rfl, hwq⟩
          subst hwq
          go_wp2_with fail
          refine (paNode_leaf R aT nT cT toks len q ⟨1, tx, tn, tp⟩ 5 tx 0 wq HM4).mono ?_
          rintro e w5 ⟨h, rfl, hok, hM5, hmo5⟩
          have HM5 := Lib.hid hM5
          have HMo5 : Hid (Mod (fun j => j = R) w w5) := Lib.hid (HMo4.out.trans hmo5)
          have HG5 : Hid (GrL okLf w5 w.heap.size (.slice va vn vc) hs (acc.map lfOf)) := Lib.hid (HG4.out.mod okLf_firm hmo5 (fun j hj _ e => by have := HRL.out; omega))
          obtain ⟨hkk, hna, hnn, hpo, ha, hln, hc⟩ := h
          have HOB := Lib.hid (World.ownsRow.lt HG4.out.own)
          have HS5 : Hid (wq.heap.size ≤ w5.heap.size) := Lib.hid hmo5.size
          have HOK := Lib.hid hok
          clear hM5 hmo5 hok
          obtain ⟨ap, v', w6, av, aw, HG6, HM6, HB6⟩ := app_node okLf_firm HG5.out (by have := HMo5.out.size; omega) (by rw [HG5.out.len, List.length_map]; have := HLA.out; omega) ⟨hkk, hna, hnn, hpo, ha, hln, hc⟩ ⟨5, tx, 0, tp⟩ (lo := wq.heap.size) (hi := w5.heap.size) (by have := HMo4.out.size; omega) HS5.out (Nat.le_refl _) (fun b hb => .inl (HOB.out b hb).2) HOK.out
          have HP6 : Hid (PaM w6 R aT nT cT toks len q) := Lib.hid (HM5.out.mod HM6.out (fun j hj e => by have := (World.ownsRow.lt HG5.out.own _ e).1; have := HRL.out; omega))
          have HMo6 : Hid (Mod (fun j => j = R) w w6) := Lib.hid (HMo5.out.trans2 HM6.out (fun j hj e => by have := (World.ownsRow.lt HG5.out.own _ e).1; omega))
          have HG6 : Hid (GrL okLf w6 w.heap.size v' (hs ++ [⟨hkk, hna, hnn, hpo, ha, hln, hc⟩]) ((acc ++ [(⟨1, tx, tn, tp⟩ : Tok)]).map lfOf)) := Lib.hid (by rw [List.map_append, List.map_singleton]; exact HG6.out)
          clear HG5 HM5 HMo5 HOB HS5 HM6 HB6 HOK HM4 HG4 HMo4 y0 y1 y2 y3
          rw [show nhV ⟨hkk, hna, hnn, hpo, ha, hln, hc⟩ = .agg #[.int .i64 hkk, .string hna, .int .i64 hnn, .int .i64 (hpo : Nat), .slice ha hln hc] from rfl]
          obtain ⟨k0, k1, k2, k3⟩ := HP6.out.cells
          have fr := HP6.out.ow.frozen 1
          have hRl : R < w6.heap.size := HP6.out.ow.lt
          go_wp2_with fail
          clear ap av aw
          obtain ⟨w7, hw7⟩ : ∃ W, W = w6.setCell ⟨R, 1, none⟩ (.int .i64 ((q : Int) + 1)) := ⟨_, rfl⟩
          have HM7 : Hid (PaM w7 R aT nT cT toks len (q + 1)) := Lib.hid (by rw [hw7]; exact HP6.out.setPos (q + 1))
          have hmr : Mod (fun j => j = R) w6 w7 := by rw [hw7]; exact (show Mod (fun j => j = R) w6 w6 from Mod.refl _ w6).setCell (p := ⟨R, 1, none⟩) (.inl rfl) _
          have HMo7 : Hid (Mod (fun j => j = R) w w7) := Lib.hid (HMo6.out.trans hmr)
          have HG7 := Lib.hid (HG6.out.mod okLf_firm hmr (fun j hj _ e => by have := HRL.out; omega))
          rw [← hw7]
          clear hw7 hmr HP6 HMo6 HG6 k0 k1 k2 k3 fr hRl
          go_roundg (toks.length - (q + 1))
          case measure => omega
          case rel => exact ⟨q + 1, f', _, _, acc ++ [(⟨1, tx, tn, tp⟩ : Tok)], rfl, by omega, by omega, HG7, HM7, HMo7, HA2, by rw [List.length_append, List.length_singleton]; omega⟩
      · have HE : Hid (acc = all ∧ p + acc.length = q) := Lib.hid ⟨by
          have h := HA.out.1
          rw [vals_stop HT.out (by unfold isVal; simp [h1, h2]) f, List.append_nil] at h
          exact h, hpq⟩
        go_wp2_with fail
        go_ret
        obtain ⟨e1, e2⟩ := HE.out
        refine ⟨va, vn, vc, hs, rfl, ?_, ?_, HMo4.out⟩
        · rw [← e1]; exact HG4.out
        · rw [← e1, e2]; exact HM4.out
end Go.Proofs.YtoekpdnpncgeeaaGreat
/-
The parser: attributes.
-/
namespace Go.Proofs.YtoekpdnpncgeeaaGreat
open Go.RowKit
set_option linter.unusedVariables false
set_option linter.unusedSimpArgs false
theorem attrsP_stop {toks : List Tok} {len q : Nat} {t : Tok} (h : peekT toks len q = t) (hv : (t.kind == 1 && inD attrL t.text) = false) (f : Nat) : attrsP toks f q = ([], q) := by
  cases f with
  | zero => rfl
  | succ f =>
    unfold peekT at h
    unfold attrsP
    cases hx : toks[q]? with
    | none => rfl
    | some u => rw [hx] at h; simp at h; subst h; simp [hv]
theorem attrsP_cons {toks : List Tok} {q f : Nat} {t : Tok} (h : toks[q]? = some t) (hv : (t.kind == 1 && inD attrL t.text) = true) (hf : toks.length - q ≤ f) : ∃ f' k, valsP nkD toks (toks.length - (q + 1)) (q + 1) = k ∧ toks.length - (q + 1 + k.length) ≤ f' ∧ q + 1 + k.length ≤ toks.length ∧ attrsP toks f q = (attrN 3 t k :: (attrsP toks f' (q + 1 + k.length)).1, (attrsP toks f' (q + 1 + k.length)).2) := by
  have hp := (List.getElem?_eq_some_iff.1 h).1
  cases f with
  | zero => omega
  | succ f =>
    refine ⟨f, _, rfl, by omega, valsP_len _ _ _ _ (by omega), ?_⟩
    conv =>
      lhs
      unfold attrsP
      rw [h]
    simp only [hv, if_true]
theorem attrsP_le (toks : List Tok) : ∀ (f p : Nat), p ≤ toks.length → p ≤ (attrsP toks f p).2 ∧ (attrsP toks f p).2 ≤ toks.length ∧ p + (attrsP toks f p).1.length ≤ (attrsP toks f p).2
  | 0, p, h => by simp [attrsP]; exact h
  | f + 1, p, h => by
    unfold attrsP
    cases hx : toks[p]? with
    | none => simp; exact h
    | some t =>
      have hp := (List.getElem?_eq_some_iff.1 hx).1
      simp only
      split
      · have h1 := valsP_len nkD toks (toks.length - (p + 1)) (p + 1) (by omega)
        have h2 := attrsP_le toks f _ h1
        refine ⟨by omega, h2.2.1, ?_⟩
        simp only [List.length_cons]
        omega
      · simp; exact h
def tokF (t : Tok) (i : Nat) : Value := ([.int .i64 t.kind, .string t.text, .int .i64 t.n, .int .i64 (t.pos : Nat)] : List Value)[i]?.getD undef
set_option maxRecDepth 100000 in
set_option maxHeartbeats 8000000 in
theorem paAttrs1_ok (R X : Nat) (aT : Option Addr) (nT cT : Nat) (toks : List Tok) (len p : Nat) (w : World) (HM : Hid (PaM w R aT nT cT toks len p)) (hp : p ≤ toks.length) (hX : w.cell? ⟨X, 0, none⟩ = some (.pointer (some ⟨R, 0, none⟩))) :
    Calls Tryz.prog 116 #[.pointer (some ⟨X, 0, none⟩)] w (KidPost okLf w R aT nT cT toks len (p + (valsP nkD toks (toks.length - p) p).length) ((valsP nkD toks (toks.length - p) p).map lfOf)) := by
  have hXl : X < w.heap.size := World.block_lt_of_cell? _ _ hX
  have HC := Lib.hid (paValues_ok nkD 93 R aT nT cT toks len p w HM hp (fun args W => by go_simp) (Lib.hid (fun s W => (paNotKey_any s W).mono (fun e w' h => ⟨by rw [h.1, inD_eq]; rfl, h.2⟩))))
  go_enter Tryz.func116, Tryz.ntmps116
  go_wp2_with fail
  refine HC.out.mono ?_
  rintro e w1 ⟨a, n, c, hs, rfl, h⟩
  have HH := Lib.hid h
  clear h
  go_wp2_with fail
  go_ret
  exact ⟨a, n, c, hs, rfl, HH.out⟩
theorem cf_attrs1 (args : Array Value) (W : World) : (callFunc 116 args).run Tryz.prog W = .ok (.enter 116 args) W := by go_simp
theorem cf_attrs (args : Array Value) (W : World) : (callFunc 96 args).run Tryz.prog W = .ok (.enter 96 args) W := by go_simp
set_option maxRecDepth 100000 in
set_option maxHeartbeats 8000000 in
/-- A node whose kids are read by one function. -/
theorem paNode_one {X : Type} {ok : World → Nat → Nat → NH → X → Prop} (hf : Firm ok) (FA : Nat) (bd cs : Array Value) (R F0 : Nat) (aT : Option Addr) (nT cT : Nat) (toks : List Tok) (len p q : Nat) (t : Tok) (kind : Int) (name : ByteArray) (n : Int) (xs : List X) (w : World) (HM : Hid (PaM w R aT nT cT toks len p)) (hF : w.cell? ⟨F0, 0, none⟩ = some (.func (.func FA) bd cs)) (hR : F0 ≠ R) (hxs : xs.length ≤ 90000)
    (hCF : ∀ (args : Array Value) (W : World), (callFunc FA args).run Tryz.prog W = .ok (.enter FA args) W) (HC : Hid (∀ W, Mod (fun j => j = R) w W → PaM W R aT nT cT toks len p → Calls Tryz.prog FA (bd ++ cs) W (KidPost ok W R aT nT cT toks len q xs))) :
    Calls Tryz.prog 31 #[tokV t, .int .i64 kind, .string name, .int .i64 n, .slice (some ⟨F0, 0, none⟩) 1 1] w fun e w' => ∃ h : NH, e = .returned (nhV h) ∧ okNd ok w' w.heap.size w'.heap.size h ⟨kind, name, n, t.pos, xs⟩ ∧ PaM w' R aT nT cT toks len q ∧ Mod (fun j => j = R) w w' := by
  have h1 := paNode_any (X := X) hf R aT nT cT toks len t kind name n 1 (some ⟨F0, 0, none⟩) 1 (fun _ => FA) (fun _ => bd) (fun _ => cs) (fun i => if i = 0 then p else q) (fun _ => xs) w HM (Lib.hid (fun i hi => by obtain rfl : i = 0 := (by omega); exact ⟨F0, 0, rfl, World.block_lt_of_cell? _ _ hF, hF, hR⟩)) (by omega) (Lib.hid (fun i hi => by match i, hi with | 0, _ => exact ⟨by simp [kidsF], hxs⟩ | 1, _ => exact ⟨by simpa [kidsF] using hxs, hxs⟩)) (fun _ => hCF) (Lib.hid (fun i hi W h1 h2 => by obtain rfl : i = 0 := (by omega); exact HC.out W h1 h2))
  refine h1.mono ?_
  rintro e w4 ⟨na, nl, nc, nhs, rfl, hg4, hp4, hmo4⟩
  refine ⟨_, rfl, ⟨rfl, rfl, rfl, rfl, nhs, ?_⟩, hp4, hmo4⟩
  have : kidsF (fun _ : Nat => xs) 1 = xs := by simp [kidsF]
  rw [this] at hg4
  exact hg4.tree
set_option maxRecDepth 100000 in
set_option maxHeartbeats 8000000 in
theorem paAttrs_ok (R : Nat) (aT : Option Addr) (nT cT : Nat) (toks : List Tok) (len p : Nat) (w : World) (HM : Hid (PaM w R aT nT cT toks len p)) (hp : p ≤ toks.length) :
    Calls Tryz.prog 96 #[.pointer (some ⟨R, 0, none⟩)] w (KidPost (okNd okLf) w R aT nT cT toks len (attrsP toks (toks.length - p) p).2 (attrsP toks (toks.length - p) p).1) := by
  have HLN : Hid (toks.length = nT ∧ nT ≤ 2000) := Lib.hid ⟨HM.out.ln.1, HM.out.ln.2.1⟩
  have HRL : Hid (R < w.heap.size) := Lib.hid HM.out.ow.lt
  have HP := Lib.hid hp
  obtain ⟨all, hall⟩ : ∃ all, all = attrsP toks (toks.length - p) p := ⟨_, rfl⟩
  have HALL : Hid (attrsP toks (toks.length - p) p = all) := Lib.hid hall.symm
  rw [← hall]
  clear hall hp
  obtain ⟨X, hX⟩ : ∃ X, X = w.heap.size := ⟨_, rfl⟩
  obtain ⟨W0, hW0⟩ : ∃ W, W = w.alloc (.cells #[.pointer (some ⟨R, 0, none⟩)] 85) := ⟨_, rfl⟩
  have hb0 : Below w.heap.size w W0 := by rw [hW0]; exact (Below.refl _ _).alloc (Nat.le_refl _) _
  have HX0 : Hid (Own W0 X 85 1 (fun _ => .pointer (some ⟨R, 0, none⟩))) := Lib.hid (by rw [hW0, hX]; exact Own.one _ _ _)
  have HM0 := Lib.hid (HM.out.keep hb0)
  have HMo0 : Hid (Mod (fun j => j = R) w W0) := Lib.hid (modB hb0)
  have HXR : Hid (R < X ∧ w.heap.size ≤ X ∧ X < W0.heap.size) := Lib.hid ⟨by rw [hX]; exact HRL.out, by omega, HX0.out.lt⟩
  have x0 : W0.cell? ⟨X, 0, none⟩ = some (.pointer (some ⟨R, 0, none⟩)) := HX0.out.cell (i := 0) (by omega)
  have hXl : X < W0.heap.size := HX0.out.lt
  have HW0 := Lib.hid hW0
  have HX := Lib.hid hX
  clear hb0 hW0 hX
  go_enter Tryz.func96, Tryz.ntmps96
  go_upto_region 2 with (fail)
  rw [← HW0.out, ← HX.out]
  clear HW0
  go_wp2_with fail
  refine (paPeek_any R aT nT cT toks len p W0 HM0).mono ?_
  rintro e w1 ⟨rfl, hb1⟩
  obtain ⟨t, ht⟩ : ∃ t, peekT toks len p = t := ⟨_, rfl⟩
  have HT := Lib.hid ht
  rw [ht]
  clear ht
  obtain ⟨tk, tx, tn, tp⟩ := t
  rw [show tokV ⟨tk, tx, tn, tp⟩ = .agg #[.int .i64 tk, .string tx, .int .i64 tn, .int .i64 (tp : Nat)] from rfl]
  have HM1 := Lib.hid (HM0.out.keep hb1)
  have HX1 := Lib.hid (HX0.out.keep hb1 HXR.out.2.2)
  have HMo1 : Hid (Mod (fun j => j = R) w w1) := Lib.hid (HMo0.out.trans (modB hb1))
  clear hb1 HM0 HMo0 x0 hXl HX0
  go_wp2_with fail
  obtain ⟨w4, hw4⟩ : ∃ W, W = w1.alloc (.cells #[.int .i64 tk, .string tx, .int .i64 tn, .int .i64 (tp : Nat)] 90) := ⟨_, rfl⟩
  have hb4 : Below w1.heap.size w1 w4 := by rw [hw4]; exact (Below.refl _ _).alloc (Nat.le_refl _) _
  have HO4 : Hid (Own w4 w1.heap.size 90 4 (tokF ⟨tk, tx, tn, tp⟩)) := Lib.hid (by rw [hw4]; exact own_tok w1 tk tn tp tx _ rfl)
  rw [← hw4]
  obtain ⟨Z, hZ⟩ : ∃ Z, Z = w1.heap.size := ⟨_, rfl⟩
  rw [← hZ] at HO4 ⊢
  have HM4 := Lib.hid (HM1.out.keep hb4)
  have HX4 := Lib.hid (HX1.out.keep hb4 HX1.out.lt)
  have HMo4 : Hid (Mod (fun j => j = R) w w4) := Lib.hid (HMo1.out.trans (modB hb4))
  have HZ : Hid (X < Z) := Lib.hid (by rw [hZ]; exact HX1.out.lt)
  clear hb4 hw4 hZ HM1 HX1 HMo1
  go_loopg [3, 4] (toks.length - p) (fun g1 v3 v4 wr => ∃ (q f Z : Nat) (v : Value) (hs : List NH) (acc : List (Nd Lf)), v3 = v ∧ v4 = .pointer (some ⟨Z, 0, none⟩) ∧ q ≤ toks.length ∧ toks.length - q ≤ g1 ∧ Hid (GrL (okNd okLf) wr (X + 1) v hs acc) ∧ Hid (PaM wr R aT nT cT toks len q) ∧ Hid (Mod (fun j => j = R) w wr) ∧ Hid (Own wr X 85 1 (fun _ => .pointer (some ⟨R, 0, none⟩))) ∧ Hid (Own wr Z 90 4 (tokF (peekT toks len q))) ∧ Hid (X < Z ∧ ∀ b, v.ownBlock = some b → b ≠ Z) ∧ Hid ((acc ++ (attrsP toks f q).1, (attrsP toks f q).2) = all ∧ toks.length - q ≤ f) ∧ p + acc.length ≤ q)
  case atStart => exact ⟨p, toks.length - p, Z, _, [], [], rfl, rfl, HP.out, by omega, Lib.hid (GrL.nil _ _), HM4, HMo4, HX4, Lib.hid (by rw [HT.out]; exact HO4.out), Lib.hid ⟨HZ.out, fun b hb => by cases hb⟩, Lib.hid ⟨by rw [List.nil_append]; exact HALL.out, Nat.le_refl _⟩, by simp⟩
  case round =>
    clear HM4 HX4 HMo4 HZ HO4 HALL HT
    obtain ⟨q, f, Z, v, hs, acc, rfl, rfl, hq, hg1, HG, HM, HMo, HX, HO, HZ, HA, hpq⟩ := hrel
    obtain ⟨va, vc, hv⟩ := HG.out.own.shape
    obtain ⟨vn, hvn⟩ : ∃ vn, vn = hs.length := ⟨_, rfl⟩
    rw [← hvn] at hv
    clear hvn
    subst hv
    have HLA : Hid (acc.length ≤ 2000) := Lib.hid (by have := HLN.out; omega)
    have hqn : q ≤ 2000 := by have := HLN.out; omega
    obtain ⟨t, ht⟩ : ∃ t, peekT toks len q = t := ⟨_, rfl⟩
    have HT := Lib.hid ht
    rw [ht] at HO
    clear ht
    obtain ⟨tk, tx, tn, tp⟩ := t
    have y0 : wr.cell? ⟨Z, 0, none⟩ = some (.int .i64 tk) := HO.out.cell (i := 0) (by omega)
    have y1 : wr.cell? ⟨Z, 1, none⟩ = some (.string tx) := HO.out.cell (i := 1) (by omega)
    have hZl : Z < wr.heap.size := HO.out.lt
    obtain ⟨za, hza⟩ : ∃ z, z = inD attrL tx := ⟨_, rfl⟩
    have HAT : Hid (∀ W, Calls Tryz.prog 115 #[.string tx] W fun e w' => e = .returned (.bool za) ∧ w' = W) := Lib.hid (fun W => (paAttr_any tx W).mono (fun e w' h => ⟨by rw [h.1, inD_eq, ← hza], h.2⟩))
    have HZA := Lib.hid hza
    clear hza
    by_cases h1 : tk = 1
    · subst h1
      cases za
      · have HE : Hid (acc = all.1 ∧ q = all.2) := Lib.hid (by
          have h := HA.out.1
          rw [attrsP_stop HT.out (by simp [← HZA.out]) f, List.append_nil] at h
          exact ⟨congrArg Prod.fst h, congrArg Prod.snd h⟩)
        go_wp2_with fail
        refine (HAT.out wr).mono ?_
        rintro e w5 ⟨rfl, hw5⟩
        subst hw5
        go_wp2_with fail
        go_ret
        obtain ⟨e1, e2⟩ := HE.out
        refine ⟨va, vn, vc, hs, rfl, ?_, ?_, HMo.out⟩
        · rw [← e1]; exact HG.out.base (by have := HXR.out; omega)
        · rw [← e2]; exact HM.out
      · obtain ⟨f', vs, hvs, hf', hq2, hat⟩ := attrsP_cons (peek_some HT.out (by show (1 : Int) ≠ 0; omega)) (by simp [← HZA.out]) HA.out.2
        have hql := (List.getElem?_eq_some_iff.1 (peek_some HT.out (by show (1 : Int) ≠ 0; omega))).1
        obtain ⟨q2, hq2e⟩ : ∃ q2, q2 = q + 1 + vs.length := ⟨_, rfl⟩
        rw [← hq2e] at hf' hq2 hat
        have HA2 : Hid (((acc ++ [attrN 3 ⟨1, tx, tn, tp⟩ vs]) ++ (attrsP toks f' q2).1, (attrsP toks f' q2).2) = all ∧ toks.length - q2 ≤ f') := Lib.hid ⟨by rw [List.append_assoc, List.singleton_append]; have h := HA.out.1; rw [hat] at h; exact h, hf'⟩
        have HVS := Lib.hid hvs
        have HQ2 := Lib.hid hq2e
        have hq2q : q + 1 ≤ q2 := by omega
        clear hvs hat hf' HA hq2e
        go_wp2_with fail
        refine (HAT.out wr).mono ?_
        rintro e w5 ⟨rfl, hw5⟩
        rw [hw5]
        clear hw5
        obtain ⟨k0, k1, k2, k3⟩ := HM.out.cells
        have fr := HM.out.ow.frozen 1
        have hRl : R < wr.heap.size := HM.out.ow.lt
        have x0 : wr.cell? ⟨X, 0, none⟩ = some (.pointer (some ⟨R, 0, none⟩)) := HX.out.cell (i := 0) (by omega)
        have hXl : X < wr.heap.size := HX.out.lt
        have hqw : IntKind.i64.wrap ((q : Int) + 1) = (q : Int) + 1 := IntWalk.i64_in _ (by omega)
        go_upto_region 6 with (fail)
        obtain ⟨w7, hw7⟩ : ∃ W, W = wr.setCell ⟨R, 1, none⟩ (.int .i64 ((q : Int) + 1)) := ⟨_, rfl⟩
        have HM7 : Hid (PaM w7 R aT nT cT toks len (q + 1)) := Lib.hid (by rw [hw7]; exact HM.out.setPos (q + 1))
        have hmr : Mod (fun j => j = R) wr w7 := by rw [hw7]; exact (show Mod (fun j => j = R) wr wr from Mod.refl _ wr).setCell (p := ⟨R, 1, none⟩) (.inl rfl) _
        have HMo7 : Hid (Mod (fun j => j = R) w w7) := Lib.hid (HMo.out.trans hmr)
        have HG7 := Lib.hid (HG.out.mod (okNd_firm okLf_firm) hmr (fun j hj _ e => by have := HXR.out; omega))
        have HX7 := Lib.hid (HX.out.mod hmr (by have := HXR.out; omega))
        have HO7 := Lib.hid (HO.out.mod hmr (by have := HXR.out; have := HZ.out.1; omega))
        rw [← hw7]
        clear hw7 hmr HM HMo HG HX HO k0 k1 k2 k3 fr hRl x0 hXl y0 y1 hZl
        have y0 : w7.cell? ⟨Z, 0, none⟩ = some (.int .i64 1) := HO7.out.cell (i := 0) (by omega)
        have y1 : w7.cell? ⟨Z, 1, none⟩ = some (.string tx) := HO7.out.cell (i := 1) (by omega)
        have y2 : w7.cell? ⟨Z, 2, none⟩ = some (.int .i64 tn) := HO7.out.cell (i := 2) (by omega)
        have y3 : w7.cell? ⟨Z, 3, none⟩ = some (.int .i64 (tp : Nat)) := HO7.out.cell (i := 3) (by omega)
        have hZl : Z < w7.heap.size := HO7.out.lt
        go_wp2_with fail
        obtain ⟨w8, hw8⟩ : ∃ W, W = w7.alloc (.cells #[.func (.func 116) #[] #[.pointer (some ⟨X, 0, none⟩)]] 91) := ⟨_, rfl⟩
        rw [← hw8]
        have hb8 : Below w7.heap.size w7 w8 := by rw [hw8]; exact (Below.refl _ _).alloc (Nat.le_refl _) _
        obtain ⟨F0, hF0⟩ : ∃ F, F = w7.heap.size := ⟨_, rfl⟩
        have HF8 : Hid (Own w8 F0 91 1 (fun _ => .func (.func 116) #[] #[.pointer (some ⟨X, 0, none⟩)])) := Lib.hid (by rw [hw8, hF0]; exact Own.one _ _ _)
        rw [← hF0]
        have HM8 := Lib.hid (HM7.out.keep hb8)
        have HG8 := Lib.hid (HG7.out.keep (okNd_firm okLf_firm) hb8)
        have HX8 := Lib.hid (HX7.out.keep hb8 HX7.out.lt)
        have HO8 := Lib.hid (HO7.out.keep hb8 HO7.out.lt)
        have HMo8 : Hid (Mod (fun j => j = R) w w8) := Lib.hid (HMo7.out.trans (modB hb8))
        have HFZ : Hid (X < F0) := Lib.hid (by rw [hF0]; exact HX7.out.lt)
        clear hw8 hb8 hF0 HM7 HG7 HX7 HO7 HMo7 y0 y1 y2 y3 hZl
        refine (paNode_one okLf_firm 116 #[] #[.pointer (some ⟨X, 0, none⟩)] R F0 aT nT cT toks len (q + 1) q2 ⟨1, tx, tn, tp⟩ 3 tx 0 (vs.map lfOf) w8 HM8 (HF8.out.cell (i := 0) (by omega)) (by have := HFZ.out; have := HXR.out; omega) (by rw [List.length_map]; have := HLN.out; have := HQ2.out; omega) cf_attrs1 (Lib.hid (fun W hmW hPW => by
          have h := paAttrs1_ok R X aT nT cT toks len (q + 1) W (Lib.hid hPW) (by omega) ((hmW.cell (p := ⟨X, 0, none⟩) HX8.out.lt (by have := HXR.out; show X ≠ R; omega)).trans (HX8.out.cell (i := 0) (by omega)))
          rw [HVS.out, ← HQ2.out] at h
          exact h))).mono ?_
        rintro e w9 ⟨h, rfl, hok, hM9, hmo9⟩
        have HM9 := Lib.hid hM9
        have HMo9 : Hid (Mod (fun j => j = R) w w9) := Lib.hid (HMo8.out.trans hmo9)
        have HG9 := Lib.hid (HG8.out.mod (okNd_firm okLf_firm) hmo9 (fun j hj _ e => by have := HXR.out; omega))
        have HX9 := Lib.hid (HX8.out.mod hmo9 (by have := HXR.out; omega))
        have HO9 := Lib.hid (HO8.out.mod hmo9 (by have := HXR.out; have := HZ.out.1; omega))
        obtain ⟨hkk, hna, hnn, hpo, ha, hln, hc⟩ := h
        have HOB := Lib.hid (World.ownsRow.lt HG8.out.own)
        have HS9 : Hid (w8.heap.size ≤ w9.heap.size ∧ X < w8.heap.size) := Lib.hid ⟨hmo9.size, HX8.out.lt⟩
        have HOK := Lib.hid hok
        clear hM9 hmo9 hok HM8 HG8 HX8 HO8 HMo8
        obtain ⟨ap, v', w10, av, aw, HG10, HM10, HB10⟩ := app_node (okNd_firm okLf_firm) HG9.out (by have := HS9.out; omega) (by rw [HG9.out.len]; have := HLA.out; omega) ⟨hkk, hna, hnn, hpo, ha, hln, hc⟩ (attrN 3 ⟨1, tx, tn, tp⟩ vs) (lo := w8.heap.size) (hi := w9.heap.size) (by have := HS9.out; omega) HS9.out.1 (Nat.le_refl _) (fun b hb => .inl (HOB.out b hb).2) HOK.out
        have HP10 : Hid (PaM w10 R aT nT cT toks len q2) := Lib.hid (HM9.out.mod HM10.out (fun j hj e => by have := (World.ownsRow.lt HG9.out.own _ e).1; have := HXR.out; omega))
        have HMo10 : Hid (Mod (fun j => j = R) w w10) := Lib.hid (HMo9.out.trans2 HM10.out (fun j hj e => by have := (World.ownsRow.lt HG9.out.own _ e).1; have := HXR.out; omega))
        have HX10 := Lib.hid (HX9.out.mod HM10.out (fun e => by have := (World.ownsRow.lt HG9.out.own _ e).1; omega))
        have HO10 := Lib.hid (HO9.out.mod HM10.out (fun e => HZ.out.2 _ e rfl))
        clear HG9 HM9 HMo9 HOB HS9 HM10 HOK HX9 HO9
        rw [show nhV ⟨hkk, hna, hnn, hpo, ha, hln, hc⟩ = .agg #[.int .i64 hkk, .string hna, .int .i64 hnn, .int .i64 (hpo : Nat), .slice ha hln hc] from rfl]
        go_upto_region 7 with (fail)
        clear ap av aw
        have y0 : w10.cell? ⟨Z, 0, none⟩ = some (.int .i64 1) := HO10.out.cell (i := 0) (by omega)
        have y1 : w10.cell? ⟨Z, 1, none⟩ = some (.string tx) := HO10.out.cell (i := 1) (by omega)
        have y2 : w10.cell? ⟨Z, 2, none⟩ = some (.int .i64 tn) := HO10.out.cell (i := 2) (by omega)
        have y3 : w10.cell? ⟨Z, 3, none⟩ = some (.int .i64 (tp : Nat)) := HO10.out.cell (i := 3) (by omega)
        have hZl : Z < w10.heap.size := HO10.out.lt
        go_upto_region 4 with (fail)
        obtain ⟨w11, hw11⟩ : ∃ W, W = w10.alloc (.cells #[.int .i64 1, .string tx, .int .i64 tn, .int .i64 (tp : Nat)] 90) := ⟨_, rfl⟩
        have hb11 : Below w10.heap.size w10 w11 := by rw [hw11]; exact (Below.refl _ _).alloc (Nat.le_refl _) _
        have HO11 : Hid (Own w11 w10.heap.size 90 4 (tokF ⟨1, tx, tn, tp⟩)) := Lib.hid (by rw [hw11]; exact own_tok w10 1 tn tp tx _ rfl)
        rw [← hw11]
        obtain ⟨Z2, hZ2⟩ : ∃ Z, Z = w10.heap.size := ⟨_, rfl⟩
        rw [← hZ2] at HO11 ⊢
        have HB11 : Hid (∀ b, v'.ownBlock = some b → b ≠ Z2) := Lib.hid (fun b hb e => by have := (HB10.out b hb).2; omega)
        have HXZ : Hid (X < Z2) := Lib.hid (by have := HX10.out.lt; omega)
        have HP11 := Lib.hid (HP10.out.keep hb11)
        have HBW11 := Lib.hid hb11
        have HX11 := Lib.hid (HX10.out.keep hb11 HX10.out.lt)
        have HMo11 : Hid (Mod (fun j => j = R) w w11) := Lib.hid (HMo10.out.trans (modB hb11))
        clear hw11 hb11 HP10 HX10 HMo10 HO10 HB10 y0 y1 y2 y3 hZl
        have x0 : w11.cell? ⟨X, 0, none⟩ = some (.pointer (some ⟨R, 0, none⟩)) := HX11.out.cell (i := 0) (by omega)
        have hXl : X < w11.heap.size := HX11.out.lt
        go_wp2_with fail
        refine (paPeek_any R aT nT cT toks len q2 w11 HP11).mono ?_
        rintro e w12 ⟨rfl, hb12⟩
        obtain ⟨t2, ht2⟩ : ∃ t, peekT toks len q2 = t := ⟨_, rfl⟩
        have HT2 := Lib.hid ht2
        rw [ht2]
        clear ht2
        obtain ⟨sk, sx, sn, sp⟩ := t2
        rw [show tokV ⟨sk, sx, sn, sp⟩ = .agg #[.int .i64 sk, .string sx, .int .i64 sn, .int .i64 (sp : Nat)] from rfl]
        have HP12 := Lib.hid (HP11.out.keep hb12)
        have HBW12 : Hid (Below w10.heap.size w10 w12) := Lib.hid (below_then HBW11.out hb12)
        have HX12 := Lib.hid (HX11.out.keep hb12 HX11.out.lt)
        have HO12 := Lib.hid (HO11.out.keep hb12 HO11.out.lt)
        have HMo12 : Hid (Mod (fun j => j = R) w w12) := Lib.hid (HMo11.out.trans (modB hb12))
        have HZ2 := Lib.hid hZ2
        clear hb12 HP11 HX11 hZ2 HO11 HMo11 x0 hXl
        have y0 : w12.cell? ⟨Z2, 0, none⟩ = some (.int .i64 1) := HO12.out.cell (i := 0) (by omega)
        have y1 : w12.cell? ⟨Z2, 1, none⟩ = some (.string tx) := HO12.out.cell (i := 1) (by omega)
        have y2 : w12.cell? ⟨Z2, 2, none⟩ = some (.int .i64 tn) := HO12.out.cell (i := 2) (by omega)
        have y3 : w12.cell? ⟨Z2, 3, none⟩ = some (.int .i64 (tp : Nat)) := HO12.out.cell (i := 3) (by omega)
        have f0 := HO12.out.frozen 0
        have f1 := HO12.out.frozen 1
        have f2 := HO12.out.frozen 2
        have f3 := HO12.out.frozen 3
        have hZl : Z2 < w12.heap.size := HO12.out.lt
        go_wp2_with fail
        obtain ⟨w13, hw13⟩ : ∃ W, W = (((w12.setCell ⟨Z2, 0, none⟩ (.int .i64 sk)).setCell ⟨Z2, 1, none⟩ (.string sx)).setCell ⟨Z2, 2, none⟩ (.int .i64 sn)).setCell ⟨Z2, 3, none⟩ (.int .i64 (sp : Nat)) := ⟨_, rfl⟩
        have HO13 : Hid (Own w13 Z2 90 4 (tokF ⟨sk, sx, sn, sp⟩)) := Lib.hid (by rw [hw13]; exact HO12.out.setTok sk sn sp sx)
        have hmz : Mod (fun j => j = Z2) w12 w13 := by rw [hw13]; exact ((((show Mod (fun j => j = Z2) w12 w12 from Mod.refl _ w12).setCell (p := ⟨Z2, 0, none⟩) (.inl rfl) _).setCell (p := ⟨Z2, 1, none⟩) (.inl rfl) _).setCell (p := ⟨Z2, 2, none⟩) (.inl rfl) _).setCell (p := ⟨Z2, 3, none⟩) (.inl rfl) _
        rw [← hw13]
        have HP13 := Lib.hid (HP12.out.mod hmz (fun j hj e => by have := HXZ.out; have := HXR.out; omega))
        have HX13 := Lib.hid (HX12.out.mod hmz (by have := HXZ.out; omega))
        have HMo13 := Lib.hid (HMo12.out.trans2 hmz (fun j hj e => by have := HXZ.out; have := HXR.out; omega))
        have hzb : w10.heap.size ≤ Z2 := by have := HZ2.out; omega
        have HG13 : Hid (GrL (okNd okLf) w13 (X + 1) v' (hs ++ [⟨hkk, hna, hnn, hpo, ha, hln, hc⟩]) (acc ++ [attrN 3 ⟨1, tx, tn, tp⟩ vs])) := Lib.hid (HG10.out.keep (okNd_firm okLf_firm) (by rw [hw13]; exact ((((HBW12.out.setCell (p := ⟨Z2, 0, none⟩) hzb _).setCell (p := ⟨Z2, 1, none⟩) hzb _).setCell (p := ⟨Z2, 2, none⟩) hzb _).setCell (p := ⟨Z2, 3, none⟩) hzb _)))
        clear hw13 hmz hzb y0 y1 y2 y3 f0 f1 f2 f3 hZl HO12 HP12 HX12 HMo12 HG10
        go_roundg (toks.length - q2)
        case measure => omega
        case rel => exact ⟨q2, f', Z2, _, _, acc ++ [attrN 3 ⟨1, tx, tn, tp⟩ vs], rfl, rfl, hq2, Nat.le_refl _, HG13, HP13, HMo13, HX13, Lib.hid (by rw [HT2.out]; exact HO13.out), Lib.hid ⟨HXZ.out, HB11.out⟩, HA2, by rw [List.length_append, List.length_singleton]; omega⟩
    · have HE : Hid (acc = all.1 ∧ q = all.2) := Lib.hid (by
        have h := HA.out.1
        rw [attrsP_stop HT.out (by simp [h1]) f, List.append_nil] at h
        exact ⟨congrArg Prod.fst h, congrArg Prod.snd h⟩)
      go_wp2_with fail
      go_ret
      obtain ⟨e1, e2⟩ := HE.out
      refine ⟨va, vn, vc, hs, rfl, ?_, ?_, HMo.out⟩
      · rw [← e1]; exact HG.out.base (by have := HXR.out; omega)
      · rw [← e2]; exact HM.out
end Go.Proofs.YtoekpdnpncgeeaaGreat
