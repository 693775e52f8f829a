/-
Two controllers: a new controller.
-/
import Derived.Test.YtkbbapefgifagaaGreatDoorCTwZ4
namespace Go.Proofs.YtkbbapefgifagaaGreatDoor
open Go.RowKit
set_option linter.unusedVariables false
set_option linter.unusedSimpArgs false
def newX (hv : Int) : Hf := ⟨⟨hv, 1, [], []⟩, [], fun _ => ⟨0, 0⟩, fun _ => true, 1, [], []⟩
def encRmp (r : Rmp) : List Value := [.int .i64 r.amp, .int .i64 r.snc]
def encDm (b : Bool) : List Value := [.bool b, .int .i64 0, .int .i64 500, .int .i64 1]
theorem encRmp_len (x : Rmp) : (encRmp x).length = 2 := rfl
theorem encDm_len (x : Bool) : (encDm x).length = 4 := rfl
theorem encRmp_one (x : Rmp) (u : Value) (h : u ∈ encRmp x) : u.oneCell' = true := by
  simp [encRmp] at h
  rcases h with rfl | rfl <;> rfl
theorem encDm_one (x : Bool) (u : Value) (h : u ∈ encDm x) : u.oneCell' = true := by
  simp [encDm] at h
  rcases h with rfl | rfl | rfl | rfl <;> rfl
theorem encChg_one (c : GChg) (u : Value) (h : u ∈ encChg c) : u.oneCell' = true := by
  simp [encChg] at h
  rcases h with rfl | rfl | rfl | rfl | rfl | rfl | rfl | rfl <;> rfl
theorem infoChg : (Tryz.prog.info? 59).map (fun i => (i.zero, i.size, i.bytes)) = some (some (.agg #[.string ⟨#[]⟩, .int .i64 0, .int .i64 0, .int .i64 0, .int .i64 0, .int .i64 0, .int .i64 0, .int .i64 0]), 8, 72) := by kernel_rfl
theorem infoDem : (Tryz.prog.info? 55).map (fun i => (i.zero, i.size, i.bytes)) = some (some (.agg #[.bool false, .int .i64 0, .int .i64 0, .int .i64 0]), 4, 32) := by kernel_rfl
/-- One row more. -/
theorem app_one {α : Type} {t e : TypeId} {sz bytes : Nat} {z : Value} {enc : α → List Value} {w : World} {base : Nat} {v : Value} {xs : List α} (x : α) {lit : Array Value}
    (hinfo : (Tryz.prog.info? e).map (fun i => (i.zero, i.size, i.bytes)) = some (some z, sz, bytes)) (ht : Tryz.prog.underlying t = some (.slice e)) (hzs : z.cells.size = sz) (h0 : 0 < sz) (hsz : ∀ x, (enc x).length = sz) (hone : ∀ x u, u ∈ enc x → u.oneCell' = true)
    (h : OwnR e sz enc w base v xs) (hb : base ≤ w.heap.size) (hlit : lit = (enc x).toArray) (hl : xs.length ≤ 1000) (hby : bytes ≤ 1000) :
    Appends Tryz.prog (w.alloc (.cells lit e)) t t v (.slice (some ⟨w.heap.size, 0, none⟩) 1 1) ∧
    ∃ v' w1, appV Tryz.prog (w.alloc (.cells lit e)) t t v (.slice (some ⟨w.heap.size, 0, none⟩) 1 1) = v' ∧ appW Tryz.prog (w.alloc (.cells lit e)) t t v (.slice (some ⟨w.heap.size, 0, none⟩) 1 1) = w1 ∧ Hid (OwnR e sz enc w1 base v' (xs ++ [x]) ∧ Mod (fun k => v.ownBlock = some k) w w1) := by
  have rd : Rd sz enc (w.alloc (.cells lit e)) (some ⟨w.heap.size, 0, none⟩) [x] := by
    rw [hlit]
    exact (Own.new w e (enc x).toArray undef).rd (by rw [List.size_toArray, hsz]; simp) hsz (fun k y hy j u hu => by
      have hk : k = 0 := by have := (List.getElem?_eq_some_iff.1 hy).1; simp at this; exact this
      subst hk
      simp at hy
      subst hy
      show ((enc x).toArray)[0 * sz + j]?.getD undef = u
      rw [Nat.zero_mul, Nat.zero_add, List.getElem?_toArray, hu]; rfl)
  obtain ⟨h1, v', w1, e1, e2, e3, e4, _⟩ := app_rows (P := Tryz.prog) (ty := t) (c := 1) (m := 1) hinfo ht hzs h0 hsz hone (h.alloc _) rd rfl ⟨_, rfl⟩ (by simp; omega) (by unfold maxLen; omega) (Nat.le_trans (Nat.mul_le_mul (show xs.length + 1 ≤ 1001 by omega) hby) (by omega))
  exact ⟨h1, v', w1, e1, e2, Lib.hid ⟨e3, ((Mod.refl _ w).alloc _).trans e4⟩⟩
theorem own_ne {α β : Type} {t t' : TypeId} {sz sz' : Nat} {enc : α → List Value} {enc' : β → List Value} {w : World} {b b' : Nat} {v v' : Value} {xs : List α} {ys : List β} (h : OwnR t sz enc w b v xs) (h' : OwnR t' sz' enc' w b' v' ys) (ht : t ≠ t') : ∀ k, v.ownBlock = some k → v'.ownBlock ≠ some k := by
  intro k hk hk'
  rcases h.2 with ⟨rfl, _⟩ | ⟨g, cap, cur, rfl, _, hg, _⟩
  · cases hk
  · rcases h'.2 with ⟨rfl, _⟩ | ⟨g', cap', cur', rfl, _, hg', _⟩
    · cases hk'
    · have e1 : g = k := by injection hk
      have e2 : g' = k := by injection hk'
      subst e1
      subst e2
      rw [hg] at hg'
      injection hg' with hg'
      injection hg' with _ hg'
      exact ht hg'
theorem Own.hf (W : World) (l : List Value) (t : TypeId) : Own (W.alloc (.cells l.toArray t)) W.heap.size t l.length (hfF l) :=
  ((Own.new W t l.toArray undef).congr (fun i _ => by unfold hfF; rw [List.getElem?_toArray]))
theorem rune_in (k : Nat) (h : k < 4) : IntKind.i32.wrap (97 + (k : Int)) = 97 + (k : Int) := by
  match k, h with
  | 0, _ => rfl
  | 1, _ => rfl
  | 2, _ => rfl
  | 3, _ => rfl
theorem rune_enc (k : Nat) (h : k < 4) : (⟨#[112]⟩ : ByteArray) ++ Utf8.encode (97 + (k : Int)) = twN k := by
  match k, h with
  | 0, _ => rfl
  | 1, _ => rfl
  | 2, _ => rfl
  | 3, _ => rfl
theorem rune_size (k : Nat) (h : k < 4) : (Utf8.encode (97 + (k : Int))).size = 1 := by
  match k, h with
  | 0, _ => rfl
  | 1, _ => rfl
  | 2, _ => rfl
  | 3, _ => rfl
theorem Mod.trans2N {M M' : Nat → Prop} {a b c : World} (h : Mod M a b) (k : Mod M' b c) (hM : ∀ j, M' j → a.heap.size ≤ j) : Mod M a c :=
  ⟨k.os.trans h.os, k.tape.trans h.tape, k.output.trans h.output, Nat.le_trans h.size k.size, fun j hj hn => (k.block j (Nat.lt_of_lt_of_le hj h.size) (fun x => by have := hM j x; omega)).trans (h.block j hj hn)⟩
theorem OwnR.otherT {α : Type} {t : TypeId} {sz : Nat} {enc : α → List Value} {w : World} {base : Nat} {v : Value} {xs : List α} (h : OwnR t sz enc w base v xs) {p : Addr} (hp : p.block < base) (u : Value) : OwnR t sz enc (w.setCell p u) base v xs :=
  h.mod (M := fun k => k = p.block) ((Mod.refl (fun k => k = p.block) w).setCell (p := p) (.inl rfl) u) (fun k hk he => by have := (World.ownsRow.lt h k hk).1; omega)
theorem rd_one {α : Type} {sz : Nat} {enc : α → List Value} (W : World) (e : TypeId) (hsz : ∀ x, (enc x).length = sz) (x : α) : Rd sz enc (W.alloc (.cells (enc x).toArray e)) (some ⟨W.heap.size, 0, none⟩) [x] :=
  (Own.new W e (enc x).toArray undef).rd (by rw [List.size_toArray, hsz]; simp) hsz (fun k y hy j u hu => by
    have hk : k = 0 := by have := (List.getElem?_eq_some_iff.1 hy).1; simp at this; exact this
    subst hk
    simp at hy
    subst hy
    show ((enc x).toArray)[0 * sz + j]?.getD undef = u
    rw [Nat.zero_mul, Nat.zero_add, List.getElem?_toArray, hu]; rfl)
theorem OwnR.cellAt {α : Type} {t : TypeId} {sz : Nat} {enc : α → List Value} {w : World} {b n c : Nat} {a : Option Addr} {xs : List α} (hsz : ∀ x, (enc x).length = sz) (h : OwnR t sz enc w b (.slice a n c) xs) (h0 : 0 < xs.length) : ∃ g, a = some ⟨g, 0, none⟩ ∧ n = xs.length ∧ b ≤ g ∧ Rd sz enc w (some ⟨g, 0, none⟩) xs := by
  obtain ⟨g, cap, F, hv, hb, _, _, ho, hF⟩ := h.open_ hsz h0
  obtain ⟨a', c', hv2, hr⟩ := h.rd hsz
  injection hv with e1 e2 _
  injection hv2 with f1 _ _
  subst e1
  rw [← f1] at hr
  exact ⟨g, rfl, e2, hb, hr⟩
theorem own_low {α : Type} {t : TypeId} {sz : Nat} {enc : α → List Value} {w w' : World} {b H n : Nat} {v : Value} {xs : List α} {T : TypeId} {f : Nat → Value} (h : OwnR t sz enc w b v xs) (hm : Mod (fun k => v.ownBlock = some k) w w') (ho : Own w H T n f) (hb : H < b) : Own w' H T n f :=
  ho.mod hm (fun e => by have := (World.ownsRow.lt h H e).1; omega)
/-- What newR7Half does. -/
def NwPost (hv : Int) (n : Nat) (w : World) (e : Ending) (w' : World) : Prop := ∃ (H : Nat) (A : HfAd), e = .returned (.pointer (some ⟨H, 0, none⟩)) ∧ w.heap.size ≤ H ∧ Own w' H 44 15 (hfF (hfL n (newX hv) A)) ∧ (∀ B, HfX B (fun k => k = H) (fun k => k = H ∨ k < w.heap.size) H n (newX hv) A w') ∧ Below w.heap.size w w'
set_option maxRecDepth 100000 in
set_option maxHeartbeats 16000000 in
theorem r7New_ok (hv : Int) (n : Nat) (w : World) (hn0 : 0 < n) (hn : n ≤ 4) :
    Calls Tryz.prog 5 #[.int .i64 hv, .int .i64 (n : Nat)] w (NwPost hv n w) := by
  obtain ⟨W2, hW2⟩ : ∃ W, W = ((w.alloc (.cells #[.int .i64 hv, .int .i64 1, .slice none 0 0, .slice none 0 0, .slice (some ⟨w.heap.size + 1, 0, none⟩) 1 1, .slice (some ⟨w.heap.size + 1 + 1, 0, none⟩) 1 1, .slice none 0 0, .slice none 0 0, .slice none 0 0, .slice none 0 0, .slice none 0 0, .slice none 0 0, .int .i64 1, .slice none 0 0, .slice none 0 0] 44)).alloc (.cells #[.string ⟨#[102]⟩, .int .i64 (-1), .int .i64 1, .int .i64 1000, .int .i64 0, .int .i64 0, .int .i64 0, .int .i64 0, .int .i64 0, .int .i64 0, .int .i64 0] 72)).alloc (.cells #[.string ⟨#[111]⟩] 74) := ⟨_, rfl⟩
  obtain ⟨H, hH⟩ : ∃ g, g = w.heap.size := ⟨_, rfl⟩
  have hb2 : Below w.heap.size w W2 := by rw [hW2]; exact (((Below.refl _ _).alloc (Nat.le_refl _) _).alloc (by simp) _).alloc (by simp; omega) _
  have hs2 : W2.heap.size = H + 3 := by rw [hW2, hH]; simp
  have ho2 : Own W2 H 44 15 (hfF [.int .i64 hv, .int .i64 1, .slice none 0 0, .slice none 0 0, .slice (some ⟨H + 1, 0, none⟩) 1 1, .slice (some ⟨H + 1 + 1, 0, none⟩) 1 1, .slice none 0 0, .slice none 0 0, .slice none 0 0, .slice none 0 0, .slice none 0 0, .slice none 0 0, .int .i64 1, .slice none 0 0, .slice none 0 0]) := by
    rw [hW2, hH]
    exact ((Own.hf w [.int .i64 hv, .int .i64 1, .slice none 0 0, .slice none 0 0, .slice (some ⟨w.heap.size + 1, 0, none⟩) 1 1, .slice (some ⟨w.heap.size + 1 + 1, 0, none⟩) 1 1, .slice none 0 0, .slice none 0 0, .slice none 0 0, .slice none 0 0, .slice none 0 0, .slice none 0 0, .int .i64 1, .slice none 0 0, .slice none 0 0] 44).alloc _).alloc _
  have hc2 : Rd 11 encCon W2 (some ⟨H + 1, 0, none⟩) [twC 1] := by
    have h := rd_one (w.alloc (.cells #[.int .i64 hv, .int .i64 1, .slice none 0 0, .slice none 0 0, .slice (some ⟨w.heap.size + 1, 0, none⟩) 1 1, .slice (some ⟨w.heap.size + 1 + 1, 0, none⟩) 1 1, .slice none 0 0, .slice none 0 0, .slice none 0 0, .slice none 0 0, .slice none 0 0, .slice none 0 0, .int .i64 1, .slice none 0 0, .slice none 0 0] 44)) 72 encCon_len (twC 1)
    rw [World.size_alloc] at h
    rw [hW2, hH]
    exact h.keep ((Below.refl _ _).alloc (Nat.le_refl _) _)
  have hw2 : Rd 1 encS W2 (some ⟨H + 1 + 1, 0, none⟩) [⟨#[111]⟩] := by
    have h := rd_one ((w.alloc (.cells #[.int .i64 hv, .int .i64 1, .slice none 0 0, .slice none 0 0, .slice (some ⟨w.heap.size + 1, 0, none⟩) 1 1, .slice (some ⟨w.heap.size + 1 + 1, 0, none⟩) 1 1, .slice none 0 0, .slice none 0 0, .slice none 0 0, .slice none 0 0, .slice none 0 0, .slice none 0 0, .int .i64 1, .slice none 0 0, .slice none 0 0] 44)).alloc (.cells #[.string ⟨#[102]⟩, .int .i64 (-1), .int .i64 1, .int .i64 1000, .int .i64 0, .int .i64 0, .int .i64 0, .int .i64 0, .int .i64 0, .int .i64 0, .int .i64 0] 72)) 74 (enc := encS) (fun _ => rfl) (⟨#[111]⟩ : ByteArray)
    rw [World.size_alloc, World.size_alloc] at h
    rw [hW2, hH]
    exact h
  have HO2 := Lib.hid ho2
  have HB2 := Lib.hid hb2
  have HS2 := Lib.hid hs2
  have HC2 := Lib.hid (And.intro hc2 hw2)
  have HHW : Hid (w.heap.size ≤ H) := Lib.hid (by omega)
  have HW2 := Lib.hid (And.intro hW2.symm hH.symm)
  clear ho2 hb2 hs2 hc2 hw2 hW2 hH
  go_enter Tryz.func5, Tryz.ntmps5
  go_upto_region 3 with (fail)
  try simp only [World.size_alloc]
  rw [HW2.out.1, HW2.out.2]
  clear HW2
  go_wp2_with fail
  go_loopg [20] (n + 1) (fun g1 v20 wr => ∃ (k : Nat) (aC aR aD : Option Addr) (cC cR cD : Nat), v20 = .int .i64 (k : Nat) ∧ k ≤ n ∧ n - k ≤ g1 ∧ Hid (Own wr H 44 15 (hfF [.int .i64 hv, .int .i64 1, .slice none 0 0, .slice none 0 0, .slice (some ⟨H + 1, 0, none⟩) 1 1, .slice (some ⟨H + 1 + 1, 0, none⟩) 1 1, .slice none 0 0, .slice aC k cC, .slice none 0 0, .slice none 0 0, .slice aR k cR, .slice aD k cD, .int .i64 1, .slice none 0 0, .slice none 0 0])) ∧ Hid (OwnR 59 8 encChg wr (H + 3) (.slice aC k cC) ((List.range k).map twG)) ∧ Hid (OwnR 76 2 encRmp wr (H + 3) (.slice aR k cR) (List.replicate k ⟨0, 0⟩)) ∧ Hid (OwnR 55 4 encDm wr (H + 3) (.slice aD k cD) (List.replicate k true)) ∧ Hid (Mod (fun j => j = H) W2 wr))
  case atStart => exact ⟨0, none, none, none, 0, 0, 0, by go_num, by omega, by omega, HO2, Lib.hid (OwnR.nil _ _), Lib.hid (OwnR.nil _ _), Lib.hid (OwnR.nil _ _), Lib.hid (Mod.refl _ _)⟩
  case round =>
    clear HO2
    obtain ⟨k, aC, aR, aD, cC, cR, cD, rfl, hk, hg1, HO, HC, HR, HD, HM⟩ := hrel
    by_cases hlt : k < n
    · have hltz : (k : Int) < (n : Int) := by omega
      have hsz : H + 3 ≤ wr.heap.size := by have := HM.out.size; have := HS2.out; omega
      have c7 : wr.cell? ⟨H, 7, none⟩ = some (.slice aC k cC) := HO.out.cell (i := 7) (by omega)
      have f7 := HO.out.frozen 7
      have lH : H < wr.heap.size := HO.out.lt
      have hlit : #[Value.string (twN k), .int .i64 0, .int .i64 1, .int .i64 6, .int .i64 32, .int .i64 2, .int .i64 0, .int .i64 0] = (encChg (twG k)).toArray := rfl
      obtain ⟨ap, vC', w3, av, aw, HC3⟩ := app_one (t := 36) (twG k) infoChg Tryz.underlying36 rfl (by omega) encChg_len encChg_one HC.out hsz hlit (by simp; omega) (by omega)
      obtain ⟨aC', cC', hv'⟩ := HC3.out.1.shape
      rw [show ((List.range k).map twG ++ [twG k]).length = k + 1 from by simp] at hv'
      subst hv'
      have HO3 := Lib.hid (own_low HC.out HC3.out.2 HO.out (show H < H + 3 by omega))
      have c7' : w3.cell? ⟨H, 7, none⟩ = some (.slice aC k cC) := HO3.out.cell (i := 7) (by omega)
      have f7' := HO3.out.frozen 7
      have lH3 : H < w3.heap.size := HO3.out.lt
      have wk1 : IntKind.i64.wrap (97 + (k : Int)) = 97 + (k : Int) := IntWalk.i64_in _ (by omega)
      have wk2 : IntKind.i32.wrap (97 + (k : Int)) = 97 + (k : Int) := rune_in k (by omega)
      have HEN : Hid ((⟨#[112]⟩ : ByteArray) ++ Utf8.encode (97 + (k : Int)) = twN k) := Lib.hid (rune_enc k (by omega))
      obtain ⟨en, hen⟩ : ∃ b, b = Utf8.encode (97 + (k : Int)) := ⟨_, rfl⟩
      have henc : Utf8.encode (97 + (k : Int)) = en := hen.symm
      have hes : en.size = 1 := by rw [hen]; exact rune_size k (by omega)
      rw [← hen] at HEN
      clear hen
      have happ : (⟨#[112]⟩ : ByteArray) ++ en = twN k := HEN.out
      clear hlit hsz
      go_upto_region 6 with (fail)
      have HKZ : Hid (0 ≤ (k : Int) ∧ (k : Int) ≤ 3) := Lib.hid (by omega)
      have wk1b := Lib.hid wk1
      have wk2b := Lib.hid wk2
      have hencb := Lib.hid henc
      clear wk1 wk2 henc
      generalize hz : ((k : Nat) : Int) = z at wk1b wk2b hencb HKZ ⊢
      have wk1 := wk1b.out
      have wk2 := wk2b.out
      have henc := hencb.out
      have HZ := Lib.hid hz
      clear hz wk1b wk2b hencb hltz
      have hz0 := HKZ.out.1
      have hz3 := HKZ.out.2
      go_upto_region 7 with (fail)
      obtain ⟨w4, hw4⟩ : ∃ W, W = w3.setCell ⟨H, 7, none⟩ (.slice aC' (k + 1) cC') := ⟨_, rfl⟩
      have HO4 : Hid (Own w4 H 44 15 (hfF [.int .i64 hv, .int .i64 1, .slice none 0 0, .slice none 0 0, .slice (some ⟨H + 1, 0, none⟩) 1 1, .slice (some ⟨H + 1 + 1, 0, none⟩) 1 1, .slice none 0 0, .slice aC' (k + 1) cC', .slice none 0 0, .slice none 0 0, .slice aR k cR, .slice aD k cD, .int .i64 1, .slice none 0 0, .slice none 0 0])) := Lib.hid (by rw [hw4]; exact HO3.out.hfSet (i := 7) (by show 7 < 15; omega) _)
      have HC4 : Hid (OwnR 59 8 encChg w4 (H + 3) (.slice aC' (k + 1) cC') ((List.range (k + 1)).map twG)) := Lib.hid (by rw [hw4, List.range_succ, List.map_append]; exact HC3.out.1.otherT (p := ⟨H, 7, none⟩) (show H < H + 3 by omega) _)
      have HR4 : Hid (OwnR 76 2 encRmp w4 (H + 3) (.slice aR k cR) (List.replicate k ⟨0, 0⟩)) := Lib.hid (by rw [hw4]; exact (HR.out.mod HC3.out.2 (fun k hk hk' => own_ne HR.out HC.out (by decide) k hk hk')).otherT (p := ⟨H, 7, none⟩) (show H < H + 3 by omega) _)
      have HD4 : Hid (OwnR 55 4 encDm w4 (H + 3) (.slice aD k cD) (List.replicate k true)) := Lib.hid (by rw [hw4]; exact (HD.out.mod HC3.out.2 (fun k hk hk' => own_ne HD.out HC.out (by decide) k hk hk')).otherT (p := ⟨H, 7, none⟩) (show H < H + 3 by omega) _)
      have HM4 : Hid (Mod (fun j => j = H) W2 w4) := Lib.hid (by rw [hw4]; exact Mod.setCell (M := fun j => j = H) (HM.out.trans2N HC3.out.2 (fun j hj => by have := (World.ownsRow.lt HC.out j hj).1; have := HS2.out; omega)) (p := ⟨H, 7, none⟩) (.inl rfl) _)
      rw [← hw4]
      have hs4 : H + 3 ≤ w4.heap.size := by have := HM4.out.size; have := HS2.out; omega
      clear hw4 ap av aw c7 f7 lH c7' f7' lH3 HO3 HO HC HR HD HM HC3 wk1 wk2 henc happ hes HEN
      have c7 : w4.cell? ⟨H, 10, none⟩ = some (.slice aR k cR) := HO4.out.cell (i := 10) (by omega)
      have lH : H < w4.heap.size := HO4.out.lt
      obtain ⟨ap, vC', w5, av, aw, HC5⟩ := app_one (t := 41) (⟨0, 0⟩ : Rmp) appInfoRmp Tryz.underlying41 rfl (by omega) encRmp_len encRmp_one HR4.out hs4 (lit := #[.int .i64 0, .int .i64 0]) rfl (by simp; omega) (by omega)
      obtain ⟨aR', cR', hv'⟩ := HC5.out.1.shape
      rw [show (List.replicate k (⟨0, 0⟩ : Rmp) ++ [(⟨0, 0⟩ : Rmp)]).length = k + 1 from by simp] at hv'
      subst hv'
      have HO5 := Lib.hid (own_low HR4.out HC5.out.2 HO4.out (show H < H + 3 by omega))
      have c7' : w5.cell? ⟨H, 10, none⟩ = some (.slice aR k cR) := HO5.out.cell (i := 10) (by omega)
      have f7' := HO5.out.frozen 10
      have lH3 : H < w5.heap.size := HO5.out.lt
      clear hs4
      go_upto_region 8 with (fail)
      obtain ⟨w6, hw6⟩ : ∃ W, W = w5.setCell ⟨H, 10, none⟩ (.slice aR' (k + 1) cR') := ⟨_, rfl⟩
      have HO6 : Hid (Own w6 H 44 15 (hfF [.int .i64 hv, .int .i64 1, .slice none 0 0, .slice none 0 0, .slice (some ⟨H + 1, 0, none⟩) 1 1, .slice (some ⟨H + 1 + 1, 0, none⟩) 1 1, .slice none 0 0, .slice aC' (k + 1) cC', .slice none 0 0, .slice none 0 0, .slice aR' (k + 1) cR', .slice aD k cD, .int .i64 1, .slice none 0 0, .slice none 0 0])) := Lib.hid (by rw [hw6]; exact HO5.out.hfSet (i := 10) (by show 10 < 15; omega) _)
      have HR6 : Hid (OwnR 76 2 encRmp w6 (H + 3) (.slice aR' (k + 1) cR') (List.replicate (k + 1) ⟨0, 0⟩)) := Lib.hid (by rw [hw6, List.replicate_succ']; exact HC5.out.1.otherT (p := ⟨H, 10, none⟩) (show H < H + 3 by omega) _)
      have HC6 : Hid (OwnR 59 8 encChg w6 (H + 3) (.slice aC' (k + 1) cC') ((List.range (k + 1)).map twG)) := Lib.hid (by rw [hw6]; exact (HC4.out.mod HC5.out.2 (fun k hk hk' => own_ne HC4.out HR4.out (by decide) k hk hk')).otherT (p := ⟨H, 10, none⟩) (show H < H + 3 by omega) _)
      have HD6 : Hid (OwnR 55 4 encDm w6 (H + 3) (.slice aD k cD) (List.replicate k true)) := Lib.hid (by rw [hw6]; exact (HD4.out.mod HC5.out.2 (fun k hk hk' => own_ne HD4.out HR4.out (by decide) k hk hk')).otherT (p := ⟨H, 10, none⟩) (show H < H + 3 by omega) _)
      have HM6 : Hid (Mod (fun j => j = H) W2 w6) := Lib.hid (by rw [hw6]; exact Mod.setCell (M := fun j => j = H) (HM4.out.trans2N HC5.out.2 (fun j hj => by have := (World.ownsRow.lt HR4.out j hj).1; have := HS2.out; omega)) (p := ⟨H, 10, none⟩) (.inl rfl) _)
      rw [← hw6]
      have hs6 : H + 3 ≤ w6.heap.size := by have := HM6.out.size; have := HS2.out; omega
      clear hw6 ap av aw c7 lH c7' f7' lH3 HO5 HO4 HC4 HR4 HD4 HM4 HC5
      have c7 : w6.cell? ⟨H, 11, none⟩ = some (.slice aD k cD) := HO6.out.cell (i := 11) (by omega)
      have lH : H < w6.heap.size := HO6.out.lt
      obtain ⟨ap, vC', w7, av, aw, HC7⟩ := app_one (t := 42) true infoDem Tryz.underlying42 rfl (by omega) encDm_len encDm_one HD6.out hs6 (lit := #[.bool true, .int .i64 0, .int .i64 500, .int .i64 1]) rfl (by simp; omega) (by omega)
      obtain ⟨aD', cD', hv'⟩ := HC7.out.1.shape
      rw [show (List.replicate k true ++ [true]).length = k + 1 from by simp] at hv'
      subst hv'
      have HO7 := Lib.hid (own_low HD6.out HC7.out.2 HO6.out (show H < H + 3 by omega))
      have c7' : w7.cell? ⟨H, 11, none⟩ = some (.slice aD k cD) := HO7.out.cell (i := 11) (by omega)
      have f7' := HO7.out.frozen 11
      have lH3 : H < w7.heap.size := HO7.out.lt
      clear hs6
      go_upto_region 9 with (fail)
      obtain ⟨w8, hw8⟩ : ∃ W, W = w7.setCell ⟨H, 11, none⟩ (.slice aD' (k + 1) cD') := ⟨_, rfl⟩
      have HO8 : Hid (Own w8 H 44 15 (hfF [.int .i64 hv, .int .i64 1, .slice none 0 0, .slice none 0 0, .slice (some ⟨H + 1, 0, none⟩) 1 1, .slice (some ⟨H + 1 + 1, 0, none⟩) 1 1, .slice none 0 0, .slice aC' (k + 1) cC', .slice none 0 0, .slice none 0 0, .slice aR' (k + 1) cR', .slice aD' (k + 1) cD', .int .i64 1, .slice none 0 0, .slice none 0 0])) := Lib.hid (by rw [hw8]; exact HO7.out.hfSet (i := 11) (by show 11 < 15; omega) _)
      have HD8 : Hid (OwnR 55 4 encDm w8 (H + 3) (.slice aD' (k + 1) cD') (List.replicate (k + 1) true)) := Lib.hid (by rw [hw8, List.replicate_succ']; exact HC7.out.1.otherT (p := ⟨H, 11, none⟩) (show H < H + 3 by omega) _)
      have HC8 : Hid (OwnR 59 8 encChg w8 (H + 3) (.slice aC' (k + 1) cC') ((List.range (k + 1)).map twG)) := Lib.hid (by rw [hw8]; exact (HC6.out.mod HC7.out.2 (fun k hk hk' => own_ne HC6.out HD6.out (by decide) k hk hk')).otherT (p := ⟨H, 11, none⟩) (show H < H + 3 by omega) _)
      have HR8 : Hid (OwnR 76 2 encRmp w8 (H + 3) (.slice aR' (k + 1) cR') (List.replicate (k + 1) ⟨0, 0⟩)) := Lib.hid (by rw [hw8]; exact (HR6.out.mod HC7.out.2 (fun k hk hk' => own_ne HR6.out HD6.out (by decide) k hk hk')).otherT (p := ⟨H, 11, none⟩) (show H < H + 3 by omega) _)
      have HM8 : Hid (Mod (fun j => j = H) W2 w8) := Lib.hid (by rw [hw8]; exact Mod.setCell (M := fun j => j = H) (HM6.out.trans2N HC7.out.2 (fun j hj => by have := (World.ownsRow.lt HD6.out j hj).1; have := HS2.out; omega)) (p := ⟨H, 11, none⟩) (.inl rfl) _)
      rw [← hw8]
      clear hw8 ap av aw c7 lH c7' f7' lH3 HO7 HO6 HC6 HR6 HD6 HM6 HC7 hz0 hz3
      have hz := HZ.out
      clear HZ HKZ
      subst hz
      go_wp2_with fail
      go_roundg (n - (k + 1))
      case measure => omega
      case rel => exact ⟨k + 1, aC', aR', aD', cC', cR', cD', by go_num, by omega, by omega, HO8, HC8, HR8, HD8, HM8⟩
    · have hltz : ¬ (k : Int) < (n : Int) := by omega
      have hkn : k = n := by omega
      subst hkn
      obtain ⟨bC, rfl, -, hbC, hrC⟩ := HC.out.cellAt encChg_len (by simp; omega)
      obtain ⟨bR, rfl, -, hbR, hrR⟩ := HR.out.cellAt encRmp_len (by simp; omega)
      obtain ⟨bD, rfl, -, hbD, hrD⟩ := HD.out.cellAt encDm_len (by simp; omega)
      have HF := Lib.hid (And.intro (And.intro hbC hrC) (And.intro (And.intro hbR hrR) (And.intro hbD hrD)))
      have HHS : Hid (w.heap.size ≤ H ∧ H < W2.heap.size) := Lib.hid ⟨HHW.out, by have := HS2.out; omega⟩
      have HCM : Hid (Rd 11 encCon wr (some ⟨H + 1, 0, none⟩) [twC 1] ∧ Rd 1 encS wr (some ⟨H + 1 + 1, 0, none⟩) [⟨#[111]⟩]) := Lib.hid ⟨HC2.out.1.mod HM.out (fun a e _ hp => by injection e with e; subst e; dsimp only at hp; omega), HC2.out.2.mod HM.out (fun a e _ hp => by injection e with e; subst e; dsimp only at hp; omega)⟩
      have HBE : Hid (Below w.heap.size w wr) := Lib.hid (HB2.out.trans (HM.out.below HB2.out.size (fun j _ e => by have := HHW.out; omega)))
      clear HC HR HD hbC hrC hbR hrR hbD hrD
      go_wp2_with fail
      go_ret
      refine ⟨H, ⟨none, 0, 0, none, 0, 0, some ⟨H + 1, 0, none⟩, 1, some ⟨H + 1 + 1, 0, none⟩, 1, none, 0, bC, 0, cC, none, 0, none, 0, 0, bR, 0, cR, bD, 0, cD, .slice none 0 0, .slice none 0 0, 1⟩, rfl, HHW.out, HO.out, fun B => ?_, HBE.out⟩
      obtain ⟨⟨hbC, hrC⟩, ⟨hbR, hrR⟩, hbD, hrD⟩ := HF.out
      refine ⟨⟨Rd.nil, rfl, Rd.nil, rfl⟩, ⟨HCM.out.1, HCM.out.2, Rd.nil, hrC, Rd.nil, rfl, rfl, rfl, by simp [twS], rfl, by omega, by omega, by omega, by omega, by omega, fun y hy => ?_⟩, (by show (1 : Int) ≤ 1 ∧ (1 : Int) ≤ 1000; omega), Rd.nil, rfl, ?_, ?_, fun p e => (by cases e), fun p e => (by cases e), ?_, ?_, (by show ¬ (bC = H ∨ bC < w.heap.size); have := HHW.out; omega), fun p e => (by cases e), (by show ¬ (bR = H ∨ bR < w.heap.size); have := HHW.out; omega), (by show ¬ (bD = H ∨ bD < w.heap.size); have := HHW.out; omega), OwnR.nil _ _, OwnR.nil _ _, rfl, fun k e => (by cases e), fun k e => (by cases e), (fun e => by cases e), (fun e => by cases e), fun k e => (by cases e)⟩
      · have := (okNameB_iff.1 ((twS_ok (cap := 1) hn0 hn (by omega)).names.1 y hy)).1.2.1
        unfold maxLen; omega
      · intro i hi
        have hx : (List.replicate k (⟨0, 0⟩ : Rmp))[i]? = some ⟨0, 0⟩ := by rw [List.getElem?_replicate, if_pos hi]
        obtain ⟨b, off, e, _, hc⟩ := hrR (by simp; omega)
        injection e with e
        injection e with e1 e2 _
        subst e1
        subst e2
        exact ⟨by have := hc i _ hx 0 _ rfl; simpa [newX] using this, by have := hc i _ hx 1 _ rfl; simpa [newX] using this, ⟨.inl rfl, Int.le_refl _, by show (0 : Int) ≤ 1000000; omega⟩⟩
      · intro i hi
        have hx : (List.replicate k true)[i]? = some true := by rw [List.getElem?_replicate, if_pos hi]
        obtain ⟨b, off, e, _, hc⟩ := hrD (by simp; omega)
        injection e with e
        injection e with e1 e2 _
        subst e1
        subst e2
        exact ⟨by have := hc i _ hx 0 _ rfl; simpa [newX] using this, by have := hc i _ hx 1 _ rfl; simpa using this, by have := hc i _ hx 2 _ rfl; simpa using this, by have := hc i _ hx 3 _ rfl; simpa using this⟩
      · intro p e _ hp
        injection e with e; subst e; dsimp only at hp; have := HHW.out; omega
      · intro p e _ hp
        injection e with e; subst e; dsimp only at hp; have := HHW.out; omega
end Go.Proofs.YtkbbapefgifagaaGreatDoor
