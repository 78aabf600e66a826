/-
  Walks and laws of this seat.
-/
import Derived.Test.YteicdfkmpnmkmaaGreatU8
import Derived.Test.YteicdfkmpnmkmaaGreatPB
import Derived.Test.YteicdfkmpnmkmaaGreatPJ
import Derived.Test.YteicdfkmpnmkmaaGreatPK
namespace Go.V
set_option linter.unusedVariables false
set_option linter.unusedSimpArgs false
set_option linter.unusedSectionVars false
set_option maxRecDepth 100000
open Go.RowKit Go.Sl
def encs (xs : List Int) : List Nat := xs.flatMap fun x => encU x.toNat
theorem byL_inj {s t : ByteArray} (h : byL s = byL t) : s = t := by
  have : s.data.toList = t.data.toList := by
    unfold byL at h
    exact List.map_inj_right (fun a b e => UInt8.toNat_inj.1 e) |>.1 h
  exact ByteArray.ext (Array.toList_inj.1 this)
def V8 (s : ByteArray) : Prop := encs (runesIn s) = byL s
theorem ycx {xs : List Int} (h : ∀ x ∈ xs, Utf8.valid x = true) : byL (textOf xs) = encs xs := by
  rw [textOf, ybt xs _ h]; rfl
theorem V8_iff {s : ByteArray} : V8 s ↔ textOf (runesIn s) = s := by
  unfold V8
  rw [← ycx (zwl s)]
  exact ⟨byL_inj, fun h => by rw [h]⟩
theorem ztm {c : Nat} : 1 ≤ (encU c).length ∧ (128 ≤ c → 2 ≤ (encU c).length) ∧ (2048 ≤ c → 3 ≤ (encU c).length) ∧ (65536 ≤ c → 4 ≤ (encU c).length) := by
  unfold encU
  split
  · refine ⟨by simp, ?_, ?_, ?_⟩ <;> intro h <;> omega
  · split
    · refine ⟨by simp, ?_, ?_, ?_⟩ <;> intro h <;> first | omega | simp
    · split
      · refine ⟨by simp, ?_, ?_, ?_⟩ <;> intro h <;> first | omega | simp
      · refine ⟨by simp, ?_, ?_, ?_⟩ <;> intro h <;> simp
theorem decU_len (l : List Nat) : (decU l).2 ≤ (encU (decU l).1).length := by
  have e1 : 1 ≤ (encU 65533).length := by decide
  simp only [decU]
  split
  · exact ztm.1
  · split
    · split
      · exact ztm.2.1 ‹_›
      · exact e1
    · split
      · split
        · rename_i h
          simp only [ge_iff_le, Bool.and_eq_true, decide_eq_true_eq] at h
          exact ztm.2.2.1 h.1
        · exact e1
      · split
        · split
          · rename_i h
            simp only [ge_iff_le, Bool.and_eq_true, decide_eq_true_eq] at h
            exact ztm.2.2.2 h.1
          · exact e1
        · exact e1
theorem zxl : ∀ (m : Nat) (l : List Nat), l.length ≤ m → l.length ≤ (encs (runesS l)).length
  | _,[], _ => by simp
  | 0, _ :: _, h => by simp at h
  | m + 1, b :: l, h => by
    have h1 := zor (b :: l)
    have h2 := decU_len (b :: l)
    have h3 := zxl m ((b :: l).drop (decU (b :: l)).2) (by simp at h ⊢; omega)
    rw [zlu]
    unfold encs at h3 ⊢
    rw [List.flatMap_cons, List.length_append, Int.toNat_natCast]
    rw [List.length_drop] at h3
    omega
theorem zwa {X Y : List Nat} {b : Nat} (hb : b < 128) (h : encs (runesS (X ++ b :: Y)) = X ++ b :: Y) : encs (runesS X) = X ∧ encs (runesS Y) = Y := by
  have e : encU b = [b] := by unfold encU; rw [if_pos hb]
  have hh : encs (runesS X) ++ (b :: encs (runesS Y)) = X ++ b :: Y := by
    rw [zuw hb] at h
    unfold encs at h ⊢
    rw [List.flatMap_append, List.flatMap_cons, Int.toNat_natCast, e] at h
    simpa using h
  have l1 := zxl _ X (Nat.le_refl _)
  have l2 := zxl _ Y (Nat.le_refl _)
  have hl := congrArg List.length hh
  simp only [List.length_append, List.length_cons] at hl
  obtain ⟨h1, h2⟩ := List.append_inj hh (by omega)
  exact ⟨h1,(List.cons.inj h2).2⟩
theorem fresh_V {s : ByteArray} (h : V8 s) : fresh (byL s) := by
  unfold V8 at h
  rw [← h]
  unfold fresh contL
  cases e : runesIn s with
  | nil => rfl
  | cons x xs =>
    unfold encs
    rw [List.flatMap_cons]
    have : ∃ b l, encU x.toNat = b :: l ∧ b / 64 ≠ 2 := by
      unfold encU
      split
      · exact ⟨_, _, rfl, by omega⟩
      · split
        · exact ⟨_, _, rfl, by omega⟩
        · split
          · exact ⟨_, _, rfl, by omega⟩
          · exact ⟨_, _, rfl, by omega⟩
    obtain ⟨b, l, e1, e2⟩ := this
    rw [e1]
    show (b / 64 == 2) = false
    simpa using e2
theorem ydv {s t : ByteArray} (h : V8 t) : runesIn (s ++ t) = runesIn s ++ runesIn t := by
  rw [zgu, zgu, zgu, zh3, zlv (fresh_V h) _ _ (Nat.le_refl _)]
theorem ybz {s t : ByteArray} (h : V8 s) (g : V8 t) : V8 (s ++ t) := by
  unfold V8 at *
  rw [ydv g, zh3, ← h, ← g]
  unfold encs
  rw [List.flatMap_append]
theorem yg5 : V8 (bs []) := rfl
def nbS (s : ByteArray) : List Int := (runesIn s).filter fun r => !blR r.toNat
theorem ya5 {s t : ByteArray} (h : V8 t) : nbS (s ++ t) = nbS s ++ nbS t := by
  unfold nbS
  rw [ydv h, List.filter_append]
theorem yec : nbS (bs []) = [] := rfl
theorem zwe {s : ByteArray} : ∀ (m p : Nat), blAt (m + 1) s p = true → s.size - p ≤ m → ∀ k,(runesFr s k p).filter (fun r => !blR r.toNat) = []
  | m, p, h, hm,0 => rfl
  | m, p, h, hm, k + 1 => by
    rw [blAt] at h
    unfold runesFr
    split at h
    · rename_i hp
      rw [if_pos hp]
      rw [Bool.and_eq_true] at h
      have hd := zh2 s p
      obtain ⟨m', rfl⟩ : ∃ m', m = m' + 1 := ⟨m - 1, by omega⟩
      rw [List.filter_cons, if_neg (by rw [Int.toNat_natCast, h.1]; simp)]
      exact zwe m' _ h.2 (by omega) k
    · rename_i hp
      rw [if_neg hp]; rfl
theorem yed {s : ByteArray} (h : blankS s = true) : nbS s = [] := zwe s.size 0 h (by omega) _
theorem zpv : ∀ (xs : List Int) (s : ByteArray), xs.foldl (fun s r => s ++ Utf8.encode r) s = s ++ textOf xs
  | [], s => by simp [textOf]
  | x :: xs, s => by
    rw [textOf, List.foldl_cons, List.foldl_cons, zpv xs, zpv xs]
    simp [ByteArray.append_assoc]
theorem zzp (x : Int) (xs : List Int) : textOf (x :: xs) = Utf8.encode x ++ textOf xs := by
  rw [textOf, List.foldl_cons, zpv]
  simp
theorem enc_size (x : Int) : (Utf8.encode x).size ≤ 4 := by
  simp only [Utf8.encode]
  repeat' split
  all_goals simp [ByteArray.size]
theorem yd1 {r : Nat} : zbt (r : Int) = some (blR r) := by
  unfold zbt blR
  have e : ∀ m : Nat, decide ((r : Int) = (m : Int)) = decide (r = m) := fun m => by
    by_cases h : r = m
    · simp [h]
    · rw [decide_eq_false h, decide_eq_false (by omega)]
  rw [show (9 : Int) = ((9 : Nat) : Int) from rfl, show (10 : Int) = ((10 : Nat) : Int) from rfl, show (12 : Int) = ((12 : Nat) : Int) from rfl, show (32 : Int) = ((32 : Nat) : Int) from rfl, e, e, e, e]
  cases decide (r = 9) <;> cases decide (r = 10) <;> cases decide (r = 12) <;> rfl
theorem yb4 {s : ByteArray} (hs : s.size ≤ 1000000000000) : T (fun k _ => zhx k s) (· = textOf (nbS s)) := by
  have key : ∀ (m p : Nat) (v : ByteArray), s.size - p ≤ m → v.size ≤ 4 * p → T (fun _ n => ze6 n v (s, p)) (· = v ++ textOf ((runesFr s m p).filter fun r => !blR r.toNat)) := by
    intro m
    induction m with
    | zero =>
      intro p v h1 h2
      refine T.step ?_
      unfold ze6
      refine T.dec (fun h => by simp only at h; omega) fun _ => T.some ?_
      simp [runesFr, textOf]
    | succ m ih =>
      intro p v h1 h2
      refine T.step ?_
      unfold ze6 runesFr
      refine T.dec (fun h => ?_) fun h => T.some ?_
      · simp only at h
        have hd := zh2 s p
        rw [if_pos h]
        refine T.bindE (T.ofE yd1) ?_
        rw [List.filter_cons, Int.toNat_natCast]
        have es := enc_size ((Utf8.decode s p).1 : Int)
        cases hb : blR (Utf8.decode s p).1 with
        | true =>
          rw [if_neg (by simp)]
          exact ih (p + (Utf8.decode s p).2) v (by omega) (by omega)
        | false =>
          rw [if_pos (by simp), zzp, ← ByteArray.append_assoc]
          simp only [Bool.not_false, cond_true]
          refine T.addS (Nat.le_trans (Nat.add_le_add h2 es) (by omega)) ?_
          exact ih (p + (Utf8.decode s p).2) (v ++ Utf8.encode ((Utf8.decode s p).1 : Int)) (by omega) (by rw [ByteArray.size_append]; omega)
      · simp only at h
        rw [if_neg h]
        simp [textOf]
  refine T.diag (F := fun _ n => zj9 n s) ?_
  unfold zj9
  refine (key s.size 0 (bs []) (by omega) (by decide)).mono fun r e => ?_
  rw [e]
  show bs [] ++ _ = _
  have : ∀ x : ByteArray, bs [] ++ x = x := fun x => by
    show ByteArray.empty ++ x = x
    simp
  rw [this]; rfl
end Go.V
namespace Go.V
set_option linter.unusedVariables false
set_option linter.unusedSimpArgs false
set_option linter.unusedSectionVars false
set_option maxRecDepth 100000
open Go.RowKit Go.Sl
def Glued (s txt : ByteArray) : Prop := ∃ X R, byL s = X ++ 124 :: (byL txt ++ R) ∧ (R = [] ∨ ∃ q, R = 124 :: q)
theorem Glued.bar {s txt : ByteArray} (h : Glued s txt) : Glued (s ++ bs [124]) txt ∧ ∀ y, Glued (s ++ bs [124] ++ y) txt := by
  obtain ⟨X, R, e, hR⟩ := h
  have e1 : byL (bs [124]) = [124] := rfl
  refine ⟨⟨X, R ++ [124], by rw [zh3, e, e1]; simp, ?_⟩, fun y => ⟨X, R ++ 124 :: byL y, by rw [zh3, zh3, e, e1]; simp, ?_⟩⟩
  · rcases hR with rfl | ⟨q, rfl⟩
    · exact .inr ⟨[], rfl⟩
    · exact .inr ⟨q ++ [124], by simp⟩
  · rcases hR with rfl | ⟨q, rfl⟩
    · exact .inr ⟨byL y, by simp⟩
    · exact .inr ⟨q ++ 124 :: byL y, by simp⟩
theorem Glued.V {s txt : ByteArray} (h : Glued s txt) (hv : textOf (runesIn s) = s) : V8 txt := by
  obtain ⟨X, R, e, hR⟩ := h
  have h1 := V8_iff.2 hv
  unfold V8 at h1
  rw [zgu, e] at h1
  have h2 := (zwa (by decide) h1).2
  unfold V8
  rw [zgu]
  rcases hR with rfl | ⟨q, rfl⟩
  · simpa using h2
  · exact (zwa (by decide) h2).1
theorem runes2_T {s : ByteArray} (hs : s.size ≤ 70368744177664) : T (fun _ _ => runesM s) (· = runesIn s) := by
  refine T.of (r := runesIn s) ?_ rfl
  unfold runesM
  rw [decide_eq_true hs]; rfl
theorem whole4_V {t : TreT} (hb : BulkT t) (hl : (t.1.length : Int) ≤ 1000000) : ∀ (m : Nat) (i : Int), t.1.length - i.toNat ≤ m → 0 ≤ i → i ≤ t.1.length → T (fun k n => zf6 k n t i) fun b => b = true → ∀ (j : Nat) r, i ≤ j → t.1[j]? = some r → V8 r.2.2.1 := by
  intro m
  have no : ∀ i : Int, ¬ i < t.1.length → T (fun _ _ => some true) fun b => b = true → ∀ (j : Nat) r, i ≤ j → t.1[j]? = some r → V8 r.2.2.1 := fun i hi => T.some fun _ j r hj hr => by
    have := (List.getElem?_eq_some_iff.1 hr).1
    omega
  induction m with
  | zero =>
    intro i h h0 h1
    refine T.step ?_
    unfold zf6
    exact T.dec (fun _ => by omega) fun hi => no i hi
  | succ m ih =>
    intro i h h0 h1
    refine T.step ?_
    unfold zf6
    refine T.dec (fun hi => T.get h0 hi fun r hr => ?_) fun hi => no i hi
    have hn := hb r (List.mem_of_getElem? hr)
    have e1 : (bs [124]).size = 1 := rfl
    have b1 := hn.1
    have b2 := hn.2.1
    have b3 := hn.2.2.1
    have k8 : ∀ (m2 : Nat) (s : ByteArray) (j : Int), r.2.2.2.1.length - j.toNat ≤ m2 → 0 ≤ j → j ≤ r.2.2.2.1.length → (s.size : Int) ≤ 5000000 + 4000010 * j → Glued s r.2.2.1 → T (fun k n => zh0 k n t i s j) fun b => b = true → ∀ (j : Nat) r, i ≤ j → t.1[j]? = some r → V8 r.2.2.1 := by
      have up : ∀ (s : ByteArray),(s.size : Int) ≤ 10000000000000 → Glued s r.2.2.1 → T (fun k n => (runesM s).bind fun r15 => bif decide ((textOf r15) ≠ s) then some false else zf6 k n t (w64 (i + 1))) fun b => b = true → ∀ (j : Nat) r, i ≤ j → t.1[j]? = some r → V8 r.2.2.1 := fun s hs hG => by
        rw [w64i (by omega)]
        refine T.bindE (runes2_T (by omega)) (T.dec (fun _ => T.some fun h => by cases h) fun hv => (ih _ (by omega) (by omega) (by omega)).mono fun b hbt e j q hj hq => ?_)
        by_cases ej : (j : Int) = i
        · have : j = i.toNat := by omega
          subst this
          rw [hr] at hq; cases hq
          exact hG.V (Classical.byContradiction hv)
        · exact hbt e j q (by omega) hq
      intro m2
      induction m2 with
      | zero =>
        intro s j h2 d0 d1 hs hG
        refine T.step ?_
        unfold zh0
        refine T.get h0 hi fun r6 h6 => ?_
        rw [hr] at h6; cases h6
        exact T.dec (fun _ => by omega) fun _ => up s (by omega) hG
      | succ m2 ih2 =>
        intro s j h2 d0 d1 hs hG
        refine T.step ?_
        unfold zh0
        refine T.get h0 hi fun r6 h6 => ?_
        rw [hr] at h6; cases h6
        refine T.dec (fun hj => T.addS (by omega) (T.get h0 hi fun r8 h8 => ?_)) fun _ => up s (by omega) hG
        rw [hr] at h8; cases h8
        refine T.get d0 hj fun a ha => ?_
        have hA := hn.2.2.2 a (List.mem_of_getElem? ha)
        refine T.addS (by rw [ByteArray.size_append]; omega) (T.addS (by simp only [ByteArray.size_append]; omega) (T.get h0 hi fun r12 h12 => ?_))
        rw [hr] at h12; cases h12
        refine T.get d0 hj fun a2 ha2 => ?_
        rw [ha] at ha2; cases ha2
        refine T.addS (by simp only [ByteArray.size_append]; omega) ?_
        rw [w64i (by omega)]
        exact ih2 _ _ (by omega) (by omega) (by omega) (by simp only [ByteArray.size_append]; omega) ((hG.bar.2 _).bar.2 _)
    refine T.addS (by omega) (T.get h0 hi fun r4 h4 => ?_)
    rw [hr] at h4; cases h4
    exact T.addS (by rw [ByteArray.size_append]; omega) (k8 _ _ 0 (Nat.le_refl _) (by omega) (by omega) (by simp only [ByteArray.size_append]; omega) ⟨byL r.2.1,[], by rw [zh3, zh3]; simp; rfl, .inl rfl⟩)
theorem whole_TV {t : TreT} (hb : BulkT t) : T (fun k _ => zsf k t) fun b => b = true → (TrOK t ∧ 0 < t.1.length ∧ TrK t) ∧ ∀ r ∈ t.1, V8 r.2.2.1 := by
  refine T.diag (F := fun k n => zkz k n t) ?_
  unfold zkz
  refine T.bind (right_T hb) fun r hr => T.dec (fun _ => T.some (by simp)) fun h => ?_
  have h0 := hr (Classical.byContradiction h)
  refine (whole4_V hb h0.1.len _ 0 (Nat.le_refl _) (by omega) (by omega)).mono fun b hbt e => ⟨h0, fun r hr => ?_⟩
  obtain ⟨j, hj⟩ := List.getElem?_of_mem hr
  exact hbt e j r (by omega) hj
end Go.V
namespace Go.V
set_option linter.unusedVariables false
set_option linter.unusedSimpArgs false
set_option linter.unusedSectionVars false
set_option maxRecDepth 100000
open Go.RowKit Go.Sl
mutual
def txT : BoxT → ByteArray
  | .mk x ks => x.2.2.2.2.1 ++ txL ks
def txL : List BoxT → ByteArray
  | [] => bs []
  | b :: r => txT b ++ txL r
end
theorem zy8 {x} {ks : List BoxT} : txT (.mk x ks) = x.2.2.2.2.1 ++ txL ks := by rw [txT]
theorem zzo : txL [] = bs [] := by rw [txL]
theorem zte {b : BoxT} {r : List BoxT} : txL (b :: r) = txT b ++ txL r := by rw [txL]
theorem yfw {s : ByteArray} : s ++ bs [] = s := by
  show s ++ ByteArray.empty = s
  simp
theorem texts_TE : ∀ (m : Nat) (b : BoxT), szT b ≤ m → szT b ≤ 100000 → (txT b).size ≤ 1000000000000000 → T (fun k _ => zde k b) (· = txT b) := by
  intro m
  induction m with
  | zero => intro b h; have := ydn (b := b); omega
  | succ m ih =>
    intro b h h2 h3
    refine T.stepK ?_
    unfold zde
    refine T.diag (F := fun k n => zj8 k (fun a0 => zde k a0) n b) ?_
    unfold zj8
    obtain ⟨x, ks⟩ := b
    rw [zox] at h h2
    rw [zy8] at h3
    have hlen := ydo (l := ks)
    have key : ∀ (m2 i : Nat) (v : ByteArray), ks.length - i ≤ m2 → i ≤ ks.length → v.size + (txL (ks.drop i)).size ≤ 1000000000000000 → T (fun k n => zfq k (fun a0 => zde k a0) n (Tr.mk x ks) v (i : Int)) (· = v ++ txL (ks.drop i)) := by
      intro m2
      induction m2 with
      | zero =>
        intro i v e1 e2 e3
        refine T.step ?_
        unfold zfq
        refine T.dec (fun hh => by have hh : (i : Int) < ks.length := hh; omega) fun _ => T.some ?_
        rw [List.drop_eq_nil_of_le (by omega), zzo, yfw]
      | succ m2 ih2 =>
        intro i v e1 e2 e3
        refine T.step ?_
        unfold zfq
        rw [show w64 ((i : Int) + 1) = ((i + 1 : Nat) : Int) by rw [w64i (by omega)]; omega]
        refine T.dec (fun hh => ?_) fun hh => T.some ?_
        · have hi : (i : Int) < ks.length := hh
          have hlt : i < ks.length := by omega
          rw [List.drop_eq_getElem_cons hlt, zte] at e3 ⊢
          rw [ByteArray.size_append] at e3
          refine T.get (by omega) hi fun c hc => ?_
          have hc : ks[i] = c := by
            have hc : ks[(i : Int).toNat]? = some c := hc
            rw [Int.toNat_natCast, List.getElem?_eq_getElem hlt] at hc
            exact Option.some.inj hc
          rw [hc] at e3 ⊢
          have hs := szL_at (j := i) (x := c) (by rw [List.getElem?_eq_getElem hlt, hc])
          simp only [Tr.eta]
          refine T.bindE (ih c (by omega) (by omega) (by omega)) (T.addS (by omega) ?_)
          rw [← ByteArray.append_assoc]
          exact ih2 (i + 1) _ (by omega) (by omega) (by rw [ByteArray.size_append]; omega)
        · have hh : ¬ (i : Int) < ks.length := hh
          rw [List.drop_eq_nil_of_le (by omega), zzo, yfw]
    rw [ByteArray.size_append] at h3
    have := key _ 0 x.2.2.2.2.1 (Nat.le_refl _) (by omega) (by simpa using h3)
    rw [List.drop_zero] at this
    rw [zy8]
    exact this
mutual
theorem zzn : ∀ (b : BoxT) (n : Int), txT (numB b n).1 = txT b
  | .mk x ks, n => by
    rw [zxe, zy8, zy8, ydk ks]
theorem ydk : ∀ (l : List BoxT) (n : Int), txL (numL l n).1 = txL l
  | [], n => by rw [zxd]
  | b :: r, n => by
    rw [zub, zte, zte, zzn b, ydk r]
end
section
variable (ns : List NodT)
mutual
/-- A box has its node's text; one of no node has none. -/
def TXT : BoxT → Prop
  | .mk x ks => ((x.2.1 < 0 ∧ x.2.2.2.2.1 = bs []) ∨ (0 ≤ x.2.1 ∧ ∃ r, ns[x.2.1.toNat]? = some r ∧ x.2.2.2.2.1 = r.2.2.1)) ∧ TXL ks
def TXL : List BoxT → Prop
  | [] => True
  | b :: r => TXT b ∧ TXL r
end
def gN (i : Int) : List Int := match ns[i.toNat]? with
  | some r => nbS r.2.2.1
  | none => []
end
section
variable {ns : List NodT}
theorem zzc {x} {ks : List BoxT} : TXT ns (.mk x ks) ↔ ((x.2.1 < 0 ∧ x.2.2.2.2.1 = bs []) ∨ (0 ≤ x.2.1 ∧ ∃ r, ns[x.2.1.toNat]? = some r ∧ x.2.2.2.2.1 = r.2.2.1)) ∧ TXL ns ks := by rw [TXT]
theorem zmm : ∀ {l : List BoxT}, TXL ns l ↔ ∀ b ∈ l, TXT ns b
  | [] => by simp [TXL]
  | b :: r => by rw [TXL, zmm]; simp
theorem yau {l k : List BoxT} : TXL ns (k ++ l) ↔ TXL ns k ∧ TXL ns l := by
  rw [zmm, zmm, zmm]
  simp only [List.mem_append]
  exact ⟨fun h => ⟨fun b hb => h b (.inl hb), fun b hb => h b (.inr hb)⟩, fun h b hb => hb.elim (h.1 b) (h.2 b)⟩
mutual
theorem txT_nb (hV : ∀ r ∈ ns, V8 r.2.2.1 ∧ r.2.2.1.size ≤ 2000000) : ∀ (b : BoxT), TXT ns b → V8 (txT b) ∧ nbS (txT b) = (ndT b).flatMap (gN ns) ∧ (txT b).size ≤ 2000000 * szT b
  | .mk x ks, h => by
    obtain ⟨h1, h2⟩ := zzc.1 h
    obtain ⟨k1, k2, k3⟩ := txL_nb hV ks h2
    rw [zy8, zk7, zox, ya5 k1, k2, List.flatMap_append, ByteArray.size_append]
    rcases h1 with ⟨h3, h4⟩ | ⟨h3, r, h4, h5⟩
    · rw [h4, if_neg (by omega)]
      exact ⟨ybz yg5 k1, by simp [yec], by have : (bs []).size = 0 := rfl; omega⟩
    · obtain ⟨v1, v2⟩ := hV r (List.mem_of_getElem? h4)
      rw [h5, if_pos h3]
      refine ⟨ybz v1 k1, ?_, by omega⟩
      rw [List.flatMap_cons, List.flatMap_nil, List.append_nil]
      unfold gN
      rw [h4]
theorem txL_nb (hV : ∀ r ∈ ns, V8 r.2.2.1 ∧ r.2.2.1.size ≤ 2000000) : ∀ (l : List BoxT), TXL ns l → V8 (txL l) ∧ nbS (txL l) = (ndL l).flatMap (gN ns) ∧ (txL l).size ≤ 2000000 * szL l
  | [], _ => by
    rw [zzo, zg1]
    exact ⟨yg5, rfl, by show 0 ≤ _; omega⟩
  | b :: r, h => by
    rw [TXL] at h
    obtain ⟨k1, k2, k3⟩ := txT_nb hV b h.1
    obtain ⟨m1, m2, m3⟩ := txL_nb hV r h.2
    rw [zte, zhh, zi4, ya5 m1, k2, m2, List.flatMap_append, ByteArray.size_append]
    exact ⟨ybz k1 m1, rfl, by omega⟩
end
section
variable {p : BoxT → Bool} {plain : Bool} {an : List BoxT → BoxT}
theorem zoi (hA : ∀ run, TXL ns run → TXT ns (an run)) : ∀ {l out run : List BoxT}, TXL ns l → TXL ns out → TXL ns run → TXL ns (wrapP p plain an l out run) := by
  have hE : ∀ {out run : List BoxT}, TXL ns out → TXL ns run → TXL ns (endP plain an out run) := fun {out run} h1 h2 => by
    unfold endP
    split
    · exact h1
    · exact yau.2 ⟨h1, zmm.2 fun b hb => by rw [List.mem_singleton.1 hb]; exact hA run h2⟩
  intro l
  induction l with
  | nil => intro out run _ h1 h2; rw [wrapP]; exact hE h1 h2
  | cons x xs ih =>
    intro out run h h1 h2
    rw [TXL] at h
    have h1x : TXL ns [x] := zmm.2 fun b hb => by rw [List.mem_singleton.1 hb]; exact h.1
    rw [wrapP]
    split
    · exact ih h.2 h1 (yau.2 ⟨h2, h1x⟩)
    · exact ih h.2 (yau.2 ⟨hE h1 h2, h1x⟩) (zmm.2 (by simp))
end
section
variable {pI : BoxT → Bool} {s : StyT}
theorem TXan {k : Int} {s : StyT} {ks : List BoxT} (h : TXL ns ks) : TXT ns (.mk (k, -1,0, s, bs [],()) ks) := zzc.2 ⟨.inl ⟨(by decide : (-1 : Int) < 0), rfl⟩, h⟩
theorem TX0 : TXL ns [] := zmm.2 (by simp)
theorem yg1 {run : List BoxT} (h : TXL ns run) : TXT ns (an1 s run) := TXan h
theorem an5_TX {run : List BoxT} (h : TXL ns run) : TXT ns (an5 pI s run) := by
  unfold an5
  refine TXan ?_
  split
  · exact zoi (fun run h => yg1 h) h TX0 TX0
  · exact h
theorem an4_TX {run : List BoxT} (h : TXL ns run) : TXT ns (an4 pI s run) := TXan (zoi (fun run h => an5_TX h) h TX0 TX0)
theorem fitL_TX {k : Int} {l : List BoxT} (h : TXL ns l) : TXL ns (fitL pI k s l) := by
  unfold fitL
  repeat' split
  · exact zoi (fun run h => an4_TX h) h TX0 TX0
  · exact zoi (fun run h => an5_TX h) h TX0 TX0
  · exact zoi (fun run h => yg1 h) h TX0 TX0
  · exact zoi (fun run h => yg1 h) h TX0 TX0
  · exact h
end
def BlkN (ns : List NodT) (x : BoxT) : Prop := ∀ plain, blkB plain x = true → ∀ i ∈ ndT x, gN ns i = []
section
variable {p : BoxT → Bool} {plain : Bool} {an : List BoxT → BoxT}
theorem ya4 {l : List BoxT} {i : Int} : i ∈ ndL l ↔ ∃ b ∈ l, i ∈ ndT b := by
  induction l with
  | nil => simp [zg1]
  | cons b r ih => rw [zhh, List.mem_append, ih]; simp
theorem ydg (hA : ∀ run : List BoxT,(∀ x ∈ run, BlkN ns x) → ∀ i ∈ ndL run, i ∈ ndT (an run) ∨ gN ns i = []) : ∀ {l out run : List BoxT}, (∀ x ∈ l, BlkN ns x) → (∀ x ∈ run, BlkN ns x) → ∀ i,(i ∈ ndL out ∨ i ∈ ndL run ∨ i ∈ ndL l) → i ∈ ndL (wrapP p plain an l out run) ∨ gN ns i = [] := by
  have hE : ∀ {out run : List BoxT}, (∀ x ∈ run, BlkN ns x) → ∀ i,(i ∈ ndL out ∨ i ∈ ndL run) → i ∈ ndL (endP plain an out run) ∨ gN ns i = [] := fun {out run} h i hi => by
    unfold endP
    split
    · rename_i ha
      rcases hi with hi | hi
      · exact .inl hi
      · obtain ⟨b, hb, hi⟩ := ya4.1 hi
        exact .inr (h b hb plain (List.all_eq_true.1 ha b hb) i hi)
    · rw [zqc, zse, List.mem_append]
      rcases hi with hi | hi
      · exact .inl (.inl hi)
      · exact (hA run h i hi).imp .inr id
  intro l
  induction l with
  | nil =>
    intro out run _ h i hi
    rw [wrapP]
    exact hE h i (hi.imp id fun h => h.resolve_right (by simp [zg1]))
  | cons x xs ih =>
    intro out run h1 h2 i hi
    have hx := h1 x (.head _)
    have hxs : ∀ y ∈ xs, BlkN ns y := fun y hy => h1 y (.tail _ hy)
    rw [zhh, List.mem_append] at hi
    rw [wrapP]
    split
    · refine ih hxs (fun y hy => ?_) i ?_
      · rcases List.mem_append.1 hy with hy | hy
        · exact h2 y hy
        · rw [List.mem_singleton.1 hy]; exact hx
      · rw [zqc, zse, List.mem_append]
        rcases hi with hi | hi | hi | hi
        · exact .inl hi
        · exact .inr (.inl (.inl hi))
        · exact .inr (.inl (.inr hi))
        · exact .inr (.inr hi)
    · have nx : i ∈ ndL (endP plain an out run ++ [x]) ∨ i ∈ ndL xs → i ∈ ndL (wrapP p plain an xs (endP plain an out run ++ [x]) []) ∨ gN ns i = [] := fun h => ih hxs (by simp) i (h.imp id .inr)
      rw [zqc, zse, List.mem_append] at nx
      rcases hi with hi | hi | hi | hi
      · exact (hE h2 i (.inl hi)).elim (fun h => nx (.inl (.inl h))) .inr
      · exact (hE h2 i (.inr hi)).elim (fun h => nx (.inl (.inl h))) .inr
      · exact nx (.inl (.inr hi))
      · exact nx (.inr hi)
end
section
variable {pI : BoxT → Bool} {s : StyT}
theorem zoh {p : BoxT → Bool} {plain : Bool} {an : List BoxT → BoxT} {l : List BoxT} (hA : ∀ run : List BoxT,(∀ x ∈ run, BlkN ns x) → ∀ i ∈ ndL run, i ∈ ndT (an run) ∨ gN ns i = []) (h : ∀ x ∈ l, BlkN ns x) {i : Int} (hi : i ∈ ndL l) : i ∈ ndL (wrapP p plain an l [] []) ∨ gN ns i = [] := ydg hA h (by simp) i (.inr (.inr hi))
theorem ndan {k : Int} {s : StyT} {ks : List BoxT} : ndT (.mk (k, -1,0, s, bs [],()) ks) = ndL ks := by
  rw [zk7, if_neg (show ¬ (0 : Int) ≤ -1 by decide), List.nil_append]
theorem yas {run : List BoxT} {i : Int} (hi : i ∈ ndL run) : i ∈ ndT (an1 s run) ∨ gN ns i = [] := by
  unfold an1
  rw [ndan]; exact .inl hi
theorem yfy {run : List BoxT} (h : ∀ x ∈ run, BlkN ns x) {i : Int} (hi : i ∈ ndL run) : i ∈ ndT (an5 pI s run) ∨ gN ns i = [] := by
  unfold an5
  rw [ndan]
  split
  · exact zoh (fun run _ i hi => yas hi) h hi
  · exact .inl hi
theorem an4_all {run : List BoxT} (h : ∀ x ∈ run, BlkN ns x) {i : Int} (hi : i ∈ ndL run) : i ∈ ndT (an4 pI s run) ∨ gN ns i = [] := by
  unfold an4
  rw [ndan]
  exact zoh (fun run h i hi => yfy h hi) h hi
theorem fitL_all {k : Int} {l : List BoxT} (h : ∀ x ∈ l, BlkN ns x) {i : Int} (hi : i ∈ ndL l) : i ∈ ndL (fitL pI k s l) ∨ gN ns i = [] := by
  unfold fitL
  repeat' split
  · exact zoh (fun run h i hi => an4_all h hi) h hi
  · exact zoh (fun run h i hi => yfy h hi) h hi
  · exact zoh (fun run _ i hi => yas hi) h hi
  · exact zoh (fun run _ i hi => yas hi) h hi
  · exact .inl hi
end
end
end Go.V
namespace Go.V
set_option linter.unusedVariables false
set_option linter.unusedSimpArgs false
set_option linter.unusedSectionVars false
set_option maxRecDepth 100000
open Go.RowKit Go.Sl
def OpenN (ns : List NodT) (ss : List StyT) (a : Int) : Prop := ∃ r s, ns[a.toNat]? = some r ∧ ss[a.toNat]? = some s ∧ r.1 ≠ 2 ∧ s.1 ≠ 2 ∧ r.2.1 ≠ bs [98,114]
section
variable {pI : BoxT → Bool} {kd : StyT → Int → Int} {ns : List NodT} {ss : List StyT}
theorem zos (hkd : ∀ s a,1 ≤ kd s a ∧ kd s a ≤ 6) {m n : Nat} {a h : Int} {b : BoxT} (hb : buildP pI kd ns ss (m + 1) n a h = some b) : ∃ x s0, ns[n]? = some x ∧ ss[n]? = some s0 ∧
    ((x.1 = 2 ∧ b = .mk (7,(n : Int),0, s0, x.2.2.1,()) []) ∨ (x.1 ≠ 2 ∧ s0.1 ≠ 2 ∧ x.2.1 = bs [98,114] ∧ b = .mk (8,(n : Int),0, s0, bs [],()) []) ∨
     (x.1 ≠ 2 ∧ s0.1 ≠ 2 ∧ x.2.1 ≠ bs [98,114] ∧ ∃ s k h', 1 ≤ k ∧ k ≤ 6 ∧ b = .mk (fitK k ((kidsN ns n 0).filterMap fun c => buildP pI kd ns ss m c k h'),(n : Int),0, s, bs [],()) (fitL pI (fitK k ((kidsN ns n 0).filterMap fun c => buildP pI kd ns ss m c k h')) s ((kidsN ns n 0).filterMap fun c => buildP pI kd ns ss m c k h')))) := by
  rw [buildP] at hb
  split at hb
  · rename_i x s0 hx hs
    refine ⟨x, s0, hx, hs, ?_⟩
    split at hb
    · rename_i c; cases hb; exact .inl ⟨c, rfl⟩
    · rename_i c
      split at hb
      · cases hb
      · rename_i c2
        split at hb
        · rename_i c3; cases hb; exact .inr (.inl ⟨c, c2, c3, rfl⟩)
        · rename_i c3
          cases hb
          have := hkd (styP s0 a h) a
          refine .inr (.inr ⟨c, c2, c3, _, _, _, ?_, ?_, rfl⟩)
          · unfold kinP; split <;> omega
          · unfold kinP; split <;> omega
  · cases hb
theorem fitK_rng {k : Int} {l : List BoxT} (h : 1 ≤ k ∧ k ≤ 6) : 1 ≤ fitK k l ∧ fitK k l ≤ 6 := by
  unfold fitK; split <;> omega
theorem zuq {m n : Nat} {a h : Int} {x : NodT} {s : StyT} (hx : ns[n]? = some x) (hs : ss[n]? = some s) (ho : x.1 = 2 ∨ s.1 ≠ 2) : ∃ b, buildP pI kd ns ss (m + 1) n a h = some b := by
  rw [buildP, hx, hs]
  simp only
  split
  · exact ⟨_, rfl⟩
  · rename_i c
    rw [if_neg (ho.resolve_left c)]
    split
    · exact ⟨_, rfl⟩
    · exact ⟨_, rfl⟩
theorem ndT7 {k : Int} {n : Nat} {s : StyT} {x : ByteArray} : ndT (.mk (k,(n : Int),0, s, x,()) []) = [(n : Int)] := by
  rw [zk7, if_pos (Int.natCast_nonneg n), zg1]; rfl
theorem ycz (hkd : ∀ s a,1 ≤ kd s a ∧ kd s a ≤ 6) {m n : Nat} {a h : Int} {b : BoxT} (hb : buildP pI kd ns ss m n a h = some b) : BlkN ns b := by
  cases m with
  | zero => cases hb
  | succ m =>
    intro plain hbl i hi
    obtain ⟨x, s0, hx, hs, ⟨c, rfl⟩ | ⟨_, _, _, rfl⟩ | ⟨_, _, _, s, k, h', k1, k2, rfl⟩⟩ := zos hkd hb
    · rw [ndT7, List.mem_singleton] at hi
      subst hi
      unfold gN
      rw [Int.toNat_natCast, hx]
      unfold blkB at hbl
      simp only [Bool.and_eq_true] at hbl
      exact yed hbl.2.2
    · unfold blkB at hbl
      rw [Bool.and_eq_true, decide_eq_true_eq] at hbl
      exact absurd (show (8 : Int) = 7 from hbl.1) (by decide)
    · have := fitK_rng (k := k) (l := (kidsN ns n 0).filterMap fun c => buildP pI kd ns ss m c k h') ⟨k1, k2⟩
      unfold blkB at hbl
      rw [Bool.and_eq_true, decide_eq_true_eq] at hbl
      have : fitK k ((kidsN ns n 0).filterMap fun c => buildP pI kd ns ss m c k h') = 7 := hbl.1
      omega
end
section
variable {t : TreT} (ht : TrOK t) (hk : TrK t) {pI : BoxT → Bool} {kd : StyT → Int → Int} {ss : List StyT} (hkd : ∀ s a,1 ≤ kd s a ∧ kd s a ≤ 6)
include ht hk hkd
theorem zz9 : ∀ {m n : Nat} {a h : Int} {b : BoxT}, buildP pI kd t.1 ss m n a h = some b → TXT t.1 b
  | 0, _, _, _, _, hb => by cases hb
  | m + 1, n, a, h, b, hb => by
    obtain ⟨x, s0, hx, hs, hc⟩ := zos hkd hb
    have he : x.1 ≠ 2 → x.2.2.1 = bs [] := fun h2 => by
      rcases hk.pl n x hx with h | h
      · exact h.2.2.1
      · exact absurd h.1 h2
    rcases hc with ⟨c, rfl⟩ | ⟨c, _, _, rfl⟩ | ⟨c, _, _, s, k, h', k1, k2, rfl⟩
    · exact zzc.2 ⟨.inr ⟨Int.natCast_nonneg n, x, by rw [Int.toNat_natCast]; exact hx, rfl⟩, TX0⟩
    · exact zzc.2 ⟨.inr ⟨Int.natCast_nonneg n, x, by rw [Int.toNat_natCast]; exact hx,(he c).symm⟩, TX0⟩
    · refine zzc.2 ⟨.inr ⟨Int.natCast_nonneg n, x, by rw [Int.toNat_natCast]; exact hx,(he c).symm⟩, fitL_TX (zmm.2 fun y hy => ?_)⟩
      obtain ⟨c', _, hc'⟩ := List.mem_filterMap.1 hy
      exact zz9 hc'
theorem chain {y c a : Int} (h : UpR t.1 y c) (g : UpR t.1 y a) (hlt : a < c) : UpR t.1 c a := by
  induction h generalizing a with
  | @one y r h0 hr =>
    generalize hz : y = z at g
    cases g with
    | one g0 gr => subst hz; rw [hr] at gr; cases gr; omega
    | more g0 gr g => subst hz; rw [hr] at gr; cases gr; exact g
  | @more y c r h0 hr h ih =>
    generalize hz : y = z at g
    cases g with
    | one g0 gr =>
      subst hz; rw [hr] at gr; cases gr
      have := zzm ht h
      omega
    | more g0 gr g => subst hz; rw [hr] at gr; cases gr; exact ih g hlt
theorem zwc : ∀ {m n : Nat} {a h : Int} {b : BoxT}, buildP pI kd t.1 ss m n a h = some b → ∀ i ∈ ndT b,(i = n ∨ UpR t.1 i n) ∧ ∀ a, UpR t.1 i a → (n : Int) ≤ a → OpenN t.1 ss a
  | 0, _, _, _, _, hb => by cases hb
  | m + 1, n, a, h, b, hb => by
    intro i hi
    obtain ⟨x, s0, hx, hs, hc⟩ := zos hkd hb
    have self : ∀ a, UpR t.1 (n : Int) a → (n : Int) ≤ a → OpenN t.1 ss a := fun a ha hle => by
      have := zzm ht ha; omega
    rcases hc with ⟨c, rfl⟩ | ⟨c, _, _, rfl⟩ | ⟨c, c2, c3, s, k, h', k1, k2, rfl⟩
    · rw [ndT7, List.mem_singleton] at hi
      subst hi; exact ⟨.inl rfl, self⟩
    · rw [ndT7, List.mem_singleton] at hi
      subst hi; exact ⟨.inl rfl, self⟩
    · rw [zk7, if_pos (Int.natCast_nonneg n)] at hi
      rcases List.mem_append.1 hi with hi | hi
      · rw [List.mem_singleton] at hi
        subst hi; exact ⟨.inl rfl, self⟩
      · have hi := yf1.subset hi
        obtain ⟨y, hy, hi⟩ := ya4.1 hi
        obtain ⟨c', hc1, hc'⟩ := List.mem_filterMap.1 hy
        have hkc := (zil.1 hc1).2
        have hkl := zhi ht hkc
        obtain ⟨g1, g2⟩ := zwc hc' i hi
        have hup : UpR t.1 i n := by
          rcases g1 with rfl | g1
          · exact UpR.kid hkc
          · exact g1.kid2 hkc
        refine ⟨.inr hup, fun a ha hle => ?_⟩
        by_cases hac : (c' : Int) ≤ a
        · exact g2 a ha hac
        · have hca : UpR t.1 (c' : Int) a := by
            rcases g1 with rfl | g1
            · exact ha
            · exact chain ht hk hkd g1 ha (by omega)
          by_cases han : a = n
          · subst han
            exact ⟨x, s0, by rw [Int.toNat_natCast]; exact hx, by rw [Int.toNat_natCast]; exact hs, c, c2, c3⟩
          · obtain ⟨_, rc, hrc, hp⟩ := hkc
            generalize (c' : Int) = z at hca hrc
            cases hca with
            | one g0 gr => rw [hrc] at gr; cases gr; exact absurd hp han
            | more g0 gr g =>
              rw [hrc] at gr; cases gr
              rw [hp] at g
              have := zzm ht g
              omega
theorem zwd (hss : ss.length = t.1.length) : ∀ {m n : Nat} {a h : Int} {b : BoxT}, t.1.length - n ≤ m → n < t.1.length → buildP pI kd t.1 ss m n a h = some b → ∀ (i : Int) r, t.1[i.toNat]? = some r → r.1 = 2 → (i = n ∨ UpR t.1 i n) → (∀ a, UpR t.1 i a → (n : Int) ≤ a → OpenN t.1 ss a) → i ∈ ndT b ∨ gN t.1 i = []
  | 0, _, _, _, _, _, _, hb => by cases hb
  | m + 1, n, a, h, b, hm, hn, hb => by
    intro i r hr h2 hin ho
    obtain ⟨x, s0, hx, hs, hc⟩ := zos hkd hb
    rcases hin with rfl | hin
    · rcases hc with ⟨c, rfl⟩ | ⟨c, _, _, rfl⟩ | ⟨c, c2, c3, s, k, h', k1, k2, rfl⟩
      · rw [ndT7]; exact .inl (by simp)
      · rw [ndT7]; exact .inl (by simp)
      · rw [zk7, if_pos (Int.natCast_nonneg n)]; exact .inl (by simp)
    · obtain ⟨r', s', hr', hs', o1, o2, o3⟩ := ho n hin (Int.le_refl _)
      rw [Int.toNat_natCast] at hr' hs'
      rw [hx] at hr'; cases hr'
      rw [hs] at hs'; cases hs'
      rcases hc with ⟨c, rfl⟩ | ⟨_, _, c, rfl⟩ | ⟨c, c2, c3, s, k, h', k1, k2, rfl⟩
      · exact absurd c o1
      · exact absurd c o3
      · obtain ⟨c', hc1, hc2⟩ := ydj ht hin
        have hcl := zhi ht hc2
        obtain ⟨cn, rfl⟩ : ∃ cn : Nat, c' = cn := ⟨c'.toNat, by omega⟩
        have hil := (List.getElem?_eq_some_iff.1 hr).1
        have hsome : ∃ y, buildP pI kd t.1 ss m cn k h' = some y := by
          obtain ⟨d, rfl⟩ : ∃ d, m = d + 1 := ⟨m - 1, by omega⟩
          rcases hc1 with e | hc1
          · obtain ⟨sc, hsc⟩ : ∃ s, ss[cn]? = some s := ⟨_, List.getElem?_eq_getElem (by omega)⟩
            refine zuq (x := r) (s := sc) ?_ hsc (.inl h2)
            rw [← e, Int.toNat_natCast] at hr; exact hr
          · obtain ⟨rc, sc, q1, q2, q3, q4, q5⟩ := ho cn hc1 (by omega)
            rw [Int.toNat_natCast] at q1 q2
            exact zuq q1 q2 (.inr q4)
        obtain ⟨y, hy⟩ := hsome
        have hrec := zwd hss (by omega) (by omega) hy i r hr h2 (hc1.imp (fun e => e.symm) id) fun a ha hle => ho a ha (by omega)
        rcases hrec with hi | hi
        · have hmem : y ∈ (kidsN t.1 n 0).filterMap fun c => buildP pI kd t.1 ss m c k h' := List.mem_filterMap.2 ⟨cn, zil.2 ⟨Nat.zero_le _, hc2⟩, hy⟩
          have := fitL_all (ns := t.1) (pI := pI) (s := s) (k := fitK k ((kidsN t.1 n 0).filterMap fun c => buildP pI kd t.1 ss m c k h')) (l := (kidsN t.1 n 0).filterMap fun c => buildP pI kd t.1 ss m c k h') (fun z hz => by
            obtain ⟨c2, _, hz⟩ := List.mem_filterMap.1 hz
            exact ycz hkd hz) (ya4.2 ⟨y, hmem, hi⟩)
          refine this.imp (fun h => ?_) id
          rw [zk7]
          exact List.mem_append_right _ h
        · exact .inr hi
end
theorem yad {V : Nat → Prop} [DecidablePred V] {g : Int → List Int} : ∀ (n lo : Nat) (L : List Int), L.Pairwise (· < ·) → (∀ x ∈ L,(lo : Int) ≤ x ∧ x < lo + n) → (∀ j : Nat,(j : Int) ∈ L → V j ∨ g j = []) → (∀ j : Nat, lo ≤ j → j < lo + n → V j → (j : Int) ∈ L ∨ g j = []) → L.flatMap g = (List.range' lo n).flatMap fun j => if V j then g j else []
  | 0, lo, L, h1, h2, h3, h4 => by
    have : L = [] := by
      cases L with
      | nil => rfl
      | cons x r => have := h2 x (.head _); omega
    subst this; rfl
  | n + 1, lo, L, h1, h2, h3, h4 => by
    rw [List.range'_succ, List.flatMap_cons]
    by_cases hm : (lo : Int) ∈ L
    · obtain ⟨r, rfl⟩ : ∃ r, L = (lo : Int) :: r := by
        cases L with
        | nil => cases hm
        | cons x r =>
          rcases List.mem_cons.1 hm with rfl | hm
          · exact ⟨r, rfl⟩
          · have := (List.pairwise_cons.1 h1).1 _ hm
            have := h2 x (.head _)
            omega
      obtain ⟨p1, p2⟩ := List.pairwise_cons.1 h1
      rw [List.flatMap_cons, yad n (lo + 1) r p2 (fun x hx => by have := p1 x hx; have := h2 x (.tail _ hx); omega) (fun j hj => h3 j (.tail _ hj)) fun j hj1 hj2 hv => (h4 j (by omega) (by omega) hv).imp (fun h => by
        rcases List.mem_cons.1 h with h | h
        · omega
        · exact h) id]
      congr 1
      rcases h3 lo (.head _) with hv | hv
      · rw [if_pos hv]
      · rw [hv]; split <;> rfl
    · have e : (if V lo then g lo else []) = [] := by
        split
        · rename_i hv
          exact (h4 lo (Nat.le_refl _) (by omega) hv).resolve_left hm
        · rfl
      rw [e, List.nil_append]
      exact yad n (lo + 1) L h1 (fun x hx => by
        have := h2 x hx
        have : x ≠ lo := fun e => hm (e ▸ hx)
        omega) h3 fun j hj1 hj2 hv => h4 j (by omega) (by omega) hv
end Go.V
namespace Go.V
set_option linter.unusedVariables false
set_option linter.unusedSimpArgs false
set_option linter.unusedSectionVars false
set_option maxRecDepth 100000
open Go.RowKit Go.Sl
def Vis (ns : List NodT) (ss : List StyT) (i a : Int) : Prop := ∀ b,(b = a ∨ UpR ns a b) → (∃ s, ss[b.toNat]? = some s ∧ s.1 ≠ 2) ∧ (b = i ∨ ∃ r, ns[b.toNat]? = some r ∧ r.2.1 ≠ bs [98,114])
open Classical in
theorem ydl {t : TreT} (hb : BulkT t) {s : ByteArray} : T (fun k _ => zmz k t s) (· = true) := by
  refine T.diag (F := fun k n => zeo k n t s) ?_
  unfold zeo
  have kn : T (fun k _ => (zcr k).bind fun r2 => some r2) (· = true) := T.bindE known_TE (T.some rfl)
  refine T.dec (fun _ => kn) fun hl => T.bind (whole_TV hb) fun r1 hr1 => T.bif (fun _ => kn) fun hw => ?_
  obtain ⟨⟨ht, h0, hk⟩, hV⟩ := hr1 (by simpa using hw)
  refine T.bind (few_T (by decide)) fun r3 h3 => T.bind (ycr ht (by omega)) fun r4 h4 => T.bif (fun _ => kn) fun h4b => ?_
  obtain ⟨hs, hst⟩ := h4 (by simpa using h4b)
  obtain ⟨ss, sb⟩ := r4
  replace hs : ss.length = t.1.length := hs
  replace hst : ∀ (j : Nat) r s,(j : Int) < t.1.length → t.1[j]? = some r → r.1 = 2 → ss[j]? = some s → s.1 = 0 := hst
  refine T.bindE (zyp ht h0 hk hs) ?_
  cases hB : buildP isInn kdP t.1 ss t.1.length 0 0 0 with
  | none => exact T.bif (fun _ => kn) fun h => by cases h
  | some b =>
  refine T.bif (fun h => by cases h) fun _ => ?_
  show T (fun k n => zaq k n t ss (Tr.mk (numB b 0).1.x (numB b 0).1.kids) (bs []) 0) _
  rw [Tr.eta]
  have hkd : ∀ s a,1 ≤ kdP s a ∧ kdP s a ≤ 6 := fun s a => ybj.2
  have hIn := zrr ht hk (fun b => yab) h0 (e := t.1.length) (fun y hy => by
    obtain ⟨h1, r, hr⟩ := hy.pos
    have := (List.getElem?_eq_some_iff.1 hr).1
    omega) (by omega) hB
  have hVs : ∀ r ∈ t.1, V8 r.2.2.1 ∧ r.2.2.1.size ≤ 2000000 := fun r hr => ⟨hV r hr,(hb r hr).2.1⟩
  obtain ⟨x1, x2, x3⟩ := txT_nb hVs b (zz9 ht hk hkd hB)
  have hsz := hIn.sz
  -- what shows
  have hopen : ∀ (j : Nat) r, t.1[j]? = some r → r.1 = 2 → (Vis t.1 ss j j ↔ ∀ a, UpR t.1 j a → ((0 : Nat) : Int) ≤ a → OpenN t.1 ss a) := fun j r hr h2 => by
    have hjl := (List.getElem?_eq_some_iff.1 hr).1
    refine ⟨fun hv a ha _ => ?_, fun ho a ha => ?_⟩
    · obtain ⟨⟨s', hs1, hs2⟩, h⟩ := hv a (.inr ha)
      have hlt := zzm ht ha
      obtain ⟨ra, hra, hrb⟩ := h.resolve_left (by omega)
      refine ⟨ra, s', hra, hs1, fun e => ?_, hs2, hrb⟩
      obtain ⟨x, _, hkx⟩ := ydj ht ha
      have hxl := zhi ht hkx
      obtain ⟨_, rx, hrx, hpx⟩ := hkx
      have := hk.el x.toNat rx ra (by omega) hrx (by rw [hpx]; exact hra)
      omega
    · rcases ha with rfl | ha
      · obtain ⟨s', hs'⟩ : ∃ s', ss[j]? = some s' := ⟨_, List.getElem?_eq_getElem (by omega)⟩
        refine ⟨⟨s', by rw [Int.toNat_natCast]; exact hs', ?_⟩, .inl rfl⟩
        have := hst j r s' (by omega) hr h2 hs'
        omega
      · have hlt := zzm ht ha
        obtain ⟨ra, sa, q1, q2, q3, q4, q5⟩ := ho a ha (by omega)
        exact ⟨⟨sa, q2, q4⟩, .inr ⟨ra, q1, q5⟩⟩
  have hg2 : ∀ (j : Nat), gN t.1 j = [] ∨ ∃ r, t.1[j]? = some r ∧ r.1 = 2 := fun j => by
    cases hr : t.1[j]? with
    | none => left; unfold gN; rw [Int.toNat_natCast, hr]
    | some r =>
      rcases hk.pl j r hr with h | h
      · left; unfold gN; rw [Int.toNat_natCast, hr]; show nbS r.2.2.1 = []; rw [h.2.2.1]; exact yec
      · exact .inr ⟨r, rfl, h.1⟩
  have hflat := yad (V := fun j => Vis t.1 ss j j) (g := gN t.1) t.1.length 0 (ndT b) hIn.srt (fun x hx => by have := hIn.rng x hx; omega) (fun j hj => by
    rcases hg2 j with h | ⟨r, hr, h2⟩
    · exact .inr h
    · exact .inl ((hopen j r hr h2).2 (zwc ht hk hkd hB j hj).2)) (fun j _ hj hv => by
    rcases hg2 j with h | ⟨r, hr, h2⟩
    · exact .inr h
    · refine zwd ht hk hkd hs (Nat.le_refl _) h0 hB j r (by rw [Int.toNat_natCast]; exact hr) h2 ?_ ((hopen j r hr h2).1 hv)
      by_cases hj0 : j = 0
      · exact .inl (by omega)
      · right
        -- the root stands above all
        clear hv
        have : ∀ (m j : Nat), j ≤ m → 0 < j → j < t.1.length → UpR t.1 j ((0 : Nat) : Int) := by
          intro m
          induction m with
          | zero => intro j a b; omega
          | succ m ih =>
            intro j a b c
            obtain ⟨rj, hrj⟩ : ∃ r, t.1[j]? = some r := ⟨_, List.getElem?_eq_getElem c⟩
            have hkj : KidOf t.1 j rj.2.2.2.2.1 := ⟨by omega, rj, by rw [Int.toNat_natCast]; exact hrj, rfl⟩
            have hlt := zhi ht hkj
            by_cases hz : rj.2.2.2.2.1 = 0
            · have := UpR.kid hkj
              rw [hz] at this; exact this
            · have := ih rj.2.2.2.2.1.toNat (by omega) (by omega) (by omega)
              rw [Int.toNat_of_nonneg (by omega)] at this
              exact .more (by omega) (by rw [Int.toNat_natCast]; exact hrj) this
        exact this j j (Nat.le_refl _) (by omega) (by omega))
  -- the end of the law
  have hend : ∀ v : ByteArray, v.size ≤ 1000000000 → nbS v = (List.range' 0 t.1.length).flatMap (fun j : Nat => if Vis t.1 ss j j then gN t.1 j else []) → T (fun k n => (zde k (numB b 0).1).bind fun r8 => (zhx k r8).bind fun r9 => (zhx k v).bind fun r10 => bif decide (r9 = r10) then (zcr k).bind fun r11 => some r11 else some false) (· = true) := fun v hv1 hv2 => by
    refine T.bindE (texts_TE _ _ (Nat.le_refl _) (by rw [yeb]; omega) (by rw [zzn]; omega)) ?_
    rw [zzn]
    refine T.bindE (yb4 (by omega)) (T.bindE (yb4 (by omega)) ?_)
    rw [x2, hv2, hflat]
    exact T.dec (fun _ => kn) fun h => absurd rfl h
  have key : ∀ (m i : Nat) (v : ByteArray), t.1.length - i ≤ m → i ≤ t.1.length → V8 v → v.size ≤ 2000000 * i → nbS v = (List.range' 0 i).flatMap (fun j : Nat => if Vis t.1 ss j j then gN t.1 j else []) → T (fun k n => zaq k n t ss (numB b 0).1 v (i : Int)) (· = true) := by
    intro m
    induction m with
    | zero =>
      intro i v e1 e2 e3 e4 e5
      refine T.step ?_
      unfold zaq
      simp only [Tr.eta]
      have : i = t.1.length := by omega
      subst this
      exact T.dec (fun _ => by omega) fun _ => hend v (by omega) e5
    | succ m ih =>
      intro i v e1 e2 e3 e4 e5
      refine T.step ?_
      unfold zaq
      simp only [Tr.eta]
      refine T.dec (fun hi => ?_) fun hi => ?_
      · obtain ⟨ri, hri⟩ : ∃ r, t.1[i]? = some r := ⟨_, List.getElem?_eq_getElem (by omega)⟩
        have hbi := hVs ri (List.mem_of_getElem? hri)
        have egi : gN t.1 i = nbS ri.2.2.1 := by unfold gN; rw [Int.toNat_natCast, hri]
        have er : (List.range' 0 (i + 1)).flatMap (fun j : Nat => if Vis t.1 ss j j then gN t.1 j else []) = nbS v ++ if Vis t.1 ss i i then gN t.1 i else [] := by
          rw [e5, List.range'_concat, List.flatMap_append]
          simp
        have ew : w64 ((i : Int) + 1) = ((i + 1 : Nat) : Int) := by rw [w64i (by omega)]; omega
        have up1 : Vis t.1 ss i i → T (fun k n => (geti t.1 (i : Int)).bind fun r16 => (addS v r16.2.2.1).bind fun r17 => zaq k n t ss (numB b 0).1 r17 (w64 ((i : Int) + 1))) (· = true) := fun hv => by
          refine T.get (by omega) hi fun r hr => ?_
          rw [Int.toNat_natCast, hri] at hr; cases hr
          refine T.addS (by omega) ?_
          rw [ew]
          exact ih (i + 1) _ (by omega) (by omega) (ybz e3 hbi.1) (by rw [ByteArray.size_append]; omega) (by rw [er, if_pos hv, ya5 hbi.1, egi])
        have up0 : ¬ Vis t.1 ss i i → T (fun k n => zaq k n t ss (numB b 0).1 v (w64 ((i : Int) + 1))) (· = true) := fun hv => by
          rw [ew]
          exact ih (i + 1) _ (by omega) (by omega) e3 (by omega) (by rw [er, if_neg hv, List.append_nil])
        have loop : ∀ (m2 : Nat) (c : Int) (f : Bool),(c + 1).toNat ≤ m2 → -1 ≤ c → c < t.1.length → (f = true → 0 ≤ c → Vis t.1 ss i c → Vis t.1 ss i i) → (f = true → c < 0 → Vis t.1 ss i i) → (f = true → 0 ≤ c → ¬ Vis t.1 ss i c → ¬ Vis t.1 ss i i) → (f = false → ¬ Vis t.1 ss i i) → T (fun k n => zaf k n t ss (numB b 0).1 v (i : Int) f c) (· = true) := by
          intro m2
          have fin : ∀ (c : Int) (f : Bool), c < 0 → (f = true → c < 0 → Vis t.1 ss i i) → (f = false → ¬ Vis t.1 ss i i) → T (fun k n => zaf k n t ss (numB b 0).1 v (i : Int) f c) (· = true) := fun c f hc g1 g2 => by
            refine T.step ?_
            unfold zaf
            simp only [Tr.eta]
            exact T.dec (fun h => by omega) fun _ => T.bif (fun hf => up1 (g1 hf hc)) fun hf => up0 (g2 hf)
          induction m2 with
          | zero =>
            intro c f q1 q2 q3 g1 g2 g3 g4
            exact fin c f (by omega) g2 g4
          | succ m2 ih2 =>
            intro c f q1 q2 q3 g1 g2 g3 g4
            by_cases hc : 0 ≤ c
            · refine T.step ?_
              unfold zaf
              simp only [Tr.eta]
              refine T.dec (fun _ => ?_) fun h => absurd hc h
              obtain ⟨rc, hrc⟩ : ∃ r, t.1[c.toNat]? = some r := ⟨_, List.getElem?_eq_getElem (by omega)⟩
              obtain ⟨sc, hsc⟩ : ∃ s, ss[c.toNat]? = some s := ⟨_, List.getElem?_eq_getElem (by omega)⟩
              have hpc : -1 ≤ rc.2.2.2.2.1 ∧ rc.2.2.2.2.1 < c := by
                by_cases hz : c = 0
                · subst hz
                  have := (hk.rt rc hrc).2.1
                  omega
                · have := zhi ht (⟨by omega, rc, hrc, rfl⟩ : KidOf t.1 c rc.2.2.2.2.1)
                  omega
              have nxt : ∀ f', (f' = true → 0 ≤ rc.2.2.2.2.1 → Vis t.1 ss i rc.2.2.2.2.1 → Vis t.1 ss i i) → (f' = true → rc.2.2.2.2.1 < 0 → Vis t.1 ss i i) → (f' = true → 0 ≤ rc.2.2.2.2.1 → ¬ Vis t.1 ss i rc.2.2.2.2.1 → ¬ Vis t.1 ss i i) → (f' = false → ¬ Vis t.1 ss i i) → T (fun k n => zar k (zaf k n) f' t c ss (numB b 0).1 v (i : Int)) (· = true) := fun f' a1 a2 a3 a4 => by
                unfold zar
                simp only [Tr.eta]
                refine T.get hc q3 fun r hr => ?_
                rw [hrc] at hr; cases hr
                exact ih2 _ f' (by omega) hpc.1 (by omega) a1 a2 a3 a4
              have nxF : ¬ Vis t.1 ss i i → T (fun k n => zar k (zaf k n) false t c ss (numB b 0).1 v (i : Int)) (· = true) := fun h => nxt false (fun h => by cases h) (fun h => by cases h) (fun h => by cases h) fun _ => h
              have step : ∀ (hself : (∃ s, ss[c.toNat]? = some s ∧ s.1 ≠ 2) ∧ (c = i ∨ ∃ r, t.1[c.toNat]? = some r ∧ r.2.1 ≠ bs [98,114])),(rc.2.2.2.2.1 < 0 → Vis t.1 ss i c) ∧ (0 ≤ rc.2.2.2.2.1 → (Vis t.1 ss i c ↔ Vis t.1 ss i rc.2.2.2.2.1)) := fun hself => by
                have inv : ∀ b, UpR t.1 c b → 0 ≤ rc.2.2.2.2.1 ∧ (b = rc.2.2.2.2.1 ∨ UpR t.1 rc.2.2.2.2.1 b) := fun b hb => by
                  have h00 := hb.pos.1
                  have := zhi ht (⟨h00, rc, hrc, rfl⟩ : KidOf t.1 c rc.2.2.2.2.1)
                  refine ⟨this.1, ?_⟩
                  cases hb with
                  | one a1 a2 => rw [hrc] at a2; cases a2; exact .inl rfl
                  | more a1 a2 a3 => rw [hrc] at a2; cases a2; exact .inr a3
                refine ⟨fun hn b hb => ?_, fun hn => ⟨fun hv b hb => hv b (.inr ?_), fun hv b hb => ?_⟩⟩
                · rcases hb with rfl | hb
                  · exact hself
                  · have := (inv b hb).1; omega
                · have hc0 : 0 < c := by omega
                  rcases hb with rfl | hb
                  · exact .one hc0 hrc
                  · exact .more hc0 hrc hb
                · rcases hb with rfl | hb
                  · exact hself
                  · exact hv b (inv b hb).2
              refine T.bif (fun hf => ?_) fun hf => nxF (g4 hf)
              have nxT : ((∃ s, ss[c.toNat]? = some s ∧ s.1 ≠ 2) ∧ (c = i ∨ ∃ r, t.1[c.toNat]? = some r ∧ r.2.1 ≠ bs [98,114])) → T (fun k n => zar k (zaf k n) true t c ss (numB b 0).1 v (i : Int)) (· = true) := fun hself => by
                obtain ⟨s1, s2⟩ := step hself
                exact nxt true (fun _ hp hv => g1 hf hc ((s2 hp).2 hv)) (fun _ hp => g1 hf hc (s1 hp)) (fun _ hp hv => g3 hf hc fun h => hv ((s2 hp).1 h)) fun h => by cases h
              have nv : ¬ ((∃ s, ss[c.toNat]? = some s ∧ s.1 ≠ 2) ∧ (c = i ∨ ∃ r, t.1[c.toNat]? = some r ∧ r.2.1 ≠ bs [98,114])) → ¬ Vis t.1 ss i i := fun h => g3 hf hc fun hv => h (hv c (.inl rfl))
              refine T.get hc (by omega) fun s' hs' => ?_
              rw [hsc] at hs'; cases hs'
              refine T.dec (fun h2 => T.dec (fun hci => nxT ⟨⟨sc, hsc, h2⟩, .inl hci⟩) fun hci => T.get hc q3 fun r hr => ?_) fun h2 => nxF (nv fun h => by
                obtain ⟨⟨s', hs', h3⟩, _⟩ := h
                rw [hsc] at hs'; cases hs'
                exact h2 h3)
              rw [hrc] at hr; cases hr
              by_cases hbr : rc.2.1 = bs [98,114]
              · rw [decide_eq_false (fun h => h hbr)]
                refine nxF (nv fun h => ?_)
                rcases h.2 with h | ⟨r, hr, h⟩
                · exact hci h
                · rw [hrc] at hr; cases hr; exact h hbr
              · rw [decide_eq_true hbr]
                exact nxT ⟨⟨sc, hsc, h2⟩, .inr ⟨rc, hrc, hbr⟩⟩
            · exact fin c f (by omega) g2 g4
        exact loop _ i true (Nat.le_refl _) (by omega) (by omega) (fun _ _ h => h) (fun _ h => by omega) (fun _ _ h => h) fun h => by cases h
      · have : i = t.1.length := by omega
        subst this
        exact hend v (by omega) e5
  exact key _ 0 (bs []) (Nat.le_refl _) (Nat.zero_le _) yg5 (by decide) rfl
end Go.V
