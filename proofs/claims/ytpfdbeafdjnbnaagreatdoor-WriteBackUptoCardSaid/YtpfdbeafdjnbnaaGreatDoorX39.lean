/-
  Walks and laws of this seat.
-/
import Derived.Test.YtpfdbeafdjnbnaaGreatDoorX31
import Derived.Test.YtpfdbeafdjnbnaaGreatDoorX37
import Derived.Test.YtpfdbeafdjnbnaaGreatDoorL7m
import Derived.Test.YtpfdbeafdjnbnaaGreatDoorX29
import Derived.Lib.IndexLaws
namespace Go.Proofs.YtpfdbeafdjnbnaaGreatDoor
set_option linter.unusedVariables false
set_option linter.unusedSimpArgs false
set_option linter.unusedSectionVars false
section
open Go.RowKit Go.Sl
open Go.V (T)
def atB (a : zab) : List Int := 32 :: (bytesIn a.Name ++ (61 :: 34 :: (bytesIn (escS true a.Value) ++ [34])))
def mkB : Nat → za8 → List Int
  | 0, _ => []
  | n + 1, P => if P.Name = bs [] then bytesIn (escS false P.Text) else 60 :: (bytesIn P.Name ++ (P.Attrs.flatMap atB ++ 62 :: (bif isVoid P.Name then [] else P.Kids.flatMap (mkB n) ++ (60 :: 47 :: (bytesIn P.Name ++ [62])))))
def szW : Nat → za8 → Prop
  | 0, _ => False
  | n + 1, P => P.Name.size ≤ 1048576 ∧ P.Text.size ≤ 1048576 ∧ P.Attrs.length ≤ 64 ∧ (∀ a ∈ P.Attrs, a.Name.size ≤ 1048576 ∧ a.Value.size ≤ 1048576) ∧ P.Kids.length ≤ 4096 ∧ (P.Name ≠ bs [] → P.Name ∉ [bs [115,116,121,108,101], bs [115,99,114,105,112,116]] ∧ ∀ k ∈ P.Kids, szW n k)
theorem zje (s t : ByteArray) : bytesIn (s ++ t) = bytesIn s ++ bytesIn t := by simp [bytesIn]
theorem znf (q : Bool) (s : ByteArray) : (escS q s).size ≤ 6 * s.size := by
  unfold escS
  rw [zfb]
  have := zk5 q (bytesIn s) false
  rwa [zak] at this
theorem atB_len {a : zab} (h : a.Name.size ≤ 1048576 ∧ a.Value.size ≤ 1048576) : (atB a).length ≤ 8000000 := by
  have := znf true a.Value
  unfold atB
  simp only [List.length_cons, List.length_append, zak, List.length_nil]
  omega
theorem zvp : ∀ {l : List zab}, (∀ a ∈ l, a.Name.size ≤ 1048576 ∧ a.Value.size ≤ 1048576) → (l.flatMap atB).length ≤ 8000000 * l.length
  | [], _ => by simp
  | a :: l, h => by
    have := atB_len (h a (.head _))
    have := zvp (l := l) fun x hx => h x (.tail _ hx)
    simp only [List.flatMap_cons, List.length_append, List.length_cons]
    omega
theorem zlu {n : Nat} {ad : Bool} {buf : List Int} {s : ByteArray} (h : buf.length + s.size ≤ 100000000000000) : zb4 n {addr := ad, buf := buf} s = some ((s.size : Int), {addr := true, buf := buf ++ bytesIn s}) := by
  unfold zb4
  rw [zk9 (by rw [zak]; constructor <;> simp only <;> omega)]; rfl
theorem esc_eq {n : Nat} {s : ByteArray} {q : Bool} (h : s.size ≤ 1048576) : zga n s q = some (escS q s) := by
  unfold zga
  rw [dT (show s.size ≤ 1099511627776 by omega)]; rfl
theorem zrw {s t : ByteArray} (h : s.size + t.size ≤ 100000000) : addS s t = some (s ++ t) := by
  unfold addS
  rw [dT (show s.size + t.size ≤ 9223372036854775807 by omega)]; rfl
section
variable {ns : List zae} {n : Nat} {slf : Int → zaa → Builder → Option Builder} {y : Int} {lp : Bool → List Int → Int → Option Builder} {x50 : Int} {x : zae}
theorem l7_ats (hs : ∀ a ∈ x.Attrs, a.Name.size ≤ 1048576 ∧ a.Value.size ≤ 1048576) (hl : x.Attrs.length ≤ 64) : ∀ (d j m : Nat) (buf : List Int), j + d = x.Attrs.length → d + 1 ≤ m → buf.length + ((x.Attrs.drop j).flatMap atB).length ≤ 100000000000000 →
    zc4 n ⟨ns⟩ slf y lp x50 x m true buf (j : Int) = zf2 n ⟨ns⟩ slf y lp x50 x true (buf ++ (x.Attrs.drop j).flatMap atB)
  | 0, j, m, buf, hj, hm, _ => by
    obtain ⟨m, rfl⟩ : ∃ i, m = i + 1 := ⟨m - 1, by omega⟩
    rw [zc4, dF (show ¬ (j : Int) < (x.Attrs.length : Int) by omega), cond_false, List.drop_eq_nil_of_le (by omega)]
    simp
  | d + 1, j, m, buf, hj, hm, hb => by
    obtain ⟨m, rfl⟩ : ∃ i, m = i + 1 := ⟨m - 1, by omega⟩
    have hlt : j < x.Attrs.length := by omega
    have ha := hs x.Attrs[j] (List.getElem_mem hlt)
    have he := znf true x.Attrs[j].Value
    have hd := List.drop_eq_getElem_cons hlt
    rw [hd, List.flatMap_cons, List.length_append] at hb
    have hal : (atB x.Attrs[j]).length = x.Attrs[j].Name.size + (escS true x.Attrs[j].Value).size + 4 := by unfold atB; simp only [List.length_cons, List.length_append, zak, List.length_nil]; omega
    have z1 : (bs [32]).size = 1 := rfl
    have z2 : (bs [61,34]).size = 2 := rfl
    have z3 : (bs [34]).size = 1 := rfl
    rw [zc4, dT (show (j : Int) < (x.Attrs.length : Int) by omega), cond_true, zbr, List.getElem?_eq_getElem hlt, Option.bind_some, zrw (by omega), Option.bind_some, zrw (by rw [ByteArray.size_append]; omega), Option.bind_some, esc_eq ha.2, Option.bind_some,
      zrw (by simp only [ByteArray.size_append]; omega), Option.bind_some, zrw (by simp only [ByteArray.size_append]; omega), Option.bind_some, zlu (by simp only [ByteArray.size_append]; omega), Option.bind_some]
    have ih := l7_ats hs hl d (j + 1) m (buf ++ atB x.Attrs[j]) (by omega) (by omega) (by rw [List.length_append]; omega)
    have e : bytesIn (bs [32] ++ x.Attrs[j].Name ++ bs [61,34] ++ escS true x.Attrs[j].Value ++ bs [34]) = atB x.Attrs[j] := by
      simp only [zje]
      unfold atB
      simp [show bytesIn (bs [32]) = [32] from rfl, show bytesIn (bs [61,34]) = [61,34] from rfl, show bytesIn (bs [34]) = [34] from rfl]
    rw [e]
    show zc4 n ⟨ns⟩ slf y lp x50 x m true (buf ++ atB x.Attrs[j]) (w64 ((j : Int) + 1)) = _
    rw [zfd (by omega), ih, hd, List.flatMap_cons, List.append_assoc]
end
end
section
open Go.RowKit Go.Sl
open Go.V (T)
theorem T.sk {α : Type} {F : Nat → Option α} {Q : α → Prop} (h : T (fun k _ => F (k + 1)) Q) : T (fun k _ => F k) Q := by
  obtain ⟨r, h1, K, h2⟩ := h
  refine ⟨r, h1, K + 1, fun k n hk hn => ?_⟩
  obtain ⟨m, rfl⟩ : ∃ m, k = m + 1 := ⟨k - 1, by omega⟩
  exact h2 m m (by omega) (by omega)
theorem zv8 (s : ByteArray) : isVoid s = decide (s ∈ voidL) := by
  by_cases h : s ∈ voidL
  · rw [dT h]; exact zl1.2 h
  · rw [dF h]
    cases e : isVoid s
    · rfl
    · exact absurd (zl1.1 e) h
def MkT (ns : List zae) (m : Nat) : Prop := ∀ (P : za8) (A B : List zae) (pa pr nx : Int) (buf : List Int) (ad : Bool), P.Name ≠ bs [] → ns = A ++ (lay P A.length pa pr nx ++ B) → szW (m + 1) P → buf.length + (P.Kids.flatMap (mkB m)).length ≤ 100000000000000 →
  T (fun k _ => zbk k (A.length : Int) ⟨ns⟩ {addr := ad, buf := buf}) fun r => r.buf = buf ++ P.Kids.flatMap (mkB m)
section
variable {ns : List zae}
theorem loopK {m : Nat} (ih : ∀ m', m = m' + 1 → MkT ns m') {p0 : Int} {yy : zae} (hp : geti ns p0 = some yy) (hy : yy.Name ∉ [bs [115,116,121,108,101], bs [115,99,114,105,112,116]]) :
    ∀ (ks : List za8) (pa pr : Int) (A B : List zae) (pre : List Int) (buf : List Int) (ad : Bool), ns = A ++ (lays ks A.length pa pr (-1) ++ B) → (∀ k ∈ ks, szW m k) → buf.length + (ks.flatMap (mkB m)).length ≤ 100000000000000 → pre.length + ks.length ≤ 5000 →
      T (fun k n => zaw k p0 ⟨ns⟩ (zbk k) (pre ++ kidL ks A.length) n ad buf (pre.length : Int)) fun r => r.buf = buf ++ ks.flatMap (mkB m)
  | [], pa, pr, A, B, pre, buf, ad, hns, hs, hb, hl => by
    refine T.step ?_
    unfold zaw
    refine T.dec (fun h => ?_) fun _ => ?_
    · simp [kidL] at h
    · exact T.some (by simp)
  | q :: r, pa, pr, A, B, pre, buf, ad, hns, hs, hb, hl => by
    have hq := hs q (.head _)
    obtain ⟨m, rfl⟩ : ∃ m', m = m' + 1 := by
      cases m with
      | zero => exact hq.elim
      | succ m => exact ⟨m, rfl⟩
    obtain ⟨z1, z2, z3, z4, z5, z6⟩ := hq
    simp only [lays, List.append_assoc] at hns
    simp only [List.length_cons] at hl
    rw [List.flatMap_cons, List.length_append] at hb
    generalize hnx : (if r.length = 0 then (-1 : Int) else ((A.length + nsz q : Nat) : Int)) = nx at hns
    have hA : (A ++ lay q A.length pa pr nx).length = A.length + nsz q := by rw [List.length_append, znx]
    have next : ∀ (ad : Bool) (bf : List Int), bf = buf ++ mkB (m + 1) q → T (fun k n => zaw k p0 ⟨ns⟩ (zbk k) (pre ++ kidL (q :: r) A.length) n ad bf (w64 ((pre.length : Int) + 1))) fun z => z.buf = buf ++ (q :: r).flatMap (mkB (m + 1)) := fun ad bf e => by
      subst e
      have g := loopK ih hp hy r pa (A.length : Int) (A ++ lay q A.length pa pr nx) B (pre ++ [(A.length : Int)]) (buf ++ mkB (m + 1) q) ad (by rw [hA, List.append_assoc]; exact hns) (fun k hk => hs k (.tail _ hk)) (by rw [List.length_append]; omega) (by rw [List.length_append]; simp only [List.length_cons, List.length_nil]; omega)
      rw [hA, List.append_assoc, List.length_append] at g
      rw [zfd (by omega)]
      simpa [kidL, List.append_assoc] using g
    have hgx : geti (pre ++ kidL (q :: r) A.length) (pre.length : Int) = some (A.length : Int) := by
      rw [zbr, List.getElem?_append_right (Nat.le_refl _), Nat.sub_self]; rfl
    refine T.step ?_
    unfold zaw
    refine T.dec (fun _ => ?_) fun h => ?_
    · by_cases hn : q.Name = bs []
      · -- a text
        have hlay := zil hn A.length pa pr nx
        have hg := zp4 (x := tnode q.Text pa pr nx) hns (by rw [hlay]; rfl)
        have hmk : mkB (m + 1) q = bytesIn (escS false q.Text) := by unfold mkB; rw [if_pos hn]
        have hez := znf false q.Text
        rw [hmk, zak] at hb
        refine T.evK (G := fun k n => zaw k p0 ⟨ns⟩ (zbk k) (pre ++ kidL (q :: r) A.length) n true (buf ++ bytesIn (escS false q.Text)) (w64 ((pre.length : Int) + 1))) 200 (fun k n hk => ?_) (next _ _ (by rw [hmk]))
        rw [hgx, Option.bind_some]
        show (geti ns _).bind _ = _
        rw [hg, Option.bind_some]
        show ((geti ns p0).bind _) = _
        rw [hp, Option.bind_some, zrp yy.Name _ (by decide) hk, Option.bind_some, dF hy]
        unfold ze7
        show (zga k q.Text false).bind _ = _
        rw [esc_eq z2, Option.bind_some, zlu (by omega), Option.bind_some]
        rfl
      · -- an element
        have hlay := zg5 hn A.length pa pr nx
        generalize hfi : (if q.Kids.length = 0 then (-1 : Int) else ((A.length + 1 : Nat) : Int)) = fi at hlay
        generalize hla : lastOf q.Kids (A.length + 1) (-1) = la at hlay
        have hg := zp4 (x := enode q.Name q.Attrs pa fi la pr nx) hns (by rw [hlay]; rfl)
        have hmk : mkB (m + 1) q = 60 :: (bytesIn q.Name ++ (q.Attrs.flatMap atB ++ 62 :: (bif isVoid q.Name then [] else q.Kids.flatMap (mkB m) ++ (60 :: 47 :: (bytesIn q.Name ++ [62]))))) := by unfold mkB; rw [if_neg hn]
        rw [hmk] at hb
        simp only [List.length_cons, List.length_append, zak] at hb
        have s60 : (bs [60]).size = 1 := rfl
        have s62 : (bs [62]).size = 1 := rfl
        have s47 : (bs [60,47]).size = 2 := rfl
        have b60 : bytesIn (bs [60] ++ q.Name) = 60 :: bytesIn q.Name := by rw [zje]; rfl
        have b62 : bytesIn (bs [62]) = [62] := rfl
        let bf : List Int := buf ++ (60 :: bytesIn q.Name) ++ q.Attrs.flatMap atB ++ [62]
        have hbf : bf.length = buf.length + (q.Name.size + ((q.Attrs.flatMap atB).length + 1) + 1) := by simp only [bf, List.length_append, List.length_cons, zak, List.length_nil]; omega
        refine T.evK (G := fun k n => bif !(decide (q.Name ∈ voidL)) then (zbk k (A.length : Int) ⟨ns⟩ {addr := true, buf := bf}).bind fun z => (addS (bs [60,47]) q.Name).bind fun x140 => (addS x140 (bs [62])).bind fun x142 => (zb4 k ({addr := z.addr, buf := z.buf} : Builder) x142).bind fun x144 => zaw k p0 ⟨ns⟩ (zbk k) (pre ++ kidL (q :: r) A.length) n x144.2.addr x144.2.buf (w64 ((pre.length : Int) + 1))
          else zaw k p0 ⟨ns⟩ (zbk k) (pre ++ kidL (q :: r) A.length) n true bf (w64 ((pre.length : Int) + 1))) 200 (fun k n hk => ?_) ?_
        · rw [hgx, Option.bind_some]
          show (geti ns _).bind _ = _
          rw [hg, Option.bind_some]
          have hkd : decide ((enode q.Name q.Attrs pa fi la pr nx).Kind = 2) = false := rfl
          rw [hkd, cond_false]
          unfold ze7
          rw [hkd, cond_false, cond_false]
          show (addS (bs [60]) q.Name).bind _ = _
          rw [zrw (by omega), Option.bind_some, zlu (by rw [ByteArray.size_append]; omega), Option.bind_some, b60]
          have := l7_ats (ns := ns) (n := k) (slf := zbk k) (y := (pre.length : Int)) (lp := zaw k p0 ⟨ns⟩ (zbk k) (pre ++ kidL (q :: r) A.length) n) (x50 := (A.length : Int)) (x := enode q.Name q.Attrs pa fi la pr nx) z4 z3 q.Attrs.length 0 k (buf ++ 60 :: bytesIn q.Name) (by simp [enode]) (by omega) (by
            simp only [List.length_append, List.length_cons, zak, List.drop_zero]
            show _ + (q.Attrs.flatMap atB).length ≤ _
            omega)
          show zc4 _ _ _ _ _ _ _ _ true _ ((0 : Nat) : Int) = _
          rw [this, List.drop_zero]
          unfold zf2
          show (zb4 _ {addr := true, buf := buf ++ 60 :: bytesIn q.Name ++ q.Attrs.flatMap atB} _).bind _ = _
          rw [zlu (by simp only [List.length_append, List.length_cons, zak]; omega), Option.bind_some]
          show (zgc k q.Name).bind _ = _
          rw [zuc _ hk, Option.bind_some]
          rfl
        · rw [zv8] at hb hmk
          by_cases hv : q.Name ∈ voidL
          · rw [dT hv] at hmk ⊢
            refine T.bif (fun h => Bool.noConfusion h) fun _ => next _ _ ?_
            rw [hmk]
            simp [bf, List.append_assoc]
          · rw [dF hv] at hb hmk ⊢
            simp only [cond_false, List.length_append, List.length_cons, zak, List.length_nil] at hb
            refine T.bif (fun _ => ?_) fun h => Bool.noConfusion h
            refine T.bind (ih m rfl q A _ pa pr nx bf true hn hns ⟨z1, z2, z3, z4, z5, z6⟩ (by omega)) fun z hz => ?_
            refine T.addT (by omega) (T.addT (by rw [ByteArray.size_append]; omega) ?_)
            have e : bytesIn (bs [60,47] ++ q.Name ++ bs [62]) = 60 :: 47 :: (bytesIn q.Name ++ [62]) := by
              simp only [zje]; rfl
            obtain ⟨zad, zbuf⟩ := z
            simp only at hz
            subst hz
            refine T.evK (G := fun k n => zaw k p0 ⟨ns⟩ (zbk k) (pre ++ kidL (q :: r) A.length) n true (bf ++ q.Kids.flatMap (mkB m) ++ (60 :: 47 :: (bytesIn q.Name ++ [62]))) (w64 ((pre.length : Int) + 1))) 0 (fun k n _ => ?_) (next _ _ ?_)
            · rw [zlu (by simp only [ByteArray.size_append, List.length_append]; omega), Option.bind_some, e]
            · rw [hmk]
              simp [bf, List.append_assoc]
    · rw [List.length_append, zt4] at h
      simp only [List.length_cons] at h
      omega
theorem mkT : ∀ m, MkT ns m
  | m => fun P A B pa pr nx buf ad hP hns hs hb => by
    have hK := hs.2.2.2.2.1
    have hz := hs.2.2.2.2.2 hP
    have hlay := zg5 hP A.length pa pr nx
    have hg := zp4 (x := enode P.Name P.Attrs pa (if P.Kids.length = 0 then (-1 : Int) else ((A.length + 1 : Nat) : Int)) (lastOf P.Kids (A.length + 1) (-1)) pr nx) hns (by rw [hlay]; rfl)
    refine T.sk ?_
    unfold zbk zgz
    refine T.evK (G := fun k _ => zaw k (A.length : Int) ⟨ns⟩ (zbk k) ([] ++ kidL P.Kids (A.length + 1)) k ad buf (([] : List Int).length : Int)) 5000 (fun k n hk => ?_) ?_
    · rw [Kids_at hP hns (by omega) hk, Option.bind_some]; rfl
    · have := loopK (m := m) (fun m' e => by subst e; exact mkT m') hg hz.1 P.Kids (A.length : Int) (-1) (A ++ [enode P.Name P.Attrs pa (if P.Kids.length = 0 then (-1 : Int) else ((A.length + 1 : Nat) : Int)) (lastOf P.Kids (A.length + 1) (-1)) pr nx]) B [] buf ad (by rw [hlay] at hns; rw [hns, List.length_append]; simp) hz.2 hb (by simp; omega)
      rw [List.length_append, List.length_singleton] at this
      exact T.diag this
end
end
section
open Go.RowKit Go.Sl
open Go.V (T)
def okT (s : ByteArray) : Prop := s.size ≤ 1048576 ∧ textOf (runesIn s) = s ∧ ∀ x ∈ runesIn s, x ≠ 0
def okNm (s : ByteArray) : Prop := s.size ≤ 1048576 ∧ textOf (runesIn s) = s ∧ runesIn s ≠ [] ∧ ∀ z ∈ runesIn s, nmR z = true
def wF : Nat → ByteArray → Bool → za8 → Prop
  | 0, _, _, _ => False
  | n + 1, pn, inp, P => (P.Name = bs [] → P.Text ≠ bs [] ∧ P.Attrs = [] ∧ P.Kids = [] ∧ pn ∉ tabL ∧ okT P.Text) ∧
    (P.Name ≠ bs [] → P.Text = bs [] ∧ P.Name ∈ knownL ∧ (P.Name ∈ voidL → P.Kids = []) ∧ (withinW P.Name ≠ bs [] → withinW P.Name = pn) ∧ (pn ∈ tabL → withinW P.Name = pn) ∧ (inp = true → P.Name ∉ blockL) ∧
      P.Attrs.length ≤ 64 ∧ P.Attrs.Pairwise (fun a b => a.Name ≠ b.Name) ∧ (∀ a ∈ P.Attrs, okNm a.Name ∧ okT a.Value) ∧ P.Kids.length ≤ 4096 ∧ noAdj P.Kids ∧ ∀ k ∈ P.Kids, wF n P.Name (inp || decide (P.Name = bs [112])) k)
theorem okNm_of {l : List UInt8} (h : (l.all fun b => nmR (b.toNat : Int) && decide (b.toNat < 128)) = true) (hl : l.length ≤ 100) (hne : l ≠ []) : okNm (bs l) ∧ runesIn (bs l) = toI (l.map (·.toNat)) := by
  have hb : byL (bs l) = l.map (·.toNat) := rfl
  have ha : ∀ b ∈ byL (bs l), nmR (b : Int) = true ∧ b < 128 := fun b hb' => by
    rw [hb] at hb'
    obtain ⟨c, hc, rfl⟩ := List.mem_map.1 hb'
    have := List.all_eq_true.1 h c hc
    simp only [Bool.and_eq_true, decide_eq_true_eq] at this
    exact this
  obtain ⟨e1, e2⟩ := zr3 fun b hb => (ha b hb).2
  have hsz : (bs l).size = l.length := rfl
  refine ⟨⟨by omega, e2, fun e => ?_, fun z hz => ?_⟩, by rw [e1, hb]⟩
  · rw [e1, hb] at e
    cases l with
    | nil => exact hne rfl
    | cons => cases e
  · rw [e1] at hz
    obtain ⟨b, hb', rfl⟩ := List.mem_map.1 hz
    exact (ha b hb').1
theorem znd {s : ByteArray} (h : s ∈ knownL) : okNm s ∧ (∃ z nr, runesIn s = z :: nr ∧ 97 ≤ z ∧ z ≤ 122) ∧ s ∉ [bs [115,116,121,108,101], bs [115,99,114,105,112,116]] ∧ s ≠ nRoot := by
  have key : ∀ {l : List UInt8}, (l.all fun b => nmR (b.toNat : Int) && decide (b.toNat < 128)) = true → l.length ≤ 100 → l ≠ [] → (97 ≤ (l.headD 0).toNat ∧ (l.headD 0).toNat ≤ 122) → okNm (bs l) ∧ (∃ z nr, runesIn (bs l) = z :: nr ∧ 97 ≤ z ∧ z ≤ 122) := fun {l} h1 h2 h3 h4 => by
    obtain ⟨a, b⟩ := okNm_of h1 h2 h3
    refine ⟨a, ?_⟩
    cases l with
    | nil => exact absurd rfl h3
    | cons c l =>
      refine ⟨(c.toNat : Int), toI (l.map UInt8.toNat), b, ?_⟩
      have h4 : 97 ≤ c.toNat ∧ c.toNat ≤ 122 := h4
      omega
  unfold knownL at h
  simp only [List.mem_cons, List.not_mem_nil, or_false] at h
  rcases h with rfl | rfl | rfl | rfl | rfl | rfl | rfl | rfl | rfl | rfl | rfl | rfl | rfl | rfl | rfl | rfl | rfl
  all_goals exact ⟨(key (by decide) (by decide) (by decide) (by decide)).1,(key (by decide) (by decide) (by decide) (by decide)).2, by decide, by decide⟩
def atR (a : zab) : AtW := ⟨runesIn a.Name, escR true (runesIn a.Value), a.Value⟩
def mkF : Nat → za8 → List Int
  | 0, _ => []
  | n + 1, P => if P.Name = bs [] then escR false (runesIn P.Text) else 60 :: (runesIn P.Name ++ ((P.Attrs.map atR).flatMap AtW.run ++ 62 :: (bif isVoid P.Name then [] else (P.Kids.map (mkF n)).flatten ++ (60 :: 47 :: (runesIn P.Name ++ [62])))))
theorem at_ok {a : zab} (h : okNm a.Name ∧ okT a.Value) : (atR a).OK :=
  ⟨h.1.2.2.1, h.1.2.2.2, fun z hz => (zq6 z hz).2.2.1 rfl, zue h.2.2.1 h.2.1⟩
end
section
open Go.RowKit Go.Sl
open Go.V (T)
theorem zqu {s t : ByteArray} (h : withinW s = t) : (t = nTable → s = nTr) ∧ (t = nTr → s = nTd) := by
  unfold withinW at h
  split at h
  · rename_i e; subst e; subst h; exact ⟨fun _ => rfl, fun h => absurd h (by decide)⟩
  · split at h
    · rename_i e; subst e; subst h; exact ⟨fun h => absurd h (by decide), fun _ => rfl⟩
    · split at h
      · subst h; exact ⟨fun h => absurd h (by decide), fun h => absurd h (by decide)⟩
      · subst h; exact ⟨fun h => absurd h (by decide), fun h => absurd h (by decide)⟩
theorem wF_can : ∀ (n : Nat) (pn : ByteArray) (inp : Bool) (P : za8), wF n pn inp P → canF n pn inp P
  | 0, _, _, _, h => h
  | n + 1, pn, inp, P, ⟨h1, h2⟩ => by
    refine ⟨?_, fun hn => ?_, fun hn => ?_⟩
    · by_cases hn : P.Name = bs []
      · rw [(h1 hn).2.1]; simp
      · have := (h2 hn).2.2.2.2.2.2.1; omega
    · obtain ⟨a, b, c, d, _⟩ := h1 hn
      refine ⟨a, b, c, fun e => d ?_, fun e => d ?_⟩ <;> rw [e] <;> decide
    · obtain ⟨a, b, c, d, e, f, _, _, _, _, g, k⟩ := h2 hn
      have hkn := znd b
      refine ⟨a, fun h => (zqu (e (by rw [h]; decide))).1 h, fun h => (zqu (e (by rw [h]; decide))).2 h, fun h => ?_, fun h => ?_, fun h => ?_, fun h => ?_, hkn.2.2.2, c, g, fun q hq => wF_can n _ _ q (k q hq)⟩
      · rw [← d (by rw [h]; decide), h]; rfl
      · rw [← d (by rw [h]; decide), h]; rfl
      · rw [← d (by rw [h]; decide), h]; rfl
      · cases inp with
        | false => rfl
        | true =>
          refine absurd ?_ (f rfl)
          simp only [blocks, List.mem_cons, List.not_mem_nil, or_false] at h
          simp only [blockL, List.mem_cons, List.not_mem_nil, or_false]
          rcases h with h | h | h | h | h | h <;> simp [h]
theorem wF_sz : ∀ (n : Nat) (pn : ByteArray) (inp : Bool) (P : za8), wF n pn inp P → szW n P
  | 0, _, _, _, h => h
  | n + 1, pn, inp, P, ⟨h1, h2⟩ => by
    by_cases hn : P.Name = bs []
    · obtain ⟨a, b, c, d, e⟩ := h1 hn
      refine ⟨by rw [hn]; decide, e.1, by rw [b]; simp, fun x hx => ?_, by rw [c]; simp, fun h => absurd hn h⟩
      rw [b] at hx; cases hx
    · obtain ⟨a, b, c, d, e, f, g, g2, g3, g4, g5, k⟩ := h2 hn
      have hkn := znd b
      exact ⟨hkn.1.1, by rw [a]; decide, g, fun x hx => ⟨(g3 x hx).1.1,(g3 x hx).2.1⟩, g4, fun _ => ⟨hkn.2.2.1, fun q hq => wF_sz n _ _ q (k q hq)⟩⟩
theorem wF_wr : ∀ (n : Nat) (pn : ByteArray) (inp : Bool) (P : za8), wF n pn inp P → wrF n P (mkF n P)
  | 0, _, _, _, h => h
  | n + 1, pn, inp, P, ⟨h1, h2⟩ => by
    refine ⟨fun hn => ?_, fun hn => ?_⟩
    · obtain ⟨a, b, c, d, e⟩ := h1 hn
      have em : mkF (n + 1) P = escR false (runesIn P.Text) := by unfold mkF; rw [if_pos hn]
      rw [em]
      refine ⟨escR_ne fun h => a ?_, fun z hz => (zq6 z hz).1, zue e.2.1 e.1⟩
      have := e.2.1
      rw [h] at this; rw [← this]; rfl
    · obtain ⟨a, b, c, d, e, f, g, g2, g3, g4, g5, k⟩ := h2 hn
      obtain ⟨⟨k1, k2, k3, k4⟩, ⟨z, nr, k5, k6, k7⟩, k8, k9⟩ := znd b
      have em : mkF (n + 1) P = 60 :: (runesIn P.Name ++ ((P.Attrs.map atR).flatMap AtW.run ++ 62 :: (bif isVoid P.Name then [] else (P.Kids.map (mkF n)).flatten ++ (60 :: 47 :: (runesIn P.Name ++ [62]))))) := by unfold mkF; rw [if_neg hn]
      refine ⟨g5, z, nr, P.Attrs.map atR, P.Kids.map (mkF n), ?_, by simp, fun j q r hq hr => ?_, by rw [em, k5]⟩
      · have eat : (P.Attrs.map atR).map AtW.at_ = P.Attrs := by
          rw [List.map_map]
          conv => rhs; rw [← List.map_id P.Attrs]
          apply List.map_congr_left
          intro x hx
          have := (g3 x hx).1.2.1
          show ({ Name := textOf (runesIn x.Name), Value := x.Value } : zab) = x
          rw [this]
        refine ⟨by rw [← k5, k2], ⟨k6, k7⟩, fun y hy => k4 y (by rw [k5]; exact .tail _ hy), eat, fun x hx => ?_, by rw [List.length_map]; exact g, by rw [eat]; exact g2, fun e => k8 (by rw [e]; decide), fun e => k8 (by rw [e]; decide)⟩
        obtain ⟨y, hy, rfl⟩ := List.mem_map.1 hx
        exact at_ok (g3 y hy)
      · rw [List.getElem?_map, hq] at hr
        cases hr
        exact wF_wr n _ _ q (k q (List.mem_of_getElem? hq))
end
section
open Go.RowKit Go.Sl
open Go.V (T)
def bR (l : List Int) : List Int := toI (enc8 l)
theorem zic (a b : List Int) : bR (a ++ b) = bR a ++ bR b := by unfold bR; rw [zo1]; simp [toI]
theorem zk8 {c : Int} (h : 0 ≤ c ∧ c < 128) (l : List Int) : bR (c :: l) = c :: bR l := by
  have e : enc8 (c :: l) = encL c.toNat ++ enc8 l := rfl
  unfold bR
  rw [e, zt8 (by omega)]
  show ((c.toNat : Nat) : Int) :: toI (enc8 l) = _
  rw [Int.toNat_of_nonneg h.1]
theorem zsl {s : ByteArray} (h : textOf (runesIn s) = s) : bR (runesIn s) = bytesIn s := by
  unfold bR
  rw [zhz, ← zg0 (zes s), h]
theorem bR_esc {q : Bool} {s : ByteArray} (h : textOf (runesIn s) = s) : bR (escR q (runesIn s)) = bytesIn (escS q s) := by
  have e := zri (q := q) (zes s)
  rw [h] at e
  unfold bR
  rw [← e, zhz, zg0 (zjq (zes s))]
def fine (l : List Int) : Prop := ∀ x ∈ l, Utf8.valid x = true ∧ x ≠ 13 ∧ x ≠ 0
theorem fine.app {a b : List Int} (h : fine a) (g : fine b) : fine (a ++ b) := fun x hx => (List.mem_append.1 hx).elim (h x) (g x)
theorem fine.con {c : Int} {l : List Int} (h : 0 ≤ c ∧ c < 128 ∧ c ≠ 13 ∧ c ≠ 0) (g : fine l) : fine (c :: l) := fun x hx => by
  rcases List.mem_cons.1 hx with rfl | hx
  · exact ⟨zlk ⟨h.1, h.2.1⟩, h.2.2.1, h.2.2.2⟩
  · exact g x hx
theorem fine.nil : fine [] := fun x hx => by cases hx
theorem zq5 {s : ByteArray} (h : okNm s) : fine (runesIn s) := fun x hx => by
  have := h.2.2.2 x hx
  refine ⟨zes s x hx, ?_, ?_⟩ <;> (rintro rfl; exact absurd this (by decide))
theorem zt6 {q : Bool} {s : ByteArray} (h : okT s) : fine (escR q (runesIn s)) := fun x hx =>
  ⟨zjq (zes s) x hx,(zq6 x hx).2.1,(zq6 x hx).2.2.2 h.2.2⟩
theorem at_bR {a : zab} (h : okNm a.Name ∧ okT a.Value) : fine (atR a).run ∧ bR (atR a).run = atB a := by
  have e1 : (atR a).run = 32 :: (runesIn a.Name ++ (61 :: 34 :: (escR true (runesIn a.Value) ++ [34]))) := by simp [AtW.run, atR]
  rw [e1]
  refine ⟨fine.con (by decide) ((zq5 h.1).app (fine.con (by decide) (fine.con (by decide) ((zt6 h.2).app (fine.con (by decide) fine.nil))))), ?_⟩
  rw [zk8 (by decide), zic, zk8 (by decide), zk8 (by decide), zic, zk8 (by decide), zsl h.1.2.1, bR_esc h.2.2.1]
  rfl
theorem ats_bR : ∀ {l : List zab}, (∀ a ∈ l, okNm a.Name ∧ okT a.Value) → fine ((l.map atR).flatMap AtW.run) ∧ bR ((l.map atR).flatMap AtW.run) = l.flatMap atB
  | [], _ => ⟨fine.nil, rfl⟩
  | a :: l, h => by
    obtain ⟨f1, e1⟩ := at_bR (h a (.head _))
    obtain ⟨f2, e2⟩ := ats_bR (l := l) fun x hx => h x (.tail _ hx)
    rw [List.map_cons, List.flatMap_cons, List.flatMap_cons, zic, e1, e2]
    exact ⟨f1.app f2, rfl⟩
theorem zsd {F G : za8 → List Int} : ∀ {ks : List za8}, (∀ k ∈ ks, fine (F k) ∧ bR (F k) = G k) → fine (ks.map F).flatten ∧ bR (ks.map F).flatten = ks.flatMap G
  | [], _ => ⟨fine.nil, rfl⟩
  | k :: ks, h => by
    obtain ⟨f1, e1⟩ := h k (.head _)
    obtain ⟨f2, e2⟩ := zsd (ks := ks) fun x hx => h x (.tail _ hx)
    rw [List.map_cons, List.flatten_cons, List.flatMap_cons, zic, e1, e2]
    exact ⟨f1.app f2, rfl⟩
theorem wF_bR : ∀ (n : Nat) (pn : ByteArray) (inp : Bool) (P : za8), wF n pn inp P → fine (mkF n P) ∧ bR (mkF n P) = mkB n P
  | 0, _, _, _, h => h.elim
  | n + 1, pn, inp, P, ⟨h1, h2⟩ => by
    unfold mkF mkB
    by_cases hn : P.Name = bs []
    · obtain ⟨a, b, c, d, e⟩ := h1 hn
      rw [if_pos hn, if_pos hn]
      exact ⟨zt6 e, bR_esc e.2.1⟩
    · obtain ⟨a, b, c, d, e, f, g, g2, g3, g4, g5, k⟩ := h2 hn
      obtain ⟨hk, _⟩ := znd b
      obtain ⟨f1, e1⟩ := ats_bR g3
      obtain ⟨f2, e2⟩ := zsd (F := mkF n) (G := mkB n) fun q hq => wF_bR n _ _ q (k q hq)
      have f3 : fine (60 :: 47 :: (runesIn P.Name ++ [62])) := fine.con (by decide) (fine.con (by decide) ((zq5 hk).app (fine.con (by decide) fine.nil)))
      have e3 : bR (60 :: 47 :: (runesIn P.Name ++ [62])) = 60 :: 47 :: (bytesIn P.Name ++ [62]) := by
        rw [zk8 (by decide), zk8 (by decide), zic, zsl hk.2.1, zk8 (by decide)]; rfl
      rw [if_neg hn, if_neg hn]
      rw [zk8 (by decide), zic, zic, zsl hk.2.1, e1, zk8 (by decide)]
      cases isVoid P.Name with
      | true => exact ⟨fine.con (by decide) ((zq5 hk).app (f1.app (fine.con (by decide) fine.nil))), rfl⟩
      | false =>
        simp only [cond_false]
        rw [zic, e2, e3]
        exact ⟨fine.con (by decide) ((zq5 hk).app (f1.app (fine.con (by decide) (f2.app f3)))), rfl⟩
theorem zuh {l : List Int} (h : fine l) : textOf l = bytesOf (bR l) := by
  unfold bR
  rw [← zg0 (xs := l) fun x hx => (h x hx).1, ← zhz, zf9]
theorem zv0 : ∀ (n : Nat) (P : za8), szW n P → (mkB n P).length ≤ 1000000000 * szF n P
  | 0, P, h => h.elim
  | n + 1, P, ⟨z1, z2, z3, z4, z5, z6⟩ => by
    have hs : szF (n + 1) P = 1 + (P.Kids.map (szF n)).sum := rfl
    rw [hs]
    unfold mkB
    by_cases hn : P.Name = bs []
    · rw [if_pos hn, zak]
      have := znf false P.Text
      omega
    · rw [if_neg hn]
      have ha := zvp z4
      have hk : ∀ (ks : List za8),(∀ k ∈ ks, szW n k) → (ks.flatMap (mkB n)).length ≤ 1000000000 * (ks.map (szF n)).sum := fun ks => by
        induction ks with
        | nil => intro _; simp
        | cons k ks ih =>
          intro h
          have := zv0 n k (h k (.head _))
          have := ih fun x hx => h x (.tail _ hx)
          simp only [List.flatMap_cons, List.length_append, List.map_cons, List.sum_cons]
          omega
      have hk := hk P.Kids (z6 hn).2
      cases isVoid P.Name with
      | true => simp only [cond_true, List.length_cons, List.length_append, zak, List.length_nil]; omega
      | false => simp only [cond_false, List.length_cons, List.length_append, zak, List.length_nil]; omega
theorem zuf : ∀ (n : Nat) (P : za8),(tkF n P).length ≤ 2 * szF n P
  | 0, P => by simp [tkF]
  | n + 1, P => by
    have hs : szF (n + 1) P = 1 + (P.Kids.map (szF n)).sum := rfl
    rw [hs]
    unfold tkF
    have hk : ∀ (ks : List za8),(ks.flatMap (tkF n)).length ≤ 2 * (ks.map (szF n)).sum := fun ks => by
      induction ks with
      | nil => simp
      | cons k ks ih =>
        have := zuf n k
        simp only [List.flatMap_cons, List.length_append, List.map_cons, List.sum_cons]
        omega
    have := hk P.Kids
    split
    · simp only [List.length_cons, List.length_nil]; omega
    · cases isVoid P.Name with
      | true => simp only [cond_true, List.length_cons, List.length_nil]; omega
      | false => simp only [cond_false, List.length_cons, List.length_append, List.length_nil]; omega
theorem szF_le : ∀ (n : Nat) (P : za8), szF n P ≤ psize P
  | 0, P => by simp [szF]
  | n + 1, P => by
    have hs : szF (n + 1) P = 1 + (P.Kids.map (szF n)).sum := rfl
    rw [hs, zek]
    have hk : ∀ (ks : List za8),(ks.map (szF n)).sum ≤ pssize ks := fun ks => by
      induction ks with
      | nil => simp
      | cons k ks ih =>
        have := szF_le n k
        simp only [List.map_cons, List.sum_cons, pssize]
        omega
    have := hk P.Kids
    omega
theorem szFs_le (n : Nat) (ks : List za8) : (ks.map (szF n)).sum ≤ pssize ks := by
  have := szF_le (n + 1) ⟨bs [], bs [],[], ks⟩
  have hs : szF (n + 1) (⟨bs [], bs [],[], ks⟩ : za8) = 1 + (ks.map (szF n)).sum := rfl
  rw [hs, zek] at this
  simp only at this
  omega
end
section
open Go.RowKit Go.Sl
open Go.V (T)
section
variable {n : Nat} {x a : zae} {pp pk : Bool}
theorem zr7 (h : nodeB n x a pp pk = true) (hk : x.Kind = 2) : a.Name ∉ tabL ∧ plainD x.Text = true ∧ ¬ (0 ≤ x.Prev ∧ pk = true) := by
  unfold nodeB bodyB at h
  rw [dT hk] at h
  simp only [Bool.true_or, Bool.and_true, cond_true, Bool.and_eq_true, Bool.not_eq_true', decide_eq_false_iff_not] at h
  obtain ⟨h1, h2, h3⟩ := h
  refine ⟨h1, h2, fun ⟨e1, e2⟩ => ?_⟩
  rw [dT e1, e2] at h3; cases h3
theorem zuw (h : nodeB n x a pp pk = true) (hk : x.Kind ≠ 2) : (a.Name ∈ tabL → withinW x.Name = a.Name) ∧ x.Name ∈ knownL ∧ (x.Name ∈ voidL → ¬ 0 ≤ x.First) ∧ (withinW x.Name ≠ bs [] → withinW x.Name = a.Name) ∧ (pp = true → x.Name ∉ blockL) ∧ ∀ t ∈ x.Attrs, okAt n t = true := by
  unfold nodeB bodyB at h
  rw [dF hk] at h
  simp only [Bool.false_or, cond_false, Bool.and_eq_true, Bool.not_eq_true', Bool.and_eq_false_iff, decide_eq_false_iff_not, decide_eq_true_eq, Decidable.not_not] at h
  obtain ⟨h1, ⟨⟨h2, h3⟩, h4⟩, h5, h6⟩ := h
  refine ⟨fun e => h1.resolve_left fun g => g e, h2, fun e => h3.resolve_left fun g => g e, fun e => h4.resolve_left fun g => e g, fun e => ?_, fun t ht => List.all_eq_true.1 h6 t ht⟩
  subst e
  exact h5.resolve_left fun g => Bool.noConfusion g
end
end
section
open Go.RowKit Go.Sl
theorem zux {s : ByteArray} (h : textOf (runesIn s) = s) (h0 : (0 : Nat) ∉ byL s) : ∀ x ∈ runesIn s, x ≠ 0 := fun x hx e => by
  subst e
  apply h0
  rw [← h, zg0 (zes s)]
  exact List.mem_flatMap.2 ⟨0, hx, by decide⟩
theorem has0_no {s : ByteArray} (h : has0 s = false) : (0 : Nat) ∉ byL s := fun hm => by
  unfold has0 at h
  rw [Bool.or_eq_false_iff, decide_eq_false_iff_not, decide_eq_false_iff_not] at h
  have hge := Lib.indexByte_ge s.data.toList (0 : Int).toNat.toUInt8
  have hn := Lib.indexByte_none (l := s.data.toList) (c := (0 : Int).toNat.toUInt8) (by omega)
  unfold byL at hm
  obtain ⟨b, hb, e⟩ := List.mem_map.1 hm
  obtain ⟨i, hi⟩ := List.getElem?_of_mem hb
  apply hn i
  rw [hi]
  have : b = (0 : Int).toNat.toUInt8 := UInt8.toNat.inj e
  rw [this]
theorem okT_of {s : ByteArray} (hs : s.size ≤ 1048576) (h : plainD s = true) : okT s := by
  unfold plainD at h
  rw [Bool.and_eq_true, Bool.not_eq_true'] at h
  have := zug h.1
  exact ⟨hs, this, zux this (has0_no h.2)⟩
theorem okA_of {n : Nat} {a : zab} (h1 : a.Name.size ≤ 1048576) (h2 : a.Value.size ≤ 1048576) (hn : 2000000 ≤ n) (h : okAt n a = true) : okNm a.Name ∧ okT a.Value := by
  unfold okAt at h
  rw [Bool.and_eq_true] at h
  obtain ⟨e1, e2, e3⟩ := zvn h.1 (by omega)
  exact ⟨⟨h1, e3, e1, e2⟩, okT_of h2 h.2⟩
end
section
open Go.RowKit Go.Sl
def szN (x : zae) : Prop := x.Name.size ≤ 1048576 ∧ x.Text.size ≤ 1048576 ∧ ∀ a ∈ x.Attrs, a.Name.size ≤ 1048576 ∧ a.Value.size ≤ 1048576
section
variable {ns : List zae} {n : Nat}
theorem nd_at {A B l : List zae} {x : zae} (hns : ns = A ++ (l ++ B)) (hx : l[0]? = some x) : A.length < ns.length ∧ nd ns A.length = x := by
  have hg := zp4 hns hx
  rw [zbr] at hg
  have hl := (List.getElem?_eq_some_iff.1 hg).1
  refine ⟨hl, ?_⟩
  rw [zii ns hl] at hg
  exact Option.some.inj hg
theorem att_pw {l : List zab} (h : ∀ i, attP l i) : l.Pairwise (fun a b => a.Name ≠ b.Name) := by
  rw [List.pairwise_iff_getElem]
  intro i j hi hj hij
  exact ((h j) l[j] (List.getElem?_eq_getElem hj)).2 i hij l[i] (List.getElem?_eq_getElem hi)
variable (h : RT ns) (hd : ¬ deepP ns) (hn : 2000000 ≤ n) (hnb : ∀ j,1 ≤ j → j < ns.length → NB n ns j = true) (hsz : ∀ j, j < ns.length → szN (nd ns j))
include h hd hn hnb hsz
def LayW (n : Nat) (ns : List zae) (m : Nat) : Prop := ∀ (P : za8) (A B : List zae) (q : Nat) (pr nx : Int), cleanP P = P → ns = A ++ (lay P A.length (q : Int) pr nx ++ B) → 1 ≤ A.length → (row ns A.length).length + m = 257 → wF m (nd ns q).Name (pf ns q) P
theorem kidsW {m : Nat} (ih : LayW n ns m) {q : Nat} (hq : (row ns q).length + 1 + m = 257) : ∀ (ks : List za8) (pr : Int) (A B : List zae),(∀ k ∈ ks, cleanP k = k) → ns = A ++ (lays ks A.length (q : Int) pr (-1) ++ B) → 1 ≤ A.length →
    (∀ k ∈ ks, wF m (nd ns q).Name (pf ns q) k) ∧ noAdj ks ∧ (∀ k, ks[0]? = some k → k.Name = bs [] → 0 ≤ pr → (nd ns pr.toNat).Kind ≠ 2)
  | [], pr, A, B, _, _, _ => ⟨fun k hk => (by cases hk), fun j a b hj => (by simp at hj), fun k hk => (by simp at hk)⟩
  | k :: r, pr, A, B, hc, hns, hA => by
    simp only [lays, List.append_assoc] at hns
    generalize hnx : (if r.length = 0 then (-1 : Int) else ((A.length + nsz k : Nat) : Int)) = nx at hns
    obtain ⟨x, rr, a1, a2, a3, a4, a5, a6, a7⟩ := zm3 k A.length (q : Int) pr nx
    obtain ⟨hl, hx⟩ := nd_at (x := x) hns (by rw [a1]; rfl)
    have hpar : par ns A.length = (q : Int) := by show (nd ns A.length).Parent = _; rw [hx, a2]
    obtain ⟨q', e1, e2, e3, e4⟩ := h.parq hA hl
    obtain rfl : q = q' := by omega
    have hrow : (row ns A.length).length + m = 257 := by rw [e4, List.length_cons]; omega
    have hw := ih k A _ q pr nx (hc k (.head _)) hns hA hrow
    have hA2 : (A ++ lay k A.length (q : Int) pr nx).length = A.length + nsz k := by rw [List.length_append, znx]
    obtain ⟨g1, g2, g3⟩ := kidsW ih hq r (A.length : Int) (A ++ lay k A.length (q : Int) pr nx) B (fun y hy => hc y (.tail _ hy)) (by rw [hA2, List.append_assoc]; exact hns) (by omega)
    refine ⟨fun y hy => ?_, fun j a b ha hb hna => ?_, fun y hy hyn hpr => ?_⟩
    · rcases List.mem_cons.1 hy with rfl | hy
      · exact hw
      · exact g1 y hy
    · cases j with
      | zero =>
        simp only [List.getElem?_cons_zero, Option.some.injEq] at ha
        subst ha
        intro hbn
        have := g3 b (by simpa using hb) hbn (by omega)
        rw [Int.toNat_natCast, hx] at this
        exact this (a6.2 hna)
      | succ j => exact g2 j a b (by simpa using ha) (by simpa using hb) hna
    · simp only [List.getElem?_cons_zero, Option.some.injEq] at hy
      subst hy
      have hb := hnb A.length hA hl
      unfold NB at hb
      have := (zr7 hb (by rw [hx]; exact a6.2 hyn)).2.2
      rw [hx, a3] at this
      intro hk
      exact this ⟨hpr, dT hk⟩
end
end
end Go.Proofs.YtpfdbeafdjnbnaaGreatDoor
