/-
  Walks and laws of this seat.
-/
import Derived.Test.YtpfdbeafdjnbnaaGreatDoorX6
import Derived.Test.YtpfdbeafdjnbnaaGreatDoorL6v
namespace Go.Proofs.YtpfdbeafdjnbnaaGreatDoor
set_option linter.unusedVariables false
set_option linter.unusedSimpArgs false
set_option linter.unusedSectionVars false
section
open Go.RowKit Go.Sl
open Go.V (T)
structure Path (A : List za4) (o : List Int) (ns : List ByteArray) : Prop where
  len : o.length = ns.length
  ne : 0 < o.length
  at_ : ∀ (j : Nat) k, o[j]? = some k → ∃ (c : Nat) (x : za4), k = c ∧ A[c]? = some x ∧ ns[j]? = some x.name
  up : ∀ (j : Nat) (k : Int) (c : Nat) (x : za4), o[j]? = some k → k = c → A[c]? = some x → x.above = if j = 0 then -1 else o.getD (j - 1) 0
section
variable {A : List za4} {o : List Int} {ns : List ByteArray} {b : za7}
theorem last_E (hp : Path A o ns) (hl : o.length ≤ 1000000) (hb : b.open_ = o) {i : Int} (hi : 0 ≤ i) {s : ByteArray} : T (fun k _ => zdh k b i s A) fun r => (r = -1 ∧ ∀ (j : Nat), i < j → ns[j]? ≠ some s) ∨ ∃ m : Nat, r = m ∧ i < m ∧ m < o.length ∧ ns[m]? = some s ∧ ∀ (j : Nat), m < j → ns[j]? ≠ some s := by
  have hlen := hp.len
  have key : ∀ (m : Nat) (y : Int), y.toNat ≤ m → -1 ≤ y → y < o.length → (∀ j : Nat, y < j → ns[j]? ≠ some s) → T (fun _ n => zbt A b i s n y) fun r => (r = -1 ∧ ∀ (j : Nat), i < j → ns[j]? ≠ some s) ∨ ∃ m : Nat, r = m ∧ i < m ∧ m < o.length ∧ ns[m]? = some s ∧ ∀ (j : Nat), m < j → ns[j]? ≠ some s := by
    intro m
    induction m with
    | zero =>
      intro y h g g' hy
      refine T.step ?_
      unfold zbt
      exact T.dec (fun _ => by omega) fun hn => T.some (.inl ⟨rfl, fun j hj => hy j (by omega)⟩)
    | succ m ih =>
      intro y h g g' hy
      refine T.step ?_
      unfold zbt
      refine T.dec (fun hyi => ?_) fun hn => T.some (.inl ⟨rfl, fun j hj => hy j (by omega)⟩)
      obtain ⟨j, rfl⟩ : ∃ j : Nat, y = j := ⟨y.toNat, by omega⟩
      have hj : j < o.length := by omega
      obtain ⟨c, x, e1, e2, e3⟩ := hp.at_ j _ (List.getElem?_eq_getElem hj)
      rw [hb]
      refine T.getN (List.getElem?_eq_getElem hj) ?_
      rw [e1]
      refine T.foc e2 (by simp) (T.dec (fun e => T.some (.inr ⟨j, rfl, by omega, hj, by rw [e3, e], fun q hq => hy q (by omega)⟩)) fun e => ?_)
      rw [w64n (by omega)]
      refine ih _ (by omega) (by omega) (by omega) fun q hq => ?_
      by_cases hqj : q = j
      · subst hqj; rw [e3]; exact fun h => e (Option.some.inj h)
      · exact hy q (by omega)
  unfold zdh
  rw [hb, w64n (by omega)]
  refine T.diag (F := fun _ n => zbt A b i s n ((o.length : Int) - 1)) (key _ _ (Nat.le_refl _) (by omega) (by omega) fun j hj => ?_)
  rw [List.getElem?_eq_none (by omega)]
  exact fun h => by cases h
theorem bar_E (hp : Path A o ns) (hl : o.length ≤ 1000000) (hb : b.open_ = o) {l : List ByteArray} (hll : l.length ≤ 1000) : T (fun k _ => zcc k b l A) fun r => ∃ m : Nat, r = m ∧ m < o.length ∧ (m = 0 ∨ ∃ z, ns[m]? = some z ∧ z ∈ l) ∧ ∀ (j : Nat) z, m < j → ns[j]? = some z → z ∉ l := by
  have hlen := hp.len
  have hne := hp.ne
  have key : ∀ (m : Nat) (y : Int), y.toNat ≤ m → 0 ≤ y → y < o.length → (∀ (j : Nat) z, y < j → ns[j]? = some z → z ∉ l) → T (fun k n => zc1 k A b l n y) fun r => ∃ m : Nat, r = m ∧ m < o.length ∧ (m = 0 ∨ ∃ z, ns[m]? = some z ∧ z ∈ l) ∧ ∀ (j : Nat) z, m < j → ns[j]? = some z → z ∉ l := by
    intro m
    induction m with
    | zero =>
      intro y h g g' hy
      refine T.step ?_
      unfold zc1
      exact T.dec (fun _ => by omega) fun _ => T.some ⟨0, rfl, hne, .inl rfl, fun j z hj => hy j z (by omega)⟩
    | succ m ih =>
      intro y h g g' hy
      refine T.step ?_
      unfold zc1
      refine T.dec (fun hy0 => ?_) fun _ => T.some ⟨0, rfl, hne, .inl rfl, fun j z hj => hy j z (by omega)⟩
      obtain ⟨j, rfl⟩ : ∃ j : Nat, y = j := ⟨y.toNat, by omega⟩
      have hj : j < o.length := by omega
      obtain ⟨c, x, e1, e2, e3⟩ := hp.at_ j _ (List.getElem?_eq_getElem hj)
      rw [hb]
      refine T.getN (List.getElem?_eq_getElem hj) ?_
      rw [e1]
      refine T.foc e2 (by simp) (T.bind (in_T hll) fun r hr => T.bif (fun e => T.some ⟨j, rfl, hj, .inr ⟨_, e3, hr.1 e⟩, fun q z hq => hy q z (by omega)⟩) fun e => ?_)
      rw [w64n (by omega)]
      refine ih _ (by omega) (by omega) (by omega) fun q z hq hz => ?_
      by_cases hqj : q = j
      · subst hqj
        rw [e3] at hz; cases hz
        exact fun hm => by rw [hr.2 hm] at e; cases e
      · exact hy q z (by omega) hz
  unfold zcc
  rw [hb, w64n (by omega)]
  refine T.diag (F := fun k n => zc1 k A b l n ((o.length : Int) - 1)) (key _ _ (Nat.le_refl _) (by omega) (by omega) fun j z hj hz => ?_)
  have := (List.getElem?_eq_some_iff.1 hz).1
  omega
theorem zi3 (hp : Path A o ns) (hl : o.length ≤ 1000000) (hb : b.open_ = o) {i : Int} (hi : 0 ≤ i) {s : ByteArray} (hs : ∀ j : Nat, i < j → ns[j]? ≠ some s) : T (fun k _ => zbj k b i s A) (· = b) := by
  unfold zbj
  refine T.bind (last_E hp hl hb hi) fun r hr => ?_
  rcases hr with ⟨rfl, _⟩ | ⟨m, rfl, h1, _, h3, _⟩
  · refine T.dec (fun h => by omega) fun _ => ?_
    unfold zca
    exact T.some rfl
  · exact absurd h3 (hs m h1)
theorem zma (hp : Path A o ns) (hl : o.length ≤ 1000000) (hb : b.open_ = o) {c : Nat} (hc : o[o.length - 1]? = some (c : Int)) : T (fun k _ => zbc k b A) (· = ((c : Int), b)) := by
  have hne := hp.ne
  unfold zbc
  rw [hb, w64n (by omega), show ((o.length : Int) - 1) = ((o.length - 1 : Nat) : Int) by omega]
  exact T.getN hc (T.some rfl)
end
def addN (A : List za4) (c : Nat) (x nd : za4) : List za4 := ((A ++ [nd]).set c { x with kids := x.kids ++ [(A.length : Int)] }).set A.length { nd with above := (c : Int) }
section
variable {A : List za4} {c : Nat} {x nd : za4} (hx : A[c]? = some x)
theorem zh4 : (addN A c x nd).length = A.length + 1 := by unfold addN; simp
theorem zme : (addN A c x nd)[A.length]? = some { nd with above := (c : Int) } := by
  unfold addN; exact List.getElem?_set_self (by simp)
include hx
theorem zvr : (addN A c x nd)[c]? = some { x with kids := x.kids ++ [(A.length : Int)] } := by
  have := (List.getElem?_eq_some_iff.1 hx).1
  unfold addN
  rw [List.getElem?_set_ne (by omega)]
  exact List.getElem?_set_self (by simp; omega)
omit hx in
theorem zqk {i : Nat} (hi : i < A.length) (hc : i ≠ c) : (addN A c x nd)[i]? = A[i]? := by
  unfold addN
  rw [List.getElem?_set_ne (by omega), List.getElem?_set_ne (by omega), List.getElem?_append_left hi]
theorem zvs {i : Nat} {y : za4} (hy : A[i]? = some y) : ∃ y', (addN A c x nd)[i]? = some y' ∧ y'.name = y.name ∧ y'.above = y.above := by
  by_cases e : i = c
  · subst e
    rw [hx] at hy; cases hy
    exact ⟨_, zvr hx, rfl, rfl⟩
  · exact ⟨y, by rw [zqk (List.getElem?_eq_some_iff.1 hy).1 e]; exact hy, rfl, rfl⟩
theorem Path.add {o : List Int} {ns : List ByteArray} (hp : Path A o ns) : Path (addN A c x nd) o ns := by
  refine ⟨hp.len, hp.ne, fun j k hj => ?_, fun j k d y hj hk hy => ?_⟩
  · obtain ⟨d, y, e1, e2, e3⟩ := hp.at_ j k hj
    obtain ⟨y', h1, h2, _⟩ := zvs (nd := nd) hx e2
    exact ⟨d, y', e1, h1, by rw [h2]; exact e3⟩
  · obtain ⟨d', y0, e1, e2, e3⟩ := hp.at_ j k hj
    obtain rfl : d = d' := by omega
    obtain ⟨y', h1, _, h3⟩ := zvs (nd := nd) hx e2
    rw [hy] at h1; cases h1
    rw [h3]
    exact hp.up j k d y0 hj hk e2
theorem Path.push {o : List Int} {ns : List ByteArray} (hp : Path A o ns) (hc : o[o.length - 1]? = some (c : Int)) : Path (addN A c x nd) (o ++ [(A.length : Int)]) (ns ++ [nd.name]) := by
  have h := Path.add (nd := nd) hx hp
  have hne := hp.ne
  have hlen := hp.len
  refine ⟨by simp [hp.len], by simp, fun j k hj => ?_, fun j k d y hj hk hy => ?_⟩
  · by_cases hjl : j < o.length
    · rw [List.getElem?_append_left hjl] at hj
      obtain ⟨d, y, e1, e2, e3⟩ := h.at_ j k hj
      exact ⟨d, y, e1, e2, by rw [List.getElem?_append_left (by omega)]; exact e3⟩
    · have := (List.getElem?_eq_some_iff.1 hj).1
      obtain rfl : j = o.length := by simp at this; omega
      simp at hj
      subst hj
      exact ⟨A.length, _, rfl, zme, by rw [List.getElem?_append_right (by omega), show o.length - ns.length = 0 by omega]; rfl⟩
  · by_cases hjl : j < o.length
    · rw [List.getElem?_append_left hjl] at hj
      have := h.up j k d y hj hk hy
      rw [this]
      split
      · rfl
      · rw [List.getD_eq_getElem?_getD, List.getD_eq_getElem?_getD, List.getElem?_append_left (by omega)]
    · have := (List.getElem?_eq_some_iff.1 hj).1
      obtain rfl : j = o.length := by simp at this; omega
      simp at hj
      obtain rfl : d = A.length := by omega
      rw [zme] at hy; cases hy
      rw [if_neg (by omega), List.getD_eq_getElem?_getD, List.getElem?_append_left (by omega), hc]; rfl
end
theorem chain_E {A' B : List za4} {p1 : Int} {x5 : Int × za7} {x15 x32 : za4} {x56 : List Int} (hB : setM (setM A' x5.1 ({name := x32.name, text := x32.text, attrs := x32.attrs, above := x32.above, kids := x56} : za4)) p1 ({name := x15.name, text := x15.text, attrs := x15.attrs, above := x5.1, kids := x15.kids} : za4) = B) (hdp : x5.2.deep = false) {o : List Int} {ns : List ByteArray} (hp : Path B o ns) (hl : o.length ≤ 255 + 1) : ∀ (j : Nat) (z : Int) (k : Int), o[j]? = some k → 0 ≤ z → z + (j : Int) + 1 ≤ 256 → T (fun _ n => zbq A' p1 x5 x15 x32 x56 n z k) (· = (⟨x5.2.open_, w64 (x5.2.count + 1), false⟩, B)) := by
  intro j
  induction j with
  | zero =>
    intro z k hk h0 h1
    obtain ⟨c, x, e1, e2, _⟩ := hp.at_ 0 k hk
    have hu := hp.up 0 k c x hk e1 e2
    subst e1
    refine T.step ?_
    unfold zbq
    rw [hB]
    refine T.bif (fun _ => T.foc e2 (by simp) ?_) fun h => by simp at h
    rw [hu, if_pos rfl, w64n (by omega)]
    refine T.step ?_
    unfold zbq zef
    rw [hB, hdp, decide_eq_false (show ¬ 256 < z + 1 by omega)]
    exact T.bif (fun h => by simp at h) fun _ => T.some rfl
  | succ j ih =>
    intro z k hk h0 h1
    obtain ⟨c, x, e1, e2, _⟩ := hp.at_ (j + 1) k hk
    have hu := hp.up (j + 1) k c x hk e1 e2
    have hj := (List.getElem?_eq_some_iff.1 hk).1
    subst e1
    refine T.step ?_
    unfold zbq
    rw [hB]
    refine T.bif (fun _ => T.foc e2 (by simp) ?_) fun h => by simp at h
    rw [hu, if_neg (by omega), w64n (by omega)]
    have e : o[j]? = some (o.getD (j + 1 - 1) 0) := by
      rw [Nat.add_sub_cancel, List.getD_eq_getElem?_getD, List.getElem?_eq_getElem (by omega)]; rfl
    exact ih (z + 1) _ e (by omega) (by omega)
section
variable {A : List za4} {o : List Int} {ns : List ByteArray} {b : za7} {c : Nat} {x nd : za4}
theorem put_E (hp : Path A o ns) (hd : o.length + 1 ≤ 256) (hl : A.length ≤ 1000000) (hb : b = ⟨o,(A.length : Int), false⟩) (hc : o[o.length - 1]? = some (c : Int)) (hx : A[c]? = some x) (hkl : x.kids.length ≤ 1000000) :
    T (fun k _ => zem k b (A.length : Int) (-1) (A ++ [nd])) (· = (⟨o,((A.length + 1 : Nat) : Int), false⟩, addN A c x nd)) := by
  subst hb
  have hcA := (List.getElem?_eq_some_iff.1 hx).1
  have old : (A ++ [nd])[c]? = some x := by rw [List.getElem?_append_left hcA]; exact hx
  have new : (A ++ [nd])[A.length]? = some nd := by simp
  unfold zem
  refine T.dec (fun _ => T.bind (m := fun k _ => zbc k ⟨o,(A.length : Int), false⟩ (A ++ [nd])) (P := (· = ((c : Int),(⟨o,(A.length : Int), false⟩ : za7)))) ?_ fun r hr => ?_) fun h => absurd rfl h
  · unfold zbc
    have hne := hp.ne
    show T (fun k n => (geti o (w64 ((o.length : Int) - 1))).bind _) _
    rw [w64n (by omega), show ((o.length : Int) - 1) = ((o.length - 1 : Nat) : Int) by omega]
    exact T.getN hc (T.some rfl)
  · subst hr
    refine T.foc new (by simp) (T.foc old (by simp; omega) (T.app (by simp; omega) (by simp; omega) ?_))
    have hpp := hp.push (nd := nd) hx hc
    have := chain_E (A' := A ++ [nd]) (B := addN A c x nd) (p1 := (A.length : Int)) (x5 := ((c : Int), ⟨o,(A.length : Int), false⟩)) (x15 := nd) (x32 := x) (x56 := x.kids ++ [(A.length : Int)]) rfl rfl hpp (by simp; omega) o.length 0 (A.length : Int) (by simp) (by omega) (by omega)
    refine (T.diag (F := fun _ n => zbq (A ++ [nd]) (A.length : Int) ((c : Int), ⟨o,(A.length : Int), false⟩) nd x (x.kids ++ [(A.length : Int)]) n 0 (A.length : Int)) this).mono fun r hr => ?_
    rw [hr]
    show ((⟨o, w64 ((A.length : Int) + 1), false⟩ : za7), _) = _
    rw [zfd (by omega)]
end
end
section
open Go.RowKit Go.Sl
open Go.V (T)
abbrev nTable : ByteArray := bs [116,97,98,108,101]
abbrev nTr : ByteArray := bs [116,114]
abbrev nTd : ByteArray := bs [116,100]
abbrev nLi : ByteArray := bs [108,105]
abbrev nUl : ByteArray := bs [117,108]
abbrev nP : ByteArray := bs [112]
abbrev nRoot : ByteArray := bs [114,111,111,116]
abbrev voids : List ByteArray := [(bs [98,114]),(bs [104,114]),(bs [105,109,103]),(bs [105,110,112,117,116]),(bs [108,105,110,107]),(bs [109,101,116,97])]
abbrev blocks : List ByteArray := [(bs [100,105,118]),(bs [112]),(bs [117,108]),(bs [108,105]),(bs [104,49]),(bs [116,97,98,108,101])]
theorem Void_E {s : ByteArray} : T (fun k _ => zgc k s) fun b => b = true ↔ s ∈ voids := by
  unfold zgc
  exact T.bind (in_T (by decide)) fun r h => T.some h
theorem block_E {s : ByteArray} : T (fun k _ => zjk k s) fun b => b = true ↔ s ∈ blocks := by
  unfold zjk
  exact T.bind (in_T (by decide)) fun r h => T.some h
section
variable {A : List za4} {o : List Int} {ns : List ByteArray} {b : za7} {c : Nat} {x : za4} {s : ByteArray} {at_ : List zab}
variable (hp : Path A o ns) (hol : o.length ≤ 1000) (hl : A.length ≤ 100000) (hb : b = ⟨o,(A.length : Int), false⟩) (hc : o[o.length - 1]? = some (c : Int)) (hx : A[c]? = some x)
include hp hol hl hb hc hx
omit hol hl hb in
theorem zst : ns[o.length - 1]? = some x.name := by
  obtain ⟨d, y, e1, e2, e3⟩ := hp.at_ _ _ hc
  obtain rfl : c = d := by omega
  rw [hx] at e2; cases e2
  exact e3
abbrev elN (s : ByteArray) (at_ : List zab) : za4 := { name := s, text := bs [], attrs := at_, above := -1, kids := [] }
theorem zvh (hd : o.length + 1 ≤ 256) (hkl : x.kids.length ≤ 1000000) (ha : at_.length ≤ 1000000) (h1 : x.name = nTable → s = nTr) (h2 : x.name = nTr → s = nTd) {Q : za7 × List za4 → Prop}
    (hQ1 : s ∈ voids → Q (⟨o,((A.length + 1 : Nat) : Int), false⟩, addN A c x (elN s at_))) (hQ2 : s ∉ voids → Q (⟨o ++ [(A.length : Int)],((A.length + 1 : Nat) : Int), false⟩, addN A c x (elN s at_))) :
    T (fun k _ => ze2 k b s at_ A) Q := by
  have e2 : ∀ y : Bool, y = false → T (fun k _ => zb3 k A s at_ ((c : Int), b) y) Q := fun y hy => by
    subst hy hb
    unfold zb3 zd5 zi6
    refine T.bif (fun h => by cases h) fun _ => T.app (by simp; omega) (by simp; omega) (T.bind (put_E (nd := elN s ([] ++ at_)) hp hd (by omega) rfl hc hx hkl) fun r hr => ?_)
    subst hr
    refine T.bind Void_E fun v hv => T.bif (fun h => T.app (by simp; omega) (by simp; omega) ?_) fun h => ?_
    · exact T.some (hQ2 fun hm => by rw [hv.2 hm] at h; cases h)
    · exact T.some (hQ1 (hv.1 (by simpa using h)))
  unfold ze2
  refine T.bind (zma hp (by omega) (by rw [hb]) hc) fun r hr => ?_
  subst hr
  have tr : T (fun k n => bif decide (x.name = (bs [116,114])) then zb3 k A s at_ ((c : Int), b) (decide (s ≠ (bs [116,100]))) else zb3 k A s at_ ((c : Int), b) false) Q :=
    T.dec (fun e => e2 _ (decide_eq_false fun h => h (h2 e))) fun _ => e2 _ rfl
  refine T.foc hx (by simp) (T.dec (fun e => T.bind (in_T (by decide)) fun r hr => T.bif (fun h => ?_) fun _ => tr) fun _ => tr)
  have : r = true := hr.2 (by rw [h1 e]; simp)
  rw [this] at h; cases h
theorem chars_E (hd : o.length + 1 ≤ 256) (hkl : x.kids.length ≤ 1000000) (h1 : x.name ≠ nTable) (h2 : x.name ≠ nTr) (hk : ∀ (k : Int) (d : Nat) (y : za4), x.kids[x.kids.length - 1]? = some k → k = d → A[d]? = some y → y.name ≠ bs []) (hkA : ∀ k ∈ x.kids, ∃ (d : Nat) (y : za4), k = d ∧ A[d]? = some y) :
    T (fun k _ => zdx k b s A) (· = (⟨o,((A.length + 1 : Nat) : Int), false⟩, addN A c x { name := bs [], text := s, attrs := [], above := -1, kids := [] })) := by
  unfold zdx
  refine T.bind (zma hp (by omega) (by rw [hb]) hc) fun r hr => ?_
  subst hr
  refine T.foc hx (by simp) (T.bind (in_T (by decide)) fun r hr => T.bif (fun h => ?_) fun _ => ?_)
  · have := hr.1 h
    simp only [List.mem_cons, List.not_mem_nil, or_false] at this
    rcases this with h | h
    · exact absurd h h1
    · exact absurd h h2
  · subst hb
    unfold zdo
    refine T.bind (zma hp (by omega) rfl hc) fun r hr => ?_
    subst hr
    have k2 : ∀ (y : Bool), y = false → T (fun k _ => zcx k A s (-1) ((c : Int), ⟨o,(A.length : Int), false⟩) y) (· = (⟨o,((A.length + 1 : Nat) : Int), false⟩, addN A c x { name := bs [], text := s, attrs := [], above := -1, kids := [] })) := fun y hy => by
      subst hy
      unfold zcx
      refine T.bif (fun h => by cases h) fun _ => T.bind (put_E (nd := { name := bs [], text := s, attrs := [], above := -1, kids := [] }) hp hd (by omega) rfl hc hx hkl) fun r hr => ?_
      subst hr
      exact T.some rfl
    refine T.foc hx (by simp) (T.bif (fun h => by simp at h) fun _ => T.dec (fun h0 => ?_) fun _ => k2 _ rfl)
    have hm1 : x.kids.length - 1 < x.kids.length := by omega
    obtain ⟨d, y, e1, e2⟩ := hkA _ (List.getElem_mem hm1)
    rw [w64n (by omega), show (x.kids.length : Int) - 1 = ((x.kids.length - 1 : Nat) : Int) by omega]
    refine T.getN (List.getElem?_eq_getElem hm1) ?_
    rw [e1]
    exact T.foc e2 (by simp) (k2 _ (decide_eq_false (hk _ d y (List.getElem?_eq_getElem hm1) e1 e2)))
theorem zsk {l : List ByteArray} (hll : l.length ≤ 1000) (hn : x.name ∈ l) : T (fun k _ => zcc k b l A) (· = ((o.length - 1 : Nat) : Int)) := by
  have ht := zst hp hc hx
  refine (bar_E hp (by omega) (by rw [hb]) hll).mono fun r ⟨m, h1, h2, h3, h4⟩ => ?_
  have : ¬ m < o.length - 1 := fun h => h4 _ _ h ht hn
  rw [h1]; congr 1; omega
theorem opened_E (hd : o.length + 1 ≤ 256) (hkl : x.kids.length ≤ 1000000) (ha : at_.length ≤ 1000000) (h1 : x.name = nTable → s = nTr) (h2 : x.name = nTr → s = nTd) (hpp : s ∈ blocks → nP ∉ ns) (hli : s = nLi → x.name = nUl) (htr : s = nTr → x.name = nTable) (htd : s = nTd → x.name = nTr) {Q : za7 × List za4 → Prop}
    (hQ1 : s ∈ voids → Q (⟨o,((A.length + 1 : Nat) : Int), false⟩, addN A c x (elN s at_))) (hQ2 : s ∉ voids → Q (⟨o ++ [(A.length : Int)],((A.length + 1 : Nat) : Int), false⟩, addN A c x (elN s at_))) :
    T (fun k _ => zdg k b s at_ A) Q := by
  subst hb
  have hlen := hp.len
  have fin : T (fun k _ => zcm k A s at_ o (A.length : Int) false) Q := by
    unfold zcm
    exact T.bind (zvh hp hol hl rfl hc hx hd hkl ha h1 h2 (Q := Q) hQ1 hQ2) fun r hr => T.some hr
  have beh : ∀ {j : Nat}, ((o.length - 1 : Nat) : Int) < (j : Int) → ∀ z, ns[j]? ≠ some z := fun hj z h => by
    have := (List.getElem?_eq_some_iff.1 h).1; omega
  have k1 : T (fun k _ => zcn k A s at_ o (A.length : Int) false) Q := by
    unfold zcn zde zdf
    refine T.dec (fun e => T.bind (zsk hp hol hl rfl hc hx (by decide) (by rw [hli e]; simp)) fun m hm => ?_) fun _ => T.dec (fun e => T.bind (zsk hp hol hl rfl hc hx (by decide) (by rw [htr e]; simp)) fun m hm => ?_) fun _ => T.dec (fun e => T.bind (zsk hp hol hl rfl hc hx (by decide) (by rw [htd e]; simp)) fun m hm => ?_) fun _ => fin
    · subst hm
      refine T.bind (zi3 hp (by omega) rfl (by omega) fun j hj => beh hj _) fun r hr => ?_
      subst hr; exact fin
    · subst hm
      refine T.bind (zi3 hp (by omega) rfl (by omega) fun j hj => beh hj _) fun r hr => ?_
      subst hr; exact fin
    · subst hm
      refine T.bind (zi3 hp (by omega) rfl (by omega) fun j hj => beh hj _) fun r hr => ?_
      subst hr
      refine T.bind (zma hp (by omega) rfl hc) fun r hr => ?_
      subst hr
      refine T.foc hx (by simp) (T.dec (fun h => ?_) fun _ => fin)
      rw [htd e] at h
      exact absurd h (by decide)
  unfold zdg
  refine T.bind block_E fun r hr => T.bif (fun h => T.bind (bar_E hp (by omega) rfl (by decide)) fun m hm => ?_) fun _ => k1
  obtain ⟨m, rfl, _⟩ := hm
  refine T.bind (zi3 hp (by omega) rfl (by omega) fun j _ e => hpp (hr.1 h) (List.mem_of_getElem? e)) fun r hr => ?_
  subst hr
  exact k1
theorem closed_E (h2 : 2 ≤ o.length) (hv : x.name ∉ voids) (hr : x.name ≠ nRoot) : T (fun k _ => zdi k b x.name A) (· = (⟨o.take (o.length - 1),(A.length : Int), false⟩, A)) := by
  subst hb
  have ht := zst hp hc hx
  have k2 : ∀ m : Nat, m < o.length - 1 → T (fun k _ => zcp k A ⟨o,(A.length : Int), false⟩ x.name (m : Int)) (· = (⟨o.take (o.length - 1),(A.length : Int), false⟩, A)) := fun m hm => by
    unfold zcp
    refine T.bind (last_E hp (by omega) rfl (by omega)) fun r hr => ?_
    rcases hr with ⟨rfl, h3⟩ | ⟨q, rfl, h3, h4, h5, h6⟩
    · exact absurd ht (h3 _ (by omega))
    · have hq : q = o.length - 1 := by
        have : ¬ q < o.length - 1 := fun h => h6 _ h ht
        omega
      subst hq
      refine T.dec (fun h => by omega) fun _ => ?_
      rw [zfd (by omega)]
      refine T.cut (by omega) (by simp; omega) (by simp) fun r hr hrl => T.app (by simp at hrl ⊢; omega) (by simp at hrl ⊢; omega) ?_
      have hr0 : r = [] := List.eq_nil_of_length_eq_zero (by simp at hrl; omega)
      subst hr0
      refine T.bind (close_T (o := o) (Q := (· = (⟨o.take (o.length - 1),(A.length : Int), false⟩ : za7))) rfl (by omega) rfl) fun z hz => T.bind marked_T fun _ _ => ?_
      subst hz
      refine T.bif (fun _ => T.some rfl) fun _ => T.bind (ztv (p := fun k z0 => zeq k z0 A)) fun w hw0 => ?_
      subst hw0
      rw [show (bif decide (w64 (((List.length ([] : List Int) : Nat) : Int) - 8) < 0) then (0 : Int) else w64 (((List.length ([] : List Int) : Nat) : Int) - 8)) = 0 from rfl]
      refine T.cut (by omega) (by simp) (by simp) fun y hy hyl => ?_
      have hy0 : y = [] := List.eq_nil_of_length_eq_zero (by simpa using hyl)
      subst hy0
      refine T.diag (F := fun k n => zco A ⟨o.take (o.length - 1),(A.length : Int), false⟩ [] n) (T.step ?_)
      unfold zco zej
      exact T.dec (fun h => by simp at h) fun _ => T.some rfl
  have k1 : T (fun k _ => zcq k A ⟨o,(A.length : Int), false⟩ x.name false) (· = (⟨o.take (o.length - 1),(A.length : Int), false⟩, A)) := by
    unfold zcq
    refine T.bif (fun h => by cases h) fun _ => T.bind (bar_E hp (by omega) rfl (by decide)) fun m hm => T.bind (in_T (by decide)) fun r hr => T.bif (fun _ => k2 0 (by omega)) fun h => ?_
    obtain ⟨m, rfl, h3, h4, _⟩ := hm
    refine k2 m ?_
    have : m ≠ o.length - 1 := fun e => by
      rcases h4 with h4 | ⟨z, h4, h5⟩
      · omega
      · rw [e, ht] at h4
        cases h4
        have : r = true := hr.2 (by rw [List.mem_singleton.1 h5]; simp)
        rw [this] at h; cases h
    omega
  unfold zdi
  refine T.bind Void_E fun v hv' => T.bif (fun h => absurd (hv'.1 h) hv) fun _ => ?_
  rw [decide_eq_false (show ¬ x.name = bs [114,111,111,116] from hr)]
  exact k1
end
end
end Go.Proofs.YtpfdbeafdjnbnaaGreatDoor
