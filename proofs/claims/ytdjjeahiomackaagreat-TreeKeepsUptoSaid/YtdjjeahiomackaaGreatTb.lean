/-
  Walks and laws of this seat.
-/
import Derived.Test.YtdjjeahiomackaaGreatTa
namespace Go.Proofs.YtdjjeahiomackaaGreat
set_option linter.unusedVariables false
set_option linter.unusedSimpArgs false
set_option linter.unusedSectionVars false
section
open Go.RowKit Go.Sl
open Go.V (T)
theorem T.dg {α : Type} {F : Nat → Nat → Option α} {Q : α → Prop} (h : T F Q) : T (fun _ n => F n n) Q := by
  obtain ⟨r, h1, K, h2⟩ := h
  exact ⟨r, h1, K, fun _ n _ hn => h2 n n hn hn⟩
theorem T.fl {α : Type} {f : Nat → Option α} {Q : α → Prop} (h : T (fun _ n => f n) Q) : T (fun k _ => f k) Q := by
  obtain ⟨r, h1, K, h2⟩ := h
  exact ⟨r, h1, K, fun k _ hk _ => h2 k k hk hk⟩
theorem seti_n {α : Type} {l : List α} {i : Nat} (h : i < l.length) (x : α) : seti l (i : Int) x = some (l.set i x) := by
  unfold seti
  rw [if_pos ⟨by omega, by rw [Int.toNat_natCast]; exact h⟩, Int.toNat_natCast]
theorem T.set {α β : Type} {l : List α} {i : Nat} {x : α} {G : Nat → Nat → List α → Option β} {Q : β → Prop} (h : i < l.length) (g : T (fun k n => G k n (l.set i x)) Q) : T (fun k n => (seti l (i : Int) x).bind fun r => G k n r) Q := by
  rw [seti_n h]; exact g
section
variable {P : Int → Prop} {p : Nat → Int → Option Bool}
theorem delete_T (hp : ∀ z, P z → T (fun k _ => p k z) fun _ => True) {l : List Int} (hl : ∀ z ∈ l, P z) (hn : l.length ≤ 1000000) {A : List za0} : T (fun k _ => zaw k l (p k) A) fun r => (∀ z ∈ r, P z) ∧ r.length ≤ l.length := by
  have ix : ∀ (m j : Nat), l.length - j ≤ m → T (fun k n => zab l (p k) n (j : Int)) fun r => r = -1 ∨ ∃ m : Nat, r = m ∧ m < l.length := by
    intro m
    induction m with
    | zero =>
      intro j h
      refine T.step ?_
      unfold zab zar
      exact T.dec (fun _ => by omega) fun _ => T.some (.inl rfl)
    | succ m ih =>
      intro j h
      refine T.step ?_
      unfold zab zar
      refine T.dec (fun hj => ?_) fun _ => T.some (.inl rfl)
      have hj : j < l.length := by omega
      refine T.getN (List.getElem?_eq_getElem hj) (T.bind (hp _ (hl _ (List.getElem_mem hj))) fun _ _ => T.bif (fun _ => T.some (.inr ⟨j, rfl, hj⟩)) fun _ => ?_)
      rw [zcj (by omega)]
      exact ih (j + 1) (by omega)
  have key : ∀ (m j i : Nat) (y : List Int), y.length - j ≤ m → y.length = l.length → i ≤ j → j ≤ y.length → (∀ z ∈ y, P z) → T (fun k n => za8 (p k) n y (i : Int) (j : Int)) fun r => (∀ z ∈ r, P z) ∧ r.length ≤ l.length := by
    have fin : ∀ (i : Nat) (y : List Int), i ≤ y.length → y.length = l.length → (∀ z ∈ y, P z) → T (fun _ _ => zaq y (i : Int)) fun r => (∀ z ∈ r, P z) ∧ r.length ≤ l.length := fun i y hi hyl hy => by
      unfold zaq
      have hc : (clrM y (i : Int)).length = y.length := by unfold clrM; simp; omega
      refine T.cut (by omega) (by omega) (by omega) fun _ _ _ => T.cut (by omega) (by omega) (by omega) fun r hr hrl => T.some ⟨fun z hz => ?_, by omega⟩
      rw [hr] at hz
      have : z ∈ y.take i := by
        simp only [clrM, Int.toNat_natCast, Int.toNat_zero, List.drop_zero] at hz
        rw [List.take_append_of_le_length (by simp; omega), List.take_take, Nat.min_self] at hz
        exact hz
      exact hy z (List.mem_of_mem_take this)
    intro m
    induction m with
    | zero =>
      intro j i y h hyl hij hjl hy
      refine T.step ?_
      unfold za8
      exact T.dec (fun _ => by omega) fun _ => fin i y (by omega) hyl hy
    | succ m ih =>
      intro j i y h hyl hij hjl hy
      refine T.step ?_
      unfold za8 zap
      refine T.dec (fun hj => ?_) fun _ => fin i y (by omega) hyl hy
      have hj : j < y.length := by omega
      refine T.getN (List.getElem?_eq_getElem hj) (T.bind (hp _ (hy _ (List.getElem_mem hj))) fun _ _ => T.bif (fun _ => ?_) fun _ => ?_)
      · refine T.getN (List.getElem?_eq_getElem (show i < y.length by omega)) (T.set (by omega) ?_)
        rw [zcj (by omega), zcj (by omega)]
        refine ih (j + 1) (i + 1) _ (by simp; omega) (by simpa using hyl) (by omega) (by simp; omega) fun z hz => ?_
        rcases List.mem_or_eq_of_mem_set hz with hz | rfl
        · exact hy z hz
        · exact hy _ (List.getElem_mem hj)
      · rw [zcj (by omega)]
        exact ih (j + 1) i y (by omega) hyl (by omega) (by omega) hy
  unfold zaw zb8
  refine T.bind (T.diag (F := fun k n => zab l (p k) n 0) (ix _ 0 (Nat.le_refl _))) fun r hr => T.dec (fun _ => T.some ⟨hl, Nat.le_refl _⟩) fun h => ?_
  rcases hr with rfl | ⟨m, rfl, hm⟩
  · exact absurd rfl h
  rw [zcj (by omega)]
  exact T.diag (F := fun k n => za8 (p k) n l (m : Int) ((m + 1 : Nat) : Int)) (key _ (m + 1) m l (Nat.le_refl _) rfl (by omega) (by omega) hl)
end
section
variable {A : List za0} {b : za2} {s : ByteArray}
def Nms (z : ByteArray) : Prop := z ≠ bs []
def ClQ (A : List za0) (r : za2 × List za0) : Prop := Bd r.1 r.2 ∧ Puts A r.2 8 Nms
theorem again_T {l : List Int} (hll : l.length ≤ 8) (hlA : ∀ z ∈ l, ∃ c : Nat, z = c ∧ ∃ x, A[c]? = some x ∧ x.name ≠ bs []) (hl : A.length ≤ 50000) : ∀ (m j : Nat) (b : za2) (B : List za0), l.length - j ≤ m → j ≤ l.length → Bd b B → Puts A B j Nms → T (fun k n => zav k l n b.open_ b.count b.deep (j : Int) B) (ClQ A) := by
  intro m
  induction m with
  | zero =>
    intro j b B h hj hB hp
    refine T.step ?_
    unfold zav zcq
    exact T.dec (fun _ => by omega) fun _ => T.some ⟨hB, hp.mono (by omega) fun _ h => h⟩
  | succ m ih =>
    intro j b B h hj hB hp
    refine T.step ?_
    unfold zav zcq
    refine T.dec (fun hj' => ?_) fun _ => T.some ⟨hB, hp.mono (by omega) fun _ h => h⟩
    have hj' : j < l.length := by omega
    obtain ⟨c, e1, y, e2, e3⟩ := hlA _ (List.getElem_mem hj')
    have hpl := hp.len
    have hcA := (List.getElem?_eq_some_iff.1 e2).1
    have hcB : c < B.length := by omega
    have hnm : B[c].name ≠ bs [] := by
      obtain ⟨l', g1, _⟩ := hp
      have h1 : (B.map cont)[c]? = some (cont B[c]) := by rw [List.getElem?_map, List.getElem?_eq_getElem hcB]; rfl
      rw [g1, List.getElem?_append_left (by simpa using hcA), List.getElem?_map, e2] at h1
      have h2 : y.name = B[c].name := congrArg (fun z : Ct => z.1) (Option.some.inj h1)
      rw [← h2]; exact e3
    refine T.getN (List.getElem?_eq_getElem hj') ?_
    rw [e1]
    refine T.foc (List.getElem?_eq_getElem hcB) (by simp) (T.bind (zo0 (b := ⟨b.open_, b.count, b.deep⟩) hnm hB (by omega) (hB.att _ (List.getElem_mem hcB))) fun r hr => ?_)
    rw [zcj (by omega)]
    refine ih (j + 1) r.1 r.2 (by omega) (by omega) hr.1 (hp.trans (hr.2.1.mono (Nat.le_refl _) fun z hz => ?_) (Nat.le_refl _))
    rw [show z = _ from hz]; exact hnm
theorem zrl (h : Bd b A) (hl : A.length ≤ 40000) {i : Int} (hi : 0 ≤ i) : T (fun k _ => zbx k A b s i) (ClQ A) := by
  unfold zbx zcr
  have hol := h.opn.len
  refine T.bind (zvb h.opn (by omega) rfl hi) fun r hr => T.dec (fun h0 => ?_) fun h0 => ?_
  · refine T.dec (fun _ => T.bind (zt1 (by decide) h (by omega) (by simp)) fun q hq => ?_) fun _ => T.some ⟨h, .nil⟩
    have h2 := hq.2.2.2 rfl
    have hql := hq.2.1.len
    have hqo := hq.1.opn.len
    rw [w64n (by omega), show ((q.1.open_.length : Int) - 1) = ((q.1.open_.length - 1 : Nat) : Int) by omega]
    refine T.bind (zsp (Q := fun r => Bd r q.2) rfl (by omega) (hq.1.open rfl ⟨hq.1.opn.take (by omega), fun _ hk => List.mem_of_mem_take hk⟩)) fun z hz => T.some ⟨hz, hq.2.1.mono (by omega) fun z hz => ?_⟩
    rcases hz with rfl | rfl
    · exact (by decide : bs [112] ≠ bs [])
    · exact (by decide : bs [116,114] ≠ bs [])
  · rcases hr with rfl | ⟨m, rfl, h1, h2⟩
    · omega
    rw [zcj (by omega)]
    refine T.cut (by omega) (by omega) (by omega) fun x hx hxl => T.app (by simp; omega) (by simp; omega) ?_
    rw [List.nil_append]
    refine T.bind (zsp (Q := fun r => Bd r A) rfl (by omega) (h.open rfl ⟨h.opn.take h1, fun _ hk => List.mem_of_mem_take hk⟩)) fun z hz => T.bind zt7 fun _ _ => T.bif (fun _ => T.some ⟨hz, .nil⟩) fun _ => ?_
    have hxP : ∀ y ∈ x, ∃ c : Nat, y = c ∧ ∃ x, A[c]? = some x ∧ x.name ≠ bs [] := fun y hy => by
      rw [hx] at hy
      have hy : y ∈ b.open_ := List.mem_of_mem_take (List.mem_of_mem_drop hy)
      obtain ⟨j, hj⟩ := List.getElem?_of_mem hy
      obtain ⟨c, e1, e2, _⟩ := h.opn.at_ j y hj
      exact ⟨c, e1, _, List.getElem?_eq_getElem e2, h.nam c (e1 ▸ hy) _ (List.getElem?_eq_getElem e2)⟩
    refine T.bind (delete_T (P := fun y => ∃ c : Nat, y = c ∧ ∃ x, A[c]? = some x ∧ x.name ≠ bs []) (p := fun k z0 => zcx k z0 A) (fun y hy => ?_) hxP (by omega)) fun w hw => ?_
    · obtain ⟨c, rfl, x, hc, _⟩ := hy
      unfold zcx
      exact T.foc hc (by simp) (T.bind zt7 fun _ _ => T.some trivial)
    obtain ⟨hw, hwl⟩ := hw
    have hxL : x.length ≤ 100000 := by omega
    rw [w64n (by omega)]
    have tail : ∀ (lo : Int),0 ≤ lo → lo ≤ w.length → (w.length : Int) - lo ≤ 8 → T (fun k n => (cutM w lo (w.length : Int)).bind fun x93 => zav k x93 k z.open_ z.count z.deep 0 A) (ClQ A) := fun lo g1 g2 g3 => by
      refine T.cut g1 g2 (by omega) fun y hy hyl => ?_
      refine T.diag (F := fun k n => zav k y n z.open_ z.count z.deep 0 A) (again_T (by omega) (fun v hv => ?_) (by omega) _ 0 z A (Nat.le_refl _) (by omega) hz .nil)
      rw [hy] at hv
      exact hw v (List.mem_of_mem_take (List.mem_of_mem_drop hv))
    by_cases h8 : (w.length : Int) - 8 < 0
    · rw [show decide ((w.length : Int) - 8 < 0) = true from decide_eq_true h8, cond_true]
      exact tail 0 (by omega) (by omega) (by omega)
    · rw [show decide ((w.length : Int) - 8 < 0) = false from decide_eq_false h8, cond_false]
      exact tail _ (by omega) (by omega) (by omega)
theorem closed_T (h : Bd b A) (hl : A.length ≤ 40000) : T (fun k _ => zdi k b s A) (ClQ A) := by
  have k1 : ∀ y : Bool, T (fun k _ => zby k A b s y) (ClQ A) := fun y => by
    unfold zby
    exact T.bif (fun _ => T.some ⟨h, .nil⟩) fun _ => T.bind (zw7 h.opn (by omega) rfl (by decide)) fun _ hi => T.bind (in_T (by decide)) fun _ _ => T.bif (fun _ => zrl h hl (Int.le_refl 0)) fun _ => zrl h hl hi
  unfold zdi
  exact T.bind Void_T fun _ _ => T.bif (fun _ => k1 _) fun _ => k1 _
end
end
section
open Go.RowKit Go.Sl
open Go.V (T)
section
variable {A : List za0} {b : za2} {s : ByteArray}
theorem Inv.txt (h : Inv A) {i : Nat} {x : za0} (hx : A[i]? = some x) (t : ByteArray) : Inv (A.set i { x with text := t }) := by
  have hi := (List.getElem?_eq_some_iff.1 hx).1
  have fw : ∀ (j : Nat) (y : za0), A[j]? = some y → ∃ y' : za0,(A.set i { x with text := t })[j]? = some y' ∧ y'.above = y.above ∧ y'.kids = y.kids := fun j y hy => by
    by_cases e : i = j
    · subst e
      rw [hx] at hy; cases hy
      exact ⟨_, List.getElem?_set_self hi, rfl, rfl⟩
    · exact ⟨y, by rw [List.getElem?_set_ne e]; exact hy, rfl, rfl⟩
  have bw : ∀ (j : Nat) (y : za0),(A.set i { x with text := t })[j]? = some y → ∃ y' : za0, A[j]? = some y' ∧ y'.above = y.above ∧ y'.kids = y.kids ∧ y'.name = y.name := fun j y hy => by
    by_cases e : i = j
    · subst e
      rw [List.getElem?_set_self hi] at hy; cases hy
      exact ⟨x, hx, rfl, rfl, rfl⟩
    · rw [List.getElem?_set_ne e] at hy; exact ⟨y, hy, rfl, rfl, rfl⟩
  refine ⟨?_, fun j y hy hj => ?_, fun j y hy k hk => ?_, fun j y hy => ?_, fun j y hy hn => ?_⟩
  · obtain ⟨y, g1, g2⟩ := h.root
    obtain ⟨y', e1, e2, _⟩ := fw 0 y g1
    exact ⟨y', e1, by rw [e2, g2]⟩
  · obtain ⟨y', e1, e2, _⟩ := bw j y hy
    obtain ⟨p, g1, g2, z, g3, g4⟩ := h.up j y' e1 hj
    obtain ⟨z', k1, _, k3⟩ := fw p z g3
    exact ⟨p, by rw [← e2]; exact g1, g2, z', k1, by rw [k3]; exact g4⟩
  · obtain ⟨y', e1, _, e3, _⟩ := bw j y hy
    rw [← e3] at hk
    obtain ⟨c, g1, g2, z, g3, g4⟩ := h.kid j y' e1 k hk
    obtain ⟨z', k1, k2, _⟩ := fw c z g3
    exact ⟨c, g1, g2, z', k1, by rw [k2, g4]⟩
  · obtain ⟨y', e1, _, e3, _⟩ := bw j y hy
    rw [← e3, List.length_set]
    exact h.nodup j y' e1
  · obtain ⟨y', e1, _, e3, e4⟩ := bw j y hy
    rw [← e3]
    exact h.leaf j y' e1 (e4.trans hn)
theorem T.addT {β : Type} {s t : ByteArray} {G : Nat → Nat → ByteArray → Option β} {Q : β → Prop} (h : s.size + t.size ≤ 9223372036854775807) (g : T (fun k n => G k n (s ++ t)) Q) : T (fun k n => (addS s t).bind fun r => G k n r) Q := by
  unfold addS
  rw [decide_eq_true h, cond_true]; exact g
def ChQ (A : List za0) (s : ByteArray) (r : za2 × List za0) : Prop := Bd r.1 r.2 ∧
  ((r.2 = A ∧ ∃ k, zgg k s = some true) ∨ (∃ (i : Nat) (x : za0), A[i]? = some x ∧ x.name = bs [] ∧ r.2 = A.set i { x with text := x.text ++ s }) ∨ r.2.map cont = A.map cont ++ [(bs [], s,[])])
theorem ztj (h : Bd b A) (hl : A.length ≤ 100000) (hM : ∀ x ∈ A, x.text.size + s.size ≤ 9223372036854775807) {t : Int} (ht : t = -1 ∨ ∃ c : Nat, t = c ∧ 0 < c ∧ c < A.length) {z : Int} {ks : List Int} {m : Int} {y : Bool} (hy : y = true → ∃ (i c : Nat) (x : za0), m = (i : Int) + 1 ∧ i < 10000000 ∧ ks[i]? = some (c : Int) ∧ A[c]? = some x ∧ x.name = bs []) : T (fun k _ => zc5 k A s t (z, b) ks m y) (ChQ A s) := by
  unfold zc5
  refine T.bif (fun e => ?_) fun _ => T.bind (put_T (nd := { name := bs [], text := s, attrs := [], above := -1, kids := [] }) h.inv h.nam h.opn (by omega) (b := b) rfl rfl ht) fun r hr => T.some ?_
  · obtain ⟨i, c, x, rfl, g1, g2, g3, g4⟩ := hy e
    rw [w64n (by omega), show (i : Int) + 1 - 1 = (i : Int) by omega]
    have hc := (List.getElem?_eq_some_iff.1 g3).1
    refine T.getN g2 (T.foc g3 (by simp) (T.addT (hM _ (List.mem_of_getElem? g3)) (T.foc g3 (by simp) (T.some ⟨⟨h.inv.txt g3 _, ?_, ?_, ?_, ?_⟩, .inr (.inl ⟨c, x, g3, g4, ?_⟩)⟩))))
    · show Opn b.open_ (A.set c _).length
      rw [List.length_set]; exact h.opn
    · show b.count = ((A.set c _).length : Int)
      rw [List.length_set]; exact h.cnt
    · intro w hw
      rcases List.mem_or_eq_of_mem_set hw with hw | rfl
      · exact h.att w hw
      · exact h.att x (List.mem_of_getElem? g3)
    · intro d hk y hy e
      by_cases q : c = d
      · subst q
        exact h.nam c hk x g3 g4
      · have hy : (A.set c { x with text := x.text ++ s })[d]? = some y := hy
        rw [List.getElem?_set_ne q] at hy
        exact h.nam d hk y hy e
    · rfl
  · obtain ⟨h1, h2, h3, h4, h5⟩ := hr
    have hc : w64 (b.count + 1) = (r.2.length : Int) := by rw [h.cnt, w64n (by omega), h4]; rfl
    have h5' : r.2.map cont = A.map cont ++ [(bs [], s,[])] := by rw [h5, List.map_append]; rfl
    refine ⟨⟨h3, ?_, h2.trans hc, att_of h.att (fun y hy => by rw [List.mem_singleton.1 hy]; simp) h5', by show Nmd r.2 r.1.open_; rw [h1]; exact h.nam.of h.opn h5'⟩, .inr (.inr h5')⟩
    show Opn r.1.open_ r.2.length
    rw [h1, h4]; exact h.opn.grow (by omega)
theorem zq6 (h : Bd b A) (hl : A.length ≤ 100000) (hM : ∀ x ∈ A, x.text.size + s.size ≤ 9223372036854775807) {t : Int} (ht : t = -1 ∨ ∃ c : Nat, t = c ∧ 0 < c ∧ c < A.length) : T (fun k _ => zc6 k A s b.open_ b.count b.deep t) (ChQ A s) := by
  have two : ∀ {z : Int} {q : Nat} {y : za0} (_ : A[q]? = some y) (m : Nat) (_ : m ≤ y.kids.length), T (fun k _ => zbj k A s t (z, b) y.kids (m : Int)) (ChQ A s) := fun {z q y} hq m hm => by
    have hn := h.inv.nodup q y hq
    unfold zbj
    refine T.dec (fun h0 => ?_) fun _ => ztj h hl hM ht fun e => by cases e
    have hm1 : m - 1 < y.kids.length := by omega
    obtain ⟨c, e1, _, x, e2, _⟩ := h.inv.kid q y hq _ (List.getElem_mem hm1)
    rw [w64n (by omega), show (m : Int) - 1 = ((m - 1 : Nat) : Int) by omega]
    refine T.getN (List.getElem?_eq_getElem hm1) ?_
    rw [e1]
    refine T.foc e2 (by simp) (ztj h hl hM ht fun e => ⟨m - 1, c, x, by omega, by omega, by rw [List.getElem?_eq_getElem hm1, e1], e2, of_decide_eq_true e⟩)
  unfold zc6
  refine T.bind (zk1 (b := ⟨b.open_, b.count, b.deep⟩) (Q := fun r => ∃ c : Nat, c < A.length ∧ r = ((c : Int), b)) h.opn (by omega) rfl fun c hc _ => ⟨c, hc, rfl⟩) fun r hr => ?_
  obtain ⟨c, hc, rfl⟩ := hr
  refine T.foc (List.getElem?_eq_getElem hc) (by simp) (T.bif (fun e => ?_) fun _ => two (List.getElem?_eq_getElem hc) _ (Nat.le_refl _))
  rcases ht with rfl | ⟨d, rfl, hd0, hdA⟩
  · cases e
  obtain ⟨p, e1, e2, y, e3, e4⟩ := h.inv.up d _ (List.getElem?_eq_getElem hdA) hd0
  refine T.foc (List.getElem?_eq_getElem hdA) (by simp) ?_
  rw [e1]
  refine T.foc e3 (by simp) ?_
  obtain ⟨m, g1, g2⟩ := zvh e4 (by have := (h.inv.nodup p y e3).2; omega)
  show T (fun k n => (idxP y.kids (d : Int)).bind fun x214 => zbj k A s (d : Int) _ y.kids x214) _
  rw [g2]
  exact two e3 m (by omega)
theorem chars_T (h : Bd b A) (hl : A.length ≤ 100000) (hM : ∀ x ∈ A, x.text.size + s.size ≤ 9223372036854775807) : T (fun k _ => zdt k b s A) (ChQ A s) := by
  unfold zdt
  refine T.bind (zk1 (Q := fun r => ∃ c : Nat, c < A.length ∧ r = ((c : Int), b)) h.opn (by omega) rfl fun c hc _ => ⟨c, hc, rfl⟩) fun r hr => ?_
  obtain ⟨c, hc, rfl⟩ := hr
  refine T.foc (List.getElem?_eq_getElem hc) (by simp) (T.bind (in_T (by decide)) fun _ _ => T.bif (fun _ => T.bind (zwb h.opn (by omega) rfl) fun q hq => ?_) fun _ => zq6 h hl hM (.inl rfl))
  obtain ⟨q1, q2⟩ := q
  obtain ⟨rfl, ht⟩ := hq
  unfold zcy
  refine T.bif (fun _ => T.bind (T.self blanks_T) fun y hy => T.bif (fun e => T.some ⟨h, .inl ⟨rfl, ?_⟩⟩) fun _ => zq6 h hl hM ht) fun _ => zq6 h hl hM ht
  obtain ⟨_, k, _, hk⟩ := hy
  exact ⟨k, by rw [hk, e]⟩
end
inductive PartOf (A : List za0) : Nat → zah → List Nat → Prop
  | mk {i : Nat} {x : za0} {ps : List zah} {ls : List (List Nat)} (h : A[i]? = some x) (h1 : ps.length = x.kids.length) (h2 : ls.length = x.kids.length)
    (hk : ∀ (j c : Nat) (p : zah) (l : List Nat), x.kids[j]? = some (c : Int) → ps[j]? = some p → ls[j]? = some l → PartOf A c p l) : PartOf A i ⟨x.name, x.text, x.attrs, ps⟩ (i :: ls.flatten)
theorem part_T {A : List za0} (hI : Inv A) (hl : A.length ≤ 100000) : ∀ (m i : Nat), A.length - i ≤ m → i < A.length → T (fun _ n => zdd n (i : Int) A) fun p => ∃ l, PartOf A i p l := by
  intro m
  induction m with
  | zero => intro i h hi; omega
  | succ m ih =>
    intro i h hi
    refine T.step ?_
    have hx := List.getElem?_eq_getElem hi
    have hn := hI.nodup i _ hx
    obtain ⟨x, hxe⟩ : ∃ x, x = A[i] := ⟨_, rfl⟩
    rw [← hxe] at hx hn
    have loop : ∀ (e j : Nat) (ps : List zah) (ls : List (List Nat)), j + e = x.kids.length → ps.length = j → ls.length = j → (∀ (q c : Nat) (p : zah) (l : List Nat), x.kids[q]? = some (c : Int) → ps[q]? = some p → ls[q]? = some l → PartOf A c p l) → T (fun k n => zbm A (zdd k) x n ps (j : Int)) fun p => ∃ l, PartOf A i p l := by
      intro e
      induction e with
      | zero =>
        intro j ps ls hj h1 h2 hk
        refine T.step ?_
        unfold zbm ze5
        exact T.dec (fun _ => by omega) fun _ => T.some ⟨_, .mk hx (by omega) (by omega) hk⟩
      | succ e ihe =>
        intro j ps ls hj h1 h2 hk
        refine T.step ?_
        unfold zbm ze5
        have hjl : j < x.kids.length := by omega
        obtain ⟨c, e1, e2, z, e3, _⟩ := hI.kid i x hx _ (List.getElem_mem hjl)
        have hc := (List.getElem?_eq_some_iff.1 e3).1
        refine T.dec (fun _ => T.getN (List.getElem?_eq_getElem hjl) ?_) fun h => absurd (show (j : Int) < _ by omega) h
        rw [e1]
        refine T.bind (T.fl (ih c (by omega) hc)) fun p hp => T.app (by simp; omega) (by simp; omega) ?_
        obtain ⟨l, hp⟩ := hp
        rw [zcj (by omega)]
        refine ihe (j + 1) (ps ++ [p]) (ls ++ [l]) (by omega) (by simp [h1]) (by simp [h2]) fun q d p' l' hq hp' hl' => ?_
        by_cases hqj : q < j
        · rw [List.getElem?_append_left (by omega)] at hp' hl'
          exact hk q d p' l' hq hp' hl'
        · have := (List.getElem?_eq_some_iff.1 hp').1
          obtain rfl : q = j := by simp at this; omega
          rw [List.getElem?_append_right (by omega), h1, Nat.sub_self] at hp'
          rw [List.getElem?_append_right (by omega), h2, Nat.sub_self] at hl'
          cases hp'; cases hl'
          rw [List.getElem?_eq_getElem hjl, e1] at hq
          obtain rfl : c = d := by have := Option.some.inj hq; omega
          exact hp
    show T (fun _ n => zeh (zdd n) n (i : Int) A) _
    unfold zeh
    refine T.foc hx (by simp) (T.dg (F := fun k n => zbm A (zdd k) x n [] 0) (loop x.kids.length 0 [] [] (by omega) rfl rfl fun q c p l _ h => by simp at h))
end
section
open Go.RowKit Go.Sl
inductive Anc (A : List za0) : Nat → Nat → Prop
  | refl (i : Nat) : Anc A i i
  | up {i j p : Nat} {x : za0} (h : A[j]? = some x) (hp : x.above = (p : Int)) (h0 : p < j) (g : Anc A i p) : Anc A i j
section
variable {A : List za0}
theorem Anc.le {i j : Nat} (h : Anc A i j) : i ≤ j := by
  induction h with
  | refl => exact Nat.le_refl _
  | up _ _ _ _ ih => omega
theorem Anc.trans {i j k : Nat} (h : Anc A i j) (g : Anc A j k) : Anc A i k := by
  induction g with
  | refl => exact h
  | up a b c _ ih => exact .up a b c ih
theorem Anc.chain {a b j : Nat} (h : Anc A a j) (g : Anc A b j) (hab : a < b) : Anc A a b := by
  induction g with
  | refl => exact h
  | up k1 k2 k3 g ih =>
    refine ih ?_
    cases h with
    | refl => have := g.le; omega
    | up h1 h2 h3 h =>
      rw [k1] at h1; cases h1
      rw [k2] at h2
      obtain rfl : _ = _ := Int.ofNat.inj h2
      exact h
theorem zr0 {i : Nat} {p : zah} {l : List Nat} (h : PartOf A i p l) : i ∈ l ∧ i < A.length := by
  cases h with
  | mk h => exact ⟨List.mem_cons_self .., (List.getElem?_eq_some_iff.1 h).1⟩
theorem under {x : za0} {ls : List (List Nat)} (hI : Inv A) {i : Nat} (h : A[i]? = some x) (h2 : ls.length = x.kids.length) {l : List Nat} (hl : l ∈ ls) : ∃ (j c : Nat) (z : za0), x.kids[j]? = some (c : Int) ∧ ls[j]? = some l ∧ i < c ∧ A[c]? = some z ∧ z.above = (i : Int) := by
  obtain ⟨j, hj⟩ := List.getElem?_of_mem hl
  have h3 := (List.getElem?_eq_some_iff.1 hj).1
  obtain ⟨c, e1, e2, z, e3, e4⟩ := hI.kid i x h _ (List.getElem_mem (show j < x.kids.length by omega))
  exact ⟨j, c, z, by rw [List.getElem?_eq_getElem (by omega), e1], hj, e2, e3, e4⟩
theorem zsz (hI : Inv A) {i : Nat} {p : zah} {l : List Nat} (h : PartOf A i p l) : ∀ j ∈ l, Anc A i j ∧ j < A.length := by
  induction h with
  | @mk i x ps ls h h1 h2 hk ih =>
    intro j hj
    rcases List.mem_cons.1 hj with rfl | hj
    · exact ⟨.refl _,(List.getElem?_eq_some_iff.1 h).1⟩
    · obtain ⟨l, hl, hjl⟩ := List.mem_flatten.1 hj
      obtain ⟨q, c, z, e1, e2, e3, e4, e5⟩ := under hI h h2 hl
      have hq := (List.getElem?_eq_some_iff.1 e1).1
      have := ih q c _ l e1 (List.getElem?_eq_getElem (show q < ps.length by omega)) e2 j hjl
      exact ⟨(Anc.up e4 e5 e3 (.refl _)).trans this.1, this.2⟩
theorem ztx (hI : Inv A) {i : Nat} {p : zah} {l : List Nat} (h : PartOf A i p l) : l.Nodup := by
  induction h with
  | @mk i x ps ls h h1 h2 hk ih =>
    have sub : ∀ {j c : Nat} {l : List Nat}, x.kids[j]? = some (c : Int) → ls[j]? = some l → l.Nodup ∧ ∀ y ∈ l, Anc A c y := fun {j c l} e1 e2 => by
      have hq := (List.getElem?_eq_some_iff.1 e1).1
      have e3 := List.getElem?_eq_getElem (show j < ps.length by omega)
      exact ⟨ih j c _ l e1 e3 e2, fun y hy => (zsz hI (hk j c _ l e1 e3 e2) y hy).1⟩
    refine List.nodup_cons.2 ⟨fun hm => ?_, List.pairwise_flatten.2 ⟨fun l hl => ?_, List.pairwise_iff_getElem.2 fun a b ha hb hab y hy z hz e => ?_⟩⟩
    · obtain ⟨l, hl, hil⟩ := List.mem_flatten.1 hm
      obtain ⟨q, c, z, e1, e2, e3, e4, e5⟩ := under hI h h2 hl
      have := ((sub e1 e2).2 i hil).le
      omega
    · obtain ⟨q, c, z, e1, e2, e3, e4, e5⟩ := under hI h h2 hl
      exact (sub e1 e2).1
    · subst e
      have ka : a < x.kids.length := by omega
      have kb : b < x.kids.length := by omega
      obtain ⟨c, c1, c2, zc, c3, c4⟩ := hI.kid i x h _ (List.getElem_mem ka)
      obtain ⟨d, d1, d2, zd, d3, d4⟩ := hI.kid i x h _ (List.getElem_mem kb)
      have hc := (sub (by rw [List.getElem?_eq_getElem ka, c1]) (List.getElem?_eq_getElem ha)).2 y hy
      have hd := (sub (by rw [List.getElem?_eq_getElem kb, d1]) (List.getElem?_eq_getElem hb)).2 y hz
      have hne : x.kids[a] ≠ x.kids[b] := List.pairwise_iff_getElem.1 (hI.nodup i x h).1 a b ka kb hab
      have no : ∀ {c d : Nat} {zd : za0}, Anc A c y → Anc A d y → c < d → i < c → A[d]? = some zd → zd.above = (i : Int) → False := fun {c d zd} hc hd hlt hic e1 e2 => by
        have := hc.chain hd hlt
        cases this with
        | refl => omega
        | up h1 h2 h3 g =>
          rw [e1] at h1; cases h1
          rw [e2] at h2
          obtain rfl : _ = _ := Int.ofNat.inj h2
          have := g.le
          omega
      rcases Nat.lt_trichotomy c d with hlt | rfl | hlt
      · exact no hc hd hlt c2 d3 d4
      · exact hne (c1.trans d1.symm)
      · exact no hd hc hlt d2 c3 c4
theorem part_all (hI : Inv A) {i : Nat} {p : zah} {l : List Nat} (h : PartOf A i p l) : ∀ q ∈ l, ∀ y, A[q]? = some y → ∀ c : Nat,(c : Int) ∈ y.kids → c ∈ l := by
  induction h with
  | @mk i x ps ls h h1 h2 hk ih =>
    intro q hq y hy c hc
    rcases List.mem_cons.1 hq with rfl | hq
    · rw [h] at hy; cases hy
      obtain ⟨j, hj⟩ := List.getElem?_of_mem hc
      have hjl := (List.getElem?_eq_some_iff.1 hj).1
      have e2 := List.getElem?_eq_getElem (show j < ls.length by omega)
      exact List.mem_cons_of_mem _ (List.mem_flatten.2 ⟨_, List.mem_of_getElem? e2,(zr0 (hk j c _ _ hj (List.getElem?_eq_getElem (show j < ps.length by omega)) e2)).1⟩)
    · obtain ⟨l, hl, hql⟩ := List.mem_flatten.1 hq
      obtain ⟨j, d, z, e1, e2, _⟩ := under hI h h2 hl
      have hjl := (List.getElem?_eq_some_iff.1 e1).1
      exact List.mem_cons_of_mem _ (List.mem_flatten.2 ⟨l, hl, ih j d _ l e1 (List.getElem?_eq_getElem (show j < ps.length by omega)) e2 q hql y hy c hc⟩)
theorem visit (hI : Inv A) {p : zah} {l : List Nat} (h : PartOf A 0 p l) : l.Perm (List.range A.length) := by
  refine (List.perm_ext_iff_of_nodup (ztx hI h) List.nodup_range).2 fun j => ⟨fun hj => List.mem_range.2 (zsz hI h j hj).2, fun hj => ?_⟩
  have hj := List.mem_range.1 hj
  have key : ∀ (m j : Nat), j ≤ m → j < A.length → j ∈ l := by
    intro m
    induction m with
    | zero =>
      intro j h1 _
      obtain rfl : j = 0 := by omega
      exact (zr0 h).1
    | succ m ih =>
      intro j h1 h2
      by_cases h0 : j = 0
      · exact ih j (by omega) h2
      · obtain ⟨q, e1, e2, y, e3, e4⟩ := hI.up j _ (List.getElem?_eq_getElem h2) (by omega)
        exact part_all hI h q (ih q (by omega) (by omega)) y e3 j e4
  exact key j j (Nat.le_refl _) hj
end
end
end Go.Proofs.YtdjjeahiomackaaGreat
