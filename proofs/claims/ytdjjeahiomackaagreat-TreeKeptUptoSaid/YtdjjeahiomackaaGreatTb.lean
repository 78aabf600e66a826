/-
  Walks and laws of this seat.
-/
import Derived.Test.YtdjjeahiomackaaGreatTa
namespace Go.Proofs.YtdjjeahiomackaaGreat
set_option linter.unusedVariables false
set_option linter.unusedSimpArgs false
set_option linter.unusedSectionVars false
section
open Go.RowKit Go.Sl
open Go.V (T)
theorem T.dg {α : Type} {F : Nat → Nat → Option α} {Q : α → Prop} (h : T F Q) : T (fun _ n => F n n) Q := by
  obtain ⟨r, h1, K, h2⟩ := h
  exact ⟨r, h1, K, fun _ n _ hn => h2 n n hn hn⟩
theorem T.fl {α : Type} {f : Nat → Option α} {Q : α → Prop} (h : T (fun _ n => f n) Q) : T (fun k _ => f k) Q := by
  obtain ⟨r, h1, K, h2⟩ := h
  exact ⟨r, h1, K, fun k _ hk _ => h2 k k hk hk⟩
theorem seti_n {α : Type} {l : List α} {i : Nat} (h : i < l.length) (x : α) : seti l (i : Int) x = some (l.set i x) := by
  unfold seti
  rw [if_pos ⟨by omega, by rw [Int.toNat_natCast]; exact h⟩, Int.toNat_natCast]
theorem T.set {α β : Type} {l : List α} {i : Nat} {x : α} {G : Nat → Nat → List α → Option β} {Q : β → Prop} (h : i < l.length) (g : T (fun k n => G k n (l.set i x)) Q) : T (fun k n => (seti l (i : Int) x).bind fun r => G k n r) Q := by
  rw [seti_n h]; exact g
section
variable {P : Int → Prop} {p : Nat → Int → Option Bool}
theorem delete_T (hp : ∀ z, P z → T (fun k _ => p k z) fun _ => True) {l : List Int} (hl : ∀ z ∈ l, P z) (hn : l.length ≤ 1000000) {A : List za0} : T (fun k _ => zav k l (p k) A) fun r => (∀ z ∈ r, P z) ∧ r.length ≤ l.length := by
  have ix : ∀ (m j : Nat), l.length - j ≤ m → T (fun k n => zad l (p k) n (j : Int)) fun r => r = -1 ∨ ∃ m : Nat, r = m ∧ m < l.length := by
    intro m
    induction m with
    | zero =>
      intro j h
      refine T.step ?_
      unfold zad zar
      exact T.dec (fun _ => by omega) fun _ => T.some (.inl rfl)
    | succ m ih =>
      intro j h
      refine T.step ?_
      unfold zad zar
      refine T.dec (fun hj => ?_) fun _ => T.some (.inl rfl)
      have hj : j < l.length := by omega
      refine T.getN (List.getElem?_eq_getElem hj) (T.bind (hp _ (hl _ (List.getElem_mem hj))) fun _ _ => T.bif (fun _ => T.some (.inr ⟨j, rfl, hj⟩)) fun _ => ?_)
      rw [zbz (by omega)]
      exact ih (j + 1) (by omega)
  have key : ∀ (m j i : Nat) (y : List Int), y.length - j ≤ m → y.length = l.length → i ≤ j → j ≤ y.length → (∀ z ∈ y, P z) → T (fun k n => za8 (p k) n y (i : Int) (j : Int)) fun r => (∀ z ∈ r, P z) ∧ r.length ≤ l.length := by
    have fin : ∀ (i : Nat) (y : List Int), i ≤ y.length → y.length = l.length → (∀ z ∈ y, P z) → T (fun _ _ => zap y (i : Int)) fun r => (∀ z ∈ r, P z) ∧ r.length ≤ l.length := fun i y hi hyl hy => by
      unfold zap
      have hc : (clrM y (i : Int)).length = y.length := by unfold clrM; simp; omega
      refine T.cut (by omega) (by omega) (by omega) fun _ _ _ => T.cut (by omega) (by omega) (by omega) fun r hr hrl => T.some ⟨fun z hz => ?_, by omega⟩
      rw [hr] at hz
      have : z ∈ y.take i := by
        simp only [clrM, Int.toNat_natCast, Int.toNat_zero, List.drop_zero] at hz
        rw [List.take_append_of_le_length (by simp; omega), List.take_take, Nat.min_self] at hz
        exact hz
      exact hy z (List.mem_of_mem_take this)
    intro m
    induction m with
    | zero =>
      intro j i y h hyl hij hjl hy
      refine T.step ?_
      unfold za8
      exact T.dec (fun _ => by omega) fun _ => fin i y (by omega) hyl hy
    | succ m ih =>
      intro j i y h hyl hij hjl hy
      refine T.step ?_
      unfold za8 zao
      refine T.dec (fun hj => ?_) fun _ => fin i y (by omega) hyl hy
      have hj : j < y.length := by omega
      refine T.getN (List.getElem?_eq_getElem hj) (T.bind (hp _ (hy _ (List.getElem_mem hj))) fun _ _ => T.bif (fun _ => ?_) fun _ => ?_)
      · refine T.getN (List.getElem?_eq_getElem (show i < y.length by omega)) (T.set (by omega) ?_)
        rw [zbz (by omega), zbz (by omega)]
        refine ih (j + 1) (i + 1) _ (by simp; omega) (by simpa using hyl) (by omega) (by simp; omega) fun z hz => ?_
        rcases List.mem_or_eq_of_mem_set hz with hz | rfl
        · exact hy z hz
        · exact hy _ (List.getElem_mem hj)
      · rw [zbz (by omega)]
        exact ih (j + 1) i y (by omega) hyl (by omega) (by omega) hy
  unfold zav zbb
  refine T.bind (T.diag (F := fun k n => zad l (p k) n 0) (ix _ 0 (Nat.le_refl _))) fun r hr => T.dec (fun _ => T.some ⟨hl, Nat.le_refl _⟩) fun h => ?_
  rcases hr with rfl | ⟨m, rfl, hm⟩
  · exact absurd rfl h
  rw [zbz (by omega)]
  exact T.diag (F := fun k n => za8 (p k) n l (m : Int) ((m + 1 : Nat) : Int)) (key _ (m + 1) m l (Nat.le_refl _) rfl (by omega) (by omega) hl)
end
section
variable {A : List za0} {b : za3} {s : ByteArray}
def Nms (A : List za0) (z : ByteArray) : Prop := (∃ x ∈ A, x.name = z) ∨ z = bs [112] ∨ z = bs [116,114]
theorem Puts.nms {A B : List za0} {m : Nat} (h : Puts A B m (Nms A)) {z : ByteArray} (hz : Nms B z) : Nms A z := by
  rcases hz with ⟨x, hx, rfl⟩ | hz
  · obtain ⟨l, h1, h2, h3⟩ := h
    have : cont x ∈ A.map cont ++ l := by rw [← h1]; exact List.mem_map_of_mem hx
    rcases List.mem_append.1 this with g | g
    · obtain ⟨y, hy, e⟩ := List.mem_map.1 g
      exact .inl ⟨y, hy, congrArg (fun z : Ct => z.1) e⟩
    · exact (h3 _ g).2.2
  · exact .inr hz
def ClQ (A : List za0) (r : za3 × List za0) : Prop := Bd r.1 r.2 ∧ Puts A r.2 8 (Nms A)
theorem again_T {l : List Int} (hll : l.length ≤ 8) (hlA : ∀ z ∈ l, ∃ c : Nat, z = c ∧ c < A.length) (hl : A.length ≤ 50000) : ∀ (m j : Nat) (b : za3) (B : List za0), l.length - j ≤ m → j ≤ l.length → Bd b B → Puts A B j (Nms A) → T (fun k n => zau k l n b.open_ b.count b.deep (j : Int) B) (ClQ A) := by
  intro m
  induction m with
  | zero =>
    intro j b B h hj hB hp
    refine T.step ?_
    unfold zau zcv
    exact T.dec (fun _ => by omega) fun _ => T.some ⟨hB, hp.mono (by omega) fun _ h => h⟩
  | succ m ih =>
    intro j b B h hj hB hp
    refine T.step ?_
    unfold zau zcv
    refine T.dec (fun hj' => ?_) fun _ => T.some ⟨hB, hp.mono (by omega) fun _ h => h⟩
    have hj' : j < l.length := by omega
    obtain ⟨c, e1, e2⟩ := hlA _ (List.getElem_mem hj')
    have hpl := hp.len
    have hcB : c < B.length := by omega
    refine T.getN (List.getElem?_eq_getElem hj') ?_
    rw [e1]
    refine T.foc (List.getElem?_eq_getElem hcB) (by simp) (T.bind (znu (b := ⟨b.open_, b.count, b.deep⟩) hB (by omega) (hB.att _ (List.getElem_mem hcB))) fun r hr => ?_)
    rw [zbz (by omega)]
    refine ih (j + 1) r.1 r.2 (by omega) (by omega) hr.1 (hp.trans (hr.2.1.mono (Nat.le_refl _) fun z hz => ?_) (Nat.le_refl _))
    exact hp.nms (.inl ⟨B[c], List.getElem_mem hcB, hz.symm⟩)
theorem zr5 (h : Bd b A) (hl : A.length ≤ 40000) {i : Int} (hi : 0 ≤ i) : T (fun k _ => zc2 k A b s i) (ClQ A) := by
  unfold zc2 zcw
  have hol := h.opn.len
  refine T.bind (zun h.opn (by omega) rfl hi) fun r hr => T.dec (fun h0 => ?_) fun h0 => ?_
  · refine T.dec (fun _ => T.bind (zsf h (by omega) (by simp)) fun q hq => ?_) fun _ => T.some ⟨h, .nil⟩
    have h2 := hq.2.2.2 rfl
    have hql := hq.2.1.len
    have hqo := hq.1.opn.len
    rw [w64n (by omega), show ((q.1.open_.length : Int) - 1) = ((q.1.open_.length - 1 : Nat) : Int) by omega]
    refine T.bind (zs2 (Q := fun r => Bd r q.2) rfl (by omega) (hq.1.open rfl (hq.1.opn.take (by omega)))) fun z hz => T.some ⟨hz, hq.2.1.mono (by omega) fun z hz => ?_⟩
    rcases hz with rfl | rfl
    · exact .inr (.inl rfl)
    · exact .inr (.inr rfl)
  · rcases hr with rfl | ⟨m, rfl, h1, h2⟩
    · omega
    rw [zbz (by omega)]
    refine T.cut (by omega) (by omega) (by omega) fun x hx hxl => T.app (by simp; omega) (by simp; omega) ?_
    rw [List.nil_append]
    refine T.bind (zs2 (Q := fun r => Bd r A) rfl (by omega) (h.open rfl (h.opn.take h1))) fun z hz => T.bind zsl fun _ _ => T.bif (fun _ => T.some ⟨hz, .nil⟩) fun _ => ?_
    have hxP : ∀ y ∈ x, ∃ c : Nat, y = c ∧ c < A.length := fun y hy => by
      rw [hx] at hy
      have hy : y ∈ b.open_ := List.mem_of_mem_take (List.mem_of_mem_drop hy)
      obtain ⟨j, hj⟩ := List.getElem?_of_mem hy
      obtain ⟨c, e1, e2, _⟩ := h.opn.at_ j y hj
      exact ⟨c, e1, e2⟩
    refine T.bind (delete_T (P := fun y => ∃ c : Nat, y = c ∧ c < A.length) (p := fun k z0 => zd2 k z0 A) (fun y hy => ?_) hxP (by omega)) fun w hw => ?_
    · obtain ⟨c, rfl, hc⟩ := hy
      unfold zd2
      exact T.foc (List.getElem?_eq_getElem hc) (by simp) (T.bind zsl fun _ _ => T.some trivial)
    obtain ⟨hw, hwl⟩ := hw
    have hxL : x.length ≤ 100000 := by omega
    rw [w64n (by omega)]
    have tail : ∀ (lo : Int),0 ≤ lo → lo ≤ w.length → (w.length : Int) - lo ≤ 8 → T (fun k n => (cutM w lo (w.length : Int)).bind fun x93 => zau k x93 k z.open_ z.count z.deep 0 A) (ClQ A) := fun lo g1 g2 g3 => by
      refine T.cut g1 g2 (by omega) fun y hy hyl => ?_
      refine T.diag (F := fun k n => zau k y n z.open_ z.count z.deep 0 A) (again_T (by omega) (fun v hv => ?_) (by omega) _ 0 z A (Nat.le_refl _) (by omega) hz .nil)
      rw [hy] at hv
      exact hw v (List.mem_of_mem_take (List.mem_of_mem_drop hv))
    by_cases h8 : (w.length : Int) - 8 < 0
    · rw [show decide ((w.length : Int) - 8 < 0) = true from decide_eq_true h8, cond_true]
      exact tail 0 (by omega) (by omega) (by omega)
    · rw [show decide ((w.length : Int) - 8 < 0) = false from decide_eq_false h8, cond_false]
      exact tail _ (by omega) (by omega) (by omega)
theorem closed_T (h : Bd b A) (hl : A.length ≤ 40000) : T (fun k _ => zdp k b s A) (ClQ A) := by
  have k1 : ∀ y : Bool, T (fun k _ => zc3 k A b s y) (ClQ A) := fun y => by
    unfold zc3
    exact T.bif (fun _ => T.some ⟨h, .nil⟩) fun _ => T.bind (zvi h.opn (by omega) rfl (by decide)) fun _ hi => T.bind (in_T (by decide)) fun _ _ => T.bif (fun _ => zr5 h hl (Int.le_refl 0)) fun _ => zr5 h hl hi
  unfold zdp
  exact T.bind Void_T fun _ _ => T.bif (fun _ => k1 _) fun _ => k1 _
end
end
section
open Go.RowKit Go.Sl
open Go.V (T)
section
variable {A : List za0} {b : za3} {s : ByteArray}
theorem Inv.txt (h : Inv A) {i : Nat} {x : za0} (hx : A[i]? = some x) (t : ByteArray) : Inv (A.set i { x with text := t }) := by
  have hi := (List.getElem?_eq_some_iff.1 hx).1
  have fw : ∀ (j : Nat) (y : za0), A[j]? = some y → ∃ y' : za0,(A.set i { x with text := t })[j]? = some y' ∧ y'.above = y.above ∧ y'.kids = y.kids := fun j y hy => by
    by_cases e : i = j
    · subst e
      rw [hx] at hy; cases hy
      exact ⟨_, List.getElem?_set_self hi, rfl, rfl⟩
    · exact ⟨y, by rw [List.getElem?_set_ne e]; exact hy, rfl, rfl⟩
  have bw : ∀ (j : Nat) (y : za0),(A.set i { x with text := t })[j]? = some y → ∃ y' : za0, A[j]? = some y' ∧ y'.above = y.above ∧ y'.kids = y.kids := fun j y hy => by
    by_cases e : i = j
    · subst e
      rw [List.getElem?_set_self hi] at hy; cases hy
      exact ⟨x, hx, rfl, rfl⟩
    · rw [List.getElem?_set_ne e] at hy; exact ⟨y, hy, rfl, rfl⟩
  refine ⟨?_, fun j y hy hj => ?_, fun j y hy k hk => ?_, fun j y hy => ?_⟩
  · obtain ⟨y, g1, g2⟩ := h.root
    obtain ⟨y', e1, e2, _⟩ := fw 0 y g1
    exact ⟨y', e1, by rw [e2, g2]⟩
  · obtain ⟨y', e1, e2, _⟩ := bw j y hy
    obtain ⟨p, g1, g2, z, g3, g4⟩ := h.up j y' e1 hj
    obtain ⟨z', k1, _, k3⟩ := fw p z g3
    exact ⟨p, by rw [← e2]; exact g1, g2, z', k1, by rw [k3]; exact g4⟩
  · obtain ⟨y', e1, _, e3⟩ := bw j y hy
    rw [← e3] at hk
    obtain ⟨c, g1, g2, z, g3, g4⟩ := h.kid j y' e1 k hk
    obtain ⟨z', k1, k2, _⟩ := fw c z g3
    exact ⟨c, g1, g2, z', k1, by rw [k2, g4]⟩
  · obtain ⟨y', e1, _, e3⟩ := bw j y hy
    rw [← e3, List.length_set]
    exact h.nodup j y' e1
theorem T.addT {β : Type} {s t : ByteArray} {G : Nat → Nat → ByteArray → Option β} {Q : β → Prop} (h : s.size + t.size ≤ 9223372036854775807) (g : T (fun k n => G k n (s ++ t)) Q) : T (fun k n => (addS s t).bind fun r => G k n r) Q := by
  unfold addS
  rw [decide_eq_true h, cond_true]; exact g
def ChQ (A : List za0) (s : ByteArray) (r : za3 × List za0) : Prop := Bd r.1 r.2 ∧
  ((r.2 = A ∧ ∃ k, zhx k s = some true) ∨ (∃ (i : Nat) (x : za0), A[i]? = some x ∧ x.name = bs [] ∧ r.2 = A.set i { x with text := x.text ++ s }) ∨ r.2.map cont = A.map cont ++ [(bs [], s,[])])
theorem zsw (h : Bd b A) (hl : A.length ≤ 100000) (hM : ∀ x ∈ A, x.text.size + s.size ≤ 9223372036854775807) {t : Int} (ht : t = -1 ∨ ∃ c : Nat, t = c ∧ 0 < c ∧ c < A.length) {z : Int} {ks : List Int} {m : Int} {y : Bool} (hy : y = true → ∃ (i c : Nat) (x : za0), m = (i : Int) + 1 ∧ i < 10000000 ∧ ks[i]? = some (c : Int) ∧ A[c]? = some x ∧ x.name = bs []) : T (fun k _ => zca k A s t (z, b) ks m y) (ChQ A s) := by
  unfold zca
  refine T.bif (fun e => ?_) fun _ => T.bind (put_T (nd := { name := bs [], text := s, attrs := [], above := -1, kids := [] }) h.inv h.opn (by omega) (b := b) rfl rfl ht) fun r hr => T.some ?_
  · obtain ⟨i, c, x, rfl, g1, g2, g3, g4⟩ := hy e
    rw [w64n (by omega), show (i : Int) + 1 - 1 = (i : Int) by omega]
    have hc := (List.getElem?_eq_some_iff.1 g3).1
    refine T.getN g2 (T.foc g3 (by simp) (T.addT (hM _ (List.mem_of_getElem? g3)) (T.foc g3 (by simp) (T.some ⟨⟨h.inv.txt g3 _, ?_, ?_, ?_⟩, .inr (.inl ⟨c, x, g3, g4, ?_⟩)⟩))))
    · show Opn b.open_ (A.set c _).length
      rw [List.length_set]; exact h.opn
    · show b.count = ((A.set c _).length : Int)
      rw [List.length_set]; exact h.cnt
    · intro w hw
      rcases List.mem_or_eq_of_mem_set hw with hw | rfl
      · exact h.att w hw
      · exact h.att x (List.mem_of_getElem? g3)
    · rfl
  · obtain ⟨h1, h2, h3, h4, h5⟩ := hr
    have hc : w64 (b.count + 1) = (r.2.length : Int) := by rw [h.cnt, w64n (by omega), h4]; rfl
    have h5' : r.2.map cont = A.map cont ++ [(bs [], s,[])] := by rw [h5, List.map_append]; rfl
    refine ⟨⟨h3, ?_, h2.trans hc, att_of h.att (fun y hy => by rw [List.mem_singleton.1 hy]; simp) h5'⟩, .inr (.inr h5')⟩
    show Opn r.1.open_ r.2.length
    rw [h1, h4]; exact h.opn.grow (by omega)
theorem zpw (h : Bd b A) (hl : A.length ≤ 100000) (hM : ∀ x ∈ A, x.text.size + s.size ≤ 9223372036854775807) {t : Int} (ht : t = -1 ∨ ∃ c : Nat, t = c ∧ 0 < c ∧ c < A.length) : T (fun k _ => zcb k A s b.open_ b.count b.deep t) (ChQ A s) := by
  have two : ∀ {z : Int} {q : Nat} {y : za0} (_ : A[q]? = some y) (m : Nat) (_ : m ≤ y.kids.length), T (fun k _ => zbn k A s t (z, b) y.kids (m : Int)) (ChQ A s) := fun {z q y} hq m hm => by
    have hn := h.inv.nodup q y hq
    unfold zbn
    refine T.dec (fun h0 => ?_) fun _ => zsw h hl hM ht fun e => by cases e
    have hm1 : m - 1 < y.kids.length := by omega
    obtain ⟨c, e1, _, x, e2, _⟩ := h.inv.kid q y hq _ (List.getElem_mem hm1)
    rw [w64n (by omega), show (m : Int) - 1 = ((m - 1 : Nat) : Int) by omega]
    refine T.getN (List.getElem?_eq_getElem hm1) ?_
    rw [e1]
    refine T.foc e2 (by simp) (zsw h hl hM ht fun e => ⟨m - 1, c, x, by omega, by omega, by rw [List.getElem?_eq_getElem hm1, e1], e2, of_decide_eq_true e⟩)
  unfold zcb
  refine T.bind (zk7 (b := ⟨b.open_, b.count, b.deep⟩) (Q := fun r => ∃ c : Nat, c < A.length ∧ r = ((c : Int), b)) h.opn (by omega) rfl fun c hc => ⟨c, hc, rfl⟩) fun r hr => ?_
  obtain ⟨c, hc, rfl⟩ := hr
  refine T.foc (List.getElem?_eq_getElem hc) (by simp) (T.bif (fun e => ?_) fun _ => two (List.getElem?_eq_getElem hc) _ (Nat.le_refl _))
  rcases ht with rfl | ⟨d, rfl, hd0, hdA⟩
  · cases e
  obtain ⟨p, e1, e2, y, e3, e4⟩ := h.inv.up d _ (List.getElem?_eq_getElem hdA) hd0
  refine T.foc (List.getElem?_eq_getElem hdA) (by simp) ?_
  rw [e1]
  refine T.foc e3 (by simp) ?_
  obtain ⟨m, g1, g2⟩ := zus e4 (by have := (h.inv.nodup p y e3).2; omega)
  show T (fun k n => (idxP y.kids (d : Int)).bind fun x214 => zbn k A s (d : Int) _ y.kids x214) _
  rw [g2]
  exact two e3 m (by omega)
theorem chars_T (h : Bd b A) (hl : A.length ≤ 100000) (hM : ∀ x ∈ A, x.text.size + s.size ≤ 9223372036854775807) : T (fun k _ => zdz k b s A) (ChQ A s) := by
  unfold zdz
  refine T.bind (zk7 (Q := fun r => ∃ c : Nat, c < A.length ∧ r = ((c : Int), b)) h.opn (by omega) rfl fun c hc => ⟨c, hc, rfl⟩) fun r hr => ?_
  obtain ⟨c, hc, rfl⟩ := hr
  refine T.foc (List.getElem?_eq_getElem hc) (by simp) (T.bind (in_T (by decide)) fun _ _ => T.bif (fun _ => T.bind (zvm h.opn (by omega) rfl) fun q hq => ?_) fun _ => zpw h hl hM (.inl rfl))
  obtain ⟨q1, q2⟩ := q
  obtain ⟨rfl, ht⟩ := hq
  unfold zd3
  refine T.bif (fun _ => T.bind (T.self blanks_T) fun y hy => T.bif (fun e => T.some ⟨h, .inl ⟨rfl, ?_⟩⟩) fun _ => zpw h hl hM ht) fun _ => zpw h hl hM ht
  obtain ⟨_, k, _, hk⟩ := hy
  exact ⟨k, by rw [hk, e]⟩
end
inductive PartOf (A : List za0) : Nat → zam → List Nat → Prop
  | mk {i : Nat} {x : za0} {ps : List zam} {ls : List (List Nat)} (h : A[i]? = some x) (h1 : ps.length = x.kids.length) (h2 : ls.length = x.kids.length)
    (hk : ∀ (j c : Nat) (p : zam) (l : List Nat), x.kids[j]? = some (c : Int) → ps[j]? = some p → ls[j]? = some l → PartOf A c p l) : PartOf A i ⟨x.name, x.text, x.attrs, ps⟩ (i :: ls.flatten)
theorem part_T {A : List za0} (hI : Inv A) (hl : A.length ≤ 100000) : ∀ (m i : Nat), A.length - i ≤ m → i < A.length → T (fun _ n => zdg n (i : Int) A) fun p => ∃ l, PartOf A i p l := by
  intro m
  induction m with
  | zero => intro i h hi; omega
  | succ m ih =>
    intro i h hi
    refine T.step ?_
    have hx := List.getElem?_eq_getElem hi
    have hn := hI.nodup i _ hx
    obtain ⟨x, hxe⟩ : ∃ x, x = A[i] := ⟨_, rfl⟩
    rw [← hxe] at hx hn
    have loop : ∀ (e j : Nat) (ps : List zam) (ls : List (List Nat)), j + e = x.kids.length → ps.length = j → ls.length = j → (∀ (q c : Nat) (p : zam) (l : List Nat), x.kids[q]? = some (c : Int) → ps[q]? = some p → ls[q]? = some l → PartOf A c p l) → T (fun k n => zbp A (zdg k) x n ps (j : Int)) fun p => ∃ l, PartOf A i p l := by
      intro e
      induction e with
      | zero =>
        intro j ps ls hj h1 h2 hk
        refine T.step ?_
        unfold zbp zea
        exact T.dec (fun _ => by omega) fun _ => T.some ⟨_, .mk hx (by omega) (by omega) hk⟩
      | succ e ihe =>
        intro j ps ls hj h1 h2 hk
        refine T.step ?_
        unfold zbp zea
        have hjl : j < x.kids.length := by omega
        obtain ⟨c, e1, e2, z, e3, _⟩ := hI.kid i x hx _ (List.getElem_mem hjl)
        have hc := (List.getElem?_eq_some_iff.1 e3).1
        refine T.dec (fun _ => T.getN (List.getElem?_eq_getElem hjl) ?_) fun h => absurd (show (j : Int) < _ by omega) h
        rw [e1]
        refine T.bind (T.fl (ih c (by omega) hc)) fun p hp => T.app (by simp; omega) (by simp; omega) ?_
        obtain ⟨l, hp⟩ := hp
        rw [zbz (by omega)]
        refine ihe (j + 1) (ps ++ [p]) (ls ++ [l]) (by omega) (by simp [h1]) (by simp [h2]) fun q d p' l' hq hp' hl' => ?_
        by_cases hqj : q < j
        · rw [List.getElem?_append_left (by omega)] at hp' hl'
          exact hk q d p' l' hq hp' hl'
        · have := (List.getElem?_eq_some_iff.1 hp').1
          obtain rfl : q = j := by simp at this; omega
          rw [List.getElem?_append_right (by omega), h1, Nat.sub_self] at hp'
          rw [List.getElem?_append_right (by omega), h2, Nat.sub_self] at hl'
          cases hp'; cases hl'
          rw [List.getElem?_eq_getElem hjl, e1] at hq
          obtain rfl : c = d := by have := Option.some.inj hq; omega
          exact hp
    show T (fun _ n => zej (zdg n) n (i : Int) A) _
    unfold zej
    refine T.foc hx (by simp) (T.dg (F := fun k n => zbp A (zdg k) x n [] 0) (loop x.kids.length 0 [] [] (by omega) rfl rfl fun q c p l _ h => by simp at h))
end
end Go.Proofs.YtdjjeahiomackaaGreat
