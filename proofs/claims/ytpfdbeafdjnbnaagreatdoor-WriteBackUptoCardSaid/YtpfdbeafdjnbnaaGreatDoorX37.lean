/-
  Walks and laws of this seat.
-/
import Derived.Test.YtpfdbeafdjnbnaaGreatDoorW7
import Derived.Test.YtpfdbeafdjnbnaaGreatDoorX36
namespace Go.Proofs.YtpfdbeafdjnbnaaGreatDoor
set_option linter.unusedVariables false
set_option linter.unusedSimpArgs false
set_option linter.unusedSectionVars false
section
open Go.RowKit Go.Sl
open Go.V (T)
theorem T.evK {α : Type} {F G : Nat → Nat → Option α} {Q : α → Prop} (K : Nat) (h : ∀ k n, K ≤ k → F k n = G k n) (g : T G Q) : T F Q := by
  obtain ⟨r, h1, K2, h2⟩ := g
  exact ⟨r, h1, K + K2, fun k n hk hn => by rw [h k n (by omega)]; exact h2 k n (by omega) (by omega)⟩
section
variable {l : List Int} {i : Nat} {out : List za6} (hl : l.length ≤ 100000)
include hl
theorem zrs {k : Nat} (hk : 2 ≤ k) (hi : i ≤ l.length) : zby k (ctr l i out) = some (begR l i) := by
  obtain ⟨m, rfl⟩ : ∃ m, k = m + 2 := ⟨k - 2, by omega⟩
  have is : zdk (m + 2) (ctr l i out) 0 (bs [60]) = some (decide (l[i]? = some 60)) := by
    unfold zdk
    rw [show runesM (bs [60]) = some [60] from by decide, Option.bind_some, zc5]
    rw [show decide ((0 : Int) < (([60] : List Int).length : Int)) = true from rfl, cond_true, show geti ([60] : List Int) 0 = some 60 from rfl, Option.bind_some, show w64 ((0 : Int) + 0) = ((0 : Nat) : Int) from rfl]
    show (zb7 (m + 2) (cur l i) ((0 : Nat) : Int)).bind _ = _
    rw [zmn hl hi (m + 2) 0 (by omega), Option.bind_some, Nat.add_zero, show w64 ((0 : Int) + 1) = 1 from rfl, zc5, show decide ((1 : Int) < (([60] : List Int).length : Int)) = false from rfl, cond_false]
    unfold pk zf8
    cases e : l[i]? with
    | none => simp
    | some x =>
      by_cases hx : x = 60
      · subst hx; simp
      · simp [hx]
  unfold zby zbz
  rw [is, Option.bind_some]
  unfold begR
  cases decide (l[i]? = some (60 : Int)) with
  | false => rfl
  | true =>
    rw [Bool.not_true, cond_false, show (1 : Int) = ((1 : Nat) : Int) from rfl, zj6 hl hi (m + 2) 1 (by omega), Option.bind_some]
    show (bif letR _ then _ else _) = _
    cases letR (pk l (i + 1)).1 <;> cases decide ((pk l (i + 1)).1 = 33) <;> cases decide ((pk l (i + 1)).1 = 63) <;> simp
theorem l4_eq {k : Nat} (hk : 2 ≤ k) {tk : za6} {g3 : (List Int) → Int → (List za6) → za6 → Option (List za6)} : ∀ (R : List Int) (i : Nat) (acc r : List Int) (m : Nat), l.drop i = R ++ r → i ≤ l.length → (∀ z ∈ R, z ≠ 60) → (r = [] ∨ begR l (i + R.length) = true) → R.length + 1 ≤ m → acc.length + R.length ≤ 100000 →
    zd2 k out tk g3 m l (i : Int) acc = zfy k out tk g3 l ((i + R.length : Nat) : Int) (acc ++ R) := by
  intro R
  induction R with
  | nil =>
    intro i acc r m h hi _ hr hm _
    obtain ⟨m, rfl⟩ : ∃ m', m = m' + 1 := ⟨m - 1, by simp at hm; omega⟩
    have h : l.drop i = r := h
    rw [zd2]
    unfold zfx
    show (zb8 k (cur l i)).bind _ = _
    rw [zmr hl hi k, Option.bind_some]
    rcases hr with rfl | hr
    · have := congrArg List.length h
      rw [List.length_drop] at this
      rw [show l.length - i = 0 by simpa using this, show decide ((0 : Int) < ((0 : Nat) : Int)) = false from rfl, cond_false, cond_false]
      simp
    · have hb : l[i]? = some 60 := by
        unfold begR at hr
        simp only [List.length_nil, Nat.add_zero, Bool.and_eq_true, decide_eq_true_eq] at hr
        exact hr.1
      have hil := (List.getElem?_eq_some_iff.1 hb).1
      rw [decide_eq_true (show (0 : Int) < ((l.length - i : Nat) : Int) by omega), cond_true]
      show (zby k (ctr l i out)).bind _ = _
      rw [zrs hl hk hi, Option.bind_some, show begR l i = true from hr, Bool.not_true, cond_false]
      simp
  | cons z R ih =>
    intro i acc r m h hi hz hr hm ha
    obtain ⟨m, rfl⟩ : ∃ m', m = m' + 1 := ⟨m - 1, by simp at hm; omega⟩
    obtain ⟨h1, h2, h3⟩ := dpAt (r := R ++ r) h
    have hne := hz z (List.mem_cons_self ..)
    rw [zd2]
    unfold zfx
    show (zb8 k (cur l i)).bind _ = _
    rw [zmr hl hi k, Option.bind_some, decide_eq_true (show (0 : Int) < ((l.length - i : Nat) : Int) by omega), cond_true]
    show (zby k (ctr l i out)).bind _ = _
    have hb : begR l i = false := by unfold begR; rw [h1, decide_eq_false (fun e => hne (Option.some.inj e))]; rfl
    rw [zrs hl hk hi, Option.bind_some, hb, Bool.not_false, cond_true]
    show (zar k (cur l i)).bind _ = _
    rw [zir hl hi k h1, Option.bind_some]
    have e : appM 4 acc [z] = some (acc ++ [z]) := by
      simp only [List.length_cons] at ha
      exact zqg (by simp; omega) (by simp; omega)
    show (appM 4 acc [z]).bind _ = _
    rw [e, Option.bind_some]
    have := ih (i + 1) (acc ++ [z]) r m h2 (by omega) (fun y hy => hz y (List.mem_cons_of_mem _ hy)) (by rw [List.length_cons] at hr; rwa [show i + 1 + R.length = i + (R.length + 1) by omega]) (by simp at hm; omega) (by simp at ha ⊢; omega)
    rw [show i + 1 + R.length = i + (R.length + 1) by omega, List.append_assoc] at this
    exact this
theorem tk_text {R r : List Int} {s : ByteArray} {tk : za6} (h : l.drop i = R ++ r) (hi : i ≤ l.length) (hne : R ≠ []) (hz : ∀ z ∈ R, z ≠ 60) (hr : r = [] ∨ begR l (i + R.length) = true) (hu : T (fun k _ => zdl k (textOf R)) (· = s)) (ho : out.length ≤ 100000) {Q : List za6 → Prop} (g : T (fun k n => zan k n l ((i + R.length : Nat) : Int) (out ++ [chT s]) tk) Q) : T (fun k n => zan k n l (i : Int) out tk) Q := by
  obtain ⟨h8, h9⟩ := dpApp h hi
  obtain ⟨z, R', hR⟩ : ∃ z R', R = z :: R' := by
    cases R with
    | nil => exact absurd rfl hne
    | cons z R' => exact ⟨z, R', rfl⟩
  have h1 : l[i]? = some z := (dpAt (r := R' ++ r) (by rw [h, hR]; rfl)).1
  have hil := (List.getElem?_eq_some_iff.1 h1).1
  have hb : begR l i = false := by unfold begR; rw [h1, decide_eq_false (fun e => hz z (by rw [hR]; exact List.mem_cons_self ..) (Option.some.inj e))]; rfl
  refine T.step ?_
  unfold zan
  refine T.bind (P := (· = ((l.length - i : Nat) : Int))) (T.all fun k n => zmr hl hi k) fun q hq => ?_
  subst hq
  refine T.dec (fun e => by omega) fun _ => T.bind (zqf (out := out) hl hi) fun q hq => ?_
  subst hq
  refine T.bif (fun _ => T.step ?_) fun h => by rw [hb] at h; cases h
  unfold zfv
  refine T.evK (R.length + 2) (G := fun k n => zfy k out tk (zan k n) l ((i + R.length : Nat) : Int) ([] ++ R)) (fun k n hk => l4_eq hl (by omega) R i [] r k h hi hz hr (by omega) (by simp; omega)) ?_
  unfold zfy
  rw [List.nil_append]
  refine T.bind hu fun q hq => ?_
  subst hq
  exact T.app (by simp; omega) (by simp; omega) g
omit hl in
theorem zq2 {z : Int} (h : 97 ≤ z ∧ z ≤ 122) : letR z = true := by
  unfold letR; rw [decide_eq_true h.1, decide_eq_true h.2]; rfl
theorem tk_open {nr r : List Int} {z : Int} {ws : List AtW} {tk : za6} (h : l.drop i = 60 :: (z :: nr ++ (ws.flatMap AtW.run ++ 62 :: r))) (hz : 97 ≤ z ∧ z ≤ 122) (hn : ∀ y ∈ nr, nmR y = true) (hok : ∀ a ∈ ws, a.OK) (hlen : ws.length ≤ 64) (hpw : (ws.map AtW.at_).Pairwise (fun a b => a.Name ≠ b.Name)) (hs : textOf (z :: nr) ≠ bs [115,116,121,108,101]) (hs2 : textOf (z :: nr) ≠ bs [115,99,114,105,112,116]) (ho : out.length ≤ 100000) {Q : List za6 → Prop}
    (g : ∀ tk, T (fun k n => zan k n l ((i + 1 + (z :: nr).length + (ws.flatMap AtW.run).length + 1 : Nat) : Int) (out ++ [opT (textOf (z :: nr)) (ws.map AtW.at_)]) tk) Q) : T (fun k n => zan k n l (i : Int) out tk) Q := by
  obtain ⟨h1, h2, h3⟩ := dpAt h
  obtain ⟨h4, h5, h6⟩ := dpAt (x := z) (r := nr ++ (ws.flatMap AtW.run ++ 62 :: r)) h2
  have hpk : (pk l (i + 1)).1 = z := by unfold pk; rw [h4]
  have hb : begR l i = true := by unfold begR; rw [h1, hpk, zq2 hz]; rfl
  refine T.step ?_
  unfold zan
  refine T.bind (P := (· = ((l.length - i : Nat) : Int))) (T.all fun k n => zmr hl (by omega) k) fun q hq => ?_
  subst hq
  refine T.dec (fun e => by omega) fun _ => T.bind (zqf (out := out) hl (by omega)) fun q hq => ?_
  subst hq
  refine T.bif (fun h => by rw [hb] at h; cases h) fun _ => T.bind (P := (· = z)) (T.all fun k n => by have := zj6 (out := out) hl (i := i) (by omega) k 1 (by omega); rw [hpk] at this; exact this) fun q hq => ?_
  subst hq
  refine T.bind (P := (· = letR q)) (T.all fun k n => rfl) fun q' hq => ?_
  subst hq
  refine T.bif (fun _ => T.step ?_) fun h => by rw [zq2 hz] at h; cases h
  unfold zfu
  refine T.bind (P := (· = ((60 : Int), true, cur l (i + 1)))) (T.all fun k n => zir hl (by omega) k h1) fun x hx => ?_
  subst hx
  have hnm : ∀ y ∈ q :: nr, nmR y = true := fun y hy => (List.mem_cons.1 hy).elim (fun e => by subst e; unfold nmR; rw [decide_eq_true hz.1, decide_eq_true hz.2]; rfl) (hn y)
  refine T.bind (tag_T (i := i + 1) (out := out) hl (.inl rfl) (nr := q :: nr) (ws := ws) (r := r) h2 (by omega) hnm hok hlen hpw (fun e => by cases e)) fun x hx => ?_
  subst hx
  refine T.bif (fun h => by simp at h) fun _ => T.app (by simp; omega) (by simp; omega) (T.bif (fun h => ?_) fun _ => g _)
  simp only [tgT, Bool.or_eq_true, decide_eq_true_eq] at h
  rcases h with h | h
  · exact absurd (of_decide_eq_true h) hs
  · exact absurd (of_decide_eq_true h) hs2
theorem tk_close {nr r : List Int} {z : Int} {tk : za6} (h : l.drop i = 60 :: 47 :: (z :: nr ++ 62 :: r)) (hz : 97 ≤ z ∧ z ≤ 122) (hn : ∀ y ∈ nr, nmR y = true) (ho : out.length ≤ 100000) {Q : List za6 → Prop}
    (g : ∀ tk, T (fun k n => zan k n l ((i + 2 + (z :: nr).length + 1 : Nat) : Int) (out ++ [clT (textOf (z :: nr))]) tk) Q) : T (fun k n => zan k n l (i : Int) out tk) Q := by
  obtain ⟨h1, h2, h3⟩ := dpAt h
  obtain ⟨h4, h5, h6⟩ := dpAt h2
  obtain ⟨h7, h8, h9⟩ := dpAt (x := z) (r := nr ++ 62 :: r) h5
  have hpk : (pk l (i + 1)).1 = 47 := by unfold pk; rw [h4]
  have hpk2 : (pk l (i + 2)).1 = z := by unfold pk; rw [show i + 2 = i + 1 + 1 from rfl, h7]
  have hb : begR l i = true := by unfold begR; rw [h1, hpk]; rfl
  refine T.step ?_
  unfold zan
  refine T.bind (P := (· = ((l.length - i : Nat) : Int))) (T.all fun k n => zmr hl (by omega) k) fun q hq => ?_
  subst hq
  refine T.dec (fun e => by omega) fun _ => T.bind (zqf (out := out) hl (by omega)) fun q hq => ?_
  subst hq
  have p1 : T (fun k _ => zbg k (ctr l i out) 1) (· = 47) := T.all fun k n => by have := zj6 (out := out) hl (i := i) (by omega) k 1 (by omega); rw [hpk] at this; exact this
  refine T.bif (fun h => by rw [hb] at h; cases h) fun _ => T.bind p1 fun q hq => ?_
  subst hq
  refine T.bind (P := (· = false)) (T.all fun k n => rfl) fun q' hq => ?_
  subst hq
  refine T.bif (fun h => by cases h) fun _ => T.bind p1 fun q hq => ?_
  subst hq
  refine T.dec (fun _ => T.bind (P := (· = z)) (T.all fun k n => by have := zj6 (out := out) hl (i := i) (by omega) k 2 (by omega); rw [hpk2] at this; exact this) fun q hq => ?_) fun h => absurd rfl h
  subst hq
  refine T.bind (P := (· = letR q)) (T.all fun k n => rfl) fun q' hq => ?_
  subst hq
  unfold zgw
  refine T.bif (fun _ => T.step ?_) fun h => by rw [zq2 hz] at h; cases h
  unfold ze1
  refine T.bind (P := (· = ((60 : Int), true, cur l (i + 1)))) (T.all fun k n => zir hl (by omega) k h1) fun x hx => ?_
  subst hx
  refine T.bind (P := (· = ((47 : Int), true, cur l (i + 1 + 1)))) (T.all fun k n => zir hl (by omega) k h4) fun x hx => ?_
  subst hx
  have hnm : ∀ y ∈ q :: nr, nmR y = true := fun y hy => (List.mem_cons.1 hy).elim (fun e => by subst e; unfold nmR; rw [decide_eq_true hz.1, decide_eq_true hz.2]; rfl) (hn y)
  refine T.bind (tag_T (i := i + 1 + 1) (out := out) hl (.inr rfl) (nr := q :: nr) (ws := []) (r := r) h5 (by omega) hnm (by simp) (by simp) (by simp) (fun _ => rfl)) fun x hx => ?_
  subst hx
  exact T.bif (fun h => by simp at h) fun _ => T.app (by simp; omega) (by simp; omega) (g _)
theorem tk_end {tk : za6} : T (fun k n => zan k n l (l.length : Int) out tk) (· = out) := by
  refine T.step ?_
  unfold zan
  refine T.bind (P := (· = ((l.length - l.length : Nat) : Int))) (T.all fun k n => zmr hl (Nat.le_refl _) k) fun q hq => ?_
  subst hq
  exact T.dec (fun _ => T.some rfl) fun h => absurd (by simp) h
end
end
section
open Go.RowKit Go.Sl
open Go.V (T)
structure NameW (P : za8) (z : Int) (nr : List Int) (ws : List AtW) : Prop where
  nm : textOf (z :: nr) = P.Name
  zl : 97 ≤ z ∧ z ≤ 122
  nr : ∀ y ∈ nr, nmR y = true
  at_ : ws.map AtW.at_ = P.Attrs
  ok : ∀ a ∈ ws, a.OK
  len : ws.length ≤ 64
  pw : (ws.map AtW.at_).Pairwise (fun a b => a.Name ≠ b.Name)
  s1 : P.Name ≠ bs [115,116,121,108,101]
  s2 : P.Name ≠ bs [115,99,114,105,112,116]
def wrF : Nat → za8 → List Int → Prop
  | 0, _, _ => False
  | n + 1, P, R => (P.Name = bs [] → R ≠ [] ∧ (∀ z ∈ R, z ≠ 60) ∧ T (fun k _ => zdl k (textOf R)) (· = P.Text)) ∧
    (P.Name ≠ bs [] → noAdj P.Kids ∧ ∃ (z : Int) (nr : List Int) (ws : List AtW) (Rs : List (List Int)), NameW P z nr ws ∧ Rs.length = P.Kids.length ∧ (∀ (j : Nat) k r, P.Kids[j]? = some k → Rs[j]? = some r → wrF n k r) ∧
      R = 60 :: (z :: nr ++ (ws.flatMap AtW.run ++ 62 :: (bif isVoid P.Name then [] else Rs.flatten ++ (60 :: 47 :: (z :: nr ++ [62]))))))
section
variable {l : List Int} (hl : l.length ≤ 100000)
theorem beg_of {i : Nat} {y : Int} {r : List Int} (h : l.drop i = 60 :: y :: r) (hy : (97 ≤ y ∧ y ≤ 122) ∨ y = 47) : begR l i = true := by
  obtain ⟨h1, h2, _⟩ := dpAt h
  obtain ⟨h4, _, _⟩ := dpAt h2
  have hpk : (pk l (i + 1)).1 = y := by unfold pk; rw [h4]
  unfold begR
  rw [h1, hpk]
  rcases hy with hy | rfl
  · rw [zq2 hy]; rfl
  · rfl
def Cut1 (l : List Int) (n : Nat) : Prop := ∀ (P : za8) (R : List Int) (i : Nat) (out : List za6) (r : List Int) (tk : za6) (Q : List za6 → Prop), wrF n P R → l.drop i = R ++ r → i ≤ l.length → (P.Name = bs [] → r = [] ∨ begR l (i + R.length) = true) → out.length + (tkF n P).length ≤ 100000 →
  (∀ tk, T (fun k m => zan k m l ((i + R.length : Nat) : Int) (out ++ tkF n P) tk) Q) → T (fun k m => zan k m l (i : Int) out tk) Q
theorem wr_beg {n : Nat} {P : za8} {R r : List Int} (h : wrF n P R) (hn : P.Name ≠ bs []) {i : Nat} (hd : l.drop i = R ++ r) : begR l i = true := by
  cases n with
  | zero => exact h.elim
  | succ n =>
    obtain ⟨_, z, nr, ws, Rs, hw, _, _, e⟩ := h.2 hn
    rw [e] at hd
    exact beg_of hd (.inl hw.zl)
theorem cutForest {n : Nat} (ih : Cut1 l n) : ∀ (ks : List za8) (Rs : List (List Int)) (i : Nat) (out : List za6) (r : List Int) (tk : za6) (Q : List za6 → Prop), Rs.length = ks.length → (∀ (j : Nat) k r, ks[j]? = some k → Rs[j]? = some r → wrF n k r) → noAdj ks → l.drop i = Rs.flatten ++ r → i ≤ l.length → (r = [] ∨ begR l (i + Rs.flatten.length) = true) → out.length + (ks.flatMap (tkF n)).length ≤ 100000 →
    (∀ tk, T (fun k m => zan k m l ((i + Rs.flatten.length : Nat) : Int) (out ++ ks.flatMap (tkF n)) tk) Q) → T (fun k m => zan k m l (i : Int) out tk) Q := by
  intro ks
  induction ks with
  | nil =>
    intro Rs i out r tk Q hR _ _ _ _ _ _ g
    obtain rfl : Rs = [] := List.eq_nil_of_length_eq_zero (by simpa using hR)
    simpa using g tk
  | cons k ks ihk =>
    intro Rs i out r tk Q hR hw hn hd hi hr ho g
    obtain ⟨R, Rs, rfl⟩ : ∃ R Rs', Rs = R :: Rs' := by
      cases Rs with
      | nil => simp at hR
      | cons R Rs => exact ⟨R, Rs, rfl⟩
    rw [List.flatten_cons, List.append_assoc] at hd
    rw [List.flatMap_cons, List.length_append] at ho
    obtain ⟨d1, d2⟩ := dpApp hd hi
    have hR' : Rs.length = ks.length := by simpa using hR
    refine ih k R i out (Rs.flatten ++ r) tk Q (hw 0 k R rfl rfl) hd hi (fun hk => ?_) (by omega) fun tk => ?_
    · cases ks with
      | nil =>
        obtain rfl : Rs = [] := List.eq_nil_of_length_eq_zero (by simpa using hR')
        simpa using hr
      | cons k2 ks =>
        obtain ⟨R2, Rs, rfl⟩ : ∃ R Rs', Rs = R :: Rs' := by
          cases Rs with
          | nil => simp at hR'
          | cons R Rs => exact ⟨R, Rs, rfl⟩
        rw [List.flatten_cons, List.append_assoc] at d1
        exact .inr (wr_beg (hw 1 k2 R2 rfl rfl) (hn 0 k k2 rfl rfl hk) d1)
    · refine ihk Rs (i + R.length) (out ++ tkF n k) r tk Q hR' (fun j a b ha hb => hw (j + 1) a b (by simpa using ha) (by simpa using hb)) (fun j a b ha hb => hn (j + 1) a b (by simpa using ha) (by simpa using hb)) d1 d2 ?_ (by simp; simp at ho; omega) fun tk => ?_
      · rw [List.flatten_cons, List.length_append, ← Nat.add_assoc] at hr; exact hr
      · have := g tk
        rw [List.flatten_cons, List.length_append, List.flatMap_cons, ← List.append_assoc, ← Nat.add_assoc] at this
        exact this
include hl
theorem cut1 : ∀ n, Cut1 l n
  | 0 => fun P R i out r tk Q h => h.elim
  | n + 1 => fun P R i out r tk Q h hd hi hr ho g => by
    by_cases hn : P.Name = bs []
    · obtain ⟨h1, h2, h3⟩ := h.1 hn
      have htk : tkF (n + 1) P = [chT P.Text] := by unfold tkF; rw [if_pos hn]
      rw [htk] at g
      exact tk_text hl hd hi h1 h2 (hr hn) h3 (by omega) (g tk)
    · obtain ⟨hna, z, nr, ws, Rs, hw, hRl, hRw, e⟩ := h.2 hn
      have htk : tkF (n + 1) P = opT P.Name P.Attrs :: (bif isVoid P.Name then [] else P.Kids.flatMap (tkF n) ++ [clT P.Name]) := by
        show (if P.Name = bs [] then _ else _) = _
        rw [if_neg hn]
      rw [htk] at g ho
      have hd2 : l.drop i = 60 :: (z :: nr ++ (ws.flatMap AtW.run ++ 62 :: ((bif isVoid P.Name then [] else Rs.flatten ++ (60 :: 47 :: (z :: nr ++ [62]))) ++ r))) := by
        rw [hd, e]; simp
      refine tk_open (out := out) hl hd2 hw.zl hw.nr hw.ok hw.len hw.pw (by rw [hw.nm]; exact hw.s1) (by rw [hw.nm]; exact hw.s2) (by omega) fun tk => ?_
      rw [hw.nm, hw.at_]
      have hpos : l.drop (i + 1 + (z :: nr).length + (ws.flatMap AtW.run).length + 1) = (bif isVoid P.Name then [] else Rs.flatten ++ (60 :: 47 :: (z :: nr ++ [62]))) ++ r ∧ i + 1 + (z :: nr).length + (ws.flatMap AtW.run).length + 1 ≤ l.length := by
        have := dpApp (a := 60 :: (z :: nr ++ (ws.flatMap AtW.run ++ [62]))) (r := (bif isVoid P.Name then [] else Rs.flatten ++ (60 :: 47 :: (z :: nr ++ [62]))) ++ r) (by rw [hd2]; simp) hi
        have e2 : i + (60 :: (z :: nr ++ (ws.flatMap AtW.run ++ [62]))).length = i + 1 + (z :: nr).length + (ws.flatMap AtW.run).length + 1 := by simp only [List.length_cons, List.length_append, List.length_nil]; omega
        rw [e2] at this; exact this
      cases hv : isVoid P.Name with
      | true =>
        rw [hv, cond_true] at g e
        have := g tk
        rw [e] at this
        have e2 : i + (60 :: (z :: nr ++ (ws.flatMap AtW.run ++ 62 :: []))).length = i + 1 + (z :: nr).length + (ws.flatMap AtW.run).length + 1 := by simp only [List.length_cons, List.length_append, List.length_nil]; omega
        rw [e2] at this
        exact this
      | false =>
        rw [hv, cond_false] at g e ho hpos
        rw [List.append_assoc] at hpos
        have hc : l.drop (i + 1 + (z :: nr).length + (ws.flatMap AtW.run).length + 1 + Rs.flatten.length) = 60 :: 47 :: (z :: nr ++ 62 :: r) ∧ i + 1 + (z :: nr).length + (ws.flatMap AtW.run).length + 1 + Rs.flatten.length ≤ l.length := by
          have := dpApp hpos.1 hpos.2
          refine ⟨by rw [this.1]; simp, this.2⟩
        simp only [List.length_cons, List.length_append, List.length_nil] at ho
        refine cutForest (cut1 n) P.Kids Rs _ (out ++ [opT P.Name P.Attrs]) _ tk Q hRl hRw hna hpos.1 hpos.2 (.inr (beg_of hc.1 (.inr rfl))) (by simp only [List.length_cons, List.length_append, List.length_nil]; omega) fun tk => ?_
        refine tk_close (out := out ++ [opT P.Name P.Attrs] ++ P.Kids.flatMap (tkF n)) hl hc.1 hw.zl hw.nr (by simp only [List.length_cons, List.length_append, List.length_nil]; omega) fun tk => ?_
        rw [hw.nm]
        have := g tk
        rw [e] at this
        have e2 : i + (60 :: (z :: nr ++ (ws.flatMap AtW.run ++ 62 :: (Rs.flatten ++ (60 :: 47 :: (z :: nr ++ [62])))))).length = i + 1 + (z :: nr).length + (ws.flatMap AtW.run).length + 1 + Rs.flatten.length + 2 + (z :: nr).length + 1 := by simp only [List.length_cons, List.length_append, List.length_nil]; omega
        rw [e2] at this
        rw [show out ++ [opT P.Name P.Attrs] ++ P.Kids.flatMap (tkF n) ++ [clT P.Name] = out ++ (opT P.Name P.Attrs :: (P.Kids.flatMap (tkF n) ++ [clT P.Name])) by simp]
        exact this
theorem Tokens_E {n : Nat} {ks : List za8} {Rs : List (List Int)} (hR : Rs.length = ks.length) (hw : ∀ (j : Nat) k r, ks[j]? = some k → Rs[j]? = some r → wrF n k r) (hn : noAdj ks) (he : l = Rs.flatten) (ho : (ks.flatMap (tkF n)).length ≤ 100000) : T (fun k _ => ziu k l) (· = ks.flatMap (tkF n)) := by
  unfold ziu zhe
  refine T.bind (P := (· = cur l 0)) (T.all fun k n => by rw [zqg (by simp; omega) (by simp; omega)]; rfl) fun q hq => ?_
  subst hq
  have := cutForest (l := l) (cut1 hl n) ks Rs 0 [] [] { Kind := 0, Name := bs [], Text := bs [], Attrs := [], Closed := false } (· = ks.flatMap (tkF n)) hR hw hn (by rw [he]; simp) (Nat.zero_le _) (.inl rfl) (by simpa using ho) fun tk => by
    rw [← he, Nat.zero_add, List.nil_append]
    exact tk_end hl
  exact T.diag (F := fun k m => zan k m l ((0 : Nat) : Int) [] { Kind := 0, Name := bs [], Text := bs [], Attrs := [], Closed := false }) this
end
end
end Go.Proofs.YtpfdbeafdjnbnaaGreatDoor
