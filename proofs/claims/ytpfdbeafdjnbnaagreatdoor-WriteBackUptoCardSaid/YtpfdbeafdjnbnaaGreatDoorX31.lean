/-
  Walks and laws of this seat.
-/
import Derived.Test.YtpfdbeafdjnbnaaGreatDoorX29
import Derived.Test.YtpfdbeafdjnbnaaGreatDoorX30
namespace Go.Proofs.YtpfdbeafdjnbnaaGreatDoor
set_option linter.unusedVariables false
set_option linter.unusedSimpArgs false
set_option linter.unusedSectionVars false
section
open Go.RowKit Go.Sl
section
variable {ns : List zae} {n : Nat}
structure RT (ns : List zae) : Prop where
  pos : 0 < ns.length
  small : ns.length ≤ 4096
  linked : linkedP ns
theorem RT.good (h : RT ns) {i : Nat} (hi : i < ns.length) : good ns i := linkedP.good ns h.linked i hi
theorem RT.parq (h : RT ns) {j : Nat} (h1 : 1 ≤ j) (hj : j < ns.length) : ∃ q : Nat, par ns j = q ∧ q < j ∧ (nd ns q).Kind = 1 ∧ row ns j = (j : Int) :: row ns q := by
  obtain ⟨i, rfl⟩ : ∃ i, j = i + 1 := ⟨j - 1, by omega⟩
  obtain ⟨q, h1, h2, h3, h4⟩ := good.par ns (h.good hj)
  exact ⟨q, h1, by omega, h3, h4⟩
theorem RT.ref (h : RT ns) : ∀ m, m < ns.length → refP ns m := ((zp1 ns h.pos).1 h.linked).2.2.2.2.2.2
theorem RT.prev (h : RT ns) {m : Nat} (hm : m < ns.length) : (nd ns m).Prev = -1 ∨ ∃ c : Nat,(nd ns m).Prev = c ∧ c < m := by
  rw [(h.ref m hm).2.2.1]
  split
  · exact .inl rfl
  · rename_i h0
    unfold prevc
    rcases zfm ns (m - 1) (par ns m) with e | ⟨d, d1, d2, d3, d4⟩
    · exact .inl e
    · exact .inr ⟨d, d1, by omega⟩
theorem RT.alone (h : RT ns) {j : Nat} (hj : j < ns.length) : aloneP (nd ns j) := by
  obtain ⟨_, _, _, _, h5, h6, _⟩ := h.linked
  by_cases h0 : j = 0
  · subst h0; exact h5
  · exact (h6 j (by omega) hj).1
def pf (ns : List zae) (j : Nat) : Bool := (row ns j).any fun a => decide (a ≠ 0) && decide ((nd ns a.toNat).Name = bs [112])
theorem pf_zero : pf ns 0 = false := rfl
theorem RT.pf (h : RT ns) {j q : Nat} (h1 : 1 ≤ j) (hj : j < ns.length) (hq : par ns j = q) : pf ns j = (pf ns q || decide ((nd ns j).Name = bs [112])) := by
  obtain ⟨q', e1, e2, e3, e4⟩ := h.parq h1 hj
  obtain rfl : q = q' := by omega
  unfold Proofs.YtpfdbeafdjnbnaaGreatDoor.pf
  rw [e4, List.any_cons, Bool.or_comm, Int.toNat_natCast, dT (show ((j : Nat) : Int) ≠ 0 by omega), Bool.true_and]
def NB (n : Nat) (ns : List zae) (j : Nat) : Bool := nodeB n (nd ns j) (nd ns (par ns j).toNat) (pf ns (par ns j).toNat) (decide ((nd ns (nd ns j).Prev.toNat).Kind = 2))
def okN (n : Nat) (ns : List zae) : Prop := ∀ j, j < ns.length → (nd ns j).Attrs.length ≤ 64 ∧ (∀ a ∈ (nd ns j).Attrs, szAt n a) ∧ (nd ns j).Text.size ≤ 9223372036854775807
theorem ztb (h : RT ns) (hn : 5000 ≤ n) (hok : okN n ns) : ∀ (k i : Nat) (F : List Bool), ns.length < k + i → 1 ≤ i → i ≤ ns.length → F.length = ns.length → (∀ j, j < i → F[j]? = some (pf ns j)) →
    ∃ b, zao n ⟨ns⟩ k F (i : Int) = some b ∧ (b = true ↔ ∀ j, i ≤ j → j < ns.length → NB n ns j = true)
  | 0, i, F, hk, _, hi, _, _ => by omega
  | k + 1, i, F, hk, h1, hi, hF, hf => by
    have hsm := h.small
    rw [zao]
    by_cases hl : i = ns.length
    · rw [dF (show ¬ (i : Int) < ((⟨ns⟩ : zaa).Nodes.length : Int) from by simp only; omega), cond_false]
      exact ⟨true, rfl, iff_of_true rfl fun j j1 j2 => by omega⟩
    have hi2 : i < ns.length := by omega
    obtain ⟨q, q1, q2, q3, q4⟩ := h.parq h1 hi2
    obtain ⟨o1, o2, o3⟩ := hok i hi2
    have hpar : (nd ns i).Parent = (q : Int) := q1
    have hpf := h.pf h1 hi2 q1
    have hgi : geti F (i : Int) = some F[i] := by rw [zbr, List.getElem?_eq_getElem (by omega)]
    have hstep : zc7 n ⟨ns⟩ (i : Int) (zao n ⟨ns⟩ k) (nd ns i) (nd ns q) (F.set i (pf ns i)) = bif NB n ns i then zao n ⟨ns⟩ k (F.set i (pf ns i)) (w64 ((i : Int) + 1)) else some false := by
      unfold NB
      rw [show par ns i = (q : Int) from q1, Int.toNat_natCast]
      refine k5_eq (by omega) o1 o2 ?_ o3 fun hpr => ?_
      · rw [hpar, zbr, List.getElem?_set_ne (by omega)]
        exact hf q (by omega)
      · rcases h.prev hi2 with e | ⟨c, c1, c2⟩
        · omega
        · rw [c1, Int.toNat_natCast]
          exact ⟨nd ns c, by rw [zbr]; exact zii ns (by omega), rfl⟩
    rw [dT (show (i : Int) < ((⟨ns⟩ : zaa).Nodes.length : Int) from by simp only; omega), cond_true,
      show geti (⟨ns⟩ : zaa).Nodes (i : Int) = some (nd ns i) from by rw [zbr]; exact zii ns hi2, Option.bind_some, dF (show ¬ (i : Int) = 0 by omega), cond_false, hpar,
      show geti (⟨ns⟩ : zaa).Nodes (q : Int) = some (nd ns q) from by rw [zbr]; exact zii ns (by omega), Option.bind_some, show geti F (q : Int) = some (pf ns q) from by rw [zbr]; exact hf q (by omega), Option.bind_some, hgi, Option.bind_some, Option.bind_some, zi0 F (by omega), zi0 F (by omega), Option.bind_some, Option.bind_some]
    have hb : (bif pf ns q then zc7 n ⟨ns⟩ (i : Int) (zao n ⟨ns⟩ k) (nd ns i) (nd ns q) (F.set i true) else zc7 n ⟨ns⟩ (i : Int) (zao n ⟨ns⟩ k) (nd ns i) (nd ns q) (F.set i (decide ((nd ns i).Name = bs [112])))) = bif NB n ns i then zao n ⟨ns⟩ k (F.set i (pf ns i)) (w64 ((i : Int) + 1)) else some false := by
      rw [← hstep, hpf]
      cases pf ns q <;> rfl
    rw [hb, zgb (by omega)]
    cases hnb : NB n ns i with
    | false =>
      refine ⟨false, rfl, iff_of_false (by simp) fun hall => ?_⟩
      have := hall i (Nat.le_refl _) hi2
      rw [hnb] at this; cases this
    | true =>
      rw [cond_true]
      obtain ⟨b, b1, b2⟩ := ztb h hn hok k (i + 1) (F.set i (pf ns i)) (by omega) (by omega) (by omega) (by rw [List.length_set]; exact hF) (fun j hj => by
        by_cases e : j = i
        · subst e; exact List.getElem?_set_self (by omega)
        · rw [List.getElem?_set_ne (by omega)]; exact hf j (by omega))
      refine ⟨b, b1, b2.trans ⟨fun hall j j1 j2 => ?_, fun hall j j1 j2 => hall j (by omega) j2⟩⟩
      by_cases e : j = i
      · subst e; exact hnb
      · exact hall j (by omega) j2
theorem can_eq (h : rightR ns 0) (h2 : RT ns) (hn : 5000 ≤ n) (hok : okN n ns) : ∃ b, zcu n ⟨ns⟩ = some b ∧ (b = true ↔ (nd ns 0).Name = bs [114,111,111,116] ∧ (nd ns 0).Attrs.length = 0 ∧ ∀ j,1 ≤ j → j < ns.length → NB n ns j = true) := by
  obtain ⟨r, r1, r2⟩ := zia ns hn
  obtain rfl := rightR.uniq ns r2 h
  have hp := h2.pos
  have hsm := h2.small
  have h0 : geti (⟨ns⟩ : zaa).Nodes 0 = some (nd ns 0) := by
    rw [show (0 : Int) = ((0 : Nat) : Int) from rfl, zbr]; exact zii ns hp
  unfold zcu
  rw [r1, Option.bind_some, show decide ((0 : Int) ≠ 0) = false from rfl, cond_false, h0, Option.bind_some, Option.bind_some]
  by_cases hr : (nd ns 0).Name = bs [114,111,111,116]
  · rw [dF (fun e => e hr), cond_false]
    unfold zdv
    by_cases ha : (nd ns 0).Attrs.length = 0
    · rw [dF (show ¬ (0 : Int) < ((nd ns 0).Attrs.length : Int) by omega), cond_false]
      show ∃ b,(repM 1 (ns.length : Int) false).bind _ = _ ∧ _
      rw [zs7 (by omega), Option.bind_some]
      obtain ⟨n, rfl⟩ : ∃ k, n = k + 1 := ⟨n - 1, by omega⟩
      rw [zao, dT (show (0 : Int) < ((⟨ns⟩ : zaa).Nodes.length : Int) from by simp only; omega), cond_true, h0, Option.bind_some, show decide ((0 : Int) = 0) = true from rfl, cond_true]
      unfold zdu
      rw [show w64 ((0 : Int) + 1) = ((1 : Nat) : Int) from zgb (m := 0) (by omega)]
      obtain ⟨b, b1, b2⟩ := ztb h2 hn hok n 1 (List.replicate ns.length false) (by omega) (Nat.le_refl _) (by omega) (by simp) (fun j hj => by
        obtain rfl : j = 0 := by omega
        rw [List.getElem?_replicate, if_pos hp]; rfl)
      exact ⟨b, b1, b2.trans ⟨fun hall => ⟨hr, ha, hall⟩, fun hall => hall.2.2⟩⟩
    · rw [dT (show (0 : Int) < ((nd ns 0).Attrs.length : Int) by omega), cond_true]
      exact ⟨false, rfl, iff_of_false (by simp) fun e => ha e.2.1⟩
  · rw [dT (show (nd ns 0).Name ≠ _ from hr), cond_true]
    exact ⟨false, rfl, iff_of_false (by simp) fun e => hr e.1⟩
theorem zvk {r : Int} (h : rightR ns r) (hr : r ≠ 0) (hn : 5000 ≤ n) : zcu n ⟨ns⟩ = some false := by
  obtain ⟨r', r1, r2⟩ := zia ns hn
  obtain rfl := rightR.uniq ns r2 h
  unfold zcu
  rw [r1, Option.bind_some, dT hr, cond_true]; rfl
theorem RT.of {r : Int} (h : rightR ns r) (hr : r = 0) : RT ns ∧ ¬ deepP ns := by
  subst hr
  rcases h with ⟨_, h⟩ | ⟨_, h⟩ | ⟨h1, h2, ⟨_, h⟩ | ⟨_, _, h⟩ | ⟨h3, h4, _⟩⟩
  · omega
  · omega
  · omega
  · omega
  · exact ⟨⟨h1, h2, h3⟩, h4⟩
end
end
section
open Go.RowKit Go.Sl
open Go.V (T)
def kidL : List za8 → Nat → List Int
  | [], _ => []
  | k :: ks, b => (b : Int) :: kidL ks (b + nsz k)
theorem zt4 : ∀ (ks : List za8) (b : Nat),(kidL ks b).length = ks.length
  | [], _ => rfl
  | _ :: ks, b => by simp [kidL, zt4 ks]
section
variable {ns : List zae} {n : Nat}
theorem zp4 {A B l : List zae} {x : zae} (hns : ns = A ++ (l ++ B)) (hx : l[0]? = some x) : geti ns (A.length : Int) = some x := by
  have hl : 0 < l.length := (List.getElem?_eq_some_iff.1 hx).1
  rw [zbr, hns, List.getElem?_append_right (Nat.le_refl _), Nat.sub_self, List.getElem?_append_left hl]; exact hx
theorem has_at (j : Nat) (hj : j < ns.length) : zmt n ⟨ns⟩ (j : Int) = some true := by
  unfold zmt
  rw [dT (show (0 : Int) ≤ (j : Int) by omega), dT (show (j : Int) < (ns.length : Int) by omega)]; rfl
theorem zv6 (pa : Int) : ∀ (ks : List za8) (pr : Int) (A B : List zae) (acc : List Int) (k : Nat), ns = A ++ (lays ks A.length pa pr (-1) ++ B) → ks.length < k → acc.length + ks.length ≤ 5000 → acc.length < A.length →
    zf0 n ⟨ns⟩ k acc (if ks.length = 0 then -1 else (A.length : Int)) = some (acc ++ kidL ks A.length)
  | [], pr, A, B, acc, k, _, hk, _, _ => by
    obtain ⟨k, rfl⟩ : ∃ i, k = i + 1 := ⟨k - 1, by omega⟩
    rw [zf0]
    simp only [List.length_nil, if_true, kidL, List.append_nil]
    rfl
  | q :: r, pr, A, B, acc, k, hns, hk, ha, hA2 => by
    obtain ⟨k, rfl⟩ : ∃ i, k = i + 1 := ⟨k - 1, by omega⟩
    simp only [List.length_cons] at hk ha
    simp only [lays, List.append_assoc] at hns
    obtain ⟨x, x1, x2⟩ := lay_next q A.length pa pr (if r.length = 0 then -1 else ((A.length + nsz q : Nat) : Int))
    have hg := zp4 hns x1
    have hlt : A.length < ns.length := by
      have := congrArg List.length hns
      rw [List.length_append, List.length_append, znx] at this
      have := zq0 q
      omega
    have hA : (A ++ lay q A.length pa pr (if r.length = 0 then -1 else ((A.length + nsz q : Nat) : Int))).length = A.length + nsz q := by rw [List.length_append, znx]
    have ih := zv6 pa r (A.length : Int) (A ++ lay q A.length pa pr (if r.length = 0 then -1 else ((A.length + nsz q : Nat) : Int))) B (acc ++ [(A.length : Int)]) k (by rw [hA, List.append_assoc]; exact hns) (by omega) (by rw [List.length_append]; simp only [List.length_cons, List.length_nil]; omega)
      (by rw [hA, List.length_append]; have := zq0 q; simp only [List.length_cons, List.length_nil]; omega)
    rw [hA] at ih
    have h3 : decide ((acc.length : Int) < (((⟨ns⟩ : zaa).Nodes.length : Nat) : Int)) = true := dT (show (acc.length : Int) < (ns.length : Int) by omega)
    rw [zf0, if_neg (show ¬ (q :: r).length = 0 by simp), has_at A.length hlt, Option.bind_some, cond_true, h3]
    unfold zix
    rw [cond_true, zk9 (by simp only [List.length_cons, List.length_nil]; omega), Option.bind_some, show geti (⟨ns⟩ : zaa).Nodes (A.length : Int) = some x from hg, Option.bind_some, x2, ih, kidL, List.append_assoc]
    rfl
theorem Kids_at {P : za8} (hP : P.Name ≠ bs []) {A B : List zae} {pa pr nx : Int} (hns : ns = A ++ (lay P A.length pa pr nx ++ B)) (hk : P.Kids.length < 5000) (hn : 5000 ≤ n) : zm8 n ⟨ns⟩ (A.length : Int) = some (kidL P.Kids (A.length + 1)) := by
  rw [zg5 hP] at hns
  have hlt : A.length < ns.length := by rw [hns]; simp
  have hg := zp4 (l := enode P.Name P.Attrs pa (if P.Kids.length = 0 then -1 else ((A.length + 1 : Nat) : Int)) (lastOf P.Kids (A.length + 1) (-1)) pr nx :: lays P.Kids (A.length + 1) (A.length : Int) (-1) (-1)) hns rfl
  unfold zm8
  rw [has_at A.length hlt, Option.bind_some]
  show (geti ns (A.length : Int)).bind _ = _
  rw [hg, Option.bind_some]
  have := zv6 (ns := ns) (n := n) (A.length : Int) P.Kids (-1) (A ++ [enode P.Name P.Attrs pa (if P.Kids.length = 0 then -1 else ((A.length + 1 : Nat) : Int)) (lastOf P.Kids (A.length + 1) (-1)) pr nx]) B [] n (by rw [hns, List.length_append]; simp) (by omega) (by simp; omega) (by simp)
  rw [List.length_append, List.length_singleton, List.nil_append] at this
  exact this
end
end
end Go.Proofs.YtpfdbeafdjnbnaaGreatDoor
