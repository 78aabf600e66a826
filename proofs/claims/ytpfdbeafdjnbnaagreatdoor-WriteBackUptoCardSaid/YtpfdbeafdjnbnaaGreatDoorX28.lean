/-
  Walks and laws of this seat.
-/
import Derived.Test.YtpfdbeafdjnbnaaGreatDoorX27
namespace Go.Proofs.YtpfdbeafdjnbnaaGreatDoor
set_option linter.unusedVariables false
set_option linter.unusedSimpArgs false
set_option linter.unusedSectionVars false
section
open Go.RowKit Go.Sl
mutual
def nsz : za8 → Nat
  | ⟨nm, _, _, ks⟩ => if nm = bs [] then 1 else 1 + nszs ks
def nszs : List za8 → Nat
  | [] => 0
  | k :: ks => nsz k + nszs ks
end
def lastOf : List za8 → Nat → Int → Int
  | [], _, pr => pr
  | k :: ks, b, _ => lastOf ks (b + nsz k) (b : Int)
def tnode (tx : ByteArray) (pa pr nx : Int) : zae := {Kind := 2, Name := bs [], Text := tx, Attrs := [], Parent := pa, First := -1, Last := -1, Prev := pr, Next := nx}
def enode (nm : ByteArray) (at_ : List zab) (pa fi la pr nx : Int) : zae := {Kind := 1, Name := nm, Text := bs [], Attrs := at_, Parent := pa, First := fi, Last := la, Prev := pr, Next := nx}
mutual
def lay : za8 → Nat → Int → Int → Int → List zae
  | ⟨nm, tx, at_, ks⟩, b, pa, pr, nx => if nm = bs [] then [tnode tx pa pr nx] else enode nm at_ pa (if ks.length = 0 then -1 else ((b + 1 : Nat) : Int)) (lastOf ks (b + 1) (-1)) pr nx :: lays ks (b + 1) (b : Int) (-1) (-1)
def lays : List za8 → Nat → Int → Int → Int → List zae
  | [], _, _, _, _ => []
  | k :: ks, b, pa, pr, nx => lay k b pa pr (if ks.length = 0 then nx else ((b + nsz k : Nat) : Int)) ++ lays ks (b + nsz k) pa (b : Int) nx
end
theorem zil {p : za8} (h : p.Name = bs []) (b : Nat) (pa pr nx : Int) : lay p b pa pr nx = [tnode p.Text pa pr nx] := by cases p; simp only at h; simp [lay, h]
theorem zg5 {p : za8} (h : p.Name ≠ bs []) (b : Nat) (pa pr nx : Int) : lay p b pa pr nx = enode p.Name p.Attrs pa (if p.Kids.length = 0 then -1 else ((b + 1 : Nat) : Int)) (lastOf p.Kids (b + 1) (-1)) pr nx :: lays p.Kids (b + 1) (b : Int) (-1) (-1) := by
  cases p; simp only at h; simp only [lay, if_neg h]
theorem zpz {p : za8} (h : p.Name = bs []) : nsz p = 1 := by cases p; simp only at h; simp [nsz, h]
theorem zm1 {p : za8} (h : p.Name ≠ bs []) : nsz p = 1 + nszs p.Kids := by cases p; simp only at h; simp only [nsz, if_neg h]
mutual
theorem znx : ∀ (p : za8) (b : Nat) (pa pr nx : Int),(lay p b pa pr nx).length = nsz p
  | ⟨nm, tx, at_, ks⟩, b, pa, pr, nx => by
    unfold lay nsz
    split
    · rfl
    · rw [List.length_cons, zkz ks]; omega
theorem zkz : ∀ (ks : List za8) (b : Nat) (pa pr nx : Int),(lays ks b pa pr nx).length = nszs ks
  | [], _, _, _, _ => rfl
  | k :: ks, b, pa, pr, nx => by
    unfold lays nszs
    rw [List.length_append, znx k, zkz ks]
end
theorem zq0 (p : za8) : 1 ≤ nsz p := by
  by_cases h : p.Name = bs []
  · rw [zpz h]; omega
  · rw [zm1 h]; omega
mutual
theorem nsz_le : ∀ p : za8, nsz p ≤ psize p
  | ⟨nm, tx, at_, ks⟩ => by
    unfold nsz psize
    have := zpy ks
    split <;> omega
theorem zpy : ∀ ks : List za8, nszs ks ≤ pssize ks
  | [] => Nat.le_refl _
  | k :: ks => by
    unfold nszs pssize
    have := nsz_le k
    have := zpy ks
    omega
end
theorem znq : ∀ (xs ys : List za8), nszs (xs ++ ys) = nszs xs + nszs ys
  | [], ys => by simp [nszs]
  | x :: xs, ys => by simp only [List.cons_append, nszs, znq xs ys]; omega
theorem zk3 : ∀ (xs : List za8) (k : za8) (b : Nat) (pr : Int), lastOf (xs ++ [k]) b pr = ((b + nszs xs : Nat) : Int)
  | [], k, b, pr => by simp [lastOf, nszs]
  | x :: xs, k, b, pr => by
    simp only [List.cons_append, lastOf, nszs, zk3 xs k]
    congr 1
    omega
theorem zjp : ∀ (xs : List za8) (k : za8) (b : Nat) (pa pr nx : Int), lays (xs ++ [k]) b pa pr nx = lays xs b pa pr ((b + nszs xs : Nat) : Int) ++ lay k (b + nszs xs) pa (lastOf xs b pr) nx
  | [], k, b, pa, pr, nx => by simp [lays, lastOf, nszs]
  | x :: xs, k, b, pa, pr, nx => by
    simp only [List.cons_append, lays, lastOf, nszs, zjp xs k, List.append_assoc]
    have e1 : ¬ (xs ++ [k]).length = 0 := by simp
    rw [if_neg e1]
    have e2 : b + nsz x + nszs xs = b + (nsz x + nszs xs) := by omega
    rw [e2]
    congr 2
    by_cases h : xs.length = 0
    · have : xs = [] := List.eq_nil_of_length_eq_zero h
      subst this
      simp [nszs]
    · rw [if_neg h]
theorem lay_head (p : za8) (b : Nat) (pa pr nx : Int) : ∃ x,(lay p b pa pr nx)[0]? = some x ∧ ∀ nx', (lay p b pa pr nx).set 0 { x with Next := nx' } = lay p b pa pr nx' := by
  by_cases h : p.Name = bs []
  · exact ⟨tnode p.Text pa pr nx, by rw [zil h]; rfl, fun nx' => by rw [zil h, zil h]; rfl⟩
  · exact ⟨_, by rw [zg5 h]; rfl, fun nx' => by rw [zg5 h, zg5 h]; rfl⟩
theorem zv5 (xs : List za8) (k : za8) (b : Nat) (pa pr nx : Int) : ∃ x,(lays (xs ++ [k]) b pa pr nx)[nszs xs]? = some x ∧ ∀ nx', (lays (xs ++ [k]) b pa pr nx).set (nszs xs) { x with Next := nx' } = lays (xs ++ [k]) b pa pr nx' := by
  obtain ⟨x, h1, h2⟩ := lay_head k (b + nszs xs) pa (lastOf xs b pr) nx
  have hl := zkz xs b pa pr ((b + nszs xs : Nat) : Int)
  refine ⟨x, ?_, fun nx' => ?_⟩
  · rw [zjp, List.getElem?_append_right (by omega), hl, Nat.sub_self]; exact h1
  · rw [zjp, zjp, List.set_append_right _ _ (by omega), hl, Nat.sub_self, h2]
mutual
def okP : za8 → Prop
  | ⟨_, _, at_, ks⟩ => at_.length * 32 ≤ reachBytes ∧ okPs ks
def okPs : List za8 → Prop
  | [] => True
  | k :: ks => okP k ∧ okPs ks
end
theorem zpw : ∀ {ks : List za8} {k : za8}, okPs ks → k ∈ ks → okP k
  | a :: ks, k, h, hk => by
    simp only [okPs] at h
    rcases List.mem_cons.1 hk with rfl | hk
    · exact h.1
    · exact zpw h.2 hk
theorem zuu : ∀ {ks : List za8}, (∀ k ∈ ks, okP k) → okPs ks
  | [], _ => trivial
  | k :: ks, h => by
    simp only [okPs]
    exact ⟨h k (by simp), zuu fun q hq => h q (by simp [hq])⟩
theorem znp (p : za8) : okP p ↔ p.Attrs.length * 32 ≤ reachBytes ∧ okPs p.Kids := by cases p; simp [okP]
theorem okP_at {p : za8} (h : okP p) : p.Attrs.length * 32 ≤ reachBytes ∧ ∀ k ∈ p.Kids, okP k := by
  rw [znp] at h
  exact ⟨h.1, fun k hk => zpw h.2 hk⟩
theorem make_lay : ∀ (s : Nat) (p : za8) (n : Nat) (nodes : List zae) (pa pr : Int), psize p ≤ s → s + 10 ≤ n → okP p → nodes.length + psize p ≤ 4096 →
    zgn n p pa pr ⟨nodes⟩ = some ((nodes.length : Int), ⟨nodes ++ lay p nodes.length pa pr (-1)⟩) := by
  intro s
  induction s with
  | zero => intro p n nodes pa pr h; have := zek p; omega
  | succ s ih =>
    intro p n nodes pa pr h hn hS hsz
    obtain ⟨n, rfl⟩ : ∃ k, n = k + 1 := ⟨n - 1, by omega⟩
    obtain ⟨hat, hkids⟩ := okP_at hS
    have hp := zek p
    have hlen := zox p.Kids
    have hre : reachBytes = 140737488351232 := rfl
    rw [zgn]
    unfold zj8 zi6
    have eA : appM 32 ([] : List zab) p.Attrs = some p.Attrs := by
      rw [zk9 (by simp only [List.length_nil, Nat.zero_add]; omega), List.nil_append]
    rw [eA, Option.bind_some]
    unfold zim
    by_cases hname : p.Name = bs []
    · rw [decide_eq_true hname, cond_true]
      unfold zgm
      rw [zk9 (by simp only [List.length_singleton]; omega), Option.bind_some, decide_eq_true hname, Bool.or_true, cond_true, zil hname, hname]
      rfl
    · rw [decide_eq_false hname, cond_false]
      unfold zgm
      rw [zk9 (by simp only [List.length_singleton]; omega), Option.bind_some, decide_eq_false hname, Bool.or_false]
      rw [show decide ((4096 : Int) < (((nodes ++ [({Kind := 1, Name := p.Name, Text := bs [], Attrs := p.Attrs, Parent := pa, First := -1, Last := -1, Prev := pr, Next := -1} : zae)]).length : Nat) : Int)) = false from by simp; omega, cond_false]
      have loop : ∀ (k i : Nat), p.Kids.length < k + i → i ≤ p.Kids.length →
          zdm p ⟨nodes⟩ (zgn n) k (nodes ++ enode p.Name p.Attrs pa (if i = 0 then -1 else ((nodes.length + 1 : Nat) : Int)) (-1) pr (-1) :: lays (p.Kids.take i) (nodes.length + 1) (nodes.length : Int) (-1) (-1)) (lastOf (p.Kids.take i) (nodes.length + 1) (-1)) (i : Int) = some ((nodes.length : Int), ⟨nodes ++ lay p nodes.length pa pr (-1)⟩) := by
        intro k
        induction k with
        | zero => intro i h1 h2; omega
        | succ k ihk =>
          intro i h1 h2
          rw [zdm]
          have htl := zpy (p.Kids.take i)
          have htk2 := zlf p.Kids i
          have hll := zkz (p.Kids.take i) (nodes.length + 1) (nodes.length : Int) (-1) (-1)
          by_cases hi : i < p.Kids.length
          · obtain ⟨q, hq⟩ : ∃ q, p.Kids[i]? = some q := ⟨_, List.getElem?_eq_getElem hi⟩
            have hqm := List.mem_of_getElem? hq
            have hqs := zky hqm
            have htk := zn5 p.Kids hq
            have htk3 := zlf p.Kids (i + 1)
            have hnq := nsz_le q
            rw [show decide ((i : Int) < (p.Kids.length : Int)) = true from by simpa using hi, cond_true, zbr, hq, Option.bind_some]
            have hcur : (nodes ++ enode p.Name p.Attrs pa (if i = 0 then -1 else ((nodes.length + 1 : Nat) : Int)) (-1) pr (-1) :: lays (p.Kids.take i) (nodes.length + 1) (nodes.length : Int) (-1) (-1)).length = nodes.length + 1 + nszs (p.Kids.take i) := by
              rw [List.length_append, List.length_cons, hll]; omega
            have g := ih q n (nodes ++ enode p.Name p.Attrs pa (if i = 0 then -1 else ((nodes.length + 1 : Nat) : Int)) (-1) pr (-1) :: lays (p.Kids.take i) (nodes.length + 1) (nodes.length : Int) (-1) (-1)) (nodes.length : Int) (lastOf (p.Kids.take i) (nodes.length + 1) (-1)) (by omega) (by omega) (hkids q hqm) (by rw [hcur]; omega)
            rw [hcur] at g
            dsimp only
            rw [g, Option.bind_some]
            have hts : p.Kids.take (i + 1) = p.Kids.take i ++ [q] := by rw [List.take_add_one, hq]; rfl
            -- what the list is behind the binding
            have go : ∀ l : List zae, l = nodes ++ enode p.Name p.Attrs pa ((nodes.length + 1 : Nat) : Int) (-1) pr (-1) :: lays (p.Kids.take (i + 1)) (nodes.length + 1) (nodes.length : Int) (-1) (-1) →
                zgl ⟨nodes⟩ (i : Int) (zdm p ⟨nodes⟩ (zgn n) k) (((nodes.length + 1 + nszs (p.Kids.take i) : Nat) : Int), ⟨(nodes ++ enode p.Name p.Attrs pa (if i = 0 then -1 else ((nodes.length + 1 : Nat) : Int)) (-1) pr (-1) :: lays (p.Kids.take i) (nodes.length + 1) (nodes.length : Int) (-1) (-1)) ++ lay q (nodes.length + 1 + nszs (p.Kids.take i)) (nodes.length : Int) (lastOf (p.Kids.take i) (nodes.length + 1) (-1)) (-1)⟩) l = some ((nodes.length : Int), ⟨nodes ++ lay p nodes.length pa pr (-1)⟩) := fun l hl => by
              subst hl
              unfold zgl
              have hlen2 := zpy (p.Kids.take (i + 1))
              rw [show decide ((4096 : Int) < ((nodes ++ enode p.Name p.Attrs pa ((nodes.length + 1 : Nat) : Int) (-1) pr (-1) :: lays (p.Kids.take (i + 1)) (nodes.length + 1) (nodes.length : Int) (-1) (-1)).length : Int)) = false from decide_eq_false (by rw [List.length_append, List.length_cons, zkz]; omega), cond_false, zgb (by omega)]
              have := ihk (i + 1) (by omega) (by omega)
              rw [if_neg (by omega), hts, zk3, ← hts] at this
              exact this
            by_cases h0 : i = 0
            · subst h0
              rw [show decide (lastOf (p.Kids.take 0) (nodes.length + 1) (-1) = -1) = true from rfl, cond_true]
              rw [zbr, List.append_assoc, List.getElem?_append_right (Nat.le_refl _), Nat.sub_self]
              rw [show ((enode p.Name p.Attrs pa (if 0 = 0 then -1 else ((nodes.length + 1 : Nat) : Int)) (-1) pr (-1) :: lays (p.Kids.take 0) (nodes.length + 1) (nodes.length : Int) (-1) (-1)) ++ lay q (nodes.length + 1 + nszs (p.Kids.take 0)) (nodes.length : Int) (lastOf (p.Kids.take 0) (nodes.length + 1) (-1)) (-1))[0]? = some (enode p.Name p.Attrs pa (-1) (-1) pr (-1)) from rfl, Option.bind_some]
              rw [zi0 _ (by simp), Option.bind_some, ← List.append_assoc]
              refine go _ ?_
              rw [List.append_assoc, List.set_append_right _ _ (Nat.le_refl _), Nat.sub_self, hts, zjp]
              rfl
            · obtain ⟨xs, k', hxs⟩ : ∃ xs k', p.Kids.take i = xs ++ [k'] := by
                have hne : p.Kids.take i ≠ [] := by
                  intro e
                  have := congrArg List.length e
                  rw [List.length_take, List.length_nil] at this
                  omega
                exact ⟨_, _,(List.dropLast_concat_getLast hne).symm⟩
              have hlo : lastOf (p.Kids.take i) (nodes.length + 1) (-1) = ((nodes.length + 1 + nszs xs : Nat) : Int) := by rw [hxs, zk3]
              obtain ⟨x, x1, x2⟩ := zv5 xs k' (nodes.length + 1) (nodes.length : Int) (-1) (-1)
              rw [← hxs] at x1 x2
              have hxl : nszs xs < nszs (p.Kids.take i) := by
                rw [hxs, znq]
                have := zq0 k'
                simp only [nszs]; omega
              rw [if_neg h0] at go ⊢
              have hix : (nodes ++ enode p.Name p.Attrs pa ((nodes.length + 1 : Nat) : Int) (-1) pr (-1) :: lays (p.Kids.take i) (nodes.length + 1) (nodes.length : Int) (-1) (-1) ++ lay q (nodes.length + 1 + nszs (p.Kids.take i)) (nodes.length : Int) (lastOf (p.Kids.take i) (nodes.length + 1) (-1)) (-1))[nodes.length + 1 + nszs xs]? = some x := by
                rw [List.append_assoc, List.getElem?_append_right (by omega), show nodes.length + 1 + nszs xs - nodes.length = nszs xs + 1 by omega, List.cons_append, List.getElem?_cons_succ, List.getElem?_append_left (by rw [hll]; exact hxl)]
                exact x1
              rw [show decide (lastOf (p.Kids.take i) (nodes.length + 1) (-1) = -1) = false from decide_eq_false (by rw [hlo]; omega), cond_false]
              rw [show geti (nodes ++ enode p.Name p.Attrs pa ((nodes.length + 1 : Nat) : Int) (-1) pr (-1) :: lays (p.Kids.take i) (nodes.length + 1) (nodes.length : Int) (-1) (-1) ++ lay q (nodes.length + 1 + nszs (p.Kids.take i)) (nodes.length : Int) (lastOf (p.Kids.take i) (nodes.length + 1) (-1)) (-1)) (lastOf (p.Kids.take i) (nodes.length + 1) (-1)) = some x from by
                conv => lhs; arg 2; rw [hlo]
                rw [zbr]; exact hix, Option.bind_some]
              rw [show ∀ y, seti (nodes ++ enode p.Name p.Attrs pa ((nodes.length + 1 : Nat) : Int) (-1) pr (-1) :: lays (p.Kids.take i) (nodes.length + 1) (nodes.length : Int) (-1) (-1) ++ lay q (nodes.length + 1 + nszs (p.Kids.take i)) (nodes.length : Int) (lastOf (p.Kids.take i) (nodes.length + 1) (-1)) (-1)) (lastOf (p.Kids.take i) (nodes.length + 1) (-1)) y = some ((nodes ++ enode p.Name p.Attrs pa ((nodes.length + 1 : Nat) : Int) (-1) pr (-1) :: lays (p.Kids.take i) (nodes.length + 1) (nodes.length : Int) (-1) (-1) ++ lay q (nodes.length + 1 + nszs (p.Kids.take i)) (nodes.length : Int) (lastOf (p.Kids.take i) (nodes.length + 1) (-1)) (-1)).set (nodes.length + 1 + nszs xs) y) from fun y => by
                conv => lhs; arg 2; rw [hlo]
                rw [zi0 _ (List.getElem?_eq_some_iff.1 hix).1], Option.bind_some]
              refine go _ ?_
              rw [List.append_assoc, List.set_append_right _ _ (by omega), show nodes.length + 1 + nszs xs - nodes.length = nszs xs + 1 by omega, List.cons_append, List.set_cons_succ, List.set_append_left _ _ (by rw [hll]; exact hxl), x2, hts, zjp]
          · have hie : i = p.Kids.length := by omega
            subst hie
            rw [show decide ((p.Kids.length : Int) < (p.Kids.length : Int)) = false from by simp, cond_false]
            unfold zhn
            dsimp only
            rw [List.take_length, zbr, List.getElem?_append_right (Nat.le_refl _), Nat.sub_self]
            rw [show ∀ (y : zae) (l : List zae),(y :: l)[0]? = some y from fun _ _ => rfl, Option.bind_some, zi0 _ (by simp), Option.bind_some, List.set_append_right _ _ (Nat.le_refl _), Nat.sub_self, zg5 hname]
            rfl
      exact loop n 0 (by omega) (by omega)
end
section
open Go.RowKit Go.Sl
mutual
def cleanP : za8 → za8
  | ⟨nm, tx, at_, ks⟩ => if nm = bs [] then ⟨bs [], tx,[],[]⟩ else ⟨nm, bs [], at_, cleanPs ks⟩
def cleanPs : List za8 → List za8
  | [] => []
  | k :: ks => cleanP k :: cleanPs ks
end
theorem zlp : ∀ ks : List za8, cleanPs ks = ks.map cleanP
  | [] => rfl
  | k :: ks => by simp only [cleanPs, List.map_cons, zlp ks]
theorem ziz {p : za8} (h : p.Name = bs []) : cleanP p = ⟨bs [], p.Text,[],[]⟩ := by cases p; simp only at h; simp [cleanP, h]
theorem zhy {p : za8} (h : p.Name ≠ bs []) : cleanP p = ⟨p.Name, bs [], p.Attrs, p.Kids.map cleanP⟩ := by cases p; simp only at h; simp only [cleanP, if_neg h, zlp]
theorem zr6 : ∀ (s : Nat) (p : za8), psize p ≤ s → okP p → okP (cleanP p)
  | 0, p, h, _ => by have := zek p; omega
  | s + 1, p, h, hp => by
    rw [znp] at hp
    by_cases hn : p.Name = bs []
    · rw [ziz hn, znp]
      exact ⟨by simp, trivial⟩
    · rw [zhy hn, znp]
      refine ⟨hp.1, zuu fun k hk => ?_⟩
      obtain ⟨q, hq, rfl⟩ := List.mem_map.1 hk
      have := zek p
      have := zky hq
      exact zr6 s q (by omega) (zpw hp.2 hq)
theorem zs8 : ∀ (s : Nat) (p : za8), psize p ≤ s → psize (cleanP p) ≤ psize p := by
  intro s
  induction s with
  | zero => intro p h; have := zek p; omega
  | succ s ih =>
    intro p h
    have hp := zek p
    by_cases hn : p.Name = bs []
    · rw [ziz hn, zek]
      simp only [pssize]; omega
    · rw [zhy hn, zek]
      have : ∀ ks : List za8, pssize ks ≤ s → pssize (ks.map cleanP) ≤ pssize ks := by
        intro ks
        induction ks with
        | nil => intro _; exact Nat.le_refl _
        | cons k ks ihk =>
          intro hk
          simp only [pssize] at hk
          simp only [List.map_cons, pssize]
          have := ih k (by omega)
          have := ihk (by omega)
          omega
      have := this p.Kids (by omega)
      simp only
      omega
mutual
theorem znr : ∀ p : za8, nsz (cleanP p) = nsz p
  | ⟨nm, tx, at_, ks⟩ => by
    by_cases h : nm = bs []
    · simp [cleanP, nsz, h]
    · simp only [cleanP, nsz, if_neg h, zoz ks]
theorem zoz : ∀ ks : List za8, nszs (cleanPs ks) = nszs ks
  | [] => rfl
  | k :: ks => by simp only [cleanPs, nszs, znr k, zoz ks]
end
theorem zo4 (ks : List za8) : (cleanPs ks).length = ks.length := by rw [zlp, List.length_map]
theorem zmz : ∀ (ks : List za8) (b : Nat) (pr : Int), lastOf (cleanPs ks) b pr = lastOf ks b pr
  | [], _, _ => rfl
  | k :: ks, b, pr => by simp only [cleanPs, lastOf, znr k, zmz ks]
mutual
theorem zra : ∀ (p : za8) (b : Nat) (pa pr nx : Int), lay (cleanP p) b pa pr nx = lay p b pa pr nx
  | ⟨nm, tx, at_, ks⟩, b, pa, pr, nx => by
    by_cases h : nm = bs []
    · simp [cleanP, lay, h]
    · simp only [cleanP, lay, if_neg h, zo4, zmz, zp3 ks]
theorem zp3 : ∀ (ks : List za8) (b : Nat) (pa pr nx : Int), lays (cleanPs ks) b pa pr nx = lays ks b pa pr nx
  | [], _, _, _, _ => rfl
  | k :: ks, b, pa, pr, nx => by simp only [cleanPs, lays, znr k, zo4, zra k, zp3 ks]
end
theorem lay_next (p : za8) (b : Nat) (pa pr nx : Int) : ∃ x,(lay p b pa pr nx)[0]? = some x ∧ x.Next = nx := by
  by_cases h : p.Name = bs []
  · exact ⟨_, by rw [zil h]; rfl, rfl⟩
  · exact ⟨_, by rw [zg5 h]; rfl, rfl⟩
end
section
open Go.RowKit Go.Sl
theorem make_eq {p : za8} {F : Nat} (hF : 5000000000000 ≤ F) (hS : okP p) (hsz : psize p ≤ 2000) : ∃ r, rightR (lay p 0 (-1) (-1) (-1)) r ∧
    zj9 F p = (if r = 0 then some (⟨lay p 0 (-1) (-1) (-1)⟩, 0) else some (⟨[]⟩, r)) := by
  have g := make_lay (psize p) p F [] (-1) (-1) (Nat.le_refl _) (by omega) hS (by simp; omega)
  rw [List.nil_append, List.length_nil] at g
  obtain ⟨r, a1, a2⟩ := zia (lay p 0 (-1) (-1) (-1)) (n := F) (by omega)
  refine ⟨r, a2, ?_⟩
  unfold zj9
  rw [show zgn F p (-1) (-1) ({Nodes := ([] : List zae)} : zaa) = _ from g, Option.bind_some, a1, Option.bind_some]
  by_cases h : r = 0
  · subst h; rfl
  · rw [show decide (r ≠ 0) = true from decide_eq_true h, cond_true, if_neg h]
end
section
open Go.RowKit Go.Sl
section
variable (ns : List zae)
theorem zpp {i : Nat} (h : good ns i) {x : Int} (hx : x ∈ (row ns i).tail) : ∃ q : Nat, x = q ∧ q < i := by
  obtain ⟨tl, h1, h2, _⟩ := good.inv ns h
  rw [h1, List.tail_cons] at hx
  obtain ⟨q, e1, e2, _⟩ := h2 x hx
  exact ⟨q, e1, e2⟩
theorem zps {i : Nat} (h : good ns i) : row ns i = (i : Int) :: (row ns i).tail := by
  obtain ⟨tl, h1, _⟩ := good.inv ns h
  rw [h1, List.tail_cons]
theorem row_mem {i : Nat} (h : good ns i) {x : Int} (hx : x ∈ row ns i) : ∃ q : Nat, x = q ∧ q ≤ i := by
  rw [zps ns h] at hx
  rcases List.mem_cons.1 hx with e | e
  · exact ⟨i, e, Nat.le_refl _⟩
  · obtain ⟨q, e1, e2⟩ := zpp ns h e
    exact ⟨q, e1, by omega⟩
theorem zut {i : Nat} (h : okS ns i) : par ns (i + 1) ∈ row ns i := Decidable.byContradiction fun hh => h.1 (zlm _ _ hh)
theorem noKid {i j : Nat} (hij : i < j) (hp : par ns j < i) : ∀ m, j ≤ m → good ns m → par ns m ≠ i ∧ (i : Int) ∉ row ns m := by
  intro m hm
  induction hm with
  | refl =>
    intro hg
    refine ⟨by omega, fun hx => ?_⟩
    obtain ⟨c, rfl⟩ : ∃ c, j = c + 1 := ⟨j - 1, by omega⟩
    obtain ⟨q, q1, q2, _, q4⟩ := good.par ns hg
    rw [q4] at hx
    rcases List.mem_cons.1 hx with e | e
    · omega
    · obtain ⟨z, e1, e2⟩ := row_mem ns (good.le ns hg (by omega)) e
      omega
  | step hm ih =>
    rename_i m
    intro hg
    obtain ⟨h1, h2⟩ := ih hg.1
    have hm' : j ≤ m := hm
    have h3 := zut ns hg.2
    refine ⟨fun e => h2 (by rw [← e]; exact h3), fun hx => ?_⟩
    rw [row_succ] at hx
    rcases List.mem_cons.1 hx with e | e
    · omega
    · exact h2 ((List.dropWhile_sublist _).subset e)
theorem zq3 (i : Int) : ∀ (n c : Nat),1 ≤ c → c ≤ n → par ns c = i → (∀ m, c < m → m ≤ n → par ns m ≠ i) → lastc ns n i = c
  | 0, c, h1, h2, _, _ => by omega
  | n + 1, c, h1, h2, h3, h4 => by
    rw [zl0]
    by_cases h : c = n + 1
    · subst h; rw [if_pos h3]
    · rw [if_neg (h4 (n + 1) (by omega) (Nat.le_refl _))]
      exact zq3 i n c h1 (by omega) h3 fun m h5 h6 => h4 m h5 (by omega)
theorem zt3 (i : Int) : ∀ (n : Nat),(∀ m,1 ≤ m → m ≤ n → par ns m ≠ i) → lastc ns n i = -1
  | 0, _ => rfl
  | n + 1, h => by
    rw [zl0, if_neg (h (n + 1) (by omega) (Nat.le_refl _))]
    exact zt3 i n fun m h5 h6 => h m h5 (by omega)
def SubP (i : Nat) : Prop := ∃ p j, i < j ∧ j ≤ ns.length ∧ ns.drop i = lay p i (par ns i) (nd ns i).Prev (nd ns i).Next ++ ns.drop j ∧ i + nsz p = j ∧ psize p = nsz p ∧ okP p ∧ (j < ns.length → par ns j ∈ (row ns i).tail) ∧ ∀ m, i < m → m < j → (i : Int) ≤ par ns m
def KidsP (c i : Nat) : Prop := ∃ ks j,0 < ks.length ∧ c < j ∧ j ≤ ns.length ∧ ns.drop c = lays ks c i (nd ns c).Prev (-1) ++ ns.drop j ∧ c + nszs ks = j ∧ pssize ks = nszs ks ∧ okPs ks ∧ (j < ns.length → par ns j ∈ (row ns i).tail) ∧ (∀ m, c ≤ m → m < j → (i : Int) ≤ par ns m) ∧ lastOf ks c (nd ns c).Prev = lastc ns (ns.length - 1) i
theorem kids_lay (hg : ∀ j, j < ns.length → good ns j) (hr : ∀ m, m < ns.length → refP ns m) (i : Nat) (hsub : ∀ c, i < c → c < ns.length → SubP ns c) : ∀ (d c : Nat), ns.length - c ≤ d → i < c → c < ns.length → par ns c = i → KidsP ns c i := by
  intro d
  induction d with
  | zero => intro c h1 h2 h3; omega
  | succ d ih =>
    intro c h1 h2 h3 h4
    obtain ⟨q, j, a1, a2, a3, a4, a5, a6, a7, a8⟩ := hsub c h2 h3
    have hgc := hg c h3
    have hgi : good ns i := hg i (by omega)
    have hrow : row ns c = (c : Int) :: row ns i := by
      obtain ⟨c', rfl⟩ : ∃ c', c = c' + 1 := ⟨c - 1, by omega⟩
      obtain ⟨z, z1, _, _, z4⟩ := good.par ns hgc
      have : z = i := by omega
      subst this
      exact z4
    rw [hrow, List.tail_cons, zps ns hgi] at a7
    have nextNone : (∀ m, c < m → m < ns.length → par ns m ≠ i) → (nd ns c).Next = -1 ∧ lastc ns (ns.length - 1) i = c := fun hno => by
      constructor
      · rw [(hr c h3).2.2.2]
        refine zjo ns _ _ fun c' g1 g2 g3 => ?_
        unfold prevc at g3
        rcases zfm ns (c' - 1) (par ns c') with g4 | ⟨z, g4, g5, g6, g7⟩
        · omega
        · have : z = c := by omega
          subst this
          exact hno c' (by omega) (by omega) (by rw [← g7]; exact h4)
      · exact zq3 ns _ _ c (by omega) (by omega) h4 fun m g1 g2 => hno m g1 (by omega)
    by_cases hj : j < ns.length ∧ par ns j = i
    · obtain ⟨hj, hpj⟩ := hj
      have hprev : prevc ns j = c := by
        unfold prevc
        rw [hpj]
        exact zq3 ns _ _ c (by omega) (by omega) h4 fun m g1 g2 => by have := a8 m g1 (by omega); omega
      have hPj : (nd ns j).Prev = c := by
        have := (hr j hj).2.2.1
        rw [if_neg (by omega), hprev] at this; exact this
      have hNc : (nd ns c).Next = j := by rw [(hr c h3).2.2.2]; exact znb ns _ j c (by omega) (by omega) hprev
      obtain ⟨ks, k, b0, b1, b2, b3, b4, b5, b6, b7, b8, b9⟩ := ih j (by omega) (by omega) hj hpj
      refine ⟨q :: ks, k, by simp, by omega, b2, ?_, by simp only [nszs]; omega, by simp only [pssize, nszs]; omega, by simp only [okPs]; exact ⟨a6, b6⟩, b7, fun m g1 g2 => ?_, ?_⟩
      · rw [a3, b3, hPj, hNc, h4, ← List.append_assoc]
        simp only [lays]
        rw [if_neg (by omega), a4]
      · by_cases e : m = c
        · subst e; omega
        · by_cases e2 : m < j
          · have := a8 m (by omega) e2; omega
          · exact b8 m (by omega) g2
      · simp only [lastOf]
        rw [a4, ← hPj]; exact b9
    · have hlt : j < ns.length → par ns j ∈ (row ns i).tail := fun hh => by
        rcases List.mem_cons.1 (a7 hh) with e | e
        · exact absurd ⟨hh, e⟩ hj
        · exact e
      have hno : ∀ m, c < m → m < ns.length → par ns m ≠ i := fun m g1 g2 => by
        by_cases e2 : m < j
        · have := a8 m g1 e2; omega
        · obtain ⟨z, z1, z2⟩ := zpp ns hgi (hlt (by omega))
          exact (noKid ns (i := i) (j := j) (by omega) (by omega) m (by omega) (hg m g2)).1
      obtain ⟨n1, n2⟩ := nextNone hno
      refine ⟨[q], j, by simp, a1, a2, ?_, by simp only [nszs]; omega, by simp only [pssize, nszs]; omega, by simp only [okPs]; exact ⟨a6, trivial⟩, hlt, fun m g1 g2 => ?_, ?_⟩
      · rw [a3, n1, h4]
        simp [lays]
      · by_cases e : m = c
        · subst e; omega
        · have := a8 m (by omega) g2; omega
      · simp only [lastOf]; exact n2.symm
theorem sub_lay (hg : ∀ j, j < ns.length → good ns j) (ha : ∀ j, j < ns.length → aloneP (nd ns j)) (hr : ∀ m, m < ns.length → refP ns m) : ∀ (d i : Nat), ns.length - i ≤ d → i < ns.length → SubP ns i := by
  intro d
  induction d with
  | zero => intro i h1 h2; omega
  | succ d ih =>
    intro i h1 h2
    have hre : reachBytes = 140737488351232 := rfl
    have hgi := hg i h2
    have hri := hr i h2
    have hdrop : ns.drop i = nd ns i :: ns.drop (i + 1) := by
      rw [List.drop_eq_getElem_cons h2]
      congr 1
      have := zii ns h2
      rw [List.getElem?_eq_getElem h2] at this
      exact Option.some.inj this
    have hmem : i + 1 < ns.length → par ns (i + 1) = i ∨ par ns (i + 1) ∈ (row ns i).tail := fun hh => by
      have := zut ns (hg (i + 1) hh).2
      rw [zps ns hgi] at this
      exact List.mem_cons.1 this
    rcases ha i h2 with ⟨k1, k2, k3, k4, k5, k6⟩ | ⟨k1, k2, k3, k4, k5⟩
    · refine ⟨⟨bs [],(nd ns i).Text,[],[]⟩, i + 1, by omega, by omega, ?_, by rw [zpz rfl], by rw [zpz rfl, zek]; rfl, by rw [znp]; exact ⟨by simp, trivial⟩, fun hh => ?_, fun m g1 g2 => by omega⟩
      · rw [zil rfl, hdrop, List.singleton_append]
        congr 1
        have : (nd ns i).Attrs = [] := List.eq_nil_of_length_eq_zero k4
        unfold tnode par
        generalize nd ns i = x at *
        cases x
        simp_all
      · rcases hmem hh with e | e
        · have := (hg (i + 1) hh).2.2
          rw [e] at this
          simp at this
          omega
        · exact e
    · by_cases hk : i + 1 < ns.length ∧ par ns (i + 1) = i
      · obtain ⟨hk1, hk2⟩ := hk
        obtain ⟨ks, j, b0, b1, b2, b3, b4, b5, b6, b7, b8, b9⟩ := kids_lay ns hg hr i (fun c g1 g2 => ih c (by omega) g2) (ns.length - (i + 1)) (i + 1) (Nat.le_refl _) (by omega) hk1 hk2
        have hprev : prevc ns (i + 1) = -1 := by
          unfold prevc
          rw [hk2]
          exact good.lastc_none ns hgi i (Nat.le_refl _)
        have hP : (nd ns (i + 1)).Prev = -1 := by
          have := (hr (i + 1) hk1).2.2.1
          rw [if_neg (by omega), hprev] at this; exact this
        have hF : (nd ns i).First = ((i + 1 : Nat) : Int) := by
          rw [hri.1]
          have := zm5 ns (ns.length - 1) (i + 1) (by omega) (by omega) hprev
          rw [hk2] at this; exact this
        have hL : (nd ns i).Last = lastOf ks (i + 1) (-1) := by rw [hri.2.1, ← b9, hP]
        have e1 : (⟨(nd ns i).Name, bs [],(nd ns i).Attrs, ks⟩ : za8).Name ≠ bs [] := k2
        refine ⟨⟨(nd ns i).Name, bs [],(nd ns i).Attrs, ks⟩, j, by omega, b2, ?_, by rw [zm1 e1]; simp only; omega, by rw [zm1 e1, zek]; simp only; omega, by rw [znp]; exact ⟨by simp only; omega, b6⟩, b7, fun m g1 g2 => b8 m (by omega) g2⟩
        rw [zg5 e1, hdrop, List.cons_append]
        rw [b3, hP]
        congr 1
        simp only
        rw [if_neg (by omega), ← hL, ← hF]
        unfold enode par
        generalize nd ns i = x at *
        cases x
        simp_all
      · have hlt : i + 1 < ns.length → par ns (i + 1) ∈ (row ns i).tail := fun hh => by
          rcases hmem hh with e | e
          · exact absurd ⟨hh, e⟩ hk
          · exact e
        have hno : ∀ m,1 ≤ m → m ≤ ns.length - 1 → par ns m ≠ i := fun m g1 g2 => by
          by_cases e : m ≤ i
          · obtain ⟨z, z1, z2, _⟩ := par_lt ns hgi g1 e
            omega
          · obtain ⟨z, z1, z2⟩ := zpp ns hgi (hlt (by omega))
            exact (noKid ns (i := i) (j := i + 1) (by omega) (by omega) m (by omega) (hg m (by omega))).1
        have hL := zt3 ns i (ns.length - 1) hno
        have hF := zk4 ns (ns.length - 1) i hL
        rw [← hri.2.1] at hL
        rw [← hri.1] at hF
        have e1 : (⟨(nd ns i).Name, bs [],(nd ns i).Attrs,[]⟩ : za8).Name ≠ bs [] := k2
        refine ⟨⟨(nd ns i).Name, bs [],(nd ns i).Attrs,[]⟩, i + 1, by omega, by omega, ?_, by rw [zm1 e1]; rfl, by rw [zm1 e1, zek]; rfl, by rw [znp]; exact ⟨by simp only; omega, trivial⟩, hlt, fun m g1 g2 => by omega⟩
        rw [zg5 e1, hdrop, List.cons_append]
        simp only [lays, List.length_nil, if_pos, lastOf, List.nil_append]
        congr 1
        unfold enode par
        generalize nd ns i = x at *
        cases x
        simp_all
theorem zts (h0 : 0 < ns.length) (h : linkedP ns) : ∃ p, ns = lay p 0 (-1) (-1) (-1) ∧ psize p = ns.length ∧ okP p := by
  have hg := linkedP.good ns h
  obtain ⟨a1, a2, a3, a4, a5, a6, a7⟩ := (zp1 ns h0).1 h
  obtain ⟨p, j, b1, b2, b3, b4, b5, b6, b7, _⟩ := sub_lay ns hg (fun j hj => by
    by_cases e : j = 0
    · subst e; exact a5
    · exact (a6 j (by omega) hj).1) a7 ns.length 0 (by omega) h0
  have hj : j = ns.length := by
    by_cases e : j < ns.length
    · have := b7 e
      simp [row] at this
    · omega
  subst hj
  refine ⟨p, ?_, by omega, b6⟩
  have : par ns 0 = -1 := a2
  rw [List.drop_zero, List.drop_length, List.append_nil, a3, a4, this] at b3
  exact b3
end
end
section
open Go.RowKit Go.Sl
section
variable (ns : List zae)
variable {ns}
theorem zm3 (p : za8) (b : Nat) (pa pr nx : Int) : ∃ x r, lay p b pa pr nx = x :: r ∧ x.Parent = pa ∧ x.Prev = pr ∧ x.Next = nx ∧ x.Name = p.Name ∧ (x.Kind = 2 ↔ p.Name = bs []) ∧ (x.Kind = 1 ↔ p.Name ≠ bs []) := by
  by_cases h : p.Name = bs []
  · exact ⟨_, _, by rw [zil h], rfl, rfl, rfl, h.symm, by simp [tnode, h], by simp [tnode, h]⟩
  · exact ⟨_, _, by rw [zg5 h], rfl, rfl, rfl, rfl, by simp [enode, h], by simp [enode, h]⟩
end
end
end Go.Proofs.YtpfdbeafdjnbnaaGreatDoor
