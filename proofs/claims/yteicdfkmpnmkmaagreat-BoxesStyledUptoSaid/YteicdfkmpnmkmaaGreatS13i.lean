/-
  Walks and laws of this seat.
-/
import Derived.Test.YteicdfkmpnmkmaaGreatS13h
import Derived.Test.YteicdfkmpnmkmaaGreatRows
namespace Go.Proofs.YteicdfkmpnmkmaaGreat
set_option linter.unusedVariables false
set_option linter.unusedSimpArgs false
open Go.RowKit Go.Sl
theorem setAt_mid : ∀ (l a b c : List Value), l.length = b.length → setAt a.length l (a ++ (b ++ c)) = a ++ (l ++ c)
  | [], a, b, c, h => by
    have : b = [] := List.length_eq_zero_iff.1 h.symm
    rw [this]; rfl
  | x :: l, a, b, c, h => by
    cases b with
    | nil => simp at h
    | cons y b =>
      have := setAt_mid l (a ++ [x]) b c (by simpa using h)
      simp only [setAt, List.cons_append]
      rw [List.set_append_right _ _ (Nat.le_refl _), Nat.sub_self, List.set_cons_zero]
      simpa using this
def boxP : List (Nat × Nat) := [(0, 1), (1, 1), (2, 1), (3, 52), (55, 1), (56, 1)]
def zS : List Value := (zB.drop 3).take 52
theorem zB_eq : zB = cB 0 0 0 zS ByteArray.empty (.slice none 0 0) := rfl
section
variable {k n i k' : Int} {s s' : Sty} {t t' : ByteArray} {kv kv' : Value} {r : List (Nat × List Value)}
theorem put0 (h : s.length = 52) : putN (boxP.toArray[·]?) ((0, [.int .i64 k']) :: r) (cB k n i s t kv) = putN (boxP.toArray[·]?) r (cB k' n i s t kv) := by
  simp only [putN, boxP, cB_len h]; rfl
theorem put1 (h : s.length = 52) : putN (boxP.toArray[·]?) ((1, [.int .i64 k']) :: r) (cB k n i s t kv) = putN (boxP.toArray[·]?) r (cB k k' i s t kv) := by
  simp only [putN, boxP, cB_len h]; rfl
theorem put3 (h : s.length = 52) (h' : s'.length = 52) : putN (boxP.toArray[·]?) ((3, s') :: r) (cB k n i s t kv) = putN (boxP.toArray[·]?) r (cB k n i s' t kv) := by
  have e : setAt 3 s' (cB k n i s t kv) = cB k n i s' t kv := setAt_mid s' [.int .i64 k, .int .i64 n, .int .i64 i] s [.string t, kv] (by rw [h, h'])
  have := cB_len (k := k) (n := n) (i := i) (t := t) (kv := kv) h
  simp [putN, boxP, this, h', e]
theorem put4 (h : s.length = 52) : putN (boxP.toArray[·]?) ((4, [.string t']) :: r) (cB k n i s t kv) = putN (boxP.toArray[·]?) r (cB k n i s t' kv) := by
  have := cB_len (k := k) (n := n) (i := i) (t := t) (kv := kv) h
  simp [putN, boxP, this, setAt, cB_setT h]
theorem put5 (h : s.length = 52) : putN (boxP.toArray[·]?) ((5, [kv']) :: r) (cB k n i s t kv) = putN (boxP.toArray[·]?) r (cB k n i s t kv') := by
  have := cB_len (k := k) (n := n) (i := i) (t := t) (kv := kv) h
  simp [putN, boxP, this, setAt, cB_setK h]
end
def anonS (g : Int) (s : Sty) : Sty := if g = 1 then (firstS s).set 0 (.int .i64 1) else if g = 4 then (firstS s).set 0 (.int .i64 5) else if g = 5 then (firstS s).set 0 (.int .i64 6) else firstS s
def outers (l : List BT) : Bool := l.any fun b => outerK b.kind
def anonB (s : Sty) (l : List BT) : BT := .mk 1 (-1) 0 (anonS 1 s) ByteArray.empty l
def wrapB (p : Int → Bool) (s : Sty) (l : List BT) : List BT := wrapM (anonB s) true p l
def anonC (s : Sty) (l : List BT) : BT := .mk 5 (-1) 0 (anonS 5 s) ByteArray.empty (if outers l = true then wrapB innerK (anonS 5 s) l else l)
def wrapC (s : Sty) (l : List BT) : List BT := wrapM (anonC s) false (fun k => decide (k ≠ 5)) l
def anonR (s : Sty) (l : List BT) : BT := .mk 4 (-1) 0 (anonS 4 s) ByteArray.empty (wrapC (anonS 4 s) l)
def wrapR (s : Sty) (l : List BT) : List BT := wrapM (anonR s) false (fun k => decide (k ≠ 4)) l
def fitK (k : Int) (l : List BT) : Int := if k = 6 ∧ outers l = true then 1 else k
def fitL (k : Int) (s : Sty) (l : List BT) : List BT := if k = 3 then wrapR s l else if k = 4 then wrapC s l else if (k = 1 ∨ k = 5) ∧ outers l = true then wrapB innerK s l else if k = 2 then wrapB flexK s l else l
def fitM (k n i : Int) (s : Sty) (t : ByteArray) (l : List BT) : BT := .mk (fitK k l) n i s t (fitL (fitK k l) s l)
theorem such1 : SuchOK 64 (fun k => decide (k ≠ 4)) := ⟨has64, fun _ _ _ _ _ _ _ _ => fit1_ok⟩
theorem such2 : SuchOK 65 (fun k => decide (k ≠ 5)) := ⟨has65, fun _ _ _ _ _ _ _ _ => fit2_ok⟩
theorem such3 : SuchOK 67 flexK := ⟨has67, fun _ _ _ _ _ _ _ _ => fit3_ok⟩
theorem such0 : SuchOK 66 innerK := ⟨has66, fun _ _ _ _ _ _ _ h => inner_ok h⟩
theorem pmA {x1 x2 y : Ent} {A C : List Ent} : (x1 :: x2 :: y :: (A ++ C)).Perm ((y :: A) ++ (x1 :: x2 :: C)) :=
  perm_of_count fun a => by simp only [List.count_append, List.count_cons, List.cons_append]; omega
theorem any_take {bs : List BT} {p : BT → Bool} {j : Nat} {x : BT} (h : bs[j]? = some x) : (bs.take (j + 1)).any p = ((bs.take j).any p || p x) := by
  rw [List.take_add_one, h]; simp
set_option maxRecDepth 20000 in
set_option maxHeartbeats 8000000 in
theorem fitted_ok {f : Fz} {k n i : Int} {s : Sty} {t : ByteArray} {kv : Value} {l : List BT} {rows : List (List Value)} {X : List Ent} (hS : StyOK s) (hsz : l.length ≤ 50000)
    (h3 : fitK k l = 3 → ∀ run, run.length ≤ l.length → AnonOK (anonR s) 4 s run)
    (h4 : fitK k l = 4 → ∀ run, run.length ≤ l.length → AnonOK (anonC s) 5 s run)
    (h1 : (fitK k l = 1 ∨ fitK k l = 5) ∧ outers l = true → ∀ run, (∀ b ∈ run, innerK b.kind = true) → run.length ≤ l.length → AnonOK (anonB s) 1 s run)
    (h2 : fitK k l = 2 → ∀ run, (∀ b ∈ run, flexK b.kind = true) → run.length ≤ l.length → AnonOK (anonB s) 1 s run) (hO : OwnL 31 l rows X) :
    Does Tryz.prog 35 [.agg (cB k n i s t kv).toArray] f (.row kv 31 57 rows :: X) (toBox 31 f (fitM k n i s t l)) := by
  intro w0 L w hC
  have hbl := hO.len
  rw [List.cons_append] at hC
  refine enter Tryz.func35 rfl Tryz.ntmps35 (by simp) hC fun a hs => ?_
  refine W_seq fun K1 hK1 => ?_
  refine W_region ?_
  refine sbox hs rfl fun b1 _ _ hs => ?_
  refine RL_alloc hs ti31 (.free rfl) (by decide) fun b2 _ _ hs => ?_
  refine RL_nil ?_
  refine hK1 _ _ ?_; clear hK1
  refine W_seq fun K2 hK2 => ?_
  refine W_region ?_
  refine sy hs (y_assign rfl) fun _ _ hs => ?_
  refine RL_nil ?_
  refine hK2 _ _ ?_; clear hK2
  refine W_seq fun K3 hK3 => ?_
  refine W_seq fun K4 hK4 => ?_
  refine W_region ?_
  first | (refine sy hs (y_fieldAddr rfl (FO.of (off := 56) Tryz.underlying31 rfl rfl ti29 (by decide))) ?_; clear hs; (try clear a w); intro a w hs) | (refine sy hs (y_faE rfl (FO.of (off := 56) Tryz.underlying31 rfl rfl ti29 (by decide))) ?_; clear hs; (try clear a w); intro a w hs)
  refine sy hs (y_ld (u := kv) rfl Tryz.underlying29 rfl (Cell.blk (.tail _ (.head _)) (cB_kids' hS))) fun _ _ hs => ?_
  refine sy hs (y_lenR0 (Rd.st hs (.tail _ (.tail _ (.head _)))) rfl Tryz.underlying29) fun _ _ hs => ?_
  refine sy hs (y_move rfl) fun _ _ hs => ?_
  refine RL_nil ?_
  refine hK4 _ _ ?_; clear hK4
  refine W_block fun Qe5 hB5 hO5 => ?_
  refine W_loop (fun (j : Nat) a w => j ≤ l.length ∧ St 63 w0 f (.blk b2 (.cells zB.toArray 31 (0, 0)) :: .blk b1 (.cells (cB k n i s t kv).toArray 31 (0, 0)) :: .row kv 31 57 rows :: (X ++ L)) [(1, .pointer (some ⟨b1, 0, none⟩)), (2, .pointer (some ⟨b2, 0, none⟩)), (3, .bool ((l.take j).any fun b => outerK b.kind)), (7, kv), (8, .int .i64 rows.length), (9, .int .i64 (j : Int))] a w) (fun j => l.length - j) 0 ⟨by omega, hs.sub ⟨rfl, rfl, rfl, rfl, rfl, rfl, trivial⟩⟩ ?_
  clear hs; rintro j a w ⟨hj, hs⟩ K hK
  have hRr := Rd.st hs (.tail _ (.tail _ (.head _)))
  have hr1 := rows1 hs (.tail _ (.tail _ (.head _)))
  refine W_seq fun K6 hK6 => ?_
  refine W_region ?_
  refine sy hs (y_lss rfl rfl) fun _ _ hs => ?_
  refine RL_nil ?_
  refine hK6 _ _ ?_; clear hK6
  refine W_seq fun K7 hK7 => ?_
  first | refine W_condP hs rfl (fun hlt => ?_) (fun hlt => ?_) | refine W_cond hs rfl (fun hlt => ?_) (fun hlt => ?_)
  · obtain ⟨x, hx⟩ : ∃ x, l[j]? = some x := ⟨_, List.getElem?_eq_getElem (by omega)⟩
    obtain ⟨xk, hxr, hxS⟩ := hO.get hx
    refine W_skip ?_
    refine hK7 _ _ ?_; clear hK7
    refine W_seq fun K8 hK8 => ?_
    refine W_block fun Qe9 hB9 hO9 => ?_
    refine W_seq fun K10 hK10 => ?_
    refine W_region ?_
    refine sy hs (y_indexAddr hRr rfl rfl rfl (by omega) Tryz.underlying29 ti31) fun _ _ hs => ?_
    refine sy hs (y_ldRow rfl Tryz.underlying31 rfl ti31 hRr hxr) fun _ _ hs => ?_
    refine RL_alloc hs ti31 (.free rfl) (by decide) fun b5 _ _ hs => ?_
    refine RL_storeAll (i := 0) hs rfl rfl rfl ti31 ⟨rfl, by simp [cB_len hxS.len]⟩ (one_arr (hr1 _ (List.mem_of_getElem? hxr))) (.free rfl) fun _ _ hs => ?_
    refine RL_nil ?_
    refine hK10 _ _ ?_; clear hK10
    refine W_region ?_
    refine sy hs (y_move rfl) fun _ _ hs => ?_
    refine sy hs (y_move rfl) fun _ _ hs => ?_
    first | refine St.splitP hs (t := 14) rfl (fun hg hq => ?_) (fun hg hq => ?_) | refine St.split hs (t := 14) rfl (fun hg hq => ?_) (fun hg hq => ?_)
    · clear hs; have hs := hq; clear hq
      refine sno hs fun _ _ hs => ?_
      refine sno hs fun _ _ hs => ?_
      refine sy hs (y_pick rfl rfl) fun _ _ hs => ?_
      refine sy hs (y_assign rfl) fun _ _ hs => ?_
      refine RL_nil ?_
      refine hK8 _ _ ?_; clear hK8
      refine W_region ?_
      refine sy hs (y_add rfl rfl (wr_i64 (by omega))) fun _ _ hs => ?_
      refine sy hs (y_move rfl) fun _ _ hs => ?_
      refine RL_nil ?_
      refine hK (j + 1) _ _ (by omega) ⟨by omega, ?_⟩
      rw [any_take hx, hg]
      exact hs.tail.sub ⟨rfl, rfl, rfl, rfl, rfl, rfl, trivial⟩
    · clear hs; have hs := hq; clear hq
      refine syg hs (y_ldB rfl Tryz.underlying31 rfl ti31 (.head _) (by simp [cB_len hxS.len])) fun _ _ hs => ?_
      refine syg hs (y_call rfl has25 rfl outer_ok) fun _ _ hs => ?_
      refine sy hs (y_pick rfl rfl) fun _ _ hs => ?_
      refine sy hs (y_assign rfl) fun _ _ hs => ?_
      refine RL_nil ?_
      refine hK8 _ _ ?_; clear hK8
      refine W_region ?_
      refine sy hs (y_add rfl rfl (wr_i64 (by omega))) fun _ _ hs => ?_
      refine sy hs (y_move rfl) fun _ _ hs => ?_
      refine RL_nil ?_
      refine hK (j + 1) _ _ (by omega) ⟨by omega, ?_⟩
      rw [any_take hx, hg]
      exact hs.tail.sub ⟨rfl, rfl, rfl, rfl, rfl, rfl, trivial⟩
  · have hj : j = l.length := by omega
    subst hj
    rw [List.take_length] at hs
    clear hK hRr hr1 hj hlt
    replace hs := hs.sub (E' := [(1, .pointer (some ⟨b1, 0, none⟩)), (2, .pointer (some ⟨b2, 0, none⟩)), (3, .bool (outers l))]) ⟨rfl, rfl, rfl, trivial⟩
    refine W_exit ?_
    refine hB5 _ _ ?_
    refine hK3 _ _ ?_; clear hK3
    refine W_cut (fun a w => St 63 w0 f (.blk b2 (.cells zB.toArray 31 (0, 0)) :: .blk b1 (.cells (cB (fitK k l) n i s t kv).toArray 31 (0, 0)) :: .row kv 31 57 rows :: (X ++ L)) [(1, .pointer (some ⟨b1, 0, none⟩)), (2, .pointer (some ⟨b2, 0, none⟩)), (3, .bool (outers l))] a w) ?_ (fun a w hI => ?_)
    · refine W_cut (fun a w => St 63 w0 f (.blk b2 (.cells zB.toArray 31 (0, 0)) :: .blk b1 (.cells (cB k n i s t kv).toArray 31 (0, 0)) :: .row kv 31 57 rows :: (X ++ L)) [(1, .pointer (some ⟨b1, 0, none⟩)), (2, .pointer (some ⟨b2, 0, none⟩)), (3, .bool (outers l)), (24, .bool (decide (k = 6) && outers l))] a w) ?_ (fun a w hI => ?_)
      · refine W_region ?_
        first | (refine sy hs (y_fieldAddr rfl (FO.of (off := 0) Tryz.underlying31 rfl rfl ti3 (by decide))) ?_; clear hs; (try clear a w); intro a w hs) | (refine sy hs (y_faE rfl (FO.of (off := 0) Tryz.underlying31 rfl rfl ti3 (by decide))) ?_; clear hs; (try clear a w); intro a w hs)
        refine sy hs (y_ld (u := .int .i64 k) rfl Tryz.underlying3 rfl (Cell.blk (.tail _ (.head _)) rfl)) fun _ _ hs => ?_
        refine sy hs (y_eql rfl rfl) fun _ _ hs => ?_
        refine sy hs (y_move rfl) fun _ _ hs => ?_
        first | refine St.splitP hs (t := 22) rfl (fun h6 hq => ?_) (fun h6 hq => ?_) | refine St.split hs (t := 22) rfl (fun h6 hq => ?_) (fun h6 hq => ?_)
        · clear hs; have hs := hq; clear hq
          refine syg hs (y_move rfl) fun _ _ hs => ?_
          refine sy hs (y_pick rfl rfl) fun _ _ hs => ?_
          refine RL_nil ?_
          rw [decide_eq_true h6, Bool.true_and]
          exact hs.sub ⟨rfl, rfl, rfl, rfl, trivial⟩
        · clear hs; have hs := hq; clear hq
          refine sno hs fun _ _ hs => ?_
          refine sy hs (y_pick rfl rfl) fun _ _ hs => ?_
          refine RL_nil ?_
          rw [decide_eq_false h6, Bool.false_and]
          exact hs.sub ⟨rfl, rfl, rfl, rfl, trivial⟩
      · have hs := hI; clear hI
        first | refine W_condP hs rfl (fun hc => ?_) (fun hc => ?_) | refine W_cond hs rfl (fun hc => ?_) (fun hc => ?_)
        · refine W_region ?_
          first | (refine sy hs (y_fieldAddr rfl (FO.of (off := 0) Tryz.underlying31 rfl rfl ti3 (by decide))) ?_; clear hs; (try clear a w); intro a w hs) | (refine sy hs (y_faE rfl (FO.of (off := 0) Tryz.underlying31 rfl rfl ti3 (by decide))) ?_; clear hs; (try clear a w); intro a w hs)
          refine RL_storeBlk (i := 1) (o := 0) (u := .int .i64 1) hs rfl rfl rfl ti3 rfl (by simp [cB]) (by rw [List.setIfInBounds_toArray, cB_set0]) (.free rfl) fun _ _ hs => ?_
          refine RL_nil ?_
          rw [fitK, if_pos (by simpa using hc)]
          exact hs.sub ⟨rfl, rfl, rfl, trivial⟩
        · refine W_skip ?_
          rw [fitK, if_neg (by simpa using hc)]
          exact hs.sub ⟨rfl, rfl, rfl, trivial⟩
    · have hs := hI; clear hI
      generalize hK : fitK k l = q at *
      refine W_cut (fun a w => ∃ kv' rows' X', OwnL 31 (fitL q s l) rows' X' ∧ St 63 w0 f (.blk b2 (.cells zB.toArray 31 (0, 0)) :: .blk b1 (.cells (cB q n i s t kv').toArray 31 (0, 0)) :: .row kv' 31 57 rows' :: (X' ++ L)) [(1, .pointer (some ⟨b1, 0, none⟩)), (2, .pointer (some ⟨b2, 0, none⟩))] a w) ?_ (fun a w hI => ?_)
      · refine W_block fun Qe14 hB14 hO14 => ?_
        refine W_seq fun K15 hK15 => ?_
        refine W_region ?_
        first | (refine sy hs (y_fieldAddr rfl (FO.of (off := 0) Tryz.underlying31 rfl rfl ti3 (by decide))) ?_; clear hs; (try clear a w); intro a w hs) | (refine sy hs (y_faE rfl (FO.of (off := 0) Tryz.underlying31 rfl rfl ti3 (by decide))) ?_; clear hs; (try clear a w); intro a w hs)
        refine sy hs (y_ld (u := .int .i64 q) rfl Tryz.underlying3 rfl (Cell.blk (.tail _ (.head _)) rfl)) fun _ _ hs => ?_
        refine sy hs (y_eql rfl rfl) fun _ _ hs => ?_
        refine sy hs (y_assign rfl) fun _ _ hs => ?_
        refine RL_nil ?_
        refine hK15 _ _ ?_; clear hK15
        first | refine W_condP hs rfl (fun c3 => ?_) (fun c3 => ?_) | refine W_cond hs rfl (fun c3 => ?_) (fun c3 => ?_)
        · refine W_region ?_
          refine sy hs (y_ldB rfl Tryz.underlying31 rfl ti31 (.tail _ (.head _)) (by simp [cB_len hS.len])) fun _ _ hs => ?_
          refine RL_call (stPm hs pmA) rfl has63 rfl rfl (wrapped_ok (s := s) (t := t) (k := q) (n := n) (i := i) hS hsz such1 (fun run _ h => h3 c3 run h) hO) (.free rfl) (by decide) ?_; clear hs; (try clear a w)
          rintro kv' _ _ a w _ ⟨rfl, rows', X', rfl, hE⟩ hs
          replace hs := stPm hs pmA.symm
          first | (refine sy hs (y_fieldAddr rfl (FO.of (off := 56) Tryz.underlying31 rfl rfl ti29 (by decide))) ?_; clear hs; (try clear a w); intro a w hs) | (refine sy hs (y_faE rfl (FO.of (off := 56) Tryz.underlying31 rfl rfl ti29 (by decide))) ?_; clear hs; (try clear a w); intro a w hs)
          refine RL_storeBlk (i := 1) (o := 56) (u := kv') hs rfl rfl rfl ti29 (Rd.st hs (.tail _ (.tail _ (.head _)))).one (by simp [cB_len hS.len]) (by rw [List.setIfInBounds_toArray, cB_setK hS.len]) (.free rfl) fun _ _ hs => ?_
          refine RL_nil ?_
          exact ⟨kv', rows', X', by rw [fitL, if_pos c3]; exact hE, hs.sub ⟨rfl, rfl, trivial⟩⟩
        · refine W_seq fun K16 hK16 => ?_
          refine W_region ?_
          first | (refine sy hs (y_fieldAddr rfl (FO.of (off := 0) Tryz.underlying31 rfl rfl ti3 (by decide))) ?_; clear hs; (try clear a w); intro a w hs) | (refine sy hs (y_faE rfl (FO.of (off := 0) Tryz.underlying31 rfl rfl ti3 (by decide))) ?_; clear hs; (try clear a w); intro a w hs)
          refine sy hs (y_ld (u := .int .i64 q) rfl Tryz.underlying3 rfl (Cell.blk (.tail _ (.head _)) rfl)) fun _ _ hs => ?_
          refine sy hs (y_eql rfl rfl) fun _ _ hs => ?_
          refine sy hs (y_assign rfl) fun _ _ hs => ?_
          refine RL_nil ?_
          refine hK16 _ _ ?_; clear hK16
          first | refine W_condP hs rfl (fun c4 => ?_) (fun c4 => ?_) | refine W_cond hs rfl (fun c4 => ?_) (fun c4 => ?_)
          · refine W_region ?_
            refine sy hs (y_ldB rfl Tryz.underlying31 rfl ti31 (.tail _ (.head _)) (by simp [cB_len hS.len])) fun _ _ hs => ?_
            refine RL_call (stPm hs pmA) rfl has63 rfl rfl (wrapped_ok (s := s) (t := t) (k := q) (n := n) (i := i) hS hsz such2 (fun run _ h => h4 c4 run h) hO) (.free rfl) (by decide) ?_; clear hs; (try clear a w)
            rintro kv' _ _ a w _ ⟨rfl, rows', X', rfl, hE⟩ hs
            replace hs := stPm hs pmA.symm
            first | (refine sy hs (y_fieldAddr rfl (FO.of (off := 56) Tryz.underlying31 rfl rfl ti29 (by decide))) ?_; clear hs; (try clear a w); intro a w hs) | (refine sy hs (y_faE rfl (FO.of (off := 56) Tryz.underlying31 rfl rfl ti29 (by decide))) ?_; clear hs; (try clear a w); intro a w hs)
            refine RL_storeBlk (i := 1) (o := 56) (u := kv') hs rfl rfl rfl ti29 (Rd.st hs (.tail _ (.tail _ (.head _)))).one (by simp [cB_len hS.len]) (by rw [List.setIfInBounds_toArray, cB_setK hS.len]) (.free rfl) fun _ _ hs => ?_
            refine RL_nil ?_
            exact ⟨kv', rows', X', by rw [fitL, if_neg c3, if_pos c4]; exact hE, hs.sub ⟨rfl, rfl, trivial⟩⟩
          · refine W_cut (fun a w => St 63 w0 f (.blk b2 (.cells zB.toArray 31 (0, 0)) :: .blk b1 (.cells (cB q n i s t kv).toArray 31 (0, 0)) :: .row kv 31 57 rows :: (X ++ L)) [(1, .pointer (some ⟨b1, 0, none⟩)), (2, .pointer (some ⟨b2, 0, none⟩)), (40, .bool ((decide (q = 1) || decide (q = 5)) && outers l))] a w) ?_ (fun a w hI => ?_)
            · refine W_region ?_
              first | (refine sy hs (y_fieldAddr rfl (FO.of (off := 0) Tryz.underlying31 rfl rfl ti3 (by decide))) ?_; clear hs; (try clear a w); intro a w hs) | (refine sy hs (y_faE rfl (FO.of (off := 0) Tryz.underlying31 rfl rfl ti3 (by decide))) ?_; clear hs; (try clear a w); intro a w hs)
              refine sy hs (y_ld (u := .int .i64 q) rfl Tryz.underlying3 rfl (Cell.blk (.tail _ (.head _)) rfl)) fun _ _ hs => ?_
              refine sy hs (y_eql rfl rfl) fun _ _ hs => ?_
              refine sy hs (y_move rfl) fun _ _ hs => ?_
              first | refine St.splitP hs (t := 44) rfl (fun g1 hq => ?_) (fun g1 hq => ?_) | refine St.split hs (t := 44) rfl (fun g1 hq => ?_) (fun g1 hq => ?_)
              · clear hs; have hs := hq; clear hq
                refine sno hs fun _ _ hs => ?_
                refine sno hs fun _ _ hs => ?_
                refine sno hs fun _ _ hs => ?_
                refine sy hs (y_pick rfl rfl) fun _ _ hs => ?_
                refine sy hs (y_move rfl) fun _ _ hs => ?_
                refine syg hs (y_move rfl) fun _ _ hs => ?_
                refine sy hs (y_pick rfl rfl) fun _ _ hs => ?_
                refine sy hs (y_assign rfl) fun _ _ hs => ?_
                refine RL_nil ?_
                rw [decide_eq_true g1, Bool.true_or, Bool.true_and]
                exact hs.sub ⟨rfl, rfl, rfl, trivial⟩
              · clear hs; have hs := hq; clear hq
                first | (refine syg hs (y_fieldAddr rfl (FO.of (off := 0) Tryz.underlying31 rfl rfl ti3 (by decide))) ?_; clear hs; (try clear a w); intro a w hs) | (refine syg hs (y_faE rfl (FO.of (off := 0) Tryz.underlying31 rfl rfl ti3 (by decide))) ?_; clear hs; (try clear a w); intro a w hs)
                refine syg hs (y_ld (u := .int .i64 q) rfl Tryz.underlying3 rfl (Cell.blk (.tail _ (.head _)) rfl)) fun _ _ hs => ?_
                refine syg hs (y_eql rfl rfl) fun _ _ hs => ?_
                refine sy hs (y_pick rfl rfl) fun _ _ hs => ?_
                refine sy hs (y_move rfl) fun _ _ hs => ?_
                first | refine St.splitP hs (t := 49) rfl (fun g5 hq => ?_) (fun g5 hq => ?_) | refine St.split hs (t := 49) rfl (fun g5 hq => ?_) (fun g5 hq => ?_)
                · clear hs; have hs := hq; clear hq
                  refine syg hs (y_move rfl) fun _ _ hs => ?_
                  refine sy hs (y_pick rfl rfl) fun _ _ hs => ?_
                  refine sy hs (y_assign rfl) fun _ _ hs => ?_
                  refine RL_nil ?_
                  rw [decide_eq_false g1, decide_eq_true g5, Bool.false_or, Bool.true_and]
                  exact hs.sub ⟨rfl, rfl, rfl, trivial⟩
                · clear hs; have hs := hq; clear hq
                  refine sno hs fun _ _ hs => ?_
                  refine sy hs (y_pick rfl rfl) fun _ _ hs => ?_
                  refine sy hs (y_assign rfl) fun _ _ hs => ?_
                  refine RL_nil ?_
                  rw [decide_eq_false g1, decide_eq_false g5]
                  exact hs.sub ⟨rfl, rfl, rfl, trivial⟩
            · have hs := hI; clear hI
              first | refine W_condP hs rfl (fun c1 => ?_) (fun c1 => ?_) | refine W_cond hs rfl (fun c1 => ?_) (fun c1 => ?_)
              · have c1 : (q = 1 ∨ q = 5) ∧ outers l = true := by simpa using c1
                refine W_region ?_
                refine sy hs (y_ldB rfl Tryz.underlying31 rfl ti31 (.tail _ (.head _)) (by simp [cB_len hS.len])) fun _ _ hs => ?_
                refine RL_call (stPm hs pmA) rfl has63 rfl rfl (wrapped_ok (s := s) (t := t) (k := q) (n := n) (i := i) hS hsz such0 (fun run hr h => h1 c1 run hr h) hO) (.free rfl) (by decide) ?_; clear hs; (try clear a w)
                rintro kv' _ _ a w _ ⟨rfl, rows', X', rfl, hE⟩ hs
                replace hs := stPm hs pmA.symm
                first | (refine sy hs (y_fieldAddr rfl (FO.of (off := 56) Tryz.underlying31 rfl rfl ti29 (by decide))) ?_; clear hs; (try clear a w); intro a w hs) | (refine sy hs (y_faE rfl (FO.of (off := 56) Tryz.underlying31 rfl rfl ti29 (by decide))) ?_; clear hs; (try clear a w); intro a w hs)
                refine RL_storeBlk (i := 1) (o := 56) (u := kv') hs rfl rfl rfl ti29 (Rd.st hs (.tail _ (.tail _ (.head _)))).one (by simp [cB_len hS.len]) (by rw [List.setIfInBounds_toArray, cB_setK hS.len]) (.free rfl) fun _ _ hs => ?_
                refine RL_nil ?_
                exact ⟨kv', rows', X', by rw [fitL, if_neg c3, if_neg c4, if_pos c1]; exact hE, hs.sub ⟨rfl, rfl, trivial⟩⟩
              · have c1 : ¬ ((q = 1 ∨ q = 5) ∧ outers l = true) := by simpa using c1
                refine W_seq fun K18 hK18 => ?_
                refine W_region ?_
                first | (refine sy hs (y_fieldAddr rfl (FO.of (off := 0) Tryz.underlying31 rfl rfl ti3 (by decide))) ?_; clear hs; (try clear a w); intro a w hs) | (refine sy hs (y_faE rfl (FO.of (off := 0) Tryz.underlying31 rfl rfl ti3 (by decide))) ?_; clear hs; (try clear a w); intro a w hs)
                refine sy hs (y_ld (u := .int .i64 q) rfl Tryz.underlying3 rfl (Cell.blk (.tail _ (.head _)) rfl)) fun _ _ hs => ?_
                refine sy hs (y_eql rfl rfl) fun _ _ hs => ?_
                refine sy hs (y_assign rfl) fun _ _ hs => ?_
                refine RL_nil ?_
                refine hK18 _ _ ?_; clear hK18
                first | refine W_condP hs rfl (fun c2 => ?_) (fun c2 => ?_) | refine W_cond hs rfl (fun c2 => ?_) (fun c2 => ?_)
                · refine W_region ?_
                  refine sy hs (y_ldB rfl Tryz.underlying31 rfl ti31 (.tail _ (.head _)) (by simp [cB_len hS.len])) fun _ _ hs => ?_
                  refine RL_call (stPm hs pmA) rfl has63 rfl rfl (wrapped_ok (s := s) (t := t) (k := q) (n := n) (i := i) hS hsz such3 (fun run hr h => h2 c2 run hr h) hO) (.free rfl) (by decide) ?_; clear hs; (try clear a w)
                  rintro kv' _ _ a w _ ⟨rfl, rows', X', rfl, hE⟩ hs
                  replace hs := stPm hs pmA.symm
                  first | (refine sy hs (y_fieldAddr rfl (FO.of (off := 56) Tryz.underlying31 rfl rfl ti29 (by decide))) ?_; clear hs; (try clear a w); intro a w hs) | (refine sy hs (y_faE rfl (FO.of (off := 56) Tryz.underlying31 rfl rfl ti29 (by decide))) ?_; clear hs; (try clear a w); intro a w hs)
                  refine RL_storeBlk (i := 1) (o := 56) (u := kv') hs rfl rfl rfl ti29 (Rd.st hs (.tail _ (.tail _ (.head _)))).one (by simp [cB_len hS.len]) (by rw [List.setIfInBounds_toArray, cB_setK hS.len]) (.free rfl) fun _ _ hs => ?_
                  refine RL_nil ?_
                  exact ⟨kv', rows', X', by rw [fitL, if_neg c3, if_neg c4, if_neg c1, if_pos c2]; exact hE, hs.sub ⟨rfl, rfl, trivial⟩⟩
                · refine W_skip ?_
                  exact ⟨kv, rows, X, by rw [fitL, if_neg c3, if_neg c4, if_neg c1, if_neg c2]; exact hO, hs.sub ⟨rfl, rfl, trivial⟩⟩
      · obtain ⟨kv', rows', X', hE, hs⟩ := hI
        have hk1 := (Rd.st hs (.tail _ (.tail _ (.head _)))).one
        refine W_seq fun K19 hK19 => ?_
        refine W_region ?_
        refine sy hs (y_ldB rfl Tryz.underlying31 rfl ti31 (.tail _ (.head _)) (by simp [cB_len hS.len])) fun _ _ hs => ?_
        refine RL_storeAll (i := 0) hs rfl rfl rfl ti31 ⟨rfl, by simp [cB_len hS.len]⟩ (one_arr (cB_one hS hk1)) (.free rfl) fun _ _ hs => ?_
        refine RL_nil ?_
        refine hK19 _ _ ?_; clear hK19
        refine W_ret ?_
        refine RtV1 hs rfl (rv_a hs rfl Tryz.underlying31 rfl ti31 (fun j u hj => Cell.blk (.head _) hj) (by simp [cB_len hS.len])) ?_
        exact ⟨_, _, _, rfl, .refl _, (hs.cw.tail.tail : Cw w0 f ((.row kv' 31 57 rows' :: X') ++ L) _), rfl, _, rfl, cB_one hS hk1, by rw [fitM, hK]; exact ⟨hS, kv', rows', X', rfl, rfl, hE⟩⟩
end Go.Proofs.YteicdfkmpnmkmaaGreat
