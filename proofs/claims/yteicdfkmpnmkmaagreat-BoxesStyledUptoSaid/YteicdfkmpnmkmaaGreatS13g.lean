/-
  Walks and laws of this seat.
-/
import Derived.Test.YteicdfkmpnmkmaaGreatS13f
import Derived.Test.YteicdfkmpnmkmaaGreatRows
namespace Go.Proofs.YteicdfkmpnmkmaaGreat
set_option linter.unusedVariables false
set_option linter.unusedSimpArgs false
open Go.RowKit Go.Sl
theorem perm_of_count {l l' : List Ent} (h : ∀ [BEq Ent] [LawfulBEq Ent] (a : Ent), l.count a = l'.count a) : l.Perm l' := by
  classical
  exact List.perm_iff_count.2 fun a => h a
def zB : List Value := [.int .i64 0, .int .i64 0, .int .i64 0, .int .i64 0, .int .i64 0, .int .i64 0, .int .i64 0, .int .i64 0, .int .i64 0, .int .i64 0, .int .i64 0, .int .i64 0, .int .i64 0, .int .i64 0, .int .i64 0, .int .i64 0, .int .i64 0, .int .i64 0, .int .i64 0, .int .i64 0, .int .i64 0, .int .i64 0, .int .i64 0, .int .i64 0, .int .i64 0, .int .i64 0, .int .i64 0, .int .i64 0, .int .i64 0, .int .i64 0, .int .i64 0, .int .i64 0, .int .i64 0, .int .i64 0, .int .i64 0, .int .i64 0, .int .i64 0, .int .i64 0, .int .i64 0, .int .u32 0, .int .u32 0, .int .i64 0, .int .i64 0, .int .i64 0, .bool false, .bool false, .bool false, .bool false, .int .i64 0, .int .i64 0, .int .i64 0, .int .i64 0, .int .i64 0, .int .i64 0, .bool false, .string ByteArray.empty, .slice none 0 0]
theorem zB_one : OneRow 57 zB := ⟨rfl, by simp [zB, Value.oneCell']⟩
theorem stPm {n : Nat} {w0 w : World} {f : Fz} {L L' : List Ent} {E : List (Nat × Value)} {a : Act} (hs : St n w0 f L E a w) (hp : L.Perm L') : St n w0 f L' E a w := ⟨hs.ev, hs.cw.perm hp⟩
theorem pm1 {x1 x2 x3 x4 x5 x6 y : Ent} {A B C : List Ent} : (x1 :: x2 :: x3 :: x4 :: x5 :: x6 :: y :: (A ++ (B ++ C))).Perm ((y :: B) ++ (x1 :: x2 :: x3 :: x4 :: x5 :: x6 :: (A ++ C))) :=
  perm_of_count fun a => by simp only [List.count_append, List.count_cons, List.cons_append]; omega
theorem pm2 {x1 x2 x3 x4 x5 x6 : Ent} {A B C : List Ent} : (B ++ (x1 :: x2 :: x3 :: x4 :: x5 :: x6 :: (A ++ C))).Perm (x1 :: x2 :: x3 :: x4 :: x5 :: x6 :: (A ++ (B ++ C))) :=
  perm_of_count fun a => by simp only [List.count_append, List.count_cons]; omega
theorem pm3 {x1 x2 x3 x4 x5 x6 y z : Ent} {A B C : List Ent} : (z :: x1 :: x2 :: x3 :: x4 :: x5 :: x6 :: y :: (A ++ (B ++ C))).Perm ((y :: B) ++ (z :: x1 :: x2 :: x3 :: x4 :: x5 :: x6 :: (A ++ C))) :=
  perm_of_count fun a => by simp only [List.count_append, List.count_cons, List.cons_append]; omega
theorem pm4 {x1 x2 x3 x4 x5 x6 z : Ent} {A B C : List Ent} : (B ++ (z :: x1 :: x2 :: x3 :: x4 :: x5 :: x6 :: (A ++ C))).Perm (z :: x1 :: x2 :: x3 :: x4 :: x5 :: x6 :: (A ++ (B ++ C))) :=
  perm_of_count fun a => by simp only [List.count_append, List.count_cons]; omega
def blankBT (plain : Bool) (b : BT) : Bool := blankB b.kind b.sty b.text plain
def endM (an : List BT → BT) (plain : Bool) (out run : List BT) : List BT := if run.all (blankBT plain) then out else out ++ [an run]
def goM (an : List BT → BT) (plain : Bool) (p : Int → Bool) : List BT → List BT → List BT → List BT
  | [], out, run => endM an plain out run
  | x :: xs, out, run => if p x.kind then goM an plain p xs out (run ++ [x]) else goM an plain p xs (endM an plain out run ++ [x]) []
def wrapM (an : List BT → BT) (plain : Bool) (p : Int → Bool) (bs : List BT) : List BT := goM an plain p bs [] []
def toRow (e : TypeId) (f : Fz) (bs : List BT) : Value → Fz → List Ent → Prop := fun u f' L' => f' = f ∧ ∃ rows X, L' = .row u e 57 rows :: X ∧ OwnL e bs rows X
def toBox (e : TypeId) (f : Fz) (b : BT) : Value → Fz → List Ent → Prop := fun u f' L' => f' = f ∧ ∃ r, u = .agg r.toArray ∧ OneRow 57 r ∧ BoxO e b r L'
theorem OwnL.get {e : TypeId} {bs : List BT} {rows : List (List Value)} {X : List Ent} {j : Nat} {b : BT} (h : OwnL e bs rows X) (hb : bs[j]? = some b) : ∃ kv, rows[j]? = some (cB b.kind b.node b.idx b.sty b.text kv) ∧ StyOK b.sty := by
  obtain ⟨r, X1, X2, X3, h1, _, _, h2, _⟩ := h.at hb
  cases b
  obtain ⟨hS, kv, _, _, rfl, _⟩ := h2
  exact ⟨kv, h1, hS⟩
theorem all_take {bs : List BT} {p : BT → Bool} {j : Nat} {x : BT} (h : bs[j]? = some x) : (bs.take (j + 1)).all p = ((bs.take j).all p && p x) := by
  rw [List.take_add_one, h]; simp
theorem rows1 {n : Nat} {w0 w : World} {f : Fz} {L : List Ent} {E : List (Nat × Value)} {a : Act} {v : Value} {e k} {rows : List (List Value)} (hs : St n w0 f L E a w) (hm : .row v e k rows ∈ L) : ∀ r ∈ rows, OneRow k r := (hs.cw.live _ hm).2
theorem one_arr {k : Nat} {r : List Value} (h : OneRow k r) : r.toArray.all (·.oneCell') = true := by
  have := h.2
  simpa [Array.all_eq_true, List.all_eq_true] using this
theorem set_last {rows : List (List Value)} {z r : List Value} : (rows ++ [z]).set rows.length r = rows ++ [r] := by
  rw [List.set_append_right _ _ (Nat.le_refl _)]; simp
theorem get_last {rows : List (List Value)} {z : List Value} : (rows ++ [z])[rows.length]? = some z := by simp
def AnonOK (an : List BT → BT) (g : Int) (s : Sty) (bs : List BT) : Prop :=
  ∀ (f : Fz) (v : Value) (rows : List (List Value)) (X : List Ent), OwnL 31 bs rows X → Does Tryz.prog 103 [.int .i64 g, .agg s.toArray, v] f (.row v 31 57 rows :: X) (toBox 31 f (an bs))
theorem cB_sty28 {k n i : Int} {s : Sty} {t : ByteArray} {kv : Value} (hS : StyOK s) : ∀ (j : Nat) (u : Value), s[j]? = some u → (cB k n i s t kv).toArray[0 + 3 + j]? = some u := fun j u h => by
  have hj : j < 52 := by rw [← hS.len]; exact (List.getElem?_eq_some_iff.1 h).1
  rw [List.getElem?_toArray, Nat.zero_add]
  exact (cB_sty hS.len hj).trans h
set_option maxRecDepth 20000 in
set_option maxHeartbeats 8000000 in
theorem wrapped1_ok {f : Fz} {k n i : Int} {s : Sty} {t : ByteArray} {kv : Value} {g : Int} {plain : Bool} {an : List BT → BT} {out run : List BT} {outv runv : Value} {orows rrows : List (List Value)} {XO XR : List Ent} {b4 b5 b6 b9 b10 : Nat} (hS : StyOK s) (hO : OwnL 31 out orows XO) (hR : OwnL 31 run rrows XR) (hsz : out.length + run.length ≤ 100000) (han : AnonOK an g s run) :
    Does Tryz.prog 101 [.pointer (some ⟨b10, 0, none⟩), .pointer (some ⟨b6, 0, none⟩), .pointer (some ⟨b9, 0, none⟩), .pointer (some ⟨b5, 0, none⟩), .pointer (some ⟨b4, 0, none⟩)] f
      (.blk b4 (.cells (cB k n i s t kv).toArray 31 (0, 0)) :: .blk b5 (.cells #[.int .i64 g] 3 (0, 0)) :: .blk b6 (.cells #[.bool plain] 4 (0, 0)) :: .blk b9 (.cells #[outv] 29 (0, 0)) :: .blk b10 (.cells #[runv] 29 (0, 0)) :: .row outv 31 57 orows :: .row runv 31 57 rrows :: (XO ++ XR))
      (fun _ f' L' => f' = f ∧ ∃ outv' orows' X', OwnL 31 (endM an plain out run) orows' X' ∧ L' = .blk b4 (.cells (cB k n i s t kv).toArray 31 (0, 0)) :: .blk b5 (.cells #[.int .i64 g] 3 (0, 0)) :: .blk b6 (.cells #[.bool plain] 4 (0, 0)) :: .blk b9 (.cells #[outv'] 29 (0, 0)) :: .blk b10 (.cells #[.slice none 0 0] 29 (0, 0)) :: .row outv' 31 57 orows' :: X') := by
  intro w0 L w hC
  have hol := hO.len
  have hrl := hR.len
  rw [List.cons_append, List.cons_append, List.cons_append, List.cons_append, List.cons_append, List.cons_append, List.cons_append, List.append_assoc] at hC
  refine enter Tryz.func101 rfl Tryz.ntmps101 (by simp) hC fun a hs => ?_
  refine W_seq fun K1 hK1 => ?_
  refine W_region ?_
  refine sy hs (y_assign rfl) fun _ _ hs => ?_
  refine RL_nil ?_
  refine hK1 _ _ ?_; clear hK1
  refine W_seq fun K2 hK2 => ?_
  refine W_seq fun K3 hK3 => ?_
  refine W_region ?_
  refine sy hs (y_ld (u := runv) rfl Tryz.underlying29 rfl) fun _ _ hs => ?_
  refine sy hs (y_lenR0 (Rd.st hs (.tail _ (.tail _ (.tail _ (.tail _ (.tail _ (.tail _ (.head _))))))))  rfl Tryz.underlying29) fun _ _ hs => ?_
  refine sy hs (y_move rfl) fun _ _ hs => ?_
  refine RL_nil ?_
  refine hK3 _ _ ?_; clear hK3
  refine W_block fun Qe4 hB4 hO4 => ?_
  refine W_loop (fun (j : Nat) a w => j ≤ run.length ∧ St 33 w0 f (.blk b4 (.cells (cB k n i s t kv).toArray 31 (0, 0)) :: .blk b5 (.cells #[.int .i64 g] 3 (0, 0)) :: .blk b6 (.cells #[.bool plain] 4 (0, 0)) :: .blk b9 (.cells #[outv] 29 (0, 0)) :: .blk b10 (.cells #[runv] 29 (0, 0)) :: .row outv 31 57 orows :: .row runv 31 57 rrows :: (XO ++ (XR ++ L))) [(0, .pointer (some ⟨b10, 0, none⟩)), (1, .pointer (some ⟨b6, 0, none⟩)), (2, .pointer (some ⟨b9, 0, none⟩)), (3, .pointer (some ⟨b5, 0, none⟩)), (4, .pointer (some ⟨b4, 0, none⟩)), (5, .bool ((run.take j).all (blankBT plain))), (8, runv), (9, .int .i64 rrows.length), (10, .int .i64 (j : Int))] a w) (fun j => run.length - j) 0 ⟨by omega, hs.sub ⟨rfl, rfl, rfl, rfl, rfl, rfl, rfl, rfl, rfl, trivial⟩⟩ ?_
  clear hs; rintro j a w ⟨hj, hs⟩ K hK
  have hRr := Rd.st hs (.tail _ (.tail _ (.tail _ (.tail _ (.tail _ (.tail _ (.head _)))))))
  have h1 := rows1 hs (.tail _ (.tail _ (.tail _ (.tail _ (.tail _ (.tail _ (.head _)))))))
  refine W_seq fun K5 hK5 => ?_
  refine W_region ?_
  refine sy hs (y_lss rfl rfl) fun _ _ hs => ?_
  refine RL_nil ?_
  refine hK5 _ _ ?_; clear hK5
  refine W_seq fun K6 hK6 => ?_
  first | refine W_condP hs rfl (fun hlt => ?_) (fun hlt => ?_) | refine W_cond hs rfl (fun hlt => ?_) (fun hlt => ?_)
  · obtain ⟨x, hx⟩ : ∃ x, run[j]? = some x := ⟨_, List.getElem?_eq_getElem (by omega)⟩
    obtain ⟨xk, hxr, hxS⟩ := hR.get hx
    refine W_skip ?_
    refine hK6 _ _ ?_; clear hK6
    refine W_seq fun K7 hK7 => ?_
    refine W_block fun Qe8 hB8 hO8 => ?_
    refine W_seq fun K9 hK9 => ?_
    refine W_region ?_
    refine sy hs (y_indexAddr hRr rfl rfl rfl (by omega) Tryz.underlying29 ti31) fun _ _ hs => ?_
    refine sy hs (y_ldRow rfl Tryz.underlying31 rfl ti31 hRr hxr) fun _ _ hs => ?_
    refine RL_alloc hs ti31 (.free rfl) (by decide) fun b7 _ _ hs => ?_
    refine RL_storeAll (i := 0) hs rfl rfl rfl ti31 ⟨rfl, by simp [cB_len hxS.len]⟩ (one_arr (h1 _ (List.mem_of_getElem? hxr))) (.free rfl) fun _ _ hs => ?_
    refine RL_nil ?_
    refine hK9 _ _ ?_; clear hK9
    refine W_region ?_
    refine sy hs (y_move rfl) fun _ _ hs => ?_
    refine sy hs (y_move rfl) fun _ _ hs => ?_
    first | refine St.splitP hs (t := 15) rfl (fun hg hq => ?_) (fun hg hq => ?_) | refine St.split hs (t := 15) rfl (fun hg hq => ?_) (fun hg hq => ?_)
    · clear hs; have hs := hq; clear hq
      refine syg hs (y_ldB rfl Tryz.underlying31 rfl ti31 (.head _) (by simp [cB_len hxS.len])) fun _ _ hs => ?_
      first | (refine syg hs (y_ld rfl Tryz.underlying4 rfl) ?_; clear hs; (try clear a w); intro a w hs) | (refine syg hs (y_ldE rfl Tryz.underlying4 rfl) ?_; clear hs; (try clear a w); intro a w hs)
      refine syg hs (y_call rfl has102 rfl (blank_ok hxS)) fun _ _ hs => ?_
      refine sy hs (y_pick rfl rfl) fun _ _ hs => ?_
      refine sy hs (y_assign rfl) fun _ _ hs => ?_
      refine RL_nil ?_
      refine hK7 _ _ ?_; clear hK7
      refine W_region ?_
      refine sy hs (y_add rfl rfl (wr_i64 (by omega))) fun _ _ hs => ?_
      refine sy hs (y_move rfl) fun _ _ hs => ?_
      refine RL_nil ?_
      refine hK (j + 1) _ _ (by omega) ⟨by omega, ?_⟩
      rw [all_take hx, hg]
      exact hs.tail.sub ⟨rfl, rfl, rfl, rfl, rfl, rfl, rfl, rfl, rfl, trivial⟩
    · clear hs; have hs := hq; clear hq
      refine sno hs fun _ _ hs => ?_
      refine sno hs fun _ _ hs => ?_
      refine sno hs fun _ _ hs => ?_
      refine sy hs (y_pick rfl rfl) fun _ _ hs => ?_
      refine sy hs (y_assign rfl) fun _ _ hs => ?_
      refine RL_nil ?_
      refine hK7 _ _ ?_; clear hK7
      refine W_region ?_
      refine sy hs (y_add rfl rfl (wr_i64 (by omega))) fun _ _ hs => ?_
      refine sy hs (y_move rfl) fun _ _ hs => ?_
      refine RL_nil ?_
      refine hK (j + 1) _ _ (by omega) ⟨by omega, ?_⟩
      rw [all_take hx, hg]
      exact hs.tail.sub ⟨rfl, rfl, rfl, rfl, rfl, rfl, rfl, rfl, rfl, trivial⟩
  · have hj : j = run.length := by omega
    subst hj
    rw [List.take_length] at hs
    clear hK hRr h1 hj hlt
    refine W_exit ?_
    refine hB4 _ _ ?_
    refine hK2 _ _ ?_; clear hK2
    refine W_cut (fun a w => ∃ outv' runv' orows' XO', OwnL 31 (endM an plain out run) orows' XO' ∧ St 33 w0 f (.blk b4 (.cells (cB k n i s t kv).toArray 31 (0, 0)) :: .blk b5 (.cells #[.int .i64 g] 3 (0, 0)) :: .blk b6 (.cells #[.bool plain] 4 (0, 0)) :: .blk b9 (.cells #[outv'] 29 (0, 0)) :: .blk b10 (.cells #[runv'] 29 (0, 0)) :: .row outv' 31 57 orows' :: (XO' ++ L)) [(0, .pointer (some ⟨b10, 0, none⟩))] a w) ?_ (fun a w hI => ?_)
    · refine W_seq fun K11 hK11 => ?_
      refine W_region ?_
      refine sy hs (y_move rfl) fun _ _ hs => ?_
      refine sy hs (y_not rfl) fun _ _ hs => ?_
      refine RL_nil ?_
      refine hK11 _ _ ?_; clear hK11
      first | refine W_condP hs rfl (fun hall => ?_) (fun hall => ?_) | refine W_cond hs rfl (fun hall => ?_) (fun hall => ?_)
      · have hne : run.all (blankBT plain) = false := by simpa using hall
        have hO' : ∀ r X', BoxO 31 (an run) r X' → OwnL 31 (endM an plain out run) (orows ++ [r]) (XO ++ X') := fun r X' h => by
          rw [endM, hne]
          exact hO.append (.one h)
        have hs0 := hs
        refine T_start hs (.blk b4 (.cells (cB k n i s t kv).toArray 31 (0, 0)) :: .blk b5 (.cells #[.int .i64 g] 3 (0, 0)) :: .blk b6 (.cells #[.bool plain] 4 (0, 0)) :: .blk b9 (.cells #[outv] 29 (0, 0)) :: .blk b10 (.cells #[runv] 29 (0, 0)) :: []) [9, 10, 11] (.look 0 (.look 1 (.look 2 (.look 3 (.look 4 (.look 6 (.any [5, 7] (fun i => bif Nat.beq i 5 then .any [7] (fun _ => .any [8] (fun _ => .any [9, 11] (fun i => bif Nat.beq i 9 then .any [10, 11] (fun i => bif Nat.beq i 10 then .any [11] (fun _ => .done) else .any [10] (fun _ => .done)) else .any [9] (fun _ => .any [10] (fun _ => .done))))) else .any [5] (fun _ => .any [8] (fun _ => .any [9, 11] (fun i => bif Nat.beq i 9 then .any [10, 11] (fun i => bif Nat.beq i 10 then .any [11] (fun _ => .done) else .any [10] (fun _ => .done)) else .any [9] (fun _ => .any [10] (fun _ => .done))))))))))))) mixed (by kernel_rfl) fun _ he => ?_
        refine uy 0 he rfl (y_ld (u := outv) rfl Tryz.underlying29 rfl) fun _ he => ?_
        refine uy 1 he rfl (y_ld (u := .int .i64 g) rfl Tryz.underlying3 rfl) fun _ he => ?_
        first | (refine uy 2 he rfl (y_fieldAddr rfl (FO.of (off := 3) Tryz.underlying31 rfl rfl ti28 (by decide))) ?_; clear he; (try clear a); intro a he) | (refine uy 2 he rfl (y_faE rfl (FO.of (off := 3) Tryz.underlying31 rfl rfl ti28 (by decide))) ?_; clear he; (try clear a); intro a he)
        refine uy 3 he rfl (y_loadAgg (cs := s) rfl (fun j u h => Cell.blk (.head _) (cB_sty28 hS j u h)) Tryz.underlying28 rfl ti28 hS.len) fun _ he => ?_
        refine uy 4 he rfl (y_ld (u := runv) rfl Tryz.underlying29 rfl) fun _ he => ?_
        refine uy 6 he rfl (y_lenR0 (Rd.st hs0 (.tail _ (.tail _ (.tail _ (.tail _ (.tail _ (.head _))))))) rfl Tryz.underlying29) fun _ he => ?_
        refine T_any2 he rfl rfl ?_ ?_ <;> (clear he; (try clear a); intro a w hs)
        · refine RL_call (stPm hs pm1) rfl has103 rfl rfl (han f runv rrows XR hR) (.free rfl) (by decide) ?_; clear hs; (try clear a w)
          rintro _ _ X' a w _ ⟨rfl, r, rfl, hr1, hB⟩ hs
          replace hs := stPm hs pm2
          refine uon hs fun _ he => ?_
          refine T_any1 he rfl ?_; clear he; (try clear a); intro a w hs
          refine RL_bs1a (r := zB) hs rfl Tryz.underlying29 ti31 (by decide) zB_one fun tv _ _ hs => ?_
          refine uon hs fun _ he => ?_
          refine T_any1 he rfl ?_; clear he; (try clear a); intro a w hs
          refine RL_app1 5 hs rfl rfl rfl Tryz.underlying29 ti31 (by decide) (by simp only [hol]; omega) fun v31 _ _ hs => ?_; simp only [List.set] at hs
          refine uon hs fun _ he => ?_
          refine T_any2 he rfl rfl ?_ ?_ <;> (clear he; (try clear a); intro a w hs)
          · refine sy hs (y_indexAddr (m := orows.length) (Rd.st hs (.tail _ (.tail _ (.tail _ (.tail _ (.tail _ (.head _))))))) rfl rfl rfl (by simp) Tryz.underlying29 ti31) ?_; clear hs; (try clear a w); intro a w hs
            refine uend hs fun _ he => ?_
            refine T_any2 he rfl rfl ?_ ?_ <;> (clear he; (try clear a); intro a w hs)
            · refine RL_storeElem (i := 5) (m := orows.length) hs rfl rfl rfl get_last ti31 hr1 (.free rfl) ?_; clear hs; (try clear a w); intro a w hs; simp only [List.set, set_last] at hs
              refine uend hs fun _ he => ?_
              refine T_any1 he rfl ?_; clear he; (try clear a); intro a w hs
              refine sstore 3 hs rfl rfl rfl ti29 (Rd.st hs (.tail _ (.tail _ (.tail _ (.tail _ (.tail _ (.head _))))))).one fun _ _ hs => ?_; simp only [List.set] at hs
              refine uend hs fun _ he => ?_
              refine T_nil he ?_; clear he; (try clear a); intro w hs
              exact ⟨_, _, _, _, hO' r X' hB, by rw [List.append_assoc]; exact hs.sub ⟨rfl, trivial⟩⟩
            · refine sstore 3 hs rfl rfl rfl ti29 (Rd.st hs (.tail _ (.tail _ (.tail _ (.tail _ (.tail _ (.head _))))))).one ?_; clear hs; (try clear a w); intro a w hs; simp only [List.set] at hs
              refine uend hs fun _ he => ?_
              refine T_any1 he rfl ?_; clear he; (try clear a); intro a w hs
              refine RL_storeElem (i := 5) (m := orows.length) hs rfl rfl rfl get_last ti31 hr1 (.free rfl) fun _ _ hs => ?_; simp only [List.set, set_last] at hs
              refine uend hs fun _ he => ?_
              refine T_nil he ?_; clear he; (try clear a); intro w hs
              exact ⟨_, _, _, _, hO' r X' hB, by rw [List.append_assoc]; exact hs.sub ⟨rfl, trivial⟩⟩
          · refine sstore 3 hs rfl rfl rfl ti29 (Rd.st hs (.tail _ (.tail _ (.tail _ (.tail _ (.tail _ (.head _))))))).one ?_; clear hs; (try clear a w); intro a w hs; simp only [List.set] at hs
            refine uend hs fun _ he => ?_
            refine T_any1 he rfl ?_; clear he; (try clear a); intro a w hs
            refine sy hs (y_indexAddr (m := orows.length) (Rd.st hs (.tail _ (.tail _ (.tail _ (.tail _ (.tail _ (.head _))))))) rfl rfl rfl (by simp) Tryz.underlying29 ti31) fun _ _ hs => ?_
            refine uend hs fun _ he => ?_
            refine T_any1 he rfl ?_; clear he; (try clear a); intro a w hs
            refine RL_storeElem (i := 5) (m := orows.length) hs rfl rfl rfl get_last ti31 hr1 (.free rfl) fun _ _ hs => ?_; simp only [List.set, set_last] at hs
            refine uend hs fun _ he => ?_
            refine T_nil he ?_; clear he; (try clear a); intro w hs
            exact ⟨_, _, _, _, hO' r X' hB, by rw [List.append_assoc]; exact hs.sub ⟨rfl, trivial⟩⟩
        · refine RL_bs1a (r := zB) hs rfl Tryz.underlying29 ti31 (by decide) zB_one ?_; clear hs; (try clear a w); intro tv a w hs
          refine uon hs fun _ he => ?_
          refine T_any1 he rfl ?_; clear he; (try clear a); intro a w hs
          refine RL_call (stPm hs pm3) rfl has103 rfl rfl (han f runv rrows XR hR) (.free rfl) (by decide) ?_; clear hs; (try clear a w)
          rintro _ _ X' a w _ ⟨rfl, r, rfl, hr1, hB⟩ hs
          replace hs := stPm hs pm4
          refine uon hs fun _ he => ?_
          refine T_any1 he rfl ?_; clear he; (try clear a); intro a w hs
          refine RL_app1 5 hs rfl rfl rfl Tryz.underlying29 ti31 (by decide) (by simp only [hol]; omega) fun v31 _ _ hs => ?_; simp only [List.set] at hs
          refine uon hs fun _ he => ?_
          refine T_any2 he rfl rfl ?_ ?_ <;> (clear he; (try clear a); intro a w hs)
          · refine sy hs (y_indexAddr (m := orows.length) (Rd.st hs (.tail _ (.tail _ (.tail _ (.tail _ (.tail _ (.head _))))))) rfl rfl rfl (by simp) Tryz.underlying29 ti31) ?_; clear hs; (try clear a w); intro a w hs
            refine uend hs fun _ he => ?_
            refine T_any2 he rfl rfl ?_ ?_ <;> (clear he; (try clear a); intro a w hs)
            · refine RL_storeElem (i := 5) (m := orows.length) hs rfl rfl rfl get_last ti31 hr1 (.free rfl) ?_; clear hs; (try clear a w); intro a w hs; simp only [List.set, set_last] at hs
              refine uend hs fun _ he => ?_
              refine T_any1 he rfl ?_; clear he; (try clear a); intro a w hs
              refine sstore 3 hs rfl rfl rfl ti29 (Rd.st hs (.tail _ (.tail _ (.tail _ (.tail _ (.tail _ (.head _))))))).one fun _ _ hs => ?_; simp only [List.set] at hs
              refine uend hs fun _ he => ?_
              refine T_nil he ?_; clear he; (try clear a); intro w hs
              exact ⟨_, _, _, _, hO' r X' hB, by rw [List.append_assoc]; exact hs.sub ⟨rfl, trivial⟩⟩
            · refine sstore 3 hs rfl rfl rfl ti29 (Rd.st hs (.tail _ (.tail _ (.tail _ (.tail _ (.tail _ (.head _))))))).one ?_; clear hs; (try clear a w); intro a w hs; simp only [List.set] at hs
              refine uend hs fun _ he => ?_
              refine T_any1 he rfl ?_; clear he; (try clear a); intro a w hs
              refine RL_storeElem (i := 5) (m := orows.length) hs rfl rfl rfl get_last ti31 hr1 (.free rfl) fun _ _ hs => ?_; simp only [List.set, set_last] at hs
              refine uend hs fun _ he => ?_
              refine T_nil he ?_; clear he; (try clear a); intro w hs
              exact ⟨_, _, _, _, hO' r X' hB, by rw [List.append_assoc]; exact hs.sub ⟨rfl, trivial⟩⟩
          · refine sstore 3 hs rfl rfl rfl ti29 (Rd.st hs (.tail _ (.tail _ (.tail _ (.tail _ (.tail _ (.head _))))))).one ?_; clear hs; (try clear a w); intro a w hs; simp only [List.set] at hs
            refine uend hs fun _ he => ?_
            refine T_any1 he rfl ?_; clear he; (try clear a); intro a w hs
            refine sy hs (y_indexAddr (m := orows.length) (Rd.st hs (.tail _ (.tail _ (.tail _ (.tail _ (.tail _ (.head _))))))) rfl rfl rfl (by simp) Tryz.underlying29 ti31) fun _ _ hs => ?_
            refine uend hs fun _ he => ?_
            refine T_any1 he rfl ?_; clear he; (try clear a); intro a w hs
            refine RL_storeElem (i := 5) (m := orows.length) hs rfl rfl rfl get_last ti31 hr1 (.free rfl) fun _ _ hs => ?_; simp only [List.set, set_last] at hs
            refine uend hs fun _ he => ?_
            refine T_nil he ?_; clear he; (try clear a); intro w hs
            exact ⟨_, _, _, _, hO' r X' hB, by rw [List.append_assoc]; exact hs.sub ⟨rfl, trivial⟩⟩
      · refine W_skip ?_
        have hall : run.all (blankBT plain) = true := by simpa using hall
        refine ⟨outv, runv, orows, XO, by rw [endM, hall]; exact hO, (hs.sub (E' := [(0, .pointer (some ⟨b10, 0, none⟩))]) ⟨rfl, trivial⟩).subL ?_⟩
        exact .cons_cons _ (.cons_cons _ (.cons_cons _ (.cons_cons _ (.cons_cons _ (.cons_cons _ (.cons _ ((List.Sublist.refl XO).append (List.sublist_append_right XR L))))))))
    · obtain ⟨outv', runv', orows', XO', hE, hs⟩ := hI
      refine W_region ?_
      refine sstore 4 hs rfl rfl rfl ti29 (by first | rfl | assumption) fun _ _ hs => ?_; (try simp only [List.set] at hs); (try simp only [Array.setIfInBounds] at hs)
      refine RL_nil ?_
      refine Rt_0 hs rfl ?_
      exact ⟨_, _, _, rfl, .refl f, by simpa using hs.cw, rfl, outv', orows', XO', hE, rfl⟩
end Go.Proofs.YteicdfkmpnmkmaaGreat
