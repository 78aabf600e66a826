/-
  Walks and laws of this seat.
-/
import Derived.Test.YteicdfkmpnmkmaaGreatS13g
import Derived.Test.YteicdfkmpnmkmaaGreatRows
namespace Go.Proofs.YteicdfkmpnmkmaaGreat
set_option linter.unusedVariables false
set_option linter.unusedSimpArgs false
open Go.RowKit Go.Sl
theorem pm6 {z x1 x2 x3 x4 x5 r1 r2 : Ent} {A B C : List Ent} : (z :: x1 :: x2 :: x3 :: x4 :: x5 :: r1 :: r2 :: (A ++ (B ++ C))).Perm ((x1 :: x2 :: x3 :: x4 :: x5 :: r1 :: r2 :: (A ++ B)) ++ (z :: C)) :=
  perm_of_count fun a => by simp only [List.count_append, List.count_cons, List.cons_append]; omega
theorem pm7 {z x1 x2 x3 x4 x5 r1 y : Ent} {X C : List Ent} : (y :: ((x1 :: x2 :: x3 :: x4 :: x5 :: r1 :: X) ++ (z :: C))).Perm (z :: x1 :: x2 :: x3 :: x4 :: x5 :: r1 :: y :: (X ++ C)) :=
  perm_of_count fun a => by simp only [List.count_append, List.count_cons, List.cons_append]; omega
theorem pm8 {n1 n2 x1 x2 x3 x4 x5 y : Ent} {X C : List Ent} : (n1 :: n2 :: x1 :: x2 :: x3 :: x4 :: x5 :: y :: (X ++ C)).Perm (x5 :: x4 :: x3 :: x2 :: x1 :: n1 :: n2 :: (X ++ (y :: C))) :=
  perm_of_count fun a => by simp only [List.count_append, List.count_cons]; omega
/-- Where wrapped stands. -/
structure WrI (e : TypeId) (an : List BT → BT) (plain : Bool) (p : Int → Bool) (bs : List BT) (rows : List (List Value)) (j : Nat) (out run : List BT) (orows rrows : List (List Value)) (XO XR XK : List Ent) : Prop where
  hj : j ≤ bs.length
  go : goM an plain p (bs.drop j) out run = wrapM an plain p bs
  sz : out.length + run.length ≤ j
  all : ∀ b ∈ run, p b.kind = true
  sub : ∀ b ∈ run, b ∈ bs
  o : OwnL e out orows XO
  r : OwnL e run rrows XR
  k : OwnL e (bs.drop j) (rows.drop j) XK
section
variable {e0 : TypeId} {an : List BT → BT} {plain : Bool} {p : Int → Bool} {bs : List BT} {rows : List (List Value)} {j : Nat} {out run : List BT} {orows rrows : List (List Value)} {XO XR XK : List Ent} {x : BT} {r : List Value}
theorem endM_len : (endM an plain out run).length ≤ out.length + run.length := by
  unfold endM
  split
  · omega
  · cases run with
    | nil => simp at *
    | cons _ _ => simp
theorem WrI.split (h : WrI e0 an plain p bs rows j out run orows rrows XO XR XK) (hb : bs[j]? = some x) (hr : rows[j]? = some r) : ∃ X1 X2, XK = X1 ++ X2 ∧ BoxO e0 x r X1 ∧ OwnL e0 (bs.drop (j + 1)) (rows.drop (j + 1)) X2 := by
  have hk := h.k
  obtain ⟨hj, e⟩ := List.getElem?_eq_some_iff.1 hb
  obtain ⟨hj', e'⟩ := List.getElem?_eq_some_iff.1 hr
  rw [List.drop_eq_getElem_cons hj, List.drop_eq_getElem_cons hj', e, e'] at hk
  obtain ⟨r', rs, X1, X2, e1, e2, h1, h2⟩ := hk
  injection e1 with e1 e3
  subst e1; subst e3
  exact ⟨X1, X2, e2, h1, h2⟩
theorem WrI.take (h : WrI e0 an plain p bs rows j out run orows rrows XO XR XK) (hb : bs[j]? = some x) (hr : rows[j]? = some r) (hp : p x.kind = true) : ∃ X1 X2, XK = X1 ++ X2 ∧ WrI e0 an plain p bs rows (j + 1) out (run ++ [x]) orows (rrows ++ [r]) XO (XR ++ X1) X2 := by
  obtain ⟨X1, X2, e, h1, h2⟩ := h.split hb hr
  obtain ⟨hj, e0⟩ := List.getElem?_eq_some_iff.1 hb
  refine ⟨X1, X2, e, hj, ?_, by have := h.sz; simp; omega, ?_, ?_, h.o, h.r.append (.one h1), h2⟩
  · rw [← h.go, List.drop_eq_getElem_cons hj, e0, goM, if_pos hp]
  · intro b hb'
    rcases List.mem_append.1 hb' with hb' | hb'
    · exact h.all b hb'
    · rw [List.mem_singleton.1 hb']; exact hp
  · intro b hb'
    rcases List.mem_append.1 hb' with hb' | hb'
    · exact h.sub b hb'
    · rw [List.mem_singleton.1 hb']; exact List.mem_of_getElem? hb
theorem WrI.pass {orows' : List (List Value)} {XO' : List Ent} (h : WrI e0 an plain p bs rows j out run orows rrows XO XR XK) (hb : bs[j]? = some x) (hr : rows[j]? = some r) (hp : p x.kind = false) (hE : OwnL e0 (endM an plain out run) orows' XO') : ∃ X1 X2, XK = X1 ++ X2 ∧ WrI e0 an plain p bs rows (j + 1) (endM an plain out run ++ [x]) [] (orows' ++ [r]) [] (XO' ++ X1) [] X2 := by
  obtain ⟨X1, X2, e, h1, h2⟩ := h.split hb hr
  obtain ⟨hj, e0⟩ := List.getElem?_eq_some_iff.1 hb
  refine ⟨X1, X2, e, hj, ?_, by have := h.sz; have := endM_len (an := an) (plain := plain) (out := out) (run := run); simp; omega, by simp, by simp, hE.append (.one h1), ⟨rfl, rfl⟩, h2⟩
  rw [← h.go, List.drop_eq_getElem_cons hj, e0, goM, if_neg (by rw [hp]; decide)]
theorem WrI.done (h : WrI e0 an plain p bs rows j out run orows rrows XO XR XK) (hj : ¬ j < bs.length) : endM an plain out run = wrapM an plain p bs := by
  rw [← h.go, List.drop_eq_nil_of_le (by omega)]; rfl
end
def SuchOK (sf : Nat) (p : Int → Bool) : Prop := Has Tryz.prog sf ∧ ∀ (f : Fz) (k n i : Int) (s : Sty) (t : ByteArray) (kv : Value), s.length = 52 → Gives Tryz.prog sf [.agg (cB k n i s t kv).toArray] f (.bool (p k))
set_option maxRecDepth 20000 in
set_option maxHeartbeats 8000000 in
theorem wrapped_ok {f : Fz} {k n i : Int} {s : Sty} {t : ByteArray} {kv : Value} {g : Int} {plain : Bool} {sf : Nat} {p : Int → Bool} {an : List BT → BT} {bs : List BT} {rows : List (List Value)} {X : List Ent} (hS : StyOK s) (hsz : bs.length ≤ 50000) (hp : SuchOK sf p) (han : ∀ run, (∀ b ∈ run, p b.kind = true) → run.length ≤ bs.length → AnonOK an g s run) (hO : OwnL 31 bs rows X) :
    Does Tryz.prog 63 [.agg (cB k n i s t kv).toArray, .int .i64 g, .bool plain, .func (.func sf) #[] #[]] f (.row kv 31 57 rows :: X) (toRow 31 f (wrapM an plain p bs)) := by
  intro w0 L w hC
  have hbl := hO.len
  refine enter Tryz.func63 rfl Tryz.ntmps63 (by simp) hC fun a hs => ?_
  refine W_seq fun K1 hK1 => ?_
  refine W_region ?_
  refine sbox hs rfl fun b4 _ _ hs => ?_
  refine sbox1 hs rfl (by first | rfl | assumption) fun b5 _ _ hs => ?_
  refine sbox1 hs rfl (by first | rfl | assumption) fun b6 _ _ hs => ?_
  refine sy hs (y_assign rfl) fun _ _ hs => ?_
  refine RL_nil ?_
  refine hK1 _ _ ?_; clear hK1
  refine W_seq fun K2 hK2 => ?_
  refine W_region ?_
  refine RL_alloc hs ti29 (.free rfl) (by decide) fun b9 _ _ hs => ?_
  refine RL_alloc hs ti29 (.free rfl) (by decide) fun b10 _ _ hs => ?_
  refine RL_nil ?_
  refine hK2 _ _ ?_; clear hK2
  replace hs := stPm ((hs.nilRow 31 57).nilRow 31 57) pm8
  refine W_seq fun K3 hK3 => ?_
  refine W_region ?_
  refine sy hs (y_makeFunc rfl) fun _ _ hs => ?_
  refine sy hs (y_assign rfl) fun _ _ hs => ?_
  refine RL_nil ?_
  refine hK3 _ _ ?_; clear hK3
  refine W_seq fun K4 hK4 => ?_
  refine W_seq fun K5 hK5 => ?_
  refine W_region ?_
  first | (refine sy hs (y_fieldAddr rfl (FO.of (off := 56) Tryz.underlying31 rfl rfl ti29 (by decide))) ?_; clear hs; (try clear a w); intro a w hs) | (refine sy hs (y_faE rfl (FO.of (off := 56) Tryz.underlying31 rfl rfl ti29 (by decide))) ?_; clear hs; (try clear a w); intro a w hs)
  refine sy hs (y_ld (u := kv) rfl Tryz.underlying29 rfl (Cell.blk (.head _) (cB_kids' hS))) fun _ _ hs => ?_
  refine sy hs (y_lenR0 (Rd.st hs (List.mem_append_right (_ :: _ :: _ :: _ :: _ :: _ :: _ :: X) (.head _))) rfl Tryz.underlying29) fun _ _ hs => ?_
  refine sy hs (y_move rfl) fun _ _ hs => ?_
  refine RL_nil ?_
  refine hK5 _ _ ?_; clear hK5
  refine W_block fun Qe6 hB6 hO6 => ?_
  refine W_loop (fun (j : Nat) a w => ∃ out run ov rv orows rrows XO XR XK, WrI 31 an plain p bs rows j out run orows rrows XO XR XK ∧ St 43 w0 f (.blk b4 (.cells (cB k n i s t kv).toArray 31 (0, 0)) :: .blk b5 (.cells #[.int .i64 g] 3 (0, 0)) :: .blk b6 (.cells #[.bool plain] 4 (0, 0)) :: .blk b9 (.cells #[ov] 29 (0, 0)) :: .blk b10 (.cells #[rv] 29 (0, 0)) :: .row ov 31 57 orows :: .row rv 31 57 rrows :: (XO ++ (XR ++ (XK ++ (.row kv 31 57 rows :: L))))) [(3, .func (.func sf) #[] #[]), (9, .pointer (some ⟨b9, 0, none⟩)), (10, .pointer (some ⟨b10, 0, none⟩)), (11, .func (.func 101) #[] #[.pointer (some ⟨b10, 0, none⟩), .pointer (some ⟨b6, 0, none⟩), .pointer (some ⟨b9, 0, none⟩), .pointer (some ⟨b5, 0, none⟩), .pointer (some ⟨b4, 0, none⟩)]), (16, kv), (17, .int .i64 rows.length), (18, .int .i64 (j : Int))] a w) (fun j => bs.length - j) 0 ⟨[], [], .slice none 0 0, .slice none 0 0, [], [], [], [], X, ⟨by omega, rfl, by simp, by simp, by simp, ⟨rfl, rfl⟩, ⟨rfl, rfl⟩, hO⟩, hs.sub ⟨rfl, rfl, rfl, rfl, rfl, rfl, rfl, trivial⟩⟩ ?_
  clear hs; rintro j a w ⟨out, run, ov, rv, orows, rrows, XO, XR, XK, hI, hs⟩ K hK
  have hRk := Rd.st hs (e := 31) (v := kv) (k := 57) (rows := rows) (List.mem_append_right (_ :: _ :: _ :: _ :: _ :: _ :: _ :: XO) (List.mem_append_right XR (List.mem_append_right XK (.head _))))
  have h1 := rows1 hs (e := 31) (v := kv) (k := 57) (rows := rows) (List.mem_append_right (_ :: _ :: _ :: _ :: _ :: _ :: _ :: XO) (List.mem_append_right XR (List.mem_append_right XK (.head _))))
  have hol := hI.o.len
  have hrl := hI.r.len
  have hjl := hI.hj
  have hss := hI.sz
  refine W_seq fun K7 hK7 => ?_
  refine W_region ?_
  refine sy hs (y_lss rfl rfl) fun _ _ hs => ?_
  refine RL_nil ?_
  refine hK7 _ _ ?_; clear hK7
  refine W_seq fun K8 hK8 => ?_
  first | refine W_condP hs rfl (fun hlt => ?_) (fun hlt => ?_) | refine W_cond hs rfl (fun hlt => ?_) (fun hlt => ?_)
  · obtain ⟨x, hx⟩ : ∃ x, bs[j]? = some x := ⟨_, List.getElem?_eq_getElem (by omega)⟩
    obtain ⟨xk, hxr, hxS⟩ := hO.get hx
    have hx1 := h1 _ (List.mem_of_getElem? hxr)
    refine W_skip ?_
    refine hK8 _ _ ?_; clear hK8
    refine W_seq fun K9 hK9 => ?_
    refine W_block fun Qe10 hB10 hO10 => ?_
    refine W_seq fun K11 hK11 => ?_
    refine W_region ?_
    refine sy hs (y_indexAddr hRk rfl rfl rfl (by omega) Tryz.underlying29 ti31) fun _ _ hs => ?_
    refine sy hs (y_ldRow rfl Tryz.underlying31 rfl ti31 hRk hxr) fun _ _ hs => ?_
    refine RL_alloc hs ti31 (.free rfl) (by decide) fun b13 _ _ hs => ?_
    refine RL_storeAll (i := 0) hs rfl rfl rfl ti31 ⟨rfl, by simp [cB_len hxS.len]⟩ (one_arr hx1) (.free rfl) fun _ _ hs => ?_
    refine RL_nil ?_
    refine hK11 _ _ ?_; clear hK11
    refine W_seq fun K12 hK12 => ?_
    refine W_seq fun K13 hK13 => ?_
    refine W_region ?_
    refine sy hs (y_move rfl) fun _ _ hs => ?_
    refine sy hs (y_ldB rfl Tryz.underlying31 rfl ti31 (.head _) (by simp [cB_len hxS.len])) fun _ _ hs => ?_
    refine sy hs (y_call rfl hp.1 rfl (hp.2 _ _ _ _ _ _ _ hxS.len)) fun _ _ hs => ?_
    refine RL_nil ?_
    refine hK13 _ _ ?_; clear hK13
    first | refine W_condP hs rfl (fun hpx => ?_) (fun hpx => ?_) | refine W_cond hs rfl (fun hpx => ?_) (fun hpx => ?_)
    · obtain ⟨X1, X2, rfl, hI'⟩ := hI.take hx hxr hpx
      rw [List.append_assoc] at hs
      have hs0 := hs
      refine W_cut (fun a w => ∃ out run ov rv orows rrows XO XR XK, WrI 31 an plain p bs rows (j + 1) out run orows rrows XO XR XK ∧ St 43 w0 f (.blk b4 (.cells (cB k n i s t kv).toArray 31 (0, 0)) :: .blk b5 (.cells #[.int .i64 g] 3 (0, 0)) :: .blk b6 (.cells #[.bool plain] 4 (0, 0)) :: .blk b9 (.cells #[ov] 29 (0, 0)) :: .blk b10 (.cells #[rv] 29 (0, 0)) :: .row ov 31 57 orows :: .row rv 31 57 rrows :: (XO ++ (XR ++ (XK ++ (.row kv 31 57 rows :: L))))) [(3, .func (.func sf) #[] #[]), (9, .pointer (some ⟨b9, 0, none⟩)), (10, .pointer (some ⟨b10, 0, none⟩)), (11, .func (.func 101) #[] #[.pointer (some ⟨b10, 0, none⟩), .pointer (some ⟨b6, 0, none⟩), .pointer (some ⟨b9, 0, none⟩), .pointer (some ⟨b5, 0, none⟩), .pointer (some ⟨b4, 0, none⟩)]), (16, kv), (17, .int .i64 rows.length), (18, .int .i64 (j : Int))] a w) ?_ (fun a w hI => ?_)
      · refine T_start hs (.blk b13 (.cells (cB x.kind x.node x.idx x.sty x.text xk).toArray 31 (0, 0)) :: .blk b4 (.cells (cB k n i s t kv).toArray 31 (0, 0)) :: .blk b5 (.cells #[.int .i64 g] 3 (0, 0)) :: .blk b6 (.cells #[.bool plain] 4 (0, 0)) :: .blk b9 (.cells #[ov] 29 (0, 0)) :: .blk b10 (.cells #[rv] 29 (0, 0)) :: []) [5, 6, 7] (.look 0 (.look 1 (.look 2 (.any [3] (fun _ => .any [4] (fun _ => .any [5, 7] (fun i => bif Nat.beq i 5 then .any [6, 7] (fun i => bif Nat.beq i 6 then .any [7] (fun _ => .done) else .any [6] (fun _ => .done)) else .any [5] (fun _ => .any [6] (fun _ => .done))))))))) mixed (by kernel_rfl) ?_; clear hs; (try clear a w); intro a he
        refine uy 0 he rfl (y_ld (u := rv) rfl Tryz.underlying29 rfl) fun _ he => ?_
        refine uy 1 he rfl (y_ldB rfl Tryz.underlying31 rfl ti31 (.head _) (by simp [cB_len hxS.len])) fun _ he => ?_
        refine uy 2 he rfl (y_lenR0 (Rd.st hs0 (.tail _ (.tail _ (.tail _ (.tail _ (.tail _ (.tail _ (.tail _ (.head _))))))))) rfl Tryz.underlying29) fun _ he => ?_
        refine T_any1 he rfl ?_; clear he; (try clear a); intro a w hs
        refine RL_bs1a (r := zB) hs rfl Tryz.underlying29 ti31 (by decide) zB_one fun tv _ _ hs => ?_
        refine uon hs fun _ he => ?_
        refine T_any1 he rfl ?_; clear he; (try clear a); intro a w hs
        refine RL_app1 7 hs rfl rfl rfl Tryz.underlying29 ti31 (by decide) (by omega) fun nv _ _ hs => ?_; simp only [List.set] at hs
        refine uon hs fun _ he => ?_
        refine T_any2 he rfl rfl ?_ ?_ <;> (clear he; (try clear a); intro a w hs)
        · refine sy hs (y_indexAddr (m := rrows.length) (Rd.st hs (.tail _ (.tail _ (.tail _ (.tail _ (.tail _ (.tail _ (.tail _ (.head _))))))))) rfl rfl rfl (by simp) Tryz.underlying29 ti31) ?_; clear hs; (try clear a w); intro a w hs
          refine uend hs fun _ he => ?_
          refine T_any2 he rfl rfl ?_ ?_ <;> (clear he; (try clear a); intro a w hs)
          · refine RL_storeElem (i := 7) (m := rrows.length) hs rfl rfl rfl get_last ti31 hx1 (.free rfl) ?_; clear hs; (try clear a w); intro a w hs; simp only [List.set, set_last] at hs
            refine uend hs fun _ he => ?_
            refine T_any1 he rfl ?_; clear he; (try clear a); intro a w hs
            refine sstore 5 hs rfl rfl rfl ti29 (Rd.st hs (.tail _ (.tail _ (.tail _ (.tail _ (.tail _ (.tail _ (.tail _ (.head _))))))))).one fun _ _ hs => ?_; simp only [List.set] at hs
            refine uend hs fun _ he => ?_
            refine T_nil he ?_; clear he; (try clear a); intro w hs
            exact ⟨_, _, _, _, _, _, _, _, _, hI', by rw [List.append_assoc]; exact hs.tail.sub ⟨rfl, rfl, rfl, rfl, rfl, rfl, rfl, trivial⟩⟩
          · refine sstore 5 hs rfl rfl rfl ti29 (Rd.st hs (.tail _ (.tail _ (.tail _ (.tail _ (.tail _ (.tail _ (.tail _ (.head _))))))))).one ?_; clear hs; (try clear a w); intro a w hs; simp only [List.set] at hs
            refine uend hs fun _ he => ?_
            refine T_any1 he rfl ?_; clear he; (try clear a); intro a w hs
            refine RL_storeElem (i := 7) (m := rrows.length) hs rfl rfl rfl get_last ti31 hx1 (.free rfl) fun _ _ hs => ?_; simp only [List.set, set_last] at hs
            refine uend hs fun _ he => ?_
            refine T_nil he ?_; clear he; (try clear a); intro w hs
            exact ⟨_, _, _, _, _, _, _, _, _, hI', by rw [List.append_assoc]; exact hs.tail.sub ⟨rfl, rfl, rfl, rfl, rfl, rfl, rfl, trivial⟩⟩
        · refine sstore 5 hs rfl rfl rfl ti29 (Rd.st hs (.tail _ (.tail _ (.tail _ (.tail _ (.tail _ (.tail _ (.tail _ (.head _))))))))).one ?_; clear hs; (try clear a w); intro a w hs; simp only [List.set] at hs
          refine uend hs fun _ he => ?_
          refine T_any1 he rfl ?_; clear he; (try clear a); intro a w hs
          refine sy hs (y_indexAddr (m := rrows.length) (Rd.st hs (.tail _ (.tail _ (.tail _ (.tail _ (.tail _ (.tail _ (.tail _ (.head _))))))))) rfl rfl rfl (by simp) Tryz.underlying29 ti31) fun _ _ hs => ?_
          refine uend hs fun _ he => ?_
          refine T_any1 he rfl ?_; clear he; (try clear a); intro a w hs
          refine RL_storeElem (i := 7) (m := rrows.length) hs rfl rfl rfl get_last ti31 hx1 (.free rfl) fun _ _ hs => ?_; simp only [List.set, set_last] at hs
          refine uend hs fun _ he => ?_
          refine T_nil he ?_; clear he; (try clear a); intro w hs
          exact ⟨_, _, _, _, _, _, _, _, _, hI', by rw [List.append_assoc]; exact hs.tail.sub ⟨rfl, rfl, rfl, rfl, rfl, rfl, rfl, trivial⟩⟩
      · clear hs
        obtain ⟨out, run, ov, rv, orows, rrows, XO, XR, XK, hI', hs⟩ := hI
        refine W_exit ?_
        refine hB10 _ _ ?_
        refine hK9 _ _ ?_; clear hK9
        refine W_region ?_
        refine sy hs (y_add rfl rfl (wr_i64 (by omega))) fun _ _ hs => ?_
        refine sy hs (y_move rfl) fun _ _ hs => ?_
        refine RL_nil ?_
        exact hK (j + 1) _ _ (by omega) ⟨_, _, _, _, _, _, _, _, _, hI', hs.sub ⟨rfl, rfl, rfl, rfl, rfl, rfl, rfl, trivial⟩⟩
    · refine W_skip ?_
      refine hK12 _ _ ?_; clear hK12
      refine W_seq fun K15 hK15 => ?_
      refine W_region ?_
      refine sy hs (y_move rfl) fun _ _ hs => ?_
      refine RL_call (stPm hs pm6) rfl has101 rfl rfl (wrapped1_ok hS hI.o hI.r (by omega) (han run hI.all (by omega))) (.free rfl) (by decide) ?_; clear hs; (try clear a w)
      rintro _ _ _ a w _ ⟨rfl, ov, orows', XO', hE, rfl⟩ hs
      have hE0 := hE.len
      have hE1 := endM_len (an := an) (plain := plain) (out := out) (run := run)
      replace hs := stPm (hs.nilRow 31 57) pm7
      obtain ⟨X1, X2, rfl, hI'⟩ := hI.pass hx hxr (by simpa using hpx) hE
      rw [List.append_assoc] at hs
      have hs0 := hs
      refine RL_nil ?_
      refine hK15 _ _ ?_; clear hK15
      refine T_start hs (.blk b13 (.cells (cB x.kind x.node x.idx x.sty x.text xk).toArray 31 (0, 0)) :: .blk b4 (.cells (cB k n i s t kv).toArray 31 (0, 0)) :: .blk b5 (.cells #[.int .i64 g] 3 (0, 0)) :: .blk b6 (.cells #[.bool plain] 4 (0, 0)) :: .blk b9 (.cells #[ov] 29 (0, 0)) :: .blk b10 (.cells #[.slice none 0 0] 29 (0, 0)) :: []) [5, 6, 7] (.look 0 (.look 1 (.look 2 (.any [3] (fun _ => .any [4] (fun _ => .any [5, 7] (fun i => bif Nat.beq i 5 then .any [6, 7] (fun i => bif Nat.beq i 6 then .any [7] (fun _ => .done) else .any [6] (fun _ => .done)) else .any [5] (fun _ => .any [6] (fun _ => .done))))))))) mixed (by kernel_rfl) fun _ he => ?_
      refine uy 0 he rfl (y_ld (u := ov) rfl Tryz.underlying29 rfl) fun _ he => ?_
      refine uy 1 he rfl (y_ldB rfl Tryz.underlying31 rfl ti31 (.head _) (by simp [cB_len hxS.len])) fun _ he => ?_
      refine uy 2 he rfl (y_lenR0 (Rd.st hs0 (.tail _ (.tail _ (.tail _ (.tail _ (.tail _ (.tail _ (.head _)))))))) rfl Tryz.underlying29) fun _ he => ?_
      refine T_any1 he rfl ?_; clear he; (try clear a); intro a w hs
      refine RL_bs1a (r := zB) hs rfl Tryz.underlying29 ti31 (by decide) zB_one fun tv _ _ hs => ?_
      refine uon hs fun _ he => ?_
      refine T_any1 he rfl ?_; clear he; (try clear a); intro a w hs
      refine RL_app1 6 hs rfl rfl rfl Tryz.underlying29 ti31 (by decide) (by omega) fun nv _ _ hs => ?_; simp only [List.set] at hs
      refine uon hs fun _ he => ?_
      refine T_any2 he rfl rfl ?_ ?_ <;> (clear he; (try clear a); intro a w hs)
      · refine sy hs (y_indexAddr (m := orows'.length) (Rd.st hs (.tail _ (.tail _ (.tail _ (.tail _ (.tail _ (.tail _ (.head _)))))))) rfl rfl rfl (by simp) Tryz.underlying29 ti31) ?_; clear hs; (try clear a w); intro a w hs
        refine uend hs fun _ he => ?_
        refine T_any2 he rfl rfl ?_ ?_ <;> (clear he; (try clear a); intro a w hs)
        · refine RL_storeElem (i := 6) (m := orows'.length) hs rfl rfl rfl get_last ti31 hx1 (.free rfl) ?_; clear hs; (try clear a w); intro a w hs; simp only [List.set, set_last] at hs
          refine uend hs fun _ he => ?_
          refine T_any1 he rfl ?_; clear he; (try clear a); intro a w hs
          refine sstore 4 hs rfl rfl rfl ti29 (Rd.st hs (.tail _ (.tail _ (.tail _ (.tail _ (.tail _ (.tail _ (.head _)))))))).one fun _ _ hs => ?_; simp only [List.set] at hs
          refine uend hs fun _ he => ?_
          refine T_nil he ?_; clear he; (try clear a); intro w hs
          refine hK9 _ _ ?_; clear hK9
          refine W_region ?_
          refine sy hs (y_add rfl rfl (wr_i64 (by omega))) fun _ _ hs => ?_
          refine sy hs (y_move rfl) fun _ _ hs => ?_
          refine RL_nil ?_
          exact hK (j + 1) _ _ (by omega) ⟨_, _, _, _, _, _, _, _, _, hI', by rw [List.append_assoc]; exact hs.tail.sub ⟨rfl, rfl, rfl, rfl, rfl, rfl, rfl, trivial⟩⟩
        · refine sstore 4 hs rfl rfl rfl ti29 (Rd.st hs (.tail _ (.tail _ (.tail _ (.tail _ (.tail _ (.tail _ (.head _)))))))).one ?_; clear hs; (try clear a w); intro a w hs; simp only [List.set] at hs
          refine uend hs fun _ he => ?_
          refine T_any1 he rfl ?_; clear he; (try clear a); intro a w hs
          refine RL_storeElem (i := 6) (m := orows'.length) hs rfl rfl rfl get_last ti31 hx1 (.free rfl) fun _ _ hs => ?_; simp only [List.set, set_last] at hs
          refine uend hs fun _ he => ?_
          refine T_nil he ?_; clear he; (try clear a); intro w hs
          refine hK9 _ _ ?_; clear hK9
          refine W_region ?_
          refine sy hs (y_add rfl rfl (wr_i64 (by omega))) fun _ _ hs => ?_
          refine sy hs (y_move rfl) fun _ _ hs => ?_
          refine RL_nil ?_
          exact hK (j + 1) _ _ (by omega) ⟨_, _, _, _, _, _, _, _, _, hI', by rw [List.append_assoc]; exact hs.tail.sub ⟨rfl, rfl, rfl, rfl, rfl, rfl, rfl, trivial⟩⟩
      · refine sstore 4 hs rfl rfl rfl ti29 (Rd.st hs (.tail _ (.tail _ (.tail _ (.tail _ (.tail _ (.tail _ (.head _)))))))).one ?_; clear hs; (try clear a w); intro a w hs; simp only [List.set] at hs
        refine uend hs fun _ he => ?_
        refine T_any1 he rfl ?_; clear he; (try clear a); intro a w hs
        refine sy hs (y_indexAddr (m := orows'.length) (Rd.st hs (.tail _ (.tail _ (.tail _ (.tail _ (.tail _ (.tail _ (.head _)))))))) rfl rfl rfl (by simp) Tryz.underlying29 ti31) fun _ _ hs => ?_
        refine uend hs fun _ he => ?_
        refine T_any1 he rfl ?_; clear he; (try clear a); intro a w hs
        refine RL_storeElem (i := 6) (m := orows'.length) hs rfl rfl rfl get_last ti31 hx1 (.free rfl) fun _ _ hs => ?_; simp only [List.set, set_last] at hs
        refine uend hs fun _ he => ?_
        refine T_nil he ?_; clear he; (try clear a); intro w hs
        refine hK9 _ _ ?_; clear hK9
        refine W_region ?_
        refine sy hs (y_add rfl rfl (wr_i64 (by omega))) fun _ _ hs => ?_
        refine sy hs (y_move rfl) fun _ _ hs => ?_
        refine RL_nil ?_
        exact hK (j + 1) _ _ (by omega) ⟨_, _, _, _, _, _, _, _, _, hI', by rw [List.append_assoc]; exact hs.tail.sub ⟨rfl, rfl, rfl, rfl, rfl, rfl, rfl, trivial⟩⟩
  · rw [← List.append_assoc XO] at hs
    refine W_exit ?_
    refine hB6 _ _ ?_
    refine hK4 _ _ ?_; clear hK4
    refine W_seq fun K16 hK16 => ?_
    refine W_region ?_
    refine sy hs (y_move rfl) fun _ _ hs => ?_
    refine RL_call hs rfl has101 rfl rfl (wrapped1_ok hS hI.o hI.r (by omega) (han run hI.all (by omega))) (.free rfl) (by decide) ?_; clear hs; (try clear a w)
    rintro _ _ _ a w _ ⟨rfl, ov, orows', XO', hE, rfl⟩ hs
    refine RL_nil ?_
    refine hK16 _ _ ?_; clear hK16
    refine W_seq fun K17 hK17 => ?_
    refine W_region ?_
    refine sy hs (y_ld (u := ov) rfl Tryz.underlying29 rfl) fun _ _ hs => ?_
    refine sy hs (y_assign rfl) fun _ _ hs => ?_
    refine RL_nil ?_
    refine hK17 _ _ ?_; clear hK17
    refine W_ret ?_
    refine Rt_1 hs rfl rfl ?_
    refine ⟨_, _, _, rfl, .refl _, hs.cw.sub (L' := (.row ov 31 57 orows' :: XO') ++ L) ?_, rfl, orows', XO', rfl, (hI.done (by omega)) ▸ hE⟩
    exact .cons _ (.cons _ (.cons _ (.cons _ (.cons _ (.cons_cons _ ((List.Sublist.refl XO').append (.trans (.cons _ (.refl L)) (List.sublist_append_right XK _))))))))
end Go.Proofs.YteicdfkmpnmkmaaGreat
