/-
  Walks and laws of this seat.
-/
import Derived.Test.YteicdfkmpnmkmaaGreatS13k
import Derived.Test.YteicdfkmpnmkmaaGreatRows
namespace Go.Proofs.YteicdfkmpnmkmaaGreat
set_option linter.unusedVariables false
set_option linter.unusedSimpArgs false
open Go.RowKit Go.Sl
theorem pmE {n1 n2 x y : Ent} {X C : List Ent} : (n1 :: n2 :: x :: y :: (X ++ C)).Perm (x :: n1 :: n2 :: (X ++ (y :: C))) :=
  perm_of_count fun a => by simp only [List.count_append, List.count_cons]; omega
theorem pmF {x y z : Ent} {A B T : List Ent} : (x :: y :: z :: (A ++ (B ++ T))).Perm ((z :: B) ++ (x :: y :: (A ++ T))) :=
  perm_of_count fun a => by simp only [List.count_append, List.count_cons, List.cons_append]; omega
theorem pmG {x y : Ent} {A B T : List Ent} : (B ++ (x :: y :: (A ++ T))).Perm (x :: y :: (A ++ (B ++ T))) :=
  perm_of_count fun a => by simp only [List.count_append, List.count_cons]; omega
theorem pmH {x y z : Ent} {T : List Ent} : (z :: x :: y :: T).Perm (x :: y :: z :: T) :=
  perm_of_count fun a => by simp only [List.count_cons]; omega
def AroundOK (an : List BT → BT) (g : Int) (s : Sty) (bs : List BT) : Prop :=
  ∀ (f : Fz) (v : Value) (rows : List (List Value)) (X : List Ent), OwnL 44 bs rows X → Does Tryz.prog 107 [.int .i64 g, .agg s.toArray, v] f (.row v 44 57 rows :: X) (toBox 44 f (an bs))
set_option maxRecDepth 20000 in
set_option maxHeartbeats 8000000 in
theorem wrap_ok {f : Fz} {s : Sty} {g : Int} {fl : Bool} {p : Int → Bool} {an : List BT → BT} {bs : List BT} {v : Value} {rows : List (List Value)} {X : List Ent} (hS : StyOK s) (hsz : bs.length ≤ 50000) (hp : ∀ b ∈ bs, tk g fl b.kind = p b.kind) (han : ∀ run, (∀ b ∈ run, p b.kind = true) → (∀ b ∈ run, b ∈ bs) → run.length ≤ bs.length → AroundOK an g s run) (hO : OwnL 44 bs rows X) :
    Does Tryz.prog 72 [v, .agg s.toArray, .int .i64 g, .bool fl] f (.row v 44 57 rows :: X) (toRow 44 f (wrapM an (decide (g = 1)) p bs)) := by
  intro w0 L w hC
  have hbl := hO.len
  rw [List.cons_append] at hC
  refine enter Tryz.func72 rfl Tryz.ntmps72 (by simp) hC fun a hs => ?_
  refine W_seq fun K1 hK1 => ?_
  refine W_region ?_
  refine sbox hs rfl fun b5 _ _ hs => ?_
  refine sy hs (y_assign rfl) fun _ _ hs => ?_
  refine RL_nil ?_
  refine hK1 _ _ ?_; clear hK1
  refine W_seq fun K2 hK2 => ?_
  refine W_region ?_
  refine sy hs (y_assign rfl) fun _ _ hs => ?_
  refine sy hs (y_assign rfl) fun _ _ hs => ?_
  refine RL_nil ?_
  refine hK2 _ _ ?_; clear hK2
  refine W_seq fun K3 hK3 => ?_
  refine W_seq fun K4 hK4 => ?_
  refine W_region ?_
  refine sy hs (y_assign rfl) fun _ _ hs => ?_
  refine RL_nil ?_
  refine hK4 _ _ ?_; clear hK4
  refine W_block fun Qe5 hB5 hO5 => ?_
  refine W_loop (fun (j : Nat) a w => ∃ out run ov rv orows rrows XO XR XK, (WrI 44 an (decide (g = 1)) p bs rows j out run orows rrows XO XR XK ∨ (j = bs.length + 1 ∧ OwnL 44 (wrapM an (decide (g = 1)) p bs) orows XO)) ∧ St 67 w0 f (.blk b5 (.cells s.toArray 28 (0, 0)) :: .row ov 44 57 orows :: .row rv 44 57 rrows :: (XO ++ (XR ++ (XK ++ (.row v 44 57 rows :: L))))) [(0, v), (2, .int .i64 g), (3, .bool fl), (5, .pointer (some ⟨b5, 0, none⟩)), (9, ov), (10, rv), (11, .int .i64 (j : Int))] a w) (fun j => bs.length + 1 - j) 0 ⟨[], [], .slice none 0 0, .slice none 0 0, [], [], [], [], X, .inl ⟨by omega, rfl, by simp, by simp, by simp, ⟨rfl, rfl⟩, ⟨rfl, rfl⟩, hO⟩, (stPm ((hs.nilRow 44 57).nilRow 44 57) pmE).sub ⟨rfl, rfl, rfl, rfl, rfl, rfl, rfl, trivial⟩⟩ ?_
  clear hs; rintro j a w ⟨out, run, ov, rv, orows, rrows, XO, XR, XK, hW, hs⟩ K hK
  have hm : Ent.row v 44 57 rows ∈ .blk b5 (.cells s.toArray 28 (0, 0)) :: .row ov 44 57 orows :: .row rv 44 57 rrows :: (XO ++ (XR ++ (XK ++ (.row v 44 57 rows :: L)))) := List.mem_append_right (_ :: _ :: _ :: XO) (List.mem_append_right XR (List.mem_append_right XK (.head _)))
  have hRr := Rd.st hs hm
  have hr1 := rows1 hs hm
  refine W_seq fun K6 hK6 => ?_
  refine W_seq fun K7 hK7 => ?_
  refine W_region ?_
  refine sy hs (y_move rfl) fun _ _ hs => ?_
  refine sy hs (y_move rfl) fun _ _ hs => ?_
  refine sy hs (y_lenR0 hRr rfl Tryz.underlying42) fun _ _ hs => ?_
  refine sy hs (y_leq rfl rfl) fun _ _ hs => ?_
  refine RL_nil ?_
  refine hK7 _ _ ?_; clear hK7
  first | refine W_condP hs rfl (fun hlt => ?_) (fun hlt => ?_) | refine W_cond hs rfl (fun hlt => ?_) (fun hlt => ?_)
  · rcases hW with hW | hW
    case inr => omega
    have hol := hW.o.len
    have hrl := hW.r.len
    have hss := hW.sz
    refine W_skip ?_
    refine hK6 _ _ ?_; clear hK6
    refine W_cut (fun a w => ∃ out run ov rv orows rrows XO XR XK, (WrI 44 an (decide (g = 1)) p bs rows (j + 1) out run orows rrows XO XR XK ∨ (j + 1 = bs.length + 1 ∧ OwnL 44 (wrapM an (decide (g = 1)) p bs) orows XO)) ∧ St 67 w0 f (.blk b5 (.cells s.toArray 28 (0, 0)) :: .row ov 44 57 orows :: .row rv 44 57 rrows :: (XO ++ (XR ++ (XK ++ (.row v 44 57 rows :: L))))) [(0, v), (2, .int .i64 g), (3, .bool fl), (5, .pointer (some ⟨b5, 0, none⟩)), (9, ov), (10, rv), (11, .int .i64 (j : Int))] a w) ?_ (fun a w hI => ?_)
    · refine W_block fun Qe9 hB9 hO9 => ?_
      refine W_seq fun K10 hK10 => ?_
      refine W_cut (fun a w => ∃ c : Bool, (c = true → ∃ x, bs[j]? = some x ∧ p x.kind = true) ∧ (c = false → ∀ x, bs[j]? = some x → p x.kind = false) ∧ St 67 w0 f (.blk b5 (.cells s.toArray 28 (0, 0)) :: .row ov 44 57 orows :: .row rv 44 57 rrows :: (XO ++ (XR ++ (XK ++ (.row v 44 57 rows :: L))))) ((30, .bool c) :: [(0, v), (2, .int .i64 g), (3, .bool fl), (5, .pointer (some ⟨b5, 0, none⟩)), (9, ov), (10, rv), (11, .int .i64 (j : Int))]) a w) ?_ (fun a w hI => ?_)
      · refine W_region ?_
        refine sy hs (y_move rfl) fun _ _ hs => ?_
        refine sy hs (y_move rfl) fun _ _ hs => ?_
        refine sy hs (y_lenR0 hRr rfl Tryz.underlying42) fun _ _ hs => ?_
        refine sy hs (y_lss rfl rfl) fun _ _ hs => ?_
        refine sy hs (y_move rfl) fun _ _ hs => ?_
        first | refine St.splitP hs (t := 22) rfl (fun hj hq => ?_) (fun hj hq => ?_) | refine St.split hs (t := 22) rfl (fun hj hq => ?_) (fun hj hq => ?_)
        · clear hs; have hs := hq; clear hq
          obtain ⟨x, hx⟩ : ∃ x, bs[j]? = some x := ⟨_, List.getElem?_eq_getElem (by omega)⟩
          obtain ⟨xk, hxr, hxS⟩ := hO.get hx
          have hT : Gives Tryz.prog 105 [.agg (cB x.kind x.node x.idx x.sty x.text xk).toArray, .int .i64 g, .bool fl] f (.bool (p x.kind)) := by
            rw [← hp x (List.mem_of_getElem? hx)]
            exact taken_ok hxS.len
          refine syg hs (y_move rfl) fun _ _ hs => ?_
          refine syg hs (y_move rfl) fun _ _ hs => ?_
          refine syg hs (y_indexAddr hRr rfl rfl rfl (by omega) Tryz.underlying42 ti44) fun _ _ hs => ?_
          refine syg hs (y_ldRow rfl Tryz.underlying44 rfl ti44 hRr hxr) fun _ _ hs => ?_
          refine syg hs (y_move rfl) fun _ _ hs => ?_
          refine syg hs (y_move rfl) fun _ _ hs => ?_
          refine syg hs (y_call rfl has105 rfl hT) fun _ _ hs => ?_
          refine sy hs (y_pick rfl rfl) fun _ _ hs => ?_
          refine RL_nil ?_
          refine ⟨p x.kind, fun h => ⟨x, hx, h⟩, fun h y hy => ?_, hs.sub ⟨rfl, rfl, rfl, rfl, rfl, rfl, rfl, rfl, trivial⟩⟩
          rw [hx] at hy; injection hy with hy; rw [← hy]; exact h
        · clear hs; have hs := hq; clear hq
          refine sno hs fun _ _ hs => ?_
          refine sno hs fun _ _ hs => ?_
          refine sno hs fun _ _ hs => ?_
          refine sno hs fun _ _ hs => ?_
          refine sno hs fun _ _ hs => ?_
          refine sno hs fun _ _ hs => ?_
          refine sno hs fun _ _ hs => ?_
          refine sy hs (y_pick rfl rfl) fun _ _ hs => ?_
          refine RL_nil ?_
          refine ⟨false, fun h => by simp at h, fun _ y hy => ?_, hs.sub ⟨rfl, rfl, rfl, rfl, rfl, rfl, rfl, rfl, trivial⟩⟩
          have := (List.getElem?_eq_some_iff.1 hy).1
          omega
      · obtain ⟨c, hc1, hc2, hs⟩ := hI
        first | refine W_condP hs rfl (fun hc => ?_) (fun hc => ?_) | refine W_cond hs rfl (fun hc => ?_) (fun hc => ?_)
        · obtain ⟨x, hx, hpx⟩ := hc1 hc
          obtain ⟨xk, hxr, hxS⟩ := hO.get hx
          have hxl := (List.getElem?_eq_some_iff.1 hx).1
          obtain ⟨X1, X2, rfl, hI'⟩ := hW.take hx hxr hpx
          refine W_seq fun K12 hK12 => ?_
          refine W_region ?_
          refine sy hs (y_move rfl) fun _ _ hs => ?_
          refine sy hs (y_move rfl) fun _ _ hs => ?_
          refine sy hs (y_move rfl) fun _ _ hs => ?_
          refine sy hs (y_indexAddr hRr rfl rfl rfl (by omega) Tryz.underlying42 ti44) fun _ _ hs => ?_
          refine sy hs (y_ldRow rfl Tryz.underlying44 rfl ti44 hRr hxr) fun _ _ hs => ?_
          refine RL_bs1a (r := cB x.kind x.node x.idx x.sty x.text xk) hs rfl Tryz.underlying42 ti44 (by decide) (hr1 _ (List.mem_of_getElem? hxr)) fun tv _ _ hs => ?_
          refine RL_app1 2 hs rfl rfl rfl Tryz.underlying42 ti44 (by decide) (by omega) fun nv _ _ hs => ?_; simp only [List.set] at hs
          refine sy hs (y_assign rfl) fun _ _ hs => ?_
          refine RL_nil ?_
          refine hK12 _ _ ?_; clear hK12
          refine W_exit ?_
          refine hB9 _ _ ?_
          exact ⟨_, _, _, _, _, _, _, _, _, .inl hI', by rw [List.append_assoc]; rw [List.append_assoc] at hs; exact hs.sub ⟨rfl, rfl, rfl, rfl, rfl, rfl, rfl, trivial⟩⟩
        · refine W_skip ?_
          refine hK10 _ _ ?_; clear hK10
          refine W_cut (fun a w => ∃ ov' orows' XO', OwnL 44 (endM an (decide (g = 1)) out run) orows' XO' ∧ St 67 w0 f (.blk b5 (.cells s.toArray 28 (0, 0)) :: .row ov' 44 57 orows' :: (XO' ++ (XK ++ (.row v 44 57 rows :: L)))) [(0, v), (2, .int .i64 g), (3, .bool fl), (5, .pointer (some ⟨b5, 0, none⟩)), (9, ov'), (11, .int .i64 (j : Int))] a w) ?_ (fun a w hI => ?_)
          · refine W_cut (fun a w => St 67 w0 f (.blk b5 (.cells s.toArray 28 (0, 0)) :: .row ov 44 57 orows :: .row rv 44 57 rrows :: (XO ++ (XR ++ (XK ++ (.row v 44 57 rows :: L))))) ((47, .bool (!run.all (blankBT (decide (g = 1))))) :: [(0, v), (2, .int .i64 g), (3, .bool fl), (5, .pointer (some ⟨b5, 0, none⟩)), (9, ov), (10, rv), (11, .int .i64 (j : Int))]) a w) ?_ (fun a w hI => ?_)
            · refine W_region ?_
              refine sy hs (y_move rfl) fun _ _ hs => ?_
              refine sy hs (y_lenR0 (Rd.st hs (.tail _ (.tail _ (.head _)))) rfl Tryz.underlying42) fun _ _ hs => ?_
              refine sy hs (y_gtr rfl rfl) fun _ _ hs => ?_
              refine sy hs (y_move rfl) fun _ _ hs => ?_
              first | refine St.splitP hs (t := 41) rfl (fun hr0 hq => ?_) (fun hr0 hq => ?_) | refine St.split hs (t := 41) rfl (fun hr0 hq => ?_) (fun hr0 hq => ?_)
              · clear hs; have hs := hq; clear hq
                refine syg hs (y_move rfl) fun _ _ hs => ?_
                refine syg hs (y_move rfl) fun _ _ hs => ?_
                refine syg hs (y_eql rfl rfl) fun _ _ hs => ?_
                refine syg hs (y_callC rfl has106 rfl (fun w hw => blank2_ok hW.r (by omega) w0 f _ w (.tail _ (.tail _ (.head _))) hw)) fun _ _ hs => ?_
                refine syg hs (y_not rfl) fun _ _ hs => ?_
                refine sy hs (y_pick rfl rfl) fun _ _ hs => ?_
                refine RL_nil ?_
                exact hs.sub ⟨rfl, rfl, rfl, rfl, rfl, rfl, rfl, rfl, trivial⟩
              · clear hs; have hs := hq; clear hq
                refine sno hs fun _ _ hs => ?_
                refine sno hs fun _ _ hs => ?_
                refine sno hs fun _ _ hs => ?_
                refine sno hs fun _ _ hs => ?_
                refine sno hs fun _ _ hs => ?_
                refine sy hs (y_pick rfl rfl) fun _ _ hs => ?_
                refine RL_nil ?_
                have hrn : run = [] := List.length_eq_zero_iff.1 (by omega)
                rw [show (!run.all (blankBT (decide (g = 1)))) = false by rw [hrn]; rfl]
                exact hs.sub ⟨rfl, rfl, rfl, rfl, rfl, rfl, rfl, rfl, trivial⟩
            · clear hs
              have hs := hI; clear hI
              first | refine W_condP hs rfl (fun hall => ?_) (fun hall => ?_) | refine W_cond hs rfl (fun hall => ?_) (fun hall => ?_)
              · have hne : run.all (blankBT (decide (g = 1))) = false := by simpa using hall
                refine W_region ?_
                refine sy hs (y_move rfl) fun _ _ hs => ?_
                refine sy hs (y_move rfl) fun _ _ hs => ?_
                refine sy hs (y_ldB rfl Tryz.underlying28 rfl ti28 (.head _) (by simp [hS.len])) fun _ _ hs => ?_
                refine sy hs (y_move rfl) fun _ _ hs => ?_
                refine RL_call (stPm hs pmF) rfl has107 rfl rfl (han run hW.all hW.sub (by omega) _ _ _ _ hW.r) (.free rfl) (by decide) ?_; clear hs; (try clear a w)
                rintro _ _ X' a w _ ⟨rfl, r, rfl, hr1, hB⟩ hs
                replace hs := stPm hs pmG
                refine RL_bs1a (r := r) hs rfl Tryz.underlying42 ti44 (by decide) hr1 fun tv _ _ hs => ?_
                refine RL_app1 1 hs rfl rfl rfl Tryz.underlying42 ti44 (by decide) (by omega) fun nv _ _ hs => ?_; simp only [List.set] at hs
                refine sy hs (y_assign rfl) fun _ _ hs => ?_
                refine RL_nil ?_
                exact ⟨_, _, _, by rw [endM, hne]; exact hW.o.append (.one hB), by rw [List.append_assoc]; exact hs.sub ⟨rfl, rfl, rfl, rfl, rfl, rfl, trivial⟩⟩
              · refine W_skip ?_
                have hne : run.all (blankBT (decide (g = 1))) = true := by simpa using hall
                refine ⟨ov, orows, XO, by rw [endM, hne]; exact hW.o, (hs.sub (E' := [(0, v), (2, .int .i64 g), (3, .bool fl), (5, .pointer (some ⟨b5, 0, none⟩)), (9, ov), (11, .int .i64 (j : Int))]) ⟨rfl, rfl, rfl, rfl, rfl, rfl, trivial⟩).subL ?_⟩
                exact .cons_cons _ (.cons_cons _ (.cons _ ((List.Sublist.refl XO).append (List.sublist_append_right XR _))))
          · clear hs
            obtain ⟨ov, orows', XO', hE, hs⟩ := hI
            have hE0 := hE.len
            have hE1 := endM_len (an := an) (plain := decide (g = 1)) (out := out) (run := run)
            replace hs := stPm (hs.nilRow 44 57) pmH
            have hm : Ent.row v 44 57 rows ∈ .blk b5 (.cells s.toArray 28 (0, 0)) :: .row ov 44 57 orows' :: .row (.slice none 0 0) 44 57 [] :: (XO' ++ (XK ++ (.row v 44 57 rows :: L))) := List.mem_append_right (_ :: _ :: _ :: XO') (List.mem_append_right XK (.head _))
            have hRr := Rd.st hs hm
            have hr1 := rows1 hs hm
            refine W_seq fun K15 hK15 => ?_
            refine W_region ?_
            refine sy hs (y_assign rfl) fun _ _ hs => ?_
            refine RL_nil ?_
            refine hK15 _ _ ?_; clear hK15
            refine W_seq fun K16 hK16 => ?_
            refine W_region ?_
            refine sy hs (y_move rfl) fun _ _ hs => ?_
            refine sy hs (y_move rfl) fun _ _ hs => ?_
            refine sy hs (y_lenR0 hRr rfl Tryz.underlying42) fun _ _ hs => ?_
            refine sy hs (y_lss rfl rfl) fun _ _ hs => ?_
            refine RL_nil ?_
            refine hK16 _ _ ?_; clear hK16
            first | refine W_condP hs rfl (fun hj => ?_) (fun hj => ?_) | refine W_cond hs rfl (fun hj => ?_) (fun hj => ?_)
            · obtain ⟨x, hx⟩ : ∃ x, bs[j]? = some x := ⟨_, List.getElem?_eq_getElem (by omega)⟩
              obtain ⟨xk, hxr, hxS⟩ := hO.get hx
              obtain ⟨X1, X2, rfl, hI'⟩ := hW.pass hx hxr (hc2 (by simpa using hc) x hx) hE
              refine W_region ?_
              refine sy hs (y_move rfl) fun _ _ hs => ?_
              refine sy hs (y_move rfl) fun _ _ hs => ?_
              refine sy hs (y_move rfl) fun _ _ hs => ?_
              refine sy hs (y_indexAddr hRr rfl rfl rfl (by omega) Tryz.underlying42 ti44) fun _ _ hs => ?_
              refine sy hs (y_ldRow rfl Tryz.underlying44 rfl ti44 hRr hxr) fun _ _ hs => ?_
              refine RL_bs1a (r := cB x.kind x.node x.idx x.sty x.text xk) hs rfl Tryz.underlying42 ti44 (by decide) (hr1 _ (List.mem_of_getElem? hxr)) fun tv _ _ hs => ?_
              refine RL_app1 1 hs rfl rfl rfl Tryz.underlying42 ti44 (by decide) (by omega) fun nv _ _ hs => ?_; simp only [List.set] at hs
              refine sy hs (y_assign rfl) fun _ _ hs => ?_
              refine RL_nil ?_
              exact ⟨_, _, _, _, _, _, _, _, _, .inl hI', by rw [List.append_assoc]; rw [List.append_assoc] at hs; exact hs.sub ⟨rfl, rfl, rfl, rfl, rfl, rfl, rfl, trivial⟩⟩
            · refine W_skip ?_
              exact ⟨[], [], ov, .slice none 0 0, orows', [], XO', [], XK, .inr ⟨by omega, (hW.done (by omega)) ▸ hE⟩, hs.sub ⟨rfl, rfl, rfl, rfl, rfl, rfl, rfl, trivial⟩⟩
    · obtain ⟨out, run, ov, rv, orows, rrows, XO, XR, XK, hI', hs⟩ := hI
      refine W_region ?_
      refine sy hs (y_move rfl) fun _ _ hs => ?_
      refine sy hs (y_add rfl rfl (wr_i64 (by omega))) fun _ _ hs => ?_
      refine sy hs (y_assign rfl) fun _ _ hs => ?_
      refine RL_nil ?_
      refine hK (j + 1) _ _ (by omega) ⟨out, run, ov, rv, orows, rrows, XO, XR, XK, hI', ?_⟩
      exact hs.sub ⟨rfl, rfl, rfl, rfl, rfl, rfl, rfl, trivial⟩
  · refine W_exit ?_
    refine hB5 _ _ ?_
    refine hK3 _ _ ?_; clear hK3
    refine W_seq fun K17 hK17 => ?_
    refine W_region ?_
    refine sy hs (y_move rfl) fun _ _ hs => ?_
    refine sy hs (y_assign rfl) fun _ _ hs => ?_
    refine RL_nil ?_
    refine hK17 _ _ ?_; clear hK17
    refine W_ret ?_
    refine Rt_1 hs rfl rfl ?_
    rcases hW with hW | ⟨_, hE⟩
    · have := hW.hj
      omega
    refine ⟨_, _, _, rfl, .refl _, hs.cw.sub (L' := (.row ov 44 57 orows :: XO) ++ L) ?_, rfl, orows, XO, rfl, hE⟩
    exact .cons _ (.cons_cons _ (.cons _ ((List.Sublist.refl XO).append (.trans (.cons _ (.refl L)) (.trans (List.sublist_append_right XK _) (List.sublist_append_right XR _))))))
end Go.Proofs.YteicdfkmpnmkmaaGreat
