/-
  Walks and laws of this seat.
-/
import Derived.Test.YteicdfkmpnmkmaaGreatS13j
import Derived.Test.YteicdfkmpnmkmaaGreatRows
namespace Go.Proofs.YteicdfkmpnmkmaaGreat
set_option linter.unusedVariables false
set_option linter.unusedSimpArgs false
open Go.RowKit Go.Sl
def GivesM (P : Program) (fn : FuncId) (args : List Value) (e : Ent) (v : Value) : Prop := ∀ w0 f L w, e ∈ L → Cw w0 f L w → Calls P fn args.toArray w fun x w' => x = .returned v ∧ Cw w0 f L w'
def tk (g : Int) (fl : Bool) (k : Int) : Bool := if g = 1 then levelK k && (!fl || decide (k ≠ 6)) else decide (k ≠ g)
theorem cB_preL {k n i : Int} {s : Sty} {t : ByteArray} {kv : Value} (hS : StyOK s) : (cB k n i s t kv)[0 + 3 + 41]? = some (.bool (preS s)) := (cB_sty (j := 41) hS.len (by decide)).trans hS.pre
set_option maxRecDepth 20000 in
set_option maxHeartbeats 8000000 in
theorem blank2_ok {v : Value} {pre : Bool} {l : List BT} {rows : List (List Value)} {X : List Ent} (hO : OwnL 44 l rows X) (hsz : l.length ≤ 100000) : GivesM Tryz.prog 106 [v, .bool pre] (.row v 44 57 rows) (.bool (l.all (blankBT pre))) := by
  intro w0 f L w hm hC
  have hbl := hO.len
  have hRr := Rd.ofOwn hm hC
  refine enter Tryz.func106 rfl Tryz.ntmps106 (by simp) hC fun a hs => ?_
  refine W_seq fun K1 hK1 => ?_
  refine W_region ?_
  refine sy hs (y_assign rfl) fun _ _ hs => ?_
  refine RL_nil ?_
  refine hK1 _ _ ?_; clear hK1
  refine W_seq fun K2 hK2 => ?_
  refine W_seq fun K3 hK3 => ?_
  refine W_region ?_
  refine sy hs (y_assign rfl) fun _ _ hs => ?_
  refine RL_nil ?_
  refine hK3 _ _ ?_; clear hK3
  refine W_block fun Qe4 hB4 hO4 => ?_
  refine W_loop (fun (j : Nat) a w => j ≤ l.length ∧ (l.take j).all (blankBT pre) = true ∧ St 43 w0 f L [(0, v), (1, .bool pre), (5, .int .i64 (j : Int))] a w) (fun j => l.length - j) 0 ⟨by omega, rfl, hs.sub ⟨rfl, rfl, rfl, trivial⟩⟩ ?_
  clear hs; rintro j a w ⟨hj, hall, hs⟩ K hK
  refine W_seq fun K5 hK5 => ?_
  refine W_seq fun K6 hK6 => ?_
  refine W_region ?_
  refine sy hs (y_move rfl) fun _ _ hs => ?_
  refine sy hs (y_move rfl) fun _ _ hs => ?_
  refine sy hs (y_lenR0 hRr rfl Tryz.underlying42) fun _ _ hs => ?_
  refine sy hs (y_lss rfl rfl) fun _ _ hs => ?_
  refine RL_nil ?_
  refine hK6 _ _ ?_; clear hK6
  first | refine W_condP hs rfl (fun hlt => ?_) (fun hlt => ?_) | refine W_cond hs rfl (fun hlt => ?_) (fun hlt => ?_)
  · obtain ⟨x, hx⟩ : ∃ x, l[j]? = some x := ⟨_, List.getElem?_eq_getElem (by omega)⟩
    obtain ⟨xk, hxr, hxS⟩ := hO.get hx
    have hjr : j < rows.length := by omega
    have hno : blankBT pre x = false → l.all (blankBT pre) = false := fun h => by
      rw [List.all_eq_false]
      exact ⟨x, List.mem_of_getElem? hx, by rw [h]; decide⟩
    refine W_skip ?_
    refine hK5 _ _ ?_; clear hK5
    refine W_cut (fun a w => blankBT pre x = true ∧ St 43 w0 f L [(0, v), (1, .bool pre), (5, .int .i64 (j : Int))] a w) ?_ (fun a w hI => ?_)
    · refine W_block fun Qe8 hB8 hO8 => ?_
      refine W_seq fun K9 hK9 => ?_
      refine W_cut (fun a w => St 43 w0 f L [(0, v), (1, .bool pre), (5, .int .i64 (j : Int)), (30, .bool (decide (x.kind ≠ 7) || (pre && preS x.sty)))] a w) ?_ (fun a w hI => ?_)
      · refine W_region ?_
        refine sy hs (y_move rfl) fun _ _ hs => ?_
        refine sy hs (y_move rfl) fun _ _ hs => ?_
        refine sy hs (y_indexAddr hRr rfl rfl rfl (by omega) Tryz.underlying42 ti44) fun _ _ hs => ?_
        first | (refine sy hs (y_fieldAddr rfl (FO.of (off := 0) Tryz.underlying44 rfl rfl ti3 (by decide))) ?_; clear hs; (try clear a w); intro a w hs) | (refine sy hs (y_faE rfl (FO.of (off := 0) Tryz.underlying44 rfl rfl ti3 (by decide))) ?_; clear hs; (try clear a w); intro a w hs)
        refine sy hs (y_loadE (u := .int .i64 x.kind) hRr rfl hxr rfl Tryz.underlying3 rfl) fun _ _ hs => ?_
        refine sy hs (y_neq rfl rfl) fun _ _ hs => ?_
        refine sy hs (y_move rfl) fun _ _ hs => ?_
        first | refine St.splitP hs (t := 20) rfl (fun h1 hq => ?_) (fun h1 hq => ?_) | refine St.split hs (t := 20) rfl (fun h1 hq => ?_) (fun h1 hq => ?_)
        · clear hs; have hs := hq; clear hq
          refine sno hs fun _ _ hs => ?_
          refine sno hs fun _ _ hs => ?_
          refine sun hs fun _ _ hs => ?_
          refine sun hs fun _ _ hs => ?_
          refine sun hs fun _ _ hs => ?_
          refine sun hs fun _ _ hs => ?_
          refine sun hs fun _ _ hs => ?_
          refine sun hs fun _ _ hs => ?_
          refine sno hs fun _ _ hs => ?_
          refine sy hs (y_pick rfl rfl) fun _ _ hs => ?_
          refine RL_nil ?_
          rw [decide_eq_true h1]
          exact hs.sub ⟨rfl, rfl, rfl, rfl, trivial⟩
        · clear hs; have hs := hq; clear hq
          refine syg hs (y_move rfl) fun _ _ hs => ?_
          refine syg hs (y_move rfl) fun _ _ hs => ?_
          first | refine St.splitP hs (t := 22) rfl (fun h2 hq => ?_) (fun h2 hq => ?_) | refine St.split hs (t := 22) rfl (fun h2 hq => ?_) (fun h2 hq => ?_)
          · clear hs; have hs := hq; clear hq
            refine syg hs (y_move rfl) fun _ _ hs => ?_
            refine syg hs (y_move rfl) fun _ _ hs => ?_
            refine syg hs (y_indexAddr hRr rfl rfl rfl (by omega) Tryz.underlying42 ti44) fun _ _ hs => ?_
            first | (refine syg hs (y_fieldAddr rfl (FO.of (off := 3) Tryz.underlying44 rfl rfl ti28 (by decide))) ?_; clear hs; (try clear a w); intro a w hs) | (refine syg hs (y_faE rfl (FO.of (off := 3) Tryz.underlying44 rfl rfl ti28 (by decide))) ?_; clear hs; (try clear a w); intro a w hs)
            first | (refine syg hs (y_fieldAddr rfl (FO.of (off := 41) Tryz.underlying28 rfl rfl ti4 (by decide))) ?_; clear hs; (try clear a w); intro a w hs) | (refine syg hs (y_faE rfl (FO.of (off := 41) Tryz.underlying28 rfl rfl ti4 (by decide))) ?_; clear hs; (try clear a w); intro a w hs)
            refine syg hs (y_loadE (u := .bool (preS x.sty)) hRr rfl hxr (cB_preL hxS) Tryz.underlying4 rfl) fun _ _ hs => ?_
            refine syg hs (y_pick rfl rfl) fun _ _ hs => ?_
            refine sy hs (y_pick rfl rfl) fun _ _ hs => ?_
            refine RL_nil ?_
            rw [show (decide (x.kind ≠ 7) || (pre && preS x.sty)) = preS x.sty by rw [decide_eq_false h1, h2]; rfl]
            exact hs.sub ⟨rfl, rfl, rfl, rfl, trivial⟩
          · clear hs; have hs := hq; clear hq
            refine sno hs fun _ _ hs => ?_
            refine sno hs fun _ _ hs => ?_
            refine sno hs fun _ _ hs => ?_
            refine sno hs fun _ _ hs => ?_
            refine sno hs fun _ _ hs => ?_
            refine sno hs fun _ _ hs => ?_
            refine syg hs (y_pick rfl rfl) fun _ _ hs => ?_
            refine sy hs (y_pick rfl rfl) fun _ _ hs => ?_
            refine RL_nil ?_
            rw [show (decide (x.kind ≠ 7) || (pre && preS x.sty)) = false by rw [decide_eq_false h1, h2]; rfl]
            exact hs.sub ⟨rfl, rfl, rfl, rfl, trivial⟩
      · have hs := hI; clear hI
        first | refine W_condP hs rfl (fun hc => ?_) (fun hc => ?_) | refine W_cond hs rfl (fun hc => ?_) (fun hc => ?_)
        · refine W_seq fun K11 hK11 => ?_
          refine W_region ?_
          refine sy hs (y_assign rfl) fun _ _ hs => ?_
          refine RL_nil ?_
          refine hK11 _ _ ?_; clear hK11
          refine W_ret ?_
          refine Rt_1 hs rfl rfl ?_
          exact ⟨by rw [hno]; rw [blankBT, blankB]; by_cases h7 : x.kind = 7 <;> simp_all, hs.cw⟩
        · obtain ⟨hk7, hpl⟩ : x.kind = 7 ∧ (pre && preS x.sty) = false := by simpa using hc
          have hb : blankBT pre x = blankT x.text := by rw [blankBT, blankB, decide_eq_true hk7, hpl]; rfl
          refine W_skip ?_
          refine hK9 _ _ ?_; clear hK9
          refine W_seq fun K12 hK12 => ?_
          refine W_region ?_
          refine sy hs (y_move rfl) fun _ _ hs => ?_
          refine sy hs (y_move rfl) fun _ _ hs => ?_
          refine sy hs (y_indexAddr hRr rfl rfl rfl (by omega) Tryz.underlying42 ti44) fun _ _ hs => ?_
          first | (refine sy hs (y_fieldAddr rfl (FO.of (off := 55) Tryz.underlying44 rfl rfl ti9 (by decide))) ?_; clear hs; (try clear a w); intro a w hs) | (refine sy hs (y_faE rfl (FO.of (off := 55) Tryz.underlying44 rfl rfl ti9 (by decide))) ?_; clear hs; (try clear a w); intro a w hs)
          refine sy hs (y_loadE (u := .string x.text) hRr rfl hxr (cB_text hxS.len) Tryz.underlying9 rfl) fun _ _ hs => ?_
          refine RL_range hs rfl Tryz.underlying9 fun bi _ _ hs => ?_
          refine RL_nil ?_
          refine hK12 _ _ ?_; clear hK12
          refine W_block fun Qe13 hB13 hO13 => ?_
          refine W_loop (fun (p : Nat) a w => BlI x.text p ∧ St 43 w0 f (.blk bi (.stringIter x.text p) :: L) [(0, v), (1, .bool pre), (5, .int .i64 (j : Int)), (36, .pointer (some ⟨bi, 0, none⟩))] a w) (fun p => x.text.size - p) 0 ⟨BlI.zero x.text, hs.sub ⟨rfl, rfl, rfl, rfl, trivial⟩⟩ ?_
          clear hs; rintro p a w ⟨hP, hs⟩ K2 hK2
          refine W_seq fun K14 hK14 => ?_
          refine W_region ?_
          refine RL_next (i := 0) hs rfl rfl (fun hp => ?_) (fun hp => ?_)
          · clear hs; (try clear a w); intro a w hs; simp only [List.set] at hs
            refine sy hs (y_extract rfl rfl) fun _ _ hs => ?_
            refine RL_nil ?_
            refine hK14 _ _ ?_; clear hK14
            refine W_seq fun K15 hK15 => ?_
            refine W_condT hs rfl ?_
            refine W_skip ?_
            refine hK15 _ _ ?_; clear hK15
            refine W_block fun Qe16 hB16 hO16 => ?_
            refine W_seq fun K17 hK17 => ?_
            refine W_region ?_
            refine sy hs (y_extract rfl rfl) fun _ _ hs => ?_
            refine sy hs (y_assign rfl) fun _ _ hs => ?_
            refine RL_nil ?_
            refine hK17 _ _ ?_; clear hK17
            refine W_seq fun K18 hK18 => ?_
            refine W_region ?_
            refine sy hs (y_move rfl) fun _ _ hs => ?_
            refine sy hs (y_call rfl has45 rfl blankR_ok) fun _ _ hs => ?_
            refine sy hs (y_not rfl) fun _ _ hs => ?_
            refine RL_nil ?_
            refine hK18 _ _ ?_; clear hK18
            first | refine W_condP hs rfl (fun r4 => ?_) (fun r4 => ?_) | refine W_cond hs rfl (fun r4 => ?_) (fun r4 => ?_)
            · refine W_seq fun K19 hK19 => ?_
              refine W_region ?_
              refine sy hs (y_assign rfl) fun _ _ hs => ?_
              refine RL_nil ?_
              refine hK19 _ _ ?_; clear hK19
              refine W_ret ?_
              refine Rt_1 hs rfl rfl ?_
              exact ⟨by rw [hno (by rw [hb]; exact hP.no hp (by simpa [wsR] using r4))], hs.cw.tail⟩
            · refine W_skip ?_
              have := dec_pos x.text p
              exact hK2 _ _ _ (by omega) ⟨hP.next hp (by simp at r4; simp only [wsR, Bool.or_eq_true, decide_eq_true_eq]; omega), hs.sub ⟨rfl, rfl, rfl, rfl, trivial⟩⟩
          · clear hs; (try clear a w); intro a w hs
            refine sy hs (y_extract rfl rfl) fun _ _ hs => ?_
            refine RL_nil ?_
            refine hK14 _ _ ?_; clear hK14
            refine W_seq fun K20 hK20 => ?_
            refine W_condF hs rfl ?_
            refine W_exit ?_
            refine hB13 _ _ ?_
            exact ⟨by rw [hb]; exact hP.done hp, hs.tail.sub ⟨rfl, rfl, rfl, trivial⟩⟩
    · obtain ⟨hbt, hs⟩ := hI
      refine W_region ?_
      refine sy hs (y_move rfl) fun _ _ hs => ?_
      refine sy hs (y_add rfl rfl (wr_i64 (by omega))) fun _ _ hs => ?_
      refine sy hs (y_assign rfl) fun _ _ hs => ?_
      refine RL_nil ?_
      refine hK (j + 1) _ _ (by omega) ⟨by omega, ?_, hs.sub ⟨rfl, rfl, rfl, trivial⟩⟩
      rw [all_take hx, hall, hbt]; rfl
  · refine W_exit ?_
    refine hB4 _ _ ?_
    refine hK2 _ _ ?_; clear hK2
    refine W_seq fun K21 hK21 => ?_
    refine W_region ?_
    refine sy hs (y_assign rfl) fun _ _ hs => ?_
    refine RL_nil ?_
    refine hK21 _ _ ?_; clear hK21
    refine W_ret ?_
    refine Rt_1 hs rfl rfl ?_
    have hj : j = l.length := by omega
    subst hj
    rw [List.take_length] at hall
    exact ⟨by rw [hall], hs.cw⟩
end Go.Proofs.YteicdfkmpnmkmaaGreat
