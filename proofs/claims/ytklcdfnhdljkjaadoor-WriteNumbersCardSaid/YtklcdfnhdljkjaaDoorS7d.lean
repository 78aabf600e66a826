/-
  Walks and laws of this seat; the base is the text Base.
-/
import Derived.Test.YtklcdfnhdljkjaaDoorS7c
namespace Go.Proofs.YtklcdfnhdljkjaaDoor
open Go.RowKit Go.Sl
section
variable {f : Fz} {L : List Ent} {w0 w : World} {b nb : Nat} {val : ByteArray} {pr : Int} {gc : Array Value}
set_option maxRecDepth 20000 in
set_option maxHeartbeats 8000000 in
/-- A text whose first byte has no node yet comes to the root. -/
theorem add_root {key rest : ByteArray} {tv : Value} {rows : List (List Value)} {c m : Nat} {Q : Nat → List Ent → Prop} (hk : key ≠ bs []) (hc : getS key 0 = some (c : Int)) (hcl : c < 256) (he0 : key.extract 1 key.size = rest) (h1 : 1 ≤ key.size)
    (h2 : gc[2]? = some (.string (bs []))) (h4 : gc[4]? = some tv) (hm : gc[6 + c * 1]? = some (.int .u8 m)) (hr : rows[m]? = some [.pointer none])
    (hp : ∀ n1, Does Tryd.prog 59 [.pointer (some ⟨n1, 0, none⟩), .string rest, .string val, .int .i64 pr, .pointer (some ⟨b, 0, none⟩)] f [.blk n1 (.cells (node (bs []) 0 (bs []) (.pointer none) (.slice none 0 0)) 125 (0, 0))] (fun _ f' L' => f' = f ∧ Q n1 L')) :
    Does Tryd.prog 59 [.pointer (some ⟨b, 0, none⟩), .string key, .string val, .int .i64 pr, .pointer (some ⟨b, 0, none⟩)] f [.blk b (.cells gc 127 (0, 0)), .row tv 122 1 rows]
    (fun _ f' L' => f' = f ∧ ∃ n1 LX, Q n1 LX ∧ L' = LX ++ [.blk b (.cells gc 127 (0, 0)), .row tv 122 1 (rows.set m [.pointer (some ⟨n1, 0, none⟩)])]) := by
  intro w0 L w hC
  replace hC : Cw w0 f (.blk b (.cells gc 127 (0, 0)) :: .row tv 122 1 rows :: L) w := hC
  have hmr : m < rows.length := (List.getElem?_eq_some_iff.1 hr).1
  refine enter Tryd.func59 rfl Tryd.ntmps59 (by simp) hC fun a hs => ?_
  obtain ⟨ad, cap, htv⟩ : ∃ ad cap, tv = .slice (some ad) rows.length cap := by
    obtain ⟨ao, cap, h, _, hn, _⟩ := (Rd.st hs (.tail _ (.head _))).val
    cases ao with
    | none => rw [hn rfl] at hmr; simp at hmr
    | some ad => exact ⟨ad, cap, h⟩
  refine W_seq fun K1 hK1 => ?_
  refine W_seq fun K2 hK2 => ?_
  refine W_region ?_
  refine sy hs (y_move rfl) ?_; clear hs; intro a w hs
  refine sy hs (y_seql rfl rfl) ?_; clear hs; intro a w hs
  refine RL_nil ?_
  rw [decide_eq_false (show ¬ key = ⟨#[]⟩ from hk)] at hs
  refine hK2 _ _ ?_; clear hK2
  refine W_condF hs rfl ?_
  refine W_skip ?_
  refine hK1 _ _ ?_; clear hK1
  refine W_seq fun K3 hK3 => ?_
  refine W_region ?_
  refine sy hs (y_move rfl) ?_; clear hs; intro a w hs
  refine sy hs (y_nilCheck rfl) ?_; clear hs; intro a w hs
  refine sy (v := .pointer (some ⟨b, 2, none⟩)) hs (y_fieldAddr rfl (FO.of (off := 2) Tryd.underlying125 rfl rfl ti9 (by decide))) ?_; clear hs; intro a w hs
  refine sy hs (y_ld rfl Tryd.underlying9 rfl (Cell.blk (.head _) h2)) ?_; clear hs; intro a w hs
  refine sy hs (y_sneq rfl rfl) ?_; clear hs; intro a w hs
  refine RL_nil ?_
  rw [decide_eq_false (show ¬ bs [] ≠ ⟨#[]⟩ from fun h => h rfl)] at hs
  refine hK3 _ _ ?_; clear hK3
  refine W_condF hs rfl ?_
  refine W_seq fun K4 hK4 => ?_
  refine W_region ?_
  refine sy hs (y_move rfl) ?_; clear hs; intro a w hs
  refine sy hs (y_nilCheck rfl) ?_; clear hs; intro a w hs
  refine sy (v := .pointer (some ⟨b, 4, none⟩)) hs (y_fieldAddr rfl (FO.of (off := 4) Tryd.underlying125 rfl rfl ti123 (by decide))) ?_; clear hs; intro a w hs
  refine sy hs (y_ld rfl Tryd.underlying123 rfl (Cell.blk (.head _) (htv ▸ h4))) ?_; clear hs; intro a w hs
  refine sy hs (y_slNeq rfl Tryd.underlying123) ?_; clear hs; intro a w hs
  refine RL_nil ?_
  refine hK4 _ _ ?_; clear hK4
  refine W_condT hs rfl ?_
  refine W_seq fun K5 hK5 => ?_
  refine W_draw hs mixed (by kernel_rfl) ?_; intro a he
  refine qy he (y_move rfl) ?_; clear he; intro a he
  refine qy he (y_move rfl) ?_; clear he; intro a he
  refine qy he (y_ixW rfl rfl Tryd.underlying9 hc) ?_; clear he; intro a he
  refine qy he (y_nilCheck rfl) ?_; clear he; intro a he
  refine qy (v := .pointer (some ⟨b, 6, none⟩)) he (y_fieldAddr rfl (FO.of (off := 6) Tryd.underlying127 rfl rfl ti87 (by decide))) ?_; clear he; intro a he
  refine qy he (y_ixArr (j := c) rfl rfl Tryd.underlying87 ti5 rfl hcl) ?_; clear he; intro a he
  refine qy he (y_ld rfl Tryd.underlying5 rfl (Cell.blk (.head _) hm)) ?_; clear he; intro a he
  refine qy he (y_assign rfl) ?_; clear he; intro a he
  refine QL_nil he ?_; clear he hs; intro a w hs
  refine hK5 _ _ ?_; clear hK5
  refine W_seq fun K6 hK6 => ?_
  refine W_seq fun K7 hK7 => ?_
  refine W_region ?_
  refine sy hs (y_move rfl) ?_; clear hs; intro a w hs
  refine sy hs (y_nilCheck rfl) ?_; clear hs; intro a w hs
  refine sy (v := .pointer (some ⟨b, 4, none⟩)) hs (y_fieldAddr rfl (FO.of (off := 4) Tryd.underlying125 rfl rfl ti123 (by decide))) ?_; clear hs; intro a w hs
  refine sy (v := tv) hs (y_ld rfl Tryd.underlying123 rfl (Cell.blk (.head _) h4)) ?_; clear hs; intro a w hs
  refine sy hs (y_move rfl) ?_; clear hs; intro a w hs
  refine sy hs (y_indexAddr (Rd.st hs (.tail _ (.head _))) rfl rfl rfl hmr Tryd.underlying123 ti122) ?_; clear hs; intro a w hs
  refine sy hs (y_loadE (i := m) (j := 0) (Rd.st hs (.tail _ (.head _))) rfl hr rfl Tryd.underlying122 rfl) ?_; clear hs; intro a w hs
  refine sy hs (y_pnn rfl rfl Tryd.underlying122) ?_; clear hs; intro a w hs
  refine RL_nil ?_
  refine hK7 _ _ ?_; clear hK7
  refine W_condT hs rfl ?_
  refine W_region ?_
  refine sy hs (y_move rfl) ?_; clear hs; intro a w hs
  refine sy hs (y_nilCheck rfl) ?_; clear hs; intro a w hs
  refine sy (v := .pointer (some ⟨b, 4, none⟩)) hs (y_fieldAddr rfl (FO.of (off := 4) Tryd.underlying125 rfl rfl ti123 (by decide))) ?_; clear hs; intro a w hs
  refine sy (v := tv) hs (y_ld rfl Tryd.underlying123 rfl (Cell.blk (.head _) h4)) ?_; clear hs; intro a w hs
  refine sy hs (y_move rfl) ?_; clear hs; intro a w hs
  refine RL_alloc hs ti125 (.free rfl) (by decide) ?_; clear hs; intro n1 a w hs
  replace hs : St _ _ _ (.blk n1 (.cells (node (bs []) 0 (bs []) (.pointer none) (.slice none 0 0)) 125 (0, 0)) :: .blk b (.cells gc 127 (0, 0)) :: .row tv 122 1 rows :: L) _ _ _ := hs
  refine sy hs (y_indexAddr (Rd.st hs (.tail _ (.tail _ (.head _)))) rfl rfl rfl hmr Tryd.underlying123 ti122) ?_; clear hs; intro a w hs
  refine sstoreRow (m := m) 2 hs rfl rfl rfl hr ti122 rfl ?_; clear hs; intro a w hs
  replace hs : St _ _ _ (.blk n1 (.cells (node (bs []) 0 (bs []) (.pointer none) (.slice none 0 0)) 125 (0, 0)) :: .blk b (.cells gc 127 (0, 0)) :: .row tv 122 1 (rows.set m [.pointer (some ⟨n1, 0, none⟩)]) :: L) _ _ _ := hs
  refine RL_nil ?_
  refine hK6 _ _ ?_; clear hK6
  have hRD : Rd f [.blk b (.cells gc 127 (0, 0)), .row tv 122 1 (rows.set m [.pointer (some ⟨n1, 0, none⟩)])] tv 1 (rows.set m [.pointer (some ⟨n1, 0, none⟩)]) := Rd.ofOwn (.tail _ (.head _)) (hs.cw.sub (.cons _ (.cons_cons _ (.cons_cons _ (List.nil_sublist _)))))
  have hmr2 : m < (rows.set m [.pointer (some ⟨n1, 0, none⟩)]).length := by simpa using hmr
  have hr2 : (rows.set m [.pointer (some ⟨n1, 0, none⟩)])[m]? = some [.pointer (some ⟨n1, 0, none⟩)] := List.getElem?_set_self hmr
  refine D_start hs ([.blk b (.cells gc 127 (0, 0)), .row tv 122 1 (rows.set m [.pointer (some ⟨n1, 0, none⟩)])]) [12] [(0, true), (1, true), (2, true), (3, true), (4, true), (5, true), (6, true), (7, true), (8, true), (9, true), (10, true), (11, true), (12, false)] mixed (by kernel_rfl) ?_; clear hs; intro a he
  refine dy 0 he rfl (y_move rfl) ?_; clear he; intro a he
  refine dy 1 he rfl (y_nilCheck rfl) ?_; clear he; intro a he
  refine dy (v := .pointer (some ⟨b, 4, none⟩)) 2 he rfl (y_fieldAddr rfl (FO.of (off := 4) Tryd.underlying125 rfl rfl ti123 (by decide))) ?_; clear he; intro a he
  refine dy (v := tv) 3 he rfl (y_ld rfl Tryd.underlying123 rfl (Cell.blk (.head _) h4)) ?_; clear he; intro a he
  refine dy 4 he rfl (y_move rfl) ?_; clear he; intro a he
  refine dy 5 he rfl (y_indexAddr hRD rfl rfl rfl hmr2 Tryd.underlying123 ti122) ?_; clear he; intro a he
  refine dy 6 he rfl (y_loadE (i := m) (j := 0) hRD rfl hr2 rfl Tryd.underlying122 rfl) ?_; clear he; intro a he
  refine dy 7 he rfl (y_move rfl) ?_; clear he; intro a he
  refine dy 8 he rfl (y_sliceSV (lo := 1) (hi := key.size) he0 rfl Tryd.underlying9 (.inr ⟨_, rfl, rfl⟩) (.inl ⟨rfl, rfl⟩) h1 (Nat.le_refl _)) ?_; clear he; intro a he
  refine dy 9 he rfl (y_move rfl) ?_; clear he; intro a he
  refine dy 10 he rfl (y_move rfl) ?_; clear he; intro a he
  refine dy 11 he rfl (y_move rfl) ?_; clear he; intro a he
  refine D_eff (i := 12) rfl he ?_; clear he; intro a w hs
  refine RL_call (Lr := [.blk n1 (.cells (node (bs []) 0 (bs []) (.pointer none) (.slice none 0 0)) 125 (0, 0))]) (Lf := .blk b (.cells gc 127 (0, 0)) :: .row tv 122 1 (rows.set m [.pointer (some ⟨n1, 0, none⟩)]) :: L) hs rfl has59 rfl rfl (hp n1) (.free rfl) (by decide) ?_; clear hs
  rintro _ _ LX a w _ ⟨rfl, hQ⟩ hs
  refine dend hs ?_; clear hs; intro a he
  refine D_nil he ?_; clear he; intro w hs
  refine RtV0 hs rfl ?_
  exact ⟨_, _, LX ++ [_, _], rfl, .refl _, by rw [List.append_assoc]; exact hs.cw, rfl, n1, LX, hQ, rfl⟩
end
end Go.Proofs.YtklcdfnhdljkjaaDoor
