/-
  Walks and laws of this seat; the base is the text Base.
-/
import Derived.Test.YtklcdfnhdljkjaaDoorS7i
import Derived.Test.YtklcdfnhdljkjaaDoorRows
namespace Go.Proofs.YtklcdfnhdljkjaaDoor
open Go.RowKit Go.Sl
theorem y_assertM {P : Program} {C : World → Prop} {n : Nat} {E : List (Nat × Value)} {d : Option Tmp} {ty : TypeId} {pos : String} {af : Array Edge} {g : Option (Nat × Bool)} {v : Value} {t t' u : TypeId} {x : Operand} {ms : Array (String × TypeId)} (hx : opv E x = some (.iface u v)) (ht : P.underlying t' = some (.interface ms)) (hm : (P.info? u).map (fun it => Instr.missingMethod ms it.methods) = some none) :
    Y P C n E ⟨d, .typeAssert x t t' true, ty, pos, af, g⟩ (.tuple #[.iface u v, .bool true]) := by
  obtain ⟨it, h1, h2⟩ := Option.map_eq_some_iff.1 hm
  exact y_assert hx ht h1 h2
set_option maxRecDepth 20000 in
set_option maxHeartbeats 8000000 in
theorem gsw_ok {f : Fz} {v : Value} : Gives Tryd.prog 105 [.iface 161 v] f (.iface 161 v) := by
  intro w0 L w hC
  refine enter Tryd.func105 rfl Tryd.ntmps105 (by simp) hC fun a hs => ?_
  refine W_seq fun K1 hK1 => ?_
  refine W_region ?_
  refine sy hs (y_assign rfl) ?_; clear hs; (try clear a w); intro a w hs
  refine RL_nil ?_
  refine hK1 _ _ ?_; clear hK1
  refine W_seq fun K2 hK2 => ?_
  refine W_region ?_
  refine sy hs (y_move rfl) ?_; clear hs; (try clear a w); intro a w hs
  refine sy hs (y_assertM rfl Tryd.underlying165 (by kernel_rfl)) ?_; clear hs; (try clear a w); intro a w hs
  refine sy hs (y_move rfl) ?_; clear hs; (try clear a w); intro a w hs
  refine sy hs (y_extract rfl rfl) ?_; clear hs; (try clear a w); intro a w hs
  refine sy hs (y_extract rfl rfl) ?_; clear hs; (try clear a w); intro a w hs
  refine sy hs (y_assign rfl) ?_; clear hs; (try clear a w); intro a w hs
  refine sy hs (y_assign rfl) ?_; clear hs; (try clear a w); intro a w hs
  refine RL_nil ?_
  refine hK2 _ _ ?_; clear hK2
  refine W_seq fun K3 hK3 => ?_
  refine W_seq fun K4 hK4 => ?_
  refine W_region ?_
  refine sy hs (y_move rfl) ?_; clear hs; (try clear a w); intro a w hs
  refine sy hs (y_not rfl) ?_; clear hs; (try clear a w); intro a w hs
  refine RL_nil ?_
  refine hK4 _ _ ?_; clear hK4
  refine W_condF hs rfl ?_
  refine W_skip ?_
  refine hK3 _ _ ?_; clear hK3
  refine W_seq fun K5 hK5 => ?_
  refine W_region ?_
  refine sy hs (y_move rfl) ?_; clear hs; (try clear a w); intro a w hs
  refine sy hs (y_assign rfl) ?_; clear hs; (try clear a w); intro a w hs
  refine RL_nil ?_
  refine hK5 _ _ ?_; clear hK5
  refine W_ret ?_
  refine Rt_1 hs rfl rfl ?_
  exact ⟨rfl, hs.cw⟩
set_option maxRecDepth 20000 in
set_option maxHeartbeats 8000000 in
theorem aws_ok {f : Fz} {wb : Nat} {v : Value} {rows : List (List Value)} {s : ByteArray} {e : TypeId} (hb : rows.length + s.size ≤ 140737488355328) :
    Does Tryd.prog 116 [.pointer (some ⟨wb, 0, none⟩), .string s] f [.blk wb (.cells #[v] e (0, 0)), .row v 5 1 rows] (fun r f' L' => f' = f ∧ r = .tuple #[.int .i64 s.size, .nilIface] ∧ ∃ v', L' = [.blk wb (.cells #[v'] e (0, 0)), .row v' 5 1 (rows ++ (bytesIn s).map fun x => [Value.int .u8 x])]) := by
  intro w0 L w hC
  replace hC : Cw w0 f (.blk wb (.cells #[v] e (0, 0)) :: .row v 5 1 rows :: L) w := hC
  refine enter Tryd.func116 rfl Tryd.ntmps116 (by simp) hC fun a hs => ?_
  refine W_seq fun K1 hK1 => ?_
  refine W_region ?_
  refine sy hs (y_assign rfl) ?_; clear hs; (try clear a w); intro a w hs
  refine sy hs (y_assign rfl) ?_; clear hs; (try clear a w); intro a w hs
  refine RL_nil ?_
  refine hK1 _ _ ?_; clear hK1
  refine W_seq fun K2 hK2 => ?_
  refine W_region ?_
  refine sy hs (y_move rfl) ?_; clear hs; (try clear a w); intro a w hs
  refine sy hs (y_move rfl) ?_; clear hs; (try clear a w); intro a w hs
  first | (refine sy hs (y_nilCheck rfl) ?_; clear hs; (try clear a w); intro a w hs) | (refine sy hs (y_nilE rfl) ?_; clear hs; (try clear a w); intro a w hs)
  first | (refine sy hs (y_ld rfl Tryd.underlying160 rfl) ?_; clear hs; (try clear a w); intro a w hs) | (refine sy hs (y_ldE rfl Tryd.underlying160 rfl) ?_; clear hs; (try clear a w); intro a w hs)
  refine sy hs (y_move rfl) ?_; clear hs; (try clear a w); intro a w hs
  refine RL_appStr 1 hs rfl rfl rfl Tryd.underlying160 Tryd.underlying9 ti5 rfl ⟨by simp only [maxLen]; omega, by omega⟩ ?_; clear hs; (try clear a w); intro v2 a w hs
  have hv2 := hs.one (i := 1) rfl
  first | (refine sy hs (y_nilCheck rfl) ?_; clear hs; (try clear a w); intro a w hs) | (refine sy hs (y_nilE rfl) ?_; clear hs; (try clear a w); intro a w hs)
  refine RL_storeBlk (i := 0) (o := 0) hs rfl rfl rfl ti160 hv2 (by simp) rfl (.free rfl) ?_; clear hs; (try clear a w); intro a w hs
  refine RL_nil ?_
  refine hK2 _ _ ?_; clear hK2
  refine W_seq fun K3 hK3 => ?_
  refine W_region ?_
  refine sy hs (y_move rfl) ?_; clear hs; (try clear a w); intro a w hs
  refine sy hs (y_lenS rfl Tryd.underlying9) ?_; clear hs; (try clear a w); intro a w hs
  refine sy hs (y_assign rfl) ?_; clear hs; (try clear a w); intro a w hs
  refine sy hs (y_assign rfl) ?_; clear hs; (try clear a w); intro a w hs
  refine RL_nil ?_
  refine hK3 _ _ ?_; clear hK3
  refine W_ret ?_
  refine Rt_2 hs rfl rfl rfl ?_
  exact ⟨_, f, [_, _], rfl, .refl _, hs.cw, rfl, rfl, v2, rfl⟩
