/-
  Walks and laws of this seat.
-/
import Derived.Test.YtpfdbeafdjnbnaaGreatDoorS7a
import Derived.Test.YtpfdbeafdjnbnaaGreatDoorBash
namespace Go.Proofs.YtpfdbeafdjnbnaaGreatDoor
set_option linter.unusedVariables false
set_option linter.unusedSimpArgs false
set_option linter.unusedSectionVars false
section
open Go.RowKit Go.Sl
section
variable {f : Fz} {L : List Ent} {w0 w : World} {b : Nat} {cs : Array Value} {e : TypeId}
set_option maxRecDepth 20000 in
set_option maxHeartbeats 4000000 in
theorem zvi {g : FuncId} {r : Value} {Q : Fz → Array Value → List Ent → Prop} (hg : Has Tryz.prog g) (h0 : cs[0]? = some (.int .u32 0)) (h1 : cs[1]? = some (.int .i32 0))
    (hp : Does Tryz.prog g [r] f [.blk b (.cells (cs.setIfInBounds 1 (.int .i32 1)) e (0,0))] (fun _ f' L' => ∃ cs2 LX, L' = .blk b (.cells cs2 e (0,0)) :: LX ∧ (∃ x, cs2[0]? = some x) ∧ cs2[1]? = some (.int .i32 1) ∧ Q f' cs2 LX)) :
    Does Tryz.prog 61 [pq b 0, .func (.func g) #[r] #[]] f [.blk b (.cells cs e (0,0))] (fun _ f' L' => ∃ cs2 LX, L' = .blk b (.cells ((cs2.setIfInBounds 0 (.int .u32 1)).setIfInBounds 1 (.int .i32 0)) e (0,0)) :: LX ∧ Q f' cs2 LX) := by
  intro w0 L w hC
  replace hC : Cw w0 f (.blk b (.cells cs e (0,0)) :: L) w := hC
  refine enterDf Tryz.func61 rfl Tryz.ntmps61 (by simp) hC fun a hs => ?_
  refine WD_seq fun K1 hK1 => ?_
  refine za2 ?_
  refine sy hs (za3 rfl) ?_; clear hs; intro a w hs
  refine sy hs (za5 rfl) ?_; clear hs; intro a w hs
  refine sy (v := pq b 1) hs (za1 rfl (FO.of (off := 1) U85 rfl rfl ti83 (by decide))) ?_; clear hs; intro a w hs
  refine zbb (Lr := [.blk b (.cells cs e (0,0))]) (Lf := L) hs rfl has94 rfl rfl (lock_ok h1) (.free rfl) (by decide) ?_; clear hs
  rintro _ _ _ a w _ ⟨rfl, rfl⟩ hs
  refine za0 ?_
  refine hK1 _ _ ?_; clear hK1
  refine zrx rfl rfl rfl ?_
  refine sy hs (za3 rfl) ?_; clear hs; intro a w hs
  refine sy hs (za5 rfl) ?_; clear hs; intro a w hs
  refine sy (v := pq b 1) hs (za1 rfl (FO.of (off := 1) U85 rfl rfl ti83 (by decide))) ?_; clear hs; intro a w hs
  refine za0 ?_
  refine ⟨_, zow hs.ev rfl rfl, ?_⟩
  refine WD_seq fun K2 hK2 => ?_
  refine za2 ?_
  refine sy hs (za3 rfl) ?_; clear hs; intro a w hs
  refine sy hs (za5 rfl) ?_; clear hs; intro a w hs
  refine sy (v := pq b 0) hs (za1 rfl (FO.of (off := 0) U85 rfl rfl ti79 (by decide))) ?_; clear hs; intro a w hs
  refine sy hs (zni rfl has60 rfl (fun w hw => ztf (i := 0) (Cell.blk (.head _) (by rw [Array.getElem?_setIfInBounds]; simpa using h0)) hw)) ?_; clear hs; intro a w hs
  refine sy hs (zfc rfl) ?_; clear hs; intro a w hs
  refine za0 ?_
  refine hK2 _ _ ?_; clear hK2
  refine WD_condT hs rfl ?_
  refine zrx rfl rfl rfl ?_
  refine sy hs (za3 rfl) ?_; clear hs; intro a w hs
  refine sy hs (za5 rfl) ?_; clear hs; intro a w hs
  refine sy (v := pq b 0) hs (za1 rfl (FO.of (off := 0) U85 rfl rfl ti79 (by decide))) ?_; clear hs; intro a w hs
  refine za0 ?_
  refine ⟨_, zow hs.ev rfl rfl, ?_⟩
  refine WD_end ?_
  refine za2 ?_
  refine sy hs (za3 rfl) ?_; clear hs; intro a w hs
  refine RL_callF (fs := [r]) (vs := []) (Lr := [.blk b (.cells (cs.setIfInBounds 1 (.int .i32 1)) e (0,0))]) (Lf := L) hs rfl hg rfl rfl hp (.free rfl) (by decide) ?_; clear hs
  rintro _ f2 _ a w hf2 ⟨cs2, LX, rfl, ⟨x, hx⟩, hm, hQ⟩ hs
  refine za0 ?_
  refine leaves_cons (f := 96) (args := #[pq b 0, .bool true]) (by simp) (by simp [invoke, zi7 has96]) ?_
  refine CallsD.mono (bstore_d hx hs.cw) ?_
  rintro _ _ w ⟨rfl, rfl, hC⟩
  refine leaves_cons (f := 95) (args := #[pq b 1]) (by simp [settle]) (by simp [invoke, zi7 has95]) ?_
  refine CallsD.mono (unlock_d (o := 1) (by rw [Array.getElem?_setIfInBounds]; simpa using hm) hC) ?_
  rintro _ _ w ⟨rfl, rfl, hC⟩
  exact ⟨_, results_none rfl _ _ _, _, f2, _, rfl, hf2, hC, cs2, LX, rfl, hQ⟩
set_option maxRecDepth 20000 in
set_option maxHeartbeats 4000000 in
theorem Do_ok {g : FuncId} {r : Value} {Q : Fz → Array Value → List Ent → Prop} (hg : Has Tryz.prog g) (h0 : cs[0]? = some (.int .u32 0)) (h1 : cs[1]? = some (.int .i32 0))
    (hp : Does Tryz.prog g [r] f [.blk b (.cells (cs.setIfInBounds 1 (.int .i32 1)) e (0,0))] (fun _ f' L' => ∃ cs2 LX, L' = .blk b (.cells cs2 e (0,0)) :: LX ∧ (∃ x, cs2[0]? = some x) ∧ cs2[1]? = some (.int .i32 1) ∧ Q f' cs2 LX)) :
    Does Tryz.prog 34 [pq b 0, .func (.func g) #[r] #[]] f [.blk b (.cells cs e (0,0))] (fun _ f' L' => ∃ cs2 LX, L' = .blk b (.cells ((cs2.setIfInBounds 0 (.int .u32 1)).setIfInBounds 1 (.int .i32 0)) e (0,0)) :: LX ∧ Q f' cs2 LX) := by
  intro w0 L w hC
  replace hC : Cw w0 f (.blk b (.cells cs e (0,0)) :: L) w := hC
  refine enter Tryz.func34 rfl Tryz.ntmps34 (by simp) hC fun a hs => ?_
  refine zai fun K1 hK1 => ?_
  refine za2 ?_
  refine sy hs (za3 rfl) ?_; clear hs; intro a w hs
  refine sy hs (za5 rfl) ?_; clear hs; intro a w hs
  refine sy (v := pq b 0) hs (za1 rfl (FO.of (off := 0) U85 rfl rfl ti79 (by decide))) ?_; clear hs; intro a w hs
  refine sy hs (zni rfl has60 rfl (fun w hw => ztf (i := 0) (Cell.blk (.head _) h0) hw)) ?_; clear hs; intro a w hs
  refine sy hs (zfc rfl) ?_; clear hs; intro a w hs
  refine za0 ?_
  refine hK1 _ _ ?_; clear hK1
  refine zdq hs rfl ?_
  refine za2 ?_
  refine sy hs (za3 rfl) ?_; clear hs; intro a w hs
  refine sy hs (za3 rfl) ?_; clear hs; intro a w hs
  refine zbb (Lr := [.blk b (.cells cs e (0,0))]) (Lf := L) hs rfl has61 rfl rfl (zvi hg h0 h1 hp) (.free rfl) (by decide) ?_; clear hs
  rintro _ f2 _ a w hf2 ⟨cs2, LX, rfl, hQ⟩ hs
  refine za0 ?_
  refine RtV0 hs rfl ?_
  exact ⟨_, f2, _, rfl, hf2, hs.cw, cs2, LX, rfl, hQ⟩
end
end
section
open Go.RowKit Go.Sl
section
variable {f : Fz} {L : List Ent} {w0 w : World} {b nb : Nat} {gp : Value} {val : ByteArray} {pr : Int}
abbrev node (v : ByteArray) (p : Int) (pre : ByteArray) (nx tb : Value) : Array Value := #[.string v, .int .i64 p, .string pre, nx, tb]
set_option maxRecDepth 20000 in
set_option maxHeartbeats 4000000 in
theorem zvq {v0 pre : ByteArray} {nx tb : Value} : Does Tryz.prog 113 [pq nb 0, .string (bs []), .string val, .int .i64 pr, gp] f [.blk nb (.cells (node v0 0 pre nx tb) 181 (0,0))] (fun _ f' L' => f' = f ∧ L' = [.blk nb (.cells (node val pr pre nx tb) 181 (0,0))]) := by
  intro w0 L w hC
  replace hC : Cw w0 f (.blk nb (.cells (node v0 0 pre nx tb) 181 (0,0)) :: L) w := hC
  refine enter Tryz.func113 rfl Tryz.ntmps113 (by simp) hC fun a hs => ?_
  refine zai fun K1 hK1 => ?_
  refine zai fun K2 hK2 => ?_
  refine za2 ?_
  refine sy hs (za3 rfl) ?_; clear hs; intro a w hs
  refine sy hs (zcs rfl rfl) ?_; clear hs; intro a w hs
  refine za0 ?_
  rw [decide_eq_true (show bs [] = ⟨#[]⟩ from rfl)] at hs
  refine hK2 _ _ ?_; clear hK2
  refine zdq hs rfl ?_
  refine zai fun K3 hK3 => ?_
  refine zai fun K4 hK4 => ?_
  refine za2 ?_
  refine sy hs (za3 rfl) ?_; clear hs; intro a w hs
  refine sy hs (za5 rfl) ?_; clear hs; intro a w hs
  refine sy (v := pq nb 1) hs (za1 rfl (FO.of (off := 1) U181 rfl rfl ti3 (by decide))) ?_; clear hs; intro a w hs
  refine sy (v := .int .i64 0) hs (y_ld rfl U3 rfl (Cell.blk (.head _) rfl)) ?_; clear hs; intro a w hs
  refine sy hs (zct rfl rfl) ?_; clear hs; intro a w hs
  refine za0 ?_
  refine hK4 _ _ ?_; clear hK4
  refine zdq hs rfl ?_
  refine zai fun K5 hK5 => ?_
  refine za2 ?_
  refine sy hs (za3 rfl) ?_; clear hs; intro a w hs
  refine sy hs (za3 rfl) ?_; clear hs; intro a w hs
  refine sy hs (za5 rfl) ?_; clear hs; intro a w hs
  refine sy (v := pq nb 0) hs (za1 rfl (FO.of (off := 0) U181 rfl rfl ti9 (by decide))) ?_; clear hs; intro a w hs
  refine zda (i := 0) (o := 0) (u := .string val) hs rfl rfl rfl ti9 rfl (by simp) rfl (.free rfl) ?_; clear hs; intro a w hs
  refine za0 ?_
  refine hK5 _ _ ?_; clear hK5
  refine za2 ?_
  refine sy hs (za3 rfl) ?_; clear hs; intro a w hs
  refine sy hs (za3 rfl) ?_; clear hs; intro a w hs
  refine sy hs (za5 rfl) ?_; clear hs; intro a w hs
  refine sy (v := pq nb 1) hs (za1 rfl (FO.of (off := 1) U181 rfl rfl ti3 (by decide))) ?_; clear hs; intro a w hs
  refine zda (i := 0) (o := 1) (u := .int .i64 pr) hs rfl rfl rfl ti3 rfl (by simp) rfl (.free rfl) ?_; clear hs; intro a w hs
  refine za0 ?_
  refine hK3 _ _ ?_; clear hK3
  refine zax ?_
  refine RtV0 hs rfl ?_
  exact ⟨_, f,[_], rfl, .refl _, hs.cw, rfl, rfl⟩
set_option maxRecDepth 20000 in
set_option maxHeartbeats 4000000 in
/-- A text of some bytes comes to a fresh node. -/
theorem add_one {key : ByteArray} (hk : key ≠ bs []) : Does Tryz.prog 113 [pq nb 0, .string key, .string val, .int .i64 pr, gp] f [.blk nb (.cells (node (bs []) 0 (bs []) (.pointer none) (.slice none 0 0)) 181 (0,0))]
    (fun _ f' L' => f' = f ∧ ∃ n2, L' = [.blk n2 (.cells (node val pr (bs []) (.pointer none) (.slice none 0 0)) 181 (0,0)), .blk nb (.cells (node (bs []) 0 key (pq n2 0) (.slice none 0 0)) 181 (0,0))]) := by
  intro w0 L w hC
  replace hC : Cw w0 f (.blk nb (.cells (node (bs []) 0 (bs []) (.pointer none) (.slice none 0 0)) 181 (0,0)) :: L) w := hC
  refine enter Tryz.func113 rfl Tryz.ntmps113 (by simp) hC fun a hs => ?_
  refine zai fun K1 hK1 => ?_
  refine zai fun K2 hK2 => ?_
  refine za2 ?_
  refine sy hs (za3 rfl) ?_; clear hs; intro a w hs
  refine sy hs (zcs rfl rfl) ?_; clear hs; intro a w hs
  refine za0 ?_
  rw [decide_eq_false (show ¬ key = ⟨#[]⟩ from hk)] at hs
  refine hK2 _ _ ?_; clear hK2
  refine zdj hs rfl ?_
  refine zaj ?_
  refine hK1 _ _ ?_; clear hK1
  refine zai fun K3 hK3 => ?_
  refine za2 ?_
  refine sy hs (za3 rfl) ?_; clear hs; intro a w hs
  refine sy hs (za5 rfl) ?_; clear hs; intro a w hs
  refine sy (v := pq nb 2) hs (za1 rfl (FO.of (off := 2) U181 rfl rfl ti9 (by decide))) ?_; clear hs; intro a w hs
  refine sy (v := .string (bs [])) hs (y_ld rfl U9 rfl (Cell.blk (.head _) rfl)) ?_; clear hs; intro a w hs
  refine sy hs (zhr rfl rfl) ?_; clear hs; intro a w hs
  refine za0 ?_
  rw [decide_eq_false (show ¬ bs [] ≠ ⟨#[]⟩ from fun h => h rfl)] at hs
  refine hK3 _ _ ?_; clear hK3
  refine zdj hs rfl ?_
  refine zai fun K4 hK4 => ?_
  refine za2 ?_
  refine sy hs (za3 rfl) ?_; clear hs; intro a w hs
  refine sy hs (za5 rfl) ?_; clear hs; intro a w hs
  refine sy (v := pq nb 4) hs (za1 rfl (FO.of (off := 4) U181 rfl rfl ti179 (by decide))) ?_; clear hs; intro a w hs
  refine sy (v := .slice none 0 0) hs (y_ld rfl U179 rfl (Cell.blk (.head _) rfl)) ?_; clear hs; intro a w hs
  refine sy hs (znh rfl U179) ?_; clear hs; intro a w hs
  refine za0 ?_
  refine hK4 _ _ ?_; clear hK4
  refine zdj hs rfl ?_
  refine zai fun K5 hK5 => ?_
  refine za2 ?_
  refine sy hs (za3 rfl) ?_; clear hs; intro a w hs
  refine sy hs (za3 rfl) ?_; clear hs; intro a w hs
  refine sy hs (za5 rfl) ?_; clear hs; intro a w hs
  refine sy (v := pq nb 2) hs (za1 rfl (FO.of (off := 2) U181 rfl rfl ti9 (by decide))) ?_; clear hs; intro a w hs
  refine zda (i := 0) (o := 2) (u := .string key) hs rfl rfl rfl ti9 rfl (by simp) rfl (.free rfl) ?_; clear hs; intro a w hs
  refine za0 ?_
  refine hK5 _ _ ?_; clear hK5
  refine zai fun K6 hK6 => ?_
  refine za2 ?_
  refine sy hs (za3 rfl) ?_; clear hs; intro a w hs
  refine zbl hs ti181 (.free rfl) (by decide) ?_; clear hs; intro n2 a w hs
  refine sy hs (za5 rfl) ?_; clear hs; intro a w hs
  refine sy (v := pq nb 3) hs (za1 rfl (FO.of (off := 3) U181 rfl rfl ti178 (by decide))) ?_; clear hs; intro a w hs
  refine zda (i := 1) (o := 3) (u := pq n2 0) hs rfl rfl rfl ti178 rfl (by simp) rfl (.free rfl) ?_; clear hs; intro a w hs
  refine za0 ?_
  refine hK6 _ _ ?_; clear hK6
  refine za2 ?_
  refine sy hs (za3 rfl) ?_; clear hs; intro a w hs
  refine sy hs (za5 rfl) ?_; clear hs; intro a w hs
  refine sy (v := pq nb 3) hs (za1 rfl (FO.of (off := 3) U181 rfl rfl ti178 (by decide))) ?_; clear hs; intro a w hs
  refine sy (v := pq n2 0) hs (y_ld rfl U178 rfl (Cell.blk (.tail _ (.head _)) rfl)) ?_; clear hs; intro a w hs
  refine sy hs (za3 rfl) ?_; clear hs; intro a w hs
  refine sy hs (za3 rfl) ?_; clear hs; intro a w hs
  refine sy hs (za3 rfl) ?_; clear hs; intro a w hs
  refine zbb (Lr := [.blk n2 (.cells (node (bs []) 0 (bs []) (.pointer none) (.slice none 0 0)) 181 (0,0))]) (Lf := .blk nb (.cells (node (bs []) 0 key (pq n2 0) (.slice none 0 0)) 181 (0,0)) :: L) hs rfl has113 rfl rfl (zvq (nb := n2) (val := val) (pr := pr) (gp := gp)) (.free rfl) (by decide) ?_; clear hs
  rintro _ _ _ a w _ ⟨rfl, rfl⟩ hs
  refine za0 ?_
  refine RtV0 hs rfl ?_
  exact ⟨_, _,[_, _], rfl, .refl _, hs.cw, rfl, n2, rfl⟩
end
end
section
open Go.RowKit Go.Sl
section
variable {f : Fz} {L : List Ent} {w0 w : World} {b nb : Nat} {val : ByteArray} {pr : Int} {gc : Array Value}
set_option maxRecDepth 20000 in
set_option maxHeartbeats 8000000 in
/-- A text whose first byte has no node yet comes to the root. -/
theorem add_root {key rest : ByteArray} {tv : Value} {rows : List (List Value)} {c m : Nat} {Q : Nat → List Ent → Prop} (hk : key ≠ bs []) (hc : getS key 0 = some (c : Int)) (hcl : c < 256) (he0 : key.extract 1 key.size = rest) (h1 : 1 ≤ key.size)
    (h2 : gc[2]? = some (.string (bs []))) (h4 : gc[4]? = some tv) (hm : gc[6 + c * 1]? = some (.int .u8 m)) (hr : rows[m]? = some [.pointer none])
    (hp : ∀ n1, Does Tryz.prog 113 [pq n1 0, .string rest, .string val, .int .i64 pr, pq b 0] f [.blk n1 (.cells (node (bs []) 0 (bs []) (.pointer none) (.slice none 0 0)) 181 (0,0))] (fun _ f' L' => f' = f ∧ Q n1 L')) :
    Does Tryz.prog 113 [pq b 0, .string key, .string val, .int .i64 pr, pq b 0] f [.blk b (.cells gc 183 (0,0)), .row tv 178 1 rows]
    (fun _ f' L' => f' = f ∧ ∃ n1 LX, Q n1 LX ∧ L' = LX ++ [.blk b (.cells gc 183 (0,0)), .row tv 178 1 (rows.set m [pq n1 0])]) := by
  intro w0 L w hC
  replace hC : Cw w0 f (.blk b (.cells gc 183 (0,0)) :: .row tv 178 1 rows :: L) w := hC
  have hmr : m < rows.length := (List.getElem?_eq_some_iff.1 hr).1
  refine enter Tryz.func113 rfl Tryz.ntmps113 (by simp) hC fun a hs => ?_
  obtain ⟨ad, cap, htv⟩ : ∃ ad cap, tv = .slice (some ad) rows.length cap := by
    obtain ⟨ao, cap, h, _, hn, _⟩ := (Rd.st hs (.tail _ (.head _))).val
    cases ao with
    | none => rw [hn rfl] at hmr; simp at hmr
    | some ad => exact ⟨ad, cap, h⟩
  refine zai fun K1 hK1 => ?_
  refine zai fun K2 hK2 => ?_
  refine za2 ?_
  refine sy hs (za3 rfl) ?_; clear hs; intro a w hs
  refine sy hs (zcs rfl rfl) ?_; clear hs; intro a w hs
  refine za0 ?_
  rw [decide_eq_false (show ¬ key = ⟨#[]⟩ from hk)] at hs
  refine hK2 _ _ ?_; clear hK2
  refine zdj hs rfl ?_
  refine zaj ?_
  refine hK1 _ _ ?_; clear hK1
  refine zai fun K3 hK3 => ?_
  refine za2 ?_
  refine sy hs (za3 rfl) ?_; clear hs; intro a w hs
  refine sy hs (za5 rfl) ?_; clear hs; intro a w hs
  refine sy (v := pq b 2) hs (za1 rfl (FO.of (off := 2) U181 rfl rfl ti9 (by decide))) ?_; clear hs; intro a w hs
  refine sy hs (y_ld rfl U9 rfl (Cell.blk (.head _) h2)) ?_; clear hs; intro a w hs
  refine sy hs (zhr rfl rfl) ?_; clear hs; intro a w hs
  refine za0 ?_
  rw [decide_eq_false (show ¬ bs [] ≠ ⟨#[]⟩ from fun h => h rfl)] at hs
  refine hK3 _ _ ?_; clear hK3
  refine zdj hs rfl ?_
  refine zai fun K4 hK4 => ?_
  refine za2 ?_
  refine sy hs (za3 rfl) ?_; clear hs; intro a w hs
  refine sy hs (za5 rfl) ?_; clear hs; intro a w hs
  refine sy (v := pq b 4) hs (za1 rfl (FO.of (off := 4) U181 rfl rfl ti179 (by decide))) ?_; clear hs; intro a w hs
  refine sy hs (y_ld rfl U179 rfl (Cell.blk (.head _) (htv ▸ h4))) ?_; clear hs; intro a w hs
  refine sy hs (znh rfl U179) ?_; clear hs; intro a w hs
  refine za0 ?_
  refine hK4 _ _ ?_; clear hK4
  refine zdq hs rfl ?_
  refine zai fun K5 hK5 => ?_
  refine zju hs mixed (by kernel_rfl) ?_; intro a he
  refine qy he (za3 rfl) ?_; clear he; intro a he
  refine qy he (za3 rfl) ?_; clear he; intro a he
  refine qy he (zoc rfl rfl U9 hc) ?_; clear he; intro a he
  refine qy he (za5 rfl) ?_; clear he; intro a he
  refine qy (v := pq b 6) he (za1 rfl (FO.of (off := 6) U183 rfl rfl ti126 (by decide))) ?_; clear he; intro a he
  refine qy he (zlj (j := c) rfl rfl U126 ti5 rfl hcl) ?_; clear he; intro a he
  refine qy he (y_ld rfl U5 rfl (Cell.blk (.head _) hm)) ?_; clear he; intro a he
  refine qy he (za9 rfl) ?_; clear he; intro a he
  refine zfw he ?_; clear he hs; intro a w hs
  refine hK5 _ _ ?_; clear hK5
  refine zai fun K6 hK6 => ?_
  refine zai fun K7 hK7 => ?_
  refine za2 ?_
  refine sy hs (za3 rfl) ?_; clear hs; intro a w hs
  refine sy hs (za5 rfl) ?_; clear hs; intro a w hs
  refine sy (v := pq b 4) hs (za1 rfl (FO.of (off := 4) U181 rfl rfl ti179 (by decide))) ?_; clear hs; intro a w hs
  refine sy (v := tv) hs (y_ld rfl U179 rfl (Cell.blk (.head _) h4)) ?_; clear hs; intro a w hs
  refine sy hs (za3 rfl) ?_; clear hs; intro a w hs
  refine sy hs (zac (Rd.st hs (.tail _ (.head _))) rfl rfl rfl hmr U179 ti178) ?_; clear hs; intro a w hs
  refine sy hs (zbm (i := m) (j := 0) (Rd.st hs (.tail _ (.head _))) rfl hr rfl U178 rfl) ?_; clear hs; intro a w hs
  refine sy hs (y_pnn rfl rfl U178) ?_; clear hs; intro a w hs
  refine za0 ?_
  refine hK7 _ _ ?_; clear hK7
  refine zdq hs rfl ?_
  refine za2 ?_
  refine sy hs (za3 rfl) ?_; clear hs; intro a w hs
  refine sy hs (za5 rfl) ?_; clear hs; intro a w hs
  refine sy (v := pq b 4) hs (za1 rfl (FO.of (off := 4) U181 rfl rfl ti179 (by decide))) ?_; clear hs; intro a w hs
  refine sy (v := tv) hs (y_ld rfl U179 rfl (Cell.blk (.head _) h4)) ?_; clear hs; intro a w hs
  refine sy hs (za3 rfl) ?_; clear hs; intro a w hs
  refine zbl hs ti181 (.free rfl) (by decide) ?_; clear hs; intro n1 a w hs
  refine sy hs (zac (Rd.st hs (.tail _ (.tail _ (.head _)))) rfl rfl rfl hmr U179 ti178) ?_; clear hs; intro a w hs
  refine sstoreRow (m := m) 2 hs rfl rfl rfl hr ti178 rfl ?_; clear hs; intro a w hs
  refine za0 ?_
  refine hK6 _ _ ?_; clear hK6
  have hRD : Rd f [.blk b (.cells gc 183 (0,0)), .row tv 178 1 (rows.set m [pq n1 0])] tv 1 (rows.set m [pq n1 0]) := Rd.ofOwn (.tail _ (.head _)) (hs.cw.sub (.cons _ (.cons_cons _ (.cons_cons _ (List.nil_sublist _)))))
  have hmr2 : m < (rows.set m [pq n1 0]).length := by simpa using hmr
  have hr2 : (rows.set m [pq n1 0])[m]? = some [pq n1 0] := List.getElem?_set_self hmr
  refine zls hs ([.blk b (.cells gc 183 (0,0)), .row tv 178 1 (rows.set m [pq n1 0])]) [12] [(0, true),(1, true),(2, true),(3, true),(4, true),(5, true),(6, true),(7, true),(8, true),(9, true),(10, true),(11, true),(12, false)] mixed (by kernel_rfl) ?_; clear hs; intro a he
  refine dy 0 he rfl (za3 rfl) ?_; clear he; intro a he
  refine dy 1 he rfl (za5 rfl) ?_; clear he; intro a he
  refine dy (v := pq b 4) 2 he rfl (za1 rfl (FO.of (off := 4) U181 rfl rfl ti179 (by decide))) ?_; clear he; intro a he
  refine dy (v := tv) 3 he rfl (y_ld rfl U179 rfl (Cell.blk (.head _) h4)) ?_; clear he; intro a he
  refine dy 4 he rfl (za3 rfl) ?_; clear he; intro a he
  refine dy 5 he rfl (zac hRD rfl rfl rfl hmr2 U179 ti178) ?_; clear he; intro a he
  refine dy 6 he rfl (zbm (i := m) (j := 0) hRD rfl hr2 rfl U178 rfl) ?_; clear he; intro a he
  refine dy 7 he rfl (za3 rfl) ?_; clear he; intro a he
  refine dy 8 he rfl (zhb (lo := 1) (hi := key.size) he0 rfl U9 (.inr ⟨_, rfl, rfl⟩) (.inl ⟨rfl, rfl⟩) h1 (Nat.le_refl _)) ?_; clear he; intro a he
  refine dy 9 he rfl (za3 rfl) ?_; clear he; intro a he
  refine dy 10 he rfl (za3 rfl) ?_; clear he; intro a he
  refine dy 11 he rfl (za3 rfl) ?_; clear he; intro a he
  refine zsp (i := 12) rfl he ?_; clear he; intro a w hs
  refine zbb (Lr := [.blk n1 (.cells (node (bs []) 0 (bs []) (.pointer none) (.slice none 0 0)) 181 (0,0))]) (Lf := .blk b (.cells gc 183 (0,0)) :: .row tv 178 1 (rows.set m [pq n1 0]) :: L) hs rfl has113 rfl rfl (hp n1) (.free rfl) (by decide) ?_; clear hs
  rintro _ _ LX a w _ ⟨rfl, hQ⟩ hs
  refine dend hs ?_; clear hs; intro a he
  refine zso he ?_; clear he; intro w hs
  refine RtV0 hs rfl ?_
  exact ⟨_, _, LX ++ [_, _], rfl, .refl _, by rw [List.append_assoc]; exact hs.cw, rfl, n1, LX, hQ, rfl⟩
end
end
section
open Go.RowKit Go.Sl
def gcA (tv : Value) (T : Int) (M : List Int) : Array Value := ([.string (bs []), .int .i64 0, .string (bs []), .pointer none, tv, .int .i64 T] ++ M.map (fun x => Value.int .u8 x)).toArray
section
variable {tv : Value} {T : Int} {M : List Int}
theorem zq4 {i : Nat} {x : Int} (h : M[i]? = some x) : (gcA tv T M)[6 + i]? = some (.int .u8 x) := by
  unfold gcA
  rw [List.getElem?_toArray, List.getElem?_append_right (by simp)]
  simp [h]
theorem zse {i : Nat} {x : Int} : (gcA tv T M).setIfInBounds (6 + i) (.int .u8 x) = gcA tv T (M.set i x) := by
  unfold gcA
  rw [List.setIfInBounds_toArray, List.set_append_right _ _ (by simp)]
  simp [List.map_set]
theorem gcA_T {T' : Int} : (gcA tv T M).setIfInBounds 5 (.int .i64 T') = gcA tv T' M := by
  unfold gcA; rw [List.setIfInBounds_toArray]; rfl
theorem gcA_tv {tv' : Value} : (gcA tv T M).setIfInBounds 4 tv' = gcA tv' T M := by
  unfold gcA; rw [List.setIfInBounds_toArray]; rfl
theorem gcA_1 : (gcA tv T M)[1]? = some (.int .i64 0) := rfl
theorem gcA_2 : (gcA tv T M)[2]? = some (.string (bs [])) := rfl
theorem zvc : (gcA tv T M)[4]? = some tv := rfl
theorem ztu : (gcA tv T M)[5]? = some (.int .i64 T) := rfl
theorem zne : (gcA tv T M).size = 6 + M.length := by simp [gcA]; omega
theorem zt5 : ((gcA tv T M).toList.drop 6).take 256 = (M.map (fun x => Value.int .u8 x)).take 256 := by unfold gcA; rfl
end
def markB (M : List Int) (l : List Int) : List Int := l.foldl (fun M c => M.set c.toNat 1) M
theorem znu : ∀ (l : List Int) (M : List Int),(markB M l).length = M.length
  | [], _ => rfl
  | c :: l, M => by unfold markB; rw [List.foldl_cons]; exact (znu l _).trans (by simp)
def markL (l : List ByteArray) : Nat → List Int
  | 0 => List.replicate 256 0
  | k + 1 => markB (markL l k) (bytesIn (l[2 * k]?.getD (bs [])))
theorem zm2 (l : List ByteArray) : ∀ k,(markL l k).length = 256
  | 0 => by rw [markL, List.length_replicate]
  | k + 1 => by rw [markL, znu]; exact zm2 l k
def sumB (M : List Int) : Nat → Int
  | 0 => 0
  | k + 1 => IntKind.i64.wrap (sumB M k + IntKind.i64.wrap (M[k]?.getD 0))
def numB (T : Int) (M : List Int) : Nat → List Int × Int
  | 0 => (M,0)
  | k + 1 => let s := numB T M k
    if M[k]?.getD 0 = 0 then (s.1.set k (IntKind.u8.wrap T), s.2) else (s.1.set k s.2, IntKind.u8.wrap (s.2 + 1))
theorem zpx (T : Int) (M : List Int) : ∀ k,(numB T M k).1.length = M.length
  | 0 => rfl
  | k + 1 => by
    unfold numB
    simp only
    split <;> simp [zpx T M k]
theorem ti183' : TI Tryz.prog 183 262 (match Tryz.prog.info? 183 with | some i => i.bytes | none => 0) (.agg (gcA (.slice none 0 0) 0 (List.replicate 256 0))) := .of (by kernel_rfl)
def escL (q : Bool) : List ByteArray := [bs [38], bs [38,97,109,112,59], bs [60], bs [38,108,116,59], bs [62], bs [38,103,116,59], bs [194,160], bs [38,110,98,115,112,59], bs [13], bs [38,35,49,51,59]] ++ (if q then [bs [34], bs [38,113,117,111,116,59]] else [])
set_option maxRecDepth 100000 in
example : sumB (markL (escL true) 6) 256 = 7 ∧ sumB (markL (escL false) 5) 256 = 6 := by decide +kernel
set_option maxRecDepth 100000 in
example : (numB 7 (markL (escL true) 6) 256).1[38]? = some 2 := by decide +kernel
end
end Go.Proofs.YtpfdbeafdjnbnaaGreatDoor
