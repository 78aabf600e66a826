/-
  Walks and laws of this seat; the base is the text Base.
-/
import Derived.Test.YtklcdfnhdljkjaaDoorS7o
import Derived.Test.YtklcdfnhdljkjaaDoorRows
namespace Go.Proofs.YtklcdfnhdljkjaaDoor
open Go.RowKit Go.Sl
/-- A text, escaped. -/
def escS (q : Bool) (s : ByteArray) : ByteArray := bytesOf (escA q false (bytesIn s))
theorem GivesL.does {P : Program} {fn : FuncId} {args : List Value} {f : Fz} {Lr : List Ent} {v : Value} (h : GivesL P fn args f Lr v) : Does P fn args f Lr (fun v' f' L' => f' = f ∧ v' = v ∧ L' = Lr) :=
  fun w0 L w hC => (h w0 L w hC).mono fun _ _ ⟨h1, h2⟩ => ⟨v, f, Lr, h1, .refl _, h2, rfl, rfl, rfl⟩
theorem y_mkFn1 {P : Program} {C : World → Prop} {n : Nat} {E : List (Nat × Value)} {d : Option Tmp} {ty : TypeId} {pos : String} {af : Array Edge} {g : Option (Nat × Bool)} {v : Value} {x : Operand} {gn : FuncId} (hx : opv E x = some v) : Y P C n E ⟨d, .makeFunc (.func gn) #[x] #[], ty, pos, af, g⟩ (.func (.func gn) #[v] #[]) :=
  .of fun a ha w _ => by simp [execOp, ha.eval hx, Instr.makeFunc]
set_option maxRecDepth 20000 in
set_option maxHeartbeats 4000000 in
theorem grep_ok {f : Fz} {LX : List Ent} {g : Nat} {q : Bool} {s : ByteArray} (hT : TrieL (escL q) (escM q) (escT q) (escN q) g LX) (hsz : s.size ≤ 1099511627776) :
    GivesL Tryd.prog 103 [.pointer (some ⟨g, 0, none⟩), .string s] f LX (.string (escS q s)) := by
  intro w0 L w hC
  refine enter Tryd.func103 rfl Tryd.ntmps103 (by simp) hC fun a hs => ?_
  refine W_seq fun K1 hK1 => ?_
  refine W_region ?_
  refine sy hs (y_assign rfl) ?_; clear hs; (try clear a w); intro a w hs
  refine RL_nil ?_
  refine hK1 _ _ ?_; clear hK1
  refine W_seq fun K2 hK2 => ?_
  refine W_region ?_
  refine sy hs (y_move rfl) ?_; clear hs; (try clear a w); intro a w hs
  refine sy hs (y_lenS rfl Tryd.underlying9) ?_; clear hs; (try clear a w); intro a w hs
  refine RL_make0 (m := s.size) hs rfl rfl Tryd.underlying160 ti5 (by omega) ?_; clear hs; (try clear a w); intro v a w hs
  have hv := hs.one (i := 0) rfl
  refine RL_alloc hs ti160 (.free rfl) (by decide) ?_; clear hs; (try clear a w); intro wb a w hs
  refine RL_storeBlk (i := 0) (o := 0) (u := v) hs rfl rfl rfl ti160 hv (by decide) rfl (.free rfl) ?_; clear hs; (try clear a w); intro a w hs
  replace hs : St _ _ _ ((.blk wb (.cells #[v] 160 (0, 0)) :: .row v 5 1 (u8R []) :: LX) ++ L) _ _ _ := hs
  refine RL_nil ?_
  refine hK2 _ _ ?_; clear hK2
  refine W_seq fun K3 hK3 => ?_
  refine W_region ?_
  refine sy hs (y_move rfl) ?_; clear hs; (try clear a w); intro a w hs
  refine sy hs (y_mkIface rfl Tryd.underlying161 rfl) ?_; clear hs; (try clear a w); intro a w hs
  refine sy hs (y_move rfl) ?_; clear hs; (try clear a w); intro a w hs
  refine RL_call (Lr := .blk wb (.cells #[v] 160 (0, 0)) :: .row v 5 1 (u8R []) :: LX) (Lf := L) hs rfl has104 rfl rfl (ws_ok hT hsz) (.free rfl) (by decide) ?_; clear hs; (try clear a w); rintro _ _ _ a w _ ⟨rfl, v2, rfl⟩ hs
  replace hs : St _ _ _ (.blk wb (.cells #[v2] 160 (0, 0)) :: .row v2 5 1 (u8R (escA q false (bytesIn s))) :: (LX ++ L)) _ _ _ := hs
  refine RL_nil ?_
  refine hK3 _ _ ?_; clear hK3
  refine W_seq fun K4 hK4 => ?_
  refine W_region ?_
  refine sy hs (y_ld (u := v2) rfl Tryd.underlying160 rfl (Cell.blk (.head _) rfl)) ?_; clear hs; (try clear a w); intro a w hs
  refine sy hs (y_b2s (xs := escA q false (bytesIn s)) rfl Tryd.underlying160 Tryd.underlying5 Tryd.underlying9 (Rd.st hs (.tail _ (.head _)))) ?_; clear hs; (try clear a w); intro a w hs
  refine sy hs (y_assign rfl) ?_; clear hs; (try clear a w); intro a w hs
  refine RL_nil ?_
  refine hK4 _ _ ?_; clear hK4
  refine W_ret ?_
  refine Rt_1 hs rfl rfl ?_
  exact ⟨rfl, hs.cw.sub (.cons _ (.cons _ (List.Sublist.refl _)))⟩
set_option maxRecDepth 20000 in
set_option maxHeartbeats 4000000 in
theorem rep_ok {f : Fz} {rb : Nat} {ov : Value} {q : Bool} {s : ByteArray} (h0 : RS tStr f ov (escL q)) (hsz : s.size ≤ 1099511627776) :
    Does Tryd.prog 25 [.pointer (some ⟨rb, 0, none⟩), .string s] f [.blk rb (.cells (rcA 0 0 .nilIface ov) 83 (0, 0))] (fun v f' _ => f' = f ∧ v = .string (escS q s)) := by
  intro w0 L w hC
  replace hC : Cw w0 f (.blk rb (.cells (rcA 0 0 .nilIface ov) 83 (0, 0)) :: L) w := hC
  refine enter Tryd.func25 rfl Tryd.ntmps25 (by simp) hC fun a hs => ?_
  refine W_seq fun K1 hK1 => ?_
  refine W_region ?_
  refine sy hs (y_assign rfl) ?_; clear hs; (try clear a w); intro a w hs
  refine RL_nil ?_
  refine hK1 _ _ ?_; clear hK1
  refine W_seq fun K2 hK2 => ?_
  refine W_region ?_
  refine sy hs (y_move rfl) ?_; clear hs; (try clear a w); intro a w hs
  first | (refine sy hs (y_nilCheck rfl) ?_; clear hs; (try clear a w); intro a w hs) | (refine sy hs (y_nilE rfl) ?_; clear hs; (try clear a w); intro a w hs)
  first | (refine sy hs (y_fieldAddr rfl (FO.of (off := 0) Tryd.underlying83 rfl rfl ti79 (by decide))) ?_; clear hs; (try clear a w); intro a w hs) | (refine sy hs (y_faE rfl (FO.of (off := 0) Tryd.underlying83 rfl rfl ti79 (by decide))) ?_; clear hs; (try clear a w); intro a w hs)
  refine sy hs (y_move rfl) ?_; clear hs; (try clear a w); intro a w hs
  refine sy hs (y_mkFn1 rfl) ?_; clear hs; (try clear a w); intro a w hs
  refine RL_call (Lr := [.blk rb (.cells (rcA 0 0 .nilIface ov) 83 (0, 0))]) (Lf := L) hs rfl has34 rfl rfl (once_ok (esc_ok q) h0) (.free rfl) (by decide) ?_; clear hs; (try clear a w); rintro _ _ _ a w _ ⟨rfl, g, LX, hTr, rfl⟩ hs
  replace hs : St _ _ _ (.blk rb (.cells (rcA 1 0 (.iface 105 (.pointer (some ⟨g, 0, none⟩))) (.slice none 0 0)) 83 (0, 0)) :: (LX ++ L)) _ _ _ := hs
  refine RL_nil ?_
  refine hK2 _ _ ?_; clear hK2
  refine W_seq fun K3 hK3 => ?_
  refine W_region ?_
  refine sy hs (y_move rfl) ?_; clear hs; (try clear a w); intro a w hs
  first | (refine sy hs (y_nilCheck rfl) ?_; clear hs; (try clear a w); intro a w hs) | (refine sy hs (y_nilE rfl) ?_; clear hs; (try clear a w); intro a w hs)
  first | (refine sy hs (y_fieldAddr rfl (FO.of (off := 3) Tryd.underlying83 rfl rfl ti81 (by decide))) ?_; clear hs; (try clear a w); intro a w hs) | (refine sy hs (y_faE rfl (FO.of (off := 3) Tryd.underlying83 rfl rfl ti81 (by decide))) ?_; clear hs; (try clear a w); intro a w hs)
  refine sy hs (y_ld (u := .iface 105 (.pointer (some ⟨g, 0, none⟩))) rfl Tryd.underlying81 rfl (Cell.blk (.head _) rfl)) ?_; clear hs; (try clear a w); intro a w hs
  replace hs : St _ _ _ (LX ++ (.blk rb (.cells (rcA 1 0 (.iface 105 (.pointer (some ⟨g, 0, none⟩))) (.slice none 0 0)) 83 (0, 0)) :: L)) _ _ _ := ⟨hs.ev, hs.cw.perm (permX [_] LX L)⟩
  refine sy hs (y_move rfl) ?_; clear hs; (try clear a w); intro a w hs
  refine RL_invoke (Lr := LX) (Lf := .blk rb (.cells (rcA 1 0 (.iface 105 (.pointer (some ⟨g, 0, none⟩))) (.slice none 0 0)) 83 (0, 0)) :: L) hs rfl m159 has103 rfl rfl (GivesL.does (grep_ok hTr hsz)) (.free rfl) (by decide) ?_; clear hs; (try clear a w); rintro _ _ _ a w _ ⟨rfl, rfl, rfl⟩ hs
  refine sy hs (y_assign rfl) ?_; clear hs; (try clear a w); intro a w hs
  refine RL_nil ?_
  refine hK3 _ _ ?_; clear hK3
  refine W_ret ?_
  refine Rt_1 hs rfl rfl ?_
  exact ⟨_, _, [], rfl, .refl _, hs.cw.sub ((List.sublist_cons_self _ _).trans (List.sublist_append_right _ _)), rfl, rfl⟩
set_option maxRecDepth 20000 in
set_option maxHeartbeats 4000000 in
theorem newr_ok {f : Fz} {sv : Value} {l : List ByteArray} (h0 : RS tStr f sv l) (hl : l.length ≤ 1000) (hev : l.length % 2 = 0) :
    Does Tryd.prog 24 [sv] f [] (fun v f' L' => ∃ b ov, v = .pointer (some ⟨b, 0, none⟩) ∧ RS tStr f' ov l ∧ L' = [.blk b (.cells (rcA 0 0 .nilIface ov) 83 (0, 0))]) := by
  intro w0 L w hC
  replace hC : Cw w0 f L w := hC
  obtain ⟨rw0, hR0, hW0⟩ := h0
  have hlen := hW0.len
  refine enter Tryd.func24 rfl Tryd.ntmps24 (by simp) hC fun a hs => ?_
  refine W_seq fun K1 hK1 => ?_
  refine W_region ?_
  refine sy hs (y_assign rfl) ?_; clear hs; (try clear a w); intro a w hs
  refine RL_nil ?_
  refine hK1 _ _ ?_; clear hK1
  refine W_seq fun K2 hK2 => ?_
  refine W_seq fun K3 hK3 => ?_
  refine W_region ?_
  refine sy hs (y_move rfl) ?_; clear hs; (try clear a w); intro a w hs
  refine sy hs (y_lenR0 hR0 rfl Tryd.underlying47) ?_; clear hs; (try clear a w); intro a w hs
  refine sy hs (y_rem rfl rfl (by omega) (by omega)) ?_; clear hs; (try clear a w); intro a w hs
  refine sy hs (y_eql rfl rfl) ?_; clear hs; (try clear a w); intro a w hs
  refine RL_nil ?_
  refine hK3 _ _ ?_; clear hK3
  rw [decide_eq_false (show ¬ ((rw0.length : Int) % 2 = 1) by omega)] at hs
  refine W_condF hs rfl ?_
  refine W_skip ?_
  refine hK2 _ _ ?_; clear hK2
  refine W_seq fun K4 hK4 => ?_
  refine W_region ?_
  refine sy hs (y_move rfl) ?_; clear hs; (try clear a w); intro a w hs
  refine RL_appNil hs rfl rfl (hR0.up (L := _)) Tryd.underlying47 ti9 (by decide) (by omega) ?_; clear hs; (try clear a w); intro ov a w hs
  have hov := hs.one (i := 0) rfl
  refine sy hs (y_buildS (places := [(0, 3), (3, 1), (4, 1)]) rfl Tryd.underlying83 ti83 (by kernel_rfl) (by decide) rfl) ?_; clear hs; (try clear a w); intro a w hs; simp only [List.set] at hs
  refine sbox hs rfl ?_; clear hs; (try clear a w); intro b a w hs
  refine sy hs (y_assign rfl) ?_; clear hs; (try clear a w); intro a w hs
  refine RL_nil ?_
  refine hK4 _ _ ?_; clear hK4
  refine W_ret ?_
  refine Rt_1 hs rfl rfl ?_
  obtain ⟨f1, hf1, hs2, hR⟩ := hs.frzAt 1 rfl
  exact ⟨_, f1, [.blk b (.cells (rcA 0 0 .nilIface ov) 83 (0, 0))], rfl, hf1, hs2.cw, b, ov, rfl, ⟨rw0, hR, hW0.le hf1⟩, rfl⟩
def strR (l : List ByteArray) : List (List Value) := l.map fun s => [.string s]
theorem strR_W {f : Fz} : ∀ l, RW tStr f (strR l) l
  | [] => trivial
  | _ :: r => ⟨rfl, strR_W r⟩
theorem strR_one {l : List ByteArray} : ∀ r ∈ strR l, OneRow 1 r := by
  intro r hr
  obtain ⟨s, _, rfl⟩ := List.mem_map.1 hr
  exact AllC.row ⟨rfl, trivial⟩ rfl
set_option maxRecDepth 20000 in
set_option maxHeartbeats 4000000 in
theorem Escape_ok {f : Fz} {q : Bool} {s : ByteArray} (hsz : s.size ≤ 1099511627776) : Gives Tryd.prog 8 [.string s, .bool q] f (.string (escS q s)) := by
  intro w0 L w hC
  refine enter Tryd.func8 rfl Tryd.ntmps8 (by simp) hC fun a hs => ?_
  refine W_seq fun K1 hK1 => ?_
  refine W_region ?_
  refine sy hs (y_assign rfl) ?_; clear hs; (try clear a w); intro a w hs
  refine RL_nil ?_
  refine hK1 _ _ ?_; clear hK1
  refine W_seq fun K2 hK2 => ?_
  refine W_region ?_
  refine RL_bsN (parts := [(0, .const (.string (bs [38]))), (1, .const (.string (bs [38, 97, 109, 112, 59]))), (2, .const (.string (bs [60]))), (3, .const (.string (bs [38, 108, 116, 59]))), (4, .const (.string (bs [62]))), (5, .const (.string (bs [38, 103, 116, 59]))), (6, .const (.string (bs [194, 160]))), (7, .const (.string (bs [38, 110, 98, 115, 112, 59]))), (8, .const (.string (bs [13]))), (9, .const (.string (bs [38, 35, 49, 51, 59])))]) (us := (escL false).map .string) (rows := strR (escL false)) hs rfl Tryd.underlying47 ti9 (by decide) rfl rfl strR_one ?_; clear hs; (try clear a w); intro v6 a w hs
  refine sy hs (y_assign rfl) ?_; clear hs; (try clear a w); intro a w hs
  refine RL_nil ?_
  refine hK2 _ _ ?_; clear hK2
  refine W_seq fun K3 hK3 => ?_
  refine W_seq fun K4 hK4 => ?_
  refine W_region ?_
  refine sy hs (y_move rfl) ?_; clear hs; (try clear a w); intro a w hs
  refine RL_nil ?_
  refine hK4 _ _ ?_; clear hK4
  first | refine W_condP hs rfl (fun hq => ?_) (fun hq => ?_) | refine W_cond hs rfl (fun hq => ?_) (fun hq => ?_)
  · subst hq
    refine W_region ?_
    refine sy hs (y_move rfl) ?_; clear hs; (try clear a w); intro a w hs
    refine RL_bsN (parts := [(0, .const (.string (bs [34]))), (1, .const (.string (bs [38, 113, 117, 111, 116, 59])))]) (us := [.string (bs [34]), .string (bs [38, 113, 117, 111, 116, 59])]) (rows := strR [(bs [34]), (bs [38, 113, 117, 111, 116, 59])]) hs rfl Tryd.underlying47 ti9 (by decide) rfl rfl strR_one ?_; clear hs; (try clear a w); intro v9 a w hs
    refine RL_append (i := 1) hs rfl rfl rfl (Rd.st hs (.head _)) Tryd.underlying47 ti9 (by decide) (by decide) (.free rfl) (by decide) ?_; clear hs; (try clear a w); intro v10 a w hs
    replace hs : St _ _ _ (.row v10 9 1 (strR (escL true)) :: L) _ _ _ := hs.tail
    obtain ⟨f1, hf1, hs2, hR⟩ := hs.frzAt 0 rfl
    clear hs; have hs := hs2; clear hs2
    replace hs : St _ _ _ L _ _ _ := hs
    have h0 : RS tStr f1 v10 (escL true) := ⟨_, hR, strR_W _⟩
    refine sy hs (y_assign rfl) ?_; clear hs; (try clear a w); intro a w hs
    refine RL_nil ?_
    refine hK3 _ _ ?_; clear hK3
    refine W_seq fun K5 hK5 => ?_
    refine W_region ?_
    refine sy hs (y_move rfl) ?_; clear hs; (try clear a w); intro a w hs
    refine RL_call (Lr := []) (Lf := L) hs rfl has24 rfl rfl (newr_ok h0 (by decide) (by decide)) (.free rfl) (by decide) ?_; clear hs; (try clear a w); rintro _ f2 _ a w hf2 ⟨b, ov, rfl, h1, rfl⟩ hs
    refine sy hs (y_move rfl) ?_; clear hs; (try clear a w); intro a w hs
    refine RL_call (Lr := [.blk b (.cells (rcA 0 0 .nilIface ov) 83 (0, 0))]) (Lf := L) hs rfl has25 rfl rfl (rep_ok h1 hsz) (.free rfl) (by decide) ?_; clear hs; (try clear a w); rintro _ _ L3 a w _ ⟨rfl, rfl⟩ hs
    refine sy hs (y_assign rfl) ?_; clear hs; (try clear a w); intro a w hs
    refine RL_nil ?_
    refine hK5 _ _ ?_; clear hK5
    refine W_ret ?_
    refine Rt_1 hs rfl rfl ?_
    exact ⟨rfl, (hs.weak (hf1.trans hf2)).cw.sub (List.sublist_append_right _ _)⟩
  · subst hq
    obtain ⟨f1, hf1, hs2, hR⟩ := hs.frzAt 0 rfl
    clear hs; have hs := hs2; clear hs2
    replace hs : St _ _ _ L _ _ _ := hs
    have h0 : RS tStr f1 v6 (escL false) := ⟨_, hR, strR_W _⟩
    refine W_skip ?_
    refine hK3 _ _ ?_; clear hK3
    refine W_seq fun K6 hK6 => ?_
    refine W_region ?_
    refine sy hs (y_move rfl) ?_; clear hs; (try clear a w); intro a w hs
    refine RL_call (Lr := []) (Lf := L) hs rfl has24 rfl rfl (newr_ok h0 (by decide) (by decide)) (.free rfl) (by decide) ?_; clear hs; (try clear a w); rintro _ f2 _ a w hf2 ⟨b, ov, rfl, h1, rfl⟩ hs
    refine sy hs (y_move rfl) ?_; clear hs; (try clear a w); intro a w hs
    refine RL_call (Lr := [.blk b (.cells (rcA 0 0 .nilIface ov) 83 (0, 0))]) (Lf := L) hs rfl has25 rfl rfl (rep_ok h1 hsz) (.free rfl) (by decide) ?_; clear hs; (try clear a w); rintro _ _ L3 a w _ ⟨rfl, rfl⟩ hs
    refine sy hs (y_assign rfl) ?_; clear hs; (try clear a w); intro a w hs
    refine RL_nil ?_
    refine hK6 _ _ ?_; clear hK6
    refine W_ret ?_
    refine Rt_1 hs rfl rfl ?_
    exact ⟨rfl, (hs.weak (hf1.trans hf2)).cw.sub (List.sublist_append_right _ _)⟩
