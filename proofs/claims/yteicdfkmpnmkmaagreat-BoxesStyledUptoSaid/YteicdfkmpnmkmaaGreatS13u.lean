/-
  Walks and laws of this seat.
-/
import Derived.Test.YteicdfkmpnmkmaaGreatS13t
import Derived.Test.YteicdfkmpnmkmaaGreatRows
namespace Go.Proofs.YteicdfkmpnmkmaaGreat
set_option linter.unusedVariables false
set_option linter.unusedSimpArgs false
open Go.RowKit Go.Sl
section
variable {P : Program} {dp : Nat} {t : TypeId} {xs ys : Array Value} {fs : List Field} {fd : Field} {a : Value}
theorem EqIs.intT {k : IntKind} {i : Int} (hu : P.underlying t = some (.int k)) : EqIs P (dp + 1) t (.int k i) (.int k i) true := by
  have := EqIs.int (dp := dp) (i := i) (j := i) hu
  rwa [decide_eq_true rfl] at this
theorem EqIs.boolT {i : Bool} (hu : P.underlying t = some .bool) : EqIs P (dp + 1) t (.bool i) (.bool i) true := by
  have := EqIs.bool (dp := dp) (i := i) (j := i) hu
  rwa [beq_self_eq_true] at this
theorem EqFs.consT (hn : (fd.name == "_") = false) (pa : PartIs P fd.type xs fd.offset a) (h0 : EqIs P dp fd.type a a true) (h : EqFs P dp xs xs fs true) : EqFs P dp xs xs (fd :: fs) true := EqFs.cons hn pa pa h0 h
theorem EqEs.consT {e : TypeId} {k i : Nat} {is : List Nat} (pa : PartIs P e xs (i * k) a) (h0 : EqIs P dp e a a true) (h : EqEs P dp e k xs xs is true) : EqEs P dp e k xs xs (i :: is) true := EqEs.cons pa pa h0 h
end
section
variable {dp : Nat} {a b c d e f g h : Int}
theorem eq23 : EqIs Tryz.prog (dp + 2) 23 (.agg #[.int .i64 a, .int .i64 b]) (.agg #[.int .i64 a, .int .i64 b]) true := EqIs.st Tryz.underlying23 (by kernel_rfl) (EqFs.consT rfl (PartIs.one Tryz.underlying3 rfl) (EqIs.intT Tryz.underlying3) (EqFs.consT rfl (PartIs.one Tryz.underlying2 rfl) (EqIs.intT Tryz.underlying2) EqFs.nil))
theorem eq24 : EqIs Tryz.prog (dp + 3) 24 (.agg #[.int .i64 a, .int .i64 b, .int .i64 c, .int .i64 d, .int .i64 e, .int .i64 f, .int .i64 g, .int .i64 h]) (.agg #[.int .i64 a, .int .i64 b, .int .i64 c, .int .i64 d, .int .i64 e, .int .i64 f, .int .i64 g, .int .i64 h]) true := EqIs.arr Tryz.underlying24 ti23 (EqEs.consT (PartIs.st Tryz.underlying23 ti23 rfl) eq23 (EqEs.consT (PartIs.st Tryz.underlying23 ti23 rfl) eq23 (EqEs.consT (PartIs.st Tryz.underlying23 ti23 rfl) eq23 (EqEs.consT (PartIs.st Tryz.underlying23 ti23 rfl) eq23 EqEs.nil))))
theorem eq25 : EqIs Tryz.prog (dp + 2) 25 (.agg #[.int .i64 a, .int .i64 b, .int .i64 c, .int .i64 d]) (.agg #[.int .i64 a, .int .i64 b, .int .i64 c, .int .i64 d]) true := EqIs.arr Tryz.underlying25 ti2 (EqEs.consT (PartIs.one Tryz.underlying2 rfl) (EqIs.intT Tryz.underlying2) (EqEs.consT (PartIs.one Tryz.underlying2 rfl) (EqIs.intT Tryz.underlying2) (EqEs.consT (PartIs.one Tryz.underlying2 rfl) (EqIs.intT Tryz.underlying2) (EqEs.consT (PartIs.one Tryz.underlying2 rfl) (EqIs.intT Tryz.underlying2) EqEs.nil))))
end
set_option maxRecDepth 20000 in
theorem eq28 {s : Sty} (h : StyTy s) : EqIs Tryz.prog 10000 28 (.agg s.toArray) (.agg s.toArray) true := by
  obtain ⟨x, h⟩ := h
  obtain rfl := h
  exact EqIs.st Tryz.underlying28 (by kernel_rfl) (EqFs.consT rfl (PartIs.one Tryz.underlying3 rfl) (EqIs.intT Tryz.underlying3) (EqFs.consT rfl (PartIs.one Tryz.underlying3 rfl) (EqIs.intT Tryz.underlying3) (EqFs.consT rfl (PartIs.one Tryz.underlying3 rfl) (EqIs.intT Tryz.underlying3) (EqFs.consT rfl (PartIs.one Tryz.underlying3 rfl) (EqIs.intT Tryz.underlying3) (EqFs.consT rfl (PartIs.st Tryz.underlying23 ti23 rfl) eq23 (EqFs.consT rfl (PartIs.st Tryz.underlying23 ti23 rfl) eq23 (EqFs.consT rfl (PartIs.arr Tryz.underlying24 ti24 rfl) eq24 (EqFs.consT rfl (PartIs.arr Tryz.underlying24 ti24 rfl) eq24 (EqFs.consT rfl (PartIs.arr Tryz.underlying24 ti24 rfl) eq24 (EqFs.consT rfl (PartIs.arr Tryz.underlying25 ti25 rfl) eq25 (EqFs.consT rfl (PartIs.one Tryz.underlying26 rfl) (EqIs.intT Tryz.underlying26) (EqFs.consT rfl (PartIs.one Tryz.underlying26 rfl) (EqIs.intT Tryz.underlying26) (EqFs.consT rfl (PartIs.one Tryz.underlying2 rfl) (EqIs.intT Tryz.underlying2) (EqFs.consT rfl (PartIs.one Tryz.underlying2 rfl) (EqIs.intT Tryz.underlying2) (EqFs.consT rfl (PartIs.one Tryz.underlying3 rfl) (EqIs.intT Tryz.underlying3) (EqFs.consT rfl (PartIs.one Tryz.underlying4 rfl) (EqIs.boolT Tryz.underlying4) (EqFs.consT rfl (PartIs.one Tryz.underlying4 rfl) (EqIs.boolT Tryz.underlying4) (EqFs.consT rfl (PartIs.one Tryz.underlying4 rfl) (EqIs.boolT Tryz.underlying4) (EqFs.consT rfl (PartIs.one Tryz.underlying4 rfl) (EqIs.boolT Tryz.underlying4) (EqFs.consT rfl (PartIs.one Tryz.underlying2 rfl) (EqIs.intT Tryz.underlying2) (EqFs.consT rfl (PartIs.one Tryz.underlying2 rfl) (EqIs.intT Tryz.underlying2) (EqFs.consT rfl (PartIs.one Tryz.underlying2 rfl) (EqIs.intT Tryz.underlying2) (EqFs.consT rfl (PartIs.one Tryz.underlying3 rfl) (EqIs.intT Tryz.underlying3) (EqFs.consT rfl (PartIs.one Tryz.underlying3 rfl) (EqIs.intT Tryz.underlying3) (EqFs.consT rfl (PartIs.one Tryz.underlying2 rfl) (EqIs.intT Tryz.underlying2) (EqFs.consT rfl (PartIs.one Tryz.underlying4 rfl) (EqIs.boolT Tryz.underlying4) EqFs.nil))))))))))))))))))))))))))
theorem y_neqS {P : Program} {C : World → Prop} {n : Nat} {E : List (Nat × Value)} {d : Option Nat} {ty : TypeId} {pos : String} {af : Array Edge} {g : Option (Nat × Bool)} {x y : Operand} {t t' : TypeId} {k : IntKind} {i : Int} (hx : opv E x = some (.int k i)) (hy : opv E y = some (.int k i)) : Y P C n E ⟨d, .binOp .neq t x y t', ty, pos, af, g⟩ (.bool false) := by
  have := y_neq (P := P) (C := C) (n := n) (d := d) (t := t) (t' := t') (ty := ty) (pos := pos) (af := af) (g := g) hx hy
  rwa [decide_eq_false (fun e => e rfl)] at this
theorem y_sneqS {P : Program} {C : World → Prop} {n : Nat} {E : List (Nat × Value)} {d : Option Nat} {ty : TypeId} {pos : String} {af : Array Edge} {g : Option (Nat × Bool)} {x y : Operand} {t t' : TypeId} {s : ByteArray} (hx : opv E x = some (.string s)) (hy : opv E y = some (.string s)) : Y P C n E ⟨d, .binOp .neq t x y t', ty, pos, af, g⟩ (.bool false) := by
  have := y_sneq (P := P) (C := C) (n := n) (d := d) (t := t) (t' := t') (ty := ty) (pos := pos) (af := af) (g := g) hx hy
  rwa [decide_eq_false (fun e => e rfl)] at this
def SameOK (b : BT) : Prop := ∀ (r1 r2 : List Value) (X1 X2 : List Ent), BoxO 31 b r1 X1 → BoxO 44 b r2 X2 → ∀ w0 f L w, (∀ e ∈ X1, e ∈ L) → (∀ e ∈ X2, e ∈ L) → Cw w0 f L w → Calls Tryz.prog 14 #[.agg r1.toArray, .agg r2.toArray] w fun x w' => x = .returned (.bool true) ∧ Cw w0 f L w'
set_option maxRecDepth 20000 in
set_option maxHeartbeats 8000000 in
theorem same_step {k m i : Int} {s : Sty} {t : ByteArray} {ks : List BT} (hs0 : StyTy s) (ih : ∀ b ∈ ks, SameOK b) : SameOK (.mk k m i s t ks) := by
  intro r1 r2 X1 X2 hB1 hB2 w0 f L w hX1 hX2 hC
  obtain ⟨hS, kv1, rows1, X1, rfl, rfl, hO1⟩ := hB1
  obtain ⟨-, kv2, rows2, X2, rfl, rfl, hO2⟩ := hB2
  have hl1 := hO1.len
  have hl2 := hO2.len
  have hm1 := hX1 _ (.head _)
  have hm2 := hX2 _ (.head _)
  refine enter Tryz.func14 rfl Tryz.ntmps14 (by simp) hC fun a hs => ?_
  refine W_seq fun K1 hK1 => ?_
  refine W_region ?_
  refine sbox hs rfl fun b2 _ _ hs => ?_
  refine sbox hs rfl fun b3 _ _ hs => ?_
  refine sy (v := .bool false) hs (y_assign rfl) fun _ _ hs => ?_
  have hRa := Rd.st hs (.tail _ (.tail _ hm1))
  have hRb := Rd.st hs (.tail _ (.tail _ hm2))
  have hst1 : ∀ j u, s[j]? = some u → Cell f (.blk b3 (.cells (cB k m i s t kv2).toArray 44 (0, 0)) :: .blk b2 (.cells (cB k m i s t kv1).toArray 31 (0, 0)) :: L) b2 (3 + j) u := fun j u hj => Cell.blk (.tail _ (.head _)) (by rw [List.getElem?_toArray, cB_sty hS.len (by have := (List.getElem?_eq_some_iff.1 hj).1; have := hS.len; omega)]; exact hj)
  have hst2 : ∀ j u, s[j]? = some u → Cell f (.blk b3 (.cells (cB k m i s t kv2).toArray 44 (0, 0)) :: .blk b2 (.cells (cB k m i s t kv1).toArray 31 (0, 0)) :: L) b3 (3 + j) u := fun j u hj => Cell.blk (.head _) (by rw [List.getElem?_toArray, cB_sty hS.len (by have := (List.getElem?_eq_some_iff.1 hj).1; have := hS.len; omega)]; exact hj)
  refine RL_nil ?_
  refine hK1 _ _ ?_; clear hK1
  refine W_seq fun K2 hK2 => ?_
  refine W_seq fun K3 hK3 => ?_
  refine W_region ?_
  first | (refine sy hs (y_fieldAddr rfl (FO.of (off := 0) Tryz.underlying31 rfl rfl ti3 (by decide))) ?_; clear hs; (try clear a w); intro a w hs) | (refine sy hs (y_faE rfl (FO.of (off := 0) Tryz.underlying31 rfl rfl ti3 (by decide))) ?_; clear hs; (try clear a w); intro a w hs)
  first | (refine sy hs (y_ld rfl Tryz.underlying3 rfl) ?_; clear hs; (try clear a w); intro a w hs) | (refine sy hs (y_ldE rfl Tryz.underlying3 rfl) ?_; clear hs; (try clear a w); intro a w hs)
  first | (refine sy hs (y_fieldAddr rfl (FO.of (off := 0) Tryz.underlying44 rfl rfl ti3 (by decide))) ?_; clear hs; (try clear a w); intro a w hs) | (refine sy hs (y_faE rfl (FO.of (off := 0) Tryz.underlying44 rfl rfl ti3 (by decide))) ?_; clear hs; (try clear a w); intro a w hs)
  first | (refine sy hs (y_ld rfl Tryz.underlying3 rfl) ?_; clear hs; (try clear a w); intro a w hs) | (refine sy hs (y_ldE rfl Tryz.underlying3 rfl) ?_; clear hs; (try clear a w); intro a w hs)
  refine sy hs (y_neqS rfl rfl) fun _ _ hs => ?_
  refine sy hs (y_move rfl) fun _ _ hs => ?_
  first | (refine syg hs (y_fieldAddr rfl (FO.of (off := 1) Tryz.underlying31 rfl rfl ti3 (by decide))) ?_; clear hs; (try clear a w); intro a w hs) | (refine syg hs (y_faE rfl (FO.of (off := 1) Tryz.underlying31 rfl rfl ti3 (by decide))) ?_; clear hs; (try clear a w); intro a w hs)
  first | (refine syg hs (y_ld rfl Tryz.underlying3 rfl) ?_; clear hs; (try clear a w); intro a w hs) | (refine syg hs (y_ldE rfl Tryz.underlying3 rfl) ?_; clear hs; (try clear a w); intro a w hs)
  first | (refine syg hs (y_fieldAddr rfl (FO.of (off := 1) Tryz.underlying44 rfl rfl ti3 (by decide))) ?_; clear hs; (try clear a w); intro a w hs) | (refine syg hs (y_faE rfl (FO.of (off := 1) Tryz.underlying44 rfl rfl ti3 (by decide))) ?_; clear hs; (try clear a w); intro a w hs)
  first | (refine syg hs (y_ld rfl Tryz.underlying3 rfl) ?_; clear hs; (try clear a w); intro a w hs) | (refine syg hs (y_ldE rfl Tryz.underlying3 rfl) ?_; clear hs; (try clear a w); intro a w hs)
  refine syg hs (y_neqS rfl rfl) fun _ _ hs => ?_
  refine sy hs (y_pick rfl rfl) fun _ _ hs => ?_
  refine sy hs (y_move rfl) fun _ _ hs => ?_
  first | (refine syg hs (y_fieldAddr rfl (FO.of (off := 2) Tryz.underlying31 rfl rfl ti3 (by decide))) ?_; clear hs; (try clear a w); intro a w hs) | (refine syg hs (y_faE rfl (FO.of (off := 2) Tryz.underlying31 rfl rfl ti3 (by decide))) ?_; clear hs; (try clear a w); intro a w hs)
  first | (refine syg hs (y_ld rfl Tryz.underlying3 rfl) ?_; clear hs; (try clear a w); intro a w hs) | (refine syg hs (y_ldE rfl Tryz.underlying3 rfl) ?_; clear hs; (try clear a w); intro a w hs)
  first | (refine syg hs (y_fieldAddr rfl (FO.of (off := 2) Tryz.underlying44 rfl rfl ti3 (by decide))) ?_; clear hs; (try clear a w); intro a w hs) | (refine syg hs (y_faE rfl (FO.of (off := 2) Tryz.underlying44 rfl rfl ti3 (by decide))) ?_; clear hs; (try clear a w); intro a w hs)
  first | (refine syg hs (y_ld rfl Tryz.underlying3 rfl) ?_; clear hs; (try clear a w); intro a w hs) | (refine syg hs (y_ldE rfl Tryz.underlying3 rfl) ?_; clear hs; (try clear a w); intro a w hs)
  refine syg hs (y_neqS rfl rfl) fun _ _ hs => ?_
  refine sy hs (y_pick rfl rfl) fun _ _ hs => ?_
  refine sy hs (y_move rfl) fun _ _ hs => ?_
  first | (refine syg hs (y_fieldAddr rfl (FO.of (off := 3) Tryz.underlying31 rfl rfl ti28 (by decide))) ?_; clear hs; (try clear a w); intro a w hs) | (refine syg hs (y_faE rfl (FO.of (off := 3) Tryz.underlying31 rfl rfl ti28 (by decide))) ?_; clear hs; (try clear a w); intro a w hs)
  refine syg hs (y_loadAgg rfl (fun j u hj => hst1 j u hj) Tryz.underlying28 rfl ti28 hS.len) fun _ _ hs => ?_
  first | (refine syg hs (y_fieldAddr rfl (FO.of (off := 3) Tryz.underlying44 rfl rfl ti28 (by decide))) ?_; clear hs; (try clear a w); intro a w hs) | (refine syg hs (y_faE rfl (FO.of (off := 3) Tryz.underlying44 rfl rfl ti28 (by decide))) ?_; clear hs; (try clear a w); intro a w hs)
  refine syg hs (y_loadAgg rfl (fun j u hj => hst2 j u hj) Tryz.underlying28 rfl ti28 hS.len) fun _ _ hs => ?_
  refine syg hs (y_dneq (c := true) rfl rfl (by kernel_rfl) (eq28 hs0)) fun _ _ hs => ?_
  refine sy hs (y_pick rfl rfl) fun _ _ hs => ?_
  refine sy hs (y_move rfl) fun _ _ hs => ?_
  first | (refine syg hs (y_fieldAddr rfl (FO.of (off := 55) Tryz.underlying31 rfl rfl ti9 (by decide))) ?_; clear hs; (try clear a w); intro a w hs) | (refine syg hs (y_faE rfl (FO.of (off := 55) Tryz.underlying31 rfl rfl ti9 (by decide))) ?_; clear hs; (try clear a w); intro a w hs)
  refine syg hs (y_ld (u := .string t) rfl Tryz.underlying9 rfl (Cell.blk (.tail _ (.head _)) (cB_text' hS))) fun _ _ hs => ?_
  first | (refine syg hs (y_fieldAddr rfl (FO.of (off := 55) Tryz.underlying44 rfl rfl ti9 (by decide))) ?_; clear hs; (try clear a w); intro a w hs) | (refine syg hs (y_faE rfl (FO.of (off := 55) Tryz.underlying44 rfl rfl ti9 (by decide))) ?_; clear hs; (try clear a w); intro a w hs)
  refine syg hs (y_ld (u := .string t) rfl Tryz.underlying9 rfl (Cell.blk (.head _) (cB_text' hS))) fun _ _ hs => ?_
  refine syg hs (y_sneqS rfl rfl) fun _ _ hs => ?_
  refine sy hs (y_pick rfl rfl) fun _ _ hs => ?_
  refine sy hs (y_move rfl) fun _ _ hs => ?_
  first | (refine syg hs (y_fieldAddr rfl (FO.of (off := 56) Tryz.underlying31 rfl rfl ti29 (by decide))) ?_; clear hs; (try clear a w); intro a w hs) | (refine syg hs (y_faE rfl (FO.of (off := 56) Tryz.underlying31 rfl rfl ti29 (by decide))) ?_; clear hs; (try clear a w); intro a w hs)
  refine syg hs (y_ld (u := kv1) rfl Tryz.underlying29 rfl (Cell.blk (.tail _ (.head _)) (cB_kids' hS))) fun _ _ hs => ?_
  refine syg hs (y_lenR0 hRa rfl Tryz.underlying29) fun _ _ hs => ?_
  first | (refine syg hs (y_fieldAddr rfl (FO.of (off := 56) Tryz.underlying44 rfl rfl ti42 (by decide))) ?_; clear hs; (try clear a w); intro a w hs) | (refine syg hs (y_faE rfl (FO.of (off := 56) Tryz.underlying44 rfl rfl ti42 (by decide))) ?_; clear hs; (try clear a w); intro a w hs)
  refine syg hs (y_ld (u := kv2) rfl Tryz.underlying42 rfl (Cell.blk (.head _) (cB_kids' hS))) fun _ _ hs => ?_
  refine syg hs (y_lenR0 hRb rfl Tryz.underlying42) fun _ _ hs => ?_
  refine syg hs (y_neqS rfl (by rw [hl1, ← hl2]; rfl)) fun _ _ hs => ?_
  refine sy hs (y_pick rfl rfl) fun _ _ hs => ?_
  refine RL_nil ?_
  refine hK3 _ _ ?_; clear hK3
  refine W_condF hs rfl ?_
  refine W_skip ?_
  refine hK2 _ _ ?_; clear hK2
  refine W_seq fun K4 hK4 => ?_
  refine W_seq fun K5 hK5 => ?_
  refine W_region ?_
  refine sy hs (y_assign rfl) fun _ _ hs => ?_
  refine RL_nil ?_
  refine hK5 _ _ ?_; clear hK5
  refine W_block fun Qe6 hB6 hO6 => ?_
  refine W_loop (fun (j : Nat) a w => j ≤ ks.length ∧ St 67 w0 f (.blk b3 (.cells (cB k m i s t kv2).toArray 44 (0, 0)) :: .blk b2 (.cells (cB k m i s t kv1).toArray 31 (0, 0)) :: L) [(2, .pointer (some ⟨b2, 0, none⟩)), (3, .pointer (some ⟨b3, 0, none⟩)), (5, .int .i64 (j : Int))] a w) (fun j => ks.length - j) 0 ⟨by omega, hs.sub ⟨rfl, rfl, rfl, trivial⟩⟩ ?_
  clear hs; rintro j a w ⟨hj, hs⟩ K hK
  refine W_seq fun K7 hK7 => ?_
  refine W_seq fun K8 hK8 => ?_
  refine W_region ?_
  refine sy hs (y_move rfl) fun _ _ hs => ?_
  first | (refine sy hs (y_fieldAddr rfl (FO.of (off := 56) Tryz.underlying31 rfl rfl ti29 (by decide))) ?_; clear hs; (try clear a w); intro a w hs) | (refine sy hs (y_faE rfl (FO.of (off := 56) Tryz.underlying31 rfl rfl ti29 (by decide))) ?_; clear hs; (try clear a w); intro a w hs)
  refine sy hs (y_ld (u := kv1) rfl Tryz.underlying29 rfl (Cell.blk (.tail _ (.head _)) (cB_kids' hS))) fun _ _ hs => ?_
  refine sy hs (y_lenR0 hRa rfl Tryz.underlying29) fun _ _ hs => ?_
  refine sy hs (y_lss rfl rfl) fun _ _ hs => ?_
  refine RL_nil ?_
  refine hK8 _ _ ?_; clear hK8
  first | refine W_condP hs rfl (fun hlt => ?_) (fun hlt => ?_) | refine W_cond hs rfl (fun hlt => ?_) (fun hlt => ?_)
  · have hmx := rowMax hs (.tail _ (.tail _ hm1))
    obtain ⟨x, hx⟩ : ∃ x, ks[j]? = some x := ⟨_, List.getElem?_eq_getElem (by omega)⟩
    obtain ⟨r1, Y1, Y2, Y3, hr1, rfl, -, hb1, -⟩ := hO1.at hx
    obtain ⟨r2, Z1, Z2, Z3, hr2, rfl, -, hb2, -⟩ := hO2.at hx
    refine W_skip ?_
    refine hK7 _ _ ?_; clear hK7
    refine W_seq fun K9 hK9 => ?_
    refine W_block fun Qe10 hB10 hO10 => ?_
    refine W_seq fun K11 hK11 => ?_
    refine W_draw hs mixed (by kernel_rfl) ?_; intro a he
    first | (refine qy he (y_fieldAddr rfl (FO.of (off := 56) Tryz.underlying31 rfl rfl ti29 (by decide))) ?_; clear he; (try clear a); intro a he) | (refine qy he (y_faE rfl (FO.of (off := 56) Tryz.underlying31 rfl rfl ti29 (by decide))) ?_; clear he; (try clear a); intro a he)
    refine qy he (y_ld (u := kv1) rfl Tryz.underlying29 rfl (Cell.blk (.tail _ (.head _)) (cB_kids' hS))) fun _ he => ?_
    refine qy he (y_move rfl) fun _ he => ?_
    refine qy he (y_indexAddr hRa rfl rfl rfl (by omega) Tryz.underlying29 ti31) fun _ he => ?_
    refine qy he (y_loadRow hRa rfl hr1 Tryz.underlying31 rfl ti31) fun _ he => ?_
    first | (refine qy he (y_fieldAddr rfl (FO.of (off := 56) Tryz.underlying44 rfl rfl ti42 (by decide))) ?_; clear he; (try clear a); intro a he) | (refine qy he (y_faE rfl (FO.of (off := 56) Tryz.underlying44 rfl rfl ti42 (by decide))) ?_; clear he; (try clear a); intro a he)
    refine qy he (y_ld (u := kv2) rfl Tryz.underlying42 rfl (Cell.blk (.head _) (cB_kids' hS))) fun _ he => ?_
    refine qy he (y_move rfl) fun _ he => ?_
    refine qy he (y_indexAddr hRb rfl rfl rfl (by omega) Tryz.underlying42 ti44) fun _ he => ?_
    refine qy he (y_loadRow hRb rfl hr2 Tryz.underlying44 rfl ti44) fun _ he => ?_
    refine qy he (y_callC rfl has14 rfl (fun w hw => ih x (List.mem_of_getElem? hx) r1 r2 Y2 Z2 hb1 hb2 w0 f _ w (fun e he => .tail _ (.tail _ (hX1 e (by simp [he])))) (fun e he => .tail _ (.tail _ (hX2 e (by simp [he])))) hw)) fun _ he => ?_
    refine qy he (y_not rfl) fun _ he => ?_
    refine QL_nil he ?_; clear he hs; intro a w hs
    refine hK11 _ _ ?_; clear hK11
    refine W_condF hs rfl ?_
    refine W_skip ?_
    refine hK9 _ _ ?_; clear hK9
    refine W_region ?_
    refine sy hs (y_move rfl) fun _ _ hs => ?_
    refine sy hs (y_add rfl rfl (wr_i64 (by omega))) fun _ _ hs => ?_
    refine sy hs (y_assign rfl) fun _ _ hs => ?_
    refine RL_nil ?_
    exact hK (j + 1) _ _ (by omega) ⟨by omega, hs.sub ⟨rfl, rfl, rfl, trivial⟩⟩
  · refine W_exit ?_
    refine hB6 _ _ ?_
    refine hK4 _ _ ?_; clear hK4
    refine W_seq fun K12 hK12 => ?_
    refine W_region ?_
    refine sy hs (y_assign rfl) fun _ _ hs => ?_
    refine RL_nil ?_
    refine hK12 _ _ ?_; clear hK12
    refine W_ret ?_
    refine Rt_1 hs rfl rfl ?_
    exact ⟨rfl, hs.cw.tail.tail⟩
mutual
theorem same_ok : ∀ b, TyB b → SameOK b
  | .mk _ _ _ _ _ ks, h => same_step h.1 (same_all ks h.2)
theorem same_all : ∀ (ks : List BT), TyL ks → ∀ b ∈ ks, SameOK b
  | [], _, _, h => by simp at h
  | b :: bs, hT, x, h => by
    rcases List.mem_cons.1 h with h | h
    · rw [h]; exact same_ok b hT.1
    · exact same_all bs hT.2 x h
end
end Go.Proofs.YteicdfkmpnmkmaaGreat
