/-
  Walks and laws of this seat; the base is the text Base.
-/
import Derived.Test.YtmkcglpeidbblaaDoorS10
import Derived.Test.YtmkcglpeidbblaaDoorL10c
namespace Go.Proofs.YtmkcglpeidbblaaDoor
open Go.RowKit Go.Sl
/-! The library's tables, strings.FieldsFunc, and strings.Map at the one function that is handed to it. -/
/-- The two blocks hold unicode/utf8's tables. -/
def Tabs (o0 o1 : Obj) : Prop := ∀ w : World, w.heap[0]? = some o0 → w.heap[1]? = some o1 → Lib.Utf8Tabs 0 1 w
theorem cell_heap {w w' : World} {b c : Nat} (h : w.heap[b]? = w'.heap[b]?) : w.cell? ⟨b, c, none⟩ = w'.cell? ⟨b, c, none⟩ := by
  unfold World.cell?
  rw [h]
theorem Tabs.of {w : World} {o0 o1 : Obj} (h0 : w.heap[0]? = some o0) (h1 : w.heap[1]? = some o1) (h : Lib.Utf8Tabs 0 1 w) : Tabs o0 o1 := fun w' e0 e1 => by
  obtain ⟨a, b⟩ := h
  refine ⟨fun c hc => ?_, fun i hi => ?_⟩
  · rw [cell_heap (w' := w) (e0.trans h0.symm)]; exact a c hc
  · rw [cell_heap (w' := w) (e1.trans h1.symm), cell_heap (w' := w) (e1.trans h1.symm)]; exact b i hi
/-! strings.FieldsFunc -/
/-- What strings.FieldsFunc hands back: the texts between the runes that f takes. -/
def strings_FieldsFunc (_n : Nat) (s : ByteArray) (p : Int → Option Bool) : Option (List ByteArray) :=
  bif decide (s.size ≤ 4294967296) then some (Lib.goFieldsP (fun x : Nat => (p (x : Int)).getD false) s) else none
theorem fields_tot {n : Nat} : ∀ z, ∃ r, match_holds_1 n z = some r := fun _ => ⟨_, rfl⟩
theorem strs_rw {f : Fz} : ∀ xs : List ByteArray, RW tStr f ((xs.map Value.string).map fun v => [v]) xs
  | [] => trivial
  | _ :: xs => ⟨rfl, strs_rw xs⟩
theorem strings_FieldsFunc_ok (n : Nat) {f : Fz} {p0 : ByteArray} {p1 : Int → Option Bool} {g1 : FuncId} {cap1 : List Value} {res : List ByteArray} (hg1 : Has Tryd.prog g1)
    (hf1 : ∀ f', Fz.le f f' → ∀ (z0 : Int) (r : Bool), p1 z0 = some r → Gives Tryd.prog g1 ([.int .i32 z0] ++ cap1) f' (.bool r)) (htot : ∀ z, ∃ r, p1 z = some r) (hm : strings_FieldsFunc n p0 p1 = some res) :
    Does Tryd.prog 45 [.string p0, .func (.func g1) #[] cap1.toArray] f [] (fun r f' L' => ∃ (u0 : Value), L' = [] ∧ r = u0 ∧ RS tStr f' u0 res) := by
  unfold strings_FieldsFunc at hm
  have hs : p0.size ≤ 4294967296 := by
    by_cases h : p0.size ≤ 4294967296
    · exact h
    · rw [decide_eq_false h] at hm; cases hm
  rw [decide_eq_true hs] at hm
  obtain rfl := Option.some.inj hm
  have hp : ∀ w0 L w, Cw w0 f L w → PredGrows Tryd.prog g1 cap1.toArray (fun x : Nat => (p1 (x : Int)).getD false) w := fun w0 L w hC W x _ hb => by
    obtain ⟨r, hr⟩ := htot (x : Int)
    have hle : Fz.le f (whole W) := fun b o hbo => (hb.block b (hC.fz_lt hbo)).trans (hC.frz b o hbo)
    have hg := hf1 (whole W) hle (x : Int) r hr
    show Calls Tryd.prog g1 (#[encR x] ++ cap1.toArray) W fun e w' => e = .returned (.bool ((p1 (x : Int)).getD false)) ∧ Below W.heap.size W w'
    rw [hr]
    have := (hg W [] W (Cw.start W)).mono fun e w' (h : e = .returned (.bool r) ∧ Cw W (whole W) [] w') => (⟨h.1, h.2.below⟩ : e = .returned (.bool r) ∧ Below W.heap.size W w')
    have e : #[encR x] ++ cap1.toArray = ([Value.int .i32 (x : Int)] ++ cap1).toArray := by simp
    rw [e]
    exact this
  refine Does.fresh (t := tStr) (e := 9) (vs := (Lib.goFieldsP (fun x : Nat => (p1 (x : Int)).getD false) p0).map Value.string) rfl (strs_rw _) (fun v hv => by obtain ⟨s, _, rfl⟩ := List.mem_map.1 hv; rfl) fun w0 L w hC => ?_
  have := Tryd.strings_FieldsFunc_grows g1 cap1.toArray (fun _ _ => run_callFunc hg1) _ p0 w hs (hp w0 L w hC)
  rw [List.length_map]
  exact this
/-! strings.Map -/
/-- What the closure of match.small makes of a rune. -/
def lowR (x : Int) : Int := if 65 ≤ x ∧ x ≤ 90 then x + 32 else x
theorem small1_eq (n : Nat) (x : Int) : match_small_1 n x = some (lowR x) := by
  unfold match_small_1 lowR
  by_cases h : 65 ≤ x ∧ x ≤ 90
  · rw [if_pos h, decide_eq_true h.1, decide_eq_true h.2, Bool.and_self, cond_true, wr_i32 (n := x + 97) (by omega), wr_i32 (by omega), show x + 97 - 65 = x + 32 by omega]
  · rw [if_neg h]
    by_cases h1 : 65 ≤ x
    · rw [decide_eq_true h1, decide_eq_false (fun h2 => h ⟨h1, h2⟩)]; rfl
    · rw [decide_eq_false h1]; rfl
theorem small_tot {n : Nat} : ∀ z, ∃ r, match_small_1 n z = some r ∧ (0 ≤ z ∧ z ≤ 1114111 → -2147483648 ≤ r ∧ r ≤ 2147483647) := fun z => ⟨_, small1_eq n z, fun h => by unfold lowR; split <;> omega⟩
def strings_Map (_n : Nat) (p : Int → Option Int) (s : ByteArray) : Option ByteArray :=
  bif decide (s.size < 35184372088832) then some (bs (Lib.mapD (fun x => (p x).getD 0) s.data.toList)) else none
theorem strings_Map_ok (n : Nat) {f : Fz} {o0 o1 : Obj} {p0 : Int → Option Int} {g0 : FuncId} {cap0 : List Value} {p1 : ByteArray} {res : ByteArray} (hT0 : f 0 = some o0) (hT1 : f 1 = some o1) (hTT : Tabs o0 o1) (hg0 : Has Tryd.prog g0)
    (hf0 : ∀ f', Fz.le f f' → ∀ (z0 : Int) (r : Int), p0 z0 = some r → Gives Tryd.prog g0 ([.int .i32 z0] ++ cap0) f' (.int .i32 r)) (htot : ∀ z, ∃ r, p0 z = some r ∧ (0 ≤ z ∧ z ≤ 1114111 → -2147483648 ≤ r ∧ r ≤ 2147483647)) (hm : strings_Map n p0 p1 = some res) :
    Gives Tryd.prog 54 [.func (.func g0) #[] cap0.toArray, .string p1] f (.string res) := by
  unfold strings_Map at hm
  have hs : p1.size < 35184372088832 := by
    by_cases h : p1.size < 35184372088832
    · exact h
    · rw [decide_eq_false h] at hm; cases hm
  rw [decide_eq_true hs] at hm
  obtain rfl := Option.some.inj hm
  refine .of fun w0 L w hC => ?_
  have hT := hTT w (hC.frz _ _ hT0) (hC.frz _ _ hT1)
  refine Tryd.strings_Map_grows g0 cap0.toArray (fun _ _ => run_callFunc hg0) (fun x => (p0 x).getD 0) p1 w hs (fun W x _ hb => ?_) (fun x hx => ?_) hT
  · obtain ⟨r, hr, _⟩ := htot (x : Int)
    have hle : Fz.le f (whole W) := fun b o hbo => (hb.block b (hC.fz_lt hbo)).trans (hC.frz b o hbo)
    have hg := hf0 (whole W) hle (x : Int) r hr
    show Calls Tryd.prog g0 (#[encR x] ++ cap0.toArray) W fun e w' => e = .returned (.int .i32 ((p0 (x : Int)).getD 0)) ∧ Below W.heap.size W w'
    rw [hr]
    have := (hg W [] W (Cw.start W)).mono fun e w' (h : e = .returned (.int .i32 r) ∧ Cw W (whole W) [] w') => (⟨h.1, h.2.below⟩ : e = .returned (.int .i32 r) ∧ Below W.heap.size W w')
    have e : #[encR x] ++ cap0.toArray = ([Value.int .i32 (x : Int)] ++ cap0).toArray := by simp
    rw [e]
    exact this
  · obtain ⟨r, hr, hb⟩ := htot (x : Int)
    show -2147483648 ≤ (p0 (x : Int)).getD 0 ∧ (p0 (x : Int)).getD 0 ≤ 2147483647
    rw [hr]
    exact hb (by omega)
/-! The keys of the map of places. -/
def ke_match_place (p : match_place) : Value := .agg #[.int .i64 p.step, .int .i64 p.node]
set_option maxRecDepth 20000 in
theorem ko_match_place : KeyOK Tryd.prog 79 ke_match_place := by
  refine .struct Tryd.underlying79 (fun k => ⟨_, rfl⟩) (fun em k w => ?_) (fun a b w => ?_) (fun k => ?_)
  · kernel_rfl
  · have e1 := run_equalIn_agg (P := Tryd.prog) w 9999 79 #[.int .i64 a.step, .int .i64 a.node] #[.int .i64 b.step, .int .i64 b.node] (by rw [fieldsOf_eq Tryd.underlying79]; exact Tryd.underlying79) (by kernel_rfl)
    rw [fieldsOf_eq Tryd.underlying79] at e1
    refine Eq.trans e1 (Eq.trans (eqF_int (dp := 9998) (k := .i64) rfl Tryd.underlying3 rfl rfl (eqF_int (dp := 9998) (k := .i64) rfl Tryd.underlying3 rfl rfl eqF_nil)) ?_)
    cases a; cases b
    simp only [match_place.mk.injEq, Bool.and_true, Bool.decide_and]
    congr 2 <;> exact decide_eq_decide.2 eq_comm
  · simp [Instr.sameBits, ke_match_place]
end Go.Proofs.YtmkcglpeidbblaaDoor
