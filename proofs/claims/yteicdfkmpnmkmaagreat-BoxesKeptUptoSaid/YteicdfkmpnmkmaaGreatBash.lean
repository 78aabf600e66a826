/-
  Walks and laws of this seat.
-/
import Derived.Test.YteicdfkmpnmkmaaGreatBasg
import Derived.ChangeArms
import Derived.Lib.Builder
import Derived.Lib.UnsafeStr
import Derived.Laws.Externs
import Derived.Laws.LoneSync
import Derived.Defers
import Derived.ChangeKeysEq
import Derived.Test.YteicdfkmpnmkmaaGreatBasf
namespace Go.Sl
open Go.RowKit Go.ChangeShapes Go.WideShapes Go.ChangeAt
section
variable {α : Type} {P : Program}
def Sint (k : IntKind) (i : Int) : Prop := (Lit.int k i).wf = true
theorem yg0 {β : Type} {Q : Nat → β → Prop} : ∀ (len : Nat),(∀ i, i < len → ∃ p, Q i p) → ∃ l : List β, l.length = len ∧ ∀ (i : Nat) p, l[i]? = some p → Q i p
  | 0, _ => ⟨[], rfl, by simp⟩
  | len + 1, h => by
    obtain ⟨l, h1, h2⟩ := yg0 len (fun i hi => h i (by omega))
    obtain ⟨p, hp⟩ := h len (by omega)
    refine ⟨l ++ [p], by simp [h1], fun i q hq => ?_⟩
    rw [List.getElem?_append] at hq
    split at hq
    · exact h2 i q hq
    · have : i = len := by
        have := (List.getElem?_eq_some_iff.1 hq).1
        simp at this; omega
      subst this
      simp [h1] at hq
      subst hq
      exact hp
theorem yed {w : World} {r : Reach} {base : Nat} {T : TypeId} {v : Value} {fs : Array Field} (ht : P.underlying T = some (.struct fs)) (h : Value.okWide P w r base T v) : ∃ cs : List Value, v = .agg cs.toArray := by
  simp only [Value.okWide, ht] at h
  cases v <;> simp_all
  exact ⟨_, rfl⟩
end
end Go.Sl
namespace Go.Sl
open Go.RowKit
section
variable {P : Program} {M : List Deferred} {Q Q' : List Deferred → Exit → AP} {a : Act} {w : World}
open Classical in
end
end Go.Sl
namespace Go.Sl
open Go.RowKit
section
variable {P : Program} {f f' : Fz} {L L' : List Ent} {w0 w w' : World} {n : Nat} {E E' : List (Nat × Value)} {a : Act}
end
end Go.Sl
namespace Go.Sl
open Go.RowKit
section
variable {P : Program} {f f' : Fz} {L L' : List Ent} {w0 w w' : World} {n : Nat} {E E' : List (Nat × Value)} {a : Act}
variable {ops : Array Oper} {rest : List Oper} {K : AP} {ty : TypeId} {pos : String} {af : Array Edge} {g : Option (Nat × Bool)}
end
end Go.Sl
namespace Go.Sl
open Go.RowKit
abbrev MP := List Deferred → AP
section
variable {P : Program} {f f' f0 : Fz} {L L' : List Ent} {w0 w w' : World} {n : Nat} {E E' : List (Nat × Value)} {a : Act}
variable {M : List Deferred} {Qn : MP} {Qe : Nat → MP} {Qr : MP} {Qg : Nat → MP}
section
variable {ops : Array Oper} {rest : List Oper} {K : AP} {ty : TypeId} {pos : String} {af : Array Edge}
end
section
variable {C : World → Prop} {d : Option Tmp} {ty : TypeId} {pos : String} {af : Array Edge} {g : Option (Nat × Bool)}
theorem yew {t : TypeId} {x : Operand} {ol oh : Option Operand} {s u : ByteArray} {lo hi : Nat} (he : s.extract lo hi = u) (hx : opv E x = some (.string s)) (ht : P.underlying t = some .string)
    (hlo : (ol = none ∧ lo = 0) ∨ ∃ y, ol = some y ∧ opv E y = some (.int .i64 (lo : Int))) (hhi : (oh = none ∧ hi = s.size) ∨ ∃ y, oh = some y ∧ opv E y = some (.int .i64 (hi : Int))) (h1 : lo ≤ hi) (h2 : hi ≤ s.size) :
    Y P C n E ⟨d, .slice t x ol oh none, ty, pos, af, g⟩ (.string u) := by subst he; exact y_sliceS hx ht hlo hhi h1 h2
end
end
end Go.Sl
namespace Go.Sl
open Go.RowKit
end Go.Sl
namespace Go.Sl
open Go.RowKit
section
variable {P : Program} {f f' f0 : Fz} {L L' Lc : List Ent} {w0 w w' : World} {n m i : Nat} {E E' : List (Nat × Value)} {a : Act}
variable {ops : Array Oper} {rest : List Oper} {o : Oper} {K : AP} {C : World → Prop} {op : Op}
variable {d : Option Tmp} {ty : TypeId} {pos : String} {af : Array Edge} {g : Option (Nat × Bool)} {brk : List Nat} {p : PT} {v : Value}
def Apart (x y : Ent) : Prop := ∀ k, x.key = some k → y.key = some k → False
theorem zu7 {L : List Ent} : (∀ (i j : Nat) (x y : Ent), L[i]? = some x → L[j]? = some y → i ≠ j → ∀ k, x.key = some k → y.key = some k → False) ↔ L.Pairwise Apart := by
  rw [List.pairwise_iff_getElem]
  constructor
  · intro h i j hi hj hij k h1 h2
    exact h i j _ _ (List.getElem?_eq_getElem hi) (List.getElem?_eq_getElem hj) (by omega) k h1 h2
  · intro h i j x y hi hj hij k h1 h2
    obtain ⟨hi', rfl⟩ := List.getElem?_eq_some_iff.1 hi
    obtain ⟨hj', rfl⟩ := List.getElem?_eq_some_iff.1 hj
    rcases Nat.lt_or_gt_of_ne hij with hlt | hlt
    · exact h i j hi' hj' hlt k h1 h2
    · exact h j i hj' hi' hlt k h2 h1
theorem Cw.perm (h : Cw w0 f L w) (hp : L.Perm L') : Cw w0 f L' w := by
  refine ⟨h.os, h.tape, h.output, h.size, h.frz, fun e he => h.live e (hp.mem_iff.2 he), fun e he => h.apart e (hp.mem_iff.2 he), ?_⟩
  rw [zu7]
  exact (List.Perm.pairwise_iff (fun {x y} (hxy : Apart x y) k h1 h2 => hxy k h2 h1) hp).1 (zu7.1 h.sep)
theorem RW.ints {k : IntKind} {rows : List (List Value)} {xs : List Int} (h : RW (tInt k) f rows xs) : rows = xs.map fun x => [.int k x] := RW.map (fun _ _ h => h) h
theorem y_r2sW {t u e : TypeId} {x : Operand} {v : Value} {rows : List (List Value)} {xs : List Int} (hx : opv E x = some v) (ht : P.underlying t = some (.slice e)) (he : P.underlying e = some (.int .i32)) (hu : P.underlying u = some .string) (hR : Rd f L v 1 rows) (hW : RW (tInt .i32) f' rows xs) :
    Y P (Cw w0 f L) n E ⟨d, .convert t u x, ty, pos, af, g⟩ (.string (textOf xs)) := y_r2s hx ht he hu (hW.ints ▸ hR)
theorem y_b2sW {t u e : TypeId} {x : Operand} {v : Value} {rows : List (List Value)} {xs : List Int} (hx : opv E x = some v) (ht : P.underlying t = some (.slice e)) (he : P.underlying e = some (.int .u8)) (hu : P.underlying u = some .string) (hR : Rd f L v 1 rows) (hW : RW (tInt .u8) f' rows xs) :
    Y P (Cw w0 f L) n E ⟨d, .convert t u x, ty, pos, af, g⟩ (.string (bytesOf xs)) := y_b2s hx ht he hu (hW.ints ▸ hR)
def runesM (s : ByteArray) : Option (List Int) := bif decide (s.size ≤ 70368744177664) then some (runesIn s) else none
theorem ybk {s : ByteArray} {xs : List Int} (h : runesM s = some xs) : s.size ≤ 70368744177664 ∧ runesIn s = xs := by
  unfold runesM at h
  by_cases hs : s.size ≤ 70368744177664
  · rw [decide_eq_true hs] at h; exact ⟨hs, Option.some.inj h⟩
  · rw [decide_eq_false hs] at h; cases h
theorem RW.ofInts {k : IntKind} : ∀ xs : List Int, RW (tInt k) f (xs.map fun x => [.int k x]) xs
  | [] => trivial
  | _ :: xs => ⟨rfl, RW.ofInts xs⟩
theorem RL_s2rW {t u e : TypeId} {x : Operand} {s : ByteArray} {xs : List Int} {dd : Nat} (hm : runesM s = some xs) (hs : St n w0 f L E a w) (hx : opv E x = some (.string s)) (ht : P.underlying t = some .string) (hu : P.underlying u = some (.slice e)) (he : P.underlying e = some (.int .i32))
    (h : ∀ v rows a w, RW (tInt .i32) f rows xs → St n w0 f (.row v e 1 rows :: L) ((dd, v) :: E) a w → RL P ops rest K a w) (hd : dd < n := by decide) :
    RL P ops (⟨some dd, .convert t u x, ty, pos, af, none⟩ :: rest) K a w := by
  obtain ⟨h1, rfl⟩ := ybk hm
  exact RL_s2r hs hx ht hu he h1 (fun v a w hs => h v _ a w (RW.ofInts _) hs) hd
def bytesM (s : ByteArray) : Option (List Int) := bif decide (s.size ≤ 70368744177664) then some (bytesIn s) else none
end
section
variable {P : Program} {f f' f0 : Fz} {L L' Lc : List Ent} {w0 w w' : World} {n m i : Nat} {E E' : List (Nat × Value)} {a : Act}
variable {ops : Array Oper} {K : AP} {ty : TypeId} {pos : String} {af : Array Edge} {brk : List Nat} {p : PT} {v : Value} {dd : Nat} {j gd : Nat} {b : Bool}
end
end Go.Sl
namespace Go.Sl
open Go.RowKit
section
variable {P : Program} {f f' f0 : Fz} {L L' Lc : List Ent} {w0 w w' : World} {n m i : Nat} {E E' : List (Nat × Value)} {a : Act}
variable {d : Option Tmp} {ty : TypeId} {pos : String} {af : Array Edge} {g : Option (Nat × Bool)} {r v : Value}
theorem y_callCK {gn : FuncId} {x : Operand} {cap : List Value} {as : List Operand} {vs : List Value} {ats : Array TypeId} (hx : opv E x = some (.func (.func gn) #[] cap.toArray)) (hg : Has P gn) (hv : as.mapM (opv E) = some vs)
    (hp : ∀ w, Cw w0 f L w → Calls P gn (vs ++ cap).toArray w fun e w' => e = .returned v ∧ Cw w0 f L w') :
    Y P (Cw w0 f L) n E ⟨d, .call { callee := .value x, args := as.toArray, argTypes := ats }, ty, pos, af, g⟩ v := by
  intro a ha w hw
  unfold Oper.quietAt
  rw [zs5 ha hx hg hv]
  refine ⟨rfl, ?_⟩
  have := hp w hw
  rw [List.append_toArray] at *
  simpa using this
end
section
variable {P : Program} {Qn : AP} {Qe : Nat → AP} {Qr : AP} {Qg : Nat → AP} {a : Act} {w : World} {c : Code}
end
end Go.Sl
namespace Go.Sl
open Go.RowKit
section
variable {P : Program} {f f' f0 : Fz} {L L' : List Ent} {w0 w w' : World} {n : Nat} {E E' : List (Nat × Value)} {a : Act}
variable {ops : Array Oper} {rest : List Oper} {o : Oper} {K : AP} {C : World → Prop}
variable {d : Option Tmp} {ty : TypeId} {pos : String} {af : Array Edge} {g : Option (Nat × Bool)}
def Obj.free : Obj → Bool
  | .cells _ _ (0,0) => true
  | _ => false
def fy (f0 f : Fz) : Fz := fun b => match f0 b, f b with
  | none, some o => if Obj.free o = true then some o else none
  | _, _ => none
theorem zpd {b : Nat} {o : Obj} : fy f0 f b = some o ↔ f0 b = none ∧ f b = some o ∧ Obj.free o = true := by
  unfold fy
  cases h0 : f0 b with
  | some _ => simp
  | none =>
    cases h1 : f b with
    | none => simp
    | some u =>
      simp only
      split
      · rename_i h; constructor
        · intro e; cases e; exact ⟨trivial, rfl, h⟩
        · rintro ⟨_, e, _⟩; exact e
      · rename_i h
        constructor
        · intro e; cases e
        · rintro ⟨_, e, h2⟩; cases e; exact absurd h2 h
theorem fy_le : Fz.le (fy f0 f) f := fun _ _ h => (zpd.1 h).2.1
theorem fyl (h : Fz.le f f') : Fz.le (fy f0 f) (fy f0 f') := fun b o hb => by
  obtain ⟨h1, h2, h3⟩ := zpd.1 hb
  exact zpd.2 ⟨h1, h b o h2, h3⟩
theorem zyx {b : Nat} (h : Fz.le f0 f) (hb : f b = none) : f0 b = none := by
  cases e : f0 b with
  | none => rfl
  | some o => rw [h b o e] at hb; cases hb
theorem ych {t : TypeId} {x y : Operand} {b o : Nat} {i : Nat} {k : Nat} {cs : Array Value} {r' : List Value} {e : TypeId} {by_ : Nat} {z : Value} (hs : St n w0 f L E a w) (hi : L[i]? = some (.blk b (.cells cs e (0,0))))
    (hx : opv E x = some (.pointer (some ⟨b, o, none⟩))) (hy : opv E y = some (.agg r'.toArray)) (hT : TI P t k by_ z) (hu : OneRow k r') (ho : o + k ≤ cs.size) (hw : Want ops E ⟨none, .store t x y, ty, pos, af, g⟩ true)
    (h : ∀ a w, St n w0 f (L.set i (.blk b (.cells (cs.toList.take o ++ r' ++ cs.toList.drop (o + r'.length)).toArray e (0,0)))) E a w → RL P ops rest K a w) : RL P ops (⟨none, .store t x y, ty, pos, af, g⟩ :: rest) K a w := by
  have hlive : w.heap[b]? = some (.cells cs e (0,0)) := hs.cw.live _ (List.mem_of_getElem? hi)
  obtain ⟨it, hit, _, hk', _⟩ := hT
  have hst := run_storeCells_at P b o e r' 0 cs w hlive (by simpa [hu.1] using ho) hu.2
  simp only [Nat.add_zero] at hst
  refine RL_u hs hw (.drop rfl) (w' := w.setRow b (cs.toList.take o ++ r' ++ cs.toList.drop (o + r'.length)).toArray) (f' := f) (L' := L.set i (.blk b (.cells (cs.toList.take o ++ r' ++ cs.toList.drop (o + r'.length)).toArray e (0,0)))) ?_ ?_ h
  · simp [execOp, hs.ev.eval hx, hs.ev.eval hy, Instr.storeAt, Instr.sureAddr, storeVar, sizeOf, typeInfo, hit, Value.cells, hu.1, hk', hst]
  · exact hs.cw.repl hi (Grew.setRow w b _) (setRow_heap w b cs _ e _ hlive) (fun b' hb => .inl hb)
end
end Go.Sl
namespace Go.Sl
open Go.RowKit
end Go.Sl
namespace Go.Sl
open Go.RowKit
section
variable {P : Program} {f f' : Fz} {L L' : List Ent} {w0 w w' : World} {n : Nat} {E E' : List (Nat × Value)} {a : Act}
variable {ops : Array Oper} {rest : List Oper} {o : Oper} {K : AP} {C : World → Prop}
variable {d : Option Tmp} {ty : TypeId} {pos : String} {af : Array Edge} {g : Option (Nat × Bool)}
end
end Go.Sl
namespace Go.Sl
open Go.RowKit
section
variable {P : Program} {f f' f0 : Fz} {L L' Lc : List Ent} {w0 w w' : World} {n m i : Nat} {E E' : List (Nat × Value)} {a : Act}
variable {ops : Array Oper} {rest : List Oper} {K : AP} {C : World → Prop}
variable {d : Option Tmp} {ty : TypeId} {pos : String} {af : Array Edge} {g : Option (Nat × Bool)} {v : Value} {dd : Nat}
end
end Go.Sl
namespace Go.Sl
open Go.RowKit
section
variable {P : Program} {f : Fz} {L : List Ent} {w0 w : World} {n : Nat} {E : List (Nat × Value)} {a : Act}
variable {ops : Array Oper} {rest : List Oper} {K : AP} {d : Option Tmp} {ty : TypeId} {pos : String} {af : Array Edge}
end
end Go.Sl
namespace Go.Sl
open Go.RowKit
section
variable {P : Program} {f f' f0 : Fz} {L L' Lc : List Ent} {w0 w w' : World} {n m i : Nat} {E E' : List (Nat × Value)} {a : Act}
variable {ops : Array Oper} {rest : List Oper} {K : AP} {C : World → Prop}
variable {d : Option Tmp} {ty : TypeId} {pos : String} {af : Array Edge} {g : Option (Nat × Bool)} {v : Value} {dd : Nat}
end
end Go.Sl
namespace Go.Sl
open Go.RowKit
section
variable {P : Program} {f f' : Fz} {L : List Ent} {w0 w : World} {n : Nat} {E : List (Nat × Value)} {a : Act} {fn : Func} {R : Ending → World → Prop} {M : List Deferred} {K : AP}
variable {ops : Array Oper} {rest : List Oper} {ty : TypeId} {pos : String} {af : Array Edge} {g : Option (Nat × Bool)} {dd : Nat}
end
end Go.Sl
namespace Go.Sl
open Go.RowKit
section
variable {P : Program} {C : World → Prop} {n : Nat} {E : List (Nat × Value)} {d : Option Tmp} {ty : TypeId} {pos : String} {af : Array Edge} {g : Option (Nat × Bool)}
theorem y_slNeq {t t' e : TypeId} {x : Operand} {ao : Option Addr} {m c : Nat} (hx : opv E x = some (.slice ao m c)) (ht : P.underlying t = some (.slice e)) : Y P C n E ⟨d, .binOp .neq t x (.const (.slice none 0 0)) t', ty, pos, af, g⟩ (.bool ao.isSome) :=
  .of fun a ha w _ => by
    have h : (Op.equal t (.slice ao m c) (.slice none 0 0)).run P w = .ok ao.isNone w := zxt (fun d => by cases ao <;> simp [Op.equalIn, run_underlying ht]) rfl
    have e : a.eval (.const (.slice none 0 0)) = .slice none 0 0 := rfl
    simp [execOp, ha.eval hx, e, eqGuard, binOp, h]
end
end Go.Sl
namespace Go.Sl
open Go.RowKit
section
variable {P : Program} {n : Nat} {E : List (Nat × Value)} {C : World → Prop}
variable {d : Option Tmp} {ty : TypeId} {pos : String} {af : Array Edge} {g : Option (Nat × Bool)}
def PartIs (P : Program) (t : TypeId) (xs : Array Value) (off : Nat) (v : Value) : Prop := ∀ w,(part t xs off).run P w = .ok v w
theorem PartIs.one {t : TypeId} {xs : Array Value} {off : Nat} {v : Value} {dsc : TypeDesc} (hu : P.underlying t = some dsc) (hx : xs[off]? = some v) (ha : (match dsc with | .struct _ => true | .array _ _ => true | _ => false) = false := by rfl) : PartIs P t xs off v := fun w => by
  cases dsc <;> first | (simp at ha; done) | simp [part, isAgg, run_underlying hu, hx]
def EqIs (P : Program) (dp : Nat) (t : TypeId) (a b : Value) (c : Bool) : Prop := ∀ w,(Op.equalIn dp t a b).run P w = .ok c w
def EqFs (P : Program) (dp : Nat) (xs ys : Array Value) (fs : List Field) (c : Bool) : Prop := ∀ w,(Op.eqFields dp xs ys fs).run P w = .ok c w
def EqEs (P : Program) (dp : Nat) (e : TypeId) (k : Nat) (xs ys : Array Value) (is : List Nat) (c : Bool) : Prop := ∀ w,(Op.eqItems dp e k xs ys is).run P w = .ok c w
variable {dp : Nat} {xs ys : Array Value} {fd : Field} {fs : List Field} {c c0 : Bool} {t e : TypeId} {a b : Value}
theorem EqIs.int {k : IntKind} {i j : Int} (hu : P.underlying t = some (.int k)) : EqIs P (dp + 1) t (.int k i) (.int k j) (decide (i = j)) := fun w => by
  by_cases e : i = j <;> simp [run_equalIn_int _ _ _ k k _ _ hu, e]
theorem EqIs.bool {i j : Bool} (hu : P.underlying t = some .bool) : EqIs P (dp + 1) t (.bool i) (.bool j) (i == j) := fun w => by
  cases i <;> cases j <;> simp [run_equalIn_bool' _ _ _ _ _ hu]
theorem EqFs.nil : EqFs P dp xs ys [] true := fun w => by simp [Op.eqFields]
theorem EqFs.cons (hn : (fd.name == "_") = false) (pa : PartIs P fd.type xs fd.offset a) (pb : PartIs P fd.type ys fd.offset b) (h0 : EqIs P dp fd.type a b c0) (h : EqFs P dp xs ys fs c) : EqFs P dp xs ys (fd :: fs) (c0 && c) := fun w => by
  have hn' : fd.name ≠ "_" := by simpa using hn
  cases c0 <;> simp [Op.eqFields, hn', pa w, pb w, h0 w, h w]
theorem EqEs.nil {k : Nat} : EqEs P dp e k xs ys [] true := fun w => by simp [Op.eqItems]
theorem EqEs.cons {k i : Nat} {is : List Nat} (pa : PartIs P e xs (i * k) a) (pb : PartIs P e ys (i * k) b) (h0 : EqIs P dp e a b c0) (h : EqEs P dp e k xs ys is c) : EqEs P dp e k xs ys (i :: is) (c0 && c) := fun w => by
  cases c0 <;> simp [Op.eqItems, pa w, pb w, h0 w, h w]
theorem EqIs.st {fs : Array Field} (ht : P.underlying t = some (.struct fs)) (hp : P.stoodInHeld t = false) (h : EqFs P dp xs ys fs.toList c) : EqIs P (dp + 1) t (.agg xs) (.agg ys) c := fun w => by
  have e1 := run_equalIn_agg (P := P) w dp t xs ys (by rw [zw5 ht]; exact ht) hp
  rw [zw5 ht, h w] at e1
  exact e1
theorem y_deql {x y : Operand} {t' : TypeId} (hx : opv E x = some (.agg xs)) (hy : opv E y = some (.agg ys)) (hg : P.eqGuardType P.depth t = false) (h : EqIs P 10000 t (.agg xs) (.agg ys) c) : Y P C n E ⟨d, .binOp .eql t x y t', ty, pos, af, g⟩ (.bool c) :=
  .of fun a ha w _ => by
    simp only [execOp, ha.eval hx, ha.eval hy, Sem.run_bind, run_eqGuard_agg w .eql t x y xs ys hg, run_eql_struct, h w, Result.andThen_ok, Sem.run_pure]
theorem y_dneq {x y : Operand} {t' : TypeId} (hx : opv E x = some (.agg xs)) (hy : opv E y = some (.agg ys)) (hg : P.eqGuardType P.depth t = false) (h : EqIs P 10000 t (.agg xs) (.agg ys) c) : Y P C n E ⟨d, .binOp .neq t x y t', ty, pos, af, g⟩ (.bool (!c)) :=
  .of fun a ha w _ => by
    simp only [execOp, ha.eval hx, ha.eval hy, Sem.run_bind, run_eqGuard_agg w .neq t x y xs ys hg, run_neq_struct, h w, Result.andThen_ok, Sem.run_pure]
end
end Go.Sl
namespace Go.Sl
open Go.RowKit
section
variable {P : Program} {n : Nat} {E : List (Nat × Value)} {C : World → Prop}
variable {d : Option Tmp} {ty : TypeId} {pos : String} {af : Array Edge} {g : Option (Nat × Bool)}
def setAt (off : Nat) : List Value → List Value → List Value
  | [], cs => cs
  | c :: l, cs => setAt (off + 1) l (cs.set off c)
theorem zw2 : ∀ (l : List Value) (k off : Nat) (cs : List Value),(l.zipIdx k).foldl (fun (cs : Array Value) (p : Value × Nat) => cs.setIfInBounds (off + p.2) p.1) cs.toArray = (setAt (off + k) l cs).toArray
  | [], _, _, _ => rfl
  | c :: l, k, off, cs => by
    simp only [List.zipIdx_cons, List.foldl_cons, setAt, List.setIfInBounds_toArray]
    rw [zw2 l (k + 1) off]
    rfl
def CellsAre : List (Nat × Value) → List (Nat × List Value) → Prop
  | [],[] => True
  | (i, v) :: r,(j, l) :: s => i = j ∧ v.cells = l.toArray ∧ CellsAre r s
  | _, _ => False
def putN (place : Nat → Option (Nat × Nat)) : List (Nat × List Value) → List Value → Option (List Value)
  | [], cs => some cs
  | (i, l) :: r, cs => match place i with
    | some (off, k) => if l.length = k ∧ off + k ≤ cs.length then putN place r (setAt off l cs) else none
    | none => none
theorem yb1 {place : Nat → Option (Nat × Nat)} : ∀ (vs : List (Nat × Value)) (ls : List (Nat × List Value)) (cs cs' : List Value), CellsAre vs ls → putN place ls cs = some cs' → Instr.fill place cs.toArray vs = some cs'.toArray
  | [],[], cs, cs', _, h => by simp [putN] at h; subst h; rfl
  | (i, v) :: r,(j, l) :: s, cs, cs', ⟨hij, hv, hr⟩, h => by
    subst hij
    simp only [putN] at h
    split at h
    · rename_i off k hp
      split at h
      · rename_i hk
        have ih := yb1 r s _ cs' hr h
        have hb : ¬ ((decide (v.cells.size ≠ k) || decide (off + v.cells.size > cs.toArray.size)) = true) := by
          simp [hv, hk.1, hk.2]
        have e : v.cells.zipIdx.foldl (fun (cs : Array Value) (p : Value × Nat) => cs.setIfInBounds (off + p.2) p.1) cs.toArray = (setAt off l cs).toArray := by
          rw [hv, ← Array.foldl_toList, Array.toList_zipIdx]
          exact zw2 l 0 off cs
        simp only [Instr.fill, hp]
        rw [if_neg hb, ← ih, ← e]
      · cases h
    · cases h
  | [], _ :: _, _, _, h, _ => h.elim
  | _ :: _,[], _, _, h, _ => h.elim
theorem zps {t : TypeId} {parts : List (Nat × Operand)} {vs : List (Nat × Value)} {ls : List (Nat × List Value)} {zl cs : List Value} {fs : Array Field} {k by_ : Nat} {places : List (Nat × Nat)} (hv : parts.mapM (fun p => (opv E p.2).map fun v => (p.1, v)) = some vs)
    (ht : P.underlying t = some (.struct fs)) (hT : TI P t k by_ (.agg zl.toArray)) (hp : fs.toList.mapM (fun f => (P.info? f.type).map fun i => (f.offset, i.size)) = some places)
    (hl : CellsAre vs ls) (hc : putN (places.toArray[·]?) ls zl = some cs) : Y P C n E ⟨d, .build t parts.toArray, ty, pos, af, g⟩ (.agg cs.toArray) := by
  refine yf1 hv ?_
  obtain ⟨i, hi, hz, _, _⟩ := hT
  simp only [Program.built, hi, ht, hz, hp]
  exact yb1 vs ls zl cs hl hc
end
end Go.Sl
