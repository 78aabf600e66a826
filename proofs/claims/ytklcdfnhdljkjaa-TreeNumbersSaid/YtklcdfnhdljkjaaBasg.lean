/-
  Walks and laws of this seat.
-/
import Derived.Test.YtklcdfnhdljkjaaBasf
import Derived.Laws.StructEq
import Derived.ChangeArms
import Derived.Lib.Builder
import Derived.Lib.UnsafeStr
import Derived.Laws.Externs
import Derived.ChangeKeysEq
import Derived.LaidEql
namespace Go.Sl
open Go.RowKit
theorem znp (a b : ByteArray) : (a == b) = decide (a = b) := by
  obtain ⟨x⟩ := a
  obtain ⟨y⟩ := b
  show (x == y) = _
  by_cases h : x = y <;> simp [h]
def SMap (l : List MapEntry) (m : List (ByteArray × Value)) : Prop := l.map (fun e => (e.key, e.val)) = m.map fun p => (Value.string p.1, p.2)
def mget (m : List (ByteArray × Value)) (k : ByteArray) : Option Value := (m.find? fun p => decide (p.1 = k)).map (·.2)
def mput (m : List (ByteArray × Value)) (k : ByteArray) (v : Value) : List (ByteArray × Value) := match m with
  | [] => [(k, v)]
  | p :: m => if p.1 = k then (p.1, v) :: m else p :: mput m k v
theorem findNow_s : ∀ (l : List MapEntry) (m : List (ByteArray × Value)) (k : ByteArray) (i : Nat), SMap l m →
    (∃ j v, mget m k = some v ∧ Instr.findNow .string (.string k) l i = some (some (i + j, v)) ∧ (l[j]?).map (·.key) = some (.string k) ∧ ∀ v', SMap (l.modify j fun e => { e with key := .string k, val := v' }) (mput m k v')) ∨ (mget m k = none ∧ Instr.findNow .string (.string k) l i = some none)
  | [], m, k, i, h => by
    cases m with
    | nil => exact .inr ⟨rfl, rfl⟩
    | cons p m => simp [SMap] at h
  | e :: l, [], k, i, h => by simp [SMap] at h
  | e :: l, p :: m, k, i, h => by
    simp only [SMap, List.map_cons, List.cons.injEq, Prod.mk.injEq] at h
    obtain ⟨⟨h1, h2⟩, h3⟩ := h
    by_cases hk : p.1 = k
    · refine .inl ⟨0, e.val, by simp [mget, hk, h2], ?_, by simp [h1, hk], fun v' => by simp [SMap, mput, hk]; exact h3⟩
      simp [Instr.findNow, Instr.sameNow, h1, hk, znp]
    · have hk' : ¬ k = p.1 := fun e => hk e.symm
      rcases findNow_s l m k (i + 1) h3 with ⟨j, v, e1, e2, e3, e4⟩ | ⟨e1, e2⟩
      · refine .inl ⟨j + 1, v, ?_, ?_, by simpa using e3, fun v' => by have := e4 v'; simp [SMap, mput, hk, h1, h2] at this ⊢; exact this⟩
        · simpa [mget, hk] using e1
        · simp [Instr.findNow, Instr.sameNow, h1, hk', e2, znp, Nat.add_assoc, Nat.add_comm 1 j]
      · refine .inr ⟨by simpa [mget, hk] using e1, ?_⟩
        simp [Instr.findNow, Instr.sameNow, h1, hk', e2, znp]
section
variable {P : Program} {ops : Array Oper} {rest : List Oper} {n : Nat} {w0 w : World} {f f' : Fz} {L L' : List Ent} {E E' : List (Nat × Value)} {a : Act} {K : AP} {v : Value}
variable {ty : TypeId} {pos : String} {af : Array Edge} {d : Option Tmp} {g : Option (Nat × Bool)} {C : World → Prop}
theorem RL_makeMap {t : TypeId} {dd : Nat} (hs : St n w0 f L E a w) (h : ∀ r a w, St n w0 f (.blk r (.map #[] 0) :: L) ((dd, .map (some r)) :: E) a w → RL P ops rest K a w) (hd : dd < n := by decide) :
    RL P ops (⟨some dd, .makeMap t none, ty, pos, af, none⟩ :: rest) K a w :=
  RL_v hs (.free rfl) (.to rfl hd) (v := .map (some w.heap.size)) (w' := w.alloc (.map #[] 0)) (by
    simp only [execOp, Option.map_none, Sem.run_bind]
    rw [show (Instr.makeMap t none).run P w = .ok (.map (some w.heap.size)) (w.alloc (.map #[] 0)) from rfl]
    simp [Sem.run_pure]) (hs.cw.alloc _) (h _)
theorem zr0 {kt : TypeId} {k : ByteArray} {em : Bool} {dpt : Nat} (hk : P.underlying kt = some .string) : (Instr.checkKey em (dpt + 1) kt (.string k)).run P w = .ok () w := by
  simp [Instr.checkKey, run_underlying hk]
theorem findKey_s {kt : TypeId} {k : ByteArray} {l : List MapEntry} {m : List (ByteArray × Value)} (hk : P.underlying kt = some .string) (hm : SMap l m) :
    (∃ j v, mget m k = some v ∧ (Instr.findKey kt (.string k) l).run P w = .ok (some (j, v)) w ∧ (l[j]?).map (·.key) = some (.string k) ∧ ∀ v', SMap (l.modify j fun e => { e with key := .string k, val := v' }) (mput m k v')) ∨ (mget m k = none ∧ (Instr.findKey kt (.string k) l).run P w = .ok none w) := by
  rcases findNow_s l m k 0 hm with ⟨j, v, e1, e2, e3⟩ | ⟨e1, e2⟩
  · exact .inl ⟨j, v, e1, by simp [Instr.findKey, run_underlying hk, e2, Sem.run_pure], e3⟩
  · exact .inr ⟨e1, by simp [Instr.findKey, run_underlying hk, e2, Sem.run_pure]⟩
theorem zql {r : Nat} {es : Array MapEntry} {c : Nat} (h : w.heap[r]? = some (.map es c)) : (getObj r).run P w = .ok (.map es c) w := by simp [getObj, Sem.run, h]
theorem zqk {r : Nat} {es : Array MapEntry} {c : Nat} (o : Obj) (h : w.heap[r]? = some (.map es c)) : (setObj r o).run P w = .ok () { w with heap := w.heap.setIfInBounds r o } := by simp [setObj, Sem.run, h]
theorem mapAt {r : Nat} {es : Array MapEntry} {c : Nat} (hm : .blk r (.map es c) ∈ L) (hC : Cw w0 f L w) : w.heap[r]? = some (.map es c) := hC.live _ hm
theorem y_lookupS {t kt e : TypeId} {x y : Operand} {r : Nat} {es : Array MapEntry} {c : Nat} {m : List (ByteArray × Value)} {k : ByteArray} {by_ kk : Nat} {z : Value} (hx : opv E x = some (.map (some r))) (hy : opv E y = some (.string k))
    (ht : P.underlying t = some (.map kt e)) (hk : P.underlying kt = some .string) (hT : TI P e kk by_ z) (hm : .blk r (.map es c) ∈ L) (hS : SMap es.toList m) :
    Y P (Cw w0 f L) n E ⟨d, .lookup t x y false, ty, pos, af, g⟩ ((mget m k).getD z) :=
  .of fun a ha w hw => by
    obtain ⟨i, hi, hz, _, _⟩ := hT
    have hb := zql (P := P) (mapAt hm hw)
    have hck : (Instr.checkKey es.isEmpty 10000 kt (.string k)).run P w = .ok () w := zr0 (dpt := 9999) hk
    rcases findKey_s (P := P) (w := w) (k := k) hk hS with ⟨j, v, e1, e2, _⟩ | ⟨e1, e2⟩
    · simp [execOp, ha.eval hx, ha.eval hy, Instr.lookup, run_underlying ht, hb, hck, e1, e2]
    · simp [execOp, ha.eval hx, ha.eval hy, Instr.lookup, run_underlying ht, hb, hck, e1, e2, zeroValue, typeInfo, hi, hz]
theorem smap_push {l : List MapEntry} {m : List (ByteArray × Value)} {k : ByteArray} {v : Value} {c : Nat} (h : SMap l m) (hn : mget m k = none) : SMap (l ++ [{ key := .string k, val := v, born := c }]) (mput m k v) := by
  have e : mput m k v = m ++ [(k, v)] := by
    clear h
    induction m with
    | nil => rfl
    | cons p m ih =>
      have hp : ¬ p.1 = k := fun e => by simp [mget, e] at hn
      rw [mput, if_neg hp, ih (by simpa [mget, hp] using hn)]
      rfl
  rw [e]
  unfold SMap at h ⊢
  rw [List.map_append, List.map_append, h]
  rfl
theorem zs4 {t kt e : TypeId} {x y z : Operand} {r : Nat} {es : Array MapEntry} {c : Nat} {m : List (ByteArray × Value)} {k : ByteArray} {u : Value} (i : Nat) (hs : St n w0 f L E a w) (hi : L[i]? = some (.blk r (.map es c))) (hx : opv E x = some (.map (some r))) (hy : opv E y = some (.string k)) (hz : opv E z = some u)
    (ht : P.underlying t = some (.map kt e)) (hk : P.underlying kt = some .string) (hS : SMap es.toList m)
    (h : ∀ es' c' a w, SMap es'.toList (mput m k u) → St n w0 f (L.set i (.blk r (.map es' c'))) E a w → RL P ops rest K a w) : RL P ops (⟨none, .mapUpdate t x y z, ty, pos, af, none⟩ :: rest) K a w := by
  have hb := hs.cw.live _ (List.mem_of_getElem? hi)
  have hlt : r < w.heap.size := (Array.getElem?_eq_some_iff.1 hb).1
  have hg := zql (P := P) hb
  have hck : (Instr.checkKey false 10000 kt (.string k)).run P w = .ok () w := zr0 (dpt := 9999) hk
  have fin : ∀ es' c', (Instr.mapUpdate t (.map (some r)) (.string k) u).run P w = .ok () { w with heap := w.heap.setIfInBounds r (.map es' c') } → SMap es'.toList (mput m k u) →
      RL P ops (⟨none, .mapUpdate t x y z, ty, pos, af, none⟩ :: rest) K a w := fun es' c' hr hS' => by
    refine RL_u hs (.free rfl) (.drop rfl) (w' := { w with heap := w.heap.setIfInBounds r (.map es' c') }) (f' := f) (L' := L.set i (.blk r (.map es' c'))) ?_ ?_ (fun a w => h es' c' a w hS')
    · simp [execOp, hs.ev.eval hx, hs.ev.eval hy, hs.ev.eval hz, hr]
    · refine hs.cw.repl hi ⟨rfl, rfl, rfl, by simp, fun b hb hne => ?_⟩ ?_ (fun b hb => .inl hb)
      · have : r ≠ b := fun e => hne (by simp [Ent.key, e])
        simp [Array.getElem?_setIfInBounds_ne this]
      · show (w.heap.setIfInBounds r (.map es' c'))[r]? = some (.map es' c')
        simp [hlt]
  rcases findKey_s (P := P) (w := w) (k := k) hk hS with ⟨j, v, e1, e2, e3, e4⟩ | ⟨e1, e2⟩
  · refine fin (es.modify j fun e => { e with key := .string k, val := u }) c ?_ ?_
    · have hkey : ((es[j]?).map (·.key)).getD (.string k) = .string k := by rw [← Array.getElem?_toList, e3]; rfl
      simp [Instr.mapUpdate, run_underlying ht, hg, hck, e2, hkey, Instr.keyThatStays, Instr.sameBits, znp, zqk _ hb]
    · simpa using e4 u
  · refine fin (es.push { key := .string k, val := u, born := c }) (c + 1) ?_ ?_
    · simp [Instr.mapUpdate, run_underlying ht, hg, hck, e2, zqk _ hb]
    · simpa using smap_push hS e1
end
end Go.Sl
namespace Go.Sl
open Go.RowKit
/-- How data of a type lie in cells. -/
structure Ty (α : Type) where
  k : Nat
  R : Fz → List Value → α → Prop
  mono : ∀ {f f' : Fz} {r : List Value} {x : α}, R f r x → Fz.le f f' → R f' r x
  one : ∀ {f : Fz} {r : List Value} {x : α}, R f r x → OneRow k r
section
variable {α : Type} {t : Ty α} {f f' : Fz} {rows rows2 : List (List Value)} {xs ys : List α} {L : List Ent} {v : Value}
def RW (t : Ty α) (f : Fz) : List (List Value) → List α → Prop
  | [], [] => True
  | r :: rs, x :: xs => t.R f r x ∧ RW t f rs xs
  | _, _ => False
theorem RW.le : ∀ {rows : List (List Value)} {xs : List α}, RW t f rows xs → Fz.le f f' → RW t f' rows xs
  | [], [], _, _ => trivial
  | _ :: _, _ :: _, h, hf => ⟨t.mono h.1 hf, RW.le h.2 hf⟩
  | [], _ :: _, h, _ => h.elim
  | _ :: _, [], h, _ => h.elim
theorem RW.len : ∀ {rows : List (List Value)} {xs : List α}, RW t f rows xs → rows.length = xs.length
  | [], [], _ => rfl
  | _ :: _, _ :: _, h => by simp [RW.len h.2]
  | [], _ :: _, h => h.elim
  | _ :: _, [], h => h.elim
theorem RW.get : ∀ {rows : List (List Value)} {xs : List α} {i : Nat} {x : α}, RW t f rows xs → xs[i]? = some x → ∃ r, rows[i]? = some r ∧ t.R f r x
  | [], [], i, x, _, h => by simp at h
  | r :: _, y :: _, 0, x, h, hx => by simp at hx; subst hx; exact ⟨r, rfl, h.1⟩
  | _ :: rs, _ :: xs, i + 1, x, h, hx => by simpa using RW.get (i := i) h.2 (by simpa using hx)
  | [], _ :: _, _, _, h, _ => h.elim
  | _ :: _, [], _, _, h, _ => h.elim
theorem RW.append : ∀ {rows rows2 : List (List Value)} {xs ys : List α}, RW t f rows xs → RW t f rows2 ys → RW t f (rows ++ rows2) (xs ++ ys)
  | [], _, [], _, _, h => h
  | _ :: _, _, _ :: _, _, h, h2 => ⟨h.1, RW.append h.2 h2⟩
  | [], _, _ :: _, _, h, _ => h.elim
  | _ :: _, _, [], _, h, _ => h.elim
theorem RW.set : ∀ {rows : List (List Value)} {xs : List α} {i : Nat} {r : List Value} {x : α}, RW t f rows xs → t.R f r x → RW t f (rows.set i r) (xs.set i x)
  | [], [], _, _, _, _, _ => trivial
  | _ :: _, _ :: _, 0, _, _, h, hx => ⟨hx, h.2⟩
  | _ :: _, _ :: _, i + 1, _, _, h, hx => ⟨h.1, RW.set (i := i) h.2 hx⟩
  | [], _ :: _, _, _, _, h, _ => h.elim
  | _ :: _, [], _, _, _, h, _ => h.elim
theorem RW.take : ∀ {rows : List (List Value)} {xs : List α} (m : Nat), RW t f rows xs → RW t f (rows.take m) (xs.take m)
  | _, _, 0, _ => by simp [RW]
  | [], [], _ + 1, _ => trivial
  | _ :: _, _ :: _, m + 1, h => ⟨h.1, RW.take m h.2⟩
  | [], _ :: _, _ + 1, h => h.elim
  | _ :: _, [], _ + 1, h => h.elim
theorem RW.drop : ∀ {rows : List (List Value)} {xs : List α} (m : Nat), RW t f rows xs → RW t f (rows.drop m) (xs.drop m)
  | _, _, 0, h => by simpa using h
  | [], [], _ + 1, _ => trivial
  | _ :: _, _ :: _, m + 1, h => by simpa using RW.drop m h.2
  | [], _ :: _, _ + 1, h => h.elim
  | _ :: _, [], _ + 1, h => h.elim
theorem RW.rep {r : List Value} {x : α} (h : t.R f r x) : ∀ m, RW t f (List.replicate m r) (List.replicate m x)
  | 0 => trivial
  | m + 1 => ⟨h, RW.rep h m⟩
theorem RW.single {r : List Value} {x : α} (h : t.R f r x) : RW t f [r] [x] := ⟨h, trivial⟩
theorem RW.map {g : α → List Value} (h : ∀ r x, t.R f r x → r = g x) : ∀ {rows : List (List Value)} {xs : List α}, RW t f rows xs → rows = xs.map g
  | [], [], _ => rfl
  | r :: rs, x :: xs, hh => by rw [List.map_cons, ← h r x hh.1, ← RW.map h hh.2]
  | [], _ :: _, h => h.elim
  | _ :: _, [], h => h.elim
def RS (t : Ty α) (f : Fz) (v : Value) (xs : List α) : Prop := ∃ rows, Rd f [] v t.k rows ∧ RW t f rows xs
theorem RS.le (h : RS t f v xs) (hf : Fz.le f f') : RS t f' v xs := by
  obtain ⟨rows, h1, h2⟩ := h
  exact ⟨rows, h1.le hf, h2.le hf⟩
theorem RS.nil : RS t f (.slice none 0 0) [] := ⟨[], Rd.nil _ _ _, trivial⟩
theorem RS.one (h : RS t f v xs) : v.oneCell' = true := by obtain ⟨_, h1, _⟩ := h; exact h1.one
def AllC : List Value → Prop
  | [] => True
  | v :: r => v.oneCell' = true ∧ AllC r
theorem AllC.all : ∀ {r : List Value}, AllC r → ∀ x ∈ r, x.oneCell' = true
  | [], _, x, hx => by simp at hx
  | v :: r, h, x, hx => by
    rcases List.mem_cons.1 hx with rfl | hx
    · exact h.1
    · exact AllC.all h.2 x hx
theorem AllC.row {r : List Value} {k : Nat} (h : AllC r) (hl : r.length = k) : OneRow k r := ⟨hl, h.all⟩
theorem AllC.arr {r : List Value} (h : AllC r) : r.toArray.all (·.oneCell') = true := by
  have := h.all
  simpa [Array.all_eq_true, List.all_eq_true] using this
def tInt (k : IntKind) : Ty Int := ⟨1, fun _ r x => r = [.int k x], fun h _ => h, fun h => by subst h; exact ⟨rfl, by simp [Value.oneCell']⟩⟩
def tStr : Ty ByteArray := ⟨1, fun _ r x => r = [.string x], fun h _ => h, fun h => by subst h; exact ⟨rfl, by simp [Value.oneCell']⟩⟩
def tSl (t : Ty α) : Ty (List α) := ⟨1, fun f r xs => ∃ v, r = [v] ∧ RS t f v xs, fun ⟨v, e, h⟩ hf => ⟨v, e, h.le hf⟩, fun ⟨v, e, h⟩ => by subst e; exact ⟨rfl, by simp [h.one]⟩⟩
end
abbrev w64 (i : Int) : Int := IntKind.i64.wrap i
abbrev bs (l : List UInt8) : ByteArray := ⟨l.toArray⟩
def geti {α : Type} (xs : List α) (i : Int) : Option α := if 0 ≤ i then xs[i.toNat]? else none
def roomB (by_ m : Nat) : Bool := decide (m ≤ 9223372036854775807) && decide (m * by_ ≤ 140737488355328)
def appM {α : Type} (by_ : Nat) (xs ys : List α) : Option (List α) := bif roomB by_ (xs.length + ys.length) then some (xs ++ ys) else none
def repM {α : Type} (by_ : Nat) (m : Int) (x : α) : Option (List α) := bif decide (0 ≤ m) && decide (by_ * m.toNat ≤ 281474976710656) && decide (m.toNat ≤ 9223372036854775807) then some (List.replicate m.toNat x) else none
def cutM {α : Type} (xs : List α) (lo hi : Int) : Option (List α) := bif decide (0 ≤ lo) && decide (lo ≤ hi) && decide (hi ≤ xs.length) then some ((xs.take hi.toNat).drop lo.toNat) else none
def cutS (s : ByteArray) (lo hi : Int) : Option ByteArray := bif decide (0 ≤ lo) && decide (lo ≤ hi) && decide (hi ≤ s.size) then some (s.extract lo.toNat hi.toNat) else none
def addS (s t : ByteArray) : Option ByteArray := bif decide (s.size + t.size ≤ 9223372036854775807) then some (s ++ t) else none
def getS (s : ByteArray) (i : Int) : Option Int := geti (bytesIn s) i
theorem ob {α β : Type} {o : Option α} {k : α → Option β} {r : β} (h : o.bind k = some r) : ∃ x, o = some x ∧ k x = some r := by
  cases o with
  | none => cases h
  | some x => exact ⟨x, rfl, h⟩
theorem oc_t {α : Type} {b : Bool} {x y : Option α} {r : α} (hb : b = true) (h : (bif b then x else y) = some r) : x = some r := by subst hb; exact h
theorem oc_f {α : Type} {b : Bool} {x y : Option α} {r : α} (hb : b = false) (h : (bif b then x else y) = some r) : y = some r := by subst hb; exact h
theorem zlw {α : Type} {xs : List α} {i : Int} {x : α} (h : geti xs i = some x) : i = (i.toNat : Int) ∧ xs[i.toNat]? = some x := by
  unfold geti at h
  split at h
  · exact ⟨by omega, h⟩
  · cases h
theorem zcj {α : Type} {by_ : Nat} {xs ys zs : List α} (h : appM by_ xs ys = some zs) : (xs.length + ys.length ≤ 9223372036854775807 ∧ (xs.length + ys.length) * by_ ≤ 140737488355328) ∧ xs ++ ys = zs := by
  unfold appM roomB at h
  cases hb : (decide (xs.length + ys.length ≤ 9223372036854775807) && decide ((xs.length + ys.length) * by_ ≤ 140737488355328)) with
  | false => rw [hb] at h; cases h
  | true =>
    rw [hb] at h
    simp only [Bool.and_eq_true, decide_eq_true_eq] at hb
    exact ⟨hb, by simpa using h⟩
theorem zpb {α : Type} {by_ : Nat} {m : Int} {x : α} {zs : List α} (h : repM by_ m x = some zs) : m = (m.toNat : Int) ∧ (by_ * m.toNat ≤ 281474976710656 ∧ m.toNat ≤ 9223372036854775807) ∧ List.replicate m.toNat x = zs := by
  unfold repM at h
  cases hb : (decide (0 ≤ m) && decide (by_ * m.toNat ≤ 281474976710656) && decide (m.toNat ≤ 9223372036854775807)) with
  | false => rw [hb] at h; cases h
  | true =>
    rw [hb] at h
    simp only [Bool.and_eq_true, decide_eq_true_eq] at hb
    exact ⟨by omega, ⟨hb.1.2, hb.2⟩, by simpa using h⟩
theorem zj7 {α : Type} {xs zs : List α} {lo hi : Int} (h : cutM xs lo hi = some zs) : (lo = (lo.toNat : Int) ∧ hi = (hi.toNat : Int) ∧ lo.toNat ≤ hi.toNat ∧ hi.toNat ≤ xs.length) ∧ (xs.take hi.toNat).drop lo.toNat = zs := by
  unfold cutM at h
  cases hb : (decide (0 ≤ lo) && decide (lo ≤ hi) && decide (hi ≤ xs.length)) with
  | false => rw [hb] at h; cases h
  | true =>
    rw [hb] at h
    simp only [Bool.and_eq_true, decide_eq_true_eq] at hb
    exact ⟨by omega, by simpa using h⟩
theorem zj6 {s z : ByteArray} {lo hi : Int} (h : cutS s lo hi = some z) : (lo = (lo.toNat : Int) ∧ hi = (hi.toNat : Int) ∧ lo.toNat ≤ hi.toNat ∧ hi.toNat ≤ s.size) ∧ s.extract lo.toNat hi.toNat = z := by
  unfold cutS at h
  cases hb : (decide (0 ≤ lo) && decide (lo ≤ hi) && decide (hi ≤ s.size)) with
  | false => rw [hb] at h; cases h
  | true =>
    rw [hb] at h
    simp only [Bool.and_eq_true, decide_eq_true_eq] at hb
    exact ⟨by omega, by simpa using h⟩
theorem zg6 {s t z : ByteArray} (h : addS s t = some z) : s.size + t.size ≤ 9223372036854775807 ∧ s ++ t = z := by
  unfold addS at h
  cases hb : decide (s.size + t.size ≤ 9223372036854775807) with
  | false => rw [hb] at h; cases h
  | true => rw [hb] at h; exact ⟨of_decide_eq_true hb, by simpa using h⟩
theorem RW.geti {α : Type} {t : Ty α} {f : Fz} {rows : List (List Value)} {xs : List α} {i : Int} {x : α} (h : RW t f rows xs) (hx : geti xs i = some x) :
    ∃ r, rows[i.toNat]? = some r ∧ t.R f r x ∧ i = (i.toNat : Int) ∧ i.toNat < rows.length := by
  obtain ⟨h1, h2⟩ := zlw hx
  obtain ⟨r, h3, h4⟩ := h.get h2
  exact ⟨r, h3, h4, h1, (List.getElem?_eq_some_iff.1 h3).1⟩
theorem zgi {g x : Bool} (h : g = true) : (g && x) = x := by simp [h]
theorem zll {g x : Bool} (h : g = false) : (g && x) = false := by simp [h]
theorem or_t {g x : Bool} (h : g = true) : (g || x) = true := by simp [h]
theorem or_f {g x : Bool} (h : g = false) : (g || x) = x := by simp [h]
theorem bif_t {α : Type} {g : Bool} {x y : α} (h : g = true) : (bif g then x else y) = x := by simp [h]
theorem bif_f {α : Type} {g : Bool} {x y : α} (h : g = false) : (bif g then x else y) = y := by simp [h]
theorem lkB {E : List (Nat × Value)} {t : Nat} {b c : Bool} (h : b = c) (hl : look E t = some (.bool c)) : look E t = some (.bool b) := by rw [h]; exact hl
section
variable {P : Program} {f f' : Fz} {L L' : List Ent} {w0 w w' : World} {n : Nat} {E E' : List (Nat × Value)} {a : Act}
variable {ops : Array Oper} {rest : List Oper} {o : Oper} {K : AP} {C : World → Prop}
variable {d : Option Tmp} {ty : TypeId} {pos : String} {af : Array Edge} {g : Option (Nat × Bool)}
theorem zai {Qn : AP} {Qe : Nat → AP} {Qr : AP} {Qg : Nat → AP} {c : Code} (I : AP) (h1 : ∀ a w, I a w → Qn a w) (h2 : W P c I Qe Qr Qg a w) : W P c Qn Qe Qr Qg a w :=
  W.mono h2 h1 (fun _ _ _ h => h) (fun _ _ h => h) (fun _ _ _ h => h)
theorem St.subL (hs : St n w0 f L E a w) (h : L'.Sublist L) : St n w0 f L' E a w := ⟨hs.ev, hs.cw.sub h⟩
theorem Cell.fz {b o : Nat} {cs : Array Value} {e : TypeId} {fr : Nat × Nat} {u : Value} (hb : f b = some (.cells cs e fr)) (h : cs[o]? = some u) : Cell f L b o u := .inl ⟨cs, e, fr, hb, h⟩
theorem St.frzB {b : Nat} {o : Obj} (i : Nat) (hs : St n w0 f L E a w) (hi : L[i]? = some (.blk b o)) : ∃ f', Fz.le f f' ∧ St n w0 f' (L.eraseIdx i) E a w ∧ f' b = some o := by
  obtain ⟨f', h1, h2, h3, _⟩ := hs.cw.freezeAt hi
  exact ⟨f', h1, ⟨hs.ev, h2⟩, by rw [h3 b rfl]; exact hs.cw.live _ (List.mem_of_getElem? hi)⟩
def toFront (L : List Ent) (i : Nat) : List Ent := match L[i]? with
  | some x => x :: L.eraseIdx i
  | none => L
theorem Cw.front (h : Cw w0 f L w) (i : Nat) : Cw w0 f (toFront L i) w := by
  unfold toFront
  split
  · rename_i x hi
    have he := h.erase i
    have key : ∀ (p : Nat), (L.eraseIdx i)[p]? = L[if p < i then p else p + 1]? := fun p => by rw [List.getElem?_eraseIdx]; split <;> rfl
    have hm := List.mem_of_getElem? hi
    refine ⟨h.os, h.tape, h.output, h.size, h.frz, fun z hz => ?_, fun z hz => ?_, ?_⟩
    · rcases List.mem_cons.1 hz with rfl | hz
      · exact h.live _ hm
      · exact he.live z hz
    · rcases List.mem_cons.1 hz with rfl | hz
      · exact h.apart _ hm
      · exact he.apart z hz
    · intro p q u v hp hq hpq b hu hv
      cases p with
      | zero =>
        simp at hp; subst hp
        cases q with
        | zero => omega
        | succ q =>
          simp only [List.getElem?_cons_succ] at hq
          rw [key] at hq
          exact h.sep i _ x v hi hq (by split <;> omega) b hu hv
      | succ p =>
        simp only [List.getElem?_cons_succ] at hp
        cases q with
        | zero =>
          simp at hq; subst hq
          rw [key] at hp
          exact h.sep _ i u x hp hi (by split <;> omega) b hu hv
        | succ q =>
          simp only [List.getElem?_cons_succ] at hq
          exact he.sep p q u v hp hq (by omega) b hu hv
  · exact h
theorem St.front (hs : St n w0 f L E a w) (i : Nat) : St n w0 f (toFront L i) E a w := ⟨hs.ev, hs.cw.front i⟩
theorem St.one (hs : St n w0 f L E a w) {i : Nat} {v : Value} {e : TypeId} {k : Nat} {rows : List (List Value)} (hi : L[i]? = some (.row v e k rows)) : v.oneCell' = true := by
  obtain ⟨⟨_, h⟩, _⟩ := hs.cw.live _ (List.mem_of_getElem? hi)
  rcases h with ⟨rfl, _⟩ | ⟨g, cap, cur, rfl, _⟩ <;> rfl
end
end Go.Sl
namespace Go.Sl
open Go.RowKit
def seti {α : Type} (xs : List α) (i : Int) (x : α) : Option (List α) := if 0 ≤ i ∧ i.toNat < xs.length then some (xs.set i.toNat x) else none
theorem zfo {α : Type} {xs zs : List α} {i : Int} {x : α} (h : seti xs i x = some zs) : xs.set i.toNat x = zs := by
  unfold seti at h
  split at h
  · simpa using h
  · cases h
section
variable {α : Type} {t : Ty α} {f f' : Fz}
theorem RW.ofGet : ∀ {rows : List (List Value)} {xs : List α}, rows.length = xs.length → (∀ (i : Nat) r y, rows[i]? = some r → xs[i]? = some y → t.R f r y) → RW t f rows xs
  | [], [], _, _ => trivial
  | r :: rs, x :: xs, hl, h => ⟨h 0 r x rfl rfl, RW.ofGet (by simpa using hl) fun i r y h1 h2 => h (i + 1) r y (by simpa using h1) (by simpa using h2)⟩
  | [], _ :: _, hl, _ => by simp at hl
  | _ :: _, [], hl, _ => by simp at hl
theorem RW.at {rows : List (List Value)} {xs : List α} {i : Nat} {r : List Value} {y : α} (h : RW t f rows xs) (h1 : rows[i]? = some r) (h2 : xs[i]? = some y) : t.R f r y := by
  obtain ⟨r', h3, h4⟩ := h.get h2
  rw [h1] at h3
  cases h3
  exact h4
end
section
variable {P : Program} {f f' : Fz} {L L' : List Ent} {w0 w w' : World} {n : Nat} {E E' : List (Nat × Value)} {a : Act}
variable {ops : Array Oper} {rest : List Oper} {o : Oper} {K : AP} {C : World → Prop}
variable {d : Option Tmp} {ty : TypeId} {pos : String} {af : Array Edge} {g : Option (Nat × Bool)}
theorem zb7 {α : Type} {ty' : Ty α} {xs : List α} {x : Operand} {t e : TypeId} {v : Value} {k : Nat} {rows : List (List Value)} (hR : Rd f L v k rows) (hW : RW ty' f' rows xs) (h : opv E x = some v) (ht : P.underlying t = some (.slice e)) :
    Y P C n E ⟨d, .call { callee := .builtin .len, args := #[x], argTypes := #[t] }, ty, pos, af, g⟩ (.int .i64 xs.length) := by
  rw [← hW.len]; exact y_lenR0 hR h ht
theorem zir {x y : Operand} {t t' : TypeId} {s u z : ByteArray} (hx : opv E x = some (.string s)) (hy : opv E y = some (.string u)) (hb : s.size + u.size ≤ 9223372036854775807) (he : s ++ u = z) :
    Y P C n E ⟨d, .binOp .add t x y t', ty, pos, af, g⟩ (.string z) := by subst he; exact y_sadd hx hy hb
theorem getS_some {s : ByteArray} {i b : Int} (h : getS s i = some b) : (0 ≤ i ∧ i < s.size) ∧ ((s[i.toNat]!).toNat : Int) = b := by
  obtain ⟨h1, h2⟩ := zlw h
  have hlt := (List.getElem?_eq_some_iff.1 h2).1
  rw [zj0] at hlt
  refine ⟨by omega, ?_⟩
  simp only [bytesIn, List.getElem?_map, Option.map_eq_some_iff] at h2
  obtain ⟨u, h3, h4⟩ := h2
  rw [← h4]
  congr 2
  have h5 : s[i.toNat]! = s[i.toNat]'hlt := by simp [hlt]
  rw [h5]
  have h6 : s.data.toList[i.toNat]'(by simpa using hlt) = u := by
    have := List.getElem?_eq_some_iff.1 h3
    exact this.2
  rw [← h6]
  rfl
theorem y_ixW {t : TypeId} {x ix : Operand} {s : ByteArray} {ik : IntKind} {i b : Int} (hx : opv E x = some (.string s)) (hi : opv E ix = some (.int ik i)) (ht : P.underlying t = some .string) (hb : getS s i = some b) :
    Y P C n E ⟨d, .index t x ix, ty, pos, af, g⟩ (.int .u8 b) := by
  obtain ⟨h1, h2⟩ := getS_some hb
  rw [← h2]; exact y_ixS hx hi ht h1
theorem zs6 {t e : TypeId} {x y : Operand} {k by_ : Nat} {m : Int} {z : Value} {dd : Nat} (hs : St n w0 f L E a w) (hx : opv E x = some (.int .i64 m)) (hy : opv E y = some (.int .i64 m)) (hm : m = (m.toNat : Int)) (ht : P.underlying t = some (.slice e)) (hT : TI P e k by_ z)
    (hk : 0 < k ∧ z.cells.size = k) (h1 : OneRow k z.cells.toList) (hb : by_ * m.toNat ≤ 281474976710656 ∧ m.toNat ≤ 9223372036854775807)
    (h : ∀ v a w, St n w0 f (.row v e k (List.replicate m.toNat z.cells.toList) :: L) ((dd, v) :: E) a w → RL P ops rest K a w) (hd : dd < n := by decide) :
    RL P ops (⟨some dd, .makeSlice t x y, ty, pos, af, none⟩ :: rest) K a w :=
  RL_make hs (by rw [hm] at hx; exact hx) (by rw [hm] at hy; exact hy) ht hT hk h1 hb h hd
theorem zp6 {α : Type} {k : Nat} : ∀ {rows : List (List α)} {i : Nat} {r r' : List α}, (∀ r ∈ rows, r.length = k) → rows[i]? = some r → r'.length = k →
    (rows.set i r').flatten = rows.flatten.take (i * k) ++ r' ++ rows.flatten.drop (i * k + k)
  | [], i, r, r', _, hr, _ => by simp at hr
  | r0 :: rows, 0, r, r', hl, hr, hk => by
    have h0 : r0.length = k := hl r0 (by simp)
    simp [← h0]
  | r0 :: rows, i + 1, r, r', hl, hr, hk => by
    have h0 : r0.length = k := hl r0 (by simp)
    simp at hr
    rw [List.set_cons_succ, List.flatten_cons, zp6 (fun r hr => hl r (by simp [hr])) hr hk, List.flatten_cons]
    rw [show (i + 1) * k = r0.length + i * k by rw [Nat.succ_mul]; omega, show r0.length + i * k + k = r0.length + (i * k + k) by omega, List.take_length_add_append, List.drop_length_add_append]
    simp [List.append_assoc]
theorem zoo {t : TypeId} {x y : Operand} {v : Value} {i m : Nat} {k : Nat} {rows : List (List Value)} {r r' : List Value} {e : TypeId} {by_ : Nat} {z : Value} (hs : St n w0 f L E a w) (hi : L[i]? = some (.row v e k rows))
    (hx : opv E x = some (eaddr v k m 0)) (hy : opv E y = some (.agg r'.toArray)) (hr : rows[m]? = some r) (hT : TI P t k by_ z) (hu : OneRow k r') (hw : Want ops E ⟨none, .store t x y, ty, pos, af, g⟩ true)
    (h : ∀ a w, St n w0 f (L.set i (.row v e k (rows.set m r'))) E a w → RL P ops rest K a w) : RL P ops (⟨none, .store t x y, ty, pos, af, g⟩ :: rest) K a w := by
  have hm : m < rows.length := (List.getElem?_eq_some_iff.1 hr).1
  obtain ⟨hown, hone⟩ := hs.cw.live _ (List.mem_of_getElem? hi)
  rcases hown.2 with ⟨rfl, h0⟩ | ⟨gb, cap, cur, rfl, hgb, hg, hnc, hcm, hcs, htk⟩
  · omega
  have hx' : opv E x = some (.pointer (some ⟨gb, m * k, none⟩)) := by simpa [eaddr] using hx
  have hfl := zdh fun r hr => (hone r hr).1
  have hle : m * k + k ≤ rows.length * k := by
    have := Nat.mul_le_mul_right k (show m + 1 ≤ rows.length by omega)
    rw [Nat.succ_mul] at this; exact this
  have hcur : m * k + k ≤ cur.size := by
    have := Nat.mul_le_mul_right k hnc
    omega
  obtain ⟨it, hit, _, hk', _⟩ := hT
  have hst := run_storeCells_at P gb (m * k) e r' 0 cur w hg (by simpa [hu.1] using hcur) hu.2
  simp only [Nat.add_zero] at hst
  refine RL_u hs hw (.drop rfl) (w' := w.setRow gb (cur.toList.take (m * k) ++ r' ++ cur.toList.drop (m * k + r'.length)).toArray) (f' := f) (L' := L.set i (.row (.slice (some ⟨gb, 0, none⟩) rows.length cap) e k (rows.set m r'))) ?_ ?_ h
  · have hsz : (Value.agg r'.toArray).cells.size = it.size := by simp [Value.cells, hu.1, hk']
    simp [execOp, hs.ev.eval hx', hs.ev.eval hy, Instr.storeAt, Instr.sureAddr, storeVar, sizeOf, typeInfo, hit, Value.cells, hu.1, hk', hst]
  · have hfs := zp6 (k := k) (fun r hr => (hone r hr).1) hr hu.1
    refine hs.cw.repl hi (Grew.setRow w gb _) ⟨⟨?_, .inr ⟨gb, cap, _, ?_, hgb, setRow_heap w gb cur _ e _ hg, ?_, hcm, ?_, ?_⟩⟩, ?_⟩ (fun b' hb => .inl hb)
    · rw [List.length_set]
      have := hown.1
      rw [hfs]
      simp only [List.length_append, List.length_take, List.length_drop, hu.1, hfl]
      omega
    · rw [List.length_set]
    · rw [List.length_set]; exact hnc
    · simp only [List.size_toArray, List.length_append, List.length_take, List.length_drop, hu.1, Array.length_toList]
      omega
    · rw [List.length_set, hfs, ← htk]
      apply List.ext_getElem?
      intro j
      simp only [List.getElem?_append, List.getElem?_take, List.getElem?_drop, List.length_take, hu.1, Array.length_toList, List.append_assoc]
      grind
    · intro q hq
      rcases List.mem_or_eq_of_mem_set hq with hq | rfl
      · exact hone q hq
      · exact hu
theorem St.subs (hs : St n w0 f L E a w) (h : Sub E E') (hL : L'.Sublist L) : St n w0 f L' E' a w := (hs.sub h).subL hL
def ResV (P : Program) (a : Act) (w : World) : ResultVar → Value → Prop
  | .tmp t, v => a.tmps.getD t undef = v
  | .cell t ty, v => ∃ p, a.tmps.getD t undef = .pointer (some p) ∧ (loadVar ty p).run P w = .ok v w
theorem getD_slot (hs : St n w0 f L E a w) {t : Nat} {v : Value} (hl : look E t = some v) : a.tmps.getD t undef = v := by
  simp [Array.getD_eq_getD_getElem?, hs.ev.slots t v hl]
theorem rv_t (hs : St n w0 f L E a w) {t : Nat} {v : Value} (hl : look E t = some v) : ResV P a w (.tmp t) v := getD_slot hs hl
theorem rv_a (hs : St n w0 f L E a w) {t b : Nat} {ty : TypeId} {td : TypeDesc} {cs : Array Value} {k by_ : Nat} {z : Value} (hl : look E t = some (.pointer (some ⟨b, 0, none⟩))) (ht : P.underlying ty = some td) (ha : Agg td = true) (hT : TI P ty k by_ z)
    (hc : ∀ (j : Nat) u, cs[j]? = some u → Cell f L b j u) (hk : cs.size = k) : ResV P a w (.cell t ty) (.agg cs) := by
  refine ⟨_, getD_slot hs hl, ?_⟩
  obtain ⟨it, hit, _, hk', _⟩ := hT
  have hld : (loadCells ⟨b, 0, none⟩ it.size).run P w = .ok cs w := by
    have := run_loadCells_list (P := P) w ⟨b, 0, none⟩ cs.toList fun j u hj => by rw [zm2, Nat.zero_add]; exact (hc j u (by simpa using hj)).cell? hs.cw
    rw [hk', ← hk]; simpa using this
  cases td <;> first | (simp [Agg] at ha; done) | simp [loadVar, isAgg, run_underlying ht, sizeOf, typeInfo, hit, hld]
def resRun (a : Act) : ResultVar → Sem Value
  | .tmp t => pure (a.tmps.getD t undef)
  | .cell q t => do loadVar t (← asAddr (a.tmps.getD q undef))
theorem run_res {r : ResultVar} {v : Value} (h : ResV P a w r v) : (resRun a r).run P w = .ok v w := by
  cases r with
  | tmp t => simp only [ResV] at h; simp only [resRun, h, Sem.run_pure]
  | cell q t =>
    obtain ⟨p, h1, h2⟩ := h
    simp only [resRun, h1, asAddr, Sem.run_bind, Sem.run_pure, Result.andThen_ok, h2]
theorem RtV0 {fn : Func} {R : Ending → World → Prop} (hs : St n w0 f L E a w) (hr : fn.results = #[]) (h : R (.returned (.tuple #[])) w) : Rt P fn R a w := Rt_0 hs hr h
theorem RtV1 {fn : Func} {R : Ending → World → Prop} {r1 : ResultVar} {v1 : Value} (hs : St n w0 f L E a w) (hr : fn.results = #[r1]) (h1 : ResV P a w r1 v1) (h : R (.returned v1) w) : Rt P fn R a w := by
  refine ⟨hs.ev.defers, v1, ?_, h⟩
  have e1 := run_res h1
  unfold results
  rw [hr]
  simp only [List.mapM_toArray, List.mapM_cons, List.mapM_nil, Sem.run_bind, Sem.run_pure, bind_assoc, pure_bind, map_eq_pure_bind]
  erw [e1]
  simp
theorem RtV2 {fn : Func} {R : Ending → World → Prop} {r1 r2 : ResultVar} {v1 v2 : Value} (hs : St n w0 f L E a w) (hr : fn.results = #[r1, r2]) (h1 : ResV P a w r1 v1) (h2 : ResV P a w r2 v2) (h : R (.returned (.tuple #[v1, v2])) w) : Rt P fn R a w := by
  refine ⟨hs.ev.defers, _, ?_, h⟩
  have e1 := run_res h1
  have e2 := run_res h2
  unfold results
  rw [hr]
  simp only [List.mapM_toArray, List.mapM_cons, List.mapM_nil, Sem.run_bind, Sem.run_pure, bind_assoc, pure_bind, map_eq_pure_bind]
  erw [e1]
  simp only [Result.andThen_ok]
  erw [e2]
  simp
end
end Go.Sl
namespace Go.Sl
open Go.RowKit
inductive PT where
  | done
  | look (i : Nat) (p : PT)
  | any (l : List Nat) (p : Nat → PT)
section
variable {P : Program} {ops : Array Oper} {Q : AP} {F : (World → Prop) → Prop} {brk : List Nat}
def emask (o : Oper) : Nat := o.after.toList.foldr (fun e m => if Region.binds .any e then m ||| 2 ^ e.on else m) 0
theorem znm (o : Oper) (k : Nat) : (emask o).testBit k = true ↔ ∃ e ∈ o.after, Region.binds .any e = true ∧ e.on = k := by
  have : ∀ l : List Edge, (l.foldr (fun e m => if Region.binds .any e then m ||| 2 ^ e.on else m) 0).testBit k = true ↔ ∃ e ∈ l, Region.binds .any e = true ∧ e.on = k := by
    intro l
    induction l with
    | nil => simp
    | cons e l ih =>
      simp only [List.foldr_cons]
      split
      · rename_i hb
        rw [Nat.testBit_or, Bool.or_eq_true, ih, Nat.testBit_two_pow]
        constructor
        · rintro (⟨e', h1, h2⟩ | h)
          · exact ⟨e', by simp [h1], h2⟩
          · exact ⟨e, by simp, hb, by simpa using h⟩
        · rintro ⟨e', h1, h2, h3⟩
          rcases List.mem_cons.1 h1 with rfl | h1
          · exact .inr (by simpa using h3)
          · exact .inl ⟨e', h1, h2, h3⟩
      · rename_i hb
        rw [ih]
        constructor
        · rintro ⟨e', h1, h2⟩; exact ⟨e', by simp [h1], h2⟩
        · rintro ⟨e', h1, h2⟩
          rcases List.mem_cons.1 h1 with rfl | h1
          · exact absurd h2.1 hb
          · exact ⟨e', h1, h2⟩
  have h := this o.after.toList
  unfold emask
  rw [h]; simp
def subN (e l : Nat) : Bool := Nat.beq (e &&& l) e
theorem subN_spec {e l : Nat} : subN e l = true ↔ ∀ k, e.testBit k = true → l.testBit k = true := by
  unfold subN
  rw [Nat.beq_eq]
  constructor
  · intro h k hk
    rw [← h, Nat.testBit_and] at hk
    simp at hk; exact hk.2
  · intro h
    apply Nat.eq_of_testBit_eq
    intro k
    rw [Nat.testBit_and]
    cases he : e.testBit k with
    | false => rfl
    | true => simp [h k he]
def depsN : List Nat → Nat → Nat → Nat
  | [], _, d => d
  | m :: ms, j, d => depsN ms (j + 1) (bif Nat.beq (m &&& d) 0 then d else d ||| 2 ^ j)
theorem zrv : ∀ (ms : List Nat) (j d k : Nat), d.testBit k = true → (depsN ms j d).testBit k = true
  | [], _, _, _, h => h
  | m :: ms, j, d, k, h => by
    unfold depsN
    refine zrv ms _ _ k ?_
    cases Nat.beq (m &&& d) 0 with
    | true => exact h
    | false => simp [Nat.testBit_or, h]
theorem zo8 : ∀ (ms : List Nat) (j d k : Nat), (depsN ms j d).testBit k = true → d.testBit k = true ∨ ∃ p m q, ms[p]? = some m ∧ k = j + p ∧ m.testBit q = true ∧ (depsN ms j d).testBit q = true
  | [], _, _, _, h => .inl h
  | m :: ms, j, d, k, h => by
    unfold depsN at h ⊢
    cases hb : Nat.beq (m &&& d) 0 with
    | true =>
      rw [hb] at h
      rcases zo8 ms (j + 1) d k h with h1 | ⟨p, m', q, h1, h2, h3⟩
      · exact .inl h1
      · exact .inr ⟨p + 1, m', q, by simpa using h1, by omega, h3⟩
    | false =>
      rw [hb] at h
      simp only [cond_false] at h ⊢
      rcases zo8 ms (j + 1) (d ||| 2 ^ j) k h with h1 | ⟨p, m', q, h1, h2, h3⟩
      · rw [Nat.testBit_or, Bool.or_eq_true, Nat.testBit_two_pow] at h1
        rcases h1 with h1 | h1
        · exact .inl h1
        · have hk : j = k := by simpa using h1
          have hne : m &&& d ≠ 0 := fun e => by rw [e] at hb; simp at hb
          obtain ⟨q, hq⟩ := Nat.exists_testBit_of_ne_zero hne
          rw [Nat.testBit_and, Bool.and_eq_true] at hq
          exact .inr ⟨0, m, q, rfl, by omega, hq.1, zrv _ _ _ _ (by simp [Nat.testBit_or, hq.2])⟩
      · exact .inr ⟨p + 1, m', q, by simpa using h1, by omega, h3⟩
def readyN (ms : List Nat) (lm : Nat) : List Nat := (List.range ms.length).filter fun j => !lm.testBit j && subN (ms.getD j 0) lm
def freeN (ops : Array Oper) (ms : List Nat) (lm i : Nat) : Bool := match ops[i]? with
  | none => false
  | some oi => (List.range ops.size).all fun j => Nat.beq j i || lm.testBit j || (ms.getD j 0).testBit i || match ops[j]? with
    | some oj => oi.apart ops oj
    | none => true
def planN (ops : Array Oper) (ms : List Nat) (brk : List Nat) : Nat → PT → Nat → Bool
  | _, .done, lm => subN (2 ^ ms.length - 1) lm
  | m + 1, .look i p, lm => (!lm.testBit i && subN (ms.getD i 0) lm && decide (i < ms.length)) && freeN ops ms lm i &&
      (let d := depsN ms 0 (2 ^ i); Nat.beq (lm &&& d) 0 && brk.all fun b => d.testBit b) &&
      planN ops ms brk m p (lm ||| 2 ^ i)
  | m + 1, .any l p, lm => decide (readyN ms lm = l) && !l.isEmpty && l.all fun i => planN ops ms brk m (p i) (lm ||| 2 ^ i)
  | 0, _, _ => false
def masksN (ops : Array Oper) : List Nat := ops.toList.map emask
def Ag (listed : Array Bool) (lm : Nat) : Prop := ∀ k, listed.getD k false = lm.testBit k
theorem Ag.set {listed : Array Bool} {lm i : Nat} (h : Ag listed lm) (hi : i < listed.size) : Ag (listed.setIfInBounds i true) (lm ||| 2 ^ i) := fun k => by
  rw [Nat.testBit_or, Nat.testBit_two_pow, ← h k]
  by_cases e : i = k
  · subst e; simp [Array.getD_eq_getD_getElem?, hi]
  · simp [Array.getD_eq_getD_getElem?, e]
theorem zpk {j : Nat} {o : Oper} (h : ops[j]? = some o) : (masksN ops).getD j 0 = emask o := by
  simp [masksN, List.getD_eq_getElem?_getD, h]
theorem masksN_len : (masksN ops).length = ops.size := by simp [masksN]
theorem Ag.ready {listed : Array Bool} {lm : Nat} (h : Ag listed lm) (hsz : listed.size = ops.size) : Region.ready .any ops listed = readyN (masksN ops) lm := by
  unfold Region.ready readyN
  rw [masksN_len]
  refine List.filter_congr fun j hj => ?_
  have hj : j < ops.size := List.mem_range.1 hj
  obtain ⟨o, ho⟩ : ∃ o, ops[j]? = some o := ⟨ops[j], by simp [hj]⟩
  have h1 : j ∈ Region.ready .any ops listed ↔ (!lm.testBit j && subN ((masksN ops).getD j 0) lm) = true := by
    rw [mem_ready, zpk ho, Bool.and_eq_true, subN_spec]
    have h0 : listed.getD j true = listed.getD j false := by simp [Array.getD_eq_getD_getElem?, hsz, hj]
    rw [h0, h j]
    constructor
    · rintro ⟨h1, o', ho', h2⟩
      rw [ho] at ho'; cases ho'
      refine ⟨by simp [h1], fun k hk => ?_⟩
      obtain ⟨e, he, hb, rfl⟩ := (znm o k).1 hk
      rw [← h]; exact h2 e he hb
    · rintro ⟨h1, h2⟩
      refine ⟨by simpa using h1, o, ho, fun e he hb => ?_⟩
      rw [h]; exact h2 _ ((znm o e.on).2 ⟨e, he, hb, rfl⟩)
  unfold Region.ready at h1
  rw [List.mem_filter] at h1
  simp only [List.mem_range, hj, true_and] at h1
  exact Bool.eq_iff_iff.2 h1
theorem Ag.free {listed : Array Bool} {lm i : Nat} (h : Ag listed lm) (hsz : listed.size = ops.size) (hf : freeN ops (masksN ops) lm i = true) : Region.free .any ops listed i = true := by
  unfold freeN at hf
  unfold Region.free
  cases ho : ops[i]? with
  | none => rw [ho] at hf; cases hf
  | some oi =>
    rw [ho] at hf
    simp only at hf ⊢
    rw [List.all_eq_true] at hf ⊢
    intro j hj
    have hj' : j < ops.size := List.mem_range.1 hj
    have := hf j hj
    obtain ⟨o, hoj⟩ : ∃ o, ops[j]? = some o := ⟨ops[j], by simp [hj']⟩
    rw [zpk hoj, hoj] at this
    rw [hoj]
    have h0 : listed.getD j true = listed.getD j false := by simp [Array.getD_eq_getD_getElem?, hsz, hj']
    simp only [Bool.or_eq_true, Nat.beq_eq, beq_iff_eq] at this ⊢
    rw [h0, h j]
    rcases this with ((h1 | h1) | h1) | h1
    · exact .inl (.inl h1)
    · exact .inl (.inr h1)
    · refine .inr (.inl ?_)
      obtain ⟨e, he, hb, heq⟩ := (znm o i).1 h1
      exact Array.any_eq_true'.2 ⟨e, he, by simp [hb, heq]⟩
    · exact .inr (.inr h1)
def DT (P : Program) (ops : Array Oper) (F : (World → Prop) → Prop) (brk : List Nat) (m : Nat) (p : PT) (K : AP) (a : Act) (X : World → Prop) : Prop :=
  ∀ (listed : Array Bool) (lm : Nat), listed.size = ops.size → Ag listed lm → Region.noSelect ops = true → planN ops (masksN ops) brk m p lm = true → anyX P ops K F brk m listed a X
def DKT (P : Program) (ops : Array Oper) (F : (World → Prop) → Prop) (brk : List Nat) (i m : Nat) (p : PT) (K : AP) : AP :=
  fun a w => ∃ X, X w ∧ (F X ∨ i ∈ brk) ∧ DT P ops F brk m p K a X
theorem DT_done {K : AP} {a : Act} {X : World → Prop} {m : Nat} (h : ∀ w, X w → K a w) : DT P ops F brk m .done K a X := by
  intro listed lm hsz hag _ hp
  have hp : subN (2 ^ (masksN ops).length - 1) lm = true := by cases m <;> simpa [planN] using hp
  have h0 : Region.ready .any ops listed = [] := by
    rw [hag.ready hsz]
    refine List.filter_eq_nil_iff.2 fun j hj => ?_
    have hj : j < (masksN ops).length := List.mem_range.1 hj
    have := subN_spec.1 hp j (by rw [Nat.testBit_two_pow_sub_one]; simpa using hj)
    simp [this]
  cases m with
  | zero => exact ⟨h0, h⟩
  | succ m => exact ⟨fun _ => h, fun i hi => by rw [h0] at hi; cases hi⟩
theorem DT_look {i m : Nat} {o : Oper} {p : PT} {K : AP} {a : Act} {X : World → Prop} {v : Value} (hi : ops[i]? = some o) (hX : F X) (hy : YX P ops F o v a)
    (h : DT P ops F brk m p K (a.put o.dst v) X) : DT P ops F brk (m + 1) (.look i p) K a X := by
  intro listed lm hsz hag hsel hp
  simp only [planN, Bool.and_eq_true] at hp
  obtain ⟨⟨⟨⟨⟨h1, h2⟩, h3⟩, h4⟩, h5, h6⟩, h7⟩ := hp
  have hlt : i < ops.size := (Array.getElem?_eq_some_iff.1 hi).1
  have hz : lm &&& depsN (masksN ops) 0 (2 ^ i) = 0 := by simpa using h5
  have hin : (depsN (masksN ops) 0 (2 ^ i)).testBit i = true := zrv _ _ _ _ (by simp)
  obtain ⟨U, hU⟩ : ∃ U : Array Bool, U = ((List.range ops.size).map fun k => !(depsN (masksN ops) 0 (2 ^ i)).testBit k).toArray := ⟨_, rfl⟩
  have hUk : ∀ k, k < ops.size → U.getD k false = !(depsN (masksN ops) 0 (2 ^ i)).testBit k := fun k hk => by
    rw [hU]; simp [Array.getD_eq_getD_getElem?, hk]
  have hUo : ∀ k, ¬ k < ops.size → U.getD k false = false := fun k hk => by
    rw [hU, Array.getD_eq_getD_getElem?, Array.getElem?_eq_none (by simpa using hk)]; rfl
  have hcl : closedB ops U i = true := by
    unfold closedB
    rw [List.all_eq_true]
    intro j hj
    have hj : j < ops.size := List.mem_range.1 hj
    obtain ⟨oj, hoj⟩ : ∃ o, ops[j]? = some o := ⟨ops[j], by simp [hj]⟩
    rw [hUk j hj, hoj]
    by_cases hji : j = i
    · simp [hji]
    cases hd : (depsN (masksN ops) 0 (2 ^ i)).testBit j with
    | false => simp
    | true =>
      rcases zo8 _ _ _ _ hd with h | ⟨q, mm, r, e1, e2, e3, e4⟩
      · rw [Nat.testBit_two_pow] at h; simp at h; omega
      · have : q = j := by omega
        subst this
        have e1' : mm = emask oj := by have := zpk hoj; rw [List.getD_eq_getElem?_getD, e1] at this; simpa using this
        subst e1'
        obtain ⟨e, he, hb, rfl⟩ := (znm oj r).1 e3
        simp only [Bool.or_eq_true]
        refine .inr (Array.any_eq_true'.2 ⟨e, he, ?_⟩)
        rw [hb, Bool.true_and]
        by_cases hr : e.on < ops.size
        · rw [hUk _ hr, e4]; rfl
        · rw [hUo _ hr]; rfl
  refine anyX_take (U := U) hi (Region.noSelect_spec hsel) hcl (fun b hb => ?_) _ _ _ _ (fun k hk => ?_) (Region.free_spec hi (hag.free hsz h4)) ?_ hy hX (h _ _ (by simpa using hsz) (hag.set (by omega)) hsel h7)
  · by_cases hb' : b < ops.size
    · rw [hUk _ hb', List.all_eq_true.1 h6 b hb]; rfl
    · exact hUo _ hb'
  · have hk' : k < ops.size := by
      rcases Nat.lt_or_ge k listed.size with h' | h'
      · omega
      · simp [Array.getElem?_eq_none h'] at hk
    rw [hUk _ hk']
    rw [hag k] at hk
    cases hd : (depsN (masksN ops) 0 (2 ^ i)).testBit k with
    | false => rfl
    | true =>
      have : (lm &&& depsN (masksN ops) 0 (2 ^ i)).testBit k = true := by rw [Nat.testBit_and, hk, hd]; rfl
      rw [hz] at this; simp at this
  · rw [hag.ready hsz]
    refine List.mem_filter.2 ⟨List.mem_range.2 (by simpa using h3), ?_⟩
    rw [Bool.and_eq_true]
    exact ⟨h1, h2⟩
theorem DT_any {l : List Nat} {m : Nat} {p : Nat → PT} {K : AP} {a : Act} {X : World → Prop}
    (h : ∀ i ∈ l, ∃ o, ops[i]? = some o ∧ ∀ w, X w → RL P ops [o] (DKT P ops F brk i m (p i) K) a w) : DT P ops F brk (m + 1) (.any l p) K a X := by
  intro listed lm hsz hag hsel hp
  simp only [planN, Bool.and_eq_true, decide_eq_true_eq] at hp
  obtain ⟨⟨h1, hne⟩, h2⟩ := hp
  rw [← hag.ready hsz] at h1
  rw [List.all_eq_true] at h2
  refine ⟨fun h0 => (by rw [h1] at h0; subst h0; simp at hne), fun j hj w hw => ?_⟩
  rw [h1] at hj
  obtain ⟨o, hi, h⟩ := h j hj
  replace h2 := h2 j hj
  have H := (h w hw).d
  unfold wpOpS
  simp only [hi]
  simp only [RLd] at H
  have hlt : j < listed.size := by have := (Array.getElem?_eq_some_iff.1 hi).1; omega
  have fin : ∀ a' w', DKT P ops F brk j m (p j) K a' w' → ∃ X', X' w' ∧ (F X' ∨ j ∈ brk) ∧ anyX P ops K F brk m (listed.setIfInBounds j true) a' X' :=
    fun a' w' ⟨X', e1, e2, e3⟩ => ⟨X', e1, e2, e3 _ _ (by simpa using hsz) (hag.set hlt) hsel h2⟩
  split
  · rename_i hwt
    rw [if_pos hwt] at H
    exact opS_mono fin H
  · rename_i hwt
    rw [if_neg hwt] at H
    exact fin _ _ H
theorem wp_planT {id : Nat} {Qn : AP} {Qe : Nat → AP} {Qr : AP} {Qg : Nat → AP} {a : Act} {w : World} {X : World → Prop} (p : PT) (hm : P.follows .mixedOrders = true)
    (hB : (Region.noSelect ops && planN ops (masksN ops) brk ops.size p 0) = true) (hX : X { w with drawn := w.drawn + 1 }) (h : DT P ops F brk ops.size p Qn a X) : W P (.region id ops true) Qn Qe Qr Qg a w := by
  simp only [Bool.and_eq_true] at hB
  obtain ⟨h1, h3⟩ := hB
  have h4 := h (Array.replicate ops.size false) 0 (by simp) (fun k => by simp [Array.getD_eq_getD_getElem?, Array.getElem?_replicate]; split <;> simp) h1 h3
  exact W_any hm (anyX_any _ _ _ _ h4 _ hX)
section
variable {n m : Nat} {w0 w : World} {f f' f0 : Fz} {L L' Lc : List Ent} {E E' : List (Nat × Value)} {a : Act} {o : Oper} {K : AP} {i : Nat} {p : PT} {v : Value}
theorem zjc {id : Nat} {l : List Oper} {Qn : AP} {Qe : Nat → AP} {Qr : AP} {Qg : Nat → AP} (hs : St n w0 f L E a w) (Lc : List Ent) (brk : List Nat) (p : PT) (hm : P.follows .mixedOrders = true)
    (hB : (Region.noSelect l.toArray && planN l.toArray (masksN l.toArray) brk l.toArray.size p 0) = true)
    (h : ∀ a, Ev n E a → DT P l.toArray (Fam w0 f Lc) brk l.toArray.size p Qn a (Cw w0 f L)) : W P (.region id l.toArray true) Qn Qe Qr Qg a w :=
  wp_planT p hm hB hs.cw.drew (h a hs.ev)
theorem znq (he : Ev n E a) (h : ∀ w, St n w0 f L E a w → K a w) : DT P ops (Fam w0 f0 Lc) brk m .done K a (Cw w0 f L) :=
  DT_done fun w hw => h w ⟨he, hw⟩
theorem T_y (hi : ops[i]? = some o) (he : Ev n E a) (h1 : Fz.le f0 f) (h2 : Lc.Sublist L) (hw : Want ops E o true) (hd : Dst n o v E E') (hq : looks o.op = true) (hy : Y P (Cw w0 f0 Lc) n E o v)
    (h : ∀ a, Ev n E' a → DT P ops (Fam w0 f0 Lc) brk m p K a (Cw w0 f L)) : DT P ops (Fam w0 f0 Lc) brk (m + 1) (.look i p) K a (Cw w0 f L) := by
  refine DT_look hi (.mk h1 h2) (.inl ⟨hw.wanted he, fun X hX w hw => ?_⟩) (h _ (he.dst hd))
  obtain ⟨f', L', g1, g2, rfl⟩ := hX
  have hy' := hy a he w ((hw.weak g1).sub g2)
  unfold Oper.quietAt at hy' ⊢
  cases hr : (execOp a.eval o).run P w with
  | ok x w' =>
    rw [hr] at hy'
    cases x <;> simp only [Oper.quietUpon] at hy' ⊢ <;> try exact hy'
    exact absurd hr (looks_enter hq)
  | halt x w' => rw [hr] at hy'; exact hy'
theorem T_c (hi : ops[i]? = some o) (he : Ev n E a) (h1 : Fz.le f0 f) (h2 : Lc.Sublist L) (hw : Want ops E o true) (hd : Dst n o v E E')
    (hy : ∀ f' L', Fz.le f0 f' → Lc.Sublist L' → Y P (Cw w0 f' L') n E o v)
    (h : ∀ a, Ev n E' a → DT P ops (Fam w0 f0 Lc) brk m p K a (Cw w0 f L)) : DT P ops (Fam w0 f0 Lc) brk (m + 1) (.look i p) K a (Cw w0 f L) := by
  refine DT_look hi (.mk h1 h2) (.inl ⟨hw.wanted he, fun X hX w hw => ?_⟩) (h _ (he.dst hd))
  obtain ⟨f', L', g1, g2, rfl⟩ := hX
  exact hy f' L' g1 g2 a he w hw
theorem T_on (hs : St n w0 f L E a w) (h1 : (Fz.le f0 f ∧ Lc.Sublist L) ∨ i ∈ brk) (h : ∀ a, Ev n E a → DT P ops (Fam w0 f0 Lc) brk m p K a (Cw w0 f L)) : RL P ops [] (DKT P ops (Fam w0 f0 Lc) brk i m p K) a w :=
  za0 ⟨Cw w0 f L, hs.cw, h1.imp (fun h => .mk h.1 h.2) id, h a hs.ev⟩
end
end
section
variable {P : Program} {ops : Array Oper} {brk : List Nat} {n m : Nat} {w0 w : World} {f f' f0 : Fz} {L L' Lc : List Ent} {E E' : List (Nat × Value)} {a : Act} {K : AP} {p : PT} {v : Value}
variable {ty : TypeId} {pos : String} {af : Array Edge} {op : Op} {dd j gd : Nat} {b : Bool}
theorem uy (i : Nat) (he : Ev n E a) (hi : ops[i]? = some ⟨some dd, op, ty, pos, af, none⟩) (hy : Y P (Cw w0 f0 Lc) n E ⟨some dd, op, ty, pos, af, none⟩ v)
    (h : ∀ a, Ev n ((dd, v) :: E) a → DT P ops (Fam w0 f0 Lc) brk m p K a (Cw w0 f L)) (h1 : Fz.le f0 f := by first | exact .refl _ | assumption | exact Fz.le.trans (by assumption) (by assumption))
    (h2 : Lc.Sublist L := by first | exact List.Sublist.refl _ | exact List.nil_sublist _ | (repeat (first | exact List.Sublist.refl _ | exact List.nil_sublist _ | apply List.Sublist.cons_cons | apply List.Sublist.cons)))
    (hd : dd < n := by decide) (hq : looks op = true := by rfl) : DT P ops (Fam w0 f0 Lc) brk (m + 1) (.look i p) K a (Cw w0 f L) :=
  T_y hi he h1 h2 (.free rfl) (.to rfl hd) hq hy h
theorem ucall (i : Nat) {gn : FuncId} {x : Operand} {as : List Operand} {vs : List Value} {ats : Array TypeId} (he : Ev n E a) (hi : ops[i]? = some ⟨some dd, .call { callee := .value x, args := as.toArray, argTypes := ats }, ty, pos, af, none⟩)
    (hx : opv E x = some (.func (.func gn) #[] #[])) (hg : Has P gn) (hv : as.mapM (opv E) = some vs)
    (hp : ∀ f' L' w, Fz.le f0 f' → Lc.Sublist L' → Cw w0 f' L' w → Calls P gn vs.toArray w fun e w' => e = .returned v ∧ Cw w0 f' L' w')
    (h : ∀ a, Ev n ((dd, v) :: E) a → DT P ops (Fam w0 f0 Lc) brk m p K a (Cw w0 f L)) (h1 : Fz.le f0 f := by first | exact .refl _ | assumption | exact Fz.le.trans (by assumption) (by assumption))
    (h2 : Lc.Sublist L := by first | exact List.Sublist.refl _ | exact List.nil_sublist _ | (repeat (first | exact List.Sublist.refl _ | exact List.nil_sublist _ | apply List.Sublist.cons_cons | apply List.Sublist.cons)))
    (hd : dd < n := by decide) : DT P ops (Fam w0 f0 Lc) brk (m + 1) (.look i p) K a (Cw w0 f L) :=
  T_c hi he h1 h2 (.free rfl) (.to rfl hd) (fun f' L' g1 g2 => y_callC hx hg hv fun w hw => hp f' L' w g1 g2 hw) h
theorem uon {i : Nat} (hs : St n w0 f L E a w) (h : ∀ a, Ev n E a → DT P ops (Fam w0 f0 Lc) brk m p K a (Cw w0 f L))
    (h1 : Fz.le f0 f := by first | exact .refl _ | assumption | exact Fz.le.trans (by assumption) (by assumption))
    (h2 : Lc.Sublist L := by first | exact List.Sublist.refl _ | exact List.nil_sublist _ | (repeat (first | exact List.Sublist.refl _ | exact List.nil_sublist _ | apply List.Sublist.cons_cons | apply List.Sublist.cons))) :
    RL P ops [] (DKT P ops (Fam w0 f0 Lc) brk i m p K) a w := T_on hs (.inl ⟨h1, h2⟩) h
theorem uend {i : Nat} (hs : St n w0 f L E a w) (h : ∀ a, Ev n E a → DT P ops (Fam w0 f0 Lc) brk m p K a (Cw w0 f L)) (hb : i ∈ brk := by decide) :
    RL P ops [] (DKT P ops (Fam w0 f0 Lc) brk i m p K) a w := T_on hs (.inr hb) h
theorem T_any {l : List Nat} {p : Nat → PT} (he : Ev n E a) (h : ∀ i ∈ l, ∃ o, ops[i]? = some o ∧ ∀ a w, St n w0 f L E a w → RL P ops [o] (DKT P ops (Fam w0 f0 Lc) brk i m (p i) K) a w) : DT P ops (Fam w0 f0 Lc) brk (m + 1) (.any l p) K a (Cw w0 f L) :=
  DT_any fun i hi => by
    obtain ⟨o, h1, h2⟩ := h i hi
    exact ⟨o, h1, fun w hw => h2 a w ⟨he, hw⟩⟩
theorem ze2 {i : Nat} {o : Oper} {p : Nat → PT} (he : Ev n E a) (hi : ops[i]? = some o) (h : ∀ a w, St n w0 f L E a w → RL P ops [o] (DKT P ops (Fam w0 f0 Lc) brk i m (p i) K) a w) :
    DT P ops (Fam w0 f0 Lc) brk (m + 1) (.any [i] p) K a (Cw w0 f L) := T_any he fun j hj => by
  simp only [List.mem_singleton] at hj
  subst hj
  exact ⟨o, hi, h⟩
theorem T_any2 {i j : Nat} {o q : Oper} {p : Nat → PT} (he : Ev n E a) (hi : ops[i]? = some o) (hj : ops[j]? = some q) (h : ∀ a w, St n w0 f L E a w → RL P ops [o] (DKT P ops (Fam w0 f0 Lc) brk i m (p i) K) a w)
    (h' : ∀ a w, St n w0 f L E a w → RL P ops [q] (DKT P ops (Fam w0 f0 Lc) brk j m (p j) K) a w) :
    DT P ops (Fam w0 f0 Lc) brk (m + 1) (.any [i, j] p) K a (Cw w0 f L) := T_any he fun k hk => by
  simp only [List.mem_cons, List.mem_nil_iff, or_false] at hk
  rcases hk with rfl | rfl
  · exact ⟨o, hi, h⟩
  · exact ⟨q, hj, h'⟩
end
section
variable {P : Program} {f f' : Fz} {L L' : List Ent} {w0 w w' : World} {n : Nat} {E E' : List (Nat × Value)} {a : Act}
variable {ops : Array Oper} {rest : List Oper} {o : Oper} {K : AP} {C : World → Prop}
variable {d : Option Tmp} {ty : TypeId} {pos : String} {af : Array Edge} {g : Option (Nat × Bool)}
theorem zqe {gn : FuncId} {cs : List Operand} {vs : List Value} (hc : cs.mapM (opv E) = some vs) : Y P C n E ⟨d, .makeFunc (.func gn) #[] cs.toArray, ty, pos, af, g⟩ (.func (.func gn) #[] vs.toArray) :=
  .of fun a ha w _ => by
    have := evalArgs ha hc
    simp [execOp, this, Instr.makeFunc, Sem.run_pure]
theorem y_callK {gn : FuncId} {x : Operand} {cap : List Value} {as : List Operand} {vs : List Value} {ats : Array TypeId} {v : Value} (hx : opv E x = some (.func (.func gn) #[] cap.toArray)) (hg : Has P gn) (hv : as.mapM (opv E) = some vs) (hp : Gives P gn (vs ++ cap) f v) :
    Y P (Cw w0 f L) n E ⟨d, .call { callee := .value x, args := as.toArray, argTypes := ats }, ty, pos, af, g⟩ v := by
  intro a ha w hw
  unfold Oper.quietAt
  rw [zjh ha hx hg hv]
  refine ⟨rfl, ?_⟩
  have := hp w0 L w hw
  rw [List.append_toArray] at *
  simpa using this
end
end Go.Sl
namespace Go.Sl
open Go.RowKit
section
variable {α : Type}
def SM (enc : α → Value) (es : Array MapEntry) (m : List (ByteArray × α)) : Prop := SMap es.toList (m.map fun p => (p.1, enc p.2))
def mgetM (m : List (ByteArray × α)) (k : ByteArray) : Option α := (m.find? fun p => decide (p.1 = k)).map (·.2)
def mputM (m : List (ByteArray × α)) (k : ByteArray) (v : α) : List (ByteArray × α) := match m with
  | [] => [(k, v)]
  | p :: m => if p.1 = k then (p.1, v) :: m else p :: mputM m k v
theorem SM.nil {enc : α → Value} : SM enc #[] [] := rfl
theorem mget_map (enc : α → Value) (k : ByteArray) : ∀ m : List (ByteArray × α), mget (m.map fun p => (p.1, enc p.2)) k = (mgetM m k).map enc
  | [] => rfl
  | p :: m => by
    have ih := mget_map enc k m
    by_cases h : p.1 = k
    · simp [mget, mgetM, h]
    · simp only [mget, mgetM, List.map_cons, List.find?_cons, h, decide_false] at ih ⊢
      exact ih
theorem mput_map (enc : α → Value) (k : ByteArray) (v : α) : ∀ m : List (ByteArray × α), mput (m.map fun p => (p.1, enc p.2)) k (enc v) = (mputM m k v).map fun p => (p.1, enc p.2)
  | [] => rfl
  | p :: m => by
    have ih := mput_map enc k v m
    by_cases h : p.1 = k
    · simp [mput, mputM, h]
    · simp [mput, mputM, h, ih]
end
section
variable {P : Program} {ops : Array Oper} {rest : List Oper} {n : Nat} {w0 w : World} {f f' : Fz} {L L' : List Ent} {E E' : List (Nat × Value)} {a : Act} {K : AP} {v : Value}
variable {ty : TypeId} {pos : String} {af : Array Edge} {d : Option Tmp} {g : Option (Nat × Bool)} {C : World → Prop} {α : Type}
theorem y_lookupM {enc : α → Value} {t kt e : TypeId} {x y : Operand} {r : Nat} {es : Array MapEntry} {c : Nat} {m : List (ByteArray × α)} {k : ByteArray} {by_ kk : Nat} {z : α} (hx : opv E x = some (.map (some r))) (hy : opv E y = some (.string k))
    (ht : P.underlying t = some (.map kt e)) (hk : P.underlying kt = some .string) (hT : TI P e kk by_ (enc z)) (hm : .blk r (.map es c) ∈ L) (hS : SM enc es m) :
    Y P (Cw w0 f L) n E ⟨d, .lookup t x y false, ty, pos, af, g⟩ (enc ((mgetM m k).getD z)) := by
  have := y_lookupS (P := P) (w0 := w0) (f := f) (L := L) (n := n) (E := E) (d := d) (ty := ty) (pos := pos) (af := af) (g := g) hx hy ht hk hT hm hS
  rw [mget_map] at this
  cases h : mgetM m k with
  | none => rw [h] at this; exact this
  | some u => rw [h] at this; exact this
theorem zs5 {enc : α → Value} {t kt e : TypeId} {x y z : Operand} {r : Nat} {es : Array MapEntry} {c : Nat} {m : List (ByteArray × α)} {k : ByteArray} {u : α} (i : Nat) (hs : St n w0 f L E a w) (hi : L[i]? = some (.blk r (.map es c)))
    (hx : opv E x = some (.map (some r))) (hy : opv E y = some (.string k)) (hz : opv E z = some (enc u)) (ht : P.underlying t = some (.map kt e)) (hk : P.underlying kt = some .string) (hS : SM enc es m)
    (h : ∀ es' c' a w, SM enc es' (mputM m k u) → St n w0 f (L.set i (.blk r (.map es' c'))) E a w → RL P ops rest K a w) : RL P ops (⟨none, .mapUpdate t x y z, ty, pos, af, none⟩ :: rest) K a w :=
  zs4 i hs hi hx hy hz ht hk hS fun es' c' a w hS' hs => h es' c' a w (by rw [mput_map] at hS'; exact hS') hs
end
end Go.Sl
namespace Go.Sl
open Go.RowKit
section
variable {P : Program} {f f' : Fz} {L L' : List Ent} {w0 w w' : World} {n : Nat} {E E' : List (Nat × Value)} {a : Act}
variable {ops : Array Oper} {rest : List Oper} {o : Oper} {K : AP} {C : World → Prop}
variable {d : Option Tmp} {ty : TypeId} {pos : String} {af : Array Edge} {g : Option (Nat × Bool)}
section
variable {dp : Nat} {xs ys : Array Value} {fd : Field} {fs : List Field} {c : Bool}
theorem eqF_nil : (Op.eqFields (dp + 1) xs ys []).run P w = .ok true w := by simp [Op.eqFields]
theorem eqF_str {i j : ByteArray} (hn : (fd.name == "_") = false) (hu : P.underlying fd.type = some .string) (hx : xs[fd.offset]? = some (.string i)) (hy : ys[fd.offset]? = some (.string j)) (h : (Op.eqFields (dp + 1) xs ys fs).run P w = .ok c w) :
    (Op.eqFields (dp + 1) xs ys (fd :: fs)).run P w = .ok (decide (i = j) && c) w := by
  have hn' : fd.name ≠ "_" := by simpa using hn
  have e0 : (i.toList == j.toList) = decide (i = j) := by
    by_cases e : i = j
    · simp [e]
    · have : i.toList ≠ j.toList := fun h => e (znt h)
      simp [e, this]
  by_cases e : i = j <;> simp [Op.eqFields, hn', part, isAgg, run_underlying hu, hx, hy, run_equalIn_string _ _ _ _ _ hu, e0, e, h]
end
theorem zpq {t : TypeId} {fs : Array Field} (ht : P.underlying t = some (.struct fs)) : P.fieldsOf t = fs := by simp [Program.fieldsOf, ht]
theorem y_stneq {x y : Operand} {t t' : TypeId} {xs ys : Array Value} {fs : Array Field} {b : Bool} (hx : opv E x = some (.agg xs)) (hy : opv E y = some (.agg ys)) (ht : P.underlying t = some (.struct fs)) (hg : P.eqGuardType P.depth t = false) (hp : P.stoodInHeld t = false)
    (h : ∀ w, (Op.eqFields (9998 + 1) xs ys fs.toList).run P w = .ok b w) : Y P C n E ⟨d, .binOp .neq t x y t', ty, pos, af, g⟩ (.bool (!b)) :=
  .of fun a ha w _ => by
    have e1 := run_equalIn_agg (P := P) w 9999 t xs ys (by rw [zpq ht]; exact ht) hp
    rw [zpq ht, h w] at e1
    simp only [execOp, ha.eval hx, ha.eval hy, Sem.run_bind, run_eqGuard_agg w .neq t x y xs ys hg, run_neq_struct, e1, Result.andThen_ok, Sem.run_pure]
def numbered : Nat → List Value → List (Nat × Value)
  | _, [] => []
  | m, v :: vs => (m, v) :: numbered (m + 1) vs
theorem foldl_set (l : List Value) : ∀ (m o : Nat) (cs : Array Value), o + m + l.length ≤ cs.size → ((l.zipIdx m).foldl (fun (cs : Array Value) (x : Value × Nat) => cs.setIfInBounds (o + x.2) x.1) cs).toList = cs.toList.take (o + m) ++ l ++ cs.toList.drop (o + m + l.length) := by
  induction l with
  | nil => intro m o cs h; simp
  | cons u l ih =>
    intro m o cs h
    simp only [List.length_cons] at h
    rw [List.zipIdx_cons, List.foldl_cons, ih _ _ _ (by simp; omega)]
    apply List.ext_getElem?
    intro j
    simp only [Array.toList_setIfInBounds, List.getElem?_append, List.length_take, List.length_append, List.length_set, Array.length_toList, List.length_cons, List.getElem?_take, List.getElem?_drop, List.getElem?_set]
    grind
theorem fill_many {k : Nat} : ∀ (vs : List Value) (m : Nat) (cs : Array Value), (∀ v ∈ vs, v.cells.size = k) → (m + vs.length) * k ≤ cs.size →
    Instr.fill (fun i => some (i * k, k)) cs (numbered m vs) = some (cs.toList.take (m * k) ++ (vs.map (·.cells.toList)).flatten ++ cs.toList.drop ((m + vs.length) * k)).toArray
  | [], m, cs, _, _ => by simp [numbered, Instr.fill]
  | v :: vs, m, cs, h1, h2 => by
    have hv := h1 v (by simp)
    simp only [List.length_cons] at h2
    have h3 : m * k + k ≤ cs.size := by
      have := Nat.mul_le_mul_right k (show m + 1 ≤ m + (vs.length + 1) by omega)
      rw [Nat.succ_mul] at this; omega
    simp only [numbered, Instr.fill]
    rw [if_neg (by simp only [Bool.or_eq_true, decide_eq_true_eq]; omega)]
    have hf := foldl_set v.cells.toList 0 (m * k) cs (by simp [hv]; omega)
    have hl : (v.cells.zipIdx.foldl (fun cs (x : Value × Nat) => cs.setIfInBounds (m * k + x.2) x.1) cs).toList = cs.toList.take (m * k) ++ v.cells.toList ++ cs.toList.drop (m * k + k) := by
      rw [← Array.foldl_toList, Array.toList_zipIdx, hf]
      simp [hv]
    have hsz : (v.cells.zipIdx.foldl (fun cs (x : Value × Nat) => cs.setIfInBounds (m * k + x.2) x.1) cs).size = cs.size := by
      rw [← Array.length_toList, hl]
      simp [hv]; omega
    rw [fill_many vs (m + 1) _ (fun u hu => h1 u (by simp [hu])) (by rw [hsz, show m + 1 + vs.length = m + (vs.length + 1) by omega]; exact h2), hl]
    congr 2
    rw [List.map_cons, List.flatten_cons, Nat.succ_mul, show m + 1 + vs.length = m + (v :: vs).length by simp; omega]
    have h4 : (cs.toList.take (m * k) ++ v.cells.toList).length = m * k + k := by simp [hv]; omega
    rw [List.take_left' h4]
    have h5 : m * k + k ≤ (m + (v :: vs).length) * k := by
      have := Nat.mul_le_mul_right k (show m + 1 ≤ m + (v :: vs).length by simp)
      rw [Nat.succ_mul] at this; exact this
    have h6 : (cs.toList.take (m * k) ++ v.cells.toList ++ cs.toList.drop (m * k + k)).drop ((m + (v :: vs).length) * k) = cs.toList.drop ((m + (v :: vs).length) * k) := by
      rw [List.drop_append, h4, List.drop_eq_nil_of_le (by rw [h4]; exact h5), List.nil_append, List.drop_drop]
      congr 1
      omega
    rw [h6]
    simp [List.append_assoc]
theorem zpy {t e : TypeId} {len : Nat} {us : List Value} {rows : List (List Value)} {k by_ : Nat} {z : Value} (hs : St n w0 f L E a w) {dd : Nat} {parts : List (Nat × Operand)}
    (hx : parts.mapM (fun p => (opv E p.2).map fun v => (p.1, v)) = some (numbered 0 us)) (ht : P.underlying t = some (.slice e)) (hT : TI P e k by_ z) (hk : 0 < k ∧ 0 < len ∧ len * k ≤ 16777216)
    (hr : us.map (·.cells.toList) = rows) (hl : us.length = len) (h1 : ∀ r ∈ rows, OneRow k r)
    (h : ∀ v a w, St n w0 f (.row v e k rows :: L) ((dd, v) :: E) a w → RL P ops rest K a w) (hd : dd < n := by decide) :
    RL P ops (⟨some dd, .buildSlice t len parts.toArray, ty, pos, af, none⟩ :: rest) K a w := by
  subst hr
  have hu : ∀ v ∈ us, v.cells.size = k := fun v hv => by
    have := (h1 _ (List.mem_map_of_mem hv)).1
    simpa using this
  refine znr (parts := parts) (vs := numbered 0 us) (rows := us.map (·.cells.toList)) hs hx ht hT hk ?_ (by simpa using hl) h1 (.free rfl) hd h
  rw [fill_many us 0 _ hu (by rw [Nat.zero_add, hl]; simp)]
  simp [hl]
end
end Go.Sl
namespace Go.Sl
open Go.RowKit Go.ChangeShapes Go.WideShapes Go.ChangeAt
section
variable {α : Type} {P : Program}
def OpN (N : Nat) (P : Program) (T : TypeId) (t : Ty α) (S : α → Prop) : Prop :=
  ∀ (H : Type) (enc : TypeId × Value → H) (w : World) (n : Nat) (cs : List Value) (x : DataW H × List MemPlace), n ≤ N →
    DataW.trod enc P w 0 (fun _ => true) true n T cs = some x → (∀ m ∈ x.1.weights P T, m ≤ reachBytes) → ∃ a, t.R (whole w) cs a ∧ S a
theorem OpN.le {N M : Nat} {T : TypeId} {t : Ty α} {S : α → Prop} (h : OpN M P T t S) (hN : N ≤ M) : OpN N P T t S := fun H enc w n cs x hn => h H enc w n cs x (by omega)
def Sint (k : IntKind) (i : Int) : Prop := (Lit.int k i).wf = true
def Ssl (b : Nat) (S : α → Prop) (xs : List α) : Prop := xs.length * b ≤ reachBytes ∧ ∀ x ∈ xs, S x
theorem op_int {N : Nat} {T : TypeId} {k : IntKind} (ht : P.underlying T = some (.int k)) : OpN N P T (tInt k) (Sint k) := fun H enc w n cs x _ h _ => by
  obtain ⟨i, rfl, _, hw⟩ := DataW.trod_int ht h
  exact ⟨i, rfl, hw⟩
theorem list_of {β : Type} {Q : Nat → β → Prop} : ∀ (len : Nat), (∀ i, i < len → ∃ p, Q i p) → ∃ l : List β, l.length = len ∧ ∀ (i : Nat) p, l[i]? = some p → Q i p
  | 0, _ => ⟨[], rfl, by simp⟩
  | len + 1, h => by
    obtain ⟨l, h1, h2⟩ := list_of len (fun i hi => h i (by omega))
    obtain ⟨p, hp⟩ := h len (by omega)
    refine ⟨l ++ [p], by simp [h1], fun i q hq => ?_⟩
    rw [List.getElem?_append] at hq
    split at hq
    · exact h2 i q hq
    · have : i = len := by
        have := (List.getElem?_eq_some_iff.1 hq).1
        simp at this; omega
      subst this
      simp [h1] at hq
      subst hq
      exact hp
theorem zmk {H : Type} {e : TypeId} : ∀ {ds : List (DataW H)} {d : DataW H}, d ∈ ds → ∀ m ∈ d.weights P e, m ∈ DataW.weightsAll P e ds
  | d0 :: ds, d, hd, m, hm => by
    simp only [DataW.weightsAll, List.mem_append]
    rcases List.mem_cons.1 hd with rfl | hd
    · exact .inl hm
    · exact .inr (zmk hd m hm)
theorem op_slice {N b : Nat} {T e : TypeId} {t : Ty α} {S : α → Prop} (ht : P.underlying T = some (.slice e)) (hk : P.cellsOf e = t.k) (hk0 : 0 < t.k) (hb : P.bytesOf e = b) (h : OpN N P e t S) : OpN (N + 1) P T (tSl t) (Ssl b S) := fun H enc w n cs x hn hx hw => by
  rcases DataW.trod_slice ht hx with ⟨rfl, rfl⟩ | ⟨a, len, cap, elems, rest, m, rfl, rfl, rfl, _, hl, hm, hlen, hel, _, _⟩
  · exact ⟨[], ⟨_, rfl, RS.nil⟩, by simp [Ssl]⟩
  · have hw' : ∀ q ∈ (elems.length + rest.length) * b :: (DataW.weightsAll P e (elems.map (·.1)) ++ DataW.weightsAll P e (rest.map (·.1))), q ≤ reachBytes := by
      intro q hq
      refine hw q ?_
      simp only [DataW.weights, ht, hb, List.length_map]
      exact hq
    obtain ⟨l, l1, l2⟩ := list_of (Q := fun i (p : List Value × α) => w.cells? 0 (a.add (i * P.cellsOf e)) (P.cellsOf e) = some p.1 ∧ t.R (whole w) p.1 p.2 ∧ S p.2) len (fun i hi => by
      have h1 := hel i hi
      rw [List.getElem?_eq_getElem (by omega)] at h1
      obtain ⟨cs', h2, h3⟩ := Option.bind_eq_some_iff.1 h1
      obtain ⟨y, h4, h5⟩ := h H enc w m cs' _ (by omega) h3 (fun q hq => hw' q (by
        refine List.mem_cons_of_mem _ (List.mem_append_left _ (zmk (d := elems[i].1) ?_ q hq))
        exact List.mem_map_of_mem (List.getElem_mem _)))
      exact ⟨(cs', y), h2, h4, h5⟩)
    refine ⟨l.map (·.2), ⟨_, rfl, l.map (·.1), ⟨?_, some a, cap, by rw [List.length_map, l1], by rw [List.length_map, l1]; exact hl, fun hh => (by cases hh), fun a' ha => ?_⟩, ?_⟩, ?_, ?_⟩
    · intro r hr
      obtain ⟨p, hp, rfl⟩ := List.mem_map.1 hr
      obtain ⟨i, hi⟩ := List.getElem?_of_mem hp
      exact t.one (l2 i p hi).2.1
    · cases ha
      obtain ⟨bb, off, sp⟩ := a
      by_cases h0 : len = 0
      · have : l = [] := List.eq_nil_of_length_eq_zero (by omega)
        subst this
        exact ⟨fun h => absurd rfl h, fun i r hr => by simp at hr⟩
      · have hsp : sp = none := by
          obtain ⟨p, hp⟩ : ∃ p, l[0]? = some p := ⟨_, List.getElem?_eq_getElem (by omega)⟩
          obtain ⟨_, hlen', hc⟩ := World.cells?_some (l2 0 p hp).1
          have h1 := hc 0 (by rw [hk]; exact hk0)
          rw [List.getElem?_eq_getElem (by rw [hlen', hk]; exact hk0)] at h1
          simpa [Addr.add] using World.cell?_spot h1
        subst hsp
        refine ⟨fun _ => rfl, fun i r hr j u hu => ?_⟩
        simp only [List.getElem?_map, Option.map_eq_some_iff] at hr
        obtain ⟨p, hp, rfl⟩ := hr
        obtain ⟨_, hlen', hc⟩ := World.cells?_some (l2 i p hp).1
        have hj : j < P.cellsOf e := by rw [← hlen']; exact (List.getElem?_eq_some_iff.1 hu).1
        have h1 := hc j hj
        rw [hu] at h1
        rw [zm2, zm2, Nat.add_assoc, hk] at h1
        exact cell_whole h1 []
    · have : ∀ (l : List (List Value × α)), (∀ p ∈ l, t.R (whole w) p.1 p.2) → RW t (whole w) (l.map (·.1)) (l.map (·.2)) := by
        intro l
        induction l with
        | nil => intro _; exact trivial
        | cons p l ih => intro hh; exact ⟨hh p (by simp), ih fun q hq => hh q (by simp [hq])⟩
      exact this l fun p hp => by
        obtain ⟨i, hi⟩ := List.getElem?_of_mem hp
        exact (l2 i p hi).2.1
    · have h1 := hw' _ List.mem_cons_self
      rw [List.length_map, l1]
      have : len * b ≤ (elems.length + rest.length) * b := Nat.mul_le_mul_right _ (by omega)
      omega
    · intro y hy
      obtain ⟨p, hp, rfl⟩ := List.mem_map.1 hy
      obtain ⟨i, hi⟩ := List.getElem?_of_mem hp
      exact (l2 i p hi).2.2
theorem op_sl {N b : Nat} {T e : TypeId} {t : Ty α} {S : α → Prop} (ht : P.underlying T = some (.slice e)) (hk : P.cellsOf e = t.k) (hk0 : 0 < t.k) (hb : P.bytesOf e = b) (h : OpN N P e t S) : OpN N P T (tSl t) (Ssl b S) := (op_slice ht hk hk0 hb h).le (by omega)
theorem zo2 {H : Type} {ts : List TypeId} {ds : List (DataW H)} (h : (DataW.weightsEach P ts ds).all (· ≤ reachBytes) = true) {j : Nat} {T : TypeId} {d : DataW H} (ht : ts[j]? = some T) (hd : ds[j]? = some d) : ∀ m ∈ d.weights P T, m ≤ reachBytes := fun m hm => by
  simpa using List.all_eq_true.1 h m (DataW.weights_mem_each ht hd m hm)
end
end Go.Sl
namespace Go.Sl
open Go.RowKit
section
variable {P : Program} {M : List Deferred} {Q Q' : List Deferred → Exit → AP} {a : Act} {w : World}
open Classical in
end
end Go.Sl
namespace Go.Sl
open Go.RowKit
section
variable {P : Program} {f f' : Fz} {L L' : List Ent} {w0 w w' : World} {n : Nat} {E E' : List (Nat × Value)} {a : Act}
end
end Go.Sl
namespace Go.Sl
open Go.RowKit
section
variable {P : Program} {f f' : Fz} {L L' : List Ent} {w0 w w' : World} {n : Nat} {E E' : List (Nat × Value)} {a : Act}
variable {ops : Array Oper} {rest : List Oper} {K : AP} {ty : TypeId} {pos : String} {af : Array Edge} {g : Option (Nat × Bool)}
end
end Go.Sl
namespace Go.Sl
open Go.RowKit
abbrev MP := List Deferred → AP
section
variable {P : Program} {f f' f0 : Fz} {L L' : List Ent} {w0 w w' : World} {n : Nat} {E E' : List (Nat × Value)} {a : Act}
variable {M : List Deferred} {Qn : MP} {Qe : Nat → MP} {Qr : MP} {Qg : Nat → MP}
section
variable {ops : Array Oper} {rest : List Oper} {K : AP} {ty : TypeId} {pos : String} {af : Array Edge}
end
section
variable {C : World → Prop} {d : Option Tmp} {ty : TypeId} {pos : String} {af : Array Edge} {g : Option (Nat × Bool)}
theorem y_sliceSV {t : TypeId} {x : Operand} {ol oh : Option Operand} {s u : ByteArray} {lo hi : Nat} (he : s.extract lo hi = u) (hx : opv E x = some (.string s)) (ht : P.underlying t = some .string)
    (hlo : (ol = none ∧ lo = 0) ∨ ∃ y, ol = some y ∧ opv E y = some (.int .i64 (lo : Int))) (hhi : (oh = none ∧ hi = s.size) ∨ ∃ y, oh = some y ∧ opv E y = some (.int .i64 (hi : Int))) (h1 : lo ≤ hi) (h2 : hi ≤ s.size) :
    Y P C n E ⟨d, .slice t x ol oh none, ty, pos, af, g⟩ (.string u) := by subst he; exact zk2 hx ht hlo hhi h1 h2
end
end
end Go.Sl
namespace Go.Sl
open Go.RowKit
theorem zg9 {P : Program} {b : Frame} {a : Act} {k : List Item} {cs : List Frame} {w : World} {c : Code} : step P (lone (b.atR a (.code (.scope c) :: k)) cs w) = .next (lone (b.atR a (.code c :: .inScope c :: k)) cs w) :=
  step_lone_go (by simp [stepG, stepG.exec, Frame.atR])
theorem znc {P : Program} {b : Frame} {a : Act} {k : List Item} {cs : List Frame} {w : World} {c : Code} : step P (lone (b.atR a (.inScope c :: k)) cs w) = .next (lone (b.atR a k) cs w) :=
  step_lone_go (by simp [stepG, stepG.exec, Frame.atR])
def scopePost (c : Code) (J : Nat → AP) (Q : Exit → AP) : Exit → AP
  | .goto l, a, w => (∃ rest, findLabel c l = some rest ∧ J l a w) ∨ (findLabel c l = none ∧ Q (.goto l) a w)
  | e, a, w => Q e a w
theorem wpIn_scope {F : Fence} {n : Nat} {P : Program} {a : Act} {w : World} {Q : Exit → AP} {c : Code} (J : Nat → Nat → AP)
    (first : c.wpIn F n P (scopePost c (fun l a w => ∃ k, J l k a w) Q) a w)
    (pass : ∀ l k a w rest, findLabel c l = some rest → J l k a w → rest.wpIn F n P (scopePost c (fun l a w => ∃ k', k' < k ∧ J l k' a w) Q) a w) : (Code.scope c).wpIn F n P Q a w := by
  intro b k cs hro hb hr
  have h0 : ∀ a w, (lone (b.atR a (.code (.scope c) :: k)) cs w).fenced P F := fun a w => fenced_calm hb hr rfl
  have key : ∀ m l a w rest, findLabel c l = some rest → J l m a w → ∃ e a' w', Q e a' w' ∧ ArrivesIn (Machine.fenced P F) P (lone (b.atR a (.code rest :: .inScope c :: k)) cs w) b k cs e a' w' := by
    intro m
    induction m using Nat.strongRecOn with
    | _ m ih =>
      intro l a w rest hl hJ
      obtain ⟨e, a₁, w₁, hq, harr⟩ := pass l m a w rest hl hJ b (.inScope c :: k) cs hro hb hr
      cases e with
      | normal => exact ⟨.normal, a₁, w₁, hq, StepsIn.trans harr (.one (fenced_calm hb hr rfl) znc)⟩
      | exit id => exact ⟨_, a₁, w₁, hq, .pass (x := .inLoop c) rfl (fun _ _ => .inl (by simp)) ⟨fun k' hk => harr.1 k' (by simpa [exitTo] using hk), fun h1 h2 => harr.2 h1 (by simpa [exitTo] using h2)⟩⟩
      | goto l' =>
        rcases hq with ⟨rest', hl', m', hlt, hJ'⟩ | ⟨hno, hq⟩
        · obtain ⟨e₂, a₂, w₂, hq₂, harr₂⟩ := ih m' hlt l' a₁ w₁ rest' hl' hJ'
          exact ⟨e₂, a₂, w₂, hq₂, .of_steps (harr.1 _ (by simp [gotoIn, hl'])) harr₂⟩
        · have hx : gotoIn l' (.inScope c :: k) = gotoIn l' k := by simp [gotoIn, hno]
          exact ⟨.goto l', a₁, w₁, hq, fun k' hk => harr.1 k' (by rw [hx]; exact hk), fun h1 h2 => harr.2 h1 (by rw [hx]; exact h2)⟩
      | ret => exact ⟨_, a₁, w₁, hq, harr⟩
      | panic ch => exact ⟨_, a₁, w₁, hq, harr⟩
      | outgrown => exact ⟨_, a₁, w₁, hq, harr⟩
  obtain ⟨e, a₁, w₁, hq, harr⟩ := first b (.inScope c :: k) cs hro hb hr
  cases e with
  | normal => exact ⟨.normal, a₁, w₁, hq, .head (h0 _ _) zg9 (StepsIn.trans harr (.one (fenced_calm hb hr rfl) znc))⟩
  | exit id => exact ⟨.exit id, a₁, w₁, hq, fun k' hk => .head (h0 _ _) zg9 (harr.1 k' (by simpa [exitTo] using hk)), fun h1 h2 => let ⟨k₁, h3, h4⟩ := harr.2 h1 (by simpa [exitTo] using h2); ⟨k₁, h3, .head (h0 _ _) zg9 h4⟩⟩
  | goto l' =>
    rcases hq with ⟨rest', hl', m', hJ'⟩ | ⟨hno, hq⟩
    · obtain ⟨e₂, a₂, w₂, hq₂, harr₂⟩ := key m' l' a₁ w₁ rest' hl' hJ'
      exact ⟨e₂, a₂, w₂, hq₂, .of_steps (.head (h0 _ _) zg9 (harr.1 _ (by simp [gotoIn, hl']))) harr₂⟩
    · have hx : gotoIn l' (.inScope c :: k) = gotoIn l' k := by simp [gotoIn, hno]
      exact ⟨.goto l', a₁, w₁, hq, fun k' hk => .head (h0 _ _) zg9 (harr.1 k' (by rw [hx]; exact hk)), fun h1 h2 => let ⟨k₁, h3, h4⟩ := harr.2 h1 (by rw [hx]; exact h2); ⟨k₁, h3, .head (h0 _ _) zg9 h4⟩⟩
  | ret => exact ⟨_, a₁, w₁, hq, .of_steps (.one (h0 _ _) zg9) harr⟩
  | panic ch => exact ⟨_, a₁, w₁, hq, .of_steps (.one (h0 _ _) zg9) harr⟩
  | outgrown => exact ⟨_, a₁, w₁, hq, .of_steps (.one (h0 _ _) zg9) harr⟩
theorem W_scope {P : Program} {a : Act} {w : World} {c : Code} {Qn : AP} {Qe : Nat → AP} {Qr : AP} {Qg : Nat → AP} (J : Nat → Nat → AP)
    (first : ∀ G : Nat → AP, (∀ l k a w, (∃ rest, findLabel c l = some rest) → J l k a w → G l a w) → (∀ l a w, findLabel c l = none → Qg l a w → G l a w) → W P c Qn Qe Qr G a w)
    (pass : ∀ l k a w rest, findLabel c l = some rest → J l k a w → ∀ G : Nat → AP, (∀ l k' a w, (∃ rest, findLabel c l = some rest) → k' < k → J l k' a w → G l a w) → (∀ l a w, findLabel c l = none → Qg l a w → G l a w) → W P rest Qn Qe Qr G a w) :
    W P (.scope c) Qn Qe Qr Qg a w := by
  intro r M
  refine wpIn_scope (fun l k a w => ∃ b, a = withM M b ∧ J l k b w) ?_ ?_
  · refine wpIn_mono (first (fun l a w => (∃ rest, findLabel c l = some rest ∧ ∃ k, J l k a w) ∨ (findLabel c l = none ∧ Qg l a w)) (fun l k a w ⟨rest, h⟩ hJ => .inl ⟨rest, h, k, hJ⟩) (fun l a w h hq => .inr ⟨h, hq⟩) r M) ?_
    rintro e a' w' ⟨b, rfl, q⟩
    cases e with
    | goto l =>
      rcases q with ⟨rest, h1, k, h2⟩ | ⟨h1, h2⟩
      · exact .inl ⟨rest, h1, k, b, rfl, h2⟩
      · exact .inr ⟨h1, b, rfl, h2⟩
    | _ => exact ⟨b, rfl, q⟩
  · rintro l k a' w' rest hl ⟨b, rfl, hJ⟩
    refine wpIn_mono (pass l k b w' rest hl hJ (fun l a w => (∃ rest, findLabel c l = some rest ∧ ∃ k', k' < k ∧ J l k' a w) ∨ (findLabel c l = none ∧ Qg l a w)) (fun l k' a w ⟨rest, h⟩ hlt hJ => .inl ⟨rest, h, k', hlt, hJ⟩) (fun l a w h hq => .inr ⟨h, hq⟩) r M) ?_
    rintro e a' w' ⟨b, rfl, q⟩
    cases e with
    | goto l =>
      rcases q with ⟨rest, h1, k', h2, h3⟩ | ⟨h1, h2⟩
      · exact .inl ⟨rest, h1, k', h2, b, rfl, h3⟩
      · exact .inr ⟨h1, b, rfl, h2⟩
    | _ => exact ⟨b, rfl, q⟩
end Go.Sl
namespace Go.Sl
open Go.RowKit
section
variable {P : Program} {f f' f0 : Fz} {L L' Lc : List Ent} {w0 w w' : World} {n m i : Nat} {E E' : List (Nat × Value)} {a : Act}
variable {ops : Array Oper} {rest : List Oper} {o : Oper} {K : AP} {C : World → Prop} {op : Op}
variable {d : Option Tmp} {ty : TypeId} {pos : String} {af : Array Edge} {g : Option (Nat × Bool)} {brk : List Nat} {p : PT} {v : Value}
def Apart (x y : Ent) : Prop := ∀ k, x.key = some k → y.key = some k → False
theorem zod {L : List Ent} : (∀ (i j : Nat) (x y : Ent), L[i]? = some x → L[j]? = some y → i ≠ j → ∀ k, x.key = some k → y.key = some k → False) ↔ L.Pairwise Apart := by
  rw [List.pairwise_iff_getElem]
  constructor
  · intro h i j hi hj hij k h1 h2
    exact h i j _ _ (List.getElem?_eq_getElem hi) (List.getElem?_eq_getElem hj) (by omega) k h1 h2
  · intro h i j x y hi hj hij k h1 h2
    obtain ⟨hi', rfl⟩ := List.getElem?_eq_some_iff.1 hi
    obtain ⟨hj', rfl⟩ := List.getElem?_eq_some_iff.1 hj
    rcases Nat.lt_or_gt_of_ne hij with hlt | hlt
    · exact h i j hi' hj' hlt k h1 h2
    · exact h j i hj' hi' hlt k h2 h1
theorem Cw.perm (h : Cw w0 f L w) (hp : L.Perm L') : Cw w0 f L' w := by
  refine ⟨h.os, h.tape, h.output, h.size, h.frz, fun e he => h.live e (hp.mem_iff.2 he), fun e he => h.apart e (hp.mem_iff.2 he), ?_⟩
  rw [zod]
  exact (List.Perm.pairwise_iff (fun {x y} (hxy : Apart x y) k h1 h2 => hxy k h2 h1) hp).1 (zod.1 h.sep)
theorem zag {α : Type} : ∀ (L : List α) (i : Nat) {x : α}, L[i]? = some x → L.Perm (x :: L.eraseIdx i)
  | [], _, _, h => by simp at h
  | y :: L, 0, x, h => by simp at h; subst h; exact .refl _
  | y :: L, i + 1, x, h => by
    simp at h
    rw [List.eraseIdx_cons_succ]
    exact ((zag L i h).cons y).trans (.swap _ _ _)
def GivesL (P : Program) (fn : FuncId) (args : List Value) (f : Fz) (Lr : List Ent) (v : Value) : Prop :=
  ∀ w0 L w, Cw w0 f (Lr ++ L) w → Calls P fn args.toArray w fun e w' => e = .returned v ∧ Cw w0 f (Lr ++ L) w'
theorem GivesL.at {fn : FuncId} {args : List Value} {Lr Lf : List Ent} (h : GivesL P fn args f Lr v) (hp : L.Perm (Lr ++ Lf)) (hC : Cw w0 f L w) : Calls P fn args.toArray w fun e w' => e = .returned v ∧ Cw w0 f L w' :=
  (h w0 Lf w (hC.perm hp)).mono fun _ _ ⟨h1, h2⟩ => ⟨h1, h2.perm hp.symm⟩
theorem zeg {gn : FuncId} {x : Operand} {cap : List Value} {as : List Operand} {vs : List Value} {ats : Array TypeId} {Lr Lf : List Ent} (hx : opv E x = some (.func (.func gn) #[] cap.toArray)) (hg : Has P gn) (hv : as.mapM (opv E) = some vs) (hL : L.Perm (Lr ++ Lf)) (hp : GivesL P gn (vs ++ cap) f Lr v) :
    Y P (Cw w0 f L) n E ⟨d, .call { callee := .value x, args := as.toArray, argTypes := ats }, ty, pos, af, g⟩ v := by
  intro a ha w hw
  unfold Oper.quietAt
  rw [zjh ha hx hg hv]
  refine ⟨rfl, ?_⟩
  have := hp.at hL hw
  rw [List.append_toArray] at *
  simpa using this
theorem RW.ints {k : IntKind} {rows : List (List Value)} {xs : List Int} (h : RW (tInt k) f rows xs) : rows = xs.map fun x => [.int k x] := RW.map (fun _ _ h => h) h
theorem zp4 {t u e : TypeId} {x : Operand} {v : Value} {rows : List (List Value)} {xs : List Int} (hx : opv E x = some v) (ht : P.underlying t = some (.slice e)) (he : P.underlying e = some (.int .i32)) (hu : P.underlying u = some .string) (hR : Rd f L v 1 rows) (hW : RW (tInt .i32) f' rows xs) :
    Y P (Cw w0 f L) n E ⟨d, .convert t u x, ty, pos, af, g⟩ (.string (textOf xs)) := y_r2s hx ht he hu (hW.ints ▸ hR)
def runesM (s : ByteArray) : Option (List Int) := bif decide (s.size ≤ 70368744177664) then some (runesIn s) else none
theorem runesM_some {s : ByteArray} {xs : List Int} (h : runesM s = some xs) : s.size ≤ 70368744177664 ∧ runesIn s = xs := by
  unfold runesM at h
  by_cases hs : s.size ≤ 70368744177664
  · rw [decide_eq_true hs] at h; exact ⟨hs, Option.some.inj h⟩
  · rw [decide_eq_false hs] at h; cases h
theorem RW.ofInts {k : IntKind} : ∀ xs : List Int, RW (tInt k) f (xs.map fun x => [.int k x]) xs
  | [] => trivial
  | _ :: xs => ⟨rfl, RW.ofInts xs⟩
theorem zld {t u e : TypeId} {x : Operand} {s : ByteArray} {xs : List Int} {dd : Nat} (hm : runesM s = some xs) (hs : St n w0 f L E a w) (hx : opv E x = some (.string s)) (ht : P.underlying t = some .string) (hu : P.underlying u = some (.slice e)) (he : P.underlying e = some (.int .i32))
    (h : ∀ v rows a w, RW (tInt .i32) f rows xs → St n w0 f (.row v e 1 rows :: L) ((dd, v) :: E) a w → RL P ops rest K a w) (hd : dd < n := by decide) :
    RL P ops (⟨some dd, .convert t u x, ty, pos, af, none⟩ :: rest) K a w := by
  obtain ⟨h1, rfl⟩ := runesM_some hm
  exact RL_s2r hs hx ht hu he h1 (fun v a w hs => h v _ a w (RW.ofInts _) hs) hd
theorem y_min2 {t1 t2 : TypeId} {x y : Operand} {k : IntKind} {i j : Int} (hx : opv E x = some (.int k i)) (hy : opv E y = some (.int k j)) :
    Y P C n E ⟨d, .call { callee := .builtin .min, args := #[x, y], argTypes := #[t1, t2] }, ty, pos, af, g⟩ (.int k (bif decide (j < i) then j else i)) :=
  .of fun a ha w _ => by
    by_cases h : j < i <;> simp [execOp, resolve, invoke, builtin, ha.eval hx, ha.eval hy, Builtin.min_, Builtin.min2, h]
theorem RL_appStrW {x y : Operand} {t u e : TypeId} {v : Value} {by_ : Nat} {z : Value} {rows : List (List Value)} {s : ByteArray} {xs zs : List Int} (i : Nat) (hm : appM by_ xs (bytesIn s) = some zs) (hW : RW (tInt .u8) f rows xs) (hs : St n w0 f L E a w) {dd : Nat}
    (hi : L[i]? = some (.row v e 1 rows)) (hx : opv E x = some v) (hy : opv E y = some (.string s)) (ht : P.underlying t = some (.slice e)) (hu : P.underlying u = some .string) (hT : TI P e 1 by_ z) (hzs : z.cells.size = 1)
    (h : ∀ v' rows' a w, RW (tInt .u8) f rows' zs → St n w0 f (L.set i (.row v' e 1 rows')) ((dd, v') :: E) a w → RL P ops rest K a w) (hd : dd < n := by decide) :
    RL P ops (⟨some dd, .call { callee := .builtin .append, args := #[x, y], argTypes := #[t, u] }, ty, pos, af, none⟩ :: rest) K a w := by
  obtain ⟨h1, h2⟩ := zcj hm
  rw [zj0] at h1
  refine RL_appStr i hs hi hx hy ht hu hT hzs (by rw [hW.len]; exact h1) (fun v' a w hs' => h v' _ a w ?_ hs') hd
  rw [← h2]
  exact hW.append (RW.ofInts _)
end
section
variable {P : Program} {f f' f0 : Fz} {L L' Lc : List Ent} {w0 w w' : World} {n m i : Nat} {E E' : List (Nat × Value)} {a : Act}
variable {ops : Array Oper} {K : AP} {ty : TypeId} {pos : String} {af : Array Edge} {brk : List Nat} {p : PT} {v : Value} {dd : Nat} {j gd : Nat} {b : Bool}
end
end Go.Sl
namespace Go.Sl
open Go.RowKit
section
variable {P : Program} {f f' f0 : Fz} {L L' Lc : List Ent} {w0 w w' : World} {n m i : Nat} {E E' : List (Nat × Value)} {a : Act}
variable {d : Option Tmp} {ty : TypeId} {pos : String} {af : Array Edge} {g : Option (Nat × Bool)} {r v : Value}
theorem lent0 {e : TypeId} {k : Nat} {rows : List (List Value)} {fn : FuncId} {args : List Value} (hC : Cw w0 f (.row v e k rows :: L) w)
    (h : ∀ f' w, Fz.le f f' → Rd f' [] v k rows → Cw w0 f' L w → Calls P fn args.toArray w fun e w' => e = .returned r ∧ Cw w0 f' L w') :
    Calls P fn args.toArray w fun e' w' => e' = .returned r ∧ Cw w0 f (.row v e k rows :: L) w' := by
  obtain ⟨f', h1, h2, h3, h4⟩ := Rd.frozenAt (i := 0) hC rfl
  exact (h f' w h1 h4 h2).mono fun _ _ ⟨e1, e2⟩ => ⟨e1, hC.thaw (i := 0) rfl h1 h3 e2⟩
theorem callsP {Lr Lf : List Ent} {fn : FuncId} {args : List Value} (hp : L.Perm (Lr ++ Lf)) (hC : Cw w0 f L w)
    (h : ∀ Lz w, Cw w0 f (Lr ++ Lz) w → Calls P fn args.toArray w fun e w' => e = .returned r ∧ Cw w0 f (Lr ++ Lz) w') : Calls P fn args.toArray w fun e w' => e = .returned r ∧ Cw w0 f L w' :=
  (h Lf w (hC.perm hp)).mono fun _ _ ⟨h1, h2⟩ => ⟨h1, h2.perm hp.symm⟩
theorem zeh {gn : FuncId} {x : Operand} {cap : List Value} {as : List Operand} {vs : List Value} {ats : Array TypeId} (hx : opv E x = some (.func (.func gn) #[] cap.toArray)) (hg : Has P gn) (hv : as.mapM (opv E) = some vs)
    (hp : ∀ w, Cw w0 f L w → Calls P gn (vs ++ cap).toArray w fun e w' => e = .returned v ∧ Cw w0 f L w') :
    Y P (Cw w0 f L) n E ⟨d, .call { callee := .value x, args := as.toArray, argTypes := ats }, ty, pos, af, g⟩ v := by
  intro a ha w hw
  unfold Oper.quietAt
  rw [zjh ha hx hg hv]
  refine ⟨rfl, ?_⟩
  have := hp w hw
  rw [List.append_toArray] at *
  simpa using this
end
def spine : Code → Nat → Option Code
  | .seq (.label l') b, l => if l' == l then some b else spine b l
  | .seq _ b, l => spine b l
  | _, _ => none
def noLab : Code → Bool
  | .label _ => false
  | .seq a b => noLab a && noLab b
  | _ => true
def rightOnly : Code → Bool
  | .seq (.label _) b => rightOnly b
  | .seq a b => noLab a && rightOnly b
  | .label _ => false
  | _ => true
theorem zo1 : ∀ (c : Code) (l : Nat), noLab c = true → findLabel c l = none
  | .seq a b, l, h => by
    simp only [noLab, Bool.and_eq_true] at h
    simp [findLabel, zo1 a l h.1, zo1 b l h.2]
  | .label _, _, h => by simp [noLab] at h
  | .region .., _, _ | .cond .., _, _ | .block .., _, _ | .loop .., _, _ | .exit .., _, _ | .goto .., _, _ | .skip, _, _ | .ret, _, _ | .scope .., _, _ | .rangeFunc .., _, _ | .refuse .., _, _ => rfl
theorem zi5 : ∀ (c : Code) (l : Nat), rightOnly c = true → findLabel c l = (spine c l).map (Code.seq .skip)
  | .seq (.label l') b, l, h => by
    simp only [rightOnly] at h
    simp only [findLabel, spine]
    by_cases e : (l' == l) = true
    · simp [e]
    · simp [e, zi5 b l h]
  | .seq (.seq x y) b, l, h => by
    simp only [rightOnly, Bool.and_eq_true] at h
    rw [findLabel, zo1 _ l h.1]
    exact zi5 b l h.2
  | .seq (.region ..) b, l, h | .seq (.cond ..) b, l, h | .seq (.block ..) b, l, h | .seq (.loop ..) b, l, h | .seq (.exit ..) b, l, h | .seq (.goto ..) b, l, h | .seq .skip b, l, h | .seq .ret b, l, h | .seq (.scope ..) b, l, h | .seq (.rangeFunc ..) b, l, h | .seq (.refuse ..) b, l, h => by
    simp only [rightOnly, Bool.and_eq_true] at h
    exact zi5 b l h.2
  | .label _, _, h => by simp [rightOnly] at h
  | .region .., _, _ | .cond .., _, _ | .block .., _, _ | .loop .., _, _ | .exit .., _, _ | .goto .., _, _ | .skip, _, _ | .ret, _, _ | .scope .., _, _ | .rangeFunc .., _, _ | .refuse .., _, _ => rfl
section
variable {P : Program} {Qn : AP} {Qe : Nat → AP} {Qr : AP} {Qg : Nat → AP} {a : Act} {w : World} {c : Code}
/-- What goes on at a goto. -/
structure Gone (c : Code) (Qg : Nat → AP) (J : Nat → AP) (G : Nat → AP) : Prop where
  at_ : ∀ l a w, (spine c l).isSome = true → J l a w → G l a w
  out : ∀ l a w, spine c l = none → Qg l a w → G l a w
def Behind (P : Program) (c : Code) (Qn : AP) (Qe : Nat → AP) (Qr : AP) (Qg : Nat → AP) (J : Nat → Nat → AP) (k : Nat) : Prop :=
  ∀ l a w R, spine c l = some R → J l k a w → ∀ G : Nat → AP, Gone c Qg (fun l a w => ∃ k', k' < k ∧ J l k' a w) G → W P R Qn Qe Qr G a w
theorem W_scopeS (J : Nat → Nat → AP) (hr : rightOnly c = true)
    (pass : ∀ k, (∀ k', k' < k → Behind P c Qn Qe Qr Qg J k') → Behind P c Qn Qe Qr Qg J k)
    (first : (∀ k, Behind P c Qn Qe Qr Qg J k) → ∀ G : Nat → AP, Gone c Qg (fun l a w => ∃ k, J l k a w) G → W P c Qn Qe Qr G a w) : W P (.scope c) Qn Qe Qr Qg a w := by
  have hall : ∀ k, Behind P c Qn Qe Qr Qg J k := fun k => by
    induction k using Nat.strongRecOn with
    | ind k ih => exact pass k ih
  have hs : ∀ {l : Nat}, findLabel c l = none → spine c l = none := fun {l} h => by
    rw [zi5 c l hr] at h
    simpa using h
  have hs2 : ∀ {l : Nat}, (∃ rest, findLabel c l = some rest) ↔ (spine c l).isSome = true := fun {l} => by
    rw [zi5 c l hr]
    cases spine c l <;> simp
  refine W_scope J (fun G h1 h2 => first hall G ⟨fun l a w hl ⟨k, hJ⟩ => h1 l k a w (hs2.2 hl) hJ, fun l a w hl hq => h2 l a w ?_ hq⟩) ?_
  · rw [zi5 c l hr, hl]; rfl
  · intro l k a w rest hl hJ G h1 h2
    rw [zi5 c l hr] at hl
    obtain ⟨R, hR, rfl⟩ := Option.map_eq_some_iff.1 hl
    refine zk1 fun K hK => zah (hK _ _ (hall k l a w R hR hJ G ⟨fun l a w hl ⟨k', h3, h4⟩ => h1 l k' a w (hs2.2 hl) h3 h4, fun l a w hl hq => h2 l a w ?_ hq⟩))
    rw [zi5 c l hr, hl]; rfl
theorem Behind.into {J : Nat → Nat → AP} {J' : Nat → AP} {k l : Nat} {R : Code} {G : Nat → AP} (hB : Behind P c Qn Qe Qr Qg J k) (hR : spine c l = some R) (hJ : J l k a w) (hG : Gone c Qg J' G)
    (hJ' : ∀ l a w k', k' < k → J l k' a w → J' l a w) : W P (.seq (.label l) R) Qn Qe Qr G a w :=
  zk1 fun _ hK => W_label (hK _ _ (hB l a w R hR hJ G ⟨fun l a w hl ⟨k', h3, h4⟩ => hG.at_ l a w hl (hJ' l a w k' h3 h4), hG.out⟩))
end
end Go.Sl
namespace Go.Sl
open Go.RowKit
section
variable {P : Program} {f f' f0 : Fz} {L L' Lc : List Ent} {w0 w w' : World} {n m i : Nat} {E E' : List (Nat × Value)} {a : Act}
variable {ops : Array Oper} {rest : List Oper} {K : AP} {C : World → Prop}
variable {d : Option Tmp} {ty : TypeId} {pos : String} {af : Array Edge} {g : Option (Nat × Bool)} {v : Value} {dd : Nat}
theorem y_callE {gn : FuncId} {x : Operand} {as : List Operand} {vs : List Value} {ats : Array TypeId} (hx : opv E x = some (.func (.func gn) #[] #[])) (hv : as.mapM (opv E) = some vs)
    (hc : ∀ w, (callFunc gn vs.toArray).run P w = .ok (.value v) w) : Y P C n E ⟨d, .call { callee := .value x, args := as.toArray, argTypes := ats }, ty, pos, af, g⟩ v :=
  .of fun a ha w _ => by
    have := evalArgs ha hv
    have e1 : as.toArray.map a.eval = vs.toArray := by simp [this]
    simp [execOp, resolve, ha.eval hx, Deferred.ofValue, invoke, e1, hc]
theorem y_pnn {x y : Operand} {t t' q : TypeId} (hx : opv E x = some (.pointer none)) (hy : opv E y = some (.pointer none)) (ht : P.underlying t = some (.pointer q)) : Y P C n E ⟨d, .binOp .eql t x y t', ty, pos, af, g⟩ (.bool true) :=
  .of fun a ha w _ => by
    have h : (Op.equal t (.pointer none) (.pointer none)).run P w = .ok true w := zhi (fun d => by simp [Op.equalIn, run_underlying ht]) rfl
    simp [execOp, ha.eval hx, ha.eval hy, eqGuard, binOp, h]
theorem y_pselfN {x y : Operand} {t t' q : TypeId} {p : Addr} {k by_ : Nat} {z : Value} (hx : opv E x = some (.pointer (some p))) (hy : opv E y = some (.pointer (some p))) (ht : P.underlying t = some (.pointer q)) (hT : TI P q k by_ z) : Y P C n E ⟨d, .binOp .neq t x y t', ty, pos, af, g⟩ (.bool false) :=
  .of fun a ha w _ => by
    obtain ⟨it, hit, _⟩ := hT
    have h := Lib.run_neq_ptr_same (P := P) w p ht hit
    simp [execOp, ha.eval hx, ha.eval hy, eqGuard, h]
theorem shape_blk {b : Nat} {cs : Array Value} {e : TypeId} (hm : .blk b (.cells cs e (0, 0)) ∈ L) (hC : Cw w0 f L w) : w.shape? b = some (e, cs.size) := by
  have : w.heap[b]? = some (.cells cs e (0, 0)) := hC.live _ hm
  simp [World.shape?, this]
theorem y_toUnsafe {t u q e : TypeId} {x : Operand} {b : Nat} {cs : Array Value} {k by_ : Nat} {z : Value} (hx : opv E x = some (.pointer (some ⟨b, 0, none⟩))) (ht : P.underlying t = some (.pointer q)) (hu : P.underlying u = some .unsafePointer) (hT : TI P q k by_ z) (hk : k ≠ 0)
    (hm : .blk b (.cells cs e (0, 0)) ∈ L) (hs : 0 < cs.size) : Y P (Cw w0 f L) n E ⟨d, .convert t u x, ty, pos, af, g⟩ (.pointer (some ⟨b, 0, none⟩)) :=
  .of fun a ha w hw => by
    obtain ⟨it, hit, _, hk', _⟩ := hT
    have h := Lib.run_to_unsafe (P := P) w ⟨b, 0, none⟩ ht hu hit (by omega) (shape_blk hm hw) hs
    simp only [execOp, ha.eval hx, Sem.run_bind, h, Result.andThen_ok, Sem.run_pure]
theorem y_fromUnsafe {t u q e : TypeId} {x : Operand} {b : Nat} {cs : Array Value} {k by_ : Nat} {z : Value} (hx : opv E x = some (.pointer (some ⟨b, 0, none⟩))) (ht : P.underlying t = some .unsafePointer) (hu : P.underlying u = some (.pointer q)) (hT : TI P q k by_ z)
    (hm : .blk b (.cells cs e (0, 0)) ∈ L) (hl : liesAt P P.depth e (cs.size / P.cellsOf e) 0 q 1 = true) : Y P (Cw w0 f L) n E ⟨d, .convert t u x, ty, pos, af, g⟩ (.pointer (some ⟨b, 0, none⟩)) :=
  .of fun a ha w hw => by
    obtain ⟨it, hit, _⟩ := hT
    have h := Lib.run_from_unsafe (P := P) w ⟨b, 0, none⟩ ht hu hit (shape_blk hm hw) hl
    simp only [execOp, ha.eval hx, Sem.run_bind, h, Result.andThen_ok, Sem.run_pure]
def HeadOf (v : Value) (m : Nat) (p : Option Addr) : Prop := m ≠ 0 → ∃ gb q c, v = .slice (some ⟨gb, 0, none⟩) q c ∧ p = some ⟨gb, 0, none⟩
theorem RL_usd {x : Operand} {t e : TypeId} {rows : List (List Value)} {i : Nat} (hs : St n w0 f L E a w) (hi : L[i]? = some (.row v e 1 rows)) (hx : opv E x = some v) (ht : P.underlying ty = some (.pointer e))
    (h : ∀ p L1 a w, HeadOf v rows.length p → St n w0 f (L1 ++ L) ((dd, .pointer p) :: E) a w → RL P ops rest K a w) (hd : dd < n := by decide) :
    RL P ops (⟨some dd, .call { callee := .builtin .unsafeSliceData, args := #[x], argTypes := #[t] }, ty, pos, af, none⟩ :: rest) K a w := by
  have hm := List.mem_of_getElem? hi
  obtain ⟨hown, _⟩ := hs.cw.live _ hm
  rcases hown.2 with ⟨rfl, h0⟩ | ⟨gb, cap, cur, rfl, hgb, hg, hnc, hcm, hcs, htk⟩
  · refine RL_v hs (.free rfl) (.to rfl hd) (v := .pointer none) (w' := w) (f' := f) (L' := L) ?_ hs.cw (fun a w hs => h none [] a w (fun hne => absurd h0 hne) hs)
    simp only [execOp, resolve, invoke, builtin, Sem.run_bind, Sem.run_pure, Result.andThen_ok, List.map_toArray, List.map_cons, List.map_nil, hs.ev.eval hx, Lib.run_unsafeSliceData_nil]
  · by_cases hc : cap = 0
    · subst hc
      refine RL_v hs (.free rfl) (.to rfl hd) (v := .pointer (some ⟨w.heap.size, 0, none⟩)) (w' := w.alloc (.view ⟨gb, 0, none⟩ e)) (f' := f) (L' := .blk w.heap.size (.view ⟨gb, 0, none⟩ e) :: L) ?_ (hs.cw.alloc _) (fun a w hs => h _ [_] a w (fun hne => by omega) hs)
      simp only [execOp, resolve, invoke, builtin, Sem.run_bind, Sem.run_pure, Result.andThen_ok, List.map_toArray, List.map_cons, List.map_nil, hs.ev.eval hx, Lib.run_unsafeSliceData_zero (P := P) w #[t] ty e ht ⟨gb, 0, none⟩ rows.length (e, cur.size) (by simp [World.shape?, hg])]
    · refine RL_v hs (.free rfl) (.to rfl hd) (v := .pointer (some ⟨gb, 0, none⟩)) (w' := w) (f' := f) (L' := L) ?_ hs.cw (fun a w hs => h _ [] a w (fun _ => ⟨gb, _, _, rfl, rfl⟩) hs)
      simp only [execOp, resolve, invoke, builtin, Sem.run_bind, Sem.run_pure, Result.andThen_ok, List.map_toArray, List.map_cons, List.map_nil, hs.ev.eval hx, Lib.run_unsafeSliceData_row (P := P) w #[t] ty ⟨gb, 0, none⟩ rows.length cap hc]
theorem zmo : ∀ (l : List Int) (a : Addr) (acc : ByteArray), (∀ (j : Nat) x, l[j]? = some x → w.cell? (a.add j) = some (.int .u8 x)) →
    (Go.loadBytes a acc l.length).run P w = .ok ⟨acc.data ++ (l.map fun n => UInt8.ofNat n.toNat).toArray⟩ w
  | [], a, acc, _ => by simp [Go.loadBytes]
  | x :: l, a, acc, h => by
    have h0 : w.cell? a = some (.int .u8 x) := by
      have := h 0 x rfl
      simpa [Addr.add] using this
    have ih := zmo l (a.add 1) (acc.push (UInt8.ofNat x.toNat)) (fun j y hy => by
      have := h (j + 1) y (by simpa using hy)
      have e : (a.add 1).add j = a.add (j + 1) := by
        unfold Addr.add
        by_cases hj : j = 0
        · subst hj; simp
        · simp [hj]; omega
      rw [e]; exact this)
    simp only [List.length_cons, Go.loadBytes, Sem.run_bind, run_load, h0, Result.andThen]
    rw [show x.toNat.toUInt8 = UInt8.ofNat x.toNat from rfl, ih]
    congr 1
    apply ByteArray.ext
    simp [ByteArray.push]
theorem znv (pt it ty e : TypeId) (hp : P.underlying pt = some (.pointer e)) (hc : P.cellsOf e = 1) (gb cells : Nat) (hsh : w.shape? gb = some (e, cells)) (l : List Int) (h0 : l ≠ []) (hn : l.length ≤ cells) (h63 : l.length ≤ 9223372036854775807)
    (hcell : ∀ (j : Nat) x, l[j]? = some x → w.cell? ((⟨gb, 0, none⟩ : Addr).add j) = some (.int .u8 x)) :
    (Builtin.unsafeString_ #[pt, it] ty #[.pointer (some ⟨gb, 0, none⟩), .int .i64 l.length]).run P w = .ok (.string (bytesOf l)) (w.freeze ⟨gb, 0, none⟩ l.length) := by
  have hl : l.length ≠ 0 := by simpa using h0
  have hlb := zmo (P := P) (w := w) l ⟨gb, 0, none⟩ .empty hcell
  have hlies := Lib.liesAt_bytes (P := P) hc (cells / P.cellsOf e) l.length (by rw [hc]; simpa using hn)
  have h63' : ¬ (9223372036854775807 : Int) < (l.length : Int) := by omega
  have hdef : Builtin.unsafeString_ #[pt, it] ty #[.pointer (some ⟨gb, 0, none⟩), .int .i64 l.length] =
      (do
        let n ← asInt (.int .i64 l.length)
        if n < 0 then runtimePanic (.error "unsafe.String: len out of range")
        if n > IntKind.i64.max then unsupported (.unsafePointer "String: a length above the largest int")
        if n = 0 then pure (.string .empty)
        else if ← variablesAt ⟨gb, 0, none⟩ (← elemOf pt) n.toNat then do
          let s ← loadBytes ⟨gb, 0, none⟩ .empty n.toNat
          freeze ⟨gb, 0, none⟩ n.toNat
          pure (.string s)
        else unsupported (.unsafePointer "String: not so many bytes at ptr")) := rfl
  rw [hdef]
  have hmax : IntKind.i64.max = 9223372036854775807 := rfl
  have hneg : ¬ (l.length : Int) < 0 := by omega
  simp [asInt, asIntOf, hmax, h63', hneg, hl, variablesAt, hsh, elemOf, run_underlying hp, hlies, hlb, bytesOf]
theorem RL_ust {x y : Operand} {pt it e : TypeId} {rows : List (List Value)} {xs : List Int} {p : Option Addr} {i : Nat} (hs : St n w0 f L E a w) (hi : L[i]? = some (.row v e 1 rows)) (hW : RW (tInt .u8) f' rows xs) (hx : opv E x = some (.pointer p)) (hy : opv E y = some (.int .i64 (xs.length : Int)))
    (hp : HeadOf v rows.length p) (ht : P.underlying pt = some (.pointer e)) (hc : P.cellsOf e = 1)
    (h : ∀ a w, St n w0 f (L.eraseIdx i) ((dd, .string (bytesOf xs)) :: E) a w → RL P ops rest K a w) (hd : dd < n := by decide) :
    RL P ops (⟨some dd, .call { callee := .builtin .unsafeString, args := #[x, y], argTypes := #[pt, it] }, ty, pos, af, none⟩ :: rest) K a w := by
  have hm := List.mem_of_getElem? hi
  obtain ⟨hown, hone⟩ := hs.cw.live _ hm
  by_cases h0 : xs = []
  · subst h0
    refine RL_v hs (.free rfl) (.to rfl hd) (v := .string (bytesOf [])) (w' := w) (f' := f) (L' := L.eraseIdx i) ?_ (hs.cw.sub (List.eraseIdx_sublist ..)) h
    have := Lib.run_unsafeString_none (P := P) w pt it ty p
    simp only [execOp, resolve, invoke, builtin, Sem.run_bind, Sem.run_pure, Result.andThen_ok, List.map_toArray, List.map_cons, List.map_nil, hs.ev.eval hx, hs.ev.eval hy, List.length_nil, Int.natCast_zero, this]
    rfl
  · have hl := hW.len
    have hne : rows.length ≠ 0 := by rw [hl]; simpa using h0
    obtain ⟨gb', q, c, hv, hpe⟩ := hp hne
    rcases hown.2 with ⟨hv2, hz⟩ | ⟨gb, cap, cur, hv2, hgb, hg, hnc, hcm, hcs, htk⟩
    · exact absurd hz hne
    · have : gb' = gb := by rw [hv] at hv2; injection hv2 with e1 _ _; injection e1 with e2; injection e2
      subst this
      have hcell : ∀ (j : Nat) z, xs[j]? = some z → w.cell? ((⟨gb', 0, none⟩ : Addr).add j) = some (.int .u8 z) := fun j z hj => by
        have h1 := hW.ints
        have hfl : rows.flatten = xs.map (Value.int .u8) := by rw [h1]; exact zhv _ xs
        exact hown.cells (g := gb') (by rw [hv2]; rfl) j _ (by rw [hfl]; simp [hj])
      have hrun := znv (P := P) (w := w) pt it ty e ht hc gb' cur.size (by simp [World.shape?, hg]) xs h0 (by omega) (by unfold maxLen at hcm; omega) hcell
      have hxl : xs.length ≠ 0 := by simpa using h0
      have hlt : gb' < w.heap.size := (Array.getElem?_eq_some_iff.1 hg).1
      have hC : Cw w0 f (L.set i (.blk gb' (.cells cur e (0, xs.length)))) (w.freeze ⟨gb', 0, none⟩ xs.length) := by
        refine hs.cw.repl hi ⟨?_, ?_, ?_, ?_, fun k hk hkr => ?_⟩ ?_ (fun b hb => .inl ?_)
        · simp [World.freeze, hxl]
        · simp [World.freeze, hxl]
        · simp [World.freeze, hxl]
        · simp [World.freeze, hxl]
        · have : k ≠ gb' := fun e' => hkr (by rw [e']; simp [Ent.key, hv, Value.ownBlock])
          simp only [World.freeze, hxl, if_false]
          rw [Array.getElem?_modify]
          simp [Ne.symm this]
        · show (w.freeze ⟨gb', 0, none⟩ xs.length).heap[gb']? = _
          simp only [World.freeze, hxl, if_false]
          rw [Array.getElem?_modify]
          simp [hg]
        · simp [Ent.key] at hb; subst hb; simp [Ent.key, hv, Value.ownBlock]
      have hC2 : Cw w0 f (L.eraseIdx i) (w.freeze ⟨gb', 0, none⟩ xs.length) := by
        have e1 : (L.set i (.blk gb' (.cells cur e (0, xs.length)))).eraseIdx i = L.eraseIdx i := by
          apply List.ext_getElem?
          intro j
          rw [List.getElem?_eraseIdx, List.getElem?_eraseIdx]
          split
          · rw [List.getElem?_set_ne (by omega)]
          · rw [List.getElem?_set_ne (by omega)]
        rw [← e1]
        exact hC.sub (List.eraseIdx_sublist ..)
      refine RL_v hs (.free rfl) (.to rfl hd) (v := .string (bytesOf xs)) (w' := w.freeze ⟨gb', 0, none⟩ xs.length) (f' := f) (L' := L.eraseIdx i) ?_ hC2 h
      rw [hpe] at hx
      simp only [execOp, resolve, invoke, builtin, Sem.run_bind, Sem.run_pure, Result.andThen_ok, List.map_toArray, List.map_cons, List.map_nil, hs.ev.eval hx, hs.ev.eval hy, hrun]
end
def baddr (b : Nat) (u : Bool) : Value := bif u then .pointer (some ⟨b, 0, none⟩) else .pointer none
structure Builder where
  addr : Bool
  buf : List Int
end Go.Sl
namespace Go.Sl
open Go.RowKit
section
variable {P : Program} {f : Fz} {L : List Ent} {w0 w : World} {n : Nat} {E : List (Nat × Value)} {a : Act}
variable {ops : Array Oper} {rest : List Oper} {K : AP} {d : Option Tmp} {ty : TypeId} {pos : String} {af : Array Edge}
theorem RL_guard {j gd : Nat} {b : Bool} {op : Op} (hs : St n w0 f L E a w) (hg : (ops[j]?).bind (·.dst) = some gd) (hl : look E gd = some (.bool b))
    (h : RL P ops (⟨d, op, ty, pos, af, none⟩ :: rest) K a w) : RL P ops (⟨d, op, ty, pos, af, some (j, b)⟩ :: rest) K a w := by
  have h' := h.d
  refine ⟨?_⟩
  unfold RLd at h' ⊢
  have w1 : Region.wanted (⟨d, op, ty, pos, af, some (j, b)⟩ : Oper) (yielded ops a.tmps) = true := Want.wanted hs.ev (.yes rfl hg hl)
  have w2 : Region.wanted (⟨d, op, ty, pos, af, none⟩ : Oper) (yielded ops a.tmps) = true := Want.wanted hs.ev (.free rfl)
  rw [if_pos w2] at h'
  rw [if_pos w1]
  exact h'
end
end Go.Sl
namespace Go.Sl
open Go.RowKit
def SMapK {κ : Type} (ke : κ → Value) (l : List MapEntry) (m : List (κ × Value)) : Prop := l.map (fun e => (e.key, e.val)) = m.map fun p => (ke p.1, p.2)
section
variable {κ : Type} [DecidableEq κ]
def kfind (k : κ) : List (κ × Value) → Nat → Option (Nat × Value)
  | [], _ => none
  | p :: m, i => if p.1 = k then some (i, p.2) else kfind k m (i + 1)
/-- Keys of a type that may be asked for. -/
structure KeyOK (P : Program) (kt : TypeId) (ke : κ → Value) : Prop where
  chk : ∀ (em : Bool) (k : κ) (w : World), (Instr.checkKey em 10000 kt (ke k)).run P w = .ok () w
  find : ∀ (k : κ) (l : List MapEntry) (m : List (κ × Value)) (w : World), SMapK ke l m → (Instr.findKey kt (ke k) l).run P w = .ok (kfind k m 0) w
  bits : ∀ k : κ, Instr.sameBits 10000 (ke k) (ke k) = true
variable {P : Program}
end
section
variable {P : Program} {ops : Array Oper} {rest : List Oper} {n : Nat} {w0 w : World} {f f' : Fz} {L L' : List Ent} {E E' : List (Nat × Value)} {a : Act} {K : AP} {v : Value}
variable {ty : TypeId} {pos : String} {af : Array Edge} {d : Option Tmp} {g : Option (Nat × Bool)} {C : World → Prop} {κ α : Type} [DecidableEq κ]
end
end Go.Sl
namespace Go.Sl
open Go.RowKit
section
variable {P : Program} {n : Nat} {E : List (Nat × Value)} {C : World → Prop}
variable {d : Option Tmp} {ty : TypeId} {pos : String} {af : Array Edge} {g : Option (Nat × Bool)}
variable {dp : Nat} {xs ys : Array Value} {fd : Field} {fs : List Field} {c c0 : Bool} {t e : TypeId} {a b : Value}
end
end Go.Sl
namespace Go.Sl
open Go.RowKit
section
variable {P : Program} {n : Nat} {E : List (Nat × Value)} {C : World → Prop}
variable {d : Option Tmp} {ty : TypeId} {pos : String} {af : Array Edge} {g : Option (Nat × Bool)}
end
end Go.Sl
namespace Go.Sl
open Go.RowKit
def RP (bs : List Nat) (v : Value) (i : Int) : Prop := (i = -1 ∧ v = .pointer none) ∨ ∃ b, v = .pointer (some ⟨b, 0, none⟩) ∧ 0 ≤ i ∧ bs[i.toNat]? = some b
theorem RP.nil {bs : List Nat} : RP bs (.pointer none) (-1) := .inl ⟨rfl, rfl⟩
theorem prefix_get {α : Type} {l l' : List α} (h : l <+: l') {i : Nat} {x : α} (hx : l[i]? = some x) : l'[i]? = some x := by
  obtain ⟨r, rfl⟩ := h
  rw [List.getElem?_append_left (List.getElem?_eq_some_iff.1 hx).1]; exact hx
theorem RP.grow {bs bs' : List Nat} {v : Value} {i : Int} (h : RP bs v i) (hb : bs <+: bs') : RP bs' v i := by
  rcases h with h | ⟨b, h1, h2, h3⟩
  · exact .inl h
  · exact .inr ⟨b, h1, h2, prefix_get hb h3⟩
theorem RP.one {bs : List Nat} {v : Value} {i : Int} (h : RP bs v i) : v.oneCell' = true := by
  rcases h with ⟨_, rfl⟩ | ⟨b, rfl, _⟩ <;> rfl
def tP (bs : List Nat) : Ty Int := ⟨1, fun _ r x => ∃ v, r = [v] ∧ RP bs v x, fun h _ => h, fun ⟨v, e, h⟩ => by subst e; exact ⟨rfl, by simp [h.one]⟩⟩
theorem RW.grow {bs bs' : List Nat} {f : Fz} (hb : bs <+: bs') : ∀ {rows : List (List Value)} {xs : List Int}, RW (tP bs) f rows xs → RW (tP bs') f rows xs
  | [], [], _ => trivial
  | _ :: _, _ :: _, ⟨⟨v, h1, h2⟩, h3⟩ => ⟨⟨v, h1, h2.grow hb⟩, RW.grow hb h3⟩
  | [], _ :: _, h => h.elim
  | _ :: _, [], h => h.elim
theorem RW.anyP {bs : List Nat} {f f' : Fz} : ∀ {rows : List (List Value)} {xs : List Int}, RW (tP bs) f rows xs → RW (tP bs) f' rows xs
  | [], [], _ => trivial
  | _ :: _, _ :: _, ⟨h, h3⟩ => ⟨h, RW.anyP h3⟩
  | [], _ :: _, h => h.elim
  | _ :: _, [], h => h.elim
/-- How a node lies: its entries. -/
structure NSh (α : Type) where
  R : Fz → List Nat → Nat → α → List Ent → Prop
  mono : ∀ {f f' : Fz} {bs bs' : List Nat} {b : Nat} {x : α} {l : List Ent}, R f bs b x l → Fz.le f f' → bs <+: bs' → R f' bs' b x l
  key : ∀ {f : Fz} {bs : List Nat} {b : Nat} {x : α} {l : List Ent}, R f bs b x l → ∃ cs e l', l = .blk b (.cells cs e (0, 0)) :: l'
section
variable {α : Type} {S : NSh α} {f f' : Fz} {bs bs' : List Nat} {A : List α} {H : List Nat} {L0 L L' X : List Ent} {v : Value} {i : Int} {j : Nat} {x : α} {b : Nat} {l : List Ent}
theorem perm3 {α : Type} (X G R : List α) : (X ++ (G ++ R)).Perm (G ++ (X ++ R)) := by
  rw [← List.append_assoc, ← List.append_assoc]
  exact List.perm_append_comm.append_right _
def rest (n : Nat) (H : List Nat) : List Nat := (List.range n).filter fun i => !H.contains i
def AR (S : NSh α) (f : Fz) (bs : List Nat) (A : List α) (H : List Nat) (L0 L : List Ent) : Prop :=
  bs.length = A.length ∧ bs.Nodup ∧ ∃ G : Nat → List Ent, (∀ i x b, i ∉ H → A[i]? = some x → bs[i]? = some b → S.R f bs b x (G i)) ∧ L.Perm ((rest A.length H).flatMap G ++ L0)
theorem AR.nil {L : List Ent} : AR S f [] [] [] L L := ⟨rfl, List.nodup_nil, fun _ => [], fun _ _ _ _ h => by simp at h, .refl _⟩
theorem AR.le (h : AR S f bs A H L0 L) (hf : Fz.le f f') : AR S f' bs A H L0 L := by
  obtain ⟨h1, h2, G, h3, h4⟩ := h
  exact ⟨h1, h2, G, fun i x b g1 g2 g3 => S.mono (h3 i x b g1 g2 g3) hf (List.prefix_refl _), h4⟩
theorem AR.nodup (h : AR S f bs A H L0 L) : bs.Nodup := h.2.1
theorem zqm {n j : Nat} {H : List Nat} (hj : j < n) (hh : j ∉ H) : (rest n H).Perm (j :: rest n (j :: H)) := by
  have hm : j ∈ rest n H := by simp [rest, hj, hh]
  have hn : (rest n H).Nodup := List.nodup_range.filter _
  refine (List.perm_cons_erase hm).trans (.cons _ ?_)
  rw [hn.erase_eq_filter]
  unfold rest
  rw [List.filter_filter]
  refine List.Perm.of_eq (List.filter_congr fun i _ => ?_)
  by_cases hi : i = j
  · subst hi; simp
  · simp [hi]
def focM {α : Type} (A : List α) (H : List Nat) (i : Int) : Option α := bif H.contains i.toNat then none else geti A i
theorem zfv {A : List α} {H : List Nat} {i : Int} {x : α} (h : focM A H i = some x) : i.toNat ∉ H ∧ geti A i = some x := by
  unfold focM at h
  cases hc : H.contains i.toNat with
  | true => rw [hc] at h; cases h
  | false => rw [hc] at h; exact ⟨by simpa using hc, h⟩
theorem RP.at (hp : RP bs v i) (h : geti A i = some x) (_ : bs.length = A.length) : ∃ b, v = .pointer (some ⟨b, 0, none⟩) ∧ bs[i.toNat]? = some b ∧ A[i.toNat]? = some x := by
  obtain ⟨h1, h2⟩ := zlw h
  rcases hp with ⟨rfl, _⟩ | ⟨b, g1, g2, g3⟩
  · simp at h1
  · exact ⟨b, g1, g3, h2⟩
end
section
variable {α : Type} {S : NSh α} {P : Program} {f f' : Fz} {bs bs' : List Nat} {A A' : List α} {H : List Nat} {L0 L L' X : List Ent} {v : Value} {i : Int} {j : Nat} {x : α} {b : Nat} {l : List Ent}
variable {w0 w w' : World} {n m : Nat} {E E' : List (Nat × Value)} {a : Act}
variable {ops : Array Oper} {rst : List Oper} {o : Oper} {K : AP} {C : World → Prop} {op : Op}
variable {d : Option Tmp} {ty : TypeId} {pos : String} {af : Array Edge} {g : Option (Nat × Bool)}
theorem St.perm (hs : St n w0 f L E a w) (hp : L.Perm L') : St n w0 f L' E a w := ⟨hs.ev, hs.cw.perm hp⟩
theorem AR.focus (X : List Ent) (h : AR S f bs A H L0 L) (hs : St n w0 f (X ++ L) E a w) (hx : focM A H i = some x) (hp : RP bs v i) :
    ∃ b l L1, v = .pointer (some ⟨b, 0, none⟩) ∧ RP bs (.pointer (some ⟨b, 0, none⟩)) i ∧ S.R f bs b x l ∧ AR S f bs A (i.toNat :: H) L0 L1 ∧ St n w0 f (l ++ (X ++ L1)) E a w := by
  obtain ⟨h1, h2, G, h3, h4⟩ := h
  obtain ⟨hh, hg⟩ := zfv hx
  obtain ⟨b, rfl, hb, hA⟩ := hp.at hg h1
  have hlt : i.toNat < A.length := (List.getElem?_eq_some_iff.1 hA).1
  refine ⟨b, G i.toNat, (rest A.length (i.toNat :: H)).flatMap G ++ L0, rfl, hp, h3 _ _ _ hh hA hb, ⟨h1, h2, G, fun k y c g1 g2 g3 => h3 k y c (fun q => g1 (List.mem_cons_of_mem _ q)) g2 g3, .refl _⟩, hs.perm ?_⟩
  have p1 : L.Perm (G i.toNat ++ ((rest A.length (i.toNat :: H)).flatMap G ++ L0)) := by
    refine h4.trans ?_
    rw [← List.append_assoc]
    refine List.Perm.append_right _ ?_
    exact (List.Perm.flatMap_right G (zqm hlt hh)).trans (.of_eq (by simp))
  exact (p1.append_left X).trans (perm3 _ _ _)
theorem key_sep {X : List Ent} {o : Obj} (h : Cw w0 f (X ++ .blk b o :: L) w) (e : Ent) (he : e ∈ X ++ L) (hk : e.key = some b) : False := by
  have hp : (X ++ .blk b o :: L).Perm (.blk b o :: (X ++ L)) := List.perm_middle
  have hc := h.perm hp
  obtain ⟨k, hk'⟩ := List.getElem?_of_mem he
  exact hc.sep 0 (k + 1) _ _ rfl (by simpa using hk') (by omega) b rfl hk
theorem AR.unfocus (X : List Ent) (h : AR S f bs A (j :: H) L0 L) (hs : St n w0 f (l ++ (X ++ L)) E a w) (hh : j ∉ H) (hb : RP bs (.pointer (some ⟨b, 0, none⟩)) (j : Int)) (hR : S.R f bs b x l) :
    ∃ L1, AR S f bs (A.set j x) H L0 L1 ∧ St n w0 f (X ++ L1) E a w := by
  obtain ⟨h1, h2, G, h3, h4⟩ := h
  have hj : bs[j]? = some b := by
    rcases hb with ⟨q, _⟩ | ⟨c, q, _, r⟩
    · omega
    · cases q; simpa using r
  have hlt : j < A.length := by rw [← h1]; exact (List.getElem?_eq_some_iff.1 hj).1
  refine ⟨l ++ L, ⟨by simpa using h1, h2, fun k => if k = j then l else G k, fun k y c g1 g2 g3 => ?_, ?_⟩, hs.perm ?_⟩
  · by_cases hk : k = j
    · subst hk
      rw [List.getElem?_set_self hlt] at g2
      cases g2
      rw [hj] at g3
      cases g3
      simpa using hR
    · rw [List.getElem?_set_ne (by omega)] at g2
      simp only [hk, if_false]
      exact h3 k y c (by simp [hk, g1]) g2 g3
  · have e1 : (rest A.length (j :: H)).flatMap (fun k => if k = j then l else G k) = (rest A.length (j :: H)).flatMap G := by
      unfold List.flatMap
      congr 1
      refine List.map_congr_left fun k hk => ?_
      have : k ≠ j := by
        intro q; subst q
        simp [rest] at hk
      simp [this]
    refine ((h4.append_left l).trans ?_).trans ((List.Perm.flatMap_right _ (zqm (by simpa using hlt) hh)).symm.append_right L0)
    rw [List.length_set, List.flatMap_cons, e1]
    simp
  · exact perm3 _ _ _
theorem AR.adopt (X : List Ent) (h : AR S f bs A [] L0 L) (hs : St n w0 f (l ++ (X ++ L)) E a w) (hR : S.R f (bs ++ [b]) b x l) :
    ∃ bs' L1, bs <+: bs' ∧ AR S f bs' (A ++ [x]) [] L0 L1 ∧ RP bs' (.pointer (some ⟨b, 0, none⟩)) (A.length : Int) ∧ St n w0 f (X ++ L1) E a w := by
  obtain ⟨h1, h2, G, h3, h4⟩ := h
  obtain ⟨ocs, oe, l', rfl⟩ := S.key hR
  have hpre : bs <+: bs ++ [b] := List.prefix_append _ _
  have hnin : b ∉ bs := by
    intro hb
    obtain ⟨k, hk⟩ := List.getElem?_of_mem hb
    have hlt : k < A.length := by rw [← h1]; exact (List.getElem?_eq_some_iff.1 hk).1
    have hRk := h3 k A[k] b (by simp) (List.getElem?_eq_getElem hlt) hk
    obtain ⟨cs2, oe2, l2, e2⟩ := S.key hRk
    have hmem : Ent.blk b (.cells cs2 oe2 (0, 0)) ∈ L := by
      rw [h4.mem_iff]
      refine List.mem_append_left _ (List.mem_flatMap.2 ⟨k, by simp [rest, hlt], ?_⟩)
      rw [e2]; simp
    exact key_sep (X := []) (by simpa using hs.cw) (.blk b (.cells cs2 oe2 (0, 0))) (by simp [hmem]) rfl
  refine ⟨bs ++ [b], (.blk b (.cells ocs oe (0, 0)) :: l') ++ L, hpre, ⟨by simp [h1], ?_, fun k => if k = A.length then .blk b (.cells ocs oe (0, 0)) :: l' else G k, fun k y c _ g2 g3 => ?_, ?_⟩, .inr ⟨b, rfl, by omega, by simp [← h1]⟩, hs.perm ?_⟩
  · rw [List.nodup_append]
    refine ⟨h2, by simp, ?_⟩
    intro p hp q hq
    simp at hq; subst hq
    intro e; subst e; exact hnin hp
  · by_cases hk : k = A.length
    · subst hk
      rw [List.getElem?_append_right (Nat.le_refl _)] at g2
      rw [List.getElem?_append_right (by omega)] at g3
      simp [h1] at g2 g3
      subst g2; subst g3
      simpa using hR
    · have hlt : k < A.length := by
        have := (List.getElem?_eq_some_iff.1 g2).1
        simp at this; omega
      rw [List.getElem?_append_left hlt] at g2
      rw [List.getElem?_append_left (by omega)] at g3
      simp only [hk, if_false]
      exact S.mono (h3 k y c (by simp) g2 g3) (Fz.le.refl _) hpre
  · have e0 : rest (A ++ [x]).length [] = rest A.length [] ++ [A.length] := by
      simp [rest, List.range_succ]
    have e1 : (rest A.length []).flatMap (fun k => if k = A.length then .blk b (.cells ocs oe (0, 0)) :: l' else G k) = (rest A.length []).flatMap G := by
      unfold List.flatMap
      congr 1
      refine List.map_congr_left fun k hk => ?_
      have : k ≠ A.length := by
        intro q; subst q
        simp [rest] at hk
      simp [this]
    rw [e0, List.flatMap_append, e1]
    refine (h4.append_left _).trans ?_
    rw [← List.append_assoc]
    refine List.Perm.append_right _ ?_
    refine List.perm_append_comm.trans (.of_eq ?_)
    simp
  · exact perm3 _ _ _
theorem AR.drop (X : List Ent) (h : AR S f bs A H L0 L) (hs : St n w0 f (X ++ L) E a w) : St n w0 f (X ++ L0) E a w := by
  obtain ⟨h1, h2, G, h3, h4⟩ := h
  exact (hs.perm (h4.append_left X)).subL ((List.Sublist.refl _).append (List.sublist_append_right _ _))
def DoesA (S : NSh α) (P : Program) (fn : FuncId) (args : List Value) (f : Fz) (Lr : List Ent) (bs : List Nat) (A A' : List α) (R : Value → Fz → List Nat → List Ent → Prop) : Prop :=
  ∀ w0 L0 L w, AR S f bs A [] L0 L → Cw w0 f (Lr ++ L) w → Calls P fn args.toArray w fun e w' =>
    ∃ v f' bs' L' LA, e = .returned v ∧ Fz.le f f' ∧ bs <+: bs' ∧ AR S f' bs' A' [] L0 LA ∧ Cw w0 f' (L' ++ LA) w' ∧ R v f' bs' L'
theorem DoesA.at {fn : FuncId} {args : List Value} {Lr : List Ent} {R : Value → Fz → List Nat → List Ent → Prop} (hp : DoesA S P fn args f Lr bs A A' R) (h : AR S f bs A [] L0 L) (hC : Cw w0 f (Lr ++ (X ++ L)) w) :
    Calls P fn args.toArray w fun e w' => ∃ v f' bs' L' LA, e = .returned v ∧ Fz.le f f' ∧ bs <+: bs' ∧ AR S f' bs' A' [] L0 LA ∧ Cw w0 f' (L' ++ (X ++ LA)) w' ∧ R v f' bs' L' := by
  obtain ⟨h1, h2, G, h3, h4⟩ := h
  refine (hp w0 (X ++ L0) (X ++ L) w ⟨h1, h2, G, h3, ?_⟩ hC).mono ?_
  · exact (h4.append_left X).trans (perm3 _ _ _)
  · rintro e w' ⟨v, f', bs', L', LA, rfl, g1, g2, ⟨k1, k2, G', k3, k4⟩, g4, g5⟩
    refine ⟨v, f', bs', L', (rest A'.length []).flatMap G' ++ L0, rfl, g1, g2, ⟨k1, k2, G', k3, .refl _⟩, g4.perm (List.Perm.append_left _ ?_), g5⟩
    exact k4.trans (perm3 _ _ _)
theorem zjq {gn : FuncId} {y : Operand} {cap : Array Value} {as : List Operand} {vs : List Value} {ats : Array TypeId} {Lr : List Ent} {R : Value → Fz → List Nat → List Ent → Prop} (X : List Ent) (hA : AR S f bs A [] L0 L) (hs : St n w0 f (Lr ++ (X ++ L)) E a w) {dd : Nat}
    (hx : opv E y = some (.func (.func gn) #[] cap)) (hg : Has P gn) (hv : as.mapM (opv E) = some vs) (hp : DoesA S P gn (vs ++ cap.toList) f Lr bs A A' R)
    (hw : Want ops E ⟨some dd, .call { callee := .value y, args := as.toArray, argTypes := ats }, ty, pos, af, g⟩ true) (hd : dd < n)
    (h : ∀ v f' bs' L' LA a w, Fz.le f f' → bs <+: bs' → AR S f' bs' A' [] L0 LA → R v f' bs' L' → St n w0 f' (L' ++ (X ++ LA)) ((dd, v) :: E) a w → RL P ops rst K a w) :
    RL P ops (⟨some dd, .call { callee := .value y, args := as.toArray, argTypes := ats }, ty, pos, af, g⟩ :: rst) K a w := by
  refine zn4 fun K' hK' => ?_
  rw [if_pos (hw.wanted hs.ev)]
  unfold opS
  rw [zjh hs.ev hx hg hv]
  have := hp.at hA hs.cw
  rw [show (vs ++ cap.toList).toArray = vs.toArray ++ cap from by simp] at this
  refine this.mono ?_
  rintro e w' ⟨v, f', bs', L', LA, rfl, h1, h2, h3, h4, h5⟩
  exact ⟨v, rfl, hK' _ _ (h v f' bs' L' LA _ _ h1 h2 h3 h5 ⟨hs.ev.put hd v, h4⟩)⟩
theorem zo6 {t u : TypeId} (ht : P.underlying t = some (.pointer u)) (hp : RP bs v i) (w : World) : (Op.equal t v (.pointer none)).run P w = .ok (decide (i = -1)) w := by
  rcases hp with ⟨rfl, rfl⟩ | ⟨b, rfl, h2, _⟩
  · exact zhi (fun d => by simp [Op.equalIn, run_underlying ht]) rfl
  · have : ¬ i = -1 := by omega
    simp only [this, decide_false]
    exact zhi (fun d => by simp [Op.equalIn, run_underlying ht]) rfl
theorem nodup_inj {l : List Nat} (h : l.Nodup) {i j : Nat} {x : Nat} (hi : l[i]? = some x) (hj : l[j]? = some x) : i = j := by
  obtain ⟨l1, e1⟩ := List.getElem?_eq_some_iff.1 hi
  obtain ⟨l2, e2⟩ := List.getElem?_eq_some_iff.1 hj
  rcases Nat.lt_trichotomy i j with hlt | he | hlt
  · exact absurd (e1.trans e2.symm) (List.pairwise_iff_getElem.1 h i j l1 l2 hlt)
  · exact he
  · exact absurd (e2.trans e1.symm) (List.pairwise_iff_getElem.1 h j i l2 l1 hlt)
def PBH (L : List Ent) (bs : List Nat) (H : List Nat) : Prop := ∀ j b, j ∉ H → bs[j]? = some b → ∃ cs e, .blk b (.cells cs e (0, 0)) ∈ L
theorem AR.pbh (h : AR S f bs A H L0 L) : PBH L bs H := fun j b hj hb => by
  obtain ⟨h1, h2, G, h3, h4⟩ := h
  have hlt : j < A.length := by rw [← h1]; exact (List.getElem?_eq_some_iff.1 hb).1
  obtain ⟨cs, e, l', hl⟩ := S.key (h3 j _ b hj (List.getElem?_eq_getElem hlt) hb)
  refine ⟨cs, e, ?_⟩
  rw [h4.mem_iff]
  refine List.mem_append_left _ (List.mem_flatMap.2 ⟨j, by simp [rest, hlt, hj], ?_⟩)
  rw [hl]; simp
theorem PBH.app (h : PBH L bs H) (X : List Ent) : PBH (X ++ L) bs H := fun j b hj hb => by
  obtain ⟨cs, e, hm⟩ := h j b hj hb
  exact ⟨cs, e, List.mem_append_right _ hm⟩
theorem PBH.hole {cs : Array Value} {e : TypeId} (h : PBH L bs (i.toNat :: H)) (hp : RP bs (.pointer (some ⟨b, 0, none⟩)) i) (hm : .blk b (.cells cs e (0, 0)) ∈ L) : PBH L bs H := fun j c hj hc => by
  by_cases hi : j = i.toNat
  · subst hi
    rcases hp with ⟨_, q⟩ | ⟨b', q, _, r⟩
    · cases q
    · cases q
      rw [r] at hc
      cases hc
      exact ⟨cs, e, hm⟩
  · exact h j c (by simp [hi, hj]) hc
theorem equal_pp {t u : TypeId} {k by_ : Nat} {z : Value} (ht : P.underlying t = some (.pointer u)) (hT : TI P u k by_ z) (hk : 0 < k) (hn : bs.Nodup) (hpb : PBH L bs []) {v' : Value} {i' : Int} (hp : RP bs v i) (hq : RP bs v' i') (hC : Cw w0 f L w) : (Op.equal t v v').run P w = .ok (decide (i = i')) w := by
  rcases hq with ⟨rfl, rfl⟩ | ⟨b', rfl, h2', h3'⟩
  · exact zo6 ht hp w
  · rcases hp with ⟨rfl, rfl⟩ | ⟨b, rfl, h2, h3⟩
    · have : ¬ -1 = i' := by omega
      simp only [this, decide_false]
      exact zhi (fun d => by simp [Op.equalIn, run_underlying ht]) rfl
    · obtain ⟨it, hit, _, hk', _⟩ := hT
      have hz : ¬ it.size = 0 := by omega
      by_cases hi : i = i'
      · subst hi
        rw [h3] at h3'
        cases h3'
        have := run_sameAddr_same (P := P) (w := w) ⟨b', 0, none⟩
        simp only [decide_true]
        exact zhi (fun d => by simp [Op.equalIn, run_underlying ht, sizeOf, typeInfo, hit, hz, this]) rfl
      · have hb : ¬ b = b' := by
          intro e; subst e
          have := nodup_inj hn h3 h3'
          omega
        obtain ⟨cs, e, hm⟩ := hpb _ _ (by simp) h3
        obtain ⟨cs', e', hm'⟩ := hpb _ _ (by simp) h3'
        have hh := hC.live _ hm
        have hh' := hC.live _ hm'
        have := run_sameAddr_other (P := P) (w := w) (a := ⟨b, 0, none⟩) (b := ⟨b', 0, none⟩) (fun q => hb (by cases q; rfl)) hh hh'
        simp only [hi, decide_false]
        exact zhi (fun d => by simp [Op.equalIn, run_underlying ht, sizeOf, typeInfo, hit, hz, this]) rfl
theorem y_apnil {p q : Operand} {t t' u : TypeId} (hx : opv E p = some v) (hy : opv E q = some (.pointer none)) (hp : RP bs v i) (ht : P.underlying t = some (.pointer u)) :
    Y P C n E ⟨d, .binOp .eql t p q t', ty, pos, af, g⟩ (.bool (decide (i = -1))) :=
  .of fun a ha w _ => by
    simp only [execOp, ha.eval hx, ha.eval hy, eqGuard, binOp, Sem.run_bind, Sem.run_pure, zo6 ht hp, Result.andThen_ok]
    rfl
theorem zr4 {p q : Operand} {t t' u : TypeId} (hx : opv E p = some v) (hy : opv E q = some (.pointer none)) (hp : RP bs v i) (ht : P.underlying t = some (.pointer u)) :
    Y P C n E ⟨d, .binOp .neq t p q t', ty, pos, af, g⟩ (.bool (!decide (i = -1))) :=
  .of fun a ha w _ => by
    simp only [execOp, ha.eval hx, ha.eval hy, eqGuard, binOp, Sem.run_bind, Sem.run_pure, zo6 ht hp, Result.andThen_ok]
    rfl
theorem y_apeq {p q : Operand} {t t' u : TypeId} {k by_ : Nat} {z : Value} {v' : Value} {i' : Int} (hn : bs.Nodup) (hpb : PBH L bs []) (hx : opv E p = some v) (hy : opv E q = some v') (hp : RP bs v i) (hq : RP bs v' i') (ht : P.underlying t = some (.pointer u)) (hT : TI P u k by_ z) (hk : 0 < k) :
    Y P (Cw w0 f L) n E ⟨d, .binOp .eql t p q t', ty, pos, af, g⟩ (.bool (decide (i = i'))) :=
  .of fun a ha w hw => by
    have key := equal_pp ht hT hk hn hpb hp hq hw
    rcases hp with ⟨_, rfl⟩ | ⟨b, rfl, _⟩ <;> rcases hq with ⟨_, rfl⟩ | ⟨b', rfl, _⟩ <;>
    · simp only [execOp, ha.eval hx, ha.eval hy, eqGuard, binOp, Sem.run_bind, Sem.run_pure]
      have e1 : ∀ w1, (Sem.run P (pure () : Sem Unit) w1) = .ok () w1 := fun w1 => Sem.run_pure _ _ _
      simp only [Bool.not_true, Bool.false_eq_true, if_false, Sem.run_pure, Result.andThen_ok]
      rw [key]
      rfl
theorem y_max2 {t1 t2 : TypeId} {x y : Operand} {k : IntKind} {i j : Int} (hx : opv E x = some (.int k i)) (hy : opv E y = some (.int k j)) :
    Y P C n E ⟨d, .call { callee := .builtin .max, args := #[x, y], argTypes := #[t1, t2] }, ty, pos, af, g⟩ (.int k (bif decide (i < j) then j else i)) :=
  .of fun a ha w _ => by
    by_cases h : i < j <;> simp [execOp, resolve, invoke, builtin, ha.eval hx, ha.eval hy, Builtin.max_, Builtin.max2, h]
end
end Go.Sl
namespace Go.Sl
open Go.RowKit
section
variable {α : Type} {S : NSh α} {P : Program} {f f' : Fz} {bs bs' : List Nat} {A A' : List α} {H : List Nat} {L0 L L' X : List Ent} {v : Value} {i : Int} {j : Nat} {x : α} {b : Nat} {l : List Ent}
variable {w0 w w' : World} {n m : Nat} {E E' : List (Nat × Value)} {a : Act}
def setM {α : Type} (A : List α) (i : Int) (x : α) : List α := A.set i.toNat x
theorem RP.ptr (hp : RP bs v i) (hx : focM A H i = some x) : ∃ b, v = .pointer (some ⟨b, 0, none⟩) := by
  rcases hp with ⟨rfl, _⟩ | ⟨b, g, _⟩
  · have := (zlw (zfv hx).2).1
    simp at this
  · exact ⟨b, g⟩
theorem AR.focusP (X : List Ent) (h : AR S f bs A H L0 L) (hs : St n w0 f (X ++ L) E a w) (hx : focM A H i = some x) (hp : RP bs (.pointer (some ⟨b, 0, none⟩)) i) :
    ∃ l L1, S.R f bs b x l ∧ AR S f bs A (i.toNat :: H) L0 L1 ∧ St n w0 f (l ++ (X ++ L1)) E a w := by
  obtain ⟨b', l, L1, e, _, h2, h3, h4⟩ := AR.focus X h hs hx hp
  cases e
  exact ⟨l, L1, h2, h3, h4⟩
theorem AR.unfocusI (X : List Ent) (h : AR S f bs A (i.toNat :: H) L0 L) (hs : St n w0 f (l ++ (X ++ L)) E a w) (hh : i.toNat ∉ H) (hb : RP bs (.pointer (some ⟨b, 0, none⟩)) i) (hR : S.R f bs b x l) :
    ∃ L1, AR S f bs (setM A i x) H L0 L1 ∧ St n w0 f (X ++ L1) E a w := by
  refine AR.unfocus X h hs hh ?_ hR
  rcases hb with ⟨_, q⟩ | ⟨c, q, h0, r⟩
  · cases q
  · cases q
    exact .inr ⟨b, rfl, by omega, by rw [Int.toNat_natCast]; exact r⟩
theorem AR.unfocusS (X : List Ent) (h : AR S f bs A (i.toNat :: H) L0 L) (hs : St n w0 f (l ++ (X ++ L)) E a w) (hx : focM A H i = some x) (hb : RP bs (.pointer (some ⟨b, 0, none⟩)) i) (hR : S.R f bs b x l) :
    ∃ L1, AR S f bs A H L0 L1 ∧ St n w0 f (X ++ L1) E a w := by
  have := AR.unfocusI X h hs (zfv hx).1 hb hR
  have e : setM A i x = A := by
    have h2 := (zlw (zfv hx).2).2
    unfold setM
    apply List.ext_getElem?
    intro k
    rw [List.getElem?_set]
    split
    · subst_vars
      split
      · exact h2.symm
      · rename_i hlt
        rw [List.getElem?_eq_none (by omega)]
    · rfl
  rwa [e] at this
theorem AR.peek (h : AR S f bs A H L0 L) (hx : focM A H i = some x) (hp : RP bs v i) : ∃ b, v = .pointer (some ⟨b, 0, none⟩) ∧ ∃ l, S.R f bs b x l ∧ ∀ e ∈ l, e ∈ L := by
  obtain ⟨h1, h2, G, h3, h4⟩ := h
  obtain ⟨hh, hg⟩ := zfv hx
  obtain ⟨b, rfl, hb, hA⟩ := hp.at hg h1
  have hlt : i.toNat < A.length := (List.getElem?_eq_some_iff.1 hA).1
  refine ⟨b, rfl, G i.toNat, h3 _ _ _ hh hA hb, fun e he => ?_⟩
  rw [h4.mem_iff]
  exact List.mem_append_left _ (List.mem_flatMap.2 ⟨_, by simp [rest, hlt, hh], he⟩)
theorem AR.app (X : List Ent) (h : AR S f bs A H L0 L) : AR S f bs A H (X ++ L0) (X ++ L) := by
  obtain ⟨h1, h2, G, h3, h4⟩ := h
  exact ⟨h1, h2, G, h3, (h4.append_left X).trans (perm3 _ _ _)⟩
def DoesR (S : NSh α) (P : Program) (fn : FuncId) (args : List Value) (f : Fz) (Lr : List Ent) (bs : List Nat) (A : List α) (R : Value → Fz → List Ent → Prop) : Prop :=
  ∀ w0 L0 L w, AR S f bs A [] L0 L → Cw w0 f (Lr ++ L) w → Calls P fn args.toArray w fun e w' => ∃ v f' L', e = .returned v ∧ Fz.le f f' ∧ Cw w0 f' (L' ++ L) w' ∧ R v f' L'
def GivesR (S : NSh α) (P : Program) (fn : FuncId) (args : List Value) (f : Fz) (Lr : List Ent) (bs : List Nat) (A : List α) (v : Value) : Prop :=
  ∀ w0 L0 L w, AR S f bs A [] L0 L → Cw w0 f (Lr ++ L) w → Calls P fn args.toArray w fun e w' => e = .returned v ∧ Cw w0 f (Lr ++ L) w'
theorem GivesR.at {fn : FuncId} {args : List Value} {Lr X : List Ent} (h : GivesR S P fn args f Lr bs A v) (hA : AR S f bs A [] L0 L) (hp : L'.Perm (Lr ++ (X ++ L))) (hC : Cw w0 f L' w) : Calls P fn args.toArray w fun e w' => e = .returned v ∧ Cw w0 f L' w' :=
  (h w0 (X ++ L0) (X ++ L) w (hA.app X) (hC.perm hp)).mono fun _ _ ⟨h1, h2⟩ => ⟨h1, h2.perm hp.symm⟩
variable {ops : Array Oper} {rst : List Oper} {o : Oper} {K : AP} {C : World → Prop} {op : Op}
variable {d : Option Tmp} {ty : TypeId} {pos : String} {af : Array Edge} {g : Option (Nat × Bool)}
theorem zn7 {gn : FuncId} {y : Operand} {cap : List Value} {as : List Operand} {vs : List Value} {ats : Array TypeId} {Lr X : List Ent} (hA : AR S f bs A [] L0 L) (hx : opv E y = some (.func (.func gn) #[] cap.toArray)) (hg : Has P gn) (hv : as.mapM (opv E) = some vs) (hL : L'.Perm (Lr ++ (X ++ L))) (hp : GivesR S P gn (vs ++ cap) f Lr bs A v) :
    Y P (Cw w0 f L') n E ⟨d, .call { callee := .value y, args := as.toArray, argTypes := ats }, ty, pos, af, g⟩ v := by
  intro a ha w hw
  unfold Oper.quietAt
  rw [zjh ha hx hg hv]
  refine ⟨rfl, ?_⟩
  have := hp.at hA hL hw
  rw [List.append_toArray] at *
  simpa using this
theorem zgx {gn : FuncId} {y : Operand} {cap : Array Value} {as : List Operand} {vs : List Value} {ats : Array TypeId} {Lr : List Ent} {R : Value → Fz → List Ent → Prop} (X : List Ent) (hA : AR S f bs A [] L0 L) (hs : St n w0 f (Lr ++ (X ++ L)) E a w) {dd : Nat}
    (hx : opv E y = some (.func (.func gn) #[] cap)) (hg : Has P gn) (hv : as.mapM (opv E) = some vs) (hp : DoesR S P gn (vs ++ cap.toList) f Lr bs A R)
    (hw : Want ops E ⟨some dd, .call { callee := .value y, args := as.toArray, argTypes := ats }, ty, pos, af, g⟩ true) (hd : dd < n)
    (h : ∀ v f' L' a w, Fz.le f f' → R v f' L' → St n w0 f' (L' ++ (X ++ L)) ((dd, v) :: E) a w → RL P ops rst K a w) :
    RL P ops (⟨some dd, .call { callee := .value y, args := as.toArray, argTypes := ats }, ty, pos, af, g⟩ :: rst) K a w := by
  refine zn4 fun K' hK' => ?_
  rw [if_pos (hw.wanted hs.ev)]
  unfold opS
  rw [zjh hs.ev hx hg hv]
  have := hp w0 (X ++ L0) (X ++ L) w (hA.app X) hs.cw
  rw [show (vs ++ cap.toList).toArray = vs.toArray ++ cap from by simp] at this
  refine this.mono ?_
  rintro e w' ⟨v, f', L', rfl, h1, h4, h5⟩
  exact ⟨v, rfl, hK' _ _ (h v f' L' _ _ h1 h5 ⟨hs.ev.put hd v, h4⟩)⟩
theorem RL_clear {t e : TypeId} {y : Operand} {u : Value} {by_ lo hi : Nat} {z : Value} {rows : List (List Value)} (k : Nat) (hs : St n w0 f L E a w) (hi_ : L[k]? = some (.row u e 1 rows)) (hx : opv E y = some (cutv u 1 lo hi)) (h1 : lo ≤ hi) (h2 : hi = rows.length)
    (ht : P.underlying t = some (.slice e)) (hT : TI P e 1 by_ z) (hz : z.cells = #[z]) (hz1 : z.oneCell' = true)
    (h : ∀ a w, St n w0 f (L.set k (.row u e 1 (rows.take lo ++ List.replicate (rows.length - lo) [z]))) E a w → RL P ops rst K a w) :
    RL P ops (⟨none, .call { callee := .builtin .clear, args := #[y], argTypes := #[t] }, ty, pos, af, none⟩ :: rst) K a w := by
  subst h2
  obtain ⟨it, hit, hz0, hk1, hk2⟩ := hT
  obtain ⟨hown, hone⟩ := hs.cw.live _ (List.mem_of_getElem? hi_)
  have hzv : (zeroValue e).run P w = .ok z w := by simp [zeroValue, typeInfo, hit, hz0]
  rcases hown.2 with ⟨rfl, h0⟩ | ⟨g, cap, cur, rfl, _, hg, hnc, hcm, hcs, htk⟩
  · have e0 : rows = [] := List.eq_nil_of_length_eq_zero h0
    subst e0
    have e1 : lo = 0 := by simpa using h1
    subst e1
    refine RL_v hs (.free rfl) (.drop rfl) (v := .tuple #[]) (w' := w) (f' := f) (L' := L.set k (.row (.slice none 0 0) e 1 ([].take 0 ++ List.replicate (([] : List (List Value)).length - 0) [z]))) ?_ (hs.cw.repl hi_ ⟨rfl, rfl, rfl, Nat.le_refl _, fun _ _ _ => rfl⟩ ⟨hown, hone⟩ (fun b hb => .inl hb)) h
    simp [execOp, resolve, invoke, builtin, hs.ev.eval hx, cutv, Builtin.clear_, run_underlying ht]
  · have hfl : rows.flatten.length = rows.length := by rw [zdh fun r hr => (hone r hr).1]; simp
    by_cases hlo : lo = rows.length
    · subst hlo
      refine RL_v hs (.free rfl) (.drop rfl) (v := .tuple #[]) (w' := w) (f' := f) (L' := L.set k (.row (.slice (some ⟨g, 0, none⟩) rows.length cap) e 1 (rows.take rows.length ++ List.replicate (rows.length - rows.length) [z]))) ?_ ?_ h
      · by_cases hc : cap = rows.length <;> simp [execOp, resolve, invoke, builtin, hs.ev.eval hx, cutv, Builtin.clear_, run_underlying ht, hc]
      · have e1 : rows.take rows.length ++ List.replicate (rows.length - rows.length) [z] = rows := by simp
        rw [e1]
        exact hs.cw.repl hi_ ⟨rfl, rfl, rfl, Nat.le_refl _, fun _ _ _ => rfl⟩ ⟨hown, hone⟩ (fun b hb => .inl hb)
    · have hcap : ¬ cap = lo := by omega
      have hzc : (Builtin.zeroCells #[z] (rows.length - lo)).toList = List.replicate (rows.length - lo) z := by
        apply List.ext_getElem?
        intro j
        by_cases hj : j < rows.length - lo
        · simp [Builtin.zeroCells, hj, Nat.mod_one]
        · rw [List.getElem?_eq_none (by simp [Builtin.zeroCells]; omega), List.getElem?_eq_none (by simp; omega)]
      have hst := run_storeCells_at P g lo e (List.replicate (rows.length - lo) z) 0 cur w hg (by simp; omega) (fun u hu => by rw [List.mem_replicate] at hu; rw [hu.2]; exact hz1)
      simp only [Nat.add_zero] at hst
      refine RL_v hs (.free rfl) (.drop rfl) (v := .tuple #[]) (w' := w.setRow g (cur.toList.take lo ++ List.replicate (rows.length - lo) z ++ cur.toList.drop (lo + (List.replicate (rows.length - lo) z).length)).toArray) (f' := f) (L' := L.set k (.row (.slice (some ⟨g, 0, none⟩) rows.length cap) e 1 (rows.take lo ++ List.replicate (rows.length - lo) [z]))) ?_ ?_ h
      · have hpos : ¬ rows.length - lo = 0 := by omega
        obtain ⟨q, hq⟩ : ∃ q, rows.length - lo = q + 1 := ⟨rows.length - lo - 1, by omega⟩
        rw [hq] at hzc hst ⊢
        simp [execOp, resolve, invoke, builtin, hs.ev.eval hx, cutv, Builtin.clear_, run_underlying ht, hcap, hq, hzv, hz, hzc, hst, zm2]
      · have hl' : (rows.take lo ++ List.replicate (rows.length - lo) [z]).length = rows.length := by simp; omega
        have hf' : (rows.take lo ++ List.replicate (rows.length - lo) [z]).flatten = rows.flatten.take lo ++ List.replicate (rows.length - lo) z := by
          rw [List.flatten_append, zk3 (fun r hr => (hone r hr).1), Nat.mul_one]
          congr 1
          generalize rows.length - lo = q
          induction q with
          | zero => rfl
          | succ q ih => rw [List.replicate_succ, List.flatten_cons, ih, List.replicate_succ]; rfl
        refine hs.cw.repl hi_ (Grew.setRow w g _) ⟨⟨?_, .inr ⟨g, cap, _, by rw [hl'], Nat.zero_le _, setRow_heap w g cur _ e _ hg, by rw [hl']; exact hnc, hcm, ?_, ?_⟩⟩, ?_⟩ (fun b' hb => .inl hb)
        · rw [hf', hl']; simp [hfl]; omega
        · simp; omega
        · rw [hl', hf', ← htk, List.take_take, Nat.mul_one, show min lo rows.length = lo by omega]
          exact List.take_left' (by simp; omega)
        · intro r hr
          rcases List.mem_append.1 hr with hr | hr
          · exact hone r (List.mem_of_mem_take hr)
          · rw [List.mem_replicate] at hr
            rw [hr.2]
            exact ⟨rfl, fun u hu => by simp at hu; subst hu; exact hz1⟩
def clrM (xs : List Int) (lo : Int) : List Int := xs.take lo.toNat ++ List.replicate (xs.length - lo.toNat) (-1)
theorem RW.clear {rows : List (List Value)} {xs : List Int} {lo : Int} (hW : RW (tP bs) f rows xs) : RW (tP bs) f (rows.take lo.toNat ++ List.replicate (rows.length - lo.toNat) [.pointer none]) (clrM xs lo) := by
  unfold clrM
  rw [hW.len]
  exact (hW.take _).append (RW.rep (t := tP bs) (r := [.pointer none]) ⟨_, rfl, RP.nil⟩ _)
theorem callsF {fn : FuncId} {args : List Value} {Lr Lf : List Ent} {r : Value} (hp : L.Perm (Lr ++ Lf)) (hC : Cw w0 f L w) (h : ∀ w, Cw w0 f (Lr ++ Lf) w → Calls P fn args.toArray w fun e w' => e = .returned r ∧ Cw w0 f (Lr ++ Lf) w') : Calls P fn args.toArray w fun e w' => e = .returned r ∧ Cw w0 f L w' :=
  (h w (hC.perm hp)).mono fun _ _ ⟨h1, h2⟩ => ⟨h1, h2.perm hp.symm⟩
end
end Go.Sl
namespace Go.Sl
open Go.RowKit
section
variable {P : Program} {f : Fz} {L : List Ent} {w0 w : World} {n : Nat} {E : List (Nat × Value)} {a : Act}
variable {ops : Array Oper} {rest : List Oper} {K Qn Qr : AP} {Qe Qg : Nat → AP}
variable {ty : TypeId} {pos : String} {af : Array Edge}
/-! Shorter forms: what is bound is implicit. -/
theorem s1 {v : Value} {dd : Nat} {op : Op} (hs : St n w0 f L E a w) (hy : Y P (Cw w0 f L) n E ⟨some dd, op, ty, pos, af, none⟩ v) (h : ∀ {a w}, St n w0 f L ((dd, v) :: E) a w → RL P ops rest K a w) (hd : dd < n := by decide) :
    RL P ops (⟨some dd, op, ty, pos, af, none⟩ :: rest) K a w := sy hs hy (fun _ _ h' => h h') hd
theorem sM {v : Value} {dd : Nat} {x : Operand} (hs : St n w0 f L E a w) (hx : opv E x = some v) (h : ∀ {a w}, St n w0 f L ((dd, v) :: E) a w → RL P ops rest K a w) (hd : dd < n := by decide) :
    RL P ops (⟨some dd, .move x, ty, pos, af, none⟩ :: rest) K a w := s1 hs (zaa hx) h hd
theorem sA {v : Value} {dd : Nat} {x : Operand} (hs : St n w0 f L E a w) (hx : opv E x = some v) (h : ∀ {a w}, St n w0 f L ((dd, v) :: E) a w → RL P ops rest K a w) (hd : dd < n := by decide) :
    RL P ops (⟨some dd, .assign x, ty, pos, af, none⟩ :: rest) K a w := s1 hs (zca hx) h hd
theorem sP {v : Value} {dd : Nat} {c x y : Operand} {b : Bool} (hs : St n w0 f L E a w) (hc : opv E c = some (.bool b)) (hx : opv E (if b then x else y) = some v) (h : ∀ {a w}, St n w0 f L ((dd, v) :: E) a w → RL P ops rest K a w) (hd : dd < n := by decide) :
    RL P ops (⟨some dd, .pick c x y, ty, pos, af, none⟩ :: rest) K a w := s1 hs (zb4 hc hx) h hd
theorem s0 {v : Value} {op : Op} (hs : St n w0 f L E a w) (hy : Y P (Cw w0 f L) n E ⟨none, op, ty, pos, af, none⟩ v) (h : ∀ {a w}, St n w0 f L E a w → RL P ops rest K a w) :
    RL P ops (⟨none, op, ty, pos, af, none⟩ :: rest) K a w := sy0 hs hy fun _ _ h' => h h'
theorem s2 {v : Value} {dd j gd : Nat} {b : Bool} {op : Op} (hs : St n w0 f L E a w) (hy : Y P (Cw w0 f L) n E ⟨some dd, op, ty, pos, af, some (j, b)⟩ v) (h : ∀ {a w}, St n w0 f L ((dd, v) :: E) a w → RL P ops rest K a w)
    (hg : (ops[j]?).bind (·.dst) = some gd := by rfl) (hl : look E gd = some (.bool b) := by rfl) (hd : dd < n := by decide) :
    RL P ops (⟨some dd, op, ty, pos, af, some (j, b)⟩ :: rest) K a w := syg hs hy (fun _ _ h' => h h') hg hl hd
theorem s3 {dd j gd : Nat} {b : Bool} {op : Op} (hs : St n w0 f L E a w) (h : ∀ {a w}, St n w0 f L ((dd, undef) :: E) a w → RL P ops rest K a w)
    (hg : (ops[j]?).bind (·.dst) = some gd := by rfl) (hl : look E gd = some (.bool (!b)) := by rfl) (hd : dd < n := by decide) :
    RL P ops (⟨some dd, op, ty, pos, af, some (j, b)⟩ :: rest) K a w := sno hs (fun _ _ h' => h h') hg hl hd
theorem s4 {dd j gd : Nat} {b : Bool} {op : Op} (hs : St n w0 f L E a w) (h : ∀ {a w}, St n w0 f L ((dd, undef) :: E) a w → RL P ops rest K a w)
    (hg : (ops[j]?).bind (·.dst) = some gd := by rfl) (hl : look E gd = some undef := by rfl) (hd : dd < n := by decide) :
    RL P ops (⟨some dd, op, ty, pos, af, some (j, b)⟩ :: rest) K a w := sun hs (fun _ _ h' => h h') hg hl hd
theorem Ws {x y : Code} (h : ∀ {K : AP}, (∀ {a w}, W P y Qn Qe Qr Qg a w → K a w) → W P x K Qe Qr Qg a w) : W P (.seq x y) Qn Qe Qr Qg a w :=
  zk1 fun K hK => h (K := K) fun {a w} h' => hK a w h'
theorem Wq {id : Nat} {l : List Oper} {y : Code} (h : ∀ {K : AP}, (∀ {a w}, W P y Qn Qe Qr Qg a w → K a w) → RL P l.toArray l K a w) : W P (.seq (.region id l.toArray false) y) Qn Qe Qr Qg a w :=
  Ws fun hK => za7 (h fun h' => hK h')
end
end Go.Sl
