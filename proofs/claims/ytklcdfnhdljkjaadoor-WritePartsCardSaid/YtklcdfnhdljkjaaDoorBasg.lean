/-
  A logic of my own over the walk of the kit: what lies in memory (frozen blocks, live entries), what the slots hold, one rule an operation. It states nothing of any program.
-/
import Derived.Test.YtklcdfnhdljkjaaDoorBasf
import Derived.Laws.StructEq
import Derived.ChangeArms
import Derived.Lib.Builder
import Derived.Lib.UnsafeStr
import Derived.Laws.Externs
import Derived.Laws.LoneSync
import Derived.Defers
namespace Go.Sl
open Go.RowKit
/-! Maps with strings as keys. -/
theorem bytes_beq (a b : ByteArray) : (a == b) = decide (a = b) := by
  obtain ⟨x⟩ := a
  obtain ⟨y⟩ := b
  show (x == y) = _
  by_cases h : x = y <;> simp [h]
/-- What a map's entries say. -/
def SMap (l : List MapEntry) (m : List (ByteArray × Value)) : Prop := l.map (fun e => (e.key, e.val)) = m.map fun p => (Value.string p.1, p.2)
def mget (m : List (ByteArray × Value)) (k : ByteArray) : Option Value := (m.find? fun p => decide (p.1 = k)).map (·.2)
/-- What the map says behind 'm[k] = v'. -/
def mput (m : List (ByteArray × Value)) (k : ByteArray) (v : Value) : List (ByteArray × Value) := match m with
  | [] => [(k, v)]
  | p :: m => if p.1 = k then (p.1, v) :: m else p :: mput m k v
theorem findNow_s : ∀ (l : List MapEntry) (m : List (ByteArray × Value)) (k : ByteArray) (i : Nat), SMap l m →
    (∃ j v, mget m k = some v ∧ Instr.findNow .string (.string k) l i = some (some (i + j, v)) ∧ (l[j]?).map (·.key) = some (.string k) ∧ ∀ v', SMap (l.modify j fun e => { e with key := .string k, val := v' }) (mput m k v')) ∨ (mget m k = none ∧ Instr.findNow .string (.string k) l i = some none)
  | [], m, k, i, h => by
    cases m with
    | nil => exact .inr ⟨rfl, rfl⟩
    | cons p m => simp [SMap] at h
  | e :: l, [], k, i, h => by simp [SMap] at h
  | e :: l, p :: m, k, i, h => by
    simp only [SMap, List.map_cons, List.cons.injEq, Prod.mk.injEq] at h
    obtain ⟨⟨h1, h2⟩, h3⟩ := h
    by_cases hk : p.1 = k
    · refine .inl ⟨0, e.val, by simp [mget, hk, h2], ?_, by simp [h1, hk], fun v' => by simp [SMap, mput, hk]; exact h3⟩
      simp [Instr.findNow, Instr.sameNow, h1, hk, bytes_beq]
    · have hk' : ¬ k = p.1 := fun e => hk e.symm
      rcases findNow_s l m k (i + 1) h3 with ⟨j, v, e1, e2, e3, e4⟩ | ⟨e1, e2⟩
      · refine .inl ⟨j + 1, v, ?_, ?_, by simpa using e3, fun v' => by have := e4 v'; simp [SMap, mput, hk, h1, h2] at this ⊢; exact this⟩
        · simpa [mget, hk] using e1
        · simp [Instr.findNow, Instr.sameNow, h1, hk', e2, bytes_beq, Nat.add_assoc, Nat.add_comm 1 j]
      · refine .inr ⟨by simpa [mget, hk] using e1, ?_⟩
        simp [Instr.findNow, Instr.sameNow, h1, hk', e2, bytes_beq]
section
variable {P : Program} {ops : Array Oper} {rest : List Oper} {n : Nat} {w0 w : World} {f f' : Fz} {L L' : List Ent} {E E' : List (Nat × Value)} {a : Act} {K : AP} {v : Value}
variable {ty : TypeId} {pos : String} {af : Array Edge} {d : Option Tmp} {g : Option (Nat × Bool)} {C : World → Prop}
theorem RL_makeMap {t : TypeId} {dd : Nat} (hs : St n w0 f L E a w) (h : ∀ r a w, St n w0 f (.blk r (.map #[] 0) :: L) ((dd, .map (some r)) :: E) a w → RL P ops rest K a w) (hd : dd < n := by decide) :
    RL P ops (⟨some dd, .makeMap t none, ty, pos, af, none⟩ :: rest) K a w :=
  RL_v hs (.free rfl) (.to rfl hd) (v := .map (some w.heap.size)) (w' := w.alloc (.map #[] 0)) (by
    simp only [execOp, Option.map_none, Sem.run_bind]
    rw [show (Instr.makeMap t none).run P w = .ok (.map (some w.heap.size)) (w.alloc (.map #[] 0)) from rfl]
    simp [Sem.run_pure]) (hs.cw.alloc _) (h _)
theorem checkKey_s {kt : TypeId} {k : ByteArray} {em : Bool} {dpt : Nat} (hk : P.underlying kt = some .string) : (Instr.checkKey em (dpt + 1) kt (.string k)).run P w = .ok () w := by
  simp [Instr.checkKey, run_underlying hk]
theorem findKey_s {kt : TypeId} {k : ByteArray} {l : List MapEntry} {m : List (ByteArray × Value)} (hk : P.underlying kt = some .string) (hm : SMap l m) :
    (∃ j v, mget m k = some v ∧ (Instr.findKey kt (.string k) l).run P w = .ok (some (j, v)) w ∧ (l[j]?).map (·.key) = some (.string k) ∧ ∀ v', SMap (l.modify j fun e => { e with key := .string k, val := v' }) (mput m k v')) ∨ (mget m k = none ∧ (Instr.findKey kt (.string k) l).run P w = .ok none w) := by
  rcases findNow_s l m k 0 hm with ⟨j, v, e1, e2, e3⟩ | ⟨e1, e2⟩
  · exact .inl ⟨j, v, e1, by simp [Instr.findKey, run_underlying hk, e2, Sem.run_pure], e3⟩
  · exact .inr ⟨e1, by simp [Instr.findKey, run_underlying hk, e2, Sem.run_pure]⟩
theorem run_getMap {r : Nat} {es : Array MapEntry} {c : Nat} (h : w.heap[r]? = some (.map es c)) : (getObj r).run P w = .ok (.map es c) w := by simp [getObj, Sem.run, h]
theorem run_setMap {r : Nat} {es : Array MapEntry} {c : Nat} (o : Obj) (h : w.heap[r]? = some (.map es c)) : (setObj r o).run P w = .ok () { w with heap := w.heap.setIfInBounds r o } := by simp [setObj, Sem.run, h]
theorem mapAt {r : Nat} {es : Array MapEntry} {c : Nat} (hm : .blk r (.map es c) ∈ L) (hC : Cw w0 f L w) : w.heap[r]? = some (.map es c) := hC.live _ hm
/-- 'm[k]' without the second value. -/
theorem y_lookupS {t kt e : TypeId} {x y : Operand} {r : Nat} {es : Array MapEntry} {c : Nat} {m : List (ByteArray × Value)} {k : ByteArray} {by_ kk : Nat} {z : Value} (hx : opv E x = some (.map (some r))) (hy : opv E y = some (.string k))
    (ht : P.underlying t = some (.map kt e)) (hk : P.underlying kt = some .string) (hT : TI P e kk by_ z) (hm : .blk r (.map es c) ∈ L) (hS : SMap es.toList m) :
    Y P (Cw w0 f L) n E ⟨d, .lookup t x y false, ty, pos, af, g⟩ ((mget m k).getD z) :=
  .of fun a ha w hw => by
    obtain ⟨i, hi, hz, _, _⟩ := hT
    have hb := run_getMap (P := P) (mapAt hm hw)
    have hck : (Instr.checkKey es.isEmpty 10000 kt (.string k)).run P w = .ok () w := checkKey_s (dpt := 9999) hk
    rcases findKey_s (P := P) (w := w) (k := k) hk hS with ⟨j, v, e1, e2, _⟩ | ⟨e1, e2⟩
    · simp [execOp, ha.eval hx, ha.eval hy, Instr.lookup, run_underlying ht, hb, hck, e1, e2]
    · simp [execOp, ha.eval hx, ha.eval hy, Instr.lookup, run_underlying ht, hb, hck, e1, e2, zeroValue, typeInfo, hi, hz]
theorem smap_push {l : List MapEntry} {m : List (ByteArray × Value)} {k : ByteArray} {v : Value} {c : Nat} (h : SMap l m) (hn : mget m k = none) : SMap (l ++ [{ key := .string k, val := v, born := c }]) (mput m k v) := by
  have e : mput m k v = m ++ [(k, v)] := by
    clear h
    induction m with
    | nil => rfl
    | cons p m ih =>
      have hp : ¬ p.1 = k := fun e => by simp [mget, e] at hn
      rw [mput, if_neg hp, ih (by simpa [mget, hp] using hn)]
      rfl
  rw [e]
  unfold SMap at h ⊢
  rw [List.map_append, List.map_append, h]
  rfl
/-- 'm[k] = v'. -/
theorem RL_mapUpdateS {t kt e : TypeId} {x y z : Operand} {r : Nat} {es : Array MapEntry} {c : Nat} {m : List (ByteArray × Value)} {k : ByteArray} {u : Value} (i : Nat) (hs : St n w0 f L E a w) (hi : L[i]? = some (.blk r (.map es c))) (hx : opv E x = some (.map (some r))) (hy : opv E y = some (.string k)) (hz : opv E z = some u)
    (ht : P.underlying t = some (.map kt e)) (hk : P.underlying kt = some .string) (hS : SMap es.toList m)
    (h : ∀ es' c' a w, SMap es'.toList (mput m k u) → St n w0 f (L.set i (.blk r (.map es' c'))) E a w → RL P ops rest K a w) : RL P ops (⟨none, .mapUpdate t x y z, ty, pos, af, none⟩ :: rest) K a w := by
  have hb := hs.cw.live _ (List.mem_of_getElem? hi)
  have hlt : r < w.heap.size := (Array.getElem?_eq_some_iff.1 hb).1
  have hg := run_getMap (P := P) hb
  have hck : (Instr.checkKey false 10000 kt (.string k)).run P w = .ok () w := checkKey_s (dpt := 9999) hk
  have fin : ∀ es' c', (Instr.mapUpdate t (.map (some r)) (.string k) u).run P w = .ok () { w with heap := w.heap.setIfInBounds r (.map es' c') } → SMap es'.toList (mput m k u) →
      RL P ops (⟨none, .mapUpdate t x y z, ty, pos, af, none⟩ :: rest) K a w := fun es' c' hr hS' => by
    refine RL_u hs (.free rfl) (.drop rfl) (w' := { w with heap := w.heap.setIfInBounds r (.map es' c') }) (f' := f) (L' := L.set i (.blk r (.map es' c'))) ?_ ?_ (fun a w => h es' c' a w hS')
    · simp [execOp, hs.ev.eval hx, hs.ev.eval hy, hs.ev.eval hz, hr]
    · refine hs.cw.repl hi ⟨rfl, rfl, rfl, by simp, fun b hb hne => ?_⟩ ?_ (fun b hb => .inl hb)
      · have : r ≠ b := fun e => hne (by simp [Ent.key, e])
        simp [Array.getElem?_setIfInBounds_ne this]
      · show (w.heap.setIfInBounds r (.map es' c'))[r]? = some (.map es' c')
        simp [hlt]
  rcases findKey_s (P := P) (w := w) (k := k) hk hS with ⟨j, v, e1, e2, e3, e4⟩ | ⟨e1, e2⟩
  · refine fin (es.modify j fun e => { e with key := .string k, val := u }) c ?_ ?_
    · have hkey : ((es[j]?).map (·.key)).getD (.string k) = .string k := by rw [← Array.getElem?_toList, e3]; rfl
      simp [Instr.mapUpdate, run_underlying ht, hg, hck, e2, hkey, Instr.keyThatStays, Instr.sameBits, bytes_beq, run_setMap _ hb]
    · simpa using e4 u
  · refine fin (es.push { key := .string k, val := u, born := c }) (c + 1) ?_ ?_
    · simp [Instr.mapUpdate, run_underlying ht, hg, hck, e2, run_setMap _ hb]
    · simpa using smap_push hS e1
end
end Go.Sl
namespace Go.Sl
open Go.RowKit
/-! What the printed models are made of; readings of typed data. -/
/-- How data of a type lie in cells. -/
structure Ty (α : Type) where
  k : Nat
  R : Fz → List Value → α → Prop
  mono : ∀ {f f' : Fz} {r : List Value} {x : α}, R f r x → Fz.le f f' → R f' r x
  one : ∀ {f : Fz} {r : List Value} {x : α}, R f r x → OneRow k r
section
variable {α : Type} {t : Ty α} {f f' : Fz} {rows rows2 : List (List Value)} {xs ys : List α} {L : List Ent} {v : Value}
def RW (t : Ty α) (f : Fz) : List (List Value) → List α → Prop
  | [], [] => True
  | r :: rs, x :: xs => t.R f r x ∧ RW t f rs xs
  | _, _ => False
theorem RW.le : ∀ {rows : List (List Value)} {xs : List α}, RW t f rows xs → Fz.le f f' → RW t f' rows xs
  | [], [], _, _ => trivial
  | _ :: _, _ :: _, h, hf => ⟨t.mono h.1 hf, RW.le h.2 hf⟩
  | [], _ :: _, h, _ => h.elim
  | _ :: _, [], h, _ => h.elim
theorem RW.len : ∀ {rows : List (List Value)} {xs : List α}, RW t f rows xs → rows.length = xs.length
  | [], [], _ => rfl
  | _ :: _, _ :: _, h => by simp [RW.len h.2]
  | [], _ :: _, h => h.elim
  | _ :: _, [], h => h.elim
theorem RW.get : ∀ {rows : List (List Value)} {xs : List α} {i : Nat} {x : α}, RW t f rows xs → xs[i]? = some x → ∃ r, rows[i]? = some r ∧ t.R f r x
  | [], [], i, x, _, h => by simp at h
  | r :: _, y :: _, 0, x, h, hx => by simp at hx; subst hx; exact ⟨r, rfl, h.1⟩
  | _ :: rs, _ :: xs, i + 1, x, h, hx => by simpa using RW.get (i := i) h.2 (by simpa using hx)
  | [], _ :: _, _, _, h, _ => h.elim
  | _ :: _, [], _, _, h, _ => h.elim
theorem RW.append : ∀ {rows rows2 : List (List Value)} {xs ys : List α}, RW t f rows xs → RW t f rows2 ys → RW t f (rows ++ rows2) (xs ++ ys)
  | [], _, [], _, _, h => h
  | _ :: _, _, _ :: _, _, h, h2 => ⟨h.1, RW.append h.2 h2⟩
  | [], _, _ :: _, _, h, _ => h.elim
  | _ :: _, _, [], _, h, _ => h.elim
theorem RW.set : ∀ {rows : List (List Value)} {xs : List α} {i : Nat} {r : List Value} {x : α}, RW t f rows xs → t.R f r x → RW t f (rows.set i r) (xs.set i x)
  | [], [], _, _, _, _, _ => trivial
  | _ :: _, _ :: _, 0, _, _, h, hx => ⟨hx, h.2⟩
  | _ :: _, _ :: _, i + 1, _, _, h, hx => ⟨h.1, RW.set (i := i) h.2 hx⟩
  | [], _ :: _, _, _, _, h, _ => h.elim
  | _ :: _, [], _, _, _, h, _ => h.elim
theorem RW.take : ∀ {rows : List (List Value)} {xs : List α} (m : Nat), RW t f rows xs → RW t f (rows.take m) (xs.take m)
  | _, _, 0, _ => by simp [RW]
  | [], [], _ + 1, _ => trivial
  | _ :: _, _ :: _, m + 1, h => ⟨h.1, RW.take m h.2⟩
  | [], _ :: _, _ + 1, h => h.elim
  | _ :: _, [], _ + 1, h => h.elim
theorem RW.drop : ∀ {rows : List (List Value)} {xs : List α} (m : Nat), RW t f rows xs → RW t f (rows.drop m) (xs.drop m)
  | _, _, 0, h => by simpa using h
  | [], [], _ + 1, _ => trivial
  | _ :: _, _ :: _, m + 1, h => by simpa using RW.drop m h.2
  | [], _ :: _, _ + 1, h => h.elim
  | _ :: _, [], _ + 1, h => h.elim
theorem RW.rep {r : List Value} {x : α} (h : t.R f r x) : ∀ m, RW t f (List.replicate m r) (List.replicate m x)
  | 0 => trivial
  | m + 1 => ⟨h, RW.rep h m⟩
theorem RW.single {r : List Value} {x : α} (h : t.R f r x) : RW t f [r] [x] := ⟨h, trivial⟩
theorem RW.nil : RW t f [] [] := trivial
theorem RW.map {g : α → List Value} (h : ∀ r x, t.R f r x → r = g x) : ∀ {rows : List (List Value)} {xs : List α}, RW t f rows xs → rows = xs.map g
  | [], [], _ => rfl
  | r :: rs, x :: xs, hh => by rw [List.map_cons, ← h r x hh.1, ← RW.map h hh.2]
  | [], _ :: _, h => h.elim
  | _ :: _, [], h => h.elim
/-- A slice that is read as this list. -/
def RS (t : Ty α) (f : Fz) (v : Value) (xs : List α) : Prop := ∃ rows, Rd f [] v t.k rows ∧ RW t f rows xs
theorem RS.le (h : RS t f v xs) (hf : Fz.le f f') : RS t f' v xs := by
  obtain ⟨rows, h1, h2⟩ := h
  exact ⟨rows, h1.le hf, h2.le hf⟩
theorem RS.nil : RS t f (.slice none 0 0) [] := ⟨[], Rd.nil _ _ _, trivial⟩
theorem RS.one (h : RS t f v xs) : v.oneCell' = true := by obtain ⟨_, h1, _⟩ := h; exact h1.one
/-- Each value takes one cell. -/
def AllC : List Value → Prop
  | [] => True
  | v :: r => v.oneCell' = true ∧ AllC r
theorem AllC.all : ∀ {r : List Value}, AllC r → ∀ x ∈ r, x.oneCell' = true
  | [], _, x, hx => by simp at hx
  | v :: r, h, x, hx => by
    rcases List.mem_cons.1 hx with rfl | hx
    · exact h.1
    · exact AllC.all h.2 x hx
theorem AllC.row {r : List Value} {k : Nat} (h : AllC r) (hl : r.length = k) : OneRow k r := ⟨hl, h.all⟩
theorem AllC.arr {r : List Value} (h : AllC r) : r.toArray.all (·.oneCell') = true := by
  have := h.all
  simpa [Array.all_eq_true, List.all_eq_true] using this
/-! Types -/
def tInt (k : IntKind) : Ty Int := ⟨1, fun _ r x => r = [.int k x], fun h _ => h, fun h => by subst h; exact ⟨rfl, by simp [Value.oneCell']⟩⟩
def tBool : Ty Bool := ⟨1, fun _ r x => r = [.bool x], fun h _ => h, fun h => by subst h; exact ⟨rfl, by simp [Value.oneCell']⟩⟩
def tStr : Ty ByteArray := ⟨1, fun _ r x => r = [.string x], fun h _ => h, fun h => by subst h; exact ⟨rfl, by simp [Value.oneCell']⟩⟩
def tSl (t : Ty α) : Ty (List α) := ⟨1, fun f r xs => ∃ v, r = [v] ∧ RS t f v xs, fun ⟨v, e, h⟩ hf => ⟨v, e, h.le hf⟩, fun ⟨v, e, h⟩ => by subst e; exact ⟨rfl, by simp [h.one]⟩⟩
end
/-! Operations of the models -/
abbrev w64 (i : Int) : Int := IntKind.i64.wrap i
abbrev bs (l : List UInt8) : ByteArray := ⟨l.toArray⟩
/-- The element at a place. -/
def geti {α : Type} (xs : List α) (i : Int) : Option α := if 0 ≤ i then xs[i.toNat]? else none
/-- May so many elements be had? -/
def roomB (by_ m : Nat) : Bool := decide (m ≤ 9223372036854775807) && decide (m * by_ ≤ 140737488355328)
/-- Elements put behind others. -/
def appM {α : Type} (by_ : Nat) (xs ys : List α) : Option (List α) := bif roomB by_ (xs.length + ys.length) then some (xs ++ ys) else none
/-- A new list of one element many times. -/
def repM {α : Type} (by_ : Nat) (m : Int) (x : α) : Option (List α) := bif decide (0 ≤ m) && decide (by_ * m.toNat ≤ 281474976710656) && decide (m.toNat ≤ 9223372036854775807) then some (List.replicate m.toNat x) else none
/-- A cut of a list. -/
def cutM {α : Type} (xs : List α) (lo hi : Int) : Option (List α) := bif decide (0 ≤ lo) && decide (lo ≤ hi) && decide (hi ≤ xs.length) then some ((xs.take hi.toNat).drop lo.toNat) else none
def addS (s t : ByteArray) : Option ByteArray := bif decide (s.size + t.size ≤ 9223372036854775807) then some (s ++ t) else none
def getS (s : ByteArray) (i : Int) : Option Int := geti (bytesIn s) i
theorem ob {α β : Type} {o : Option α} {k : α → Option β} {r : β} (h : o.bind k = some r) : ∃ x, o = some x ∧ k x = some r := by
  cases o with
  | none => cases h
  | some x => exact ⟨x, rfl, h⟩
theorem oc_t {α : Type} {b : Bool} {x y : Option α} {r : α} (hb : b = true) (h : (bif b then x else y) = some r) : x = some r := by subst hb; exact h
theorem oc_f {α : Type} {b : Bool} {x y : Option α} {r : α} (hb : b = false) (h : (bif b then x else y) = some r) : y = some r := by subst hb; exact h
theorem geti_some {α : Type} {xs : List α} {i : Int} {x : α} (h : geti xs i = some x) : i = (i.toNat : Int) ∧ xs[i.toNat]? = some x := by
  unfold geti at h
  split at h
  · exact ⟨by omega, h⟩
  · cases h
theorem appM_some {α : Type} {by_ : Nat} {xs ys zs : List α} (h : appM by_ xs ys = some zs) : (xs.length + ys.length ≤ 9223372036854775807 ∧ (xs.length + ys.length) * by_ ≤ 140737488355328) ∧ xs ++ ys = zs := by
  unfold appM roomB at h
  cases hb : (decide (xs.length + ys.length ≤ 9223372036854775807) && decide ((xs.length + ys.length) * by_ ≤ 140737488355328)) with
  | false => rw [hb] at h; cases h
  | true =>
    rw [hb] at h
    simp only [Bool.and_eq_true, decide_eq_true_eq] at hb
    exact ⟨hb, by simpa using h⟩
theorem repM_some {α : Type} {by_ : Nat} {m : Int} {x : α} {zs : List α} (h : repM by_ m x = some zs) : m = (m.toNat : Int) ∧ (by_ * m.toNat ≤ 281474976710656 ∧ m.toNat ≤ 9223372036854775807) ∧ List.replicate m.toNat x = zs := by
  unfold repM at h
  cases hb : (decide (0 ≤ m) && decide (by_ * m.toNat ≤ 281474976710656) && decide (m.toNat ≤ 9223372036854775807)) with
  | false => rw [hb] at h; cases h
  | true =>
    rw [hb] at h
    simp only [Bool.and_eq_true, decide_eq_true_eq] at hb
    exact ⟨by omega, ⟨hb.1.2, hb.2⟩, by simpa using h⟩
theorem cutM_some {α : Type} {xs zs : List α} {lo hi : Int} (h : cutM xs lo hi = some zs) : (lo = (lo.toNat : Int) ∧ hi = (hi.toNat : Int) ∧ lo.toNat ≤ hi.toNat ∧ hi.toNat ≤ xs.length) ∧ (xs.take hi.toNat).drop lo.toNat = zs := by
  unfold cutM at h
  cases hb : (decide (0 ≤ lo) && decide (lo ≤ hi) && decide (hi ≤ xs.length)) with
  | false => rw [hb] at h; cases h
  | true =>
    rw [hb] at h
    simp only [Bool.and_eq_true, decide_eq_true_eq] at hb
    exact ⟨by omega, by simpa using h⟩
theorem addS_some {s t z : ByteArray} (h : addS s t = some z) : s.size + t.size ≤ 9223372036854775807 ∧ s ++ t = z := by
  unfold addS at h
  cases hb : decide (s.size + t.size ≤ 9223372036854775807) with
  | false => rw [hb] at h; cases h
  | true => rw [hb] at h; exact ⟨of_decide_eq_true hb, by simpa using h⟩
theorem RW.geti {α : Type} {t : Ty α} {f : Fz} {rows : List (List Value)} {xs : List α} {i : Int} {x : α} (h : RW t f rows xs) (hx : geti xs i = some x) :
    ∃ r, rows[i.toNat]? = some r ∧ t.R f r x ∧ i = (i.toNat : Int) ∧ i.toNat < rows.length := by
  obtain ⟨h1, h2⟩ := geti_some hx
  obtain ⟨r, h3, h4⟩ := h.get h2
  exact ⟨r, h3, h4, h1, (List.getElem?_eq_some_iff.1 h3).1⟩
/-! Truth values joined -/
theorem and_t {g x : Bool} (h : g = true) : (g && x) = x := by simp [h]
theorem and_f {g x : Bool} (h : g = false) : (g && x) = false := by simp [h]
theorem or_t {g x : Bool} (h : g = true) : (g || x) = true := by simp [h]
theorem or_f {g x : Bool} (h : g = false) : (g || x) = x := by simp [h]
theorem bif_t {α : Type} {g : Bool} {x y : α} (h : g = true) : (bif g then x else y) = x := by simp [h]
theorem bif_f {α : Type} {g : Bool} {x y : α} (h : g = false) : (bif g then x else y) = y := by simp [h]
theorem lkB {E : List (Nat × Value)} {t : Nat} {b c : Bool} (h : b = c) (hl : look E t = some (.bool c)) : look E t = some (.bool b) := by rw [h]; exact hl
section
variable {P : Program} {f f' : Fz} {L L' : List Ent} {w0 w w' : World} {n : Nat} {E E' : List (Nat × Value)} {a : Act}
variable {ops : Array Oper} {rest : List Oper} {o : Oper} {K : AP} {C : World → Prop}
variable {d : Option Tmp} {ty : TypeId} {pos : String} {af : Array Edge} {g : Option (Nat × Bool)}
theorem W_post {Qn : AP} {Qe : Nat → AP} {Qr : AP} {Qg : Nat → AP} {c : Code} (I : AP) (h1 : ∀ a w, I a w → Qn a w) (h2 : W P c I Qe Qr Qg a w) : W P c Qn Qe Qr Qg a w :=
  W.mono h2 h1 (fun _ _ _ h => h) (fun _ _ h => h) (fun _ _ _ h => h)
theorem St.subL (hs : St n w0 f L E a w) (h : L'.Sublist L) : St n w0 f L' E a w := ⟨hs.ev, hs.cw.sub h⟩
theorem Cell.fz {b o : Nat} {cs : Array Value} {e : TypeId} {fr : Nat × Nat} {u : Value} (hb : f b = some (.cells cs e fr)) (h : cs[o]? = some u) : Cell f L b o u := .inl ⟨cs, e, fr, hb, h⟩
/-- A live block is frozen. -/
theorem St.frzB {b : Nat} {o : Obj} (i : Nat) (hs : St n w0 f L E a w) (hi : L[i]? = some (.blk b o)) : ∃ f', Fz.le f f' ∧ St n w0 f' (L.eraseIdx i) E a w ∧ f' b = some o := by
  obtain ⟨f', h1, h2, h3, _⟩ := hs.cw.freezeAt hi
  exact ⟨f', h1, ⟨hs.ev, h2⟩, by rw [h3 b rfl]; exact hs.cw.live _ (List.mem_of_getElem? hi)⟩
/-- What the entry number i holds is put ahead of the others. -/
def toFront (L : List Ent) (i : Nat) : List Ent := match L[i]? with
  | some x => x :: L.eraseIdx i
  | none => L
theorem Cw.front (h : Cw w0 f L w) (i : Nat) : Cw w0 f (toFront L i) w := by
  unfold toFront
  split
  · rename_i x hi
    have he := h.erase i
    have key : ∀ (p : Nat), (L.eraseIdx i)[p]? = L[if p < i then p else p + 1]? := fun p => by rw [List.getElem?_eraseIdx]; split <;> rfl
    have hm := List.mem_of_getElem? hi
    refine ⟨h.os, h.tape, h.output, h.size, h.frz, fun z hz => ?_, fun z hz => ?_, ?_⟩
    · rcases List.mem_cons.1 hz with rfl | hz
      · exact h.live _ hm
      · exact he.live z hz
    · rcases List.mem_cons.1 hz with rfl | hz
      · exact h.apart _ hm
      · exact he.apart z hz
    · intro p q u v hp hq hpq b hu hv
      cases p with
      | zero =>
        simp at hp; subst hp
        cases q with
        | zero => omega
        | succ q =>
          simp only [List.getElem?_cons_succ] at hq
          rw [key] at hq
          exact h.sep i _ x v hi hq (by split <;> omega) b hu hv
      | succ p =>
        simp only [List.getElem?_cons_succ] at hp
        cases q with
        | zero =>
          simp at hq; subst hq
          rw [key] at hp
          exact h.sep _ i u x hp hi (by split <;> omega) b hu hv
        | succ q =>
          simp only [List.getElem?_cons_succ] at hq
          exact he.sep p q u v hp hq (by omega) b hu hv
  · exact h
theorem St.front (hs : St n w0 f L E a w) (i : Nat) : St n w0 f (toFront L i) E a w := ⟨hs.ev, hs.cw.front i⟩
theorem St.one (hs : St n w0 f L E a w) {i : Nat} {v : Value} {e : TypeId} {k : Nat} {rows : List (List Value)} (hi : L[i]? = some (.row v e k rows)) : v.oneCell' = true := by
  obtain ⟨⟨_, h⟩, _⟩ := hs.cw.live _ (List.mem_of_getElem? hi)
  rcases h with ⟨rfl, _⟩ | ⟨g, cap, cur, rfl, _⟩ <;> rfl
end
end Go.Sl
namespace Go.Sl
open Go.RowKit
/-! Operations, in the lifter's hand. -/
/-- An element written over. -/
def seti {α : Type} (xs : List α) (i : Int) (x : α) : Option (List α) := if 0 ≤ i ∧ i.toNat < xs.length then some (xs.set i.toNat x) else none
theorem seti_some {α : Type} {xs zs : List α} {i : Int} {x : α} (h : seti xs i x = some zs) : xs.set i.toNat x = zs := by
  unfold seti at h
  split at h
  · simpa using h
  · cases h
section
variable {α : Type} {t : Ty α} {f f' : Fz}
theorem RW.ofGet : ∀ {rows : List (List Value)} {xs : List α}, rows.length = xs.length → (∀ (i : Nat) r y, rows[i]? = some r → xs[i]? = some y → t.R f r y) → RW t f rows xs
  | [], [], _, _ => trivial
  | r :: rs, x :: xs, hl, h => ⟨h 0 r x rfl rfl, RW.ofGet (by simpa using hl) fun i r y h1 h2 => h (i + 1) r y (by simpa using h1) (by simpa using h2)⟩
  | [], _ :: _, hl, _ => by simp at hl
  | _ :: _, [], hl, _ => by simp at hl
theorem RW.at {rows : List (List Value)} {xs : List α} {i : Nat} {r : List Value} {y : α} (h : RW t f rows xs) (h1 : rows[i]? = some r) (h2 : xs[i]? = some y) : t.R f r y := by
  obtain ⟨r', h3, h4⟩ := h.get h2
  rw [h1] at h3
  cases h3
  exact h4
end
section
variable {P : Program} {f f' : Fz} {L L' : List Ent} {w0 w w' : World} {n : Nat} {E E' : List (Nat × Value)} {a : Act}
variable {ops : Array Oper} {rest : List Oper} {o : Oper} {K : AP} {C : World → Prop}
variable {d : Option Tmp} {ty : TypeId} {pos : String} {af : Array Edge} {g : Option (Nat × Bool)}
theorem y_lenW {α : Type} {ty' : Ty α} {xs : List α} {x : Operand} {t e : TypeId} {v : Value} {k : Nat} {rows : List (List Value)} (hR : Rd f L v k rows) (hW : RW ty' f' rows xs) (h : opv E x = some v) (ht : P.underlying t = some (.slice e)) :
    Y P C n E ⟨d, .call { callee := .builtin .len, args := #[x], argTypes := #[t] }, ty, pos, af, g⟩ (.int .i64 xs.length) := by
  rw [← hW.len]; exact y_lenR0 hR h ht
theorem y_saddW {x y : Operand} {t t' : TypeId} {s u z : ByteArray} (hx : opv E x = some (.string s)) (hy : opv E y = some (.string u)) (hb : s.size + u.size ≤ 9223372036854775807) (he : s ++ u = z) :
    Y P C n E ⟨d, .binOp .add t x y t', ty, pos, af, g⟩ (.string z) := by subst he; exact y_sadd hx hy hb
theorem getS_some {s : ByteArray} {i b : Int} (h : getS s i = some b) : (0 ≤ i ∧ i < s.size) ∧ ((s[i.toNat]!).toNat : Int) = b := by
  obtain ⟨h1, h2⟩ := geti_some h
  have hlt := (List.getElem?_eq_some_iff.1 h2).1
  rw [bytesIn_length] at hlt
  refine ⟨by omega, ?_⟩
  simp only [bytesIn, List.getElem?_map, Option.map_eq_some_iff] at h2
  obtain ⟨u, h3, h4⟩ := h2
  rw [← h4]
  congr 2
  have h5 : s[i.toNat]! = s[i.toNat]'hlt := by simp [hlt]
  rw [h5]
  have h6 : s.data.toList[i.toNat]'(by simpa using hlt) = u := by
    have := List.getElem?_eq_some_iff.1 h3
    exact this.2
  rw [← h6]
  rfl
theorem y_ixW {t : TypeId} {x ix : Operand} {s : ByteArray} {ik : IntKind} {i b : Int} (hx : opv E x = some (.string s)) (hi : opv E ix = some (.int ik i)) (ht : P.underlying t = some .string) (hb : getS s i = some b) :
    Y P C n E ⟨d, .index t x ix, ty, pos, af, g⟩ (.int .u8 b) := by
  obtain ⟨h1, h2⟩ := getS_some hb
  rw [← h2]; exact y_ixS hx hi ht h1
/-- A whole struct out of a frozen block. -/
theorem y_ldF {t : TypeId} {x : Operand} {b : Nat} {td : TypeDesc} {cs : Array Value} {e : TypeId} {fr : Nat × Nat} {k by_ : Nat} {z : Value} (hx : opv E x = some (.pointer (some ⟨b, 0, none⟩))) (ht : P.underlying t = some td) (ha : Agg td = true) (hT : TI P t k by_ z)
    (hm : f b = some (.cells cs e fr)) (hk : cs.size = k) : Y P (Cw w0 f L) n E ⟨d, .load t x, ty, pos, af, g⟩ (.agg cs) := by
  have := y_loadAgg (P := P) (f := f) (L := L) (w0 := w0) (n := n) (d := d) (ty := ty) (pos := pos) (af := af) (g := g) (cs := cs.toList) hx (fun j u hj => by rw [Nat.zero_add]; exact Cell.fz hm (by simpa using hj)) ht ha hT (by simpa using hk)
  simpa using this
/-- A part of a live block. -/
theorem y_ldP {t : TypeId} {x : Operand} {b o : Nat} {td : TypeDesc} {C : Array Value} {cs : List Value} {e : TypeId} {fr : Nat × Nat} {k by_ : Nat} {z : Value} (hx : opv E x = some (.pointer (some ⟨b, o, none⟩))) (ht : P.underlying t = some td) (ha : Agg td = true) (hT : TI P t k by_ z)
    (hm : .blk b (.cells C e fr) ∈ L) (hk : cs.length = k) (hc : (C.toList.drop o).take k = cs) : Y P (Cw w0 f L) n E ⟨d, .load t x, ty, pos, af, g⟩ (.agg cs.toArray) := by
  refine y_loadAgg hx (fun j u hj => Cell.blk hm ?_) ht ha hT hk
  rw [← hc] at hj
  rw [List.getElem?_take] at hj
  split at hj
  · rw [List.getElem?_drop] at hj; simpa using hj
  · cases hj
/-- 'make([]T, n)'. -/
theorem RL_makeW {t e : TypeId} {x y : Operand} {k by_ : Nat} {m : Int} {z : Value} {dd : Nat} (hs : St n w0 f L E a w) (hx : opv E x = some (.int .i64 m)) (hy : opv E y = some (.int .i64 m)) (hm : m = (m.toNat : Int)) (ht : P.underlying t = some (.slice e)) (hT : TI P e k by_ z)
    (hk : 0 < k ∧ z.cells.size = k) (h1 : OneRow k z.cells.toList) (hb : by_ * m.toNat ≤ 281474976710656 ∧ m.toNat ≤ 9223372036854775807)
    (h : ∀ v a w, St n w0 f (.row v e k (List.replicate m.toNat z.cells.toList) :: L) ((dd, v) :: E) a w → RL P ops rest K a w) (hd : dd < n := by decide) :
    RL P ops (⟨some dd, .makeSlice t x y, ty, pos, af, none⟩ :: rest) K a w :=
  RL_make hs (by rw [hm] at hx; exact hx) (by rw [hm] at hy; exact hy) ht hT hk h1 hb h hd
theorem St.subs (hs : St n w0 f L E a w) (h : Sub E E') (hL : L'.Sublist L) : St n w0 f L' E' a w := (hs.sub h).subL hL
/-! Results -/
def ResV (P : Program) (a : Act) (w : World) : ResultVar → Value → Prop
  | .tmp t, v => a.tmps.getD t undef = v
  | .cell t ty, v => ∃ p, a.tmps.getD t undef = .pointer (some p) ∧ (loadVar ty p).run P w = .ok v w
theorem getD_slot (hs : St n w0 f L E a w) {t : Nat} {v : Value} (hl : look E t = some v) : a.tmps.getD t undef = v := by
  simp [Array.getD_eq_getD_getElem?, hs.ev.slots t v hl]
theorem rv_t (hs : St n w0 f L E a w) {t : Nat} {v : Value} (hl : look E t = some v) : ResV P a w (.tmp t) v := getD_slot hs hl
theorem rv_a (hs : St n w0 f L E a w) {t b : Nat} {ty : TypeId} {td : TypeDesc} {cs : Array Value} {k by_ : Nat} {z : Value} (hl : look E t = some (.pointer (some ⟨b, 0, none⟩))) (ht : P.underlying ty = some td) (ha : Agg td = true) (hT : TI P ty k by_ z)
    (hc : ∀ (j : Nat) u, cs[j]? = some u → Cell f L b j u) (hk : cs.size = k) : ResV P a w (.cell t ty) (.agg cs) := by
  refine ⟨_, getD_slot hs hl, ?_⟩
  obtain ⟨it, hit, _, hk', _⟩ := hT
  have hld : (loadCells ⟨b, 0, none⟩ it.size).run P w = .ok cs w := by
    have := run_loadCells_list (P := P) w ⟨b, 0, none⟩ cs.toList fun j u hj => by rw [add_lit, Nat.zero_add]; exact (hc j u (by simpa using hj)).cell? hs.cw
    rw [hk', ← hk]; simpa using this
  cases td <;> first | (simp [Agg] at ha; done) | simp [loadVar, isAgg, run_underlying ht, sizeOf, typeInfo, hit, hld]
def resRun (a : Act) : ResultVar → Sem Value
  | .tmp t => pure (a.tmps.getD t undef)
  | .cell q t => do loadVar t (← asAddr (a.tmps.getD q undef))
theorem run_res {r : ResultVar} {v : Value} (h : ResV P a w r v) : (resRun a r).run P w = .ok v w := by
  cases r with
  | tmp t => simp only [ResV] at h; simp only [resRun, h, Sem.run_pure]
  | cell q t =>
    obtain ⟨p, h1, h2⟩ := h
    simp only [resRun, h1, asAddr, Sem.run_bind, Sem.run_pure, Result.andThen_ok, h2]
theorem RtV0 {fn : Func} {R : Ending → World → Prop} (hs : St n w0 f L E a w) (hr : fn.results = #[]) (h : R (.returned (.tuple #[])) w) : Rt P fn R a w := Rt_0 hs hr h
theorem RtV1 {fn : Func} {R : Ending → World → Prop} {r1 : ResultVar} {v1 : Value} (hs : St n w0 f L E a w) (hr : fn.results = #[r1]) (h1 : ResV P a w r1 v1) (h : R (.returned v1) w) : Rt P fn R a w := by
  refine ⟨hs.ev.defers, v1, ?_, h⟩
  have e1 := run_res h1
  unfold results
  rw [hr]
  simp only [List.mapM_toArray, List.mapM_cons, List.mapM_nil, Sem.run_bind, Sem.run_pure, bind_assoc, pure_bind, map_eq_pure_bind]
  erw [e1]
  simp
theorem RtV2 {fn : Func} {R : Ending → World → Prop} {r1 r2 : ResultVar} {v1 v2 : Value} (hs : St n w0 f L E a w) (hr : fn.results = #[r1, r2]) (h1 : ResV P a w r1 v1) (h2 : ResV P a w r2 v2) (h : R (.returned (.tuple #[v1, v2])) w) : Rt P fn R a w := by
  refine ⟨hs.ev.defers, _, ?_, h⟩
  have e1 := run_res h1
  have e2 := run_res h2
  unfold results
  rw [hr]
  simp only [List.mapM_toArray, List.mapM_cons, List.mapM_nil, Sem.run_bind, Sem.run_pure, bind_assoc, pure_bind, map_eq_pure_bind]
  erw [e1]
  simp only [Result.andThen_ok]
  erw [e2]
  simp
theorem RtV3 {fn : Func} {R : Ending → World → Prop} {r1 r2 r3 : ResultVar} {v1 v2 v3 : Value} (hs : St n w0 f L E a w) (hr : fn.results = #[r1, r2, r3]) (h1 : ResV P a w r1 v1) (h2 : ResV P a w r2 v2) (h3 : ResV P a w r3 v3) (h : R (.returned (.tuple #[v1, v2, v3])) w) : Rt P fn R a w := by
  refine ⟨hs.ev.defers, _, ?_, h⟩
  have e1 := run_res h1
  have e2 := run_res h2
  have e3 := run_res h3
  unfold results
  rw [hr]
  simp only [List.mapM_toArray, List.mapM_cons, List.mapM_nil, Sem.run_bind, Sem.run_pure, bind_assoc, pure_bind, map_eq_pure_bind]
  erw [e1]
  simp only [Result.andThen_ok]
  erw [e2]
  simp only [Result.andThen_ok]
  erw [e3]
  simp
end
end Go.Sl
namespace Go.Sl
open Go.RowKit
/-! Plans where several effects are ready at once: each may come first. -/
inductive PT where
  | done
  | look (i : Nat) (p : PT)
  | any (l : List Nat) (p : Nat → PT)
section
variable {P : Program} {ops : Array Oper} {Q : AP} {F : (World → Prop) → Prop} {brk : List Nat}
/-- The operations that one waits for, as bits. -/
def emask (o : Oper) : Nat := o.after.toList.foldr (fun e m => if Region.binds .any e then m ||| 2 ^ e.on else m) 0
theorem emask_bit (o : Oper) (k : Nat) : (emask o).testBit k = true ↔ ∃ e ∈ o.after, Region.binds .any e = true ∧ e.on = k := by
  have : ∀ l : List Edge, (l.foldr (fun e m => if Region.binds .any e then m ||| 2 ^ e.on else m) 0).testBit k = true ↔ ∃ e ∈ l, Region.binds .any e = true ∧ e.on = k := by
    intro l
    induction l with
    | nil => simp
    | cons e l ih =>
      simp only [List.foldr_cons]
      split
      · rename_i hb
        rw [Nat.testBit_or, Bool.or_eq_true, ih, Nat.testBit_two_pow]
        constructor
        · rintro (⟨e', h1, h2⟩ | h)
          · exact ⟨e', by simp [h1], h2⟩
          · exact ⟨e, by simp, hb, by simpa using h⟩
        · rintro ⟨e', h1, h2, h3⟩
          rcases List.mem_cons.1 h1 with rfl | h1
          · exact .inr (by simpa using h3)
          · exact .inl ⟨e', h1, h2, h3⟩
      · rename_i hb
        rw [ih]
        constructor
        · rintro ⟨e', h1, h2⟩; exact ⟨e', by simp [h1], h2⟩
        · rintro ⟨e', h1, h2⟩
          rcases List.mem_cons.1 h1 with rfl | h1
          · exact absurd h2.1 hb
          · exact ⟨e', h1, h2⟩
  have h := this o.after.toList
  unfold emask
  rw [h]; simp
def subN (e l : Nat) : Bool := Nat.beq (e &&& l) e
theorem subN_spec {e l : Nat} : subN e l = true ↔ ∀ k, e.testBit k = true → l.testBit k = true := by
  unfold subN
  rw [Nat.beq_eq]
  constructor
  · intro h k hk
    rw [← h, Nat.testBit_and] at hk
    simp at hk; exact hk.2
  · intro h
    apply Nat.eq_of_testBit_eq
    intro k
    rw [Nat.testBit_and]
    cases he : e.testBit k with
    | false => rfl
    | true => simp [h k he]
/-- What waits for one, in however many steps, and that one. -/
def depsN : List Nat → Nat → Nat → Nat
  | [], _, d => d
  | m :: ms, j, d => depsN ms (j + 1) (bif Nat.beq (m &&& d) 0 then d else d ||| 2 ^ j)
theorem depsN_ge : ∀ (ms : List Nat) (j d k : Nat), d.testBit k = true → (depsN ms j d).testBit k = true
  | [], _, _, _, h => h
  | m :: ms, j, d, k, h => by
    unfold depsN
    refine depsN_ge ms _ _ k ?_
    cases Nat.beq (m &&& d) 0 with
    | true => exact h
    | false => simp [Nat.testBit_or, h]
theorem depsN_from : ∀ (ms : List Nat) (j d k : Nat), (depsN ms j d).testBit k = true → d.testBit k = true ∨ ∃ p m q, ms[p]? = some m ∧ k = j + p ∧ m.testBit q = true ∧ (depsN ms j d).testBit q = true
  | [], _, _, _, h => .inl h
  | m :: ms, j, d, k, h => by
    unfold depsN at h ⊢
    cases hb : Nat.beq (m &&& d) 0 with
    | true =>
      rw [hb] at h
      rcases depsN_from ms (j + 1) d k h with h1 | ⟨p, m', q, h1, h2, h3⟩
      · exact .inl h1
      · exact .inr ⟨p + 1, m', q, by simpa using h1, by omega, h3⟩
    | false =>
      rw [hb] at h
      simp only [cond_false] at h ⊢
      rcases depsN_from ms (j + 1) (d ||| 2 ^ j) k h with h1 | ⟨p, m', q, h1, h2, h3⟩
      · rw [Nat.testBit_or, Bool.or_eq_true, Nat.testBit_two_pow] at h1
        rcases h1 with h1 | h1
        · exact .inl h1
        · have hk : j = k := by simpa using h1
          have hne : m &&& d ≠ 0 := fun e => by rw [e] at hb; simp at hb
          obtain ⟨q, hq⟩ := Nat.exists_testBit_of_ne_zero hne
          rw [Nat.testBit_and, Bool.and_eq_true] at hq
          exact .inr ⟨0, m, q, rfl, by omega, hq.1, depsN_ge _ _ _ _ (by simp [Nat.testBit_or, hq.2])⟩
      · exact .inr ⟨p + 1, m', q, by simpa using h1, by omega, h3⟩
def readyN (ms : List Nat) (lm : Nat) : List Nat := (List.range ms.length).filter fun j => !lm.testBit j && subN (ms.getD j 0) lm
def freeN (ops : Array Oper) (ms : List Nat) (lm i : Nat) : Bool := match ops[i]? with
  | none => false
  | some oi => (List.range ops.size).all fun j => Nat.beq j i || lm.testBit j || (ms.getD j 0).testBit i || match ops[j]? with
    | some oj => oi.apart ops oj
    | none => true
def planN (ops : Array Oper) (ms : List Nat) (brk : List Nat) : Nat → PT → Nat → Bool
  | _, .done, lm => subN (2 ^ ms.length - 1) lm
  | m + 1, .look i p, lm => (!lm.testBit i && subN (ms.getD i 0) lm && decide (i < ms.length)) && freeN ops ms lm i &&
      (let d := depsN ms 0 (2 ^ i); Nat.beq (lm &&& d) 0 && brk.all fun b => d.testBit b) &&
      planN ops ms brk m p (lm ||| 2 ^ i)
  | m + 1, .any l p, lm => decide (readyN ms lm = l) && !l.isEmpty && l.all fun i => planN ops ms brk m (p i) (lm ||| 2 ^ i)
  | 0, _, _ => false
def masksN (ops : Array Oper) : List Nat := ops.toList.map emask
def Ag (listed : Array Bool) (lm : Nat) : Prop := ∀ k, listed.getD k false = lm.testBit k
theorem Ag.set {listed : Array Bool} {lm i : Nat} (h : Ag listed lm) (hi : i < listed.size) : Ag (listed.setIfInBounds i true) (lm ||| 2 ^ i) := fun k => by
  rw [Nat.testBit_or, Nat.testBit_two_pow, ← h k]
  by_cases e : i = k
  · subst e; simp [Array.getD_eq_getD_getElem?, hi]
  · simp [Array.getD_eq_getD_getElem?, e]
theorem masksN_at {j : Nat} {o : Oper} (h : ops[j]? = some o) : (masksN ops).getD j 0 = emask o := by
  simp [masksN, List.getD_eq_getElem?_getD, h]
theorem masksN_len : (masksN ops).length = ops.size := by simp [masksN]
theorem Ag.ready {listed : Array Bool} {lm : Nat} (h : Ag listed lm) (hsz : listed.size = ops.size) : Region.ready .any ops listed = readyN (masksN ops) lm := by
  unfold Region.ready readyN
  rw [masksN_len]
  refine List.filter_congr fun j hj => ?_
  have hj : j < ops.size := List.mem_range.1 hj
  obtain ⟨o, ho⟩ : ∃ o, ops[j]? = some o := ⟨ops[j], by simp [hj]⟩
  have h1 : j ∈ Region.ready .any ops listed ↔ (!lm.testBit j && subN ((masksN ops).getD j 0) lm) = true := by
    rw [mem_ready, masksN_at ho, Bool.and_eq_true, subN_spec]
    have h0 : listed.getD j true = listed.getD j false := by simp [Array.getD_eq_getD_getElem?, hsz, hj]
    rw [h0, h j]
    constructor
    · rintro ⟨h1, o', ho', h2⟩
      rw [ho] at ho'; cases ho'
      refine ⟨by simp [h1], fun k hk => ?_⟩
      obtain ⟨e, he, hb, rfl⟩ := (emask_bit o k).1 hk
      rw [← h]; exact h2 e he hb
    · rintro ⟨h1, h2⟩
      refine ⟨by simpa using h1, o, ho, fun e he hb => ?_⟩
      rw [h]; exact h2 _ ((emask_bit o e.on).2 ⟨e, he, hb, rfl⟩)
  unfold Region.ready at h1
  rw [List.mem_filter] at h1
  simp only [List.mem_range, hj, true_and] at h1
  exact Bool.eq_iff_iff.2 h1
theorem Ag.free {listed : Array Bool} {lm i : Nat} (h : Ag listed lm) (hsz : listed.size = ops.size) (hf : freeN ops (masksN ops) lm i = true) : Region.free .any ops listed i = true := by
  unfold freeN at hf
  unfold Region.free
  cases ho : ops[i]? with
  | none => rw [ho] at hf; cases hf
  | some oi =>
    rw [ho] at hf
    simp only at hf ⊢
    rw [List.all_eq_true] at hf ⊢
    intro j hj
    have hj' : j < ops.size := List.mem_range.1 hj
    have := hf j hj
    obtain ⟨o, hoj⟩ : ∃ o, ops[j]? = some o := ⟨ops[j], by simp [hj']⟩
    rw [masksN_at hoj, hoj] at this
    rw [hoj]
    have h0 : listed.getD j true = listed.getD j false := by simp [Array.getD_eq_getD_getElem?, hsz, hj']
    simp only [Bool.or_eq_true, Nat.beq_eq, beq_iff_eq] at this ⊢
    rw [h0, h j]
    rcases this with ((h1 | h1) | h1) | h1
    · exact .inl (.inl h1)
    · exact .inl (.inr h1)
    · refine .inr (.inl ?_)
      obtain ⟨e, he, hb, heq⟩ := (emask_bit o i).1 h1
      exact Array.any_eq_true'.2 ⟨e, he, by simp [hb, heq]⟩
    · exact .inr (.inr h1)
def DT (P : Program) (ops : Array Oper) (F : (World → Prop) → Prop) (brk : List Nat) (m : Nat) (p : PT) (K : AP) (a : Act) (X : World → Prop) : Prop :=
  ∀ (listed : Array Bool) (lm : Nat), listed.size = ops.size → Ag listed lm → Region.noSelect ops = true → planN ops (masksN ops) brk m p lm = true → anyX P ops K F brk m listed a X
def DKT (P : Program) (ops : Array Oper) (F : (World → Prop) → Prop) (brk : List Nat) (i m : Nat) (p : PT) (K : AP) : AP :=
  fun a w => ∃ X, X w ∧ (F X ∨ i ∈ brk) ∧ DT P ops F brk m p K a X
theorem DT_done {K : AP} {a : Act} {X : World → Prop} {m : Nat} (h : ∀ w, X w → K a w) : DT P ops F brk m .done K a X := by
  intro listed lm hsz hag _ hp
  have hp : subN (2 ^ (masksN ops).length - 1) lm = true := by cases m <;> simpa [planN] using hp
  have h0 : Region.ready .any ops listed = [] := by
    rw [hag.ready hsz]
    refine List.filter_eq_nil_iff.2 fun j hj => ?_
    have hj : j < (masksN ops).length := List.mem_range.1 hj
    have := subN_spec.1 hp j (by rw [Nat.testBit_two_pow_sub_one]; simpa using hj)
    simp [this]
  cases m with
  | zero => exact ⟨h0, h⟩
  | succ m => exact ⟨fun _ => h, fun i hi => by rw [h0] at hi; cases hi⟩
theorem DT_look {i m : Nat} {o : Oper} {p : PT} {K : AP} {a : Act} {X : World → Prop} {v : Value} (hi : ops[i]? = some o) (hX : F X) (hy : YX P ops F o v a)
    (h : DT P ops F brk m p K (a.put o.dst v) X) : DT P ops F brk (m + 1) (.look i p) K a X := by
  intro listed lm hsz hag hsel hp
  simp only [planN, Bool.and_eq_true] at hp
  obtain ⟨⟨⟨⟨⟨h1, h2⟩, h3⟩, h4⟩, h5, h6⟩, h7⟩ := hp
  have hlt : i < ops.size := (Array.getElem?_eq_some_iff.1 hi).1
  have hz : lm &&& depsN (masksN ops) 0 (2 ^ i) = 0 := by simpa using h5
  have hin : (depsN (masksN ops) 0 (2 ^ i)).testBit i = true := depsN_ge _ _ _ _ (by simp)
  obtain ⟨U, hU⟩ : ∃ U : Array Bool, U = ((List.range ops.size).map fun k => !(depsN (masksN ops) 0 (2 ^ i)).testBit k).toArray := ⟨_, rfl⟩
  have hUk : ∀ k, k < ops.size → U.getD k false = !(depsN (masksN ops) 0 (2 ^ i)).testBit k := fun k hk => by
    rw [hU]; simp [Array.getD_eq_getD_getElem?, hk]
  have hUo : ∀ k, ¬ k < ops.size → U.getD k false = false := fun k hk => by
    rw [hU, Array.getD_eq_getD_getElem?, Array.getElem?_eq_none (by simpa using hk)]; rfl
  have hcl : closedB ops U i = true := by
    unfold closedB
    rw [List.all_eq_true]
    intro j hj
    have hj : j < ops.size := List.mem_range.1 hj
    obtain ⟨oj, hoj⟩ : ∃ o, ops[j]? = some o := ⟨ops[j], by simp [hj]⟩
    rw [hUk j hj, hoj]
    by_cases hji : j = i
    · simp [hji]
    cases hd : (depsN (masksN ops) 0 (2 ^ i)).testBit j with
    | false => simp
    | true =>
      rcases depsN_from _ _ _ _ hd with h | ⟨q, mm, r, e1, e2, e3, e4⟩
      · rw [Nat.testBit_two_pow] at h; simp at h; omega
      · have : q = j := by omega
        subst this
        have e1' : mm = emask oj := by have := masksN_at hoj; rw [List.getD_eq_getElem?_getD, e1] at this; simpa using this
        subst e1'
        obtain ⟨e, he, hb, rfl⟩ := (emask_bit oj r).1 e3
        simp only [Bool.or_eq_true]
        refine .inr (Array.any_eq_true'.2 ⟨e, he, ?_⟩)
        rw [hb, Bool.true_and]
        by_cases hr : e.on < ops.size
        · rw [hUk _ hr, e4]; rfl
        · rw [hUo _ hr]; rfl
  refine anyX_take (U := U) hi (Region.noSelect_spec hsel) hcl (fun b hb => ?_) _ _ _ _ (fun k hk => ?_) (Region.free_spec hi (hag.free hsz h4)) ?_ hy hX (h _ _ (by simpa using hsz) (hag.set (by omega)) hsel h7)
  · by_cases hb' : b < ops.size
    · rw [hUk _ hb', List.all_eq_true.1 h6 b hb]; rfl
    · exact hUo _ hb'
  · have hk' : k < ops.size := by
      rcases Nat.lt_or_ge k listed.size with h' | h'
      · omega
      · simp [Array.getElem?_eq_none h'] at hk
    rw [hUk _ hk']
    rw [hag k] at hk
    cases hd : (depsN (masksN ops) 0 (2 ^ i)).testBit k with
    | false => rfl
    | true =>
      have : (lm &&& depsN (masksN ops) 0 (2 ^ i)).testBit k = true := by rw [Nat.testBit_and, hk, hd]; rfl
      rw [hz] at this; simp at this
  · rw [hag.ready hsz]
    refine List.mem_filter.2 ⟨List.mem_range.2 (by simpa using h3), ?_⟩
    rw [Bool.and_eq_true]
    exact ⟨h1, h2⟩
theorem DT_any {l : List Nat} {m : Nat} {p : Nat → PT} {K : AP} {a : Act} {X : World → Prop}
    (h : ∀ i ∈ l, ∃ o, ops[i]? = some o ∧ ∀ w, X w → RL P ops [o] (DKT P ops F brk i m (p i) K) a w) : DT P ops F brk (m + 1) (.any l p) K a X := by
  intro listed lm hsz hag hsel hp
  simp only [planN, Bool.and_eq_true, decide_eq_true_eq] at hp
  obtain ⟨⟨h1, hne⟩, h2⟩ := hp
  rw [← hag.ready hsz] at h1
  rw [List.all_eq_true] at h2
  refine ⟨fun h0 => (by rw [h1] at h0; subst h0; simp at hne), fun j hj w hw => ?_⟩
  rw [h1] at hj
  obtain ⟨o, hi, h⟩ := h j hj
  replace h2 := h2 j hj
  have H := (h w hw).d
  unfold wpOpS
  simp only [hi]
  simp only [RLd] at H
  have hlt : j < listed.size := by have := (Array.getElem?_eq_some_iff.1 hi).1; omega
  have fin : ∀ a' w', DKT P ops F brk j m (p j) K a' w' → ∃ X', X' w' ∧ (F X' ∨ j ∈ brk) ∧ anyX P ops K F brk m (listed.setIfInBounds j true) a' X' :=
    fun a' w' ⟨X', e1, e2, e3⟩ => ⟨X', e1, e2, e3 _ _ (by simpa using hsz) (hag.set hlt) hsel h2⟩
  split
  · rename_i hwt
    rw [if_pos hwt] at H
    exact opS_mono fin H
  · rename_i hwt
    rw [if_neg hwt] at H
    exact fin _ _ H
theorem wp_planT {id : Nat} {Qn : AP} {Qe : Nat → AP} {Qr : AP} {Qg : Nat → AP} {a : Act} {w : World} {X : World → Prop} (p : PT) (hm : P.follows .mixedOrders = true)
    (hB : (Region.noSelect ops && planN ops (masksN ops) brk ops.size p 0) = true) (hX : X { w with drawn := w.drawn + 1 }) (h : DT P ops F brk ops.size p Qn a X) : W P (.region id ops true) Qn Qe Qr Qg a w := by
  simp only [Bool.and_eq_true] at hB
  obtain ⟨h1, h3⟩ := hB
  have h4 := h (Array.replicate ops.size false) 0 (by simp) (fun k => by simp [Array.getD_eq_getD_getElem?, Array.getElem?_replicate]; split <;> simp) h1 h3
  exact W_any hm (anyX_any _ _ _ _ h4 _ hX)
section
variable {n m : Nat} {w0 w : World} {f f' f0 : Fz} {L L' Lc : List Ent} {E E' : List (Nat × Value)} {a : Act} {o : Oper} {K : AP} {i : Nat} {p : PT} {v : Value}
theorem T_start {id : Nat} {l : List Oper} {Qn : AP} {Qe : Nat → AP} {Qr : AP} {Qg : Nat → AP} (hs : St n w0 f L E a w) (Lc : List Ent) (brk : List Nat) (p : PT) (hm : P.follows .mixedOrders = true)
    (hB : (Region.noSelect l.toArray && planN l.toArray (masksN l.toArray) brk l.toArray.size p 0) = true)
    (h : ∀ a, Ev n E a → DT P l.toArray (Fam w0 f Lc) brk l.toArray.size p Qn a (Cw w0 f L)) : W P (.region id l.toArray true) Qn Qe Qr Qg a w :=
  wp_planT p hm hB hs.cw.drew (h a hs.ev)
theorem T_nil (he : Ev n E a) (h : ∀ w, St n w0 f L E a w → K a w) : DT P ops (Fam w0 f0 Lc) brk m .done K a (Cw w0 f L) :=
  DT_done fun w hw => h w ⟨he, hw⟩
theorem T_y (hi : ops[i]? = some o) (he : Ev n E a) (h1 : Fz.le f0 f) (h2 : Lc.Sublist L) (hw : Want ops E o true) (hd : Dst n o v E E') (hq : looks o.op = true) (hy : Y P (Cw w0 f0 Lc) n E o v)
    (h : ∀ a, Ev n E' a → DT P ops (Fam w0 f0 Lc) brk m p K a (Cw w0 f L)) : DT P ops (Fam w0 f0 Lc) brk (m + 1) (.look i p) K a (Cw w0 f L) := by
  refine DT_look hi (.mk h1 h2) (.inl ⟨hw.wanted he, fun X hX w hw => ?_⟩) (h _ (he.dst hd))
  obtain ⟨f', L', g1, g2, rfl⟩ := hX
  have hy' := hy a he w ((hw.weak g1).sub g2)
  unfold Oper.quietAt at hy' ⊢
  cases hr : (execOp a.eval o).run P w with
  | ok x w' =>
    rw [hr] at hy'
    cases x <;> simp only [Oper.quietUpon] at hy' ⊢ <;> try exact hy'
    exact absurd hr (looks_enter hq)
  | halt x w' => rw [hr] at hy'; exact hy'
/-- An operation that is quiet whatever else is frozen or lives: a call. -/
theorem T_c (hi : ops[i]? = some o) (he : Ev n E a) (h1 : Fz.le f0 f) (h2 : Lc.Sublist L) (hw : Want ops E o true) (hd : Dst n o v E E')
    (hy : ∀ f' L', Fz.le f0 f' → Lc.Sublist L' → Y P (Cw w0 f' L') n E o v)
    (h : ∀ a, Ev n E' a → DT P ops (Fam w0 f0 Lc) brk m p K a (Cw w0 f L)) : DT P ops (Fam w0 f0 Lc) brk (m + 1) (.look i p) K a (Cw w0 f L) := by
  refine DT_look hi (.mk h1 h2) (.inl ⟨hw.wanted he, fun X hX w hw => ?_⟩) (h _ (he.dst hd))
  obtain ⟨f', L', g1, g2, rfl⟩ := hX
  exact hy f' L' g1 g2 a he w hw
theorem T_skip (hi : ops[i]? = some o) (he : Ev n E a) (h1 : Fz.le f0 f) (h2 : Lc.Sublist L) (hw : Want ops E o false) (hd : Dst n o undef E E')
    (h : ∀ a, Ev n E' a → DT P ops (Fam w0 f0 Lc) brk m p K a (Cw w0 f L)) : DT P ops (Fam w0 f0 Lc) brk (m + 1) (.look i p) K a (Cw w0 f L) :=
  DT_look hi (.mk h1 h2) (.inr ⟨hw.wanted he, rfl⟩) (h _ (he.dst hd))
theorem T_on (hs : St n w0 f L E a w) (h1 : (Fz.le f0 f ∧ Lc.Sublist L) ∨ i ∈ brk) (h : ∀ a, Ev n E a → DT P ops (Fam w0 f0 Lc) brk m p K a (Cw w0 f L)) : RL P ops [] (DKT P ops (Fam w0 f0 Lc) brk i m p K) a w :=
  RL_nil ⟨Cw w0 f L, hs.cw, h1.imp (fun h => .mk h.1 h.2) id, h a hs.ev⟩
end
end
section
variable {P : Program} {ops : Array Oper} {brk : List Nat} {n m : Nat} {w0 w : World} {f f' f0 : Fz} {L L' Lc : List Ent} {E E' : List (Nat × Value)} {a : Act} {K : AP} {p : PT} {v : Value}
variable {ty : TypeId} {pos : String} {af : Array Edge} {op : Op} {dd j gd : Nat} {b : Bool}
theorem uy (i : Nat) (he : Ev n E a) (hi : ops[i]? = some ⟨some dd, op, ty, pos, af, none⟩) (hy : Y P (Cw w0 f0 Lc) n E ⟨some dd, op, ty, pos, af, none⟩ v)
    (h : ∀ a, Ev n ((dd, v) :: E) a → DT P ops (Fam w0 f0 Lc) brk m p K a (Cw w0 f L)) (h1 : Fz.le f0 f := by first | exact .refl _ | assumption | exact Fz.le.trans (by assumption) (by assumption))
    (h2 : Lc.Sublist L := by first | exact List.Sublist.refl _ | exact List.nil_sublist _ | (repeat (first | exact List.Sublist.refl _ | exact List.nil_sublist _ | apply List.Sublist.cons_cons | apply List.Sublist.cons)))
    (hd : dd < n := by decide) (hq : looks op = true := by rfl) : DT P ops (Fam w0 f0 Lc) brk (m + 1) (.look i p) K a (Cw w0 f L) :=
  T_y hi he h1 h2 (.free rfl) (.to rfl hd) hq hy h
theorem uyg (i : Nat) (he : Ev n E a) (hi : ops[i]? = some ⟨some dd, op, ty, pos, af, some (j, b)⟩) (hy : Y P (Cw w0 f0 Lc) n E ⟨some dd, op, ty, pos, af, some (j, b)⟩ v)
    (h : ∀ a, Ev n ((dd, v) :: E) a → DT P ops (Fam w0 f0 Lc) brk m p K a (Cw w0 f L)) (hg : (ops[j]?).bind (·.dst) = some gd := by rfl) (hl : look E gd = some (.bool b) := by rfl)
    (h1 : Fz.le f0 f := by first | exact .refl _ | assumption | exact Fz.le.trans (by assumption) (by assumption))
    (h2 : Lc.Sublist L := by first | exact List.Sublist.refl _ | exact List.nil_sublist _ | (repeat (first | exact List.Sublist.refl _ | exact List.nil_sublist _ | apply List.Sublist.cons_cons | apply List.Sublist.cons)))
    (hd : dd < n := by decide) (hq : looks op = true := by rfl) : DT P ops (Fam w0 f0 Lc) brk (m + 1) (.look i p) K a (Cw w0 f L) :=
  T_y hi he h1 h2 (.yes rfl hg hl) (.to rfl hd) hq hy h
theorem uno (i : Nat) (he : Ev n E a) (hi : ops[i]? = some ⟨some dd, op, ty, pos, af, some (j, b)⟩)
    (h : ∀ a, Ev n ((dd, undef) :: E) a → DT P ops (Fam w0 f0 Lc) brk m p K a (Cw w0 f L)) (hg : (ops[j]?).bind (·.dst) = some gd := by rfl) (hl : look E gd = some (.bool (!b)) := by rfl)
    (h1 : Fz.le f0 f := by first | exact .refl _ | assumption | exact Fz.le.trans (by assumption) (by assumption))
    (h2 : Lc.Sublist L := by first | exact List.Sublist.refl _ | exact List.nil_sublist _ | (repeat (first | exact List.Sublist.refl _ | exact List.nil_sublist _ | apply List.Sublist.cons_cons | apply List.Sublist.cons)))
    (hd : dd < n := by decide) : DT P ops (Fam w0 f0 Lc) brk (m + 1) (.look i p) K a (Cw w0 f L) :=
  T_skip hi he h1 h2 (.no rfl hg hl) (.to rfl hd) h
theorem uun (i : Nat) (he : Ev n E a) (hi : ops[i]? = some ⟨some dd, op, ty, pos, af, some (j, b)⟩)
    (h : ∀ a, Ev n ((dd, undef) :: E) a → DT P ops (Fam w0 f0 Lc) brk m p K a (Cw w0 f L)) (hg : (ops[j]?).bind (·.dst) = some gd := by rfl) (hl : look E gd = some undef := by rfl)
    (h1 : Fz.le f0 f := by first | exact .refl _ | assumption | exact Fz.le.trans (by assumption) (by assumption))
    (h2 : Lc.Sublist L := by first | exact List.Sublist.refl _ | exact List.nil_sublist _ | (repeat (first | exact List.Sublist.refl _ | exact List.nil_sublist _ | apply List.Sublist.cons_cons | apply List.Sublist.cons)))
    (hd : dd < n := by decide) : DT P ops (Fam w0 f0 Lc) brk (m + 1) (.look i p) K a (Cw w0 f L) :=
  T_skip hi he h1 h2 (.un rfl hg hl) (.to rfl hd) h
/-- A call of a quiet function. -/
theorem ucall (i : Nat) {gn : FuncId} {x : Operand} {as : List Operand} {vs : List Value} {ats : Array TypeId} (he : Ev n E a) (hi : ops[i]? = some ⟨some dd, .call { callee := .value x, args := as.toArray, argTypes := ats }, ty, pos, af, none⟩)
    (hx : opv E x = some (.func (.func gn) #[] #[])) (hg : Has P gn) (hv : as.mapM (opv E) = some vs)
    (hp : ∀ f' L' w, Fz.le f0 f' → Lc.Sublist L' → Cw w0 f' L' w → Calls P gn vs.toArray w fun e w' => e = .returned v ∧ Cw w0 f' L' w')
    (h : ∀ a, Ev n ((dd, v) :: E) a → DT P ops (Fam w0 f0 Lc) brk m p K a (Cw w0 f L)) (h1 : Fz.le f0 f := by first | exact .refl _ | assumption | exact Fz.le.trans (by assumption) (by assumption))
    (h2 : Lc.Sublist L := by first | exact List.Sublist.refl _ | exact List.nil_sublist _ | (repeat (first | exact List.Sublist.refl _ | exact List.nil_sublist _ | apply List.Sublist.cons_cons | apply List.Sublist.cons)))
    (hd : dd < n := by decide) : DT P ops (Fam w0 f0 Lc) brk (m + 1) (.look i p) K a (Cw w0 f L) :=
  T_c hi he h1 h2 (.free rfl) (.to rfl hd) (fun f' L' g1 g2 => y_callC hx hg hv fun w hw => hp f' L' w g1 g2 hw) h
theorem ucallg (i : Nat) {gn : FuncId} {x : Operand} {as : List Operand} {vs : List Value} {ats : Array TypeId} (he : Ev n E a) (hi : ops[i]? = some ⟨some dd, .call { callee := .value x, args := as.toArray, argTypes := ats }, ty, pos, af, some (j, b)⟩)
    (hx : opv E x = some (.func (.func gn) #[] #[])) (hg : Has P gn) (hv : as.mapM (opv E) = some vs)
    (hp : ∀ f' L' w, Fz.le f0 f' → Lc.Sublist L' → Cw w0 f' L' w → Calls P gn vs.toArray w fun e w' => e = .returned v ∧ Cw w0 f' L' w')
    (h : ∀ a, Ev n ((dd, v) :: E) a → DT P ops (Fam w0 f0 Lc) brk m p K a (Cw w0 f L)) (hgd : (ops[j]?).bind (·.dst) = some gd := by rfl) (hl : look E gd = some (.bool b) := by rfl)
    (h1 : Fz.le f0 f := by first | exact .refl _ | assumption | exact Fz.le.trans (by assumption) (by assumption))
    (h2 : Lc.Sublist L := by first | exact List.Sublist.refl _ | exact List.nil_sublist _ | (repeat (first | exact List.Sublist.refl _ | exact List.nil_sublist _ | apply List.Sublist.cons_cons | apply List.Sublist.cons)))
    (hd : dd < n := by decide) : DT P ops (Fam w0 f0 Lc) brk (m + 1) (.look i p) K a (Cw w0 f L) :=
  T_c hi he h1 h2 (.yes rfl hgd hl) (.to rfl hd) (fun f' L' g1 g2 => y_callC hx hg hv fun w hw => hp f' L' w g1 g2 hw) h
theorem uon {i : Nat} (hs : St n w0 f L E a w) (h : ∀ a, Ev n E a → DT P ops (Fam w0 f0 Lc) brk m p K a (Cw w0 f L))
    (h1 : Fz.le f0 f := by first | exact .refl _ | assumption | exact Fz.le.trans (by assumption) (by assumption))
    (h2 : Lc.Sublist L := by first | exact List.Sublist.refl _ | exact List.nil_sublist _ | (repeat (first | exact List.Sublist.refl _ | exact List.nil_sublist _ | apply List.Sublist.cons_cons | apply List.Sublist.cons))) :
    RL P ops [] (DKT P ops (Fam w0 f0 Lc) brk i m p K) a w := T_on hs (.inl ⟨h1, h2⟩) h
theorem uend {i : Nat} (hs : St n w0 f L E a w) (h : ∀ a, Ev n E a → DT P ops (Fam w0 f0 Lc) brk m p K a (Cw w0 f L)) (hb : i ∈ brk := by decide) :
    RL P ops [] (DKT P ops (Fam w0 f0 Lc) brk i m p K) a w := T_on hs (.inr hb) h
/-- One of several effects comes first. -/
theorem T_any {l : List Nat} {p : Nat → PT} (he : Ev n E a) (h : ∀ i ∈ l, ∃ o, ops[i]? = some o ∧ ∀ a w, St n w0 f L E a w → RL P ops [o] (DKT P ops (Fam w0 f0 Lc) brk i m (p i) K) a w) : DT P ops (Fam w0 f0 Lc) brk (m + 1) (.any l p) K a (Cw w0 f L) :=
  DT_any fun i hi => by
    obtain ⟨o, h1, h2⟩ := h i hi
    exact ⟨o, h1, fun w hw => h2 a w ⟨he, hw⟩⟩
theorem T_any1 {i : Nat} {o : Oper} {p : Nat → PT} (he : Ev n E a) (hi : ops[i]? = some o) (h : ∀ a w, St n w0 f L E a w → RL P ops [o] (DKT P ops (Fam w0 f0 Lc) brk i m (p i) K) a w) :
    DT P ops (Fam w0 f0 Lc) brk (m + 1) (.any [i] p) K a (Cw w0 f L) := T_any he fun j hj => by
  simp only [List.mem_singleton] at hj
  subst hj
  exact ⟨o, hi, h⟩
theorem T_any2 {i j : Nat} {o q : Oper} {p : Nat → PT} (he : Ev n E a) (hi : ops[i]? = some o) (hj : ops[j]? = some q) (h : ∀ a w, St n w0 f L E a w → RL P ops [o] (DKT P ops (Fam w0 f0 Lc) brk i m (p i) K) a w)
    (h' : ∀ a w, St n w0 f L E a w → RL P ops [q] (DKT P ops (Fam w0 f0 Lc) brk j m (p j) K) a w) :
    DT P ops (Fam w0 f0 Lc) brk (m + 1) (.any [i, j] p) K a (Cw w0 f L) := T_any he fun k hk => by
  simp only [List.mem_cons, List.mem_nil_iff, or_false] at hk
  rcases hk with rfl | rfl
  · exact ⟨o, hi, h⟩
  · exact ⟨q, hj, h'⟩
end
/-! Functions as values -/
section
variable {P : Program} {f f' : Fz} {L L' : List Ent} {w0 w w' : World} {n : Nat} {E E' : List (Nat × Value)} {a : Act}
variable {ops : Array Oper} {rest : List Oper} {o : Oper} {K : AP} {C : World → Prop}
variable {d : Option Tmp} {ty : TypeId} {pos : String} {af : Array Edge} {g : Option (Nat × Bool)}
theorem y_makeFunc {gn : FuncId} {cs : List Operand} {vs : List Value} (hc : cs.mapM (opv E) = some vs) : Y P C n E ⟨d, .makeFunc (.func gn) #[] cs.toArray, ty, pos, af, g⟩ (.func (.func gn) #[] vs.toArray) :=
  .of fun a ha w _ => by
    have := evalArgs ha hc
    simp [execOp, this, Instr.makeFunc, Sem.run_pure]
end
end Go.Sl
namespace Go.Sl
open Go.RowKit
/-! Maps with strings as keys, as data. -/
section
variable {α : Type}
def SM (enc : α → Value) (es : Array MapEntry) (m : List (ByteArray × α)) : Prop := SMap es.toList (m.map fun p => (p.1, enc p.2))
def mgetM (m : List (ByteArray × α)) (k : ByteArray) : Option α := (m.find? fun p => decide (p.1 = k)).map (·.2)
def mputM (m : List (ByteArray × α)) (k : ByteArray) (v : α) : List (ByteArray × α) := match m with
  | [] => [(k, v)]
  | p :: m => if p.1 = k then (p.1, v) :: m else p :: mputM m k v
theorem SM.nil {enc : α → Value} : SM enc #[] [] := rfl
theorem mget_map (enc : α → Value) (k : ByteArray) : ∀ m : List (ByteArray × α), mget (m.map fun p => (p.1, enc p.2)) k = (mgetM m k).map enc
  | [] => rfl
  | p :: m => by
    have ih := mget_map enc k m
    by_cases h : p.1 = k
    · simp [mget, mgetM, h]
    · simp only [mget, mgetM, List.map_cons, List.find?_cons, h, decide_false] at ih ⊢
      exact ih
theorem mput_map (enc : α → Value) (k : ByteArray) (v : α) : ∀ m : List (ByteArray × α), mput (m.map fun p => (p.1, enc p.2)) k (enc v) = (mputM m k v).map fun p => (p.1, enc p.2)
  | [] => rfl
  | p :: m => by
    have ih := mput_map enc k v m
    by_cases h : p.1 = k
    · simp [mput, mputM, h]
    · simp [mput, mputM, h, ih]
end
section
variable {P : Program} {ops : Array Oper} {rest : List Oper} {n : Nat} {w0 w : World} {f f' : Fz} {L L' : List Ent} {E E' : List (Nat × Value)} {a : Act} {K : AP} {v : Value}
variable {ty : TypeId} {pos : String} {af : Array Edge} {d : Option Tmp} {g : Option (Nat × Bool)} {C : World → Prop} {α : Type}
theorem y_lookupM {enc : α → Value} {t kt e : TypeId} {x y : Operand} {r : Nat} {es : Array MapEntry} {c : Nat} {m : List (ByteArray × α)} {k : ByteArray} {by_ kk : Nat} {z : α} (hx : opv E x = some (.map (some r))) (hy : opv E y = some (.string k))
    (ht : P.underlying t = some (.map kt e)) (hk : P.underlying kt = some .string) (hT : TI P e kk by_ (enc z)) (hm : .blk r (.map es c) ∈ L) (hS : SM enc es m) :
    Y P (Cw w0 f L) n E ⟨d, .lookup t x y false, ty, pos, af, g⟩ (enc ((mgetM m k).getD z)) := by
  have := y_lookupS (P := P) (w0 := w0) (f := f) (L := L) (n := n) (E := E) (d := d) (ty := ty) (pos := pos) (af := af) (g := g) hx hy ht hk hT hm hS
  rw [mget_map] at this
  cases h : mgetM m k with
  | none => rw [h] at this; exact this
  | some u => rw [h] at this; exact this
theorem RL_mapUpdateM {enc : α → Value} {t kt e : TypeId} {x y z : Operand} {r : Nat} {es : Array MapEntry} {c : Nat} {m : List (ByteArray × α)} {k : ByteArray} {u : α} (i : Nat) (hs : St n w0 f L E a w) (hi : L[i]? = some (.blk r (.map es c)))
    (hx : opv E x = some (.map (some r))) (hy : opv E y = some (.string k)) (hz : opv E z = some (enc u)) (ht : P.underlying t = some (.map kt e)) (hk : P.underlying kt = some .string) (hS : SM enc es m)
    (h : ∀ es' c' a w, SM enc es' (mputM m k u) → St n w0 f (L.set i (.blk r (.map es' c'))) E a w → RL P ops rest K a w) : RL P ops (⟨none, .mapUpdate t x y z, ty, pos, af, none⟩ :: rest) K a w :=
  RL_mapUpdateS i hs hi hx hy hz ht hk hS fun es' c' a w hS' hs => h es' c' a w (by rw [mput_map] at hS'; exact hS') hs
end
end Go.Sl
namespace Go.Sl
open Go.RowKit
section
variable {P : Program} {f f' : Fz} {L L' : List Ent} {w0 w w' : World} {n : Nat} {E E' : List (Nat × Value)} {a : Act}
variable {ops : Array Oper} {rest : List Oper} {o : Oper} {K : AP} {C : World → Prop}
variable {d : Option Tmp} {ty : TypeId} {pos : String} {af : Array Edge} {g : Option (Nat × Bool)}
/-! Structs held against each other, field by field -/
section
variable {dp : Nat} {xs ys : Array Value} {fd : Field} {fs : List Field} {c : Bool}
end
/-! Division -/
/-! Slice literals of several elements -/
def numbered : Nat → List Value → List (Nat × Value)
  | _, [] => []
  | m, v :: vs => (m, v) :: numbered (m + 1) vs
theorem foldl_set (l : List Value) : ∀ (m o : Nat) (cs : Array Value), o + m + l.length ≤ cs.size → ((l.zipIdx m).foldl (fun (cs : Array Value) (x : Value × Nat) => cs.setIfInBounds (o + x.2) x.1) cs).toList = cs.toList.take (o + m) ++ l ++ cs.toList.drop (o + m + l.length) := by
  induction l with
  | nil => intro m o cs h; simp
  | cons u l ih =>
    intro m o cs h
    simp only [List.length_cons] at h
    rw [List.zipIdx_cons, List.foldl_cons, ih _ _ _ (by simp; omega)]
    apply List.ext_getElem?
    intro j
    simp only [Array.toList_setIfInBounds, List.getElem?_append, List.length_take, List.length_append, List.length_set, Array.length_toList, List.length_cons, List.getElem?_take, List.getElem?_drop, List.getElem?_set]
    grind
theorem fill_many {k : Nat} : ∀ (vs : List Value) (m : Nat) (cs : Array Value), (∀ v ∈ vs, v.cells.size = k) → (m + vs.length) * k ≤ cs.size →
    Instr.fill (fun i => some (i * k, k)) cs (numbered m vs) = some (cs.toList.take (m * k) ++ (vs.map (·.cells.toList)).flatten ++ cs.toList.drop ((m + vs.length) * k)).toArray
  | [], m, cs, _, _ => by simp [numbered, Instr.fill]
  | v :: vs, m, cs, h1, h2 => by
    have hv := h1 v (by simp)
    simp only [List.length_cons] at h2
    have h3 : m * k + k ≤ cs.size := by
      have := Nat.mul_le_mul_right k (show m + 1 ≤ m + (vs.length + 1) by omega)
      rw [Nat.succ_mul] at this; omega
    simp only [numbered, Instr.fill]
    rw [if_neg (by simp only [Bool.or_eq_true, decide_eq_true_eq]; omega)]
    have hf := foldl_set v.cells.toList 0 (m * k) cs (by simp [hv]; omega)
    have hl : (v.cells.zipIdx.foldl (fun cs (x : Value × Nat) => cs.setIfInBounds (m * k + x.2) x.1) cs).toList = cs.toList.take (m * k) ++ v.cells.toList ++ cs.toList.drop (m * k + k) := by
      rw [← Array.foldl_toList, Array.toList_zipIdx, hf]
      simp [hv]
    have hsz : (v.cells.zipIdx.foldl (fun cs (x : Value × Nat) => cs.setIfInBounds (m * k + x.2) x.1) cs).size = cs.size := by
      rw [← Array.length_toList, hl]
      simp [hv]; omega
    rw [fill_many vs (m + 1) _ (fun u hu => h1 u (by simp [hu])) (by rw [hsz, show m + 1 + vs.length = m + (vs.length + 1) by omega]; exact h2), hl]
    congr 2
    rw [List.map_cons, List.flatten_cons, Nat.succ_mul, show m + 1 + vs.length = m + (v :: vs).length by simp; omega]
    have h4 : (cs.toList.take (m * k) ++ v.cells.toList).length = m * k + k := by simp [hv]; omega
    rw [List.take_left' h4]
    have h5 : m * k + k ≤ (m + (v :: vs).length) * k := by
      have := Nat.mul_le_mul_right k (show m + 1 ≤ m + (v :: vs).length by simp)
      rw [Nat.succ_mul] at this; exact this
    have h6 : (cs.toList.take (m * k) ++ v.cells.toList ++ cs.toList.drop (m * k + k)).drop ((m + (v :: vs).length) * k) = cs.toList.drop ((m + (v :: vs).length) * k) := by
      rw [List.drop_append, h4, List.drop_eq_nil_of_le (by rw [h4]; exact h5), List.nil_append, List.drop_drop]
      congr 1
      omega
    rw [h6]
    simp [List.append_assoc]
/-- A slice literal: each element in its place. -/
theorem RL_bsN {t e : TypeId} {len : Nat} {us : List Value} {rows : List (List Value)} {k by_ : Nat} {z : Value} (hs : St n w0 f L E a w) {dd : Nat} {parts : List (Nat × Operand)}
    (hx : parts.mapM (fun p => (opv E p.2).map fun v => (p.1, v)) = some (numbered 0 us)) (ht : P.underlying t = some (.slice e)) (hT : TI P e k by_ z) (hk : 0 < k ∧ 0 < len ∧ len * k ≤ 16777216)
    (hr : us.map (·.cells.toList) = rows) (hl : us.length = len) (h1 : ∀ r ∈ rows, OneRow k r)
    (h : ∀ v a w, St n w0 f (.row v e k rows :: L) ((dd, v) :: E) a w → RL P ops rest K a w) (hd : dd < n := by decide) :
    RL P ops (⟨some dd, .buildSlice t len parts.toArray, ty, pos, af, none⟩ :: rest) K a w := by
  subst hr
  have hu : ∀ v ∈ us, v.cells.size = k := fun v hv => by
    have := (h1 _ (List.mem_map_of_mem hv)).1
    simpa using this
  refine RL_buildSlice (parts := parts) (vs := numbered 0 us) (rows := us.map (·.cells.toList)) hs hx ht hT hk ?_ (by simpa using hl) h1 (.free rfl) hd h
  rw [fill_many us 0 _ hu (by rw [Nat.zero_add, hl]; simp)]
  simp [hl]
end
end Go.Sl
namespace Go.Sl
open Go.RowKit Go.ChangeShapes Go.WideShapes Go.ChangeAt
/-! # What comes in, read as data -/
section
variable {α : Type} {P : Program}
/-- What reads as a datum of Go type T (within fuel N) is, as data of t, some a with S. -/
def OpN (N : Nat) (P : Program) (T : TypeId) (t : Ty α) (S : α → Prop) : Prop :=
  ∀ (H : Type) (enc : TypeId × Value → H) (w : World) (n : Nat) (cs : List Value) (x : DataW H × List MemPlace), n ≤ N →
    DataW.trod enc P w 0 (fun _ => true) true n T cs = some x → (∀ m ∈ x.1.weights P T, m ≤ reachBytes) → ∃ a, t.R (whole w) cs a ∧ S a
theorem OpN.le {N M : Nat} {T : TypeId} {t : Ty α} {S : α → Prop} (h : OpN M P T t S) (hN : N ≤ M) : OpN N P T t S := fun H enc w n cs x hn => h H enc w n cs x (by omega)
theorem OpN.zero {T : TypeId} {t : Ty α} {S : α → Prop} : OpN 0 P T t S := fun H enc w n cs x hn h => by
  obtain rfl : n = 0 := by omega
  simp [DataW.trod] at h
def Sint (k : IntKind) (i : Int) : Prop := (Lit.int k i).wf = true
def Sstr (s : ByteArray) : Prop := s.size ≤ reachBytes
def Ssl (b : Nat) (S : α → Prop) (xs : List α) : Prop := xs.length * b ≤ reachBytes ∧ ∀ x ∈ xs, S x
theorem op_int {N : Nat} {T : TypeId} {k : IntKind} (ht : P.underlying T = some (.int k)) : OpN N P T (tInt k) (Sint k) := fun H enc w n cs x _ h _ => by
  obtain ⟨i, rfl, _, hw⟩ := DataW.trod_int ht h
  exact ⟨i, rfl, hw⟩
theorem op_str {N : Nat} {T : TypeId} (ht : P.underlying T = some .string) : OpN N P T tStr Sstr := fun H enc w n cs x _ h hw => by
  obtain ⟨s, rfl, rfl, _⟩ := DataW.trod_string ht h
  refine ⟨s, rfl, ?_⟩
  have := hw s.data.toList.length (by simp [DataW.weights])
  exact this
theorem list_of {β : Type} {Q : Nat → β → Prop} : ∀ (len : Nat), (∀ i, i < len → ∃ p, Q i p) → ∃ l : List β, l.length = len ∧ ∀ (i : Nat) p, l[i]? = some p → Q i p
  | 0, _ => ⟨[], rfl, by simp⟩
  | len + 1, h => by
    obtain ⟨l, h1, h2⟩ := list_of len (fun i hi => h i (by omega))
    obtain ⟨p, hp⟩ := h len (by omega)
    refine ⟨l ++ [p], by simp [h1], fun i q hq => ?_⟩
    rw [List.getElem?_append] at hq
    split at hq
    · exact h2 i q hq
    · have : i = len := by
        have := (List.getElem?_eq_some_iff.1 hq).1
        simp at this; omega
      subst this
      simp [h1] at hq
      subst hq
      exact hp
theorem weightsAll_mem {H : Type} {e : TypeId} : ∀ {ds : List (DataW H)} {d : DataW H}, d ∈ ds → ∀ m ∈ d.weights P e, m ∈ DataW.weightsAll P e ds
  | d0 :: ds, d, hd, m, hm => by
    simp only [DataW.weightsAll, List.mem_append]
    rcases List.mem_cons.1 hd with rfl | hd
    · exact .inl hm
    · exact .inr (weightsAll_mem hd m hm)
theorem op_slice {N b : Nat} {T e : TypeId} {t : Ty α} {S : α → Prop} (ht : P.underlying T = some (.slice e)) (hk : P.cellsOf e = t.k) (hk0 : 0 < t.k) (hb : P.bytesOf e = b) (h : OpN N P e t S) : OpN (N + 1) P T (tSl t) (Ssl b S) := fun H enc w n cs x hn hx hw => by
  rcases DataW.trod_slice ht hx with ⟨rfl, rfl⟩ | ⟨a, len, cap, elems, rest, m, rfl, rfl, rfl, _, hl, hm, hlen, hel, _, _⟩
  · exact ⟨[], ⟨_, rfl, RS.nil⟩, by simp [Ssl]⟩
  · have hw' : ∀ q ∈ (elems.length + rest.length) * b :: (DataW.weightsAll P e (elems.map (·.1)) ++ DataW.weightsAll P e (rest.map (·.1))), q ≤ reachBytes := by
      intro q hq
      refine hw q ?_
      simp only [DataW.weights, ht, hb, List.length_map]
      exact hq
    obtain ⟨l, l1, l2⟩ := list_of (Q := fun i (p : List Value × α) => w.cells? 0 (a.add (i * P.cellsOf e)) (P.cellsOf e) = some p.1 ∧ t.R (whole w) p.1 p.2 ∧ S p.2) len (fun i hi => by
      have h1 := hel i hi
      rw [List.getElem?_eq_getElem (by omega)] at h1
      obtain ⟨cs', h2, h3⟩ := Option.bind_eq_some_iff.1 h1
      obtain ⟨y, h4, h5⟩ := h H enc w m cs' _ (by omega) h3 (fun q hq => hw' q (by
        refine List.mem_cons_of_mem _ (List.mem_append_left _ (weightsAll_mem (d := elems[i].1) ?_ q hq))
        exact List.mem_map_of_mem (List.getElem_mem _)))
      exact ⟨(cs', y), h2, h4, h5⟩)
    refine ⟨l.map (·.2), ⟨_, rfl, l.map (·.1), ⟨?_, some a, cap, by rw [List.length_map, l1], by rw [List.length_map, l1]; exact hl, fun hh => (by cases hh), fun a' ha => ?_⟩, ?_⟩, ?_, ?_⟩
    · intro r hr
      obtain ⟨p, hp, rfl⟩ := List.mem_map.1 hr
      obtain ⟨i, hi⟩ := List.getElem?_of_mem hp
      exact t.one (l2 i p hi).2.1
    · cases ha
      obtain ⟨bb, off, sp⟩ := a
      by_cases h0 : len = 0
      · have : l = [] := List.eq_nil_of_length_eq_zero (by omega)
        subst this
        exact ⟨fun h => absurd rfl h, fun i r hr => by simp at hr⟩
      · have hsp : sp = none := by
          obtain ⟨p, hp⟩ : ∃ p, l[0]? = some p := ⟨_, List.getElem?_eq_getElem (by omega)⟩
          obtain ⟨_, hlen', hc⟩ := World.cells?_some (l2 0 p hp).1
          have h1 := hc 0 (by rw [hk]; exact hk0)
          rw [List.getElem?_eq_getElem (by rw [hlen', hk]; exact hk0)] at h1
          simpa [Addr.add] using World.cell?_spot h1
        subst hsp
        refine ⟨fun _ => rfl, fun i r hr j u hu => ?_⟩
        simp only [List.getElem?_map, Option.map_eq_some_iff] at hr
        obtain ⟨p, hp, rfl⟩ := hr
        obtain ⟨_, hlen', hc⟩ := World.cells?_some (l2 i p hp).1
        have hj : j < P.cellsOf e := by rw [← hlen']; exact (List.getElem?_eq_some_iff.1 hu).1
        have h1 := hc j hj
        rw [hu] at h1
        rw [add_lit, add_lit, Nat.add_assoc, hk] at h1
        exact cell_whole h1 []
    · have : ∀ (l : List (List Value × α)), (∀ p ∈ l, t.R (whole w) p.1 p.2) → RW t (whole w) (l.map (·.1)) (l.map (·.2)) := by
        intro l
        induction l with
        | nil => intro _; exact trivial
        | cons p l ih => intro hh; exact ⟨hh p (by simp), ih fun q hq => hh q (by simp [hq])⟩
      exact this l fun p hp => by
        obtain ⟨i, hi⟩ := List.getElem?_of_mem hp
        exact (l2 i p hi).2.1
    · have h1 := hw' _ List.mem_cons_self
      rw [List.length_map, l1]
      have : len * b ≤ (elems.length + rest.length) * b := Nat.mul_le_mul_right _ (by omega)
      omega
    · intro y hy
      obtain ⟨p, hp, rfl⟩ := List.mem_map.1 hy
      obtain ⟨i, hi⟩ := List.getElem?_of_mem hp
      exact (l2 i p hi).2.2
theorem op_sl {N b : Nat} {T e : TypeId} {t : Ty α} {S : α → Prop} (ht : P.underlying T = some (.slice e)) (hk : P.cellsOf e = t.k) (hk0 : 0 < t.k) (hb : P.bytesOf e = b) (h : OpN N P e t S) : OpN N P T (tSl t) (Ssl b S) := (op_slice ht hk hk0 hb h).le (by omega)
/-- A field of a struct. -/
theorem OpN.field {N n i off sz : Nat} {H : Type} {enc : TypeId × Value → H} {w : World} {fd : Field} {t : Ty α} {S : α → Prop} {cs : List Value} {xs : List (DataW H × List MemPlace)} {T : TypeId} {fs : Array Field} (h : OpN N P fd.type t S) (hn : n ≤ N)
    (hf : fs[i]? = some fd) (ho : fd.offset = off) (hz : P.cellsOf fd.type = sz) (hl : xs.length = fs.size) (hx : DataW.trod enc P w 0 (fun _ => true) true n fd.type ((cs.drop fd.offset).take (P.cellsOf fd.type)) = xs[i]?) (hu : P.underlying T = some (.struct fs))
    (hw : ∀ m ∈ (DataW.agg (xs.map (·.1))).weights P T, m ≤ reachBytes) : ∃ a, t.R (whole w) ((cs.drop off).take sz) a ∧ S a := by
  subst ho hz
  have hi : i < xs.length := by rw [hl]; exact (Array.getElem?_eq_some_iff.1 hf).1
  rw [List.getElem?_eq_getElem hi] at hx
  refine h H enc w n _ _ hn hx fun m hm => hw m ?_
  simp only [DataW.weights, hu]
  exact DataW.weights_mem_each (j := i) (t := fd.type) (d := xs[i].1) (by simp [hf]) (by simp [hi]) m hm
theorem okWide_agg {w : World} {r : Reach} {base : Nat} {T : TypeId} {v : Value} {fs : Array Field} (ht : P.underlying T = some (.struct fs)) (h : Value.okWide P w r base T v) : ∃ cs : List Value, v = .agg cs.toArray := by
  simp only [Value.okWide, ht] at h
  cases v <;> simp_all
  exact ⟨_, rfl⟩
theorem mem_of_all {H : Type} {ts : List TypeId} {ds : List (DataW H)} (h : (DataW.weightsEach P ts ds).all (· ≤ reachBytes) = true) {j : Nat} {T : TypeId} {d : DataW H} (ht : ts[j]? = some T) (hd : ds[j]? = some d) : ∀ m ∈ d.weights P T, m ≤ reachBytes := fun m hm => by
  simpa using List.all_eq_true.1 h m (DataW.weights_mem_each ht hd m hm)
end
end Go.Sl
namespace Go.Sl
open Go.RowKit
/-! # Ranges over functions: the code around one -/
/-- In a function's frame, with the marks M. -/
def W0 (P : Program) (c : Code) (M : List Deferred) (Q : List Deferred → Exit → AP) : AP := fun a w => c.wpIn (wideR none) 0 P (fun e a w => ∃ M' b, a = withM M' b ∧ Q M' e b w) (withM M a) w
section
variable {P : Program} {M : List Deferred} {Q Q' : List Deferred → Exit → AP} {a : Act} {w : World}
theorem W0.mono {c : Code} (h : W0 P c M Q a w) (hq : ∀ M e a w, Q M e a w → Q' M e a w) : W0 P c M Q' a w :=
  wpIn_mono h fun _ _ _ ⟨M', b, h1, h2⟩ => ⟨M', b, h1, hq _ _ _ _ h2⟩
open Classical in
/-! ## The end: the marks are come to, the results are read -/
def markOf (D : Nat) : Deferred := { target := .collected D, args := #[] }
/-- Marks of blocks for the rounds' deferred calls, none of them in f0. -/
def Marks (f0 f : Fz) (M : List Deferred) : Prop := ∃ Ds : List Nat, M = Ds.map markOf ∧ Ds.Nodup ∧ ∀ D ∈ Ds, f D = some (.deferred (some [])) ∧ f0 D = none
theorem Cw.take {w0 : World} {f : Fz} {L : List Ent} {D : Nat} {o o' : Obj} (h : Cw w0 f L w) (hD : f D = some o) : Cw w0 (fun b => if b = D then none else f b) L (w.putObj D o') := by
  have hother : ∀ b, b ≠ D → (w.putObj D o').heap[b]? = w.heap[b]? := fun b hb => World.putObj_heap_other hb
  have hL : ∀ e ∈ L, e.key ≠ some D := fun e he hk => by have := h.apart e he D hk; rw [hD] at this; cases this
  refine ⟨h.os, h.tape, h.output, by simpa using h.size, fun b o hb => ?_, fun e he => ?_, fun e he b hb => ?_, h.sep⟩
  · by_cases e : b = D
    · rw [if_pos e] at hb; cases hb
    · rw [if_neg e] at hb
      rw [hother b e]; exact h.frz b o hb
  · have hh := h.live e he
    exact Ent.kept hh (fun b hb => hother b (fun e' => hL e he (by rw [hb, e'])))
  · by_cases e2 : b = D
    · exact if_pos e2
    · rw [if_neg e2]; exact h.apart e he b hb
end
end Go.Sl
namespace Go.Sl
open Go.RowKit
section
variable {P : Program} {f f' : Fz} {L L' : List Ent} {w0 w w' : World} {n : Nat} {E E' : List (Nat × Value)} {a : Act}
/-- A block at a place in the list becomes another object. -/
theorem Cw.turn {A B : List Ent} {b : Nat} {o o' : Obj} (h : Cw w0 f (A ++ .blk b o :: B) w) : Cw w0 f (A ++ .blk b o' :: B) (w.putObj b o') := by
  have hi : (A ++ .blk b o :: B)[A.length]? = some (.blk b o) := by simp
  have hh : w.heap[b]? = some o := h.live (.blk b o) (by simp)
  have hlt : b < w.heap.size := (Array.getElem?_eq_some_iff.1 hh).1
  have := h.repl (w' := w.putObj b o') (y := .blk b o') hi ⟨rfl, rfl, rfl, by simp, fun k _ hk => World.putObj_heap_other (fun e => hk (by rw [e]; rfl))⟩ (World.putObj_heap_same hlt) (fun c hc => .inl hc)
  rwa [List.set_append_right _ _ (Nat.le_refl _), Nat.sub_self] at this
end
end Go.Sl
namespace Go.Sl
open Go.RowKit
section
variable {P : Program} {f f' : Fz} {L L' : List Ent} {w0 w w' : World} {n : Nat} {E E' : List (Nat × Value)} {a : Act}
variable {ops : Array Oper} {rest : List Oper} {K : AP} {ty : TypeId} {pos : String} {af : Array Edge} {g : Option (Nat × Bool)}
end
end Go.Sl
namespace Go.Sl
open Go.RowKit
/-! Code around a range, its ends told one by one. -/
abbrev MP := List Deferred → AP
def W1 (P : Program) (c : Code) (M : List Deferred) (Qn : MP) (Qe : Nat → MP) (Qr : MP) (Qg : Nat → MP) : AP :=
  W0 P c M fun M' e => Post (Qn M') (fun i => Qe i M') (Qr M') (fun i => Qg i M') e
section
variable {P : Program} {f f' f0 : Fz} {L L' : List Ent} {w0 w w' : World} {n : Nat} {E E' : List (Nat × Value)} {a : Act}
variable {M : List Deferred} {Qn : MP} {Qe : Nat → MP} {Qr : MP} {Qg : Nat → MP}
theorem W1.mono {c : Code} {Qn' : MP} {Qe' : Nat → MP} {Qr' : MP} {Qg' : Nat → MP} (h : W1 P c M Qn Qe Qr Qg a w) (hn : ∀ M a w, Qn M a w → Qn' M a w) (he : ∀ i M a w, Qe i M a w → Qe' i M a w)
    (hr : ∀ M a w, Qr M a w → Qr' M a w) (hg : ∀ i M a w, Qg i M a w → Qg' i M a w) : W1 P c M Qn' Qe' Qr' Qg' a w :=
  W0.mono h fun M e a w q => by cases e <;> first | exact hn _ _ _ q | exact he _ _ _ _ q | exact hr _ _ _ q | exact hg _ _ _ _ q | exact q
theorem Marks.le {f0 f f' : Fz} {M : List Deferred} (h : Marks f0 f M) (hf : Fz.le f f') : Marks f0 f' M := by
  obtain ⟨Ds, h1, h2, h3⟩ := h
  exact ⟨Ds, h1, h2, fun D hD => ⟨hf _ _ (h3 D hD).1, (h3 D hD).2⟩⟩
theorem Marks.nil {f0 f : Fz} : Marks f0 f [] := ⟨[], rfl, List.nodup_nil, fun _ h => by simp at h⟩
theorem Marks.cons {f0 f f' : Fz} {M : List Deferred} {D : Nat} (h : Marks f0 f M) (hle : Fz.le f0 f) (hf : Fz.le f f') (h1 : f D = none) (h2 : f' D = some (.deferred (some []))) : Marks f0 f' (markOf D :: M) := by
  obtain ⟨Ds, rfl, hn, h3⟩ := h
  refine ⟨D :: Ds, rfl, List.nodup_cons.2 ⟨fun hD => ?_, hn⟩, fun D' hD' => ?_⟩
  · have := (h3 D hD).1; rw [h1] at this; cases this
  · rcases List.mem_cons.1 hD' with rfl | hD'
    · refine ⟨h2, ?_⟩
      cases e : f0 D' with
      | none => rfl
      | some o => have := hle _ _ e; rw [h1] at this; cases this
    · exact ⟨hf _ _ (h3 D' hD').1, (h3 D' hD').2⟩
section
variable {ops : Array Oper} {rest : List Oper} {K : AP} {ty : TypeId} {pos : String} {af : Array Edge}
end
section
variable {C : World → Prop} {d : Option Tmp} {ty : TypeId} {pos : String} {af : Array Edge} {g : Option (Nat × Bool)}
theorem y_sliceSV {t : TypeId} {x : Operand} {ol oh : Option Operand} {s u : ByteArray} {lo hi : Nat} (he : s.extract lo hi = u) (hx : opv E x = some (.string s)) (ht : P.underlying t = some .string)
    (hlo : (ol = none ∧ lo = 0) ∨ ∃ y, ol = some y ∧ opv E y = some (.int .i64 (lo : Int))) (hhi : (oh = none ∧ hi = s.size) ∨ ∃ y, oh = some y ∧ opv E y = some (.int .i64 (hi : Int))) (h1 : lo ≤ hi) (h2 : hi ≤ s.size) :
    Y P C n E ⟨d, .slice t x ol oh none, ty, pos, af, g⟩ (.string u) := by subst he; exact y_sliceS hx ht hlo hhi h1 h2
end
/-- Of types that hold no addresses. -/
theorem RW.any {α : Type} {t : Ty α} (ht : ∀ f f' r x, t.R f r x → t.R f' r x) : ∀ {rows : List (List Value)} {xs : List α}, RW t f rows xs → RW t f' rows xs
  | [], [], _ => trivial
  | _ :: _, _ :: _, h => ⟨ht _ _ _ _ h.1, RW.any ht h.2⟩
  | [], _ :: _, h => h.elim
  | _ :: _, [], h => h.elim
end
end Go.Sl
namespace Go.Sl
open Go.RowKit
/-! Scopes with labels. -/
end Go.Sl
namespace Go.Sl
open Go.RowKit
/-! Pointers that come in, functions that come in, conversions: in the lifter's hand. -/
section
variable {P : Program} {f f' f0 : Fz} {L L' Lc : List Ent} {w0 w w' : World} {n m i : Nat} {E E' : List (Nat × Value)} {a : Act}
variable {ops : Array Oper} {rest : List Oper} {o : Oper} {K : AP} {C : World → Prop} {op : Op}
variable {d : Option Tmp} {ty : TypeId} {pos : String} {af : Array Edge} {g : Option (Nat × Bool)} {brk : List Nat} {p : PT} {v : Value}
/-! Entries in another order -/
def Apart (x y : Ent) : Prop := ∀ k, x.key = some k → y.key = some k → False
theorem sep_pairwise {L : List Ent} : (∀ (i j : Nat) (x y : Ent), L[i]? = some x → L[j]? = some y → i ≠ j → ∀ k, x.key = some k → y.key = some k → False) ↔ L.Pairwise Apart := by
  rw [List.pairwise_iff_getElem]
  constructor
  · intro h i j hi hj hij k h1 h2
    exact h i j _ _ (List.getElem?_eq_getElem hi) (List.getElem?_eq_getElem hj) (by omega) k h1 h2
  · intro h i j x y hi hj hij k h1 h2
    obtain ⟨hi', rfl⟩ := List.getElem?_eq_some_iff.1 hi
    obtain ⟨hj', rfl⟩ := List.getElem?_eq_some_iff.1 hj
    rcases Nat.lt_or_gt_of_ne hij with hlt | hlt
    · exact h i j hi' hj' hlt k h1 h2
    · exact h j i hj' hi' hlt k h2 h1
theorem Cw.perm (h : Cw w0 f L w) (hp : L.Perm L') : Cw w0 f L' w := by
  refine ⟨h.os, h.tape, h.output, h.size, h.frz, fun e he => h.live e (hp.mem_iff.2 he), fun e he => h.apart e (hp.mem_iff.2 he), ?_⟩
  rw [sep_pairwise]
  exact (List.Perm.pairwise_iff (fun {x y} (hxy : Apart x y) k h1 h2 => hxy k h2 h1) hp).1 (sep_pairwise.1 h.sep)
theorem perm_at {α : Type} : ∀ (L : List α) (i : Nat) {x : α}, L[i]? = some x → L.Perm (x :: L.eraseIdx i)
  | [], _, _, h => by simp at h
  | y :: L, 0, x, h => by simp at h; subst h; exact .refl _
  | y :: L, i + 1, x, h => by
    simp at h
    rw [List.eraseIdx_cons_succ]
    exact ((perm_at L i h).cons y).trans (.swap _ _ _)
/-! Calls that read live entries -/
/-- The function hands back v; the entries Lr, which it reads, and all else stay. -/
def GivesL (P : Program) (fn : FuncId) (args : List Value) (f : Fz) (Lr : List Ent) (v : Value) : Prop :=
  ∀ w0 L w, Cw w0 f (Lr ++ L) w → Calls P fn args.toArray w fun e w' => e = .returned v ∧ Cw w0 f (Lr ++ L) w'
theorem GivesL.at {fn : FuncId} {args : List Value} {Lr Lf : List Ent} (h : GivesL P fn args f Lr v) (hp : L.Perm (Lr ++ Lf)) (hC : Cw w0 f L w) : Calls P fn args.toArray w fun e w' => e = .returned v ∧ Cw w0 f L w' :=
  (h w0 Lf w (hC.perm hp)).mono fun _ _ ⟨h1, h2⟩ => ⟨h1, h2.perm hp.symm⟩
theorem y_callR {gn : FuncId} {x : Operand} {cap : List Value} {as : List Operand} {vs : List Value} {ats : Array TypeId} {Lr Lf : List Ent} (hx : opv E x = some (.func (.func gn) #[] cap.toArray)) (hg : Has P gn) (hv : as.mapM (opv E) = some vs) (hL : L.Perm (Lr ++ Lf)) (hp : GivesL P gn (vs ++ cap) f Lr v) :
    Y P (Cw w0 f L) n E ⟨d, .call { callee := .value x, args := as.toArray, argTypes := ats }, ty, pos, af, g⟩ v := by
  intro a ha w hw
  unfold Oper.quietAt
  rw [run_call ha hx hg hv]
  refine ⟨rfl, ?_⟩
  have := hp.at hL hw
  rw [List.append_toArray] at *
  simpa using this
/-! Conversions -/
theorem RW.ints {k : IntKind} {rows : List (List Value)} {xs : List Int} (h : RW (tInt k) f rows xs) : rows = xs.map fun x => [.int k x] := RW.map (fun _ _ h => h) h
theorem RW.ofInts {k : IntKind} : ∀ xs : List Int, RW (tInt k) f (xs.map fun x => [.int k x]) xs
  | [] => trivial
  | _ :: xs => ⟨rfl, RW.ofInts xs⟩
/-! A string's bytes put behind bytes -/
theorem RL_appStrW {x y : Operand} {t u e : TypeId} {v : Value} {by_ : Nat} {z : Value} {rows : List (List Value)} {s : ByteArray} {xs zs : List Int} (i : Nat) (hm : appM by_ xs (bytesIn s) = some zs) (hW : RW (tInt .u8) f rows xs) (hs : St n w0 f L E a w) {dd : Nat}
    (hi : L[i]? = some (.row v e 1 rows)) (hx : opv E x = some v) (hy : opv E y = some (.string s)) (ht : P.underlying t = some (.slice e)) (hu : P.underlying u = some .string) (hT : TI P e 1 by_ z) (hzs : z.cells.size = 1)
    (h : ∀ v' rows' a w, RW (tInt .u8) f rows' zs → St n w0 f (L.set i (.row v' e 1 rows')) ((dd, v') :: E) a w → RL P ops rest K a w) (hd : dd < n := by decide) :
    RL P ops (⟨some dd, .call { callee := .builtin .append, args := #[x, y], argTypes := #[t, u] }, ty, pos, af, none⟩ :: rest) K a w := by
  obtain ⟨h1, h2⟩ := appM_some hm
  rw [bytesIn_length] at h1
  refine RL_appStr i hs hi hx hy ht hu hT hzs (by rw [hW.len]; exact h1) (fun v' a w hs' => h v' _ a w ?_ hs') hd
  rw [← h2]
  exact hW.append (RW.ofInts _)
end
/-! Functions that come in -/
section
variable {P : Program} {f f' f0 : Fz} {L L' Lc : List Ent} {w0 w w' : World} {n m i : Nat} {E E' : List (Nat × Value)} {a : Act}
variable {ops : Array Oper} {K : AP} {ty : TypeId} {pos : String} {af : Array Edge} {brk : List Nat} {p : PT} {v : Value} {dd : Nat} {j gd : Nat} {b : Bool}
end
end Go.Sl
namespace Go.Sl
open Go.RowKit
/-! Slices of the call's own are lent to calls that only read. -/
section
variable {P : Program} {f f' f0 : Fz} {L L' Lc : List Ent} {w0 w w' : World} {n m i : Nat} {E E' : List (Nat × Value)} {a : Act}
variable {d : Option Tmp} {ty : TypeId} {pos : String} {af : Array Edge} {g : Option (Nat × Bool)} {r v : Value}
theorem lent0 {e : TypeId} {k : Nat} {rows : List (List Value)} {fn : FuncId} {args : List Value} (hC : Cw w0 f (.row v e k rows :: L) w)
    (h : ∀ f' w, Fz.le f f' → Rd f' [] v k rows → Cw w0 f' L w → Calls P fn args.toArray w fun e w' => e = .returned r ∧ Cw w0 f' L w') :
    Calls P fn args.toArray w fun e' w' => e' = .returned r ∧ Cw w0 f (.row v e k rows :: L) w' := by
  obtain ⟨f', h1, h2, h3, h4⟩ := Rd.frozenAt (i := 0) hC rfl
  exact (h f' w h1 h4 h2).mono fun _ _ ⟨e1, e2⟩ => ⟨e1, hC.thaw (i := 0) rfl h1 h3 e2⟩
theorem callsP {Lr Lf : List Ent} {fn : FuncId} {args : List Value} (hp : L.Perm (Lr ++ Lf)) (hC : Cw w0 f L w)
    (h : ∀ Lz w, Cw w0 f (Lr ++ Lz) w → Calls P fn args.toArray w fun e w' => e = .returned r ∧ Cw w0 f (Lr ++ Lz) w') : Calls P fn args.toArray w fun e w' => e = .returned r ∧ Cw w0 f L w' :=
  (h Lf w (hC.perm hp)).mono fun _ _ ⟨h1, h2⟩ => ⟨h1, h2.perm hp.symm⟩
theorem y_callCK {gn : FuncId} {x : Operand} {cap : List Value} {as : List Operand} {vs : List Value} {ats : Array TypeId} (hx : opv E x = some (.func (.func gn) #[] cap.toArray)) (hg : Has P gn) (hv : as.mapM (opv E) = some vs)
    (hp : ∀ w, Cw w0 f L w → Calls P gn (vs ++ cap).toArray w fun e w' => e = .returned v ∧ Cw w0 f L w') :
    Y P (Cw w0 f L) n E ⟨d, .call { callee := .value x, args := as.toArray, argTypes := ats }, ty, pos, af, g⟩ v := by
  intro a ha w hw
  unfold Oper.quietAt
  rw [run_call ha hx hg hv]
  refine ⟨rfl, ?_⟩
  have := hp w hw
  rw [List.append_toArray] at *
  simpa using this
end
/-! Scopes whose labels stand in the spine -/
def spine : Code → Nat → Option Code
  | .seq (.label l') b, l => if l' == l then some b else spine b l
  | .seq _ b, l => spine b l
  | _, _ => none
section
variable {P : Program} {Qn : AP} {Qe : Nat → AP} {Qr : AP} {Qg : Nat → AP} {a : Act} {w : World} {c : Code}
/-- What goes on at a goto. -/
structure Gone (c : Code) (Qg : Nat → AP) (J : Nat → AP) (G : Nat → AP) : Prop where
  at_ : ∀ l a w, (spine c l).isSome = true → J l a w → G l a w
  out : ∀ l a w, spine c l = none → Qg l a w → G l a w
/-- The scope's code behind its labels. -/
def Behind (P : Program) (c : Code) (Qn : AP) (Qe : Nat → AP) (Qr : AP) (Qg : Nat → AP) (J : Nat → Nat → AP) (k : Nat) : Prop :=
  ∀ l a w R, spine c l = some R → J l k a w → ∀ G : Nat → AP, Gone c Qg (fun l a w => ∃ k', k' < k ∧ J l k' a w) G → W P R Qn Qe Qr G a w
/-- Falling into a label. -/
theorem Behind.into {J : Nat → Nat → AP} {J' : Nat → AP} {k l : Nat} {R : Code} {G : Nat → AP} (hB : Behind P c Qn Qe Qr Qg J k) (hR : spine c l = some R) (hJ : J l k a w) (hG : Gone c Qg J' G)
    (hJ' : ∀ l a w k', k' < k → J l k' a w → J' l a w) : W P (.seq (.label l) R) Qn Qe Qr G a w :=
  W_seq fun _ hK => W_label (hK _ _ (hB l a w R hR hJ G ⟨fun l a w hl ⟨k', h3, h4⟩ => hG.at_ l a w hl (hJ' l a w k' h3 h4), hG.out⟩))
end
end Go.Sl
namespace Go.Sl
open Go.RowKit
/-! Functions without a body; strings.Builder's operations. -/
section
variable {P : Program} {f f' f0 : Fz} {L L' Lc : List Ent} {w0 w w' : World} {n m i : Nat} {E E' : List (Nat × Value)} {a : Act}
variable {ops : Array Oper} {rest : List Oper} {K : AP} {C : World → Prop}
variable {d : Option Tmp} {ty : TypeId} {pos : String} {af : Array Edge} {g : Option (Nat × Bool)} {v : Value} {dd : Nat}
/-- A call of a function without a body that answers with a value. -/
theorem y_callE {gn : FuncId} {x : Operand} {as : List Operand} {vs : List Value} {ats : Array TypeId} (hx : opv E x = some (.func (.func gn) #[] #[])) (hv : as.mapM (opv E) = some vs)
    (hc : ∀ w, (callFunc gn vs.toArray).run P w = .ok (.value v) w) : Y P C n E ⟨d, .call { callee := .value x, args := as.toArray, argTypes := ats }, ty, pos, af, g⟩ v :=
  .of fun a ha w _ => by
    have := evalArgs ha hv
    have e1 : as.toArray.map a.eval = vs.toArray := by simp [this]
    simp [execOp, resolve, ha.eval hx, Deferred.ofValue, invoke, e1, hc]
theorem y_pnn {x y : Operand} {t t' q : TypeId} (hx : opv E x = some (.pointer none)) (hy : opv E y = some (.pointer none)) (ht : P.underlying t = some (.pointer q)) : Y P C n E ⟨d, .binOp .eql t x y t', ty, pos, af, g⟩ (.bool true) :=
  .of fun a ha w _ => by
    have h : (Op.equal t (.pointer none) (.pointer none)).run P w = .ok true w := equal_deep (fun d => by simp [Op.equalIn, run_underlying ht]) rfl
    simp [execOp, ha.eval hx, ha.eval hy, eqGuard, binOp, h]
theorem y_pselfN {x y : Operand} {t t' q : TypeId} {p : Addr} {k by_ : Nat} {z : Value} (hx : opv E x = some (.pointer (some p))) (hy : opv E y = some (.pointer (some p))) (ht : P.underlying t = some (.pointer q)) (hT : TI P q k by_ z) : Y P C n E ⟨d, .binOp .neq t x y t', ty, pos, af, g⟩ (.bool false) :=
  .of fun a ha w _ => by
    obtain ⟨it, hit, _⟩ := hT
    have h := Lib.run_neq_ptr_same (P := P) w p ht hit
    simp [execOp, ha.eval hx, ha.eval hy, eqGuard, h]
theorem shape_blk {b : Nat} {cs : Array Value} {e : TypeId} (hm : .blk b (.cells cs e (0, 0)) ∈ L) (hC : Cw w0 f L w) : w.shape? b = some (e, cs.size) := by
  have : w.heap[b]? = some (.cells cs e (0, 0)) := hC.live _ hm
  simp [World.shape?, this]
theorem y_toUnsafe {t u q e : TypeId} {x : Operand} {b : Nat} {cs : Array Value} {k by_ : Nat} {z : Value} (hx : opv E x = some (.pointer (some ⟨b, 0, none⟩))) (ht : P.underlying t = some (.pointer q)) (hu : P.underlying u = some .unsafePointer) (hT : TI P q k by_ z) (hk : k ≠ 0)
    (hm : .blk b (.cells cs e (0, 0)) ∈ L) (hs : 0 < cs.size) : Y P (Cw w0 f L) n E ⟨d, .convert t u x, ty, pos, af, g⟩ (.pointer (some ⟨b, 0, none⟩)) :=
  .of fun a ha w hw => by
    obtain ⟨it, hit, _, hk', _⟩ := hT
    have h := Lib.run_to_unsafe (P := P) w ⟨b, 0, none⟩ ht hu hit (by omega) (shape_blk hm hw) hs
    simp only [execOp, ha.eval hx, Sem.run_bind, h, Result.andThen_ok, Sem.run_pure]
theorem y_fromUnsafe {t u q e : TypeId} {x : Operand} {b : Nat} {cs : Array Value} {k by_ : Nat} {z : Value} (hx : opv E x = some (.pointer (some ⟨b, 0, none⟩))) (ht : P.underlying t = some .unsafePointer) (hu : P.underlying u = some (.pointer q)) (hT : TI P q k by_ z)
    (hm : .blk b (.cells cs e (0, 0)) ∈ L) (hl : liesAt P P.depth e (cs.size / P.cellsOf e) 0 q 1 = true) : Y P (Cw w0 f L) n E ⟨d, .convert t u x, ty, pos, af, g⟩ (.pointer (some ⟨b, 0, none⟩)) :=
  .of fun a ha w hw => by
    obtain ⟨it, hit, _⟩ := hT
    have h := Lib.run_from_unsafe (P := P) w ⟨b, 0, none⟩ ht hu hit (shape_blk hm hw) hl
    simp only [execOp, ha.eval hx, Sem.run_bind, h, Result.andThen_ok, Sem.run_pure]
/-- Where a builder's bytes lie. -/
def HeadOf (v : Value) (m : Nat) (p : Option Addr) : Prop := m ≠ 0 → ∃ gb q c, v = .slice (some ⟨gb, 0, none⟩) q c ∧ p = some ⟨gb, 0, none⟩
theorem RL_usd {x : Operand} {t e : TypeId} {rows : List (List Value)} {i : Nat} (hs : St n w0 f L E a w) (hi : L[i]? = some (.row v e 1 rows)) (hx : opv E x = some v) (ht : P.underlying ty = some (.pointer e))
    (h : ∀ p L1 a w, HeadOf v rows.length p → St n w0 f (L1 ++ L) ((dd, .pointer p) :: E) a w → RL P ops rest K a w) (hd : dd < n := by decide) :
    RL P ops (⟨some dd, .call { callee := .builtin .unsafeSliceData, args := #[x], argTypes := #[t] }, ty, pos, af, none⟩ :: rest) K a w := by
  have hm := List.mem_of_getElem? hi
  obtain ⟨hown, _⟩ := hs.cw.live _ hm
  rcases hown.2 with ⟨rfl, h0⟩ | ⟨gb, cap, cur, rfl, hgb, hg, hnc, hcm, hcs, htk⟩
  · refine RL_v hs (.free rfl) (.to rfl hd) (v := .pointer none) (w' := w) (f' := f) (L' := L) ?_ hs.cw (fun a w hs => h none [] a w (fun hne => absurd h0 hne) hs)
    simp only [execOp, resolve, invoke, builtin, Sem.run_bind, Sem.run_pure, Result.andThen_ok, List.map_toArray, List.map_cons, List.map_nil, hs.ev.eval hx, Lib.run_unsafeSliceData_nil]
  · by_cases hc : cap = 0
    · subst hc
      refine RL_v hs (.free rfl) (.to rfl hd) (v := .pointer (some ⟨w.heap.size, 0, none⟩)) (w' := w.alloc (.view ⟨gb, 0, none⟩ e)) (f' := f) (L' := .blk w.heap.size (.view ⟨gb, 0, none⟩ e) :: L) ?_ (hs.cw.alloc _) (fun a w hs => h _ [_] a w (fun hne => by omega) hs)
      simp only [execOp, resolve, invoke, builtin, Sem.run_bind, Sem.run_pure, Result.andThen_ok, List.map_toArray, List.map_cons, List.map_nil, hs.ev.eval hx, Lib.run_unsafeSliceData_zero (P := P) w #[t] ty e ht ⟨gb, 0, none⟩ rows.length (e, cur.size) (by simp [World.shape?, hg])]
    · refine RL_v hs (.free rfl) (.to rfl hd) (v := .pointer (some ⟨gb, 0, none⟩)) (w' := w) (f' := f) (L' := L) ?_ hs.cw (fun a w hs => h _ [] a w (fun _ => ⟨gb, _, _, rfl, rfl⟩) hs)
      simp only [execOp, resolve, invoke, builtin, Sem.run_bind, Sem.run_pure, Result.andThen_ok, List.map_toArray, List.map_cons, List.map_nil, hs.ev.eval hx, Lib.run_unsafeSliceData_row (P := P) w #[t] ty ⟨gb, 0, none⟩ rows.length cap hc]
theorem run_loadBytesI : ∀ (l : List Int) (a : Addr) (acc : ByteArray), (∀ (j : Nat) x, l[j]? = some x → w.cell? (a.add j) = some (.int .u8 x)) →
    (Go.loadBytes a acc l.length).run P w = .ok ⟨acc.data ++ (l.map fun n => UInt8.ofNat n.toNat).toArray⟩ w
  | [], a, acc, _ => by simp [Go.loadBytes]
  | x :: l, a, acc, h => by
    have h0 : w.cell? a = some (.int .u8 x) := by
      have := h 0 x rfl
      simpa [Addr.add] using this
    have ih := run_loadBytesI l (a.add 1) (acc.push (UInt8.ofNat x.toNat)) (fun j y hy => by
      have := h (j + 1) y (by simpa using hy)
      have e : (a.add 1).add j = a.add (j + 1) := by
        unfold Addr.add
        by_cases hj : j = 0
        · subst hj; simp
        · simp [hj]; omega
      rw [e]; exact this)
    simp only [List.length_cons, Go.loadBytes, Sem.run_bind, run_load, h0, Result.andThen]
    rw [show x.toNat.toUInt8 = UInt8.ofNat x.toNat from rfl, ih]
    congr 1
    apply ByteArray.ext
    simp [ByteArray.push]
theorem run_unsafeStringI (pt it ty e : TypeId) (hp : P.underlying pt = some (.pointer e)) (hc : P.cellsOf e = 1) (gb cells : Nat) (hsh : w.shape? gb = some (e, cells)) (l : List Int) (h0 : l ≠ []) (hn : l.length ≤ cells) (h63 : l.length ≤ 9223372036854775807)
    (hcell : ∀ (j : Nat) x, l[j]? = some x → w.cell? ((⟨gb, 0, none⟩ : Addr).add j) = some (.int .u8 x)) :
    (Builtin.unsafeString_ #[pt, it] ty #[.pointer (some ⟨gb, 0, none⟩), .int .i64 l.length]).run P w = .ok (.string (bytesOf l)) (w.freeze ⟨gb, 0, none⟩ l.length) := by
  have hl : l.length ≠ 0 := by simpa using h0
  have hlb := run_loadBytesI (P := P) (w := w) l ⟨gb, 0, none⟩ .empty hcell
  have hlies := Lib.liesAt_bytes (P := P) hc (cells / P.cellsOf e) l.length (by rw [hc]; simpa using hn)
  have h63' : ¬ (9223372036854775807 : Int) < (l.length : Int) := by omega
  have hdef : Builtin.unsafeString_ #[pt, it] ty #[.pointer (some ⟨gb, 0, none⟩), .int .i64 l.length] =
      (do
        let n ← asInt (.int .i64 l.length)
        if n < 0 then runtimePanic (.error "unsafe.String: len out of range")
        if n > IntKind.i64.max then unsupported (.unsafePointer "String: a length above the largest int")
        if n = 0 then pure (.string .empty)
        else if ← variablesAt ⟨gb, 0, none⟩ (← elemOf pt) n.toNat then do
          let s ← loadBytes ⟨gb, 0, none⟩ .empty n.toNat
          freeze ⟨gb, 0, none⟩ n.toNat
          pure (.string s)
        else unsupported (.unsafePointer "String: not so many bytes at ptr")) := rfl
  rw [hdef]
  have hmax : IntKind.i64.max = 9223372036854775807 := rfl
  have hneg : ¬ (l.length : Int) < 0 := by omega
  simp [asInt, asIntOf, hmax, h63', hneg, hl, variablesAt, hsh, elemOf, run_underlying hp, hlies, hlb, bytesOf]
theorem RL_ust {x y : Operand} {pt it e : TypeId} {rows : List (List Value)} {xs : List Int} {p : Option Addr} {i : Nat} (hs : St n w0 f L E a w) (hi : L[i]? = some (.row v e 1 rows)) (hW : RW (tInt .u8) f' rows xs) (hx : opv E x = some (.pointer p)) (hy : opv E y = some (.int .i64 (xs.length : Int)))
    (hp : HeadOf v rows.length p) (ht : P.underlying pt = some (.pointer e)) (hc : P.cellsOf e = 1)
    (h : ∀ a w, St n w0 f (L.eraseIdx i) ((dd, .string (bytesOf xs)) :: E) a w → RL P ops rest K a w) (hd : dd < n := by decide) :
    RL P ops (⟨some dd, .call { callee := .builtin .unsafeString, args := #[x, y], argTypes := #[pt, it] }, ty, pos, af, none⟩ :: rest) K a w := by
  have hm := List.mem_of_getElem? hi
  obtain ⟨hown, hone⟩ := hs.cw.live _ hm
  by_cases h0 : xs = []
  · subst h0
    refine RL_v hs (.free rfl) (.to rfl hd) (v := .string (bytesOf [])) (w' := w) (f' := f) (L' := L.eraseIdx i) ?_ (hs.cw.sub (List.eraseIdx_sublist ..)) h
    have := Lib.run_unsafeString_none (P := P) w pt it ty p
    simp only [execOp, resolve, invoke, builtin, Sem.run_bind, Sem.run_pure, Result.andThen_ok, List.map_toArray, List.map_cons, List.map_nil, hs.ev.eval hx, hs.ev.eval hy, List.length_nil, Int.natCast_zero, this]
    rfl
  · have hl := hW.len
    have hne : rows.length ≠ 0 := by rw [hl]; simpa using h0
    obtain ⟨gb', q, c, hv, hpe⟩ := hp hne
    rcases hown.2 with ⟨hv2, hz⟩ | ⟨gb, cap, cur, hv2, hgb, hg, hnc, hcm, hcs, htk⟩
    · exact absurd hz hne
    · have : gb' = gb := by rw [hv] at hv2; injection hv2 with e1 _ _; injection e1 with e2; injection e2
      subst this
      have hcell : ∀ (j : Nat) z, xs[j]? = some z → w.cell? ((⟨gb', 0, none⟩ : Addr).add j) = some (.int .u8 z) := fun j z hj => by
        have h1 := hW.ints
        have hfl : rows.flatten = xs.map (Value.int .u8) := by rw [h1]; exact flatten_single _ xs
        exact hown.cells (g := gb') (by rw [hv2]; rfl) j _ (by rw [hfl]; simp [hj])
      have hrun := run_unsafeStringI (P := P) (w := w) pt it ty e ht hc gb' cur.size (by simp [World.shape?, hg]) xs h0 (by omega) (by unfold maxLen at hcm; omega) hcell
      have hxl : xs.length ≠ 0 := by simpa using h0
      have hlt : gb' < w.heap.size := (Array.getElem?_eq_some_iff.1 hg).1
      have hC : Cw w0 f (L.set i (.blk gb' (.cells cur e (0, xs.length)))) (w.freeze ⟨gb', 0, none⟩ xs.length) := by
        refine hs.cw.repl hi ⟨?_, ?_, ?_, ?_, fun k hk hkr => ?_⟩ ?_ (fun b hb => .inl ?_)
        · simp [World.freeze, hxl]
        · simp [World.freeze, hxl]
        · simp [World.freeze, hxl]
        · simp [World.freeze, hxl]
        · have : k ≠ gb' := fun e' => hkr (by rw [e']; simp [Ent.key, hv, Value.ownBlock])
          simp only [World.freeze, hxl, if_false]
          rw [Array.getElem?_modify]
          simp [Ne.symm this]
        · show (w.freeze ⟨gb', 0, none⟩ xs.length).heap[gb']? = _
          simp only [World.freeze, hxl, if_false]
          rw [Array.getElem?_modify]
          simp [hg]
        · simp [Ent.key] at hb; subst hb; simp [Ent.key, hv, Value.ownBlock]
      have hC2 : Cw w0 f (L.eraseIdx i) (w.freeze ⟨gb', 0, none⟩ xs.length) := by
        have e1 : (L.set i (.blk gb' (.cells cur e (0, xs.length)))).eraseIdx i = L.eraseIdx i := by
          apply List.ext_getElem?
          intro j
          rw [List.getElem?_eraseIdx, List.getElem?_eraseIdx]
          split
          · rw [List.getElem?_set_ne (by omega)]
          · rw [List.getElem?_set_ne (by omega)]
        rw [← e1]
        exact hC.sub (List.eraseIdx_sublist ..)
      refine RL_v hs (.free rfl) (.to rfl hd) (v := .string (bytesOf xs)) (w' := w.freeze ⟨gb', 0, none⟩ xs.length) (f' := f) (L' := L.eraseIdx i) ?_ hC2 h
      rw [hpe] at hx
      simp only [execOp, resolve, invoke, builtin, Sem.run_bind, Sem.run_pure, Result.andThen_ok, List.map_toArray, List.map_cons, List.map_nil, hs.ev.eval hx, hs.ev.eval hy, hrun]
end
/-- A builder's own address: nothing, or where it lies. -/
def baddr (b : Nat) (u : Bool) : Value := bif u then .pointer (some ⟨b, 0, none⟩) else .pointer none
structure Builder where
  addr : Bool
  buf : List Int
end Go.Sl
namespace Go.Sl
open Go.RowKit
/-! An effect under a guard that says yes. -/
section
variable {P : Program} {f : Fz} {L : List Ent} {w0 w : World} {n : Nat} {E : List (Nat × Value)} {a : Act}
variable {ops : Array Oper} {rest : List Oper} {K : AP} {d : Option Tmp} {ty : TypeId} {pos : String} {af : Array Edge}
theorem RL_guard {j gd : Nat} {b : Bool} {op : Op} (hs : St n w0 f L E a w) (hg : (ops[j]?).bind (·.dst) = some gd) (hl : look E gd = some (.bool b))
    (h : RL P ops (⟨d, op, ty, pos, af, none⟩ :: rest) K a w) : RL P ops (⟨d, op, ty, pos, af, some (j, b)⟩ :: rest) K a w := by
  have h' := h.d
  refine ⟨?_⟩
  unfold RLd at h' ⊢
  have w1 : Region.wanted (⟨d, op, ty, pos, af, some (j, b)⟩ : Oper) (yielded ops a.tmps) = true := Want.wanted hs.ev (.yes rfl hg hl)
  have w2 : Region.wanted (⟨d, op, ty, pos, af, none⟩ : Oper) (yielded ops a.tmps) = true := Want.wanted hs.ev (.free rfl)
  rw [if_pos w2] at h'
  rw [if_pos w1]
  exact h'
end
end Go.Sl
namespace Go.Sl
open Go.RowKit
/-! Maps with keys of any plain type. -/
/-- What a map's entries say. -/
def SMapK {κ : Type} (ke : κ → Value) (l : List MapEntry) (m : List (κ × Value)) : Prop := l.map (fun e => (e.key, e.val)) = m.map fun p => (ke p.1, p.2)
/-- Maps as data. -/
def SK {κ α : Type} (ke : κ → Value) (enc : α → Value) (es : Array MapEntry) (m : List (κ × α)) : Prop := SMapK ke es.toList (m.map fun p => (p.1, enc p.2))
theorem SK.nil {κ α : Type} {ke : κ → Value} {enc : α → Value} : SK ke enc #[] [] := rfl
theorem checkKey_i {P : Program} {w : World} {kt : TypeId} {k : Int} {em : Bool} {dpt : Nat} {ik : IntKind} (hk : P.underlying kt = some (.int ik)) : (Instr.checkKey em (dpt + 1) kt (.int ik k)).run P w = .ok () w := by
  simp [Instr.checkKey, run_underlying hk]
section
variable {κ : Type} [DecidableEq κ]
def kfind (k : κ) : List (κ × Value) → Nat → Option (Nat × Value)
  | [], _ => none
  | p :: m, i => if p.1 = k then some (i, p.2) else kfind k m (i + 1)
/-- Keys of a type that may be asked for. -/
structure KeyOK (P : Program) (kt : TypeId) (ke : κ → Value) : Prop where
  chk : ∀ (em : Bool) (k : κ) (w : World), (Instr.checkKey em 10000 kt (ke k)).run P w = .ok () w
  find : ∀ (k : κ) (l : List MapEntry) (m : List (κ × Value)) (w : World), SMapK ke l m → (Instr.findKey kt (ke k) l).run P w = .ok (kfind k m 0) w
  bits : ∀ k : κ, Instr.sameBits 10000 (ke k) (ke k) = true
variable {P : Program}
theorem KeyOK.int {kt : TypeId} {ik : IntKind} (hk : P.underlying kt = some (.int ik)) : KeyOK P kt (fun i : Int => .int ik i) where
  chk em k w := checkKey_i (dpt := 9999) hk
  find k l m w h := by
    have : ∀ (l : List MapEntry) (m : List (Int × Value)) (i : Nat), SMapK (fun i : Int => Value.int ik i) l m → Instr.findNow (.int ik) (.int ik k) l i = some (kfind k m i) := by
      intro l
      induction l with
      | nil => intro m i h; cases m with
        | nil => rfl
        | cons p m => simp [SMapK] at h
      | cons e l ih =>
        intro m i h
        cases m with
        | nil => simp [SMapK] at h
        | cons p m =>
          simp only [SMapK, List.map_cons, List.cons.injEq, Prod.mk.injEq] at h
          obtain ⟨⟨h1, h2⟩, h3⟩ := h
          by_cases hk : p.1 = k
          · simp [Instr.findNow, Instr.sameNow, h1, kfind, hk, h2]
          · have hk' : ¬ k = p.1 := fun e => hk e.symm
            have hb : (k == p.1) = false := by simpa using hk'
            simp [Instr.findNow, Instr.sameNow, h1, kfind, hk, hb, ih m (i + 1) h3]
    simp [Instr.findKey, run_underlying hk, this l m 0 h, Sem.run_pure]
  bits k := by simp [Instr.sameBits]
theorem KeyOK.struct {kt : TypeId} {ke : κ → Value} {fs : Array Field} (hk : P.underlying kt = some (.struct fs)) (hagg : ∀ k, ∃ cs, ke k = .agg cs)
    (hchk : ∀ (em : Bool) (k : κ) (w : World), (Instr.checkKey em 10000 kt (ke k)).run P w = .ok () w)
    (heq : ∀ (a b : κ) (w : World), (Op.equal kt (ke a) (ke b)).run P w = .ok (decide (b = a)) w) (hb : ∀ k : κ, Instr.sameBits 10000 (ke k) (ke k) = true) : KeyOK P kt ke where
  chk := hchk
  bits := hb
  find k l m w h := by
    have ask : ∀ (l : List MapEntry) (m : List (κ × Value)) (i : Nat), SMapK ke l m → (Instr.findAsking kt (ke k) l i).run P w = .ok (kfind k m i) w := by
      intro l
      induction l with
      | nil => intro m i h; cases m with
        | nil => simp [Instr.findAsking, kfind, Sem.run_pure]
        | cons p m => simp [SMapK] at h
      | cons e l ih =>
        intro m i h
        cases m with
        | nil => simp [SMapK] at h
        | cons p m =>
          simp only [SMapK, List.map_cons, List.cons.injEq, Prod.mk.injEq] at h
          obtain ⟨⟨h1, h2⟩, h3⟩ := h
          by_cases hk : p.1 = k
          · simp [Instr.findAsking, h1, heq, kfind, hk, h2, Sem.run_pure]
          · simp [Instr.findAsking, h1, heq, kfind, hk, ih m (i + 1) h3]
    obtain ⟨cs, hcs⟩ := hagg k
    cases l with
    | nil =>
      cases m with
      | nil => simp [Instr.findKey, run_underlying hk, Instr.findNow, kfind]
      | cons p m => simp [SMapK] at h
    | cons e l =>
      have hn : Instr.findNow (.struct fs) (ke k) (e :: l) 0 = none := by simp [Instr.findNow, Instr.sameNow]
      simp [Instr.findKey, run_underlying hk, hn, ask (e :: l) m 0 h]
end
section
variable {P : Program} {ops : Array Oper} {rest : List Oper} {n : Nat} {w0 w : World} {f f' : Fz} {L L' : List Ent} {E E' : List (Nat × Value)} {a : Act} {K : AP} {v : Value}
variable {ty : TypeId} {pos : String} {af : Array Edge} {d : Option Tmp} {g : Option (Nat × Bool)} {C : World → Prop} {κ α : Type} [DecidableEq κ]
end
end Go.Sl
namespace Go.Sl
open Go.RowKit
variable {P : Program} {w0 w w' : World} {f f' : Fz} {L L' : List Ent}
/-! What a contract of the library's hands back, in this logic's words. -/
theorem Grew.below (b : Below w.heap.size w w') : Grew w w' none := ⟨b.os, b.tape, b.output, b.size, fun k hk _ => b.block k hk⟩
theorem Cw.grown (h : Cw w0 f L w) (b : Below w.heap.size w w') : Cw w0 f L w' := h.step (Grew.below b)
/-- What gives, gives in any world, and leaves below what was there. -/
theorem Gives.calls {fn : FuncId} {args : List Value} {v : Value} (h : ∀ f, Gives P fn args f v) (w : World) : Calls P fn args.toArray w fun e w' => e = .returned v ∧ Below w.heap.size w w' :=
  (h (whole w) w [] w (Cw.start w)).mono fun _ _ ⟨he, hw⟩ => ⟨he, hw.below⟩
/-- A quiet call by a contract of the library's. -/
theorem Gives.of {fn : FuncId} {args : List Value} {v : Value} (h : ∀ w0 L w, Cw w0 f L w → Calls P fn args.toArray w fun e w' => e = .returned v ∧ Below w.heap.size w w') : Gives P fn args f v :=
  fun w0 L w hC => (h w0 L w hC).mono fun _ _ ⟨he, hb⟩ => ⟨he, hC.grown hb⟩
theorem flat_one : ∀ vs : List Value, (vs.map fun v => [v]).flatten = vs
  | [] => rfl
  | v :: vs => by rw [List.map_cons, List.flatten_cons, flat_one vs]; rfl
/-- A new slice of one-cell elements, handed back. -/
theorem Does.fresh {α : Type} {t : Ty α} {fn : FuncId} {args : List Value} {e : TypeId} {xs : List α} {vs : List Value} (hk : t.k = 1) (hx : RW t f (vs.map fun v => [v]) xs) (hv : ∀ v ∈ vs, v.oneCell' = true)
    (h : ∀ w0 L w, Cw w0 f L w → Calls P fn args.toArray w fun en w' => ∃ A, en = .returned (.slice (some ⟨A, 0, none⟩) vs.length vs.length) ∧ w.heap.size ≤ A ∧ w'.ownsRow w.heap.size e 1 (.slice (some ⟨A, 0, none⟩) vs.length vs.length) vs.length vs ∧ Below w.heap.size w w') :
    Does P fn args f [] (fun r f' L' => ∃ (u0 : Value), L' = [] ∧ r = u0 ∧ RS t f' u0 xs) := fun w0 L w hC =>
  (h w0 L w hC).mono fun en w' ⟨A, he, hA, ho, hb⟩ => by
    have ho' : w'.ownsRow 0 e 1 (.slice (some ⟨A, 0, none⟩) vs.length vs.length) (vs.map fun v => [v]).length (vs.map fun v => [v]).flatten := by
      rw [List.length_map, flat_one]
      rcases ho with ⟨h1, h2⟩
      refine ⟨h1, ?_⟩
      rcases h2 with h2 | ⟨g, cap, cur, h3, h4, h5⟩
      · exact .inl h2
      · exact .inr ⟨g, cap, cur, h3, Nat.zero_le _, h5⟩
    have hC' : Cw w0 f (.row (.slice (some ⟨A, 0, none⟩) vs.length vs.length) e 1 (vs.map fun v => [v]) :: L) w' :=
      hC.cons (Grew.below hb) ⟨ho', fun r hr => by obtain ⟨v, hv', rfl⟩ := List.mem_map.1 hr; exact ⟨rfl, fun x hx => by rw [List.mem_singleton.1 hx]; exact hv v hv'⟩⟩ (fun b hb' => by
        simp [Ent.key, Value.ownBlock] at hb'
        omega)
    obtain ⟨f', h1, h2, h3⟩ := Rd.frozen hC'
    exact ⟨_, f', [], he, h1, h2, _, rfl, rfl, _, by rw [hk]; exact h3, hx.le h1⟩
end Go.Sl
namespace Go.Sl
open Go.RowKit
section
variable {P : Program} {f f' f0 : Fz} {L L' : List Ent} {w0 w w' : World} {n : Nat} {E E' : List (Nat × Value)} {a : Act}
variable {ops : Array Oper} {rest : List Oper} {o : Oper} {K : AP} {C : World → Prop}
variable {d : Option Tmp} {ty : TypeId} {pos : String} {af : Array Edge} {g : Option (Nat × Bool)}
/-! # What has been frozen since -/
/-- Can this be written to? -/
def Obj.free : Obj → Bool
  | .cells _ _ (0, 0) => true
  | _ => false
theorem none_of {b : Nat} (h : Fz.le f0 f) (hb : f b = none) : f0 b = none := by
  cases e : f0 b with
  | none => rfl
  | some o => rw [h b o e] at hb; cases hb
/-! What was frozen since is let go: its blocks live. -/
/-! A store of a struct into a block, at an offset -/
end
end Go.Sl
namespace Go.Sl
open Go.RowKit
/-- A slice of the call's own, frozen: made since f0. -/
def OwnV (f0 f : Fz) (v : Value) (k : Nat) (e : TypeId) : Prop :=
  v = .slice none 0 0 ∨ ∃ (g m c : Nat) (cur : Array Value), v = .slice (some ⟨g, 0, none⟩) m c ∧ m ≤ c ∧ c ≤ maxLen ∧ cur.size = c * k ∧ f g = some (.cells cur e (0, 0)) ∧ f0 g = none
theorem OwnV.le {f0 f f' : Fz} {v : Value} {k : Nat} {e : TypeId} (h : OwnV f0 f v k e) (hf : Fz.le f f') : OwnV f0 f' v k e := by
  rcases h with h | ⟨g, m, c, cur, h1, h2, h3, h4, h5, h6⟩
  · exact .inl h
  · exact .inr ⟨g, m, c, cur, h1, h2, h3, h4, hf _ _ h5, h6⟩
theorem OwnV.base {f0 f1 f : Fz} {v : Value} {k : Nat} {e : TypeId} (h : OwnV f1 f v k e) (hf : Fz.le f0 f1) : OwnV f0 f v k e := by
  rcases h with h | ⟨g, m, c, cur, h1, h2, h3, h4, h5, h6⟩
  · exact .inl h
  · exact .inr ⟨g, m, c, cur, h1, h2, h3, h4, h5, none_of hf h6⟩
end Go.Sl
namespace Go.Sl
open Go.RowKit
section
variable {P : Program} {f f' : Fz} {L L' : List Ent} {w0 w w' : World} {n : Nat} {E E' : List (Nat × Value)} {a : Act}
variable {ops : Array Oper} {rest : List Oper} {o : Oper} {K : AP} {C : World → Prop}
variable {d : Option Tmp} {ty : TypeId} {pos : String} {af : Array Edge} {g : Option (Nat × Bool)}
/-! # Appending to what is left of a row of one's own -/
end
end Go.Sl
namespace Go.Sl
open Go.RowKit
/-! Interfaces; arrays behind a pointer. -/
section
variable {P : Program} {f f' f0 : Fz} {L L' Lc : List Ent} {w0 w w' : World} {n m i : Nat} {E E' : List (Nat × Value)} {a : Act}
variable {ops : Array Oper} {rest : List Oper} {K : AP} {C : World → Prop}
variable {d : Option Tmp} {ty : TypeId} {pos : String} {af : Array Edge} {g : Option (Nat × Bool)} {v : Value} {dd : Nat}
theorem y_mkIface {t : TypeId} {x : Operand} {td : TypeDesc} (hx : opv E x = some v) (ht : P.underlying t = some td) (hn : (match td with | .interface _ => false | _ => true) = true) : Y P C n E ⟨d, .makeInterface t x, ty, pos, af, g⟩ (.iface t v) :=
  .of fun a ha w _ => by
    have : (Instr.makeInterface t v).run P w = .ok (.iface t v) w := by
      unfold Instr.makeInterface
      cases td <;> first | (simp at hn; done) | simp [run_underlying ht]
    simp [execOp, ha.eval hx, this]
theorem y_ifNil {t t' : TypeId} {x : Operand} {ms : Array (String × TypeId)} (hx : opv E x = some .nilIface) (ht : P.underlying t = some (.interface ms)) : Y P C n E ⟨d, .binOp .neq t x (.const .nilIface) t', ty, pos, af, g⟩ (.bool false) :=
  .of fun a ha w _ => by
    have h : (Op.equal t .nilIface .nilIface).run P w = .ok true w := equal_deep (fun d => by simp [Op.equalIn, run_underlying ht]) rfl
    have e : a.eval (.const .nilIface) = .nilIface := rfl
    simp [execOp, ha.eval hx, e, eqGuard, binOp, h]
theorem y_assert {t t' u : TypeId} {x : Operand} {ms : Array (String × TypeId)} {it : TypeInfo} (hx : opv E x = some (.iface u v)) (ht : P.underlying t' = some (.interface ms)) (hi : P.info? u = some it) (hm : Instr.missingMethod ms it.methods = none) :
    Y P C n E ⟨d, .typeAssert x t t' true, ty, pos, af, g⟩ (.tuple #[.iface u v, .bool true]) :=
  .of fun a ha w _ => by
    have : (Instr.typeAssert (.iface u v) t t' true).run P w = .ok (.tuple #[.iface u v, .bool true]) w := by
      simp [Instr.typeAssert, run_underlying ht, typeInfo, hi, hm]
    simp [execOp, ha.eval hx, this]
theorem y_ixArr {t e : TypeId} {x ix : Operand} {b o len k by_ : Nat} {z : Value} {ik : IntKind} {i : Int} {j : Nat} (hx : opv E x = some (.pointer (some ⟨b, o, none⟩))) (hi : opv E ix = some (.int ik i)) (ht : P.underlying t = some (.array len e)) (hT : TI P e k by_ z)
    (hm : i = (j : Int)) (hb : j < len) : Y P C n E ⟨d, .indexAddr t x ix, ty, pos, af, g⟩ (.pointer (some ⟨b, o + j * k, none⟩)) :=
  .of fun a ha w _ => by
    subst hm
    obtain ⟨it, hit, _, hk, _⟩ := hT
    simp [execOp, ha.eval hx, ha.eval hi, Instr.indexAt, Instr.sureAddr, run_underlying ht, asIntOf, sizeOf, typeInfo, hit, hk, hb, add_lit]
theorem run_part1 {e : TypeId} {td : TypeDesc} {cs : Array Value} {j : Nat} {u : Value} {w : World} (ht : P.underlying e = some td) (ha : Agg td = false) (hj : cs[j]? = some u) : (part e cs j).run P w = .ok u w := by
  cases td <;> first | (simp [Agg] at ha; done) | simp [part, isAgg, run_underlying ht, hj]
theorem y_ixAV {t e : TypeId} {x ix : Operand} {cs : Array Value} {len by_ : Nat} {z u : Value} {ik : IntKind} {i : Int} {j : Nat} {td : TypeDesc} (hx : opv E x = some (.agg cs)) (hi : opv E ix = some (.int ik i)) (ht : P.underlying t = some (.array len e)) (he : P.underlying e = some td) (ha : Agg td = false) (hT : TI P e 1 by_ z)
    (hm : i = (j : Int)) (hb : j < len) (hj : cs[j]? = some u) : Y P C n E ⟨d, .index t x ix, ty, pos, af, g⟩ u :=
  .of fun a ha' w _ => by
    subst hm
    obtain ⟨it, hit, _, hk, _⟩ := hT
    have h1 : (part e cs (((j : Int)).toNat * it.size)).run P w = .ok u w := by rw [hk, Int.toNat_natCast, Nat.mul_one]; exact run_part1 he ha hj
    simp [execOp, ha'.eval hx, ha'.eval hi, Instr.index, run_underlying ht, asIntOf, sizeOf, typeInfo, hit, hb]
    rw [show j * it.size = ((j : Int)).toNat * it.size by simp, h1]
    rfl
theorem y_mkMeth {x : Operand} {nm : String} (hx : opv E x = some v) : Y P C n E ⟨d, .makeFunc (.method nm) #[x] #[], ty, pos, af, g⟩ (.func (.method nm) #[v] #[]) :=
  .of fun a ha w _ => by simp [execOp, ha.eval hx, Instr.makeFunc]
theorem y_nilMeth {x : Operand} {nm : String} {t : TypeId} (hx : opv E x = some (.func (.method nm) #[.iface t v] #[])) (hm : ∀ w, (nilAhead (P.types.size + Made.depth) t v nm).run P w = .ok (some false) w) : Y P C n E ⟨d, .nilCheck x, ty, pos, af, g⟩ (.func (.method nm) #[.iface t v] #[]) :=
  .of fun a ha w _ => by simp [execOp, ha.eval hx, hm]
theorem run_invoke {gn : FuncId} {x : Operand} {nm : String} {t : TypeId} {r : Value} {as : List Operand} {vs : List Value} {ats : Array TypeId} (hs : Ev n E a) (hx : opv E x = some (.iface t v)) (hm : ∀ w, (method (P.types.size + Made.depth) t v nm).run P w = .ok (gn, r) w) (hg : Has P gn) (hv : as.mapM (opv E) = some vs) :
    (execOp a.eval ⟨d, .call { callee := .invoke x nm, args := as.toArray, argTypes := ats }, ty, pos, af, g⟩).run P w = .ok (.enter gn (r :: vs).toArray) w := by
  have := evalArgs hs hv
  have e1 : as.toArray.map a.eval = vs.toArray := by simp [this]
  have e2 : (#[Value.iface t v] ++ vs.toArray).extract 1 (#[Value.iface t v] ++ vs.toArray).size = vs.toArray := by
    apply Array.ext_getElem?; intro i; simp
  have h3 : (callFunc gn (r :: vs).toArray).run P w = .ok (.enter gn (r :: vs).toArray) w := run_callFunc hg
  simp only [execOp, resolve, invoke, Sem.run_bind, Sem.run_pure, Result.andThen_ok, hs.eval hx, e1, callMethod]
  rw [e2]
  simp [hm, h3]
theorem RL_invoke {gn : FuncId} {x : Operand} {nm : String} {t : TypeId} {r : Value} {as : List Operand} {vs : List Value} {ats : Array TypeId} {Lr Lf : List Ent} {R : Value → Fz → List Ent → Prop} (hs : St n w0 f L E a w)
    (hx : opv E x = some (.iface t v)) (hm : ∀ w, (method (P.types.size + Made.depth) t v nm).run P w = .ok (gn, r) w) (hg : Has P gn) (hv : as.mapM (opv E) = some vs) (hL : L = Lr ++ Lf) (hp : Does P gn (r :: vs) f Lr R)
    (hw : Want ops E ⟨some dd, .call { callee := .invoke x nm, args := as.toArray, argTypes := ats }, ty, pos, af, g⟩ true) (hd : dd < n)
    (h : ∀ v f' L' a w, Fz.le f f' → R v f' L' → St n w0 f' (L' ++ Lf) ((dd, v) :: E) a w → RL P ops rest K a w) :
    RL P ops (⟨some dd, .call { callee := .invoke x nm, args := as.toArray, argTypes := ats }, ty, pos, af, g⟩ :: rest) K a w := by
  refine RL_step fun K' hK' => ?_
  rw [if_pos (hw.wanted hs.ev)]
  unfold opS
  rw [run_invoke hs.ev hx hm hg hv]
  subst hL
  refine (hp w0 Lf w hs.cw).mono ?_
  rintro e w' ⟨v, f', L', rfl, h1, h2, h3⟩
  exact ⟨v, rfl, hK' _ _ (h v f' L' _ _ h1 h3 ⟨hs.ev.put hd v, h2⟩)⟩
/-! sync/atomic, internal/race: of one goroutine -/
/-- An extern function: what is known of its row. -/
structure ExtF (P : Program) (gn : FuncId) (h : Array Value → Sem Value) : Prop where
  ex : ∃ fn, P.funcs[gn]? = some fn ∧ (fn.name == "runtime.NumGoroutine") = false ∧ fn.body.isNone = true ∧ Extern.findNext fn = none ∧ Extern.find fn = some h
theorem y_atLoad {gn : FuncId} {k : IntKind} {x y : Operand} {ats : Array TypeId} {b o : Nat} {i : Int} (hF : ExtF P gn (Extern.Atomic.loadT (.int k))) (hx : opv E x = some (.func (.func gn) #[] #[])) (hy : opv E y = some (.pointer (some ⟨b, o, none⟩))) (hc : Cell f L b o (.int k i)) :
    Y P (Cw w0 f L) n E ⟨d, .call { callee := .value x, args := #[y], argTypes := ats }, ty, pos, af, g⟩ (.int k i) :=
  .of fun a ha w hw => by
    obtain ⟨fn, h1, h2, h3, h4, h5⟩ := hF.ex
    have := run_call_load (P := P) h1 h2 h3 h4 k h5 (hc.cell? hw)
    simp [execOp, resolve, ha.eval hx, ha.eval hy, Deferred.ofValue, invoke, this]
theorem y_mark0 {gn : FuncId} {m : Mark} {x : Operand} {ats : Array TypeId} (hF : ExtF P gn (fun _ => do mark m; pure Extern.Race.none_)) (hx : opv E x = some (.func (.func gn) #[] #[])) :
    Y P C n E ⟨d, .call { callee := .value x, args := #[], argTypes := ats }, ty, pos, af, g⟩ (.tuple #[]) :=
  .of fun a ha w hw => by
    obtain ⟨fn, h1, h2, h3, h4, h5⟩ := hF.ex
    have := run_call_mark0 (P := P) h1 h2 h3 h4 m h5 w
    simp [execOp, resolve, ha.eval hx, Deferred.ofValue, invoke, this]
theorem y_marked {gn : FuncId} {m : Addr → Mark} {x y : Operand} {ats : Array TypeId} {p : Addr} (hF : ExtF P gn (Extern.Race.marked m)) (hx : opv E x = some (.func (.func gn) #[] #[])) (hy : opv E y = some (.pointer (some p))) :
    Y P C n E ⟨d, .call { callee := .value x, args := #[y], argTypes := ats }, ty, pos, af, g⟩ (.tuple #[]) :=
  .of fun a ha w hw => by
    obtain ⟨fn, h1, h2, h3, h4, h5⟩ := hF.ex
    have := run_call_marked (P := P) h1 h2 h3 h4 m h5 p w
    simp [execOp, resolve, ha.eval hx, ha.eval hy, Deferred.ofValue, invoke, this]
theorem y_toUnsafeO {t u q : TypeId} {x : Operand} {b o : Nat} {k by_ : Nat} {z cv : Value} (hx : opv E x = some (.pointer (some ⟨b, o, none⟩))) (ht : P.underlying t = some (.pointer q)) (hu : P.underlying u = some .unsafePointer) (hT : TI P q k by_ z) (hk : k ≠ 0) (hc : Cell f L b o cv) :
    Y P (Cw w0 f L) n E ⟨d, .convert t u x, ty, pos, af, g⟩ (.pointer (some ⟨b, o, none⟩)) :=
  .of fun a ha w hw => by
    obtain ⟨it, hit, _, hk', _⟩ := hT
    have h := run_convert_to_unsafe (P := P) ht hu (by rw [hit]; simp [hk', hk]) (hc.cell? hw)
    simp only [execOp, ha.eval hx, Sem.run_bind, h, Result.andThen_ok, Sem.run_pure]
/-- An extern function that turns one cell. -/
theorem RL_extSet {gn : FuncId} {x : Operand} {as : List Operand} {vs : List Value} {ats : Array TypeId} {u new : Value} {b o i : Nat} {cs cs' : Array Value} {e : TypeId} (hs : St n w0 f L E a w) (hi : L[i]? = some (.blk b (.cells cs e (0, 0))))
    (hx : opv E x = some (.func (.func gn) #[] #[])) (hv : as.mapM (opv E) = some vs) (ho : o < cs.size)
    (hr : ∀ w : World, w.cell? ⟨b, o, none⟩ = some (cs[o]'ho) → w.frozen? ⟨b, o, none⟩ = false → (callFunc gn vs.toArray).run P w = .ok (.value u) (w.setCell ⟨b, o, none⟩ new)) (hc' : cs.setIfInBounds o new = cs')
    (hw : Want ops E ⟨some dd, .call { callee := .value x, args := as.toArray, argTypes := ats }, ty, pos, af, g⟩ true) (hd : dd < n)
    (h : ∀ a w, St n w0 f (L.set i (.blk b (.cells cs' e (0, 0)))) ((dd, u) :: E) a w → RL P ops rest K a w) :
    RL P ops (⟨some dd, .call { callee := .value x, args := as.toArray, argTypes := ats }, ty, pos, af, g⟩ :: rest) K a w := by
  have hlive : w.heap[b]? = some (.cells cs e (0, 0)) := hs.cw.live _ (List.mem_of_getElem? hi)
  have hcell : w.cell? ⟨b, o, none⟩ = some (cs[o]'ho) := by simp [World.cell?, hlive, ho]
  have := evalArgs hs.ev hv
  have e1 : as.toArray.map a.eval = vs.toArray := by simp [this]
  refine RL_v hs hw (.to rfl hd) (v := u) (w' := w.setCell ⟨b, o, none⟩ new) (f' := f) (L' := L.set i (.blk b (.cells cs' e (0, 0)))) ?_ ?_ h
  · simp [execOp, resolve, hs.ev.eval hx, Deferred.ofValue, invoke, e1, hr w hcell (Cell.free hlive)]
  · subst hc'
    exact hs.cw.repl hi (Grew.setCell w ⟨b, o, none⟩ new) (heap_setCell_same w b o cs e new hlive) (fun b' hb => .inl hb)
end
end Go.Sl
namespace Go.Sl
open Go.RowKit
/-! # Functions that put calls off -/
section
variable {P : Program} {f f' : Fz} {L : List Ent} {w0 w : World} {n : Nat} {E : List (Nat × Value)} {a : Act} {fn : Func} {R : Ending → World → Prop} {M : List Deferred} {K : AP}
/-- The rest of a function's run, with calls put off. -/
def WD (P : Program) (fn : Func) (R : Ending → World → Prop) (M : List Deferred) (c : Code) : AP := fun a w => c.wpIn (wideR none) 0 P (bodyPostD P fn R) (withM M a) w
theorem enterDf {gn : FuncId} {c : Code} {args : List Value} (hf : P.funcs[gn]? = some fn) (hb : fn.body = some c) (hn : fn.ntmps = n) (hl : args.length ≤ n) (hC : Cw w0 f L w)
    (h : ∀ a, St n w0 f L (argEnv 0 args) a w → WD P fn R [] c a w) : Calls P gn args.toArray w R := by
  refine calls_of_wp_defers hf hb (wpIn_wide (n := 0).1 (h { tmps := args.toArray ++ Array.replicate (fn.ntmps - args.toArray.size) undef, defers := [] } ⟨⟨?_, rfl, ?_⟩, hC⟩))
  · simp; omega
  · intro t v ht
    obtain ⟨_, h2⟩ := look_argEnv args 0 t v ht
    simp only [Nat.sub_zero] at h2
    have hlt : t < args.length := (List.getElem?_eq_some_iff.1 h2).1
    rw [Array.getElem?_append_left (by simpa using hlt)]
    simpa using h2
theorem enterCD {gn : FuncId} {c : Code} {args : List Value} {u : FrameMode} (hf : P.funcs[gn]? = some fn) (hb : fn.body = some c) (hn : fn.ntmps = n) (hl : args.length ≤ n) (hC : Cw w0 f L w)
    (h : ∀ a, St n w0 f L (argEnv 0 args) a w → W P c (Rt P fn R) (fun _ _ _ => False) (Rt P fn R) (fun _ _ _ => False) a w) : CallsD P gn args.toArray u w fun e u' w' => u' = u ∧ R e w' := by
  refine callsD_of_wp hf hb (wpIn_wide (n := 0).1 (wpIn_mono (h { tmps := args.toArray ++ Array.replicate (fn.ntmps - args.toArray.size) undef, defers := [] } ⟨⟨?_, rfl, ?_⟩, hC⟩ none []) fun e a w q => ?_))
  · simp; omega
  · intro t v ht
    obtain ⟨_, h2⟩ := look_argEnv args 0 t v ht
    simp only [Nat.sub_zero] at h2
    have hlt : t < args.length := (List.getElem?_eq_some_iff.1 h2).1
    rw [Array.getElem?_append_left (by simpa using hlt)]
    simpa using h2
  · obtain ⟨b, rfl, q⟩ := q
    cases e <;> first | exact ⟨rfl, q.2⟩ | exact q.elim
def RD (P : Program) (fn : Func) (R : Ending → World → Prop) (M : List Deferred) : AP := fun b w => Leaves P fn b.tmps R M .returning w
theorem WD_seq {x y : Code} (h : ∀ K : AP, (∀ b w, WD P fn R M y b w → K b w) → W P x K (fun _ _ _ => False) (RD P fn R M) (fun _ _ _ => False) a w) : WD P fn R M (.seq x y) a w :=
  wpIn_seq (wpIn_mono (h _ (fun _ _ h => h) none M) fun e b w q => by
    obtain ⟨b, rfl, q⟩ := q
    cases e <;> first | exact q | exact q.elim)
theorem WD_end {x : Code} (h : W P x (RD P fn R M) (fun _ _ _ => False) (RD P fn R M) (fun _ _ _ => False) a w) : WD P fn R M x a w :=
  wpIn_mono (h none M) fun e b w q => by
    obtain ⟨b, rfl, q⟩ := q
    cases e <;> first | exact q | exact q.elim
theorem RL_pre {Q : Exit → AP} {ops : Array Oper} {rest : List Oper} (hK : ∀ b w, K b w → wpListIn (wideR none) 0 P ops Q rest (withM M b) w) : ∀ {l : List Oper} {a : Act} {w : World}, RLd P ops l K a w → wpListIn (wideR none) 0 P ops Q (l ++ rest) (withM M a) w
  | [], a, w, h => hK a w h
  | o :: l, a, w, h => by
    unfold RLd at h
    rw [List.cons_append]
    unfold wpListIn
    show if Region.wanted o (yielded ops a.tmps) then _ else _
    split
    · rename_i hw
      rw [if_pos hw] at h
      exact opS_in (fun a w h => RL_pre hK h) h
    · rename_i hw
      rw [if_neg hw] at h
      refine ⟨fun _ _ => trivial, ?_⟩
      rw [withM_put]
      exact RL_pre hK h
/-- A region that ends with a call put off. -/
theorem WD_defer {id : Nat} {l : List Oper} {o : Oper} {y : Code} {cl : Call} (ho : o.op = .defer cl) (hg : o.guard = none) (h : RL P (l ++ [o]).toArray l (fun b w => ∃ d, (resolve b.eval cl o.type).run P w = .ok d w ∧ WD P fn R (d :: M) y (b.put o.dst undef) w) a w) :
    WD P fn R M (.seq (.region id (l ++ [o]).toArray false) y) a w := by
  refine wpIn_seq (wpIn_region_lit (RL_pre (fun b w hb => ?_) h.d))
  obtain ⟨d, h1, h2⟩ := hb
  obtain ⟨dst, op, ty, pos, af, g⟩ := o
  simp only at ho hg
  subst ho hg
  unfold wpListIn
  show if Region.wanted _ _ then _ else _
  rw [if_pos (by simp [Region.wanted])]
  refine ⟨fun _ _ => trivial, ?_⟩
  have hx : (Oper.semAt (wideR none).round b.eval ⟨dst, .defer cl, ty, pos, af, none⟩).run P w = .ok (.defer d) w := by
    show (execOp b.eval ⟨dst, .defer cl, ty, pos, af, none⟩).run P w = _
    simp only at h1
    simp [execOp, h1]
  show Oper.uponIn (wideR none) 0 P _ (withM M b) _ _ ((Oper.semAt (wideR none).round b.eval ⟨dst, .defer cl, ty, pos, af, none⟩).run P w)
  rw [hx, Oper.uponIn_defer]
  have : ({ withM M b with defers := d :: (withM M b).defers }.put dst undef) = withM (d :: M) (b.put dst undef) := by rw [← withM_put]; rfl
  rw [this]
  exact h2
theorem WD_deferL {id : Nat} {ops : List Oper} {o : Oper} {y : Code} {cl : Call} (hl : ops.getLast? = some o) (ho : o.op = .defer cl) (hg : o.guard = none) (h : RL P ops.toArray ops.dropLast (fun b w => ∃ d, (resolve b.eval cl o.type).run P w = .ok d w ∧ WD P fn R (d :: M) y (b.put o.dst undef) w) a w) :
    WD P fn R M (.seq (.region id ops.toArray false) y) a w := by
  have hsp : ops.dropLast ++ [o] = ops := by
    have hne : ops ≠ [] := fun e => by rw [e] at hl; cases hl
    have := List.dropLast_concat_getLast hne
    rw [List.getLast?_eq_some_getLast hne] at hl
    cases hl; exact this
  have key := WD_defer (id := id) (l := ops.dropLast) (y := y) (M := M) (R := R) (fn := fn) (P := P) (a := a) (w := w) ho hg
  rw [hsp] at key
  exact key h
theorem WD_condT {c : Operand} {x y : Code} (hs : St n w0 f L E a w) (hc : opv E c = some (.bool true)) (h : WD P fn R M x a w) : WD P fn R M (.cond c x y) a w :=
  wpIn_cond (t := true) (show (withM M a).eval c = .bool true from hs.ev.eval hc) h
theorem resolve_fn {gn : FuncId} {x : Operand} {as : List Operand} {vs : List Value} {ats : Array TypeId} {ty : TypeId} (hs : Ev n E a) (hx : opv E x = some (.func (.func gn) #[] #[])) (hv : as.mapM (opv E) = some vs) :
    (resolve a.eval { callee := .value x, args := as.toArray, argTypes := ats } ty).run P w = .ok { target := .fn (.func gn) #[], args := vs.toArray } w := by
  have := evalArgs hs hv
  have e1 : as.toArray.map a.eval = vs.toArray := by simp [this]
  simp [resolve, hs.eval hx, Deferred.ofValue, e1]
variable {ops : Array Oper} {rest : List Oper} {ty : TypeId} {pos : String} {af : Array Edge} {g : Option (Nat × Bool)} {dd : Nat}
/-- A call of a function's value that brings its first arguments. -/
theorem RL_callF {gn : FuncId} {x : Operand} {fs : List Value} {as : List Operand} {vs : List Value} {ats : Array TypeId} {Lr Lf : List Ent} {Q : Value → Fz → List Ent → Prop} (hs : St n w0 f L E a w)
    (hx : opv E x = some (.func (.func gn) fs.toArray #[])) (hg : Has P gn) (hv : as.mapM (opv E) = some vs) (hL : L = Lr ++ Lf) (hp : Does P gn (fs ++ vs) f Lr Q)
    (hw : Want ops E ⟨some dd, .call { callee := .value x, args := as.toArray, argTypes := ats }, ty, pos, af, g⟩ true) (hd : dd < n)
    (h : ∀ v f' L' a w, Fz.le f f' → Q v f' L' → St n w0 f' (L' ++ Lf) ((dd, v) :: E) a w → RL P ops rest K a w) :
    RL P ops (⟨some dd, .call { callee := .value x, args := as.toArray, argTypes := ats }, ty, pos, af, g⟩ :: rest) K a w := by
  refine RL_step fun K' hK' => ?_
  rw [if_pos (hw.wanted hs.ev)]
  unfold opS
  have := evalArgs hs.ev hv
  have e1 : as.toArray.map a.eval = vs.toArray := by simp [this]
  have hr : (execOp a.eval ⟨some dd, .call { callee := .value x, args := as.toArray, argTypes := ats }, ty, pos, af, g⟩).run P w = .ok (.enter gn (fs ++ vs).toArray) w := by
    simp [execOp, resolve, hs.ev.eval hx, Deferred.ofValue, invoke, run_callFunc hg, e1]
  rw [hr]
  subst hL
  refine (hp w0 Lf w hs.cw).mono ?_
  rintro e w' ⟨v, f', L', rfl, h1, h2, h3⟩
  exact ⟨v, rfl, hK' _ _ (h v f' L' _ _ h1 h3 ⟨hs.ev.put hd v, h2⟩)⟩
end
end Go.Sl
namespace Go.Sl
open Go.RowKit
section
variable {P : Program} {C : World → Prop} {n : Nat} {E : List (Nat × Value)} {d : Option Tmp} {ty : TypeId} {pos : String} {af : Array Edge} {g : Option (Nat × Bool)}
theorem y_slNeq {t t' e : TypeId} {x : Operand} {ao : Option Addr} {m c : Nat} (hx : opv E x = some (.slice ao m c)) (ht : P.underlying t = some (.slice e)) : Y P C n E ⟨d, .binOp .neq t x (.const (.slice none 0 0)) t', ty, pos, af, g⟩ (.bool ao.isSome) :=
  .of fun a ha w _ => by
    have h : (Op.equal t (.slice ao m c) (.slice none 0 0)).run P w = .ok ao.isNone w := equal_deep (fun d => by cases ao <;> simp [Op.equalIn, run_underlying ht]) rfl
    have e : a.eval (.const (.slice none 0 0)) = .slice none 0 0 := rfl
    simp [execOp, ha.eval hx, e, eqGuard, binOp, h]
end
end Go.Sl
