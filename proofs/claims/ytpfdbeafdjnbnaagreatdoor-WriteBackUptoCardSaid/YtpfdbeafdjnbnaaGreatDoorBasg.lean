/-
  Walks and laws of this seat.
-/
import Derived.Test.YtpfdbeafdjnbnaaGreatDoorBasf
import Derived.Laws.StructEq
namespace Go.Sl
section
open Go.RowKit
theorem zmb (a b : ByteArray) : (a == b) = decide (a = b) := by
  obtain ⟨x⟩ := a
  obtain ⟨y⟩ := b
  show (x == y) = _
  by_cases h : x = y <;> simp [h]
def SMap (l : List MapEntry) (m : List (ByteArray × Value)) : Prop := l.map (fun e => (e.key, e.val)) = m.map fun p => (Value.string p.1, p.2)
def mget (m : List (ByteArray × Value)) (k : ByteArray) : Option Value := (m.find? fun p => decide (p.1 = k)).map (·.2)
def mput (m : List (ByteArray × Value)) (k : ByteArray) (v : Value) : List (ByteArray × Value) := match m with
  | [] => [(k, v)]
  | p :: m => if p.1 = k then (p.1, v) :: m else p :: mput m k v
theorem zrd : ∀ (l : List MapEntry) (m : List (ByteArray × Value)) (k : ByteArray) (i : Nat), SMap l m →
    (∃ j v, mget m k = some v ∧ Instr.findNow .string (.string k) l i = some (some (i + j, v)) ∧ (l[j]?).map (·.key) = some (.string k) ∧ ∀ v', SMap (l.modify j fun e => { e with key := .string k, val := v' }) (mput m k v')) ∨ (mget m k = none ∧ Instr.findNow .string (.string k) l i = some none)
  | [], m, k, i, h => by
    cases m with
    | nil => exact .inr ⟨rfl, rfl⟩
    | cons p m => simp [SMap] at h
  | e :: l,[], k, i, h => by simp [SMap] at h
  | e :: l, p :: m, k, i, h => by
    simp only [SMap, List.map_cons, List.cons.injEq, Prod.mk.injEq] at h
    obtain ⟨⟨h1, h2⟩, h3⟩ := h
    by_cases hk : p.1 = k
    · refine .inl ⟨0, e.val, by simp [mget, hk, h2], ?_, by simp [h1, hk], fun v' => by simp [SMap, mput, hk]; exact h3⟩
      simp [Instr.findNow, Instr.sameNow, h1, hk, zmb]
    · have hk' : ¬ k = p.1 := fun e => hk e.symm
      rcases zrd l m k (i + 1) h3 with ⟨j, v, e1, e2, e3, e4⟩ | ⟨e1, e2⟩
      · refine .inl ⟨j + 1, v, ?_, ?_, by simpa using e3, fun v' => by have := e4 v'; simp [SMap, mput, hk, h1, h2] at this ⊢; exact this⟩
        · simpa [mget, hk] using e1
        · simp [Instr.findNow, Instr.sameNow, h1, hk', e2, zmb, Nat.add_assoc, Nat.add_comm 1 j]
      · refine .inr ⟨by simpa [mget, hk] using e1, ?_⟩
        simp [Instr.findNow, Instr.sameNow, h1, hk', e2, zmb]
section
variable {P : Program} {ops : Array Oper} {rest : List Oper} {n : Nat} {w0 w : World} {f f' : Fz} {L L' : List Ent} {E E' : List (Nat × Value)} {a : Act} {K : AP} {v : Value}
variable {ty : TypeId} {pos : String} {af : Array Edge} {d : Option Tmp} {g : Option (Nat × Bool)} {C : World → Prop}
theorem zu1 {t : TypeId} {dd : Nat} (hs : St n w0 f L E a w) (h : ∀ r a w, St n w0 f (.blk r (.map #[] 0) :: L) ((dd, .map (some r)) :: E) a w → RL P ops rest K a w) (hd : dd < n := by decide) :
    RL P ops (⟨some dd, .makeMap t none, ty, pos, af, none⟩ :: rest) K a w :=
  RL_v hs (.free rfl) (.to rfl hd) (v := .map (some w.heap.size)) (w' := w.alloc (.map #[] 0)) (by
    simp only [execOp, Option.map_none, Sem.run_bind]
    rw [show (Instr.makeMap t none).run P w = .ok (.map (some w.heap.size)) (w.alloc (.map #[] 0)) from rfl]
    simp [Sem.run_pure]) (hs.cw.alloc _) (h _)
theorem zpb {kt : TypeId} {k : ByteArray} {em : Bool} {dpt : Nat} (hk : P.underlying kt = some .string) : (Instr.checkKey em (dpt + 1) kt (.string k)).run P w = .ok () w := by
  simp [Instr.checkKey, run_underlying hk]
theorem zre {kt : TypeId} {k : ByteArray} {l : List MapEntry} {m : List (ByteArray × Value)} (hk : P.underlying kt = some .string) (hm : SMap l m) :
    (∃ j v, mget m k = some v ∧ (Instr.findKey kt (.string k) l).run P w = .ok (some (j, v)) w ∧ (l[j]?).map (·.key) = some (.string k) ∧ ∀ v', SMap (l.modify j fun e => { e with key := .string k, val := v' }) (mput m k v')) ∨ (mget m k = none ∧ (Instr.findKey kt (.string k) l).run P w = .ok none w) := by
  rcases zrd l m k 0 hm with ⟨j, v, e1, e2, e3⟩ | ⟨e1, e2⟩
  · exact .inl ⟨j, v, e1, by simp [Instr.findKey, run_underlying hk, e2, Sem.run_pure], e3⟩
  · exact .inr ⟨e1, by simp [Instr.findKey, run_underlying hk, e2, Sem.run_pure]⟩
theorem zou {r : Nat} {es : Array MapEntry} {c : Nat} (h : w.heap[r]? = some (.map es c)) : (getObj r).run P w = .ok (.map es c) w := by simp [getObj, Sem.run, h]
theorem zot {r : Nat} {es : Array MapEntry} {c : Nat} (o : Obj) (h : w.heap[r]? = some (.map es c)) : (setObj r o).run P w = .ok () { w with heap := w.heap.setIfInBounds r o } := by simp [setObj, Sem.run, h]
theorem mapAt {r : Nat} {es : Array MapEntry} {c : Nat} (hm : .blk r (.map es c) ∈ L) (hC : Cw w0 f L w) : w.heap[r]? = some (.map es c) := hC.live _ hm
theorem zu5 {t kt e : TypeId} {x y : Operand} {r : Nat} {es : Array MapEntry} {c : Nat} {m : List (ByteArray × Value)} {k : ByteArray} {by_ kk : Nat} {z : Value} (hx : opv E x = some (.map (some r))) (hy : opv E y = some (.string k))
    (ht : P.underlying t = some (.map kt e)) (hk : P.underlying kt = some .string) (hT : TI P e kk by_ z) (hm : .blk r (.map es c) ∈ L) (hS : SMap es.toList m) :
    Y P (Cw w0 f L) n E ⟨d, .lookup t x y false, ty, pos, af, g⟩ ((mget m k).getD z) :=
  .of fun a ha w hw => by
    obtain ⟨i, hi, hz, _, _⟩ := hT
    have hb := zou (P := P) (mapAt hm hw)
    have hck : (Instr.checkKey es.isEmpty 10000 kt (.string k)).run P w = .ok () w := zpb (dpt := 9999) hk
    rcases zre (P := P) (w := w) (k := k) hk hS with ⟨j, v, e1, e2, _⟩ | ⟨e1, e2⟩
    · simp [execOp, ha.eval hx, ha.eval hy, Instr.lookup, run_underlying ht, hb, hck, e1, e2]
    · simp [execOp, ha.eval hx, ha.eval hy, Instr.lookup, run_underlying ht, hb, hck, e1, e2, zeroValue, typeInfo, hi, hz]
theorem zul {l : List MapEntry} {m : List (ByteArray × Value)} {k : ByteArray} {v : Value} {c : Nat} (h : SMap l m) (hn : mget m k = none) : SMap (l ++ [{ key := .string k, val := v, born := c }]) (mput m k v) := by
  have e : mput m k v = m ++ [(k, v)] := by
    clear h
    induction m with
    | nil => rfl
    | cons p m ih =>
      have hp : ¬ p.1 = k := fun e => by simp [mget, e] at hn
      rw [mput, if_neg hp, ih (by simpa [mget, hp] using hn)]
      rfl
  rw [e]
  unfold SMap at h ⊢
  rw [List.map_append, List.map_append, h]
  rfl
theorem zqm {t kt e : TypeId} {x y z : Operand} {r : Nat} {es : Array MapEntry} {c : Nat} {m : List (ByteArray × Value)} {k : ByteArray} {u : Value} (i : Nat) (hs : St n w0 f L E a w) (hi : L[i]? = some (.blk r (.map es c))) (hx : opv E x = some (.map (some r))) (hy : opv E y = some (.string k)) (hz : opv E z = some u)
    (ht : P.underlying t = some (.map kt e)) (hk : P.underlying kt = some .string) (hS : SMap es.toList m)
    (h : ∀ es' c' a w, SMap es'.toList (mput m k u) → St n w0 f (L.set i (.blk r (.map es' c'))) E a w → RL P ops rest K a w) : RL P ops (⟨none, .mapUpdate t x y z, ty, pos, af, none⟩ :: rest) K a w := by
  have hb := hs.cw.live _ (List.mem_of_getElem? hi)
  have hlt : r < w.heap.size := (Array.getElem?_eq_some_iff.1 hb).1
  have hg := zou (P := P) hb
  have hck : (Instr.checkKey false 10000 kt (.string k)).run P w = .ok () w := zpb (dpt := 9999) hk
  have fin : ∀ es' c', (Instr.mapUpdate t (.map (some r)) (.string k) u).run P w = .ok () { w with heap := w.heap.setIfInBounds r (.map es' c') } → SMap es'.toList (mput m k u) →
      RL P ops (⟨none, .mapUpdate t x y z, ty, pos, af, none⟩ :: rest) K a w := fun es' c' hr hS' => by
    refine RL_u hs (.free rfl) (.drop rfl) (w' := { w with heap := w.heap.setIfInBounds r (.map es' c') }) (f' := f) (L' := L.set i (.blk r (.map es' c'))) ?_ ?_ (fun a w => h es' c' a w hS')
    · simp [execOp, hs.ev.eval hx, hs.ev.eval hy, hs.ev.eval hz, hr]
    · refine hs.cw.repl hi ⟨rfl, rfl, rfl, by simp, fun b hb hne => ?_⟩ ?_ (fun b hb => .inl hb)
      · have : r ≠ b := fun e => hne (by simp [Ent.key, e])
        simp [Array.getElem?_setIfInBounds_ne this]
      · show (w.heap.setIfInBounds r (.map es' c'))[r]? = some (.map es' c')
        simp [hlt]
  rcases zre (P := P) (w := w) (k := k) hk hS with ⟨j, v, e1, e2, e3, e4⟩ | ⟨e1, e2⟩
  · refine fin (es.modify j fun e => { e with key := .string k, val := u }) c ?_ ?_
    · have hkey : ((es[j]?).map (·.key)).getD (.string k) = .string k := by rw [← Array.getElem?_toList, e3]; rfl
      simp [Instr.mapUpdate, run_underlying ht, hg, hck, e2, hkey, Instr.keyThatStays, Instr.sameBits, zmb, zot _ hb]
    · simpa using e4 u
  · refine fin (es.push { key := .string k, val := u, born := c }) (c + 1) ?_ ?_
    · simp [Instr.mapUpdate, run_underlying ht, hg, hck, e2, zot _ hb]
    · simpa using zul hS e1
end
end
section
open Go.RowKit
structure Ty (α : Type) where
  k : Nat
  R : Fz → List Value → α → Prop
  mono : ∀ {f f' : Fz} {r : List Value} {x : α}, R f r x → Fz.le f f' → R f' r x
  one : ∀ {f : Fz} {r : List Value} {x : α}, R f r x → OneRow k r
section
variable {α : Type} {t : Ty α} {f f' : Fz} {rows rows2 : List (List Value)} {xs ys : List α} {L : List Ent} {v : Value}
def RW (t : Ty α) (f : Fz) : List (List Value) → List α → Prop
  | [],[] => True
  | r :: rs, x :: xs => t.R f r x ∧ RW t f rs xs
  | _, _ => False
theorem RW.le : ∀ {rows : List (List Value)} {xs : List α}, RW t f rows xs → Fz.le f f' → RW t f' rows xs
  | [],[], _, _ => trivial
  | _ :: _, _ :: _, h, hf => ⟨t.mono h.1 hf, RW.le h.2 hf⟩
  | [], _ :: _, h, _ => h.elim
  | _ :: _,[], h, _ => h.elim
theorem RW.len : ∀ {rows : List (List Value)} {xs : List α}, RW t f rows xs → rows.length = xs.length
  | [],[], _ => rfl
  | _ :: _, _ :: _, h => by simp [RW.len h.2]
  | [], _ :: _, h => h.elim
  | _ :: _,[], h => h.elim
theorem RW.get : ∀ {rows : List (List Value)} {xs : List α} {i : Nat} {x : α}, RW t f rows xs → xs[i]? = some x → ∃ r, rows[i]? = some r ∧ t.R f r x
  | [],[], i, x, _, h => by simp at h
  | r :: _, y :: _,0, x, h, hx => by simp at hx; subst hx; exact ⟨r, rfl, h.1⟩
  | _ :: rs, _ :: xs, i + 1, x, h, hx => by simpa using RW.get (i := i) h.2 (by simpa using hx)
  | [], _ :: _, _, _, h, _ => h.elim
  | _ :: _,[], _, _, h, _ => h.elim
theorem RW.append : ∀ {rows rows2 : List (List Value)} {xs ys : List α}, RW t f rows xs → RW t f rows2 ys → RW t f (rows ++ rows2) (xs ++ ys)
  | [], _,[], _, _, h => h
  | _ :: _, _, _ :: _, _, h, h2 => ⟨h.1, RW.append h.2 h2⟩
  | [], _, _ :: _, _, h, _ => h.elim
  | _ :: _, _,[], _, h, _ => h.elim
theorem RW.set : ∀ {rows : List (List Value)} {xs : List α} {i : Nat} {r : List Value} {x : α}, RW t f rows xs → t.R f r x → RW t f (rows.set i r) (xs.set i x)
  | [],[], _, _, _, _, _ => trivial
  | _ :: _, _ :: _,0, _, _, h, hx => ⟨hx, h.2⟩
  | _ :: _, _ :: _, i + 1, _, _, h, hx => ⟨h.1, RW.set (i := i) h.2 hx⟩
  | [], _ :: _, _, _, _, h, _ => h.elim
  | _ :: _,[], _, _, _, h, _ => h.elim
theorem RW.take : ∀ {rows : List (List Value)} {xs : List α} (m : Nat), RW t f rows xs → RW t f (rows.take m) (xs.take m)
  | _, _,0, _ => by simp [RW]
  | [],[], _ + 1, _ => trivial
  | _ :: _, _ :: _, m + 1, h => ⟨h.1, RW.take m h.2⟩
  | [], _ :: _, _ + 1, h => h.elim
  | _ :: _,[], _ + 1, h => h.elim
theorem RW.drop : ∀ {rows : List (List Value)} {xs : List α} (m : Nat), RW t f rows xs → RW t f (rows.drop m) (xs.drop m)
  | _, _,0, h => by simpa using h
  | [],[], _ + 1, _ => trivial
  | _ :: _, _ :: _, m + 1, h => by simpa using RW.drop m h.2
  | [], _ :: _, _ + 1, h => h.elim
  | _ :: _,[], _ + 1, h => h.elim
theorem RW.rep {r : List Value} {x : α} (h : t.R f r x) : ∀ m, RW t f (List.replicate m r) (List.replicate m x)
  | 0 => trivial
  | m + 1 => ⟨h, RW.rep h m⟩
theorem RW.single {r : List Value} {x : α} (h : t.R f r x) : RW t f [r] [x] := ⟨h, trivial⟩
theorem RW.map {g : α → List Value} (h : ∀ r x, t.R f r x → r = g x) : ∀ {rows : List (List Value)} {xs : List α}, RW t f rows xs → rows = xs.map g
  | [],[], _ => rfl
  | r :: rs, x :: xs, hh => by rw [List.map_cons, ← h r x hh.1, ← RW.map h hh.2]
  | [], _ :: _, h => h.elim
  | _ :: _,[], h => h.elim
def RS (t : Ty α) (f : Fz) (v : Value) (xs : List α) : Prop := ∃ rows, Rd f [] v t.k rows ∧ RW t f rows xs
theorem RS.le (h : RS t f v xs) (hf : Fz.le f f') : RS t f' v xs := by
  obtain ⟨rows, h1, h2⟩ := h
  exact ⟨rows, h1.le hf, h2.le hf⟩
theorem RS.nil : RS t f (.slice none 0 0) [] := ⟨[], Rd.nil _ _ _, trivial⟩
theorem RS.one (h : RS t f v xs) : v.oneCell' = true := by obtain ⟨_, h1, _⟩ := h; exact h1.one
def AllC : List Value → Prop
  | [] => True
  | v :: r => v.oneCell' = true ∧ AllC r
theorem AllC.all : ∀ {r : List Value}, AllC r → ∀ x ∈ r, x.oneCell' = true
  | [], _, x, hx => by simp at hx
  | v :: r, h, x, hx => by
    rcases List.mem_cons.1 hx with rfl | hx
    · exact h.1
    · exact AllC.all h.2 x hx
theorem AllC.row {r : List Value} {k : Nat} (h : AllC r) (hl : r.length = k) : OneRow k r := ⟨hl, h.all⟩
theorem AllC.arr {r : List Value} (h : AllC r) : r.toArray.all (·.oneCell') = true := by
  have := h.all
  simpa [Array.all_eq_true, List.all_eq_true] using this
def tInt (k : IntKind) : Ty Int := ⟨1, fun _ r x => r = [.int k x], fun h _ => h, fun h => by subst h; exact ⟨rfl, by simp [Value.oneCell']⟩⟩
def tBool : Ty Bool := ⟨1, fun _ r x => r = [.bool x], fun h _ => h, fun h => by subst h; exact ⟨rfl, by simp [Value.oneCell']⟩⟩
def tStr : Ty ByteArray := ⟨1, fun _ r x => r = [.string x], fun h _ => h, fun h => by subst h; exact ⟨rfl, by simp [Value.oneCell']⟩⟩
def tSl (t : Ty α) : Ty (List α) := ⟨1, fun f r xs => ∃ v, r = [v] ∧ RS t f v xs, fun ⟨v, e, h⟩ hf => ⟨v, e, h.le hf⟩, fun ⟨v, e, h⟩ => by subst e; exact ⟨rfl, by simp [h.one]⟩⟩
end
abbrev w64 (i : Int) : Int := IntKind.i64.wrap i
abbrev bs (l : List UInt8) : ByteArray := ⟨l.toArray⟩
def geti {α : Type} (xs : List α) (i : Int) : Option α := if 0 ≤ i then xs[i.toNat]? else none
def roomB (by_ m : Nat) : Bool := decide (m ≤ 9223372036854775807) && decide (m * by_ ≤ 140737488355328)
def appM {α : Type} (by_ : Nat) (xs ys : List α) : Option (List α) := bif roomB by_ (xs.length + ys.length) then some (xs ++ ys) else none
def repM {α : Type} (by_ : Nat) (m : Int) (x : α) : Option (List α) := bif decide (0 ≤ m) && decide (by_ * m.toNat ≤ 281474976710656) && decide (m.toNat ≤ 9223372036854775807) then some (List.replicate m.toNat x) else none
def cutM {α : Type} (xs : List α) (lo hi : Int) : Option (List α) := bif decide (0 ≤ lo) && decide (lo ≤ hi) && decide (hi ≤ xs.length) then some ((xs.take hi.toNat).drop lo.toNat) else none
def cutS (s : ByteArray) (lo hi : Int) : Option ByteArray := bif decide (0 ≤ lo) && decide (lo ≤ hi) && decide (hi ≤ s.size) then some (s.extract lo.toNat hi.toNat) else none
def addS (s t : ByteArray) : Option ByteArray := bif decide (s.size + t.size ≤ 9223372036854775807) then some (s ++ t) else none
def getS (s : ByteArray) (i : Int) : Option Int := geti (bytesIn s) i
theorem ob {α β : Type} {o : Option α} {k : α → Option β} {r : β} (h : o.bind k = some r) : ∃ x, o = some x ∧ k x = some r := by
  cases o with
  | none => cases h
  | some x => exact ⟨x, rfl, h⟩
theorem oc_t {α : Type} {b : Bool} {x y : Option α} {r : α} (hb : b = true) (h : (bif b then x else y) = some r) : x = some r := by subst hb; exact h
theorem oc_f {α : Type} {b : Bool} {x y : Option α} {r : α} (hb : b = false) (h : (bif b then x else y) = some r) : y = some r := by subst hb; exact h
theorem zkp {α : Type} {xs : List α} {i : Int} {x : α} (h : geti xs i = some x) : i = (i.toNat : Int) ∧ xs[i.toNat]? = some x := by
  unfold geti at h
  split at h
  · exact ⟨by omega, h⟩
  · cases h
theorem zcb {α : Type} {by_ : Nat} {xs ys zs : List α} (h : appM by_ xs ys = some zs) : (xs.length + ys.length ≤ 9223372036854775807 ∧ (xs.length + ys.length) * by_ ≤ 140737488355328) ∧ xs ++ ys = zs := by
  unfold appM roomB at h
  cases hb : (decide (xs.length + ys.length ≤ 9223372036854775807) && decide ((xs.length + ys.length) * by_ ≤ 140737488355328)) with
  | false => rw [hb] at h; cases h
  | true =>
    rw [hb] at h
    simp only [Bool.and_eq_true, decide_eq_true_eq] at hb
    exact ⟨hb, by simpa using h⟩
theorem zno {α : Type} {by_ : Nat} {m : Int} {x : α} {zs : List α} (h : repM by_ m x = some zs) : m = (m.toNat : Int) ∧ (by_ * m.toNat ≤ 281474976710656 ∧ m.toNat ≤ 9223372036854775807) ∧ List.replicate m.toNat x = zs := by
  unfold repM at h
  cases hb : (decide (0 ≤ m) && decide (by_ * m.toNat ≤ 281474976710656) && decide (m.toNat ≤ 9223372036854775807)) with
  | false => rw [hb] at h; cases h
  | true =>
    rw [hb] at h
    simp only [Bool.and_eq_true, decide_eq_true_eq] at hb
    exact ⟨by omega, ⟨hb.1.2, hb.2⟩, by simpa using h⟩
theorem zm9 {α : Type} {xs zs : List α} {lo hi : Int} (h : cutM xs lo hi = some zs) : (lo = (lo.toNat : Int) ∧ hi = (hi.toNat : Int) ∧ lo.toNat ≤ hi.toNat ∧ hi.toNat ≤ xs.length) ∧ (xs.take hi.toNat).drop lo.toNat = zs := by
  unfold cutM at h
  cases hb : (decide (0 ≤ lo) && decide (lo ≤ hi) && decide (hi ≤ xs.length)) with
  | false => rw [hb] at h; cases h
  | true =>
    rw [hb] at h
    simp only [Bool.and_eq_true, decide_eq_true_eq] at hb
    exact ⟨by omega, by simpa using h⟩
theorem zjs {s z : ByteArray} {lo hi : Int} (h : cutS s lo hi = some z) : (lo = (lo.toNat : Int) ∧ hi = (hi.toNat : Int) ∧ lo.toNat ≤ hi.toNat ∧ hi.toNat ≤ s.size) ∧ s.extract lo.toNat hi.toNat = z := by
  unfold cutS at h
  cases hb : (decide (0 ≤ lo) && decide (lo ≤ hi) && decide (hi ≤ s.size)) with
  | false => rw [hb] at h; cases h
  | true =>
    rw [hb] at h
    simp only [Bool.and_eq_true, decide_eq_true_eq] at hb
    exact ⟨by omega, by simpa using h⟩
theorem zj1 {s t z : ByteArray} (h : addS s t = some z) : s.size + t.size ≤ 9223372036854775807 ∧ s ++ t = z := by
  unfold addS at h
  cases hb : decide (s.size + t.size ≤ 9223372036854775807) with
  | false => rw [hb] at h; cases h
  | true => rw [hb] at h; exact ⟨of_decide_eq_true hb, by simpa using h⟩
theorem RW.geti {α : Type} {t : Ty α} {f : Fz} {rows : List (List Value)} {xs : List α} {i : Int} {x : α} (h : RW t f rows xs) (hx : geti xs i = some x) :
    ∃ r, rows[i.toNat]? = some r ∧ t.R f r x ∧ i = (i.toNat : Int) ∧ i.toNat < rows.length := by
  obtain ⟨h1, h2⟩ := zkp hx
  obtain ⟨r, h3, h4⟩ := h.get h2
  exact ⟨r, h3, h4, h1,(List.getElem?_eq_some_iff.1 h3).1⟩
theorem zj0 {g x : Bool} (h : g = true) : (g && x) = x := by simp [h]
theorem zmd {g x : Bool} (h : g = false) : (g && x) = false := by simp [h]
theorem or_t {g x : Bool} (h : g = true) : (g || x) = true := by simp [h]
theorem or_f {g x : Bool} (h : g = false) : (g || x) = x := by simp [h]
theorem zjf {α : Type} {g : Bool} {x y : α} (h : g = true) : (bif g then x else y) = x := by simp [h]
theorem zl9 {α : Type} {g : Bool} {x y : α} (h : g = false) : (bif g then x else y) = y := by simp [h]
theorem lkB {E : List (Nat × Value)} {t : Nat} {b c : Bool} (h : b = c) (hl : look E t = some (.bool c)) : look E t = some (.bool b) := by rw [h]; exact hl
section
variable {P : Program} {f f' : Fz} {L L' : List Ent} {w0 w w' : World} {n : Nat} {E E' : List (Nat × Value)} {a : Act}
variable {ops : Array Oper} {rest : List Oper} {o : Oper} {K : AP} {C : World → Prop}
variable {d : Option Tmp} {ty : TypeId} {pos : String} {af : Array Edge} {g : Option (Nat × Bool)}
theorem zaq {Qn : AP} {Qe : Nat → AP} {Qr : AP} {Qg : Nat → AP} {c : Code} (I : AP) (h1 : ∀ a w, I a w → Qn a w) (h2 : W P c I Qe Qr Qg a w) : W P c Qn Qe Qr Qg a w :=
  W.mono h2 h1 (fun _ _ _ h => h) (fun _ _ h => h) (fun _ _ _ h => h)
theorem St.subL (hs : St n w0 f L E a w) (h : L'.Sublist L) : St n w0 f L' E a w := ⟨hs.ev, hs.cw.sub h⟩
theorem Cell.fz {b o : Nat} {cs : Array Value} {e : TypeId} {fr : Nat × Nat} {u : Value} (hb : f b = some (.cells cs e fr)) (h : cs[o]? = some u) : Cell f L b o u := .inl ⟨cs, e, fr, hb, h⟩
theorem St.frzB {b : Nat} {o : Obj} (i : Nat) (hs : St n w0 f L E a w) (hi : L[i]? = some (.blk b o)) : ∃ f', Fz.le f f' ∧ St n w0 f' (L.eraseIdx i) E a w ∧ f' b = some o := by
  obtain ⟨f', h1, h2, h3, _⟩ := hs.cw.freezeAt hi
  exact ⟨f', h1, ⟨hs.ev, h2⟩, by rw [h3 b rfl]; exact hs.cw.live _ (List.mem_of_getElem? hi)⟩
def toFront (L : List Ent) (i : Nat) : List Ent := match L[i]? with
  | some x => x :: L.eraseIdx i
  | none => L
theorem Cw.front (h : Cw w0 f L w) (i : Nat) : Cw w0 f (toFront L i) w := by
  unfold toFront
  split
  · rename_i x hi
    have he := h.erase i
    have key : ∀ (p : Nat),(L.eraseIdx i)[p]? = L[if p < i then p else p + 1]? := fun p => by rw [List.getElem?_eraseIdx]; split <;> rfl
    have hm := List.mem_of_getElem? hi
    refine ⟨h.os, h.tape, h.output, h.size, h.frz, fun z hz => ?_, fun z hz => ?_, ?_⟩
    · rcases List.mem_cons.1 hz with rfl | hz
      · exact h.live _ hm
      · exact he.live z hz
    · rcases List.mem_cons.1 hz with rfl | hz
      · exact h.apart _ hm
      · exact he.apart z hz
    · intro p q u v hp hq hpq b hu hv
      cases p with
      | zero =>
        simp at hp; subst hp
        cases q with
        | zero => omega
        | succ q =>
          simp only [List.getElem?_cons_succ] at hq
          rw [key] at hq
          exact h.sep i _ x v hi hq (by split <;> omega) b hu hv
      | succ p =>
        simp only [List.getElem?_cons_succ] at hp
        cases q with
        | zero =>
          simp at hq; subst hq
          rw [key] at hp
          exact h.sep _ i u x hp hi (by split <;> omega) b hu hv
        | succ q =>
          simp only [List.getElem?_cons_succ] at hq
          exact he.sep p q u v hp hq (by omega) b hu hv
  · exact h
theorem St.front (hs : St n w0 f L E a w) (i : Nat) : St n w0 f (toFront L i) E a w := ⟨hs.ev, hs.cw.front i⟩
theorem St.one (hs : St n w0 f L E a w) {i : Nat} {v : Value} {e : TypeId} {k : Nat} {rows : List (List Value)} (hi : L[i]? = some (.row v e k rows)) : v.oneCell' = true := by
  obtain ⟨⟨_, h⟩, _⟩ := hs.cw.live _ (List.mem_of_getElem? hi)
  rcases h with ⟨rfl, _⟩ | ⟨g, cap, cur, rfl, _⟩ <;> rfl
end
end
section
open Go.RowKit
def seti {α : Type} (xs : List α) (i : Int) (x : α) : Option (List α) := if 0 ≤ i ∧ i.toNat < xs.length then some (xs.set i.toNat x) else none
theorem zgv {α : Type} {xs zs : List α} {i : Int} {x : α} (h : seti xs i x = some zs) : xs.set i.toNat x = zs := by
  unfold seti at h
  split at h
  · simpa using h
  · cases h
section
variable {α : Type} {t : Ty α} {f f' : Fz}
theorem RW.ofGet : ∀ {rows : List (List Value)} {xs : List α}, rows.length = xs.length → (∀ (i : Nat) r y, rows[i]? = some r → xs[i]? = some y → t.R f r y) → RW t f rows xs
  | [],[], _, _ => trivial
  | r :: rs, x :: xs, hl, h => ⟨h 0 r x rfl rfl, RW.ofGet (by simpa using hl) fun i r y h1 h2 => h (i + 1) r y (by simpa using h1) (by simpa using h2)⟩
  | [], _ :: _, hl, _ => by simp at hl
  | _ :: _,[], hl, _ => by simp at hl
theorem RW.at {rows : List (List Value)} {xs : List α} {i : Nat} {r : List Value} {y : α} (h : RW t f rows xs) (h1 : rows[i]? = some r) (h2 : xs[i]? = some y) : t.R f r y := by
  obtain ⟨r', h3, h4⟩ := h.get h2
  rw [h1] at h3
  cases h3
  exact h4
end
section
variable {P : Program} {f f' : Fz} {L L' : List Ent} {w0 w w' : World} {n : Nat} {E E' : List (Nat × Value)} {a : Act}
variable {ops : Array Oper} {rest : List Oper} {o : Oper} {K : AP} {C : World → Prop}
variable {d : Option Tmp} {ty : TypeId} {pos : String} {af : Array Edge} {g : Option (Nat × Bool)}
theorem zc3 {α : Type} {ty' : Ty α} {xs : List α} {x : Operand} {t e : TypeId} {v : Value} {k : Nat} {rows : List (List Value)} (hR : Rd f L v k rows) (hW : RW ty' f' rows xs) (h : opv E x = some v) (ht : P.underlying t = some (.slice e)) :
    Y P C n E ⟨d, .call { callee := .builtin .len, args := #[x], argTypes := #[t] }, ty, pos, af, g⟩ (.int .i64 xs.length) := by
  rw [← hW.len]; exact zli hR h ht
theorem zlh {x y : Operand} {t t' : TypeId} {s u z : ByteArray} (hx : opv E x = some (.string s)) (hy : opv E y = some (.string u)) (hb : s.size + u.size ≤ 9223372036854775807) (he : s ++ u = z) :
    Y P C n E ⟨d, .binOp .add t x y t', ty, pos, af, g⟩ (.string z) := by subst he; exact y_sadd hx hy hb
theorem zrb {s : ByteArray} {i b : Int} (h : getS s i = some b) : (0 ≤ i ∧ i < s.size) ∧ ((s[i.toNat]!).toNat : Int) = b := by
  obtain ⟨h1, h2⟩ := zkp h
  have hlt := (List.getElem?_eq_some_iff.1 h2).1
  rw [zak] at hlt
  refine ⟨by omega, ?_⟩
  simp only [bytesIn, List.getElem?_map, Option.map_eq_some_iff] at h2
  obtain ⟨u, h3, h4⟩ := h2
  rw [← h4]
  congr 2
  have h5 : s[i.toNat]! = s[i.toNat]'hlt := by simp [hlt]
  rw [h5]
  have h6 : s.data.toList[i.toNat]'(by simpa using hlt) = u := by
    have := List.getElem?_eq_some_iff.1 h3
    exact this.2
  rw [← h6]
  rfl
theorem zoc {t : TypeId} {x ix : Operand} {s : ByteArray} {ik : IntKind} {i b : Int} (hx : opv E x = some (.string s)) (hi : opv E ix = some (.int ik i)) (ht : P.underlying t = some .string) (hb : getS s i = some b) :
    Y P C n E ⟨d, .index t x ix, ty, pos, af, g⟩ (.int .u8 b) := by
  obtain ⟨h1, h2⟩ := zrb hb
  rw [← h2]; exact y_ixS hx hi ht h1
theorem y_ldF {t : TypeId} {x : Operand} {b : Nat} {td : TypeDesc} {cs : Array Value} {e : TypeId} {fr : Nat × Nat} {k by_ : Nat} {z : Value} (hx : opv E x = some (.pointer (some ⟨b,0, none⟩))) (ht : P.underlying t = some td) (ha : Agg td = true) (hT : TI P t k by_ z)
    (hm : f b = some (.cells cs e fr)) (hk : cs.size = k) : Y P (Cw w0 f L) n E ⟨d, .load t x, ty, pos, af, g⟩ (.agg cs) := by
  have := zlt (P := P) (f := f) (L := L) (w0 := w0) (n := n) (d := d) (ty := ty) (pos := pos) (af := af) (g := g) (cs := cs.toList) hx (fun j u hj => by rw [Nat.zero_add]; exact Cell.fz hm (by simpa using hj)) ht ha hT (by simpa using hk)
  simpa using this
theorem y_ldP {t : TypeId} {x : Operand} {b o : Nat} {td : TypeDesc} {C : Array Value} {cs : List Value} {e : TypeId} {fr : Nat × Nat} {k by_ : Nat} {z : Value} (hx : opv E x = some (.pointer (some ⟨b, o, none⟩))) (ht : P.underlying t = some td) (ha : Agg td = true) (hT : TI P t k by_ z)
    (hm : .blk b (.cells C e fr) ∈ L) (hk : cs.length = k) (hc : (C.toList.drop o).take k = cs) : Y P (Cw w0 f L) n E ⟨d, .load t x, ty, pos, af, g⟩ (.agg cs.toArray) := by
  refine zlt hx (fun j u hj => Cell.blk hm ?_) ht ha hT hk
  rw [← hc] at hj
  rw [List.getElem?_take] at hj
  split at hj
  · rw [List.getElem?_drop] at hj; simpa using hj
  · cases hj
theorem zqo {t e : TypeId} {x y : Operand} {k by_ : Nat} {m : Int} {z : Value} {dd : Nat} (hs : St n w0 f L E a w) (hx : opv E x = some (.int .i64 m)) (hy : opv E y = some (.int .i64 m)) (hm : m = (m.toNat : Int)) (ht : P.underlying t = some (.slice e)) (hT : TI P e k by_ z)
    (hk : 0 < k ∧ z.cells.size = k) (h1 : OneRow k z.cells.toList) (hb : by_ * m.toNat ≤ 281474976710656 ∧ m.toNat ≤ 9223372036854775807)
    (h : ∀ v a w, St n w0 f (.row v e k (List.replicate m.toNat z.cells.toList) :: L) ((dd, v) :: E) a w → RL P ops rest K a w) (hd : dd < n := by decide) :
    RL P ops (⟨some dd, .makeSlice t x y, ty, pos, af, none⟩ :: rest) K a w :=
  zvw hs (by rw [hm] at hx; exact hx) (by rw [hm] at hy; exact hy) ht hT hk h1 hb h hd
theorem St.subs (hs : St n w0 f L E a w) (h : Sub E E') (hL : L'.Sublist L) : St n w0 f L' E' a w := (hs.sub h).subL hL
def ResV (P : Program) (a : Act) (w : World) : ResultVar → Value → Prop
  | .tmp t, v => a.tmps.getD t undef = v
  | .cell t ty, v => ∃ p, a.tmps.getD t undef = .pointer (some p) ∧ (loadVar ty p).run P w = .ok v w
theorem zrc (hs : St n w0 f L E a w) {t : Nat} {v : Value} (hl : look E t = some v) : a.tmps.getD t undef = v := by
  simp [Array.getD_eq_getD_getElem?, hs.ev.slots t v hl]
theorem rv_t (hs : St n w0 f L E a w) {t : Nat} {v : Value} (hl : look E t = some v) : ResV P a w (.tmp t) v := zrc hs hl
theorem rv_a (hs : St n w0 f L E a w) {t b : Nat} {ty : TypeId} {td : TypeDesc} {cs : Array Value} {k by_ : Nat} {z : Value} (hl : look E t = some (.pointer (some ⟨b,0, none⟩))) (ht : P.underlying ty = some td) (ha : Agg td = true) (hT : TI P ty k by_ z)
    (hc : ∀ (j : Nat) u, cs[j]? = some u → Cell f L b j u) (hk : cs.size = k) : ResV P a w (.cell t ty) (.agg cs) := by
  refine ⟨_, zrc hs hl, ?_⟩
  obtain ⟨it, hit, _, hk', _⟩ := hT
  have hld : (loadCells ⟨b,0, none⟩ it.size).run P w = .ok cs w := by
    have := run_loadCells_list (P := P) w ⟨b,0, none⟩ cs.toList fun j u hj => by rw [add_lit, Nat.zero_add]; exact (hc j u (by simpa using hj)).cell? hs.cw
    rw [hk', ← hk]; simpa using this
  cases td <;> first | (simp [Agg] at ha; done) | simp [loadVar, isAgg, run_underlying ht, sizeOf, typeInfo, hit, hld]
def resRun (a : Act) : ResultVar → Sem Value
  | .tmp t => pure (a.tmps.getD t undef)
  | .cell q t => do loadVar t (← asAddr (a.tmps.getD q undef))
theorem zmm {r : ResultVar} {v : Value} (h : ResV P a w r v) : (resRun a r).run P w = .ok v w := by
  cases r with
  | tmp t => simp only [ResV] at h; simp only [resRun, h, Sem.run_pure]
  | cell q t =>
    obtain ⟨p, h1, h2⟩ := h
    simp only [resRun, h1, asAddr, Sem.run_bind, Sem.run_pure, Result.andThen_ok, h2]
theorem RtV0 {fn : Func} {R : Ending → World → Prop} (hs : St n w0 f L E a w) (hr : fn.results = #[]) (h : R (.returned (.tuple #[])) w) : Rt P fn R a w := Rt_0 hs hr h
theorem RtV1 {fn : Func} {R : Ending → World → Prop} {r1 : ResultVar} {v1 : Value} (hs : St n w0 f L E a w) (hr : fn.results = #[r1]) (h1 : ResV P a w r1 v1) (h : R (.returned v1) w) : Rt P fn R a w := by
  refine ⟨hs.ev.defers, v1, ?_, h⟩
  have e1 := zmm h1
  unfold results
  rw [hr]
  simp only [List.mapM_toArray, List.mapM_cons, List.mapM_nil, Sem.run_bind, Sem.run_pure, bind_assoc, pure_bind, map_eq_pure_bind]
  erw [e1]
  simp
theorem RtV2 {fn : Func} {R : Ending → World → Prop} {r1 r2 : ResultVar} {v1 v2 : Value} (hs : St n w0 f L E a w) (hr : fn.results = #[r1, r2]) (h1 : ResV P a w r1 v1) (h2 : ResV P a w r2 v2) (h : R (.returned (.tuple #[v1, v2])) w) : Rt P fn R a w := by
  refine ⟨hs.ev.defers, _, ?_, h⟩
  have e1 := zmm h1
  have e2 := zmm h2
  unfold results
  rw [hr]
  simp only [List.mapM_toArray, List.mapM_cons, List.mapM_nil, Sem.run_bind, Sem.run_pure, bind_assoc, pure_bind, map_eq_pure_bind]
  erw [e1]
  simp only [Result.andThen_ok]
  erw [e2]
  simp
theorem RtV3 {fn : Func} {R : Ending → World → Prop} {r1 r2 r3 : ResultVar} {v1 v2 v3 : Value} (hs : St n w0 f L E a w) (hr : fn.results = #[r1, r2, r3]) (h1 : ResV P a w r1 v1) (h2 : ResV P a w r2 v2) (h3 : ResV P a w r3 v3) (h : R (.returned (.tuple #[v1, v2, v3])) w) : Rt P fn R a w := by
  refine ⟨hs.ev.defers, _, ?_, h⟩
  have e1 := zmm h1
  have e2 := zmm h2
  have e3 := zmm h3
  unfold results
  rw [hr]
  simp only [List.mapM_toArray, List.mapM_cons, List.mapM_nil, Sem.run_bind, Sem.run_pure, bind_assoc, pure_bind, map_eq_pure_bind]
  erw [e1]
  simp only [Result.andThen_ok]
  erw [e2]
  simp only [Result.andThen_ok]
  erw [e3]
  simp
end
end
section
open Go.RowKit
inductive PT where
  | done
  | look (i : Nat) (p : PT)
  | any (l : List Nat) (p : Nat → PT)
section
variable {P : Program} {ops : Array Oper} {Q : AP} {F : (World → Prop) → Prop} {brk : List Nat}
def emask (o : Oper) : Nat := o.after.toList.foldr (fun e m => if Region.binds .any e then m ||| 2 ^ e.on else m) 0
theorem zm6 (o : Oper) (k : Nat) : (emask o).testBit k = true ↔ ∃ e ∈ o.after, Region.binds .any e = true ∧ e.on = k := by
  have : ∀ l : List Edge,(l.foldr (fun e m => if Region.binds .any e then m ||| 2 ^ e.on else m) 0).testBit k = true ↔ ∃ e ∈ l, Region.binds .any e = true ∧ e.on = k := by
    intro l
    induction l with
    | nil => simp
    | cons e l ih =>
      simp only [List.foldr_cons]
      split
      · rename_i hb
        rw [Nat.testBit_or, Bool.or_eq_true, ih, Nat.testBit_two_pow]
        constructor
        · rintro (⟨e', h1, h2⟩ | h)
          · exact ⟨e', by simp [h1], h2⟩
          · exact ⟨e, by simp, hb, by simpa using h⟩
        · rintro ⟨e', h1, h2, h3⟩
          rcases List.mem_cons.1 h1 with rfl | h1
          · exact .inr (by simpa using h3)
          · exact .inl ⟨e', h1, h2, h3⟩
      · rename_i hb
        rw [ih]
        constructor
        · rintro ⟨e', h1, h2⟩; exact ⟨e', by simp [h1], h2⟩
        · rintro ⟨e', h1, h2⟩
          rcases List.mem_cons.1 h1 with rfl | h1
          · exact absurd h2.1 hb
          · exact ⟨e', h1, h2⟩
  have h := this o.after.toList
  unfold emask
  rw [h]; simp
def subN (e l : Nat) : Bool := Nat.beq (e &&& l) e
theorem zr0 {e l : Nat} : subN e l = true ↔ ∀ k, e.testBit k = true → l.testBit k = true := by
  unfold subN
  rw [Nat.beq_eq]
  constructor
  · intro h k hk
    rw [← h, Nat.testBit_and] at hk
    simp at hk; exact hk.2
  · intro h
    apply Nat.eq_of_testBit_eq
    intro k
    rw [Nat.testBit_and]
    cases he : e.testBit k with
    | false => rfl
    | true => simp [h k he]
def depsN : List Nat → Nat → Nat → Nat
  | [], _, d => d
  | m :: ms, j, d => depsN ms (j + 1) (bif Nat.beq (m &&& d) 0 then d else d ||| 2 ^ j)
theorem zqb : ∀ (ms : List Nat) (j d k : Nat), d.testBit k = true → (depsN ms j d).testBit k = true
  | [], _, _, _, h => h
  | m :: ms, j, d, k, h => by
    unfold depsN
    refine zqb ms _ _ k ?_
    cases Nat.beq (m &&& d) 0 with
    | true => exact h
    | false => simp [Nat.testBit_or, h]
theorem zmu : ∀ (ms : List Nat) (j d k : Nat),(depsN ms j d).testBit k = true → d.testBit k = true ∨ ∃ p m q, ms[p]? = some m ∧ k = j + p ∧ m.testBit q = true ∧ (depsN ms j d).testBit q = true
  | [], _, _, _, h => .inl h
  | m :: ms, j, d, k, h => by
    unfold depsN at h ⊢
    cases hb : Nat.beq (m &&& d) 0 with
    | true =>
      rw [hb] at h
      rcases zmu ms (j + 1) d k h with h1 | ⟨p, m', q, h1, h2, h3⟩
      · exact .inl h1
      · exact .inr ⟨p + 1, m', q, by simpa using h1, by omega, h3⟩
    | false =>
      rw [hb] at h
      simp only [cond_false] at h ⊢
      rcases zmu ms (j + 1) (d ||| 2 ^ j) k h with h1 | ⟨p, m', q, h1, h2, h3⟩
      · rw [Nat.testBit_or, Bool.or_eq_true, Nat.testBit_two_pow] at h1
        rcases h1 with h1 | h1
        · exact .inl h1
        · have hk : j = k := by simpa using h1
          have hne : m &&& d ≠ 0 := fun e => by rw [e] at hb; simp at hb
          obtain ⟨q, hq⟩ := Nat.exists_testBit_of_ne_zero hne
          rw [Nat.testBit_and, Bool.and_eq_true] at hq
          exact .inr ⟨0, m, q, rfl, by omega, hq.1, zqb _ _ _ _ (by simp [Nat.testBit_or, hq.2])⟩
      · exact .inr ⟨p + 1, m', q, by simpa using h1, by omega, h3⟩
def readyN (ms : List Nat) (lm : Nat) : List Nat := (List.range ms.length).filter fun j => !lm.testBit j && subN (ms.getD j 0) lm
def freeN (ops : Array Oper) (ms : List Nat) (lm i : Nat) : Bool := match ops[i]? with
  | none => false
  | some oi => (List.range ops.size).all fun j => Nat.beq j i || lm.testBit j || (ms.getD j 0).testBit i || match ops[j]? with
    | some oj => oi.apart ops oj
    | none => true
def planN (ops : Array Oper) (ms : List Nat) (brk : List Nat) : Nat → PT → Nat → Bool
  | _, .done, lm => subN (2 ^ ms.length - 1) lm
  | m + 1, .look i p, lm => (!lm.testBit i && subN (ms.getD i 0) lm && decide (i < ms.length)) && freeN ops ms lm i &&
      (let d := depsN ms 0 (2 ^ i); Nat.beq (lm &&& d) 0 && brk.all fun b => d.testBit b) &&
      planN ops ms brk m p (lm ||| 2 ^ i)
  | m + 1, .any l p, lm => decide (readyN ms lm = l) && !l.isEmpty && l.all fun i => planN ops ms brk m (p i) (lm ||| 2 ^ i)
  | 0, _, _ => false
def masksN (ops : Array Oper) : List Nat := ops.toList.map emask
def Ag (listed : Array Bool) (lm : Nat) : Prop := ∀ k, listed.getD k false = lm.testBit k
theorem Ag.set {listed : Array Bool} {lm i : Nat} (h : Ag listed lm) (hi : i < listed.size) : Ag (listed.setIfInBounds i true) (lm ||| 2 ^ i) := fun k => by
  rw [Nat.testBit_or, Nat.testBit_two_pow, ← h k]
  by_cases e : i = k
  · subst e; simp [Array.getD_eq_getD_getElem?, hi]
  · simp [Array.getD_eq_getD_getElem?, e]
theorem znt {j : Nat} {o : Oper} (h : ops[j]? = some o) : (masksN ops).getD j 0 = emask o := by
  simp [masksN, List.getD_eq_getElem?_getD, h]
theorem ztp : (masksN ops).length = ops.size := by simp [masksN]
theorem Ag.ready {listed : Array Bool} {lm : Nat} (h : Ag listed lm) (hsz : listed.size = ops.size) : Region.ready .any ops listed = readyN (masksN ops) lm := by
  unfold Region.ready readyN
  rw [ztp]
  refine List.filter_congr fun j hj => ?_
  have hj : j < ops.size := List.mem_range.1 hj
  obtain ⟨o, ho⟩ : ∃ o, ops[j]? = some o := ⟨ops[j], by simp [hj]⟩
  have h1 : j ∈ Region.ready .any ops listed ↔ (!lm.testBit j && subN ((masksN ops).getD j 0) lm) = true := by
    rw [mem_ready, znt ho, Bool.and_eq_true, zr0]
    have h0 : listed.getD j true = listed.getD j false := by simp [Array.getD_eq_getD_getElem?, hsz, hj]
    rw [h0, h j]
    constructor
    · rintro ⟨h1, o', ho', h2⟩
      rw [ho] at ho'; cases ho'
      refine ⟨by simp [h1], fun k hk => ?_⟩
      obtain ⟨e, he, hb, rfl⟩ := (zm6 o k).1 hk
      rw [← h]; exact h2 e he hb
    · rintro ⟨h1, h2⟩
      refine ⟨by simpa using h1, o, ho, fun e he hb => ?_⟩
      rw [h]; exact h2 _ ((zm6 o e.on).2 ⟨e, he, hb, rfl⟩)
  unfold Region.ready at h1
  rw [List.mem_filter] at h1
  simp only [List.mem_range, hj, true_and] at h1
  exact Bool.eq_iff_iff.2 h1
theorem Ag.free {listed : Array Bool} {lm i : Nat} (h : Ag listed lm) (hsz : listed.size = ops.size) (hf : freeN ops (masksN ops) lm i = true) : Region.free .any ops listed i = true := by
  unfold freeN at hf
  unfold Region.free
  cases ho : ops[i]? with
  | none => rw [ho] at hf; cases hf
  | some oi =>
    rw [ho] at hf
    simp only at hf ⊢
    rw [List.all_eq_true] at hf ⊢
    intro j hj
    have hj' : j < ops.size := List.mem_range.1 hj
    have := hf j hj
    obtain ⟨o, hoj⟩ : ∃ o, ops[j]? = some o := ⟨ops[j], by simp [hj']⟩
    rw [znt hoj, hoj] at this
    rw [hoj]
    have h0 : listed.getD j true = listed.getD j false := by simp [Array.getD_eq_getD_getElem?, hsz, hj']
    simp only [Bool.or_eq_true, Nat.beq_eq, beq_iff_eq] at this ⊢
    rw [h0, h j]
    rcases this with ((h1 | h1) | h1) | h1
    · exact .inl (.inl h1)
    · exact .inl (.inr h1)
    · refine .inr (.inl ?_)
      obtain ⟨e, he, hb, heq⟩ := (zm6 o i).1 h1
      exact Array.any_eq_true'.2 ⟨e, he, by simp [hb, heq]⟩
    · exact .inr (.inr h1)
def DT (P : Program) (ops : Array Oper) (F : (World → Prop) → Prop) (brk : List Nat) (m : Nat) (p : PT) (K : AP) (a : Act) (X : World → Prop) : Prop :=
  ∀ (listed : Array Bool) (lm : Nat), listed.size = ops.size → Ag listed lm → Region.noSelect ops = true → planN ops (masksN ops) brk m p lm = true → anyX P ops K F brk m listed a X
def DKT (P : Program) (ops : Array Oper) (F : (World → Prop) → Prop) (brk : List Nat) (i m : Nat) (p : PT) (K : AP) : AP :=
  fun a w => ∃ X, X w ∧ (F X ∨ i ∈ brk) ∧ DT P ops F brk m p K a X
theorem DT_done {K : AP} {a : Act} {X : World → Prop} {m : Nat} (h : ∀ w, X w → K a w) : DT P ops F brk m .done K a X := by
  intro listed lm hsz hag _ hp
  have hp : subN (2 ^ (masksN ops).length - 1) lm = true := by cases m <;> simpa [planN] using hp
  have h0 : Region.ready .any ops listed = [] := by
    rw [hag.ready hsz]
    refine List.filter_eq_nil_iff.2 fun j hj => ?_
    have hj : j < (masksN ops).length := List.mem_range.1 hj
    have := zr0.1 hp j (by rw [Nat.testBit_two_pow_sub_one]; simpa using hj)
    simp [this]
  cases m with
  | zero => exact ⟨h0, h⟩
  | succ m => exact ⟨fun _ => h, fun i hi => by rw [h0] at hi; cases hi⟩
theorem zsq {i m : Nat} {o : Oper} {p : PT} {K : AP} {a : Act} {X : World → Prop} {v : Value} (hi : ops[i]? = some o) (hX : F X) (hy : YX P ops F o v a)
    (h : DT P ops F brk m p K (a.put o.dst v) X) : DT P ops F brk (m + 1) (.look i p) K a X := by
  intro listed lm hsz hag hsel hp
  simp only [planN, Bool.and_eq_true] at hp
  obtain ⟨⟨⟨⟨⟨h1, h2⟩, h3⟩, h4⟩, h5, h6⟩, h7⟩ := hp
  have hlt : i < ops.size := (Array.getElem?_eq_some_iff.1 hi).1
  have hz : lm &&& depsN (masksN ops) 0 (2 ^ i) = 0 := by simpa using h5
  have hin : (depsN (masksN ops) 0 (2 ^ i)).testBit i = true := zqb _ _ _ _ (by simp)
  obtain ⟨U, hU⟩ : ∃ U : Array Bool, U = ((List.range ops.size).map fun k => !(depsN (masksN ops) 0 (2 ^ i)).testBit k).toArray := ⟨_, rfl⟩
  have hUk : ∀ k, k < ops.size → U.getD k false = !(depsN (masksN ops) 0 (2 ^ i)).testBit k := fun k hk => by
    rw [hU]; simp [Array.getD_eq_getD_getElem?, hk]
  have hUo : ∀ k, ¬ k < ops.size → U.getD k false = false := fun k hk => by
    rw [hU, Array.getD_eq_getD_getElem?, Array.getElem?_eq_none (by simpa using hk)]; rfl
  have hcl : closedB ops U i = true := by
    unfold closedB
    rw [List.all_eq_true]
    intro j hj
    have hj : j < ops.size := List.mem_range.1 hj
    obtain ⟨oj, hoj⟩ : ∃ o, ops[j]? = some o := ⟨ops[j], by simp [hj]⟩
    rw [hUk j hj, hoj]
    by_cases hji : j = i
    · simp [hji]
    cases hd : (depsN (masksN ops) 0 (2 ^ i)).testBit j with
    | false => simp
    | true =>
      rcases zmu _ _ _ _ hd with h | ⟨q, mm, r, e1, e2, e3, e4⟩
      · rw [Nat.testBit_two_pow] at h; simp at h; omega
      · have : q = j := by omega
        subst this
        have e1' : mm = emask oj := by have := znt hoj; rw [List.getD_eq_getElem?_getD, e1] at this; simpa using this
        subst e1'
        obtain ⟨e, he, hb, rfl⟩ := (zm6 oj r).1 e3
        simp only [Bool.or_eq_true]
        refine .inr (Array.any_eq_true'.2 ⟨e, he, ?_⟩)
        rw [hb, Bool.true_and]
        by_cases hr : e.on < ops.size
        · rw [hUk _ hr, e4]; rfl
        · rw [hUo _ hr]; rfl
  refine zrv (U := U) hi (Region.noSelect_spec hsel) hcl (fun b hb => ?_) _ _ _ _ (fun k hk => ?_) (Region.free_spec hi (hag.free hsz h4)) ?_ hy hX (h _ _ (by simpa using hsz) (hag.set (by omega)) hsel h7)
  · by_cases hb' : b < ops.size
    · rw [hUk _ hb', List.all_eq_true.1 h6 b hb]; rfl
    · exact hUo _ hb'
  · have hk' : k < ops.size := by
      rcases Nat.lt_or_ge k listed.size with h' | h'
      · omega
      · simp [Array.getElem?_eq_none h'] at hk
    rw [hUk _ hk']
    rw [hag k] at hk
    cases hd : (depsN (masksN ops) 0 (2 ^ i)).testBit k with
    | false => rfl
    | true =>
      have : (lm &&& depsN (masksN ops) 0 (2 ^ i)).testBit k = true := by rw [Nat.testBit_and, hk, hd]; rfl
      rw [hz] at this; simp at this
  · rw [hag.ready hsz]
    refine List.mem_filter.2 ⟨List.mem_range.2 (by simpa using h3), ?_⟩
    rw [Bool.and_eq_true]
    exact ⟨h1, h2⟩
theorem DT_any {l : List Nat} {m : Nat} {p : Nat → PT} {K : AP} {a : Act} {X : World → Prop}
    (h : ∀ i ∈ l, ∃ o, ops[i]? = some o ∧ ∀ w, X w → RL P ops [o] (DKT P ops F brk i m (p i) K) a w) : DT P ops F brk (m + 1) (.any l p) K a X := by
  intro listed lm hsz hag hsel hp
  simp only [planN, Bool.and_eq_true, decide_eq_true_eq] at hp
  obtain ⟨⟨h1, hne⟩, h2⟩ := hp
  rw [← hag.ready hsz] at h1
  rw [List.all_eq_true] at h2
  refine ⟨fun h0 => (by rw [h1] at h0; subst h0; simp at hne), fun j hj w hw => ?_⟩
  rw [h1] at hj
  obtain ⟨o, hi, h⟩ := h j hj
  replace h2 := h2 j hj
  have H := (h w hw).d
  unfold wpOpS
  simp only [hi]
  simp only [RLd] at H
  have hlt : j < listed.size := by have := (Array.getElem?_eq_some_iff.1 hi).1; omega
  have fin : ∀ a' w', DKT P ops F brk j m (p j) K a' w' → ∃ X', X' w' ∧ (F X' ∨ j ∈ brk) ∧ anyX P ops K F brk m (listed.setIfInBounds j true) a' X' :=
    fun a' w' ⟨X', e1, e2, e3⟩ => ⟨X', e1, e2, e3 _ _ (by simpa using hsz) (hag.set hlt) hsel h2⟩
  split
  · rename_i hwt
    rw [if_pos hwt] at H
    exact zpv fin H
  · rename_i hwt
    rw [if_neg hwt] at H
    exact fin _ _ H
theorem wp_planT {id : Nat} {Qn : AP} {Qe : Nat → AP} {Qr : AP} {Qg : Nat → AP} {a : Act} {w : World} {X : World → Prop} (p : PT) (hm : P.follows .mixedOrders = true)
    (hB : (Region.noSelect ops && planN ops (masksN ops) brk ops.size p 0) = true) (hX : X { w with drawn := w.drawn + 1 }) (h : DT P ops F brk ops.size p Qn a X) : W P (.region id ops true) Qn Qe Qr Qg a w := by
  simp only [Bool.and_eq_true] at hB
  obtain ⟨h1, h3⟩ := hB
  have h4 := h (Array.replicate ops.size false) 0 (by simp) (fun k => by simp [Array.getD_eq_getD_getElem?, Array.getElem?_replicate]; split <;> simp) h1 h3
  exact W_any hm (zqh _ _ _ _ h4 _ hX)
section
variable {n m : Nat} {w0 w : World} {f f' f0 : Fz} {L L' Lc : List Ent} {E E' : List (Nat × Value)} {a : Act} {o : Oper} {K : AP} {i : Nat} {p : PT} {v : Value}
theorem zj2 {id : Nat} {l : List Oper} {Qn : AP} {Qe : Nat → AP} {Qr : AP} {Qg : Nat → AP} (hs : St n w0 f L E a w) (Lc : List Ent) (brk : List Nat) (p : PT) (hm : P.follows .mixedOrders = true)
    (hB : (Region.noSelect l.toArray && planN l.toArray (masksN l.toArray) brk l.toArray.size p 0) = true)
    (h : ∀ a, Ev n E a → DT P l.toArray (Fam w0 f Lc) brk l.toArray.size p Qn a (Cw w0 f L)) : W P (.region id l.toArray true) Qn Qe Qr Qg a w :=
  wp_planT p hm hB hs.cw.drew (h a hs.ev)
theorem zmg (he : Ev n E a) (h : ∀ w, St n w0 f L E a w → K a w) : DT P ops (Fam w0 f0 Lc) brk m .done K a (Cw w0 f L) :=
  DT_done fun w hw => h w ⟨he, hw⟩
theorem T_y (hi : ops[i]? = some o) (he : Ev n E a) (h1 : Fz.le f0 f) (h2 : Lc.Sublist L) (hw : Want ops E o true) (hd : Dst n o v E E') (hq : looks o.op = true) (hy : Y P (Cw w0 f0 Lc) n E o v)
    (h : ∀ a, Ev n E' a → DT P ops (Fam w0 f0 Lc) brk m p K a (Cw w0 f L)) : DT P ops (Fam w0 f0 Lc) brk (m + 1) (.look i p) K a (Cw w0 f L) := by
  refine zsq hi (.mk h1 h2) (.inl ⟨hw.wanted he, fun X hX w hw => ?_⟩) (h _ (he.dst hd))
  obtain ⟨f', L', g1, g2, rfl⟩ := hX
  have hy' := hy a he w ((hw.weak g1).sub g2)
  unfold Oper.quietAt at hy' ⊢
  cases hr : (execOp a.eval o).run P w with
  | ok x w' =>
    rw [hr] at hy'
    cases x <;> simp only [Oper.quietUpon] at hy' ⊢ <;> try exact hy'
    exact absurd hr (znv hq)
  | halt x w' => rw [hr] at hy'; exact hy'
theorem T_c (hi : ops[i]? = some o) (he : Ev n E a) (h1 : Fz.le f0 f) (h2 : Lc.Sublist L) (hw : Want ops E o true) (hd : Dst n o v E E')
    (hy : ∀ f' L', Fz.le f0 f' → Lc.Sublist L' → Y P (Cw w0 f' L') n E o v)
    (h : ∀ a, Ev n E' a → DT P ops (Fam w0 f0 Lc) brk m p K a (Cw w0 f L)) : DT P ops (Fam w0 f0 Lc) brk (m + 1) (.look i p) K a (Cw w0 f L) := by
  refine zsq hi (.mk h1 h2) (.inl ⟨hw.wanted he, fun X hX w hw => ?_⟩) (h _ (he.dst hd))
  obtain ⟨f', L', g1, g2, rfl⟩ := hX
  exact hy f' L' g1 g2 a he w hw
theorem T_skip (hi : ops[i]? = some o) (he : Ev n E a) (h1 : Fz.le f0 f) (h2 : Lc.Sublist L) (hw : Want ops E o false) (hd : Dst n o undef E E')
    (h : ∀ a, Ev n E' a → DT P ops (Fam w0 f0 Lc) brk m p K a (Cw w0 f L)) : DT P ops (Fam w0 f0 Lc) brk (m + 1) (.look i p) K a (Cw w0 f L) :=
  zsq hi (.mk h1 h2) (.inr ⟨hw.wanted he, rfl⟩) (h _ (he.dst hd))
theorem T_on (hs : St n w0 f L E a w) (h1 : (Fz.le f0 f ∧ Lc.Sublist L) ∨ i ∈ brk) (h : ∀ a, Ev n E a → DT P ops (Fam w0 f0 Lc) brk m p K a (Cw w0 f L)) : RL P ops [] (DKT P ops (Fam w0 f0 Lc) brk i m p K) a w :=
  za0 ⟨Cw w0 f L, hs.cw, h1.imp (fun h => .mk h.1 h.2) id, h a hs.ev⟩
end
end
section
variable {P : Program} {ops : Array Oper} {brk : List Nat} {n m : Nat} {w0 w : World} {f f' f0 : Fz} {L L' Lc : List Ent} {E E' : List (Nat × Value)} {a : Act} {K : AP} {p : PT} {v : Value}
variable {ty : TypeId} {pos : String} {af : Array Edge} {op : Op} {dd j gd : Nat} {b : Bool}
theorem uy (i : Nat) (he : Ev n E a) (hi : ops[i]? = some ⟨some dd, op, ty, pos, af, none⟩) (hy : Y P (Cw w0 f0 Lc) n E ⟨some dd, op, ty, pos, af, none⟩ v)
    (h : ∀ a, Ev n ((dd, v) :: E) a → DT P ops (Fam w0 f0 Lc) brk m p K a (Cw w0 f L)) (h1 : Fz.le f0 f := by first | exact .refl _ | assumption | exact Fz.le.trans (by assumption) (by assumption))
    (h2 : Lc.Sublist L := by first | exact List.Sublist.refl _ | exact List.nil_sublist _ | (repeat (first | exact List.Sublist.refl _ | exact List.nil_sublist _ | apply List.Sublist.cons_cons | apply List.Sublist.cons)))
    (hd : dd < n := by decide) (hq : looks op = true := by rfl) : DT P ops (Fam w0 f0 Lc) brk (m + 1) (.look i p) K a (Cw w0 f L) :=
  T_y hi he h1 h2 (.free rfl) (.to rfl hd) hq hy h
theorem uyg (i : Nat) (he : Ev n E a) (hi : ops[i]? = some ⟨some dd, op, ty, pos, af, some (j, b)⟩) (hy : Y P (Cw w0 f0 Lc) n E ⟨some dd, op, ty, pos, af, some (j, b)⟩ v)
    (h : ∀ a, Ev n ((dd, v) :: E) a → DT P ops (Fam w0 f0 Lc) brk m p K a (Cw w0 f L)) (hg : (ops[j]?).bind (·.dst) = some gd := by rfl) (hl : look E gd = some (.bool b) := by rfl)
    (h1 : Fz.le f0 f := by first | exact .refl _ | assumption | exact Fz.le.trans (by assumption) (by assumption))
    (h2 : Lc.Sublist L := by first | exact List.Sublist.refl _ | exact List.nil_sublist _ | (repeat (first | exact List.Sublist.refl _ | exact List.nil_sublist _ | apply List.Sublist.cons_cons | apply List.Sublist.cons)))
    (hd : dd < n := by decide) (hq : looks op = true := by rfl) : DT P ops (Fam w0 f0 Lc) brk (m + 1) (.look i p) K a (Cw w0 f L) :=
  T_y hi he h1 h2 (.yes rfl hg hl) (.to rfl hd) hq hy h
theorem uno (i : Nat) (he : Ev n E a) (hi : ops[i]? = some ⟨some dd, op, ty, pos, af, some (j, b)⟩)
    (h : ∀ a, Ev n ((dd, undef) :: E) a → DT P ops (Fam w0 f0 Lc) brk m p K a (Cw w0 f L)) (hg : (ops[j]?).bind (·.dst) = some gd := by rfl) (hl : look E gd = some (.bool (!b)) := by rfl)
    (h1 : Fz.le f0 f := by first | exact .refl _ | assumption | exact Fz.le.trans (by assumption) (by assumption))
    (h2 : Lc.Sublist L := by first | exact List.Sublist.refl _ | exact List.nil_sublist _ | (repeat (first | exact List.Sublist.refl _ | exact List.nil_sublist _ | apply List.Sublist.cons_cons | apply List.Sublist.cons)))
    (hd : dd < n := by decide) : DT P ops (Fam w0 f0 Lc) brk (m + 1) (.look i p) K a (Cw w0 f L) :=
  T_skip hi he h1 h2 (.no rfl hg hl) (.to rfl hd) h
theorem uun (i : Nat) (he : Ev n E a) (hi : ops[i]? = some ⟨some dd, op, ty, pos, af, some (j, b)⟩)
    (h : ∀ a, Ev n ((dd, undef) :: E) a → DT P ops (Fam w0 f0 Lc) brk m p K a (Cw w0 f L)) (hg : (ops[j]?).bind (·.dst) = some gd := by rfl) (hl : look E gd = some undef := by rfl)
    (h1 : Fz.le f0 f := by first | exact .refl _ | assumption | exact Fz.le.trans (by assumption) (by assumption))
    (h2 : Lc.Sublist L := by first | exact List.Sublist.refl _ | exact List.nil_sublist _ | (repeat (first | exact List.Sublist.refl _ | exact List.nil_sublist _ | apply List.Sublist.cons_cons | apply List.Sublist.cons)))
    (hd : dd < n := by decide) : DT P ops (Fam w0 f0 Lc) brk (m + 1) (.look i p) K a (Cw w0 f L) :=
  T_skip hi he h1 h2 (.un rfl hg hl) (.to rfl hd) h
theorem ucall (i : Nat) {gn : FuncId} {x : Operand} {as : List Operand} {vs : List Value} {ats : Array TypeId} (he : Ev n E a) (hi : ops[i]? = some ⟨some dd, .call { callee := .value x, args := as.toArray, argTypes := ats }, ty, pos, af, none⟩)
    (hx : opv E x = some (.func (.func gn) #[] #[])) (hg : Has P gn) (hv : as.mapM (opv E) = some vs)
    (hp : ∀ f' L' w, Fz.le f0 f' → Lc.Sublist L' → Cw w0 f' L' w → Calls P gn vs.toArray w fun e w' => e = .returned v ∧ Cw w0 f' L' w')
    (h : ∀ a, Ev n ((dd, v) :: E) a → DT P ops (Fam w0 f0 Lc) brk m p K a (Cw w0 f L)) (h1 : Fz.le f0 f := by first | exact .refl _ | assumption | exact Fz.le.trans (by assumption) (by assumption))
    (h2 : Lc.Sublist L := by first | exact List.Sublist.refl _ | exact List.nil_sublist _ | (repeat (first | exact List.Sublist.refl _ | exact List.nil_sublist _ | apply List.Sublist.cons_cons | apply List.Sublist.cons)))
    (hd : dd < n := by decide) : DT P ops (Fam w0 f0 Lc) brk (m + 1) (.look i p) K a (Cw w0 f L) :=
  T_c hi he h1 h2 (.free rfl) (.to rfl hd) (fun f' L' g1 g2 => zni hx hg hv fun w hw => hp f' L' w g1 g2 hw) h
theorem ucallg (i : Nat) {gn : FuncId} {x : Operand} {as : List Operand} {vs : List Value} {ats : Array TypeId} (he : Ev n E a) (hi : ops[i]? = some ⟨some dd, .call { callee := .value x, args := as.toArray, argTypes := ats }, ty, pos, af, some (j, b)⟩)
    (hx : opv E x = some (.func (.func gn) #[] #[])) (hg : Has P gn) (hv : as.mapM (opv E) = some vs)
    (hp : ∀ f' L' w, Fz.le f0 f' → Lc.Sublist L' → Cw w0 f' L' w → Calls P gn vs.toArray w fun e w' => e = .returned v ∧ Cw w0 f' L' w')
    (h : ∀ a, Ev n ((dd, v) :: E) a → DT P ops (Fam w0 f0 Lc) brk m p K a (Cw w0 f L)) (hgd : (ops[j]?).bind (·.dst) = some gd := by rfl) (hl : look E gd = some (.bool b) := by rfl)
    (h1 : Fz.le f0 f := by first | exact .refl _ | assumption | exact Fz.le.trans (by assumption) (by assumption))
    (h2 : Lc.Sublist L := by first | exact List.Sublist.refl _ | exact List.nil_sublist _ | (repeat (first | exact List.Sublist.refl _ | exact List.nil_sublist _ | apply List.Sublist.cons_cons | apply List.Sublist.cons)))
    (hd : dd < n := by decide) : DT P ops (Fam w0 f0 Lc) brk (m + 1) (.look i p) K a (Cw w0 f L) :=
  T_c hi he h1 h2 (.yes rfl hgd hl) (.to rfl hd) (fun f' L' g1 g2 => zni hx hg hv fun w hw => hp f' L' w g1 g2 hw) h
theorem uon {i : Nat} (hs : St n w0 f L E a w) (h : ∀ a, Ev n E a → DT P ops (Fam w0 f0 Lc) brk m p K a (Cw w0 f L))
    (h1 : Fz.le f0 f := by first | exact .refl _ | assumption | exact Fz.le.trans (by assumption) (by assumption))
    (h2 : Lc.Sublist L := by first | exact List.Sublist.refl _ | exact List.nil_sublist _ | (repeat (first | exact List.Sublist.refl _ | exact List.nil_sublist _ | apply List.Sublist.cons_cons | apply List.Sublist.cons))) :
    RL P ops [] (DKT P ops (Fam w0 f0 Lc) brk i m p K) a w := T_on hs (.inl ⟨h1, h2⟩) h
theorem uend {i : Nat} (hs : St n w0 f L E a w) (h : ∀ a, Ev n E a → DT P ops (Fam w0 f0 Lc) brk m p K a (Cw w0 f L)) (hb : i ∈ brk := by decide) :
    RL P ops [] (DKT P ops (Fam w0 f0 Lc) brk i m p K) a w := T_on hs (.inr hb) h
theorem T_any {l : List Nat} {p : Nat → PT} (he : Ev n E a) (h : ∀ i ∈ l, ∃ o, ops[i]? = some o ∧ ∀ a w, St n w0 f L E a w → RL P ops [o] (DKT P ops (Fam w0 f0 Lc) brk i m (p i) K) a w) : DT P ops (Fam w0 f0 Lc) brk (m + 1) (.any l p) K a (Cw w0 f L) :=
  DT_any fun i hi => by
    obtain ⟨o, h1, h2⟩ := h i hi
    exact ⟨o, h1, fun w hw => h2 a w ⟨he, hw⟩⟩
theorem zeh {i : Nat} {o : Oper} {p : Nat → PT} (he : Ev n E a) (hi : ops[i]? = some o) (h : ∀ a w, St n w0 f L E a w → RL P ops [o] (DKT P ops (Fam w0 f0 Lc) brk i m (p i) K) a w) :
    DT P ops (Fam w0 f0 Lc) brk (m + 1) (.any [i] p) K a (Cw w0 f L) := T_any he fun j hj => by
  simp only [List.mem_singleton] at hj
  subst hj
  exact ⟨o, hi, h⟩
theorem T_any2 {i j : Nat} {o q : Oper} {p : Nat → PT} (he : Ev n E a) (hi : ops[i]? = some o) (hj : ops[j]? = some q) (h : ∀ a w, St n w0 f L E a w → RL P ops [o] (DKT P ops (Fam w0 f0 Lc) brk i m (p i) K) a w)
    (h' : ∀ a w, St n w0 f L E a w → RL P ops [q] (DKT P ops (Fam w0 f0 Lc) brk j m (p j) K) a w) :
    DT P ops (Fam w0 f0 Lc) brk (m + 1) (.any [i, j] p) K a (Cw w0 f L) := T_any he fun k hk => by
  simp only [List.mem_cons, List.mem_nil_iff, or_false] at hk
  rcases hk with rfl | rfl
  · exact ⟨o, hi, h⟩
  · exact ⟨q, hj, h'⟩
end
section
variable {P : Program} {f f' : Fz} {L L' : List Ent} {w0 w w' : World} {n : Nat} {E E' : List (Nat × Value)} {a : Act}
variable {ops : Array Oper} {rest : List Oper} {o : Oper} {K : AP} {C : World → Prop}
variable {d : Option Tmp} {ty : TypeId} {pos : String} {af : Array Edge} {g : Option (Nat × Bool)}
theorem zmj {gn : FuncId} {cs : List Operand} {vs : List Value} (hc : cs.mapM (opv E) = some vs) : Y P C n E ⟨d, .makeFunc (.func gn) #[] cs.toArray, ty, pos, af, g⟩ (.func (.func gn) #[] vs.toArray) :=
  .of fun a ha w _ => by
    have := evalArgs ha hc
    simp [execOp, this, Instr.makeFunc, Sem.run_pure]
theorem y_callK {gn : FuncId} {x : Operand} {cap : List Value} {as : List Operand} {vs : List Value} {ats : Array TypeId} {v : Value} (hx : opv E x = some (.func (.func gn) #[] cap.toArray)) (hg : Has P gn) (hv : as.mapM (opv E) = some vs) (hp : Gives P gn (vs ++ cap) f v) :
    Y P (Cw w0 f L) n E ⟨d, .call { callee := .value x, args := as.toArray, argTypes := ats }, ty, pos, af, g⟩ v := by
  intro a ha w hw
  unfold Oper.quietAt
  rw [zi1 ha hx hg hv]
  refine ⟨rfl, ?_⟩
  have := hp w0 L w hw
  rw [List.append_toArray] at *
  simpa using this
end
end
section
open Go.RowKit
section
variable {α : Type}
def SM (enc : α → Value) (es : Array MapEntry) (m : List (ByteArray × α)) : Prop := SMap es.toList (m.map fun p => (p.1, enc p.2))
def mgetM (m : List (ByteArray × α)) (k : ByteArray) : Option α := (m.find? fun p => decide (p.1 = k)).map (·.2)
def mputM (m : List (ByteArray × α)) (k : ByteArray) (v : α) : List (ByteArray × α) := match m with
  | [] => [(k, v)]
  | p :: m => if p.1 = k then (p.1, v) :: m else p :: mputM m k v
theorem SM.nil {enc : α → Value} : SM enc #[] [] := rfl
theorem zt2 (enc : α → Value) (k : ByteArray) : ∀ m : List (ByteArray × α), mget (m.map fun p => (p.1, enc p.2)) k = (mgetM m k).map enc
  | [] => rfl
  | p :: m => by
    have ih := zt2 enc k m
    by_cases h : p.1 = k
    · simp [mget, mgetM, h]
    · simp only [mget, mgetM, List.map_cons, List.find?_cons, h, decide_false] at ih ⊢
      exact ih
theorem zsz (enc : α → Value) (k : ByteArray) (v : α) : ∀ m : List (ByteArray × α), mput (m.map fun p => (p.1, enc p.2)) k (enc v) = (mputM m k v).map fun p => (p.1, enc p.2)
  | [] => rfl
  | p :: m => by
    have ih := zsz enc k v m
    by_cases h : p.1 = k
    · simp [mput, mputM, h]
    · simp [mput, mputM, h, ih]
end
section
variable {P : Program} {ops : Array Oper} {rest : List Oper} {n : Nat} {w0 w : World} {f f' : Fz} {L L' : List Ent} {E E' : List (Nat × Value)} {a : Act} {K : AP} {v : Value}
variable {ty : TypeId} {pos : String} {af : Array Edge} {d : Option Tmp} {g : Option (Nat × Bool)} {C : World → Prop} {α : Type}
theorem zqs {enc : α → Value} {t kt e : TypeId} {x y : Operand} {r : Nat} {es : Array MapEntry} {c : Nat} {m : List (ByteArray × α)} {k : ByteArray} {by_ kk : Nat} {z : α} (hx : opv E x = some (.map (some r))) (hy : opv E y = some (.string k))
    (ht : P.underlying t = some (.map kt e)) (hk : P.underlying kt = some .string) (hT : TI P e kk by_ (enc z)) (hm : .blk r (.map es c) ∈ L) (hS : SM enc es m) :
    Y P (Cw w0 f L) n E ⟨d, .lookup t x y false, ty, pos, af, g⟩ (enc ((mgetM m k).getD z)) := by
  have := zu5 (P := P) (w0 := w0) (f := f) (L := L) (n := n) (E := E) (d := d) (ty := ty) (pos := pos) (af := af) (g := g) hx hy ht hk hT hm hS
  rw [zt2] at this
  cases h : mgetM m k with
  | none => rw [h] at this; exact this
  | some u => rw [h] at this; exact this
theorem zqn {enc : α → Value} {t kt e : TypeId} {x y z : Operand} {r : Nat} {es : Array MapEntry} {c : Nat} {m : List (ByteArray × α)} {k : ByteArray} {u : α} (i : Nat) (hs : St n w0 f L E a w) (hi : L[i]? = some (.blk r (.map es c)))
    (hx : opv E x = some (.map (some r))) (hy : opv E y = some (.string k)) (hz : opv E z = some (enc u)) (ht : P.underlying t = some (.map kt e)) (hk : P.underlying kt = some .string) (hS : SM enc es m)
    (h : ∀ es' c' a w, SM enc es' (mputM m k u) → St n w0 f (L.set i (.blk r (.map es' c'))) E a w → RL P ops rest K a w) : RL P ops (⟨none, .mapUpdate t x y z, ty, pos, af, none⟩ :: rest) K a w :=
  zqm i hs hi hx hy hz ht hk hS fun es' c' a w hS' hs => h es' c' a w (by rw [zsz] at hS'; exact hS') hs
end
end
section
open Go.RowKit
section
variable {P : Program} {f f' : Fz} {L L' : List Ent} {w0 w w' : World} {n : Nat} {E E' : List (Nat × Value)} {a : Act}
variable {ops : Array Oper} {rest : List Oper} {o : Oper} {K : AP} {C : World → Prop}
variable {d : Option Tmp} {ty : TypeId} {pos : String} {af : Array Edge} {g : Option (Nat × Bool)}
section
variable {dp : Nat} {xs ys : Array Value} {fd : Field} {fs : List Field} {c : Bool}
theorem eqF_nil : (Op.eqFields (dp + 1) xs ys []).run P w = .ok true w := by simp [Op.eqFields]
theorem zve {i j : ByteArray} (hn : (fd.name == "_") = false) (hu : P.underlying fd.type = some .string) (hx : xs[fd.offset]? = some (.string i)) (hy : ys[fd.offset]? = some (.string j)) (h : (Op.eqFields (dp + 1) xs ys fs).run P w = .ok c w) :
    (Op.eqFields (dp + 1) xs ys (fd :: fs)).run P w = .ok (decide (i = j) && c) w := by
  have hn' : fd.name ≠ "_" := by simpa using hn
  have e0 : (i.toList == j.toList) = decide (i = j) := by
    by_cases e : i = j
    · simp [e]
    · have : i.toList ≠ j.toList := fun h => e (zmk h)
      simp [e, this]
  by_cases e : i = j <;> simp [Op.eqFields, hn', part, isAgg, run_underlying hu, hx, hy, run_equalIn_string _ _ _ _ _ hu, e0, e, h]
end
theorem zo0 {t : TypeId} {fs : Array Field} (ht : P.underlying t = some (.struct fs)) : P.fieldsOf t = fs := by simp [Program.fieldsOf, ht]
theorem y_stneq {x y : Operand} {t t' : TypeId} {xs ys : Array Value} {fs : Array Field} {b : Bool} (hx : opv E x = some (.agg xs)) (hy : opv E y = some (.agg ys)) (ht : P.underlying t = some (.struct fs)) (hg : P.eqGuardType P.depth t = false) (hp : P.stoodInHeld t = false)
    (h : ∀ w,(Op.eqFields (9998 + 1) xs ys fs.toList).run P w = .ok b w) : Y P C n E ⟨d, .binOp .neq t x y t', ty, pos, af, g⟩ (.bool (!b)) :=
  .of fun a ha w _ => by
    have e1 := run_equalIn_agg (P := P) w 9999 t xs ys (by rw [zo0 ht]; exact ht) hp
    rw [zo0 ht, h w] at e1
    simp only [execOp, ha.eval hx, ha.eval hy, Sem.run_bind, run_eqGuard_agg w .neq t x y xs ys hg, run_neq_struct, e1, Result.andThen_ok, Sem.run_pure]
def numbered : Nat → List Value → List (Nat × Value)
  | _,[] => []
  | m, v :: vs => (m, v) :: numbered (m + 1) vs
theorem zvd (l : List Value) : ∀ (m o : Nat) (cs : Array Value), o + m + l.length ≤ cs.size → ((l.zipIdx m).foldl (fun (cs : Array Value) (x : Value × Nat) => cs.setIfInBounds (o + x.2) x.1) cs).toList = cs.toList.take (o + m) ++ l ++ cs.toList.drop (o + m + l.length) := by
  induction l with
  | nil => intro m o cs h; simp
  | cons u l ih =>
    intro m o cs h
    simp only [List.length_cons] at h
    rw [List.zipIdx_cons, List.foldl_cons, ih _ _ _ (by simp; omega)]
    apply List.ext_getElem?
    intro j
    simp only [Array.toList_setIfInBounds, List.getElem?_append, List.length_take, List.length_append, List.length_set, Array.length_toList, List.length_cons, List.getElem?_take, List.getElem?_drop, List.getElem?_set]
    grind
theorem zrg {k : Nat} : ∀ (vs : List Value) (m : Nat) (cs : Array Value),(∀ v ∈ vs, v.cells.size = k) → (m + vs.length) * k ≤ cs.size →
    Instr.fill (fun i => some (i * k, k)) cs (numbered m vs) = some (cs.toList.take (m * k) ++ (vs.map (·.cells.toList)).flatten ++ cs.toList.drop ((m + vs.length) * k)).toArray
  | [], m, cs, _, _ => by simp [numbered, Instr.fill]
  | v :: vs, m, cs, h1, h2 => by
    have hv := h1 v (by simp)
    simp only [List.length_cons] at h2
    have h3 : m * k + k ≤ cs.size := by
      have := Nat.mul_le_mul_right k (show m + 1 ≤ m + (vs.length + 1) by omega)
      rw [Nat.succ_mul] at this; omega
    simp only [numbered, Instr.fill]
    rw [if_neg (by simp only [Bool.or_eq_true, decide_eq_true_eq]; omega)]
    have hf := zvd v.cells.toList 0 (m * k) cs (by simp [hv]; omega)
    have hl : (v.cells.zipIdx.foldl (fun cs (x : Value × Nat) => cs.setIfInBounds (m * k + x.2) x.1) cs).toList = cs.toList.take (m * k) ++ v.cells.toList ++ cs.toList.drop (m * k + k) := by
      rw [← Array.foldl_toList, Array.toList_zipIdx, hf]
      simp [hv]
    have hsz : (v.cells.zipIdx.foldl (fun cs (x : Value × Nat) => cs.setIfInBounds (m * k + x.2) x.1) cs).size = cs.size := by
      rw [← Array.length_toList, hl]
      simp [hv]; omega
    rw [zrg vs (m + 1) _ (fun u hu => h1 u (by simp [hu])) (by rw [hsz, show m + 1 + vs.length = m + (vs.length + 1) by omega]; exact h2), hl]
    congr 2
    rw [List.map_cons, List.flatten_cons, Nat.succ_mul, show m + 1 + vs.length = m + (v :: vs).length by simp; omega]
    have h4 : (cs.toList.take (m * k) ++ v.cells.toList).length = m * k + k := by simp [hv]; omega
    rw [List.take_left' h4]
    have h5 : m * k + k ≤ (m + (v :: vs).length) * k := by
      have := Nat.mul_le_mul_right k (show m + 1 ≤ m + (v :: vs).length by simp)
      rw [Nat.succ_mul] at this; exact this
    have h6 : (cs.toList.take (m * k) ++ v.cells.toList ++ cs.toList.drop (m * k + k)).drop ((m + (v :: vs).length) * k) = cs.toList.drop ((m + (v :: vs).length) * k) := by
      rw [List.drop_append, h4, List.drop_eq_nil_of_le (by rw [h4]; exact h5), List.nil_append, List.drop_drop]
      congr 1
      omega
    rw [h6]
    simp [List.append_assoc]
theorem zjv {t e : TypeId} {len : Nat} {us : List Value} {rows : List (List Value)} {k by_ : Nat} {z : Value} (hs : St n w0 f L E a w) {dd : Nat} {parts : List (Nat × Operand)}
    (hx : parts.mapM (fun p => (opv E p.2).map fun v => (p.1, v)) = some (numbered 0 us)) (ht : P.underlying t = some (.slice e)) (hT : TI P e k by_ z) (hk : 0 < k ∧ 0 < len ∧ len * k ≤ 16777216)
    (hr : us.map (·.cells.toList) = rows) (hl : us.length = len) (h1 : ∀ r ∈ rows, OneRow k r)
    (h : ∀ v a w, St n w0 f (.row v e k rows :: L) ((dd, v) :: E) a w → RL P ops rest K a w) (hd : dd < n := by decide) :
    RL P ops (⟨some dd, .buildSlice t len parts.toArray, ty, pos, af, none⟩ :: rest) K a w := by
  subst hr
  have hu : ∀ v ∈ us, v.cells.size = k := fun v hv => by
    have := (h1 _ (List.mem_map_of_mem hv)).1
    simpa using this
  refine zmi (parts := parts) (vs := numbered 0 us) (rows := us.map (·.cells.toList)) hs hx ht hT hk ?_ (by simpa using hl) h1 (.free rfl) hd h
  rw [zrg us 0 _ hu (by rw [Nat.zero_add, hl]; simp)]
  simp [hl]
end
end
end Go.Sl
