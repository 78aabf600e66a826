/-
  Walks and laws of this seat.
-/
import Derived.Test.YtdjjeahiomackaaGreatBash
namespace Go.V
set_option linter.unusedVariables false
set_option linter.unusedSimpArgs false
set_option linter.unusedSectionVars false
open Go.RowKit Go.Sl
inductive Tr (α : Type) where
  | mk (x : α) (kids : List (Tr α))
def Tr.x {α : Type} : Tr α → α
  | .mk x _ => x
def Tr.kids {α : Type} : Tr α → List (Tr α)
  | .mk _ l => l
mutual
inductive TC where
  | int (k : IntKind)
  | bool
  | str
  | sl (e : TC)
  | nsl (e : TC)
  | tr (c : TC)
  | tn (c : TC)
  | st (l : TL)
inductive TL where
  | nil
  | cons (c : TC) (l : TL)
end
mutual
@[reducible] def TC.T : TC → Type
  | .int _ => Int
  | .bool => Bool
  | .str => ByteArray
  | .sl e => List e.T
  | .nsl e => List e.T
  | .tr c => Tr c.T
  | .tn c => Tr c.T
  | .st l => l.T
@[reducible] def TL.T : TL → Type
  | .nil => Unit
  | .cons c l => c.T × l.T
end
def kB : IntKind → IntKind → Bool := fun a b => decide (a = b)
mutual
def TC.eq : TC → TC → Bool
  | .int k, .int k' => kB k k'
  | .bool, .bool => true
  | .str, .str => true
  | .sl a, .sl b => a.eq b
  | .nsl a, .nsl b => a.eq b
  | .tr a, .tr b => a.eq b
  | .tn a, .tn b => a.eq b
  | .st a, .st b => a.eq b
  | _, _ => false
def TL.eq : TL → TL → Bool
  | .nil, .nil => true
  | .cons a l, .cons b m => a.eq b && l.eq m
  | _, _ => false
end
mutual
theorem TC.eq_ok : ∀ {a b : TC}, a.eq b = true → a = b
  | .int k, .int k', h => by simp only [TC.eq, kB, decide_eq_true_eq] at h; rw [h]
  | .bool, .bool, _ => rfl
  | .str, .str, _ => rfl
  | .sl a, .sl b, h => by rw [TC.eq_ok (a := a) (b := b) h]
  | .nsl a, .nsl b, h => by rw [TC.eq_ok (a := a) (b := b) h]
  | .tr a, .tr b, h => by rw [TC.eq_ok (a := a) (b := b) h]
  | .tn a, .tn b, h => by rw [TC.eq_ok (a := a) (b := b) h]
  | .tn _, .int _, h | .tn _, .bool, h | .tn _, .str, h | .tn _, .sl _, h | .tn _, .st _, h | .tn _, .nsl _, h | .tn _, .tr _, h => by cases h
  | .int _, .tn _, h | .bool, .tn _, h | .str, .tn _, h | .sl _, .tn _, h | .st _, .tn _, h | .nsl _, .tn _, h | .tr _, .tn _, h => by cases h
  | .tr _, .int _, h | .tr _, .bool, h | .tr _, .str, h | .tr _, .sl _, h | .tr _, .st _, h | .tr _, .nsl _, h => by cases h
  | .int _, .tr _, h | .bool, .tr _, h | .str, .tr _, h | .sl _, .tr _, h | .st _, .tr _, h | .nsl _, .tr _, h => by cases h
  | .nsl _, .int _, h | .nsl _, .bool, h | .nsl _, .str, h | .nsl _, .sl _, h | .nsl _, .st _, h => by cases h
  | .int _, .nsl _, h | .bool, .nsl _, h | .str, .nsl _, h | .sl _, .nsl _, h | .st _, .nsl _, h => by cases h
  | .st a, .st b, h => by rw [TL.eq_ok (a := a) (b := b) h]
  | .int _, .bool, h | .int _, .str, h | .int _, .sl _, h | .int _, .st _, h => by cases h
  | .bool, .int _, h | .bool, .str, h | .bool, .sl _, h | .bool, .st _, h => by cases h
  | .str, .int _, h | .str, .bool, h | .str, .sl _, h | .str, .st _, h => by cases h
  | .sl _, .int _, h | .sl _, .bool, h | .sl _, .str, h | .sl _, .st _, h => by cases h
  | .st _, .int _, h | .st _, .bool, h | .st _, .str, h | .st _, .sl _, h => by cases h
theorem TL.eq_ok : ∀ {a b : TL}, a.eq b = true → a = b
  | .nil, .nil, _ => rfl
  | .cons a l, .cons b m, h => by
    simp only [TL.eq, Bool.and_eq_true] at h
    rw [TC.eq_ok h.1, TL.eq_ok h.2]
  | .nil, .cons _ _, h => by cases h
  | .cons _ _, .nil, h => by cases h
end
mutual
def TC.k : TC → Nat
  | .int _ => 1
  | .bool => 1
  | .str => 1
  | .sl _ => 1
  | .nsl _ => 1
  | .tr c => c.k + 1
  | .tn c => c.k + 1
  | .st l => l.k
def TL.k : TL → Nat
  | .nil => 0
  | .cons c l => c.k + l.k
end
def TC.fl : TC → Bool
  | .tn _ => false
  | _ => true
inductive C where
  | b (x : Bool)
  | i (k : IntKind) (n : Int)
  | s (x : ByteArray)
  | sl (c : TC) (xs : List c.T)
  | sn (c : TC) (xs : List c.T)
  | nl
  | fp (c : TC) (x : c.T) (o : Nat)
  | bp (j o : Nat)
  | op (k j : Nat) (i : Int) (o : Nat)
  | os (j : Nat)
  | ov (k j : Nat) (lo hi : Int)
  | it (j : Nat)
  | fn (g : Nat)
  | cl (g : Nat) (l : List C)
  | fm (j : Nat)
  | me (j : Nat)
  | nf
  | u
inductive U where
  | c (x : C)
  | a (l : List C)
inductive V where
  | c (x : C)
  | a (l : List C)
  | t (l : List U)
inductive Ob where
  | bx (cs : List C)
  | ow (e : TypeId) (c : TC) (xs : List c.T)
  | fz (c : TC) (xs : List c.T)
  | it (s : ByteArray) (p : Nat)
  | fb (cs : List C)
  | me (g : Nat) (l : List C)
  | no
inductive Ds where
  | int (k : IntKind)
  | bool
  | str
  | slice (e : TypeId)
  | struct (fs : List (Nat × TypeId))
  | array (n : Nat) (e : TypeId)
  | other
structure TD where
  d : Ds
  ag : Bool
  sz : Nat
  by_ : Nat
  z : List C
  c : TC
  eq : Nat
variable {α : Type}
mutual
def TC.lv : (c : TC) → c.T → List C
  | .int k, n => [.i k n]
  | .bool, b => [.b b]
  | .str, s => [.s s]
  | .sl e, xs => [.sl e xs]
  | .nsl e, xs => [.sn e xs]
  | .tr c, t => c.lv t.x ++ [.sl (.tr c) t.kids]
  | .tn c, t => c.lv t.x ++ [.sl (.tn c) t.kids]
  | .st l, x => l.lv x
def TL.lv : (l : TL) → l.T → List C
  | .nil, _ => []
  | .cons c l, x => c.lv x.1 ++ l.lv x.2
end
def cI (k : IntKind) (K : Int → Option α) : C → Option α
  | .i k' n => cond (kB k' k) (K n) none
  | _ => none
def cB (K : Bool → Option α) : C → Option α
  | .b x => K x
  | _ => none
def cS (K : ByteArray → Option α) : C → Option α
  | .s x => K x
  | _ => none
def castL {c c' : TC} (xs : List c.T) (K : List c'.T → Option α) : Option α := if h : c.eq c' = true then K (TC.eq_ok h ▸ xs) else none
def castD {c c' : TC} (xs : List c.T) (K : List c'.T → Option α) : Option α := match c, c', xs, K with
  | .tn a, .tr b, xs, K => if h : a.eq b = true then K (TC.eq_ok h ▸ xs) else none
  | _, _, xs, K => castL xs K
def cL (c' : TC) (K : List c'.T → Option α) : C → Option α
  | .sl c xs => castD xs K
  | .nl => K []
  | _ => none
def cNsl (c' : TC) (K : List c'.T → Option α) : C → Option α
  | .sn _ xs => castL xs K
  | .sl c xs => match xs with
    | [] => none
    | y :: ys => castL (c := c) (y :: ys) K
  | .nl => K []
  | _ => none
mutual
def TC.mk : (c : TC) → List C → (c.T → List C → Option α) → Option α
  | .int k, x :: r, K => cI k (fun n => K n r) x
  | .bool, x :: r, K => cB (fun b => K b r) x
  | .str, x :: r, K => cS (fun s => K s r) x
  | .sl e, x :: r, K => cL e (fun xs => K xs r) x
  | .nsl e, x :: r, K => cNsl e (fun xs => K xs r) x
  | .tr c, r, K => c.mk r fun x r => match r with
    | y :: r => cL (.tr c) (fun xs => K (.mk x xs) r) y
    | [] => none
  | .tn c, r, K => c.mk r fun x r => match r with
    | y :: r => cL (.tn c) (fun xs => K (.mk x xs) r) y
    | [] => none
  | .st l, r, K => l.mk r K
  | _,[], _ => none
def TL.mk : (l : TL) → List C → (l.T → List C → Option α) → Option α
  | .nil, r, K => K () r
  | .cons c l, r, K => c.mk r fun x r => l.mk r fun y r => K (x, y) r
end
def TC.mkA (c : TC) (cs : List C) (K : c.T → Option α) : Option α := c.mk cs fun x r => match r with
  | [] => K x
  | _ => none
def TC.ag : TC → Bool
  | .st _ => true
  | .tr _ => true
  | .tn _ => true
  | _ => false
def TC.v (c : TC) (x : c.T) : V := match c, x with
  | .int k, n => .c (.i k n)
  | .bool, b => .c (.b b)
  | .str, s => .c (.s s)
  | .sl e, xs => .c (.sl e xs)
  | .nsl e, xs => .c (.sn e xs)
  | .tr c, t => .a (c.lv t.x ++ [.sl (.tr c) t.kids])
  | .tn c, t => .a (c.lv t.x ++ [.sl (.tn c) t.kids])
  | .st l, x => .a (l.lv x)
def lk : List (Nat × V) → Nat → Option V
  | [], _ => none
  | (s, v) :: r, t => cond (Nat.beq s t) (some v) (lk r t)
def cst1 : Value → Option C
  | .bool b => some (.b b)
  | .int k n => some (.i k n)
  | .string s => some (.s s)
  | .slice none 0 0 => some .nl
  | _ => none
def cstL : List Value → Option (List C)
  | [] => some []
  | v :: r => (cst1 v).bind fun c => (cstL r).bind fun l => some (c :: l)
def cst : Value → Option V
  | .agg cs => (cstL cs.toList).bind fun l => some (.a l)
  | v => (cst1 v).bind fun c => some (.c c)
def nsn : V → V
  | .c (.sn c xs) => .c (.sl c xs)
  | v => v
def opr (sl : List (Nat × V)) (x : Operand) (K : V → Option α) : Option α := match x with
  | .tmp t => (lk sl t).bind K
  | .const v => (cst v).bind K
  | .func g => K (.c (.fn g))
  | .global _ => none
def opd (sl : List (Nat × V)) (x : Operand) (K : V → Option α) : Option α := match x with
  | .tmp t => (lk sl t).bind fun v => K (nsn v)
  | .const v => (cst v).bind K
  | .func g => K (.c (.fn g))
  | .global _ => none
def opds (sl : List (Nat × V)) : List Operand → (List V → Option α) → Option α
  | [], K => K []
  | x :: r, K => opd sl x fun v => opds sl r fun vs => K (v :: vs)
def og : List Ob → Nat → Option Ob
  | [], _ => none
  | x :: r, j => cond (Nat.beq r.length j) (some x) (og r j)
def oset : List Ob → Nat → Ob → List Ob
  | [], _, _ => []
  | x :: r, j, y => cond (Nat.beq r.length j) (y :: r) (x :: oset r j y)
def vC (v : V) (K : C → Option α) : Option α := match v with
  | .c x => K x
  | _ => none
def vI (v : V) (K : IntKind → Int → Option α) : Option α := match v with
  | .c (.i k n) => K k n
  | _ => none
def vB (v : V) (K : Bool → Option α) : Option α := match v with
  | .c (.b x) => K x
  | _ => none
def vS (v : V) (K : ByteArray → Option α) : Option α := match v with
  | .c (.s x) => K x
  | _ => none
def vcs (v : V) (K : List C → Option α) : Option α := match v with
  | .c x => K [x]
  | .a l => K l
  | _ => none
def vP (ob : List Ob) (v : V) (K : List C → Nat → Option α) : Option α := match v with
  | .c (.fp c x o) => K (c.lv x) o
  | .c (.bp j o) => (og ob j).bind fun y => match y with
    | .bx cs => K cs o
    | .fb cs => K cs o
    | _ => none
  | .c (.fm j) => (og ob j).bind fun y => match y with
    | .me _ _ => K [.me j] 0
    | _ => none
  | .c (.op k j i o) => (og ob j).bind fun y => match y with
    | .ow _ c xs => cond (Nat.beq k c.k) ((geti xs i).bind fun x => K (c.lv x) o) none
    | _ => none
  | _ => none
def rd (ag : Bool) (sz : Nat) (cs : List C) (o : Nat) (K : V → Option α) : Option α :=
  cond ag (cond (Nat.beq ((cs.drop o).take sz).length sz) (K (.a ((cs.drop o).take sz))) none) ((cs[o]?).bind fun c => K (.c c))
variable (T : Nat → Option TD)
def fld (t i : Nat) (K : Nat → TypeId → Option α) : Option α := (T t).bind fun td => match td.d with
  | .struct fs => (fs[i]?).bind fun p => K p.1 p.2
  | _ => none
def elm (t : Nat) (K : Nat → Option α) : Option α := (T t).bind fun td => match td.d with
  | .slice e => (T e).bind fun te => K te.sz
  | _ => none
def strT (t : Nat) (K : Option α) : Option α := (T t).bind fun td => match td.d with
  | .str => K
  | _ => none
def lay (l xs : List C) (o : Nat) : List C := l.take o ++ xs ++ l.drop (o + xs.length)
def isU : C → Bool
  | .u => false
  | _ => true
def dsA : Ds → Bool
  | .struct _ => true
  | .array _ _ => true
  | _ => false
def plc (t i : Nat) (K : Nat → TypeId → Option α) : Option α := (T t).bind fun td => match td.d with
  | .struct fs => (fs[i]?).bind fun p => K p.1 p.2
  | .array n e => (T e).bind fun te => cond (Nat.blt i n) (K (i * te.sz) e) none
  | _ => none
def ixc : Nat → Int → (Nat → Option α) → Option α
  | 0, _, _ => none
  | n + 1, i, K => cond (decide (i = (n : Int))) (K n) (ixc n i K)
def ixArr (m sz : Nat) (n : Int) (v : V) (K : V → Option α) : Option α := match v with
  | .c (.fp c y o) => ixc m n fun q => K (.c (.fp c y (o + q * sz)))
  | .c (.bp j o) => ixc m n fun q => K (.c (.bp j (o + q * sz)))
  | .c (.op k j i o) => ixc m n fun q => K (.c (.op k j i (o + q * sz)))
  | _ => none
def parts (sl : List (Nat × V)) (t : Nat) : List (Nat × Operand) → List C → (List C → Option α) → Option α
  | [], l, K => K l
  | (i, x) :: r, l, K => plc T t i fun o ft => (T ft).bind fun td => opd sl x fun v => vcs v fun xs => cond (Nat.beq xs.length td.sz) (cond (xs.all isU) (cond (Nat.ble (o + xs.length) l.length) (parts sl t r (lay l xs o) K) none) none) none
def intOp (o : BinOp) (k : IntKind) (a b : Int) (K : C → Option α) : Option α := match o with
  | .add => K (.i k (k.wrap (a + b)))
  | .sub => K (.i k (k.wrap (a - b)))
  | .mul => K (.i k (k.wrap (a * b)))
  | .lss => K (.b (decide (a < b)))
  | .leq => K (.b (decide (a ≤ b)))
  | .gtr => K (.b (decide (b < a)))
  | .geq => K (.b (decide (b ≤ a)))
  | .eql => K (.b (decide (a = b)))
  | .neq => K (.b (decide (a ≠ b)))
  | .quo => cond (kB k .i64) ((quoM a b).bind fun z => K (.i .i64 z)) none
  | .rem => cond (kB k .i64) ((remM a b).bind fun z => K (.i .i64 z)) none
  | _ => none
def strOp (o : BinOp) (a b : ByteArray) (K : C → Option α) : Option α := match o with
  | .add => (addS a b).bind fun s => K (.s s)
  | .eql => K (.b (decide (a = b)))
  | .neq => K (.b (decide (a ≠ b)))
  | _ => none
mutual
/-- Are two data alike? -/
def TC.beq : (c : TC) → c.T → c.T → Bool
  | .int _, a, b => decide ((a : Int) = b)
  | .bool, a, b => decide ((a : Bool) = b)
  | .str, a, b => decide ((a : ByteArray) = b)
  | .st l, a, b => l.beq a b
  | _, _, _ => false
def TL.beq : (l : TL) → l.T → l.T → Bool
  | .nil, _, _ => true
  | .cons c l, a, b => c.beq a.1 b.1 && l.beq a.2 b.2
end
def boolT (t : Nat) (K : Option α) : Option α := (T t).bind fun td => match td.d with
  | .bool => K
  | _ => none
def eqB (o : BinOp) (q : Bool) (K : C → Option α) : Option α := match o with
  | .eql => K (.b q)
  | .neq => K (.b (!q))
  | _ => none
def binOp (o : BinOp) (t : Nat) (x y : V) (K : C → Option α) : Option α := match x, y with
  | .c (.b a), .c (.b b) => boolT T t (eqB o (decide (a = b)) K)
  | .a xs, .a ys => (T t).bind fun td => cond (td.c.ag && Nat.blt 0 td.eq) (td.c.mkA xs fun x => td.c.mkA ys fun y => eqB o (td.c.beq x y) K) none
  | .c (.i k a), .c (.i k' b) => cond (kB k k') (intOp o k a b K) none
  | .c (.s a), .c (.s b) => strOp o a b K
  | _, _ => none
def un (o : UnOp) (x : V) (K : C → Option α) : Option α := match o, x with
  | .not, .c (.b q) => K (.b (!q))
  | .neg, .c (.i k n) => K (.i k (k.wrap (-n)))
  | _, _ => none
def bnd (sl : List (Nat × V)) (x : Option Operand) (d : Int) (K : Int → Option α) : Option α := match x with
  | none => K d
  | some x => opd sl x fun v => vI v fun k n => cond (kB k .i64) (K n) none
def slLen (t : Nat) (ob : List Ob) (v : V) (K : Int → Option α) : Option α := match v with
  | .c (.sl _ xs) => elm T t fun _ => K xs.length
  | .c .nl => elm T t fun _ => K 0
  | .c (.s x) => strT T t (K x.size)
  | .c (.os j) => elm T t fun _ => (og ob j).bind fun y => match y with
    | .ow _ _ xs => K xs.length
    | .fz _ xs => K xs.length
    | _ => none
  | .c (.ov _ _ lo hi) => elm T t fun _ => K (hi - lo)
  | _ => none
def conv (ob : List Ob) (s d : TD) (v : V) (K : C → Option α) : Option α := match s.d, d.d, v with
  | .int _, .int k', .c (.i _ n) => K (.i k' (k'.wrap n))
  | _, _, _ => none
def isNN (o : BinOp) (y : Operand) : Bool := match o with
  | .neq => match y with
    | .const (.slice none l c) => l == 0 && c == 0
    | _ => false
  | _ => false
def nnv (v : V) (K : Bool → Option α) : Option α := match v with
  | .c (.sn _ xs) => K (!xs.isEmpty)
  | _ => none
def opdC (sl : List (Nat × V)) : List Operand → (List C → Option α) → Option α
  | [], K => K []
  | x :: r, K => opr sl x fun v => vC v fun c => opdC sl r fun l => K (c :: l)
def qop (o : Op) (sl : List (Nat × V)) (ob : List Ob) (K : V → Option α) : Option α := match o with
  | .move x => opr sl x K
  | .assign x => opr sl x K
  | .pick c a b => opd sl c fun v => vB v fun q => cond q (opd sl a K) (opd sl b K)
  | .nilCheck x => opd sl x fun v => vP ob v fun _ _ => K v
  | .load t x => opd sl x fun v => (T t).bind fun td => vP ob v fun cs o => rd td.ag td.sz cs o K
  | .fieldAddr t x i => opd sl x fun v => fld T t i fun f _ => match v with
    | .c (.fp c y o) => K (.c (.fp c y (o + f)))
    | .c (.bp j o) => K (.c (.bp j (o + f)))
    | .c (.op k j n o) => K (.c (.op k j n (o + f)))
    | _ => none
  | .field t x i => opd sl x fun v => fld T t i fun f ft => (T ft).bind fun td => match v with
    | .a cs => rd td.ag td.sz cs f K
    | _ => none
  | .indexAddr t x ix => opd sl x fun v => opd sl ix fun w => vI w fun _ n => (T t).bind fun td => match td.d with
    | .array m e => (T e).bind fun te => ixArr m te.sz n v K
    | _ => elm T t fun sz => match v with
      | .c (.sl c xs) => cond (Nat.beq c.k sz) ((geti xs n).bind fun y => K (.c (.fp c y 0))) none
      | .c (.os j) => (og ob j).bind fun y => match y with
        | .ow _ c xs => cond (Nat.beq c.k sz) ((geti xs n).bind fun _ => K (.c (.op c.k j n 0))) none
        | .fz c xs => cond (Nat.beq c.k sz) ((geti xs n).bind fun y => K (.c (.fp c y 0))) none
        | _ => none
      | .c (.ov k j lo hi) => (og ob j).bind fun y => match y with
        | .ow _ c xs => cond (Nat.beq c.k sz && Nat.beq k sz) ((cutM xs lo hi).bind fun z => (geti z n).bind fun _ => K (.c (.op c.k j (lo + n) 0))) none
        | _ => none
      | _ => none
  | .index t x ix => opd sl x fun v => opd sl ix fun w => vI w fun _ n => vS v fun s => strT T t ((getS s n).bind fun b => K (.c (.i .u8 b)))
  | .extract x i => opd sl x fun v => match v with
    | .t l => (l[i]?).bind fun y => match y with
      | .c z => K (.c z)
      | .a z => K (.a z)
    | _ => none
  | .build t ps => (T t).bind fun td => cond (dsA td.d) (parts T sl t ps.toList td.z fun l => K (.a l)) none
  | .binOp o t x y _ => cond (isNN o y) (opr sl x fun v => nnv v fun b => elm T t fun _ => K (.c (.b b))) (opd sl x fun v => opd sl y fun w => binOp T o t v w fun c => K (.c c))
  | .unOp o _ x => opd sl x fun v => un o v fun c => K (.c c)
  | .convert s d x => opd sl x fun v => (T s).bind fun sd => (T d).bind fun dd => conv ob sd dd v fun c => K (.c c)
  | .slice t x lo hi none => opd sl x fun v => match v with
    | .c (.s s) => strT T t (bnd sl lo 0 fun lo => bnd sl hi s.size fun hi => (cutS s lo hi).bind fun z => K (.c (.s z)))
    | .c (.sl c xs) => elm T t fun sz => cond (Nat.beq c.k sz && c.fl) (bnd sl lo 0 fun lo => bnd sl hi xs.length fun hi => (cutM xs lo hi).bind fun z => K (.c (.sl c z))) none
    | .c (.os j) => elm T t fun sz => (og ob j).bind fun y => match y with
      | .ow _ c xs => cond (Nat.beq c.k sz) (bnd sl lo 0 fun lo => bnd sl hi xs.length fun hi => (cutM xs lo hi).bind fun _ => K (.c (.ov c.k j lo hi))) none
      | .fz c xs => cond (Nat.beq c.k sz && c.fl) (bnd sl lo 0 fun lo => bnd sl hi xs.length fun hi => (cutM xs lo hi).bind fun z => K (.c (.sl c z))) none
      | _ => none
    | _ => none
  | .makeFunc fn first cs => match fn, first.toList with
    | .func g,[] => opdC sl cs.toList fun l => K (.c (match l with
      | [] => .fn g
      | l => .cl g l))
    | _, _ => none
  | .call c => match c.callee, c.args.toList, c.argTypes.toList with
    | .builtin .len,[x],[t] => opd sl x fun v => slLen T t ob v fun n => K (.c (.i .i64 n))
    | _, _, _ => none
  | _ => none
end Go.V
