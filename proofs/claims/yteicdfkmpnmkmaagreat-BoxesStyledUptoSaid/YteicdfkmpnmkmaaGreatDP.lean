/-
  Walks and laws of this seat.
-/
import GoSem.Core.Code
import GoSem.Core.World
import GoSem.Core.Region
import GoSem.Core.View
import Derived.KernelRfl
import Derived.Test.YteicdfkmpnmkmaaGreatBase
namespace Go.D
set_option linter.unusedVariables false
set_option linter.unusedSimpArgs false
inductive Tr (α : Type) where
  | e
  | n (v : Option α) (l r : Tr α)
/-- A cell: no struct, no tuple. Pointers bear names of blocks. -/
inductive C where
  | b (x : Bool)
  | i (k : IntKind) (n : Int)
  | s (l : List Nat)
  | pn
  | p (b o : Nat)
  | sn
  | sl (b o len cap : Nat)
  | mn
  | m (r : Nat)
  | nf
  | fn (f : Nat) (fs cs : List (Nat × Nat))
inductive U where
  | c (x : C)
  | a (l : List C)
/-- What a slot holds. -/
inductive V where
  | c (x : C)
  | a (l : List C)
  | t (l : List U)
/-- A block. -/
inductive AO where
  | cells (k : Nat) (c : Tr (List C)) (len : Nat) (e : TypeId) (ex : Bool)
  | iter (rest : List Nat) (pos : Nat)
  | map (es : List (List Nat × C))
  | dead
inductive Ds where
  | int (k : IntKind)
  | str
  | slice (e : TypeId)
  | struct (fs : List (Nat × TypeId))
  | array (n : Nat) (e : TypeId)
  | map (k v : TypeId)
  | other
/-- A type: its shape, is it a struct or an array, its cells, its bytes, its zero. -/
structure TI where
  d : Ds
  ag : Bool
  sz : Nat
  by_ : Nat
  z : List C
/-- A function: slots that are kept beyond their region; for each region that draws its order what each operation waits for, and whether it may write what was there. -/
structure FI where
  fn : Func
  mask : Nat
  dm : Tr (List (Nat × Bool))
structure Env where
  tt : Tr TI
  ft : Tr FI
  mm : List (Nat × List (List Nat) × C)
inductive Ex where
  | normal
  | exit (i : Nat)
  | goto (l : Nat)
  | ret
abbrev H := Tr AO
abbrev Ls := List (Nat × V)
def F : Nat := 64
noncomputable section
variable {α β : Type}
def Tr.get {γ : Type} (t : Tr γ) : Nat → Option γ :=
  Tr.rec (fun _ => none) (fun v _ _ gl gr k => Nat.rec v (fun k _ => Bool.rec (gr (Nat.div k 2)) (gl (Nat.div k 2)) (Nat.beq (Nat.mod k 2) 0)) k) t
def Tr.putF {γ : Type} (x : γ) (f : Nat) : Tr γ → Nat → (Tr γ → Option α) → Option α :=
  Nat.rec (fun _ _ _ => none) (fun _ ih t k c => Tr.rec
    (Nat.rec (c (.n (some x) .e .e)) (fun k _ => Bool.rec (ih .e (Nat.div k 2) fun u => c (.n none .e u)) (ih .e (Nat.div k 2) fun u => c (.n none u .e)) (Nat.beq (Nat.mod k 2) 0)) k)
    (fun v l r _ _ => Nat.rec (c (.n (some x) l r)) (fun k _ => Bool.rec (ih r (Nat.div k 2) fun u => c (.n v l u)) (ih l (Nat.div k 2) fun u => c (.n v u r)) (Nat.beq (Nat.mod k 2) 0)) k) t) f
def Tr.putK {γ : Type} (x : γ) (t : Tr γ) (k : Nat) (c : Tr γ → Option α) : Option α := Tr.putF x F t k c
def oc (x : Option β) (k : β → Option α) : Option α := Option.rec none k x
def fN (n : Nat) (k : Nat → Option α) : Option α := Nat.rec (k 0) (fun m _ => k (Nat.succ m)) n
def fI (n : Int) (k : Int → Option α) : Option α := Int.rec (fun n => fN n fun n => k (.ofNat n)) (fun n => fN n fun n => k (.negSucc n)) n
def fB (b : Bool) (k : Bool → Option α) : Option α := Bool.rec (k false) (k true) b
def iff (b : Bool) (k : Option α) : Option α := Bool.rec none k b
def byteL (l : List UInt8) : (List Nat → Option α) → Option α := List.rec (fun k => k []) (fun c _ ih k => ih fun l => fN c.toNat fun n => k (n :: l)) l
def const1 (v : Value) : (C → Option α) → Option α := match v with
  | .bool b => fun k => fB b fun b => k (.b b)
  | .int kd n => fun k => fI n fun n => k (.i kd n)
  | .string s => fun k => byteL s.data.toList fun l => k (.s l)
  | .pointer none => fun k => k .pn
  | .slice none 0 0 => fun k => k .sn
  | .map none => fun k => k .mn
  | .nilFunc => fun k => k .nf
  | _ => fun _ => none
def constK (v : Value) : (V → Option α) → Option α := match v with
  | .agg cs => fun k => List.rec (fun k => k []) (fun c _ ih k => const1 c fun v => ih fun l => k (v :: l)) cs.toList fun l => k (.a l)
  | v => fun k => const1 v fun x => k (.c x)
def lookL (l : Ls) (t : Nat) : Option V := List.rec none (fun p _ ih => Prod.rec (fun s v => Bool.rec ih (some v) (Nat.beq s t)) p) l
def kept (m x : Nat) : Bool := Nat.beq (Nat.mod (Nat.shiftRight m x) 2) 1
def opT (m : Nat) (t : Tr V) (lc : Ls) (x : Nat) : Option V := Bool.rec (lookL lc x) (t.get x) (kept m x)
def opd (m : Nat) (t : Tr V) (lc : Ls) (x : Operand) : (V → Option α) → Option α :=
  Operand.rec (fun x k => oc (opT m t lc x) k) constK (fun _ _ => none) (fun f k => k (.c (.fn f [] []))) x
def opdL (m : Nat) (t : Tr V) (lc : Ls) (l : List Operand) : (List V → Option α) → Option α :=
  List.rec (fun k => k []) (fun a _ ih k => opd m t lc a fun v => ih fun vs => k (v :: vs)) l
abbrev KO (α : Type) := V → List Nat → List (Nat × AO) → Nat → Option α
abbrev O (α : Type) := Env → Nat → Tr V → Ls → H → Nat → KO α → Option α
def cK (v : V) (k : C → Option α) : Option α := V.rec k (fun _ => none) (fun _ => none) v
def ptrK (v : V) (k : Nat → Nat → Option α) : Option α := cK v fun x => C.rec (fun _ => none) (fun _ _ => none) (fun _ => none) none k none (fun _ _ _ _ => none) none (fun _ => none) none (fun _ _ _ => none) x
def intK (v : V) (k : IntKind → Int → Option α) : Option α := cK v fun x => C.rec (fun _ => none) k (fun _ => none) none (fun _ _ => none) none (fun _ _ _ _ => none) none (fun _ => none) none (fun _ _ _ => none) x
def natK (v : V) (k : Nat → Option α) : Option α := intK v fun _ n => Int.rec k (fun _ => none) n
def boolK (v : V) (k : Bool → Option α) : Option α := cK v fun x => C.rec k (fun _ _ => none) (fun _ => none) none (fun _ _ => none) none (fun _ _ _ _ => none) none (fun _ => none) none (fun _ _ _ => none) x
def strK (v : V) (k : List Nat → Option α) : Option α := cK v fun x => C.rec (fun _ => none) (fun _ _ => none) k none (fun _ _ => none) none (fun _ _ _ _ => none) none (fun _ => none) none (fun _ _ _ => none) x
def fnK (v : V) (k : Nat → List (Nat × Nat) → List (Nat × Nat) → Option α) : Option α := cK v fun x => C.rec (fun _ => none) (fun _ _ => none) (fun _ => none) none (fun _ _ => none) none (fun _ _ _ _ => none) none (fun _ => none) none k x
def slK (v : V) (z : Option α) (k : Nat → Nat → Nat → Nat → Option α) : Option α := cK v fun x => C.rec (fun _ => none) (fun _ _ => none) (fun _ => none) none (fun _ _ => none) z k none (fun _ => none) none (fun _ _ _ => none) x
def mapK (v : V) (k : Nat → Option α) : Option α := cK v fun x => C.rec (fun _ => none) (fun _ _ => none) (fun _ => none) none (fun _ _ => none) none (fun _ _ _ _ => none) none k none (fun _ _ _ => none) x
def tupK (v : V) (k : List U → Option α) : Option α := V.rec (fun _ => none) (fun _ => none) k v
def vcells (v : V) (k : List C → Option α) : Option α := V.rec (fun x => k [x]) k (fun _ => none) v
def cellsK (o : AO) (K : Nat → Tr (List C) → Nat → TypeId → Bool → Option α) : Option α := AO.rec K (fun _ _ => none) (fun _ => none) none o
def takeK (n : Nat) : List C → (List C → Option α) → Option α :=
  Nat.rec (fun _ k => k []) (fun _ ih l k => List.rec none (fun v l _ => ih l fun r => k (v :: r)) l) n
def dropK (n : Nat) : List C → (List C → Option α) → Option α :=
  Nat.rec (fun l k => k l) (fun _ ih l k => List.rec none (fun _ l _ => ih l k) l) n
def layK (xs : List C) (n : Nat) : List C → (List C → Option α) → Option α :=
  Nat.rec (List.rec (fun l k => k l) (fun x _ ih l k => List.rec none (fun _ l _ => ih l fun r => k (x :: r)) l) xs) (fun _ ih l k => List.rec none (fun v l _ => ih l fun r => k (v :: r)) l) n
def nthK {γ : Type} (l : List γ) (i : Nat) : (γ → Option α) → Option α := Nat.rec (fun l k => List.rec none (fun x _ _ => k x) l) (fun _ ih l k => List.rec none (fun _ l _ => ih l k) l) i l
def lenN {γ : Type} (l : List γ) (K : Nat → Option α) : Option α := List.rec (fun n => K n) (fun _ _ ih n => fN (Nat.succ n) ih) l 0
def rdC (k : Nat) (c : Tr (List C)) (len o n : Nat) (K : List C → Option α) : Option α :=
  iff (Nat.blt (Nat.div o k) len) (oc (c.get (Nat.div o k)) fun row => Bool.rec (dropK (Nat.mod o k) row fun r => takeK n r K) (Bool.rec none (K row) (Nat.beq (Nat.mod o k) 0)) (Nat.beq n k))
def mkV (ag : Bool) (l : List C) (K : V → Option α) : Option α := Bool.rec (List.rec none (fun v _ _ => K (.c v)) l) (K (.a l)) ag
def unit : V := .t []
def opMove (x : Operand) : O α := fun _ m t lc _ n k => opd m t lc x fun v => k v [] [] n
def opPick (c a b : Operand) : O α := fun _ m t lc _ n k => opd m t lc c fun v => boolK v fun q => opd m t lc (Bool.rec b a q) fun v => k v [] [] n
def opLoad (ty : TypeId) (x : Operand) : O α := fun E m t lc h n k => opd m t lc x fun v => ptrK v fun b o => oc (E.tt.get ty) fun ti => TI.rec (fun _ ag sz _ _ => oc (h.get b) fun ob => cellsK ob fun kk c len _ _ => rdC kk c len o sz fun l => mkV ag l fun v => k v [b] [] n) ti
def opStore (ty : TypeId) (x y : Operand) : O α := fun E m t lc h n k => opd m t lc x fun v => ptrK v fun b o => opd m t lc y fun u => oc (E.tt.get ty) fun ti => vcells u fun xs => oc (h.get b) fun ob => cellsK ob fun kk c l e ex =>
  lenN xs fun L => iff (Nat.beq L ti.sz) (iff (Nat.blt (Nat.div o kk) l) (oc (c.get (Nat.div o kk)) fun row => layK xs (Nat.mod o kk) row fun row' => Tr.putK row' c (Nat.div o kk) fun c' => k unit [b] [(b, .cells kk c' l e ex)] n))
def opBox (ty : TypeId) (x : Operand) : O α := fun E m t lc _ n k => opd m t lc x fun v => oc (E.tt.get ty) fun ti => vcells v fun xs => lenN xs fun L => iff (Nat.beq L ti.sz) (k (.c (.p n 0)) [] [(n, .cells ti.sz (.n (some xs) .e .e) 1 ty true)] (Nat.succ n))
def opAlloc (ty : TypeId) : O α := fun E _ _ _ _ n k => oc (E.tt.get ty) fun ti => TI.rec (fun _ _ sz _ z => k (.c (.p n 0)) [] [(n, .cells sz (.n (some z) .e .e) 1 ty true)] (Nat.succ n)) ti
def sliceE (d : Ds) (K : TypeId → Option α) : Option α := Ds.rec (fun _ => none) none K (fun _ => none) (fun _ _ => none) (fun _ _ => none) none d
def fieldE (d : Ds) (i : Nat) (K : Nat → TypeId → Option α) : Option α := Ds.rec (fun _ => none) none (fun _ => none) (fun fs => nthK fs i fun p => Prod.rec K p) (fun _ _ => none) (fun _ _ => none) none d
def elemK (E : Env) (ty : TypeId) (K : TypeId → Nat → Nat → List C → Option α) : Option α := oc (E.tt.get ty) fun ti => sliceE ti.d fun e => oc (E.tt.get e) fun te => TI.rec (fun _ _ sz by_ z => K e sz by_ z) te
def putRows (l : List (List C)) : Tr (List C) → Nat → (Tr (List C) → Option α) → Option α :=
  List.rec (fun t _ K => K t) (fun r _ ih t i K => Tr.putK r t i fun t => fN (Nat.succ i) fun i => ih t i K) l
def repRows (z : List C) (n : Nat) : Tr (List C) → Nat → (Tr (List C) → Option α) → Option α :=
  Nat.rec (fun t _ K => K t) (fun _ ih t i K => Tr.putK z t i fun t => fN (Nat.succ i) fun i => ih t i K) n
def partRows (m : Nat) (t : Tr V) (lc : Ls) (len sz : Nat) (ps : List (Nat × Operand)) : Tr (List C) → (Tr (List C) → Option α) → Option α :=
  List.rec (fun c K => K c) (fun p _ ih c K => Prod.rec (fun i x => opd m t lc x fun v => vcells v fun xs => lenN xs fun L => iff (Nat.beq L sz) (iff (Nat.blt i len) (Tr.putK xs c i fun c => ih c K))) p) ps
def opBuildSlice (ty : TypeId) (len : Nat) (ps : Array (Nat × Operand)) : O α := fun E m t lc _ n k => elemK E ty fun e sz _ z => iff (Nat.ble (Nat.mul len sz) 65536)
  (repRows z len .e 0 fun c => partRows m t lc len sz ps.toList c fun c => k (.c (.sl n 0 len len)) [] [(n, .cells sz c len e true)] (Nat.succ n))
def partAt (E : Env) (d : Ds) (i : Nat) (K : Nat → Nat → Option α) : Option α :=
  Ds.rec (fun _ => none) none (fun _ => none) (fun fs => nthK fs i fun p => Prod.rec (fun o ty => oc (E.tt.get ty) fun te => K o te.sz) p) (fun _ e => oc (E.tt.get e) fun te => fN (Nat.mul i te.sz) fun o => K o te.sz) (fun _ _ => none) none d
def parts (E : Env) (m : Nat) (t : Tr V) (lc : Ls) (d : Ds) (ps : List (Nat × Operand)) : List C → (List C → Option α) → Option α :=
  List.rec (fun l K => K l) (fun p _ ih l K => Prod.rec (fun i x => opd m t lc x fun v => partAt E d i fun o sz => vcells v fun xs => lenN xs fun L => iff (Nat.beq L sz) (layK xs o l fun l => ih l K)) p) ps
def dAg (d : Ds) : Bool := Ds.rec (fun _ => false) false (fun _ => false) (fun _ => true) (fun _ _ => true) (fun _ _ => false) false d
def opBuild (ty : TypeId) (ps : Array (Nat × Operand)) : O α := fun E m t lc _ n k => oc (E.tt.get ty) fun ti => iff (dAg ti.d) (parts E m t lc ti.d ps.toList ti.z fun l => k (.a l) [] [] n)
def opNil (x : Operand) : O α := fun _ m t lc _ n k => opd m t lc x fun v => ptrK v fun _ _ => k v [] [] n
def opFieldAddr (ty : TypeId) (x : Operand) (i : Nat) : O α := fun E m t lc _ n k => opd m t lc x fun v => ptrK v fun b o => oc (E.tt.get ty) fun ti => fieldE ti.d i fun f _ => fN (Nat.add o f) fun o => k (.c (.p b o)) [] [] n
def opField (ty : TypeId) (x : Operand) (i : Nat) : O α := fun E m t lc _ n k => opd m t lc x fun v => oc (E.tt.get ty) fun ti => fieldE ti.d i fun f ft => oc (E.tt.get ft) fun te => V.rec (fun _ => none) (fun cs => dropK f cs fun l => takeK te.sz l fun l => mkV te.ag l fun v => k v [] [] n) (fun _ => none) v
def opIndexAddr (ty : TypeId) (x ix : Operand) : O α := fun E m t lc _ n k => opd m t lc x fun v => opd m t lc ix fun w => natK w fun i => oc (E.tt.get ty) fun ti => Ds.rec (fun _ => none) none
  (fun e => oc (E.tt.get e) fun te => slK v none fun b o len _ => iff (Nat.blt i len) (fN (Nat.add o (Nat.mul i te.sz)) fun o => k (.c (.p b o)) [] [] n))
  (fun _ => none)
  (fun len e => oc (E.tt.get e) fun te => ptrK v fun b o => iff (Nat.blt i len) (fN (Nat.add o (Nat.mul i te.sz)) fun o => k (.c (.p b o)) [] [] n)) (fun _ _ => none) none ti.d
def opIndex (ty : TypeId) (x ix : Operand) : O α := fun E m t lc _ n k => opd m t lc x fun v => opd m t lc ix fun w => natK w fun i => oc (E.tt.get ty) fun ti => Ds.rec (fun _ => none)
  (strK v fun s => nthK s i fun c => k (.c (.i .u8 (.ofNat c))) [] [] n) (fun _ => none) (fun _ => none)
  (fun len e => oc (E.tt.get e) fun te => V.rec (fun _ => none) (fun cs => iff (Nat.blt i len) (dropK (Nat.mul i te.sz) cs fun l => takeK te.sz l fun l => mkV te.ag l fun v => k v [] [] n)) (fun _ => none) v) (fun _ _ => none) none ti.d
def optN (m : Nat) (t : Tr V) (lc : Ls) (x : Option Operand) (d : Nat) (K : Nat → Option α) : Option α := Option.rec (K d) (fun x => opd m t lc x fun v => natK v K) x
def takeN (n : Nat) : List Nat → (List Nat → Option α) → Option α :=
  Nat.rec (fun _ k => k []) (fun _ ih l k => List.rec none (fun v l _ => ih l fun r => k (v :: r)) l) n
def dropN (n : Nat) : List Nat → (List Nat → Option α) → Option α :=
  Nat.rec (fun l k => k l) (fun _ ih l k => List.rec none (fun _ l _ => ih l k) l) n
def opSlice (ty : TypeId) (x : Operand) (lo hi mx : Option Operand) : O α := fun E m t lc _ n k => Option.rec (opd m t lc x fun v => oc (E.tt.get ty) fun ti => Ds.rec (fun _ => none)
  (strK v fun s => lenN s fun L => optN m t lc hi L fun hi => optN m t lc lo 0 fun lo => iff (Nat.ble hi L) (iff (Nat.ble lo hi) (dropN lo s fun s => fN (Nat.sub hi lo) fun d => takeN d s fun s => k (.c (.s s)) [] [] n)))
  (fun e => oc (E.tt.get e) fun te => slK v (optN m t lc hi 0 fun hi => optN m t lc lo 0 fun lo => iff (Nat.beq hi 0) (iff (Nat.beq lo 0) (k (.c .sn) [] [] n)))
    (fun b o len cap => optN m t lc hi len fun hi => optN m t lc lo 0 fun lo => iff (Nat.ble hi cap) (iff (Nat.ble lo hi)
      (fN (Nat.sub hi lo) fun len' => fN (Nat.sub cap lo) fun cap' => fN (Nat.add o (Nat.mul lo te.sz)) fun o => k (.c (.sl b o len' cap')) [] [] n))))
  (fun _ => none) (fun _ _ => none) (fun _ _ => none) none ti.d) (fun _ => none) mx
def opMakeSlice (ty : TypeId) (l c : Operand) : O α := fun E m t lc _ n k => opd m t lc l fun v => natK v fun l => opd m t lc c fun v => natK v fun c => iff (Nat.ble l c) (iff (Nat.ble c 65536) (elemK E ty fun e sz by_ z => iff (Nat.ble by_ 65536)
  (repRows z c .e 0 fun r => k (.c (.sl n 0 l c)) [] [(n, .cells sz r c e true)] (Nat.succ n))))
def rows (c : Tr (List C)) (m : Nat) : Nat → (List (List C) → Option α) → Option α :=
  Nat.rec (fun _ K => K []) (fun _ ih i K => oc (c.get i) fun r => fN (Nat.succ i) fun i => ih i fun l => K (r :: l)) m
def bytesC (kd : IntKind) (l : List Nat) : (List (List C) → Option α) → Option α := List.rec (fun K => K []) (fun c _ ih K => ih fun r => K ([.i kd (.ofNat c)] :: r)) l
def srcK (h : H) (sz : Nat) (y : V) (d : Ds) (K : List (List C) → Nat → List Nat → Option α) : Option α := Ds.rec (fun _ => none)
  (strK y fun s => bytesC .u8 s fun l => lenN s fun n => iff (Nat.beq sz 1) (K l n []))
  (fun _ => slK y (K [] 0 []) (fun b o len _ => Nat.rec (K [] 0 []) (fun _ _ => oc (h.get b) fun ob => cellsK ob fun k c bl _ _ => iff (Nat.beq k sz) (iff (Nat.beq (Nat.mod o k) 0) (iff (Nat.ble (Nat.add (Nat.div o k) len) bl) (rows c len (Nat.div o k) fun l => K l len [b])))) len))
  (fun _ => none) (fun _ _ => none) (fun _ _ => none) none d
def opAppend (ty : TypeId) (x y : V) (d : Ds) (E : Env) (h : H) (n : Nat) (k : KO α) : Option α := elemK E ty fun e sz by_ _ => iff (Nat.ble by_ 65536) (srcK h sz y d fun l ml rs => iff (Nat.ble ml 65536) (slK x
  (Nat.rec (k (.c .sn) rs [] n) (fun _ _ => putRows l .e 0 fun c => k (.c (.sl n 0 ml ml)) rs [(n, .cells sz c ml e false)] (Nat.succ n)) ml)
  (fun b o len cap => fN (Nat.add len ml) fun need => oc (h.get b) fun ob => cellsK ob fun bk c bl be bx => iff (Nat.beq bk sz) (iff (Nat.ble need 65536) (Bool.rec
    (iff (Nat.beq o 0) (iff (Nat.beq cap bl) (iff (Nat.ble len bl) (putRows l c len fun c' => Bool.rec (k (.c (.sl n 0 need need)) (b :: rs) [(b, .dead), (n, .cells sz c' need e false)] (Nat.succ n)) (k (.c (.sl n 0 need need)) (b :: rs) [(n, .cells sz c' need e false)] (Nat.succ n)) bx))))
    (iff (Nat.beq (Nat.mod o bk) 0) (iff (Nat.ble (Nat.add (Nat.div o bk) need) bl) (fN (Nat.add (Nat.div o bk) len) fun q => putRows l c q fun c => k (.c (.sl b o need cap)) (b :: rs) [(b, .cells bk c bl be bx)] n))) (Nat.ble need cap))))))
def wrapK (k : IntKind) (n : Int) (K : Int → Option α) : Option α := Int.rec (fun m => fN m fun m => Bool.rec (fI (k.wrap (.ofNat m)) K) (K (.ofNat m)) (Nat.blt m 128)) (fun m => fI (k.wrap (.negSucc m)) K) n
def ltI (a b : Int) : Bool := Int.rec (fun a => Int.rec (fun b => Nat.blt a b) (fun _ => false) b) (fun a => Int.rec (fun _ => true) (fun b => Nat.blt b a) b) a
def eqI (a b : Int) : Bool := Int.rec (fun a => Int.rec (fun b => Nat.beq a b) (fun _ => false) b) (fun a => Int.rec (fun _ => false) (fun b => Nat.beq a b) b) a
def intOp (o : BinOp) : IntKind → Int → Int → (C → Option α) → Option α := match o with
  | .add => fun k a b K => wrapK k (Int.add a b) fun n => K (.i k n)
  | .sub => fun k a b K => wrapK k (Int.sub a b) fun n => K (.i k n)
  | .mul => fun k a b K => wrapK k (Int.mul a b) fun n => K (.i k n)
  | .quo => fun k a b K => Bool.rec (wrapK k (Int.tdiv a b) fun n => K (.i k n)) none (eqI b 0)
  | .rem => fun k a b K => Bool.rec (fI (Int.tmod a b) fun n => K (.i k n)) none (eqI b 0)
  | .lss => fun _ a b K => fB (ltI a b) fun b => K (.b b)
  | .leq => fun _ a b K => fB (ltI b a) fun b => K (.b (!b))
  | .gtr => fun _ a b K => fB (ltI b a) fun b => K (.b b)
  | .geq => fun _ a b K => fB (ltI a b) fun b => K (.b (!b))
  | .eql => fun _ a b K => fB (eqI a b) fun b => K (.b b)
  | .neq => fun _ a b K => fB (eqI a b) fun b => K (.b (!b))
  | _ => fun _ _ _ _ => none
def beqL (a : List Nat) : List Nat → Bool := List.rec (fun b => List.rec true (fun _ _ _ => false) b) (fun x _ ih b => List.rec false (fun y b _ => Bool.rec false (ih b) (Nat.beq x y)) b) a
def appN (a b : List Nat) : (List Nat → Option α) → Option α := List.rec (fun k => k b) (fun x _ ih k => ih fun r => k (x :: r)) a
def strOp (o : BinOp) : List Nat → List Nat → (C → Option α) → Option α := match o with
  | .add => fun a b K => lenN a fun la => lenN b fun lb => iff (Nat.ble (Nat.add la lb) 65536) (appN a b fun l => K (.s l))
  | .eql => fun a b K => fB (beqL a b) fun b => K (.b b)
  | .neq => fun a b K => fB (beqL a b) fun b => K (.b (!b))
  | _ => fun _ _ _ => none
def boolOp (o : BinOp) (b : Bool) (K : C → Option α) : Option α := match o with
  | .eql => K (.b b)
  | .neq => K (.b (!b))
  | _ => none
def isSl (x : C) (k : Bool → Option α) : Option α := C.rec (fun _ => none) (fun _ _ => none) (fun _ => none) none (fun _ _ => none) (k true) (fun _ _ _ _ => k false) none (fun _ => none) none (fun _ _ _ => none) x
def isNilC (x : C) (k : Option α) : Option α := C.rec (fun _ => none) (fun _ _ => none) (fun _ => none) none (fun _ _ => none) k (fun _ _ _ _ => none) none (fun _ => none) none (fun _ _ _ => none) x
def binC (E : Env) (ty : TypeId) (o : BinOp) (x y : C) (K : C → Option α) : Option α := C.rec
  (fun _ => none)
  (fun k a => intK (.c y) fun k' b => iff (decide (k = k')) (intOp o k a b K))
  (fun a => strK (.c y) fun b => strOp o a b K)
  none (fun _ _ => none) (oc (E.tt.get ty) fun ti => sliceE ti.d fun _ => isSl y fun q => boolOp o q K) (fun _ _ _ _ => oc (E.tt.get ty) fun ti => sliceE ti.d fun _ => isNilC y (boolOp o false K)) none (fun _ => none) none (fun _ _ _ => none) x
def opBin (o : BinOp) (ty : TypeId) (x y : Operand) (_ : TypeId) : O α := fun E m t lc _ n k => opd m t lc x fun a => opd m t lc y fun b => cK a fun a => cK b fun b => binC E ty o a b fun v => k (.c v) [] [] n
def opUn (o : UnOp) (_ : TypeId) (x : Operand) : O α := fun _ m t lc _ n k => opd m t lc x fun a => match o with
  | .not => boolK a fun b => k (.c (.b (!b))) [] [] n
  | .neg => intK a fun kd i => wrapK kd (Int.sub 0 i) fun i => k (.c (.i kd i)) [] [] n
  | _ => none
def opNext (x : Operand) (st : Bool) : O α := fun _ m t lc h n k => iff st (opd m t lc x fun v => ptrK v fun r o => iff (Nat.beq o 0) (oc (h.get r) fun ob => AO.rec (fun _ _ _ _ _ => none) (fun s p => List.rec (k (.t [.c (.b false)]) [r] [] n)
   (fun c s' _ => iff (Nat.blt c 128) (fN (Nat.succ p) fun p' => k (.t [.c (.b true), .c (.i .i64 (.ofNat p)), .c (.i .i32 (.ofNat c))]) [r] [(r, .iter s' p')] n)) s) (fun _ => none) none ob))
def ints (kd : IntKind) (l : List (List C)) : (List Nat → Option α) → Option α := List.rec (fun K => K []) (fun r _ ih K => List.rec none (fun v _ _ => intK (.c v) fun k i => iff (decide (k = kd)) (Int.rec (fun n => iff (Nat.blt n 128) (ih fun l => K (n :: l))) (fun _ => none) i)) r) l
def kindK (d : Ds) (u i : Option α) : Option α := Ds.rec (fun k => IntKind.rec none none i none u none none none k) none (fun _ => none) (fun _ => none) (fun _ _ => none) (fun _ _ => none) none d
def isStr (d : Ds) (k : Option α) : Option α := Ds.rec (fun _ => none) k (fun _ => none) (fun _ => none) (fun _ _ => none) (fun _ _ => none) none d
def ascii (l : List Nat) : Bool := List.rec true (fun a _ ih => Bool.rec false ih (Nat.blt a 128)) l
def opConv (src dst : TypeId) (x : Operand) : O α := fun E m t lc h n k => opd m t lc x fun v => oc (E.tt.get src) fun ts => oc (E.tt.get dst) fun td => cK v fun x => Ds.rec
   (fun kd => intK v fun _ i => wrapK kd i fun i => k (.c (.i kd i)) [] [] n)
   (C.rec (fun _ => none) (fun _ _i => natK v fun c => iff (Nat.blt c 128) (k (.c (.s [c])) [] [] n)) (fun s => k (.c (.s s)) [] [] n) none (fun _ _ => none)
     (elemK E src fun e _ _ _ => oc (E.tt.get e) fun te => kindK te.d (k (.c (.s [])) [] [] n) (k (.c (.s [])) [] [] n))
     (fun b o len _ => elemK E src fun e _ _ _ => oc (E.tt.get e) fun te => Nat.rec (kindK te.d (k (.c (.s [])) [] [] n) (k (.c (.s [])) [] [] n)) (fun _ _ => oc (h.get b) fun ob => cellsK ob fun kk c bl _ _ => iff (Nat.beq kk 1) (iff (Nat.ble (Nat.add o len) bl) (rows c len o fun l =>
        kindK te.d (ints .u8 l fun l => k (.c (.s l)) [b] [] n) (ints .i32 l fun l => k (.c (.s l)) [b] [] n)))) len) none (fun _ => none) none (fun _ _ _ => none) x)
   (fun e => isStr ts.d (oc (E.tt.get e) fun te => strK v fun s => lenN s fun L => iff (Nat.ble L 65536) (kindK te.d
      (bytesC .u8 s fun l => putRows l .e 0 fun c => k (.c (.sl n 0 L L)) [] [(n, .cells 1 c L e false)] (Nat.succ n))
      (iff (ascii s) (bytesC .i32 s fun l => putRows l .e 0 fun c => k (.c (.sl n 0 L L)) [] [(n, .cells 1 c L e false)] (Nat.succ n))))))
   (fun _ => none) (fun _ _ => none) (fun _ _ => none) none td.d
def mget (l : List (List Nat × C)) (q : List Nat) : Option C := List.rec none (fun p _ ih => Prod.rec (fun k v => Bool.rec ih (some v) (beqL k q)) p) l
def mput (l : List (List Nat × C)) (q : List Nat) (v : C) : List (List Nat × C) := List.rec [(q, v)] (fun p r ih => Prod.rec (fun k u => Bool.rec ((k, u) :: ih) ((k, v) :: r) (beqL k q)) p) l
def strKey (E : Env) (ty : TypeId) (K : TypeId → Option α) : Option α := oc (E.tt.get ty) fun ti => Ds.rec (fun _ => none) none (fun _ => none) (fun _ => none) (fun _ _ => none) (fun kt vt => oc (E.tt.get kt) fun tk => Ds.rec (fun _ => none) (K vt) (fun _ => none) (fun _ => none) (fun _ _ => none) (fun _ _ => none) none tk.d) none ti.d
def mapB (o : AO) (K : List (List Nat × C) → Option α) : Option α := AO.rec (fun _ _ _ _ _ => none) (fun _ _ => none) K none o
def opLookup (ty : TypeId) (x y : Operand) (ok : Bool) : O α := fun E m t lc h n K => opd m t lc x fun v => opd m t lc y fun k => mapK v fun r => strK k fun q => oc (h.get r) fun o => mapB o fun es => strKey E ty fun vt => oc (E.tt.get vt) fun te => Bool.rec (Bool.rec
   (Option.rec (List.rec none (fun z _ _ => K (.c z) [r] [] n) te.z) (fun v => K (.c v) [r] [] n) (mget es q)) none te.ag) none ok
def opMapUpd (ty : TypeId) (x y z : Operand) : O α := fun E m t lc h n K => opd m t lc x fun v => opd m t lc y fun k => opd m t lc z fun u => mapK v fun r => strK k fun q => cK u fun u => oc (h.get r) fun o => mapB o fun es => strKey E ty fun _ => K unit [r] [(r, .map (mput es q u))] n
def opMakeMap (_ : TypeId) (r : Option Operand) : O α := fun _ _ _ _ _ n k => Option.rec (k (.c (.m n)) [] [(n, .map [])] (Nat.succ n)) (fun _ => none) r
def opRange (ty : TypeId) (x : Operand) : O α := fun E m t lc _ n k => opd m t lc x fun v => oc (E.tt.get ty) fun ti => Ds.rec (fun _ => none) (strK v fun s => k (.c (.p n 0)) [] [(n, .iter s 0)] (Nat.succ n)) (fun _ => none) (fun _ => none) (fun _ _ => none) (fun _ _ => none) none ti.d
def opExtract (x : Operand) (i : Nat) : O α := fun _ m t lc _ n k => opd m t lc x fun v => tupK v fun l => nthK l i fun u => U.rec (fun x => k (.c x) [] [] n) (fun l => k (.a l) [] [] n) u
def ptrs (l : List V) : (List (Nat × Nat) → Option α) → Option α := List.rec (fun k => k []) (fun v _ ih k => ptrK v fun b o => ih fun r => k ((b, o) :: r)) l
def opMakeFunc (f : Fn) (fs cs : Array Operand) : O α := fun _ m t lc _ n k => opdL m t lc fs.toList fun a => ptrs a fun a => opdL m t lc cs.toList fun b => ptrs b fun b => match f with | .func f => k (.c (.fn f a b)) [] [] n | _ => none
def builtinK (b : Builtin) (ats : List TypeId) (l : List V) : Env → H → Nat → KO α → Option α := match b with
  | .len => fun E _ n k => List.rec none (fun v l _ => List.rec (List.rec none (fun t _ _ => oc (E.tt.get t) fun ti => Ds.rec (fun _ => none) (strK v fun s => lenN s fun L => k (.c (.i .i64 (.ofNat L))) [] [] n)
      (fun _ => slK v (k (.c (.i .i64 (.ofNat 0))) [] [] n) (fun _ _ L _ => k (.c (.i .i64 (.ofNat L))) [] [] n)) (fun _ => none) (fun _ _ => none) (fun _ _ => none) none ti.d) ats) (fun _ _ _ => none) l) l
  | .append => fun E h n k => List.rec none (fun x l _ => List.rec none (fun y l _ => List.rec (List.rec none (fun t r _ => List.rec none (fun u r _ => List.rec (oc (E.tt.get u) fun tj => opAppend t x y tj.d E h n k) (fun _ _ _ => none) r) r) ats) (fun _ _ _ => none) l) l) l
  | _ => fun _ _ _ _ => none
def no1 {γ : Type} (_ : γ) : O α := fun _ _ _ _ _ _ _ => none
def no2 {γ δ : Type} (_ : γ) (_ : δ) : O α := fun _ _ _ _ _ _ _ => none
def no3 {γ δ ε : Type} (_ : γ) (_ : δ) (_ : ε) : O α := fun _ _ _ _ _ _ _ => none
def no4 {γ δ ε ζ : Type} (_ : γ) (_ : δ) (_ : ε) (_ : ζ) : O α := fun _ _ _ _ _ _ _ => none
def opBuiltin (c : Call) : O α := fun E m t lc h n k => Call.rec (fun callee ars ats => Callee.rec (fun _ => none) (fun _ _ => none) (fun b => opdL m t lc ars.toList fun av => builtinK b ats.toList av E h n k) callee) c
def simple (o : Op) : O α :=
  Op.rec opMove opMove opPick opAlloc opBox opBuild opBuildSlice opMapUpd opLoad opStore no1 no1 opNil opBin opUn opConv no2 no2 opMakeFunc opMakeMap no2 opMakeSlice opSlice opFieldAddr opField opIndexAddr opIndex opLookup opMapUpd no3 no4 opRange opNext no1 no4 opExtract opBuiltin no1 no1 no1 no2 no3 no2 o
def ptrVs (l : List (Nat × Nat)) (r : List V) : (List V → Option α) → Option α := List.rec (fun k => k r) (fun p _ ih k => ih fun r => Prod.rec (fun b o => k (.c (.p b o) :: r)) p) l
def appV (a b : List V) : (List V → Option α) → Option α := List.rec (fun k => k b) (fun x _ ih k => ih fun r => k (x :: r)) a
def calleeK (m : Nat) (t : Tr V) (lc : Ls) (x : Operand) (ars : Array Operand) (k : Nat → List V → Option α) : Option α :=
  opdL m t lc ars.toList fun av => opd m t lc x fun fv => fnK fv fun g fs cs => ptrVs cs [] fun cv => appV av cv fun l => ptrVs fs l fun l => k g l
abbrev CallT (α : Type) := Nat → Nat → List V → H → Nat → (V → H → Nat → Option α) → Option α
def keep (m d : Nat) (v : V) (t : Tr V) (lc : Ls) (k : Tr V → Ls → Option α) : Option α := Bool.rec (k t ((d, v) :: lc)) (Tr.putK v t d fun t => k t lc) (kept m d)
def putO (m : Nat) (d : Option Tmp) (v : V) (t : Tr V) (lc : Ls) (k : Tr V → Ls → Option α) : Option α := Option.rec (k t lc) (fun d => keep m d v t lc k) d
def guardC (w : Bool) (x : C) (K : Bool → Option α) : Option α := C.rec (fun b => Bool.rec (Bool.rec (K true) (K false) b) (K b) w) (fun _ _ => K false) (fun _ => K false) (K false) (fun _ _ => K false) (K false) (fun _ _ _ _ => K false) (K false) (fun _ => K false) (K false) (fun _ _ _ => K false) x
def wants (m : Nat) (t : Tr V) (lc : Ls) (ops : List Oper) (g : Option (Nat × Bool)) (K : Bool → Option α) : Option α :=
  Option.rec (K true) (fun p => Prod.rec (fun j w => nthK ops j fun o => oc o.dst fun d => oc (opT m t lc d) fun v => V.rec (fun x => guardC w x K) (fun _ => K false) (fun _ => K false) v) p) g
def puts (lim : Nat) (us : List (Nat × AO)) : H → (H → Option α) → Option α := List.rec (fun h k => k h) (fun p _ ih h k => Prod.rec (fun b o => iff (Nat.ble lim b) (Tr.putK o h b fun h => ih h k)) p) us
def isCall (o : Op) (k : Operand → Array Operand → Option α) (z : Option α) : Option α :=
  Op.rec (fun _ => z) (fun _ => z) (fun _ _ _ => z) (fun _ => z) (fun _ _ => z) (fun _ _ => z) (fun _ _ _ => z) (fun _ _ _ _ => z) (fun _ _ => z) (fun _ _ _ => z) (fun _ => z) (fun _ => z) (fun _ => z) (fun _ _ _ _ _ => z) (fun _ _ _ => z) (fun _ _ _ => z) (fun _ _ => z) (fun _ _ => z) (fun _ _ _ => z) (fun _ _ => z) (fun _ _ => z) (fun _ _ _ => z) (fun _ _ _ _ _ => z) (fun _ _ _ => z) (fun _ _ _ => z) (fun _ _ _ => z) (fun _ _ _ => z) (fun _ _ _ _ => z) (fun _ _ _ _ => z) (fun _ _ _ => z) (fun _ _ _ _ => z) (fun _ _ => z) (fun _ _ => z) (fun _ => z) (fun _ _ _ _ => z) (fun _ _ => z)
    (fun c => Call.rec (fun callee ars _ => Callee.rec (fun f => k f ars) (fun _ _ => z) (fun _ => z) callee) c) (fun _ => z) (fun _ => z) (fun _ => z) (fun _ _ => z) (fun _ _ _ => z) (fun _ _ => z) o
def runOps (call : CallT α) (E : Env) (m lim : Nat) (all l : List Oper) : Tr V → Ls → H → Nat → (Tr V → H → Nat → Option α) → Option α :=
  List.rec (fun t _ h n k => k t h n) (fun o _ ih t lc h n k => Oper.rec (fun dst op _ _ _ g => wants m t lc all g fun b => Bool.rec
    (putO m dst unit t lc fun t lc => ih t lc h n k)
    (isCall op (fun x ars => calleeK m t lc x ars fun g av => call lim g av h n fun v h n => putO m dst v t lc fun t lc => ih t lc h n k)
      (simple op E m t lc h n fun v _ us n => puts lim us h fun h => putO m dst v t lc fun t lc => ih t lc h n k)) b) o) l
/-- What an operation that came up read, what it wrote; a call: the names from lo on are new; x: it may have written what was there. -/
inductive Fp where
  | s (rs ws : List Nat)
  | c (lo : Nat) (x : Bool)
def memN (l : List Nat) (a : Nat) : Bool := List.rec false (fun b _ ih => Bool.rec ih true (Nat.beq a b)) l
def disj (l r : List Nat) : Bool := List.rec true (fun a _ ih => Bool.rec ih false (memN r a)) l
def allGe (n : Nat) (l : List Nat) : Bool := List.rec true (fun a _ ih => Bool.rec false ih (Nat.ble n a)) l
def allLt (n : Nat) (l : List Nat) : Bool := List.rec true (fun a _ ih => Bool.rec false ih (Nat.blt a n)) l
def fpOk (rs ws : List Nat) (n : Nat) (fp : Fp) : Bool := Fp.rec (fun rs' ws' => Bool.rec false (Bool.rec false (disj ws rs') (disj ws' ws)) (disj ws' rs)) (fun lo x => Bool.rec (Bool.rec false (allLt lo rs) (allGe n ws)) false x) fp
abbrev Past := List (Nat × Fp)
def apartK (mk : Nat) (rs ws : List Nat) (n : Nat) (past : Past) (k : Option α) : Option α :=
  List.rec k (fun p _ ih => Prod.rec (fun j fp => Bool.rec (iff (fpOk rs ws n fp) ih) ih (kept mk j)) p) past
def noWs (fp : Fp) : Bool := Fp.rec (fun _ ws => List.rec true (fun _ _ _ => false) ws) (fun _ _ => false) fp
def callK (mk : Nat) (x : Bool) (past : Past) (k : Option α) : Option α :=
  List.rec k (fun p _ ih => Prod.rec (fun j fp => Bool.rec (Bool.rec (iff (noWs fp) ih) none x) ih (kept mk j)) p) past
def unames (us : List (Nat × AO)) (k : List Nat → Option α) : Option α := List.rec (fun k => k []) (fun p _ ih k => Prod.rec (fun b _ => ih fun r => k (b :: r)) p) us k
abbrev Pend := List (Nat × Nat × AO)
def laid (mk : Nat) (pend : Pend) : H → Pend → Past → (H → Pend → Past → Option α) → Option α :=
  List.rec (fun h r q k => k h r q) (fun p _ ih h r q k => Prod.rec (fun j u => Bool.rec (ih h (p :: r) q k) (Prod.rec (fun b o => Tr.putK o h b fun h => ih h r ((j, .s [] [b]) :: q) k) u) (kept mk j)) p) pend
def ends (pend : Pend) : H → (H → Option α) → Option α := List.rec (fun h k => k h) (fun p _ ih h k => Prod.rec (fun _ q => Prod.rec (fun b o => Tr.putK o h b fun h => ih h k) q) p) pend
def syOk (sy : Bool) (pend : Pend) (k : Option α) : Option α := Bool.rec k (List.rec k (fun _ _ _ => none) pend) sy
def sort (rs : List Nat) (us : List (Nat × AO)) (n : Nat) (z : Option α) (a : Nat → AO → Option α) (k : Option α) : Option α :=
  List.rec (List.rec z (fun p r _ => List.rec (Prod.rec (fun b o => Bool.rec k (a b o) (Nat.beq b n)) p) (fun _ _ _ => k) r) us) (fun _ _ _ => k) rs
abbrev KD (α : Type) := Tr V → H → Nat → Option α
def runDrawn (call : CallT α) (E : Env) (m lim : Nat) (all l : List Oper) : List (Nat × Bool) → Nat → Past → Pend → Tr V → Ls → H → Nat → KD α → Option α :=
  List.rec (fun _ _ _ pend t _ h n k => ends pend h fun h => k t h n) (fun o _ ih ms i past pend t lc h n k => List.rec none (fun mb ms _ => Prod.rec (fun mk sy => fN (Nat.succ i) fun i' => Oper.rec (fun dst op _ _ _ g => wants m t lc all g fun b => Bool.rec
    (putO m dst unit t lc fun t lc => ih ms i' past pend t lc h n k)
    (laid mk pend h [] past fun h pend past => isCall op
      (fun x ars => calleeK m t lc x ars fun g av => callK mk sy past (syOk sy pend (iff (Nat.ble lim n) (call (Bool.rec n lim sy) g av h n fun v h n' => putO m dst v t lc fun t lc => ih ms i' ((i, .c n sy) :: past) pend t lc h n' k))))
      (simple op E m t lc h n fun v rs us n' => sort rs us n
        (putO m dst v t lc fun t lc => ih ms i' past pend t lc h n' k)
        (fun b o => iff (Nat.ble lim b) (putO m dst v t lc fun t lc => ih ms i' past ((i, b, o) :: pend) t lc h n' k))
        (unames us fun ws => apartK mk rs ws n past (puts lim us h fun h => putO m dst v t lc fun t lc => ih ms i' ((i, .s rs ws) :: past) pend t lc h n' k)))) b) o) mb) ms) l
def resK (E : Env) (t : Tr V) (h : H) (r : ResultVar) : (V → Option α) → Option α := ResultVar.rec (fun x k => oc (t.get x) k) (fun a ty k => oc (t.get a) fun v => ptrK v fun b o => oc (E.tt.get ty) fun ti => oc (h.get b) fun ob => cellsK ob fun kk c len _ _ => rdC kk c len o ti.sz fun l => mkV ti.ag l k) r
def resL (E : Env) (t : Tr V) (h : H) (l : List ResultVar) : (List V → Option α) → Option α := List.rec (fun k => k []) (fun r _ ih k => resK E t h r fun v => ih fun vs => k (v :: vs)) l
def toU (l : List V) : (List U → Option α) → Option α := List.rec (fun k => k []) (fun v _ ih k => V.rec (fun x => ih fun r => k (.c x :: r)) (fun x => ih fun r => k (.a x :: r)) (fun _ => none) v) l
def ended (E : Env) (l : List ResultVar) (t : Tr V) (h : H) (n : Nat) (k : V → H → Nat → Option α) : Option α := resL E t h l fun vs => List.rec (k (.t []) h n) (fun v r _ => List.rec (k v h n) (fun _ _ _ => toU vs fun us => k (.t us) h n) r) vs
def layArgs (l : List V) : Tr V → Nat → (Tr V → Option α) → Option α := List.rec (fun t _ k => k t) (fun v _ ih t i k => Tr.putK v t i fun t => fN (Nat.succ i) fun i => ih t i k) l
abbrev KX (α : Type) := Ex → Tr V → H → Nat → Option α
abbrev X (α : Type) := Env → FI → Nat → Tr V → H → Nat → KX α → Option α
def eqNs (a : List Nat) : List Nat → Bool := List.rec (fun b => List.rec true (fun _ _ _ => false) b) (fun x _ ih b => List.rec false (fun y b _ => Bool.rec false (ih b) (Nat.beq x y)) b) a
def isS (s : List Nat) (v : V) : Bool := V.rec (fun x => C.rec (fun _ => false) (fun _ _ => false) (fun l => eqNs s l) false (fun _ _ => false) false (fun _ _ _ _ => false) false (fun _ => false) false (fun _ _ _ => false) x) (fun _ => false) (fun _ => false) v
def avB (ss : List (List Nat)) : List V → Bool := List.rec (fun av => List.rec true (fun _ _ _ => false) av) (fun s _ ih av => List.rec false (fun v av _ => Bool.rec false (ih av) (isS s v)) av) ss
def memoK (mm : List (Nat × List (List Nat) × C)) (f : Nat) (av : List V) (K : C → Option α) (z : Option α) : Option α := List.rec z (fun p _ ih => Prod.rec (fun g q => Bool.rec ih (Prod.rec (fun ss c => Bool.rec ih (K c) (avB ss av)) q) (Nat.beq g f)) p) mm
def callBy (run : Code → X α) (E : Env) : CallT α := fun lim f av h n k => memoK E.mm f av (fun c => k (.c c) h n) <| oc (E.ft.get f) fun fi => oc fi.fn.body fun b => lenN av fun L => iff (Nat.ble L fi.fn.ntmps) (layArgs av .e 0 fun t => run b E fi lim t h n fun ex t h n => Ex.rec (ended E fi.fn.results.toList t h n k) (fun _ => none) (fun _ => none) (ended E fi.fn.results.toList t h n k) ex)
def xSkip : X α := fun _ _ _ t h n k => k .normal t h n
def xRegion (run : Code → X α) (id : Nat) (ops : Array Oper) (d : Bool) : X α := fun E fi lim t h n k => Bool.rec
  (runOps (callBy run E) E fi.mask lim ops.toList ops.toList t [] h n fun t h n => k .normal t h n)
  (oc (fi.dm.get id) fun ms => runDrawn (callBy run E) E fi.mask lim ops.toList ops.toList ms 0 [] [] t [] h n fun t h n => k .normal t h n) d
def xSeq (run : Code → X α) (a b : Code) : X α := fun E fi lim t h n k => run a E fi lim t h n fun ex t h n => Ex.rec (run b E fi lim t h n k) (fun i => k (.exit i) t h n) (fun l => k (.goto l) t h n) (k .ret t h n) ex
def xCond (run : Code → X α) (c : Operand) (x y : Code) : X α := fun E fi lim t h n k => opd fi.mask t [] c fun v => boolK v fun q => Bool.rec (run y E fi lim t h n k) (run x E fi lim t h n k) q
def xBlock (run : Code → X α) (id : Nat) (b : Code) : X α := fun E fi lim t h n k => run b E fi lim t h n fun ex t h n => Ex.rec (k .normal t h n) (fun i => Bool.rec (k (.exit i) t h n) (k .normal t h n) (Nat.beq i id)) (fun l => k (.goto l) t h n) (k .ret t h n) ex
def xLoop (run : Code → X α) (b : Code) : X α := fun E fi lim t h n k => run b E fi lim t h n fun ex t h n => Ex.rec (run (.loop b) E fi lim t h n k) (fun i => k (.exit i) t h n) (fun l => k (.goto l) t h n) (k .ret t h n) ex
def xNo4 {γ δ ε ζ : Type} (_ : γ) (_ : δ) (_ : ε) (_ : ζ) : X α := fun _ _ _ _ _ _ _ => none
def xExit (i : Nat) : X α := fun _ _ _ t h n k => k (.exit i) t h n
def xScope (run : Code → X α) (b : Code) : X α := fun E fi lim t h n k => run b E fi lim t h n fun ex t h n => Ex.rec (k .normal t h n) (fun i => k (.exit i) t h n) (fun _ => none) (k .ret t h n) ex
def xLabel (_ : Nat) : X α := xSkip
def xGoto (l : Nat) : X α := fun _ _ _ t h n k => k (.goto l) t h n
def xRet : X α := fun _ _ _ t h n k => k .ret t h n
def xNo1 {γ : Type} (_ : γ) : X α := fun _ _ _ _ _ _ _ => none
def exec (n : Nat) : Code → X α := Nat.rec (fun _ _ _ _ _ _ _ _ => none) (fun _ ih c => Code.rec xSkip (xRegion ih) (fun a b _ _ => xSeq ih a b) (fun c x y _ _ => xCond ih c x y) (fun i b _ => xBlock ih i b) (fun b _ => xLoop ih b) (fun a b c d _ _ => xNo4 a b c d) xExit (fun b _ => xScope ih b) xLabel xGoto xRet xNo1 c) n
def run (n : Nat) (E : Env) : CallT α := callBy (exec n) E
end
end Go.D
namespace Go.D
set_option linter.unusedVariables false
set_option linter.unusedSimpArgs false
open Go.RowKit Go.Sl
section
variable {α β γ : Type}
theorem nn {r : α} {p : Prop} (h : (none : Option α) = some r) : p := by cases h
theorem Tr.get_e (k : Nat) : (Tr.e : Tr γ).get k = none := rfl
theorem Tr.get_0 (v : Option γ) (l r : Tr γ) : (Tr.n v l r).get 0 = v := rfl
theorem Tr.get_s (v : Option γ) (l r : Tr γ) (k : Nat) : (Tr.n v l r).get (k + 1) = if k % 2 = 0 then l.get (k / 2) else r.get (k / 2) := by
  show (Bool.rec (r.get (k / 2)) (l.get (k / 2)) (Nat.beq (k % 2) 0) : Option γ) = _
  split
  · rename_i h; rw [h]; rfl
  · rename_i h
    cases e : Nat.beq (k % 2) 0 with
    | true => exact absurd (Nat.eq_of_beq_eq_true e) h
    | false => rfl
theorem Tr.putF_inv (x : γ) : ∀ (f : Nat) (t : Tr γ) (k : Nat) (c : Tr γ → Option α) (r : α), Tr.putF x f t k c = some r → ∃ t', (∀ j, t'.get j = if j = k then some x else t.get j) ∧ c t' = some r
  | 0, t, k, c, r, h => nn h
  | f + 1, t, k, c, r, h => by
    cases t with
    | e => cases k with
      | zero => exact ⟨_, fun j => by cases j <;> simp [Tr.get_0, Tr.get_s, Tr.get_e], h⟩
      | succ k =>
        have h' : (Bool.rec (Tr.putF x f .e (k / 2) fun u => c (.n none .e u)) (Tr.putF x f .e (k / 2) fun u => c (.n none u .e)) (Nat.beq (k % 2) 0) : Option α) = some r := h
        cases e : Nat.beq (k % 2) 0 with
        | true =>
          rw [e] at h'
          have e := Nat.eq_of_beq_eq_true e
          obtain ⟨t', h1, h2⟩ := Tr.putF_inv x f _ _ _ _ h'
          refine ⟨_, fun j => ?_, h2⟩
          cases j with
          | zero => simp [Tr.get_0, Tr.get_e]
          | succ j =>
            rw [Tr.get_s, Tr.get_e]
            by_cases hj : j % 2 = 0
            · rw [if_pos hj, h1, Tr.get_e]
              have : (j / 2 = k / 2) ↔ j + 1 = k + 1 := by omega
              simp [this, Tr.get_e]
            · rw [if_neg hj, Tr.get_e, if_neg (by omega)]
        | false =>
          rw [e] at h'
          have e : k % 2 ≠ 0 := fun q => by rw [q] at e; simp at e
          obtain ⟨t', h1, h2⟩ := Tr.putF_inv x f _ _ _ _ h'
          refine ⟨_, fun j => ?_, h2⟩
          cases j with
          | zero => simp [Tr.get_0, Tr.get_e]
          | succ j =>
            rw [Tr.get_s, Tr.get_e]
            by_cases hj : j % 2 = 0
            · rw [if_pos hj, Tr.get_e, if_neg (by omega)]
            · rw [if_neg hj, h1, Tr.get_e]
              have : (j / 2 = k / 2) ↔ j + 1 = k + 1 := by omega
              simp [this, Tr.get_e]
    | n v l rr => cases k with
      | zero => exact ⟨_, fun j => by cases j <;> simp [Tr.get_0, Tr.get_s], h⟩
      | succ k =>
        have h' : (Bool.rec (Tr.putF x f rr (k / 2) fun u => c (.n v l u)) (Tr.putF x f l (k / 2) fun u => c (.n v u rr)) (Nat.beq (k % 2) 0) : Option α) = some r := h
        cases e : Nat.beq (k % 2) 0 with
        | true =>
          rw [e] at h'
          have e := Nat.eq_of_beq_eq_true e
          obtain ⟨t', h1, h2⟩ := Tr.putF_inv x f _ _ _ _ h'
          refine ⟨_, fun j => ?_, h2⟩
          cases j with
          | zero => simp [Tr.get_0]
          | succ j =>
            rw [Tr.get_s, Tr.get_s]
            by_cases hj : j % 2 = 0
            · rw [if_pos hj, if_pos hj, h1]
              have : (j / 2 = k / 2) ↔ j + 1 = k + 1 := by omega
              simp [this]
            · rw [if_neg hj, if_neg hj, if_neg (by omega)]
        | false =>
          rw [e] at h'
          have e : k % 2 ≠ 0 := fun q => by rw [q] at e; simp at e
          obtain ⟨t', h1, h2⟩ := Tr.putF_inv x f _ _ _ _ h'
          refine ⟨_, fun j => ?_, h2⟩
          cases j with
          | zero => simp [Tr.get_0]
          | succ j =>
            rw [Tr.get_s, Tr.get_s]
            by_cases hj : j % 2 = 0
            · rw [if_pos hj, if_pos hj, if_neg (by omega)]
            · rw [if_neg hj, if_neg hj, h1]
              have : (j / 2 = k / 2) ↔ j + 1 = k + 1 := by omega
              simp [this]
theorem Tr.putK_inv {x : γ} {t : Tr γ} {k : Nat} {c : Tr γ → Option α} {r : α} (h : Tr.putK x t k c = some r) : ∃ t', (∀ j, t'.get j = if j = k then some x else t.get j) ∧ c t' = some r := Tr.putF_inv x _ _ _ _ _ h
theorem oc_inv {x : Option β} {k : β → Option α} {r : α} (h : oc x k = some r) : ∃ y, x = some y ∧ k y = some r := by
  cases x with
  | none => exact nn h
  | some y => exact ⟨y, rfl, h⟩
theorem fN_eq (n : Nat) (k : Nat → Option α) : fN n k = k n := by cases n <;> rfl
theorem fI_eq (n : Int) (k : Int → Option α) : fI n k = k n := by cases n <;> simp [fI, fN_eq]
theorem fB_eq (b : Bool) (k : Bool → Option α) : fB b k = k b := by cases b <;> rfl
theorem iff_inv {b : Bool} {k : Option α} {r : α} (h : iff b k = some r) : b = true ∧ k = some r := by
  cases b with
  | false => exact nn h
  | true => exact ⟨rfl, h⟩
theorem ble_iff {m n : Nat} (h : Nat.ble m n = true) : m ≤ n := Nat.le_of_ble_eq_true h
theorem ble_not {m n : Nat} (h : Nat.ble m n = false) : n < m := by
  rcases Nat.lt_or_ge n m with hl | hl
  · exact hl
  · rw [Nat.ble_eq_true_of_le hl] at h; exact absurd h (by simp)
theorem blt_iff {m n : Nat} (h : Nat.blt m n = true) : m < n := Nat.le_of_ble_eq_true h
theorem beq_iff' {m n : Nat} (h : Nat.beq m n = true) : m = n := Nat.eq_of_beq_eq_true h
theorem beq_not {m n : Nat} (h : Nat.beq m n = false) : m ≠ n := fun e => by rw [e, Nat.beq_refl] at h; exact absurd h (by simp)
theorem cK_inv {v : V} {k : C → Option α} {r : α} (h : cK v k = some r) : ∃ x, v = .c x ∧ k x = some r := by
  cases v <;> first | exact ⟨_, rfl, h⟩ | exact nn h
theorem ptrK_inv {v : V} {k : Nat → Nat → Option α} {r : α} (h : ptrK v k = some r) : ∃ b o, v = .c (.p b o) ∧ k b o = some r := by
  obtain ⟨x, rfl, h⟩ := cK_inv h
  cases x <;> first | exact ⟨_, _, rfl, h⟩ | exact nn h
theorem intK_inv {v : V} {k : IntKind → Int → Option α} {r : α} (h : intK v k = some r) : ∃ kd n, v = .c (.i kd n) ∧ k kd n = some r := by
  obtain ⟨x, rfl, h⟩ := cK_inv h
  cases x <;> first | exact ⟨_, _, rfl, h⟩ | exact nn h
theorem natK_inv {v : V} {k : Nat → Option α} {r : α} (h : natK v k = some r) : ∃ (kd : IntKind) (n : Nat), v = .c (.i kd (n : Int)) ∧ k n = some r := by
  obtain ⟨kd, n, rfl, h⟩ := intK_inv h
  cases n with
  | ofNat n => exact ⟨kd, n, rfl, h⟩
  | negSucc n => exact nn h
theorem boolK_inv {v : V} {k : Bool → Option α} {r : α} (h : boolK v k = some r) : ∃ b, v = .c (.b b) ∧ k b = some r := by
  obtain ⟨x, rfl, h⟩ := cK_inv h
  cases x <;> first | exact ⟨_, rfl, h⟩ | exact nn h
theorem strK_inv {v : V} {k : List Nat → Option α} {r : α} (h : strK v k = some r) : ∃ s, v = .c (.s s) ∧ k s = some r := by
  obtain ⟨x, rfl, h⟩ := cK_inv h
  cases x <;> first | exact ⟨_, rfl, h⟩ | exact nn h
theorem fnK_inv {v : V} {k : Nat → List (Nat × Nat) → List (Nat × Nat) → Option α} {r : α} (h : fnK v k = some r) : ∃ f a b, v = .c (.fn f a b) ∧ k f a b = some r := by
  obtain ⟨x, rfl, h⟩ := cK_inv h
  cases x <;> first | exact ⟨_, _, _, rfl, h⟩ | exact nn h
theorem mapK_inv {v : V} {k : Nat → Option α} {r : α} (h : mapK v k = some r) : ∃ m, v = .c (.m m) ∧ k m = some r := by
  obtain ⟨x, rfl, h⟩ := cK_inv h
  cases x <;> first | exact ⟨_, rfl, h⟩ | exact nn h
theorem slK_inv {v : V} {z : Option α} {k : Nat → Nat → Nat → Nat → Option α} {r : α} (h : slK v z k = some r) : (v = .c .sn ∧ z = some r) ∨ ∃ b o l c, v = .c (.sl b o l c) ∧ k b o l c = some r := by
  obtain ⟨x, rfl, h⟩ := cK_inv h
  cases x <;> first | exact .inl ⟨rfl, h⟩ | exact .inr ⟨_, _, _, _, rfl, h⟩ | exact nn h
theorem tupK_inv {v : V} {k : List U → Option α} {r : α} (h : tupK v k = some r) : ∃ l, v = .t l ∧ k l = some r := by
  cases v <;> first | exact ⟨_, rfl, h⟩ | exact nn h
theorem vcells_inv {v : V} {k : List C → Option α} {r : α} (h : vcells v k = some r) : ∃ l, ((∃ x, v = .c x ∧ l = [x]) ∨ v = .a l) ∧ k l = some r := by
  cases v with
  | c x => exact ⟨_, .inl ⟨x, rfl, rfl⟩, h⟩
  | a l => exact ⟨l, .inr rfl, h⟩
  | t l => exact nn h
theorem cellsK_inv {o : AO} {K : Nat → Tr (List C) → Nat → TypeId → Bool → Option α} {r : α} (h : cellsK o K = some r) : ∃ k c l e x, o = .cells k c l e x ∧ K k c l e x = some r := by
  cases o <;> first | exact ⟨_, _, _, _, _, rfl, h⟩ | exact nn h
theorem takeK_inv : ∀ (n : Nat) (l : List C) (k : List C → Option α) (r : α), takeK n l k = some r → n ≤ l.length ∧ k (l.take n) = some r
  | 0, l, k, r, h => ⟨Nat.zero_le _, h⟩
  | n + 1, [], k, r, h => nn h
  | n + 1, v :: l, k, r, h => by
    obtain ⟨h1, h2⟩ := takeK_inv n l (fun r => k (v :: r)) r h
    exact ⟨by simp; omega, by simpa using h2⟩
theorem dropK_inv : ∀ (n : Nat) (l : List C) (k : List C → Option α) (r : α), dropK n l k = some r → n ≤ l.length ∧ k (l.drop n) = some r
  | 0, l, k, r, h => ⟨Nat.zero_le _, h⟩
  | n + 1, [], k, r, h => nn h
  | n + 1, v :: l, k, r, h => by
    obtain ⟨h1, h2⟩ := dropK_inv n l k r h
    exact ⟨by simp; omega, by simpa using h2⟩
theorem takeN_inv : ∀ (n : Nat) (l : List Nat) (k : List Nat → Option α) (r : α), takeN n l k = some r → n ≤ l.length ∧ k (l.take n) = some r
  | 0, l, k, r, h => ⟨Nat.zero_le _, h⟩
  | n + 1, [], k, r, h => nn h
  | n + 1, v :: l, k, r, h => by
    obtain ⟨h1, h2⟩ := takeN_inv n l (fun r => k (v :: r)) r h
    exact ⟨by simp; omega, by simpa using h2⟩
theorem dropN_inv : ∀ (n : Nat) (l : List Nat) (k : List Nat → Option α) (r : α), dropN n l k = some r → n ≤ l.length ∧ k (l.drop n) = some r
  | 0, l, k, r, h => ⟨Nat.zero_le _, h⟩
  | n + 1, [], k, r, h => nn h
  | n + 1, v :: l, k, r, h => by
    obtain ⟨h1, h2⟩ := dropN_inv n l k r h
    exact ⟨by simp; omega, by simpa using h2⟩
theorem layK_inv (xs : List C) : ∀ (n : Nat) (l : List C) (k : List C → Option α) (r : α), layK xs n l k = some r → n + xs.length ≤ l.length ∧ k (l.take n ++ xs ++ l.drop (n + xs.length)) = some r
  | 0, l, k, r, h => by
    have h : (List.rec (fun l k => k l) (fun x _ ih l k => List.rec none (fun _ l _ => ih l fun r => k (x :: r)) l) xs : List C → (List C → Option α) → Option α) l k = some r := h
    suffices ∀ (xs l : List C) (k : List C → Option α), (List.rec (fun l k => k l) (fun x _ ih l k => List.rec none (fun _ l _ => ih l fun r => k (x :: r)) l) xs : List C → (List C → Option α) → Option α) l k = some r → xs.length ≤ l.length ∧ k (xs ++ l.drop xs.length) = some r by
      have := this xs l k h
      simpa using this
    intro xs
    induction xs with
    | nil => intro l k h; exact ⟨Nat.zero_le _, by simpa using h⟩
    | cons x xs ih =>
      intro l k h
      cases l with
      | nil => exact nn h
      | cons y l =>
        obtain ⟨h1, h2⟩ := ih l (fun r => k (x :: r)) h
        exact ⟨by simp; omega, by simpa using h2⟩
  | n + 1, [], k, r, h => nn h
  | n + 1, v :: l, k, r, h => by
    obtain ⟨h1, h2⟩ := layK_inv xs n l (fun r => k (v :: r)) r h
    refine ⟨by simp; omega, ?_⟩
    have : n + 1 + xs.length = n + xs.length + 1 := by omega
    rw [this]
    simpa using h2
theorem nthK_inv : ∀ (i : Nat) (l : List γ) (k : γ → Option α) (r : α), nthK l i k = some r → ∃ x, l[i]? = some x ∧ k x = some r
  | 0, [], k, r, h => nn h
  | 0, x :: l, k, r, h => ⟨x, rfl, h⟩
  | i + 1, [], k, r, h => nn h
  | i + 1, x :: l, k, r, h => by
    obtain ⟨y, h1, h2⟩ := nthK_inv i l k r h
    exact ⟨y, by simpa using h1, h2⟩
theorem lenN_eq (l : List γ) (K : Nat → Option α) : lenN l K = K l.length := by
  suffices ∀ (l : List γ) (n : Nat), (List.rec (fun n => K n) (fun _ _ ih n => fN (Nat.succ n) ih) l : Nat → Option α) n = K (n + l.length) by
    have := this l 0
    simpa [lenN] using this
  intro l
  induction l with
  | nil => intro n; rfl
  | cons x l ih =>
    intro n
    show fN (Nat.succ n) _ = _
    rw [fN_eq, ih]
    congr 1
    simp; omega
theorem appN_eq (a b : List Nat) (k : List Nat → Option α) : appN a b k = k (a ++ b) := by
  induction a generalizing k with
  | nil => rfl
  | cons x a ih => exact ih _
theorem appV_eq (a b : List V) (k : List V → Option α) : appV a b k = k (a ++ b) := by
  induction a generalizing k with
  | nil => rfl
  | cons x a ih => exact ih _
theorem ptrVs_eq (l : List (Nat × Nat)) (b : List V) (k : List V → Option α) : ptrVs l b k = k (l.map (fun p => V.c (.p p.1 p.2)) ++ b) := by
  induction l generalizing k with
  | nil => rfl
  | cons x l ih =>
    obtain ⟨u, v⟩ := x
    exact ih _
theorem ptrs_inv : ∀ (l : List V) (k : List (Nat × Nat) → Option α) (r : α), ptrs l k = some r → ∃ ps, l = ps.map (fun p => V.c (.p p.1 p.2)) ∧ k ps = some r
  | [], k, r, h => ⟨[], rfl, h⟩
  | v :: l, k, r, h => by
    obtain ⟨b, o, rfl, h⟩ := ptrK_inv (h : ptrK v (fun b o => ptrs l fun r => k ((b, o) :: r)) = some r)
    obtain ⟨ps, e, h1⟩ := ptrs_inv l _ _ h
    exact ⟨(b, o) :: ps, by rw [e]; rfl, h1⟩
theorem byteL_eq (l : List UInt8) (k : List Nat → Option α) : byteL l k = k (l.map UInt8.toNat) := by
  induction l generalizing k with
  | nil => rfl
  | cons c l ih =>
    show byteL l _ = _
    rw [ih, fN_eq]
    rfl
theorem bytesC_eq (kd : IntKind) (l : List Nat) (k : List (List C) → Option α) : bytesC kd l k = k (l.map fun c => [C.i kd (.ofNat c)]) := by
  induction l generalizing k with
  | nil => rfl
  | cons c l ih => exact ih _
theorem rows_inv (c : Tr (List C)) : ∀ (m i : Nat) (K : List (List C) → Option α) (r : α), rows c m i K = some r → ∃ l, l.length = m ∧ (∀ j, j < m → l[j]? = c.get (i + j)) ∧ K l = some r
  | 0, i, K, r, h => ⟨[], rfl, fun j hj => by omega, h⟩
  | m + 1, i, K, r, h => by
    obtain ⟨y, h1, h⟩ := oc_inv (h : oc (c.get i) (fun r => fN (Nat.succ i) fun i => rows c m i fun l => K (r :: l)) = some r)
    rw [fN_eq] at h
    obtain ⟨l, h2, h3, h4⟩ := rows_inv c m _ _ _ h
    refine ⟨y :: l, by simp [h2], fun j hj => ?_, h4⟩
    cases j with
    | zero => simp [h1]
    | succ j =>
      rw [List.getElem?_cons_succ, h3 j (by omega)]
      congr 1; omega
theorem putRows_inv : ∀ (l : List (List C)) (t : Tr (List C)) (i : Nat) (K : Tr (List C) → Option α) (r : α), putRows l t i K = some r → ∃ t', (∀ j, t'.get j = if i ≤ j ∧ j < i + l.length then l[j - i]? else t.get j) ∧ K t' = some r
  | [], t, i, K, r, h => ⟨t, fun j => by rw [if_neg (by simp only [List.length_nil]; omega)], h⟩
  | y :: l, t, i, K, r, h => by
    obtain ⟨t1, h1, h⟩ := Tr.putK_inv (h : Tr.putK y t i (fun t => fN (Nat.succ i) fun i => putRows l t i K) = some r)
    rw [fN_eq] at h
    obtain ⟨t2, h2, h3⟩ := putRows_inv l _ _ _ _ h
    refine ⟨t2, fun j => ?_, h3⟩
    rw [h2, h1]
    by_cases e : j = i
    · subst e; rw [if_neg (by omega), if_pos rfl, if_pos (by simp)]; simp
    · by_cases e2 : i + 1 ≤ j ∧ j < i + 1 + l.length
      · rw [if_pos e2, if_pos (by simp; omega)]
        have : j - i = j - (i + 1) + 1 := by omega
        rw [this]; simp
      · rw [if_neg e2, if_neg e, if_neg (by simp; omega)]
theorem repRows_inv (z : List C) : ∀ (n : Nat) (t : Tr (List C)) (i : Nat) (K : Tr (List C) → Option α) (r : α), repRows z n t i K = some r → ∃ t', (∀ j, t'.get j = if i ≤ j ∧ j < i + n then some z else t.get j) ∧ K t' = some r
  | 0, t, i, K, r, h => ⟨t, fun j => by rw [if_neg (by omega)], h⟩
  | n + 1, t, i, K, r, h => by
    obtain ⟨t1, h1, h⟩ := Tr.putK_inv (h : Tr.putK z t i (fun t => fN (Nat.succ i) fun i => repRows z n t i K) = some r)
    rw [fN_eq] at h
    obtain ⟨t2, h2, h3⟩ := repRows_inv z n _ _ _ _ h
    refine ⟨t2, fun j => ?_, h3⟩
    rw [h2, h1]
    by_cases e : j = i
    · subst e; rw [if_neg (by omega), if_pos rfl, if_pos (by omega)]
    · by_cases e2 : i + 1 ≤ j ∧ j < i + 1 + n
      · rw [if_pos e2, if_pos (by omega)]
      · rw [if_neg e2, if_neg e, if_neg (by omega)]
end
end Go.D
