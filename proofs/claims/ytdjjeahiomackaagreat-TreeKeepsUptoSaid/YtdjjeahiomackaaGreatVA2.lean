/-
  Walks and laws of this seat.
-/
import Derived.Test.YtdjjeahiomackaaGreatVA
namespace Go.V
set_option linter.unusedVariables false
set_option linter.unusedSimpArgs false
set_option linter.unusedSectionVars false
open Go.RowKit Go.Sl
variable {α : Type}
def frz (ob : List Ob) : List C → (List C → List Ob → Option α) → Option α
  | [], K => K [] ob
  | c :: r, K => match c with
    | .os j => (og ob j).bind fun y => match y with
      | .ow _ c xs => frz (oset ob j (.fz c xs)) r fun r ob => K (.sl c xs :: r) ob
      | .fz c xs => frz ob r fun r ob => K (.sl c xs :: r) ob
      | _ => none
    | .ov k j lo hi => (og ob j).bind fun y => match y with
      | .ow _ c xs => cond (Nat.beq k c.k && c.fl) ((cutM xs lo hi).bind fun z => frz (oset ob j (.fz c xs)) r fun r ob => K (.sl c z :: r) ob) none
      | .fz c xs => cond (Nat.beq k c.k && c.fl) ((cutM xs lo hi).bind fun z => frz ob r fun r ob => K (.sl c z :: r) ob) none
      | _ => none
    | c => frz ob r fun r ob => K (c :: r) ob
def pk (ob : List Ob) : List C → (List C → Option α) → Option α
  | [], K => K []
  | c :: r, K => match c with
    | .os j => (og ob j).bind fun y => match y with
      | .ow _ c xs => pk ob r fun r => K (.sl c xs :: r)
      | .fz c xs => pk ob r fun r => K (.sl c xs :: r)
      | _ => none
    | c => pk ob r fun r => K (c :: r)
inductive Bc where
  | d (c : TC)
  | o (e : TypeId) (c : TC)
  | q (e : TypeId) (c z : TC)
@[reducible] def Bc.T : Bc → Type
  | .d c => c.T
  | .o _ c => List c.T
  | .q _ c z => List c.T × z.T
@[reducible] def Pr {A : Type} (f : A → Type) : List A → Type
  | [] => Unit
  | [a] => f a
  | a :: b :: r => f a × Pr f (b :: r)
inductive Md where
  | d (c : TC)
  | o (e : TypeId) (c : TC)
  | p (l : List Bc)
  | g
  | q (c : TC)
  | b (c : TC)
  | m (g : Nat) (cs : List TC)
  | f (g : Nat)
  | w (l : List Bc)
@[reducible] def Md.T : Md → Type
  | .d c => c.T
  | .o _ c => List c.T
  | .p l => Pr Bc.T l
  | .g => ByteArray × Nat
  | .q c => c.T
  | .b c => c.T
  | .m _ cs => Pr TC.T cs
  | .f _ => Unit
  | .w l => Pr Bc.T l
def encM : (l : List TC) → Pr TC.T l → List Ob → List C × List Ob
  | [], _, ob => ([], ob)
  | [c], x, ob => ([.bp ob.length 0], .fb (c.lv x) :: ob)
  | c :: d :: r, x, ob => (.bp ob.length 0 :: (encM (d :: r) x.2 (.fb (c.lv x.1) :: ob)).1,(encM (d :: r) x.2 (.fb (c.lv x.1) :: ob)).2)
def Bc.enc : (b : Bc) → b.T → List Ob → List C × List Ob
  | .d c, x, ob => (c.lv x, ob)
  | .o e c, xs, ob => ([.os ob.length], .ow e c xs :: ob)
  | .q e c z, x, ob => ([.bp (ob.length + 1) 0], .bx (.os ob.length :: z.lv x.2) :: .ow e c x.1 :: ob)
def encB : (l : List Bc) → Pr Bc.T l → List Ob → List C × List Ob
  | [], _, ob => ([], ob)
  | [b], x, ob => b.enc x ob
  | b :: c :: r, x, ob => ((b.enc x.1 ob).1 ++ (encB (c :: r) x.2 (b.enc x.1 ob).2).1,(encB (c :: r) x.2 (b.enc x.1 ob).2).2)
def Md.enc : (m : Md) → m.T → List Ob → V × List Ob
  | .d c, x, ob => (c.v x, ob)
  | .o e c, xs, ob => (.c (.os ob.length), .ow e c xs :: ob)
  | .p l, x, ob => (.c (.bp (encB l x ob).2.length 0), .bx (encB l x ob).1 :: (encB l x ob).2)
  | .g, x, ob => (.c (.it ob.length), .it x.1 x.2 :: ob)
  | .q c, x, ob => (.c (.fp c x 0), ob)
  | .b c, x, ob => (.c (.bp ob.length 0), .fb (c.lv x) :: ob)
  | .m h cs, x, ob => (.c (.fm (encM cs x ob).2.length), .me h (encM cs x ob).1 :: (encM cs x ob).2)
  | .f h, _, ob => (.c (.fn h), ob)
  | .w l, x, ob => (.c (.bp (encB l x ob).2.length 0), .bx (encB l x ob).1 :: (encB l x ob).2)
def encL : (l : List Md) → Pr Md.T l → List Ob → List V × List Ob
  | [], _, ob => ([], ob)
  | [m], x, ob => ([(m.enc x ob).1],(m.enc x ob).2)
  | m :: n :: r, x, ob => ((m.enc x.1 ob).1 :: (encL (n :: r) x.2 (m.enc x.1 ob).2).1,(encL (n :: r) x.2 (m.enc x.1 ob).2).2)
def decO (e : TypeId) (c' : TC) (x : C) (ob : List Ob) (K : List c'.T → List Ob → Option α) : Option α := match x with
  | .os j => (og ob j).bind fun y => match y with
    | .ow e' c xs => cond (Nat.beq e' e) (castL xs fun xs => K xs (oset ob j .no)) none
    | _ => none
  | .nl => K [] ob
  | _ => none
def Bc.dec : (b : Bc) → List C → List Ob → (b.T → List C → List Ob → Option α) → Option α
  | .d c, cs, ob, K => frz ob (cs.take c.k) fun cs' ob => c.mkA cs' fun x => K x (cs.drop c.k) ob
  | .o e c, cs, ob, K => match cs with
    | y :: r => decO e c y ob fun xs ob => K xs r ob
    | [] => none
  | .q e c z, cs, ob, K => match cs with
    | .bp j 0 :: r => (og ob j).bind fun y => match y with
      | .bx (y :: ys) => decO e c y (oset ob j .no) fun xs ob => frz ob ys fun ys ob => z.mkA ys fun y => K (xs, y) r ob
      | _ => none
    | _ => none
def decB : (l : List Bc) → List C → List Ob → (Pr Bc.T l → List Ob → Option α) → Option α
  | [], cs, ob, K => match cs with
    | [] => K () ob
    | _ => none
  | [b], cs, ob, K => b.dec cs ob fun x r ob => match r with
    | [] => K x ob
    | _ => none
  | b :: c :: r, cs, ob, K => b.dec cs ob fun x cs ob => decB (c :: r) cs ob fun y ob => K (x, y) ob
def vag (ag : Bool) (v : V) (K : List C → Option α) : Option α := match ag, v with
  | true, .a l => K l
  | false, .c x => K [x]
  | _, _ => none
def ptrq (c : TC) (ob : List Ob) (x : C) (K : c.T → Option α) : Option α := match x with
  | .fp c' x o => c.mkA (((c'.lv x).drop o).take c.k) K
  | .bp j o => (og ob j).bind fun y => match y with
    | .fb cs => c.mkA ((cs.drop o).take c.k) K
    | _ => none
  | _ => none
def boxq (c : TC) (ob : List Ob) (x : C) (K : c.T → Option α) : Option α := match x with
  | .bp j 0 => (og ob j).bind fun y => match y with
    | .fb cs => c.mkA cs K
    | _ => none
  | _ => none
def capsq (ob : List Ob) : (cs : List TC) → List C → (Pr TC.T cs → Option α) → Option α
  | [], l, K => match l with
    | [] => K ()
    | _ => none
  | [c], l, K => match l with
    | [x] => boxq c ob x K
    | _ => none
  | c :: d :: r, l, K => match l with
    | x :: l => boxq c ob x fun x => capsq ob (d :: r) l fun y => K (x, y)
    | [] => none
def selfL (j : Nat) : List C → (List C → Option α) → Option α
  | [.bp i 0], K => cond (Nat.beq i j) (K []) none
  | c :: r, K => selfL j r fun l => K (c :: l)
  | [], _ => none
def decM (g : Nat) (cs : List TC) (v : V) (ob : List Ob) (K : Pr TC.T cs → List Ob → Option α) : Option α := match v with
  | .c (.fm j) => (og ob j).bind fun y => match y with
    | .me g' l => cond (Nat.beq g' g) (capsq ob cs l fun x => K x ob) none
    | _ => none
  | .c (.bp j 0) => (og ob j).bind fun y => match y with
    | .bx [.cl g' l] => cond (Nat.beq g' g) (selfL j l fun l' => capsq ob cs l' fun x => K x (oset ob j (.fb [.cl g' l]))) none
    | .fb [.cl g' l] => cond (Nat.beq g' g) (selfL j l fun l' => capsq ob cs l' fun x => K x ob) none
    | _ => none
  | _ => none
def decQ (c : TC) (v : V) (ob : List Ob) (K : c.T → List Ob → Option α) : Option α := match v with
  | .c x => ptrq c ob x fun x => K x ob
  | _ => none
def decX (c : TC) (v : V) (ob : List Ob) (K : c.T → List Ob → Option α) : Option α := match v with
  | .c (.bp j 0) => (og ob j).bind fun y => match y with
    | .bx cs => frz (oset ob j .no) cs fun cs ob => c.mkA cs fun x => K x (oset ob j (.fb cs))
    | .fb cs => c.mkA cs fun x => K x ob
    | _ => none
  | _ => none
def decF (g : Nat) (v : V) (K : Option α) : Option α := match v with
  | .c (.fn g') => cond (Nat.beq g' g) K none
  | _ => none
def Md.dec : (m : Md) → V → List Ob → (m.T → List Ob → Option α) → Option α
  | .d c, v, ob, K => vag c.ag v fun cs => frz ob cs fun cs ob => c.mkA cs fun x => K x ob
  | .o e c, v, ob, K => vC v fun x => decO e c x ob K
  | .p l, v, ob, K => match v with
    | .c (.bp j 0) => (og ob j).bind fun y => match y with
      | .bx cs => decB l cs (oset ob j .no) K
      | _ => none
    | _ => none
  | .g, v, ob, K => match v with
    | .c (.it j) => (og ob j).bind fun y => match y with
      | .it s i => K (s, i) (oset ob j .no)
      | _ => none
    | _ => none
  | .q c, v, ob, K => decQ c v ob K
  | .b c, v, ob, K => decX c v ob K
  | .m h cs, v, ob, K => decM h cs v ob K
  | .f h, v, ob, K => decF h v (K () ob)
  | .w l, v, ob, K => match v with
    | .c (.bp j 0) => (og ob j).bind fun y => match y with
      | .bx cs => decB l cs (oset ob j .no) K
      | _ => none
    | _ => none
def decL : (l : List Md) → List V → List Ob → (Pr Md.T l → List Ob → Option α) → Option α
  | [], vs, ob, K => match vs with
    | [] => K () ob
    | _ => none
  | [m], vs, ob, K => match vs with
    | [v] => m.dec v ob K
    | _ => none
  | m :: n :: r, vs, ob, K => match vs with
    | v :: vs => m.dec v ob fun x ob => decL (n :: r) vs ob fun y ob => K (x, y) ob
    | _ => none
def isP : Md → Bool
  | .p _ => true
  | _ => false
structure Con where
  ps : List Md
  rs : List Md
  m : Pr Md.T ps → Option (Pr Md.T (rs ++ ps.filter isP))
def lent : List Md → List V → List Nat
  | .p _ :: ms, .c (.bp j _) :: vs => j :: lent ms vs
  | _ :: ms, _ :: vs => lent ms vs
  | _, _ => []
def tupU : List V → List U
  | .c x :: r => .c x :: tupU r
  | .a x :: r => .a x :: tupU r
  | _ => []
def back1 : (m : Md) → m.T → List Nat → List Ob → List V × List Ob × List Nat
  | .p l, x, j :: js, ob => ([], oset (encB l x ob).2 j (.bx (encB l x ob).1), js)
  | .p _, _,[], ob => ([], ob,[])
  | m, x, js, ob => ([(m.enc x ob).1],(m.enc x ob).2, js)
def back : (l : List Md) → Pr Md.T l → List Nat → List Ob → List V × List Ob
  | [], _, _, ob => ([], ob)
  | [m], x, js, ob => ((back1 m x js ob).1,(back1 m x js ob).2.1)
  | m :: n :: r, x, js, ob => ((back1 m x.1 js ob).1 ++ (back (n :: r) x.2 (back1 m x.1 js ob).2.2 (back1 m x.1 js ob).2.1).1,(back (n :: r) x.2 (back1 m x.1 js ob).2.2 (back1 m x.1 js ob).2.1).2)
def one : List V → V
  | [v] => v
  | vs => .t (tupU vs)
structure Env where
  T : Nat → Option TD
  G : Nat → Option Con
variable (E : Env)
def rows (c : TC) (z : c.T) (sl : List (Nat × V)) : List (Nat × Operand) → List c.T → List Ob → (List c.T → List Ob → Option α) → Option α
  | [], xs, ob, K => K xs ob
  | (i, x) :: r, xs, ob, K => opd sl x fun v => cond (Nat.blt i xs.length) (vag c.ag v fun cs => cond (cs.all isU) (frz ob cs fun cs ob => c.mkA cs fun y => rows c z sl r (xs.set i y) ob K) none) none
def elemT (t : Nat) (K : TypeId → TD → Option α) : Option α := (E.T t).bind fun td => match td.d with
  | .slice e => (E.T e).bind fun te => K e te
  | _ => none
def slX (c' : TC) (v : V) (ob : List Ob) (K : List c'.T → Option α) : Option α := match v with
  | .c (.sl c xs) => castD xs K
  | .c .nl => K []
  | .c (.os j) => (og ob j).bind fun y => match y with
    | .ow _ c xs => castD xs K
    | .fz c xs => castD xs K
    | _ => none
  | .c (.ov k j lo hi) => (og ob j).bind fun y => match y with
    | .ow _ c xs => cond (Nat.beq k c.k) ((cutM xs lo hi).bind fun z => castD z K) none
    | _ => none
  | _ => none
def storeTo (ag : Bool) (ob : List Ob) (v : V) (xs : List C) (K : List Ob → Option α) : Option α := match v with
  | .c (.bp j o) => (og ob j).bind fun y => match y with
    | .bx cs => cond ag (cond (Nat.ble (o + xs.length) cs.length) (K (oset ob j (.bx (lay cs xs o)))) none) (match xs with
      | [x] => cond (Nat.blt o cs.length) (K (oset ob j (.bx (cs.set o x)))) none
      | _ => none)
    | _ => none
  | .c (.op k j i o) => frz ob xs fun xs ob => (og ob j).bind fun y => match y with
    | .ow e c l => cond (Nat.beq k c.k) ((geti l i).bind fun x => cond ag (cond (Nat.beq o 0 && Nat.beq xs.length c.k) (c.mkA xs fun z => K (oset ob j (.ow e c (l.set i.toNat z)))) none) (match xs with
      | [y] => cond (Nat.blt o c.k) (c.mkA ((c.lv x).set o y) fun z => K (oset ob j (.ow e c (l.set i.toNat z)))) none
      | _ => none)) none
    | _ => none
  | _ => none
mutual
def TC.sc : TC → Bool
  | .int _ => true
  | .bool => true
  | .str => true
  | .sl _ => false
  | .nsl _ => false
  | .tr _ => false
  | .tn _ => false
  | .st l => l.sc
def TL.sc : TL → Bool
  | .nil => true
  | .cons c l => c.sc && l.sc
end
def scD : Md → Bool
  | .d c => c.sc
  | _ => false
def isD : Md → Bool
  | .d _ => true
  | _ => false
def isL : Md → Bool
  | .d _ => true
  | .q _ => true
  | .b _ => true
  | .m _ _ => true
  | .f _ => true
  | _ => false
def pkq (c : TC) (ob : List Ob) (x : C) (K : c.T → Option α) : Option α := match x with
  | .bp j o => (og ob j).bind fun y => match y with
    | .bx cs => pk ob ((cs.drop o).take c.k) fun cs => c.mkA cs K
    | .fb cs => pk ob ((cs.drop o).take c.k) fun cs => c.mkA cs K
    | _ => none
  | .op k j i o => (og ob j).bind fun y => match y with
    | .ow _ c' xs => cond (Nat.beq k c'.k) ((geti xs i).bind fun x => c.mkA (((c'.lv x).drop o).take c.k) K) none
    | _ => none
  | x => ptrq c ob x K
def pkb (c : TC) (ob : List Ob) (x : C) (K : c.T → Option α) : Option α := match x with
  | .bp j 0 => (og ob j).bind fun y => match y with
    | .bx cs => pk ob cs fun cs => c.mkA cs K
    | .fb cs => pk ob cs fun cs => c.mkA cs K
    | _ => none
  | _ => none
def capsp (ob : List Ob) : (cs : List TC) → List C → (Pr TC.T cs → Option α) → Option α
  | [], l, K => match l with
    | [] => K ()
    | _ => none
  | [c], l, K => match l with
    | [x] => pkb c ob x K
    | _ => none
  | c :: d :: r, l, K => match l with
    | x :: l => pkb c ob x fun x => capsp ob (d :: r) l fun y => K (x, y)
    | [] => none
def pkM (g : Nat) (cs : List TC) (v : V) (ob : List Ob) (K : Pr TC.T cs → Option α) : Option α := match v with
  | .c (.fm j) => (og ob j).bind fun y => match y with
    | .me g' l => cond (Nat.beq g' g) (capsp ob cs l K) none
    | _ => none
  | .c (.bp j 0) => (og ob j).bind fun y => match y with
    | .bx [.cl g' l] => cond (Nat.beq g' g) (selfL j l fun l' => capsp ob cs l' K) none
    | .fb [.cl g' l] => cond (Nat.beq g' g) (selfL j l fun l' => capsp ob cs l' K) none
    | _ => none
  | _ => none
def Md.pk : (m : Md) → V → List Ob → (m.T → Option α) → Option α
  | .d c, v, ob, K => vag c.ag v fun cs => V.pk ob cs fun cs => c.mkA cs K
  | .q c, v, ob, K => vC v fun x => pkq c ob x K
  | .b c, v, ob, K => vC v fun x => pkb c ob x K
  | .m h cs, v, ob, K => pkM h cs v ob K
  | .f h, v, _, K => decF h v (K ())
  | _, _, _, _ => none
def pkL : (l : List Md) → List V → List Ob → (Pr Md.T l → Option α) → Option α
  | [], vs, _, K => match vs with
    | [] => K ()
    | _ => none
  | [m], vs, ob, K => match vs with
    | [v] => m.pk v ob K
    | _ => none
  | m :: n :: r, vs, ob, K => match vs with
    | v :: vs => m.pk v ob fun x => pkL (n :: r) vs ob fun y => K (x, y)
    | _ => none
def lookCall (c : Con) (avs : List V) (ob : List Ob) (K : V → Option α) : Option α := pkL c.ps avs ob fun x => (c.m x).bind fun y => K (one (back _ y [] []).1)
def isLC (c : Con) : Bool := c.rs.all scD && c.ps.all isL
def calle (v : V) (avs : List V) (ob : List Ob) (K : Nat → List V → Option α) : Option α := match v with
  | .c (.fn g) => K g avs
  | .c (.cl g l) => K g (avs ++ l.map .c)
  | .c (.me j) => (og ob j).bind fun y => match y with
    | .me g l => K g (avs ++ (l.map .c ++ [.c (.fm j)]))
    | _ => none
  | _ => none
def akey : List V → Nat
  | [] => 0
  | .c (.fn h) :: _ => (h + 1) * 10000
  | _ :: r => akey r
def conOf (g : Nat) (avs : List V) (K : Con → Option α) : Option α := cond (Nat.blt g 10000) ((E.G (g + akey avs)).bind K) none
def callOp (g : Nat) (avs : List V) (ob : List Ob) (K : V → List Ob → Option α) : Option α := conOf E g avs fun c => cond (isLC c) (lookCall c avs ob fun v => K v ob) <| cond (c.rs.all fun m => !isP m) (
  decL c.ps avs ob fun x ob => (c.m x).bind fun y => K (one (back _ y (lent c.ps avs) ob).1) (back _ y (lent c.ps avs) ob).2) none
def dS (d : Option Tmp) (K : Option α) : Option α := match d with
  | some _ => K
  | none => none
def dN (d : Option Tmp) (K : Option α) : Option α := match d with
  | none => K
  | some _ => none
def sameOp : Operand → Operand → Bool
  | .tmp a, .tmp b => Nat.beq a b
  | .const (.int .i64 n), .const (.int .i64 m) => decide (n = m)
  | _, _ => false
def op1 (o : Op) (d : Option Tmp) (sl : List (Nat × V)) (ob : List Ob) (K : V → List Ob → Option α) : Option α := match o with
  | .alloc t => dS d <| (E.T t).bind fun td => K (.c (.bp ob.length 0)) (.bx td.z :: ob)
  | .box t x => dS d <| opd sl x fun v => (E.T t).bind fun td => vag td.ag v fun cs => cond (Nat.beq cs.length td.sz && cs.all isU) (K (.c (.bp ob.length 0)) (.bx cs :: ob)) none
  | .store t x y => dN d <| opd sl x fun v => opd sl y fun w => (E.T t).bind fun td => vag td.ag w fun xs => cond (Nat.beq xs.length td.sz && xs.all isU) (storeTo td.ag ob v xs fun ob => K (.c .u) ob) none
  | .buildSlice t len ps => dS d <| elemT E t fun e te => te.c.mkA te.z fun z => cond (Nat.beq len 0) (match ps.toList with
    | [] => K (.c (.os ob.length)) (.ow e te.c [] :: ob)
    | _ => none) (cond (Nat.blt 0 len && Nat.ble (len * te.c.k) 16777216) (rows te.c z sl ps.toList (List.replicate len z) ob fun xs ob => K (.c (.os ob.length)) (.ow e te.c xs :: ob)) none)
  | .makeSlice t x y => dS d <| elemT E t fun e te => te.c.mkA te.z fun z => cond (sameOp x y) (opd sl x fun v => vI v fun k n => cond (kB k .i64) ((repM te.by_ n z).bind fun xs => K (.c (.os ob.length)) (.ow e te.c xs :: ob)) none) none
  | .range t x => dS d <| opd sl x fun v => (E.T t).bind fun td => match td.d with
    | .str => vS v fun s => K (.c (.it ob.length)) (.it s 0 :: ob)
    | _ => none
  | .next x true => dS d <| opd sl x fun v => match v with
    | .c (.it j) => (og ob j).bind fun y => match y with
      | .it s p => cond (decide (p < s.size)) (K (.t [.c (.b true), .c (.i .i64 p), .c (.i .i32 (Utf8.decode s p).1)]) (oset ob j (.it s (p + (Utf8.decode s p).2)))) (K (.t [.c (.b false)]) ob)
      | _ => none
    | _ => none
  | .convert s t x => dS d <| opd sl x fun v => (E.T s).bind fun sd => (E.T t).bind fun dd => match sd.d, dd.d with
    | .int _, .str => vI v fun _ n => K (.c (.s (Utf8.encode n))) ob
    | .slice e, .str => (E.T e).bind fun te => match te.d with
      | .int .i32 => slX (.int .i32) v ob fun xs => K (.c (.s (textOf xs))) ob
      | .int .u8 => slX (.int .u8) v ob fun xs => K (.c (.s (bytesOf xs))) ob
      | _ => none
    | .str, .slice e => (E.T e).bind fun te => match te.d with
      | .int .i32 => vS v fun s => (runesM s).bind fun xs => K (.c (.os ob.length)) (.ow e (.int .i32) xs :: ob)
      | .int .u8 => vS v fun s => (bytesM s).bind fun xs => K (.c (.sl (.int .u8) xs)) ob
      | _ => none
    | _, _ => conv ob sd dd v fun c => K (.c c) ob
  | .call c => match c.callee with
    | .builtin .append => match c.args.toList, c.argTypes.toList with
      | [x, y],[t, u] => dS d <| cond (Nat.beq t u) (opd sl x fun v => opd sl y fun w => elemT E t fun e te => slX te.c w ob fun ys => vC v fun s => decO e te.c s ob fun xs ob => (appM te.by_ xs ys).bind fun zs => K (.c (.os ob.length)) (.ow e te.c zs :: ob)) (opd sl x fun v => opd sl y fun w => elemT E t fun e te => vS w fun s => strT E.T u (vC v fun c => cond (TC.eq te.c (.int .u8)) (decO e (.int .u8) c ob fun xs ob => (appM te.by_ xs (bytesIn s)).bind fun zs => K (.c (.os ob.length)) (.ow e (.int .u8) zs :: ob)) none))
      | _, _ => none
    | .value f => opd sl f fun v => opds sl c.args.toList fun avs => calle v avs ob fun g avs => callOp E g avs ob K
    | _ => qop E.T (.call c) sl ob fun v => K v ob
  | .slice t x none (some hi) none => opd sl x fun v => match v with
    | .c (.os j) => (og ob j).bind fun y => match y with
      | .ow e c xs => dS d <| elm E.T t fun sz => cond (Nat.beq c.k sz) (bnd sl (some hi) xs.length fun hi => (cutM xs 0 hi).bind fun z => K (.c (.os ob.length)) (.ow e c z :: oset ob j .no)) none
      | _ => qop E.T (.slice t x none (some hi) none) sl ob fun v => K v ob
    | _ => qop E.T (.slice t x none (some hi) none) sl ob fun v => K v ob
  | o => qop E.T o sl ob fun v => K v ob
def putS (d : Option Tmp) (v : V) (sl : List (Nat × V)) : List (Nat × V) := match d with
  | none => sl
  | some d => (d, v) :: sl
def dstOf (ops : List Oper) (j : Nat) : Option Nat := (ops[j]?).bind fun o => o.dst
def guarded (all : List Oper) (g : Option (Nat × Bool)) (sl : List (Nat × V)) (y n : List (Nat × V) → Option α) : Option α := match g with
  | none => y sl
  | some (j, w) => (dstOf all j).bind fun d => (lk sl d).bind fun v => match v with
    | .c (.b q) => cond q (cond w (y ((d, .c (.b true)) :: sl)) (n ((d, .c (.b true)) :: sl))) (cond w (n ((d, .c (.b false)) :: sl)) (y ((d, .c (.b false)) :: sl)))
    | .c .u => n sl
    | _ => none
def preS (T : Nat → Option TD) (o : Op) (sl : List (Nat × V)) (K : List (Nat × V) → Option α) : Option α := match o with
  | .indexAddr t _ (.tmp s) => (T t).bind fun td => match td.d with
    | .array m _ => (lk sl s).bind fun v => match v with
      | .c (.i k n) => ixc m n fun q => K [(s, .c (.i k (q : Int)))]
      | _ => none
    | _ => K []
  | _ => K []
def runOps (all : List Oper) : List Oper → List (Nat × V) → List Ob → (List (Nat × V) → List Ob → Option α) → Option α
  | [], sl, ob, K => K sl ob
  | o :: r, sl, ob, K => guarded all o.guard sl (fun sl => preS E.T o.op sl fun pr => op1 E o.op o.dst (pr ++ sl) ob fun v ob => runOps all r (putS o.dst v (pr ++ sl)) ob K) (fun sl => runOps all r (putS o.dst (.c .u) sl) ob K)
inductive Fr where
  | seq (b : Code) (p : List Nat)
  | block (i : Nat)
  | loop (b : Code) (p : List Nat)
structure Cut (X : Type) where
  rid : Nat
  path : List Nat
  slots : List Nat
  ms : List Md
  jump : Nat → Pr Md.T ms → Option X
  cl : List (Nat × Nat × List Nat)
def fnd {X : Type} : List (Cut X) → Nat → Option (Cut X)
  | [], _ => none
  | c :: r, i => cond (Nat.beq c.rid i) (some c) (fnd r i)
def eqNs : List Nat → List Nat → Bool
  | [],[] => true
  | a :: l, b :: r => Nat.beq a b && eqNs l r
  | _, _ => false
def lks (sl : List (Nat × V)) : List Nat → (List V → Option α) → Option α
  | [], K => K []
  | t :: r, K => (lk sl t).bind fun v => lks sl r fun vs => K (v :: vs)
def clsC (sl : List (Nat × V)) : List Nat → Option (List C)
  | [] => some []
  | t :: r => match lk sl t with
    | some (.c x) => (clsC sl r).map (x :: ·)
    | _ => none
def clsV (sl : List (Nat × V)) : List (Nat × Nat × List Nat) → List (Nat × V)
  | [] => sl
  | (s, g, ts) :: r => match clsC sl ts with
    | some l => (s, .c (.cl g l)) :: clsV sl r
    | none => clsV sl r
def samB (sl : List (Nat × V)) : List C → List Nat → Bool
  | [],[] => true
  | .bp j 0 :: l, t :: r => (match lk sl t with
    | some (.c (.bp i 0)) => Nat.beq i j
    | _ => false) && samB sl l r
  | _, _ => false
def clsB (sl : List (Nat × V)) : List (Nat × Nat × List Nat) → Bool
  | [] => true
  | (s, g, ts) :: r => (match lk sl s with
    | some (.c (.cl g' l)) => Nat.beq g' g && samB sl l ts
    | _ => false) && clsB sl r
def slC {X : Type} (c : Cut X) (y : Pr Md.T c.ms) : List (Nat × V) := clsV (c.slots.zip (encL c.ms y []).1) c.cl
structure Fin where
  res : List ResultVar
  ps : List Nat
  ms : List Md
def resV (ob : List Ob) (sl : List (Nat × V)) : List ResultVar → (List V → Option α) → Option α
  | [], K => K []
  | .tmp t :: r, K => (lk sl t).bind fun v => resV ob sl r fun vs => K (v :: vs)
  | .cell t ty :: r, K => (lk sl t).bind fun v => (E.T ty).bind fun td => match v with
    | .c (.bp j 0) => (og ob j).bind fun y => match y with
      | .bx cs => cond td.ag (cond (Nat.beq cs.length td.sz) (resV ob sl r fun vs => K (.a cs :: vs)) none) ((cs[0]?).bind fun c => resV ob sl r fun vs => K (.c c :: vs))
      | _ => none
    | _ => none
def finK (F : Fin) (sl : List (Nat × V)) (ob : List Ob) : Option (Pr Md.T F.ms) := resV E ob sl F.res fun vs => lks sl F.ps fun us => decL F.ms (vs ++ us) ob fun x _ => some x
def lookOp (o : Op) (sl : List (Nat × V)) (ob : List Ob) (K : V → Option α) : Option α := match o with
  | .call ⟨.value f, args, _⟩ => opd sl f fun v => opds sl args.toList fun avs => calle v avs ob fun g avs => conOf E g avs fun c => cond (isLC c) (lookCall c avs ob K) none
  | o => cond (looks o) (qop E.T o sl ob K) none
def memN (K : List Nat) (j : Nat) : Bool := K.any fun k => Nat.beq k j
def keepO (K : List Nat) : List Ob → List Ob
  | [] => []
  | x :: r => cond (memN K r.length) x .no :: keepO K r
def dropO (K : List Nat) : List Ob → List Ob
  | [] => []
  | x :: r => cond (memN K r.length) .no x :: dropO K r
def mergeO (K : List Nat) (old : List Ob) : List Ob → List Ob
  | [] => []
  | x :: r => cond (memN K r.length && Nat.blt r.length old.length) ((og old r.length).getD .no) x :: mergeO K old r
def oss : List C → List Nat
  | [] => []
  | .os j :: r => j :: oss r
  | _ :: r => oss r
def ptd (sl : List (Nat × V)) (ob : List Ob) : List Nat → List Nat
  | [] => []
  | t :: r => match lk sl (cond (Nat.blt t 1000000) t (Nat.sub t 1000000)) with
    | some (.c (.bp j _)) => cond (Nat.blt t 1000000) (j :: ptd sl ob r) (match og ob j with
      | some (.bx cs) => j :: (oss cs ++ ptd sl ob r)
      | _ => j :: ptd sl ob r)
    | some (.c (.os j)) => j :: ptd sl ob r
    | some (.c (.fm j)) => j :: ptd sl ob r
    | some (.c (.me j)) => j :: ptd sl ob r
    | some (.c (.ov _ j _ _)) => j :: ptd sl ob r
    | _ => ptd sl ob r
def ins (i : Nat) : List Nat → List Nat
  | [] => [i]
  | j :: r => cond (Nat.blt i j) (i :: j :: r) (j :: ins i r)
def del (i : Nat) : List Nat → List Nat
  | [] => []
  | j :: r => cond (Nat.beq j i) (del i r) (j :: del i r)
def toPT : Nat → List (Nat × Nat) → List Nat → List Nat → PT
  | 0, _, _, _ => .done
  | _ + 1,[], _, _ => .done
  | n + 1,(i,0) :: r, o, d => cond (Nat.blt i 1000) (.look i (toPT n r o d)) (toPT n r (ins (Nat.sub i 1000) o) d)
  | n + 1,(i, q + 1) :: r, o, d => cond (Nat.blt i 1000) (.any (ins i o) fun x => cond (Nat.beq x i) (toPT n r o d) (toPT n ((i, q + 1) :: r) (del x o) (x :: d)))
    (cond (memN d (Nat.sub i 1000)) (toPT n r o (del (Nat.sub i 1000) d)) (.any o fun x => cond (Nat.beq x (Nat.sub i 1000)) (toPT n r (del x o) d) (toPT n ((i, q + 1) :: r) (del x o) (x :: d))))
def pidx (i : Nat) : Nat := cond (Nat.blt i 1000) i (Nat.sub i 1000)
def opnS (all : List Oper) (p : List (Nat × Nat)) (xs : List Operand) : Bool := p.all fun q => match dstOf all (pidx q.1) with
  | none => true
  | some t => xs.all fun x => match x with
    | .tmp s => !Nat.beq s t
    | _ => true
def brks : List (Nat × Nat) → List Nat
  | [] => []
  | (i, q) :: r => cond (Nat.blt 1 q) (pidx i :: r.map fun x => pidx x.1) (brks r)
def scV : V → Bool
  | .c (.b _) => true
  | .c (.i _ _) => true
  | .c (.s _) => true
  | .c .u => true
  | _ => false
def rm (t : Nat) : List (Nat × V) → List (Nat × V)
  | [] => []
  | p :: r => cond (Nat.beq p.1 t) (rm t r) (p :: rm t r)
def addL (d : Option Tmp) (v : V) (slL : List (Nat × V)) : List (Nat × V) := match d with
  | none => slL
  | some t => cond (scV v) ((t, v) :: slL) (rm t slL)
def guardedL (all : List Oper) (g : Option (Nat × Bool)) (slL sl : List (Nat × V)) (y n : List (Nat × V) → List (Nat × V) → Option α) : Option α := match g with
  | none => y slL sl
  | some (j, w) => (dstOf all j).bind fun d => (lk slL d).bind fun v => match v with
    | .c (.b q) => cond q (cond w (y ((d, .c (.b true)) :: slL) ((d, .c (.b true)) :: sl)) (n ((d, .c (.b true)) :: slL) ((d, .c (.b true)) :: sl))) (cond w (n ((d, .c (.b false)) :: slL) ((d, .c (.b false)) :: sl)) (y ((d, .c (.b false)) :: slL) ((d, .c (.b false)) :: sl)))
    | .c .u => n slL sl
    | _ => none
def stB (all : List Oper) (p : List (Nat × Nat)) (x : Nat) (sl : List (Nat × V)) (ob : List Ob) (K : Nat → Ob → Option α) : Option α := match all[x]? with
  | some ⟨none, .store t a v, _, _, _, none⟩ => opd sl a fun w => opd sl v fun u => (E.T t).bind fun td => match w, u with
    | .c (.bp j o), .c c => cond (!td.ag && Nat.beq td.sz 1 && isU c && opnS all p [a, v] && p.any fun q => Nat.beq q.1 (Nat.add x 1000)) ((og ob j).bind fun y => match y with
      | .bx cs => cond (Nat.blt o cs.length) (K j (.bx (cs.set o c))) none
      | _ => none) none
    | _, _ => none
  | _ => none
def runB (all : List Oper) : List (Nat × Nat) → Option (Nat × Nat × Ob) → List (Nat × V) → List Ob → (List (Nat × V) → List Ob → Option α) → Option α
  | [], pd, sl, ob, k => match pd with
    | none => k sl ob
    | some _ => none
  | (i,0) :: p, pd, sl, ob, k => match pd with
    | none => cond (Nat.blt i 1000) none (stB E all p (Nat.sub i 1000) sl ob fun j y => runB all p (some (Nat.sub i 1000, j, y)) sl (oset ob j .no) k)
    | some _ => none
  | (i, _ + 1) :: p, pd, sl, ob, k => cond (Nat.blt i 1000) ((all[i]?).bind fun o => guarded all o.guard sl (fun sl => op1 E o.op o.dst sl ob fun v ob' => runB all p pd (putS o.dst v sl) ob' k) (fun sl => runB all p pd (putS o.dst (.c .u) sl) ob k)) (match pd with
    | some (x, j, y) => cond (Nat.beq (Nat.sub i 1000) x) (runB all p none sl (oset ob j y) k) none
    | none => none)
def isEx (o : Op) (slL : List (Nat × V)) : Bool := match o with
  | .extract (.tmp t) _ => (lk slL t).isNone
  | _ => false
def exOp (o : Op) (sl : List (Nat × V)) (K : V → Option α) : Option α := match o with
  | .extract (.tmp t) i => (lk sl t).bind fun v => match v with
    | .t l => (l[i]?).bind fun y => match y with
      | .c z => K (.c z)
      | .a z => K (.a z)
    | _ => none
  | _ => none
def frB (all : List Oper) (p : List (Nat × Nat)) (a d : Nat) (xs : List Operand) : Bool := p.all fun q => Nat.beq q.1 (Nat.add a 1000) || (match dstOf all (pidx q.1) with
  | none => true
  | some t => !Nat.beq t d && xs.all fun x => match x with
    | .tmp s => !Nat.beq s t
    | _ => true)
def erO : Op → Option (List (Nat × Operand))
  | .buildSlice _ _ ps => some ps.toList
  | .alloc _ => some []
  | _ => none
def opnB (all : List Oper) (p : List (Nat × Nat)) (a : Nat) (slL sl : List (Nat × V)) : Bool := match all[a]? with
  | some ⟨some d, op, _, _, _, none⟩ => (match erO op with
    | some ps => (lk sl d).isNone && (lk slL d).isNone && frB all p a d (ps.map (·.2)) && (ps.all fun y => match y.2 with
      | .tmp s => !Nat.beq s d
      | _ => true) && p.any fun q => Nat.beq q.1 (Nat.add a 1000)
    | none => false)
  | _ => false
def reV (j : Nat) : V → V
  | .c (.os _) => .c (.os j)
  | .c (.bp _ _) => .c (.bp j 0)
  | v => v
def runD (all : List Oper) (K : List Nat) (obK : List Ob) : List (Nat × Nat) → List Nat → List (Nat × V) → List (Nat × V) → List Ob → (List (Nat × V) → List Ob → Option α) → Option α
  | [], op, _, sl, ob, k => cond op.isEmpty (k sl ob) none
  | (i,0) :: p, op, slL, sl, ob, k => cond (Nat.blt i 1000) ((all[i]?).bind fun o => guardedL all o.guard slL sl (fun slL sl => cond (isEx o.op slL) (exOp o.op sl fun v => runD all K obK p op (addL o.dst v slL) (putS o.dst v sl) ob k) <| preS E.T o.op slL fun pr => lookOp E o.op (pr ++ slL) obK fun v => runD all K obK p op (putS o.dst v (pr ++ slL)) (putS o.dst v (pr ++ sl)) ob k) (fun slL sl => runD all K obK p op (putS o.dst (.c .u) slL) (putS o.dst (.c .u) sl) ob k))
    (cond (opnB all p (Nat.sub i 1000) slL sl && !memN op (Nat.sub i 1000) && Nat.ble obK.length ob.length) ((all[Nat.sub i 1000]?).bind fun o => op1 E o.op o.dst sl [] fun _ _ => runD all K obK p (ins (Nat.sub i 1000) op) slL sl (.no :: ob) k) none)
  | (i,1) :: p, op, slL, sl, ob, k => cond (Nat.blt i 1000) ((all[i]?).bind fun o => guarded all o.guard sl (fun sl => op1 E o.op o.dst sl (dropO K ob) fun v ob' => runD all K obK p op (addL o.dst v slL) (putS o.dst v sl) (mergeO K ob ob') k) (fun sl => runD all K obK p op (addL o.dst (.c .u) slL) (putS o.dst (.c .u) sl) ob k))
    (cond (memN op (Nat.sub i 1000)) ((all[Nat.sub i 1000]?).bind fun o => op1 E o.op o.dst sl [] fun v ob' => runD all K obK p (del (Nat.sub i 1000) op) (addL o.dst (reV ob.length v) slL) (putS o.dst (reV ob.length v) sl) (ob' ++ ob) k) none)
  | (i, _ + 2) :: p, op, _, sl, ob, k => cond (op.isEmpty && Nat.blt i 1000) ((all[i]?).bind fun o => guarded all o.guard sl (fun sl => op1 E o.op o.dst sl ob fun v ob' => runB E all p none (putS o.dst v sl) ob' k) (fun sl => runB E all p none (putS o.dst (.c .u) sl) ob k)) none
structure Fx where
  F : Fin
  cuts : List (Cut (Pr Md.T F.ms))
  pl : List (Nat × List (Nat × Nat) × List Nat)
abbrev Run (X : Type) := Code → List Fr → List Nat → List (Nat × V) → List Ob → Option X
def fpl : List (Nat × List (Nat × Nat) × List Nat) → Nat → Option (List (Nat × Nat) × List Nat)
  | [], _ => none
  | p :: r, i => cond (Nat.beq p.1 i) (some p.2) (fpl r i)
def spl (pl : List (Nat × List (Nat × Nat) × List Nat)) (id : Nat) (sl : List (Nat × V)) (K : List (Nat × V) → Option α) : Option α := match fpl pl (Nat.add id 1000000) with
  | some (_,[t, m]) => (lk sl t).bind fun v => match v with
    | .c (.i k n) => ixc m n fun q => K [(t, .c (.i k (q : Int)))]
    | _ => none
  | _ => K []
def drawn (pl : List (Nat × List (Nat × Nat) × List Nat)) (id : Nat) (ops : Array Oper) (sl : List (Nat × V)) (ob : List Ob) (k : List (Nat × V) → List Ob → Option α) : Option α := (fpl pl id).bind fun p =>
  cond (Region.noSelect ops && planN ops (masksN ops) (brks p.1) ops.size (toPT (2 * p.1.length) p.1 [] []) 0) (runD E ops.toList (ptd sl ob p.2) (keepO (ptd sl ob p.2) ob) p.1 [] sl sl ob k) none
def step (x : Fx) (n : Nat) (ih : Run (Pr Md.T x.F.ms)) : Run (Pr Md.T x.F.ms) := fun c ctx p sl ob => match c with
  | .skip => match ctx with
    | [] => finK E x.F sl ob
    | .seq b p :: r => ih b r p sl ob
    | .block _ :: r => ih .skip r [] sl ob
    | .loop b p :: r => ih b (.loop b p :: r) p sl ob
  | .region id ops d => match fnd x.cuts id with
    | some c => cond (eqNs c.path p && clsB sl c.cl) (lks sl c.slots fun vs => decL c.ms vs ob fun y _ => c.jump n y) none
    | none => spl x.pl id sl fun pr => cond d (drawn E x.pl id ops (pr ++ sl) ob fun sl ob => ih .skip ctx [] sl ob) (runOps E ops.toList ops.toList (pr ++ sl) ob fun sl ob => ih .skip ctx [] sl ob)
  | .seq a b => ih a (.seq b (1 :: p) :: ctx) (0 :: p) sl ob
  | .cond y a b => opd sl y fun v => vB v fun q => cond q (ih a ctx (2 :: p) sl ob) (ih b ctx (3 :: p) sl ob)
  | .block i b => ih b (.block i :: ctx) (4 :: p) sl ob
  | .loop b => ih b (.loop b (5 :: p) :: ctx) (5 :: p) sl ob
  | .exit i => match ctx with
    | [] => none
    | .block k :: r => cond (Nat.beq k i) (ih .skip r [] sl ob) (ih (.exit i) r [] sl ob)
    | _ :: r => ih (.exit i) r [] sl ob
  | .ret => finK E x.F sl ob
  | _ => none
def ev (x : Fx) (n : Nat) (m : Nat) : Run (Pr Md.T x.F.ms) := Nat.rec (fun _ _ _ _ _ => none) (fun _ ih => step E x n ih) m
def into (c : Code) (d : Nat) (p : List Nat) (ctx : List Fr) : Option (Code × List Fr) := match c, d with
  | .seq a b,0 => some (a, .seq b (1 :: p) :: ctx)
  | .seq _ b,1 => some (b, ctx)
  | .cond _ a _,2 => some (a, ctx)
  | .cond _ _ b,3 => some (b, ctx)
  | .block i b,4 => some (b, .block i :: ctx)
  | .loop b,5 => some (b, .loop b (5 :: p) :: ctx)
  | _, _ => none
def at_ : Code → List Nat → Option (Code × List Fr)
  | c,[] => some (c,[])
  | c, d :: p => (at_ c p).bind fun q => into q.1 d p q.2
def frag (x : Fx) (body : Code) (c : Cut (Pr Md.T x.F.ms)) (m n : Nat) (y : Pr Md.T c.ms) : Option (Pr Md.T x.F.ms) := (at_ body c.path).bind fun q => match q.1 with
  | .region id ops d => spl x.pl id (slC c y) fun pr => cond d (drawn E x.pl id ops (pr ++ slC c y) (encL c.ms y []).2 fun sl ob => ev E x n m .skip q.2 [] sl ob)
      (runOps E ops.toList ops.toList (pr ++ slC c y) (encL c.ms y []).2 fun sl ob => ev E x n m .skip q.2 [] sl ob)
  | _ => none
def head (x : Fx) (body : Code) (ps : List Md) (m n : Nat) (y : Pr Md.T ps) : Option (Pr Md.T x.F.ms) :=
  ev E x n m body [] [] ((List.range ps.length).zip (encL ps y []).1) (encL ps y []).2
end Go.V
