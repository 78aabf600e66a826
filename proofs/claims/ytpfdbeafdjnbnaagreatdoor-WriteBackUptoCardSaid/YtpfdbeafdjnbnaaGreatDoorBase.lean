/-
  Walks and laws of this seat.
-/
import Derived.WalkKit
import Derived.WalkSpells
import Derived.WalkLawsBesides
import Derived.Deep.Quiet
import Derived.Deep.LoopGhost
import Derived.KernelRfl
import Derived.RangeFuncFrom
import Derived.OrdersIn
import Derived.Sort.LoopGhostIn
import Derived.RangeFuncLeaves
import Derived.Laws.AppendOwnNone
import Derived.Laws.CopyOwn
import Derived.Great.BuildSlice
import Derived.ProofKit
import Derived.SizedLaws
import Derived.OpenShut
namespace Go.Sl
section
abbrev pq (b o : Nat) : Value := .pointer (some ⟨b, o, none⟩)
open Go.RowKit
abbrev Fz := Nat → Option Obj
def Fz.le (f f' : Fz) : Prop := ∀ b o, f b = some o → f' b = some o
theorem Fz.le.refl (f : Fz) : Fz.le f f := fun _ _ h => h
theorem Fz.le.trans {f g h : Fz} (a : Fz.le f g) (b : Fz.le g h) : Fz.le f h := fun _ _ e => b _ _ (a _ _ e)
inductive Ent where
  | blk (b : Nat) (o : Obj)
  | row (v : Value) (e : TypeId) (k : Nat) (rows : List (List Value))
def OneRow (k : Nat) (r : List Value) : Prop := r.length = k ∧ ∀ x ∈ r, x.oneCell' = true
def Ent.key : Ent → Option Nat
  | .blk b _ => some b
  | .row v _ _ _ => v.ownBlock
def Ent.holds (w : World) : Ent → Prop
  | .blk b o => w.heap[b]? = some o
  | .row v e k rows => w.ownsRow 0 e k v rows.length rows.flatten ∧ ∀ r ∈ rows, OneRow k r
structure Cw (w0 : World) (f : Fz) (L : List Ent) (w : World) : Prop where
  os : w.os = w0.os
  tape : w.tape = w0.tape
  output : w.output = w0.output
  size : w0.heap.size ≤ w.heap.size
  frz : ∀ b o, f b = some o → w.heap[b]? = some o
  live : ∀ e ∈ L, e.holds w
  apart : ∀ e ∈ L, ∀ b, e.key = some b → f b = none
  sep : ∀ (i j : Nat) (x y : Ent), L[i]? = some x → L[j]? = some y → i ≠ j → ∀ k, x.key = some k → y.key = some k → False
theorem nbeq {d t : Nat} (h : d ≠ t) : Nat.beq d t = false := by
  cases e : Nat.beq d t with
  | false => rfl
  | true => exact absurd (Nat.eq_of_beq_eq_true e) h
def look : List (Nat × Value) → Nat → Option Value
  | [], _ => none
  | (s, v) :: E, t => bif Nat.beq s t then some v else look E t
structure Ev (n : Nat) (E : List (Nat × Value)) (a : Act) : Prop where
  size : a.tmps.size = n
  defers : a.defers = []
  slots : ∀ t v, look E t = some v → a.tmps[t]? = some v
def opv (E : List (Nat × Value)) : Operand → Option Value
  | .tmp t => look E t
  | .const v => some v
  | .global g => some (.pointer (some ⟨g,0, none⟩))
  | .func f => some (.func (.func f) #[] #[])
theorem Ev.eval {n E a} (h : Ev n E a) {x : Operand} {v : Value} (hx : opv E x = some v) : a.eval x = v := by
  cases x with
  | tmp t =>
    have := h.slots t v hx
    simp [Act.eval, Array.getD_eq_getD_getElem?, this]
  | const v' => simpa [opv, Act.eval] using hx
  | global g => simpa [opv, Act.eval] using hx
  | func f => simpa [opv, Act.eval] using hx
theorem Ev.put {n E a} (h : Ev n E a) {d : Nat} (hd : d < n) (v : Value) : Ev n ((d, v) :: E) (a.put (some d) v) := by
  refine ⟨by simp [Act.put, h.size], h.defers, fun t u ht => ?_⟩
  simp only [look] at ht
  by_cases e : d = t
  · subst e
    simp at ht
    subst ht
    simp [Act.put, h.size, hd]
  · have := nbeq e
    rw [this] at ht
    have := h.slots t u ht
    simp only [Act.put]
    rw [Array.getElem?_setIfInBounds]
    simp [e, this]
def Sub (E : List (Nat × Value)) : List (Nat × Value) → Prop
  | [] => True
  | (t, v) :: E' => look E t = some v ∧ Sub E E'
theorem Sub.look {E : List (Nat × Value)} : ∀ {E' : List (Nat × Value)}, Sub E E' → ∀ t v, look E' t = some v → Sl.look E t = some v
  | [], _, t, v, h => by simp [Sl.look] at h
  | (s, u) :: E', hs, t, v, h => by
    obtain ⟨h1, h2⟩ := hs
    simp only [Sl.look] at h
    by_cases e : s = t
    · subst e; simp at h; subst h; exact h1
    · have := nbeq e
      rw [this] at h
      exact Sub.look h2 t v h
theorem Ev.sub {n E E' a} (h : Ev n E a) (hs : Sub E E') : Ev n E' a := ⟨h.size, h.defers, fun t v ht => h.slots t v (hs.look t v ht)⟩
structure St (n : Nat) (w0 : World) (f : Fz) (L : List Ent) (E : List (Nat × Value)) (a : Act) (w : World) : Prop where
  ev : Ev n E a
  cw : Cw w0 f L w
theorem St.sub {n w0 f L E E' a w} (h : St n w0 f L E a w) (hs : Sub E E') : St n w0 f L E' a w := ⟨h.ev.sub hs, h.cw⟩
abbrev AP := Act → World → Prop
def Post (Qn : AP) (Qe : Nat → AP) (Qr : AP) (Qg : Nat → AP) : Exit → AP
  | .normal => Qn
  | .exit i => Qe i
  | .ret => Qr
  | .goto l => Qg l
  | _ => fun _ _ => False
def wideR (r : Option Nat) : Fence := { Fence.wide with round := r }
def withM (M : List Deferred) (a : Act) : Act := { a with defers := M }
def upM (M : List Deferred) (Q : Exit → AP) : Exit → AP := fun e a w => ∃ b, a = withM M b ∧ Q e b w
theorem zi4 (M : List Deferred) (a : Act) (d : Option Tmp) (v : Value) : (withM M a).put d v = withM M (a.put d v) := by cases d <;> rfl
def cwp (P : Program) (c : Code) (Q : Exit → AP) : AP := fun a w => ∀ (r : Option Nat) (M : List Deferred), c.wpIn (wideR r) 0 P (upM M Q) (withM M a) w
def W (P : Program) (c : Code) (Qn : AP) (Qe : Nat → AP) (Qr : AP) (Qg : Nat → AP) : AP := cwp P c (Post Qn Qe Qr Qg)
section
variable {P : Program} {Qn : AP} {Qe : Nat → AP} {Qr : AP} {Qg : Nat → AP} {a : Act} {w : World} {Q Q' : Exit → AP}
theorem zta {c : Code} (h : cwp P c Q a w) (hq : ∀ e a w, Q e a w → Q' e a w) : cwp P c Q' a w :=
  fun r M => wpIn_mono (h r M) fun _ _ _ ⟨b, h1, h2⟩ => ⟨b, h1, hq _ _ _ h2⟩
theorem cwp_seq {x y : Code} (h : cwp P x (Exit.then (cwp P y Q) Q) a w) : cwp P (.seq x y) Q a w := fun r M => by
  refine wpIn_seq (wpIn_mono (h r M) ?_)
  rintro e a' w' ⟨b, rfl, h2⟩
  cases e with
  | normal => exact h2 r M
  | _ => exact ⟨b, rfl, h2⟩
theorem W.mono {c : Code} {Qn' : AP} {Qe' : Nat → AP} {Qr' : AP} {Qg' : Nat → AP} (h : W P c Qn Qe Qr Qg a w) (hn : ∀ a w, Qn a w → Qn' a w) (he : ∀ i a w, Qe i a w → Qe' i a w)
    (hr : ∀ a w, Qr a w → Qr' a w) (hg : ∀ i a w, Qg i a w → Qg' i a w) : W P c Qn' Qe' Qr' Qg' a w :=
  zta h fun e a w q => by cases e <;> first | exact hn _ _ q | exact he _ _ _ q | exact hr _ _ q | exact hg _ _ _ q | exact q
theorem zai {x y : Code} (h : ∀ K : AP,(∀ a w, W P y Qn Qe Qr Qg a w → K a w) → W P x K Qe Qr Qg a w) : W P (.seq x y) Qn Qe Qr Qg a w :=
  cwp_seq (zta (h _ fun _ _ h => h) fun e a w q => by cases e <;> exact q)
theorem zaj (h : Qn a w) : W P .skip Qn Qe Qr Qg a w := fun _ _ => wpIn_skip ⟨_, rfl, h⟩
theorem W_label {l : Nat} (h : Qn a w) : W P (.label l) Qn Qe Qr Qg a w := fun _ _ => wpIn_label ⟨_, rfl, h⟩
theorem zc0 {i : Nat} (h : Qe i a w) : W P (.exit i) Qn Qe Qr Qg a w := fun _ _ => wpIn_exit ⟨_, rfl, h⟩
theorem zn1 {i : Nat} (h : Qg i a w) : W P (.goto i) Qn Qe Qr Qg a w := fun _ _ => wpIn_goto ⟨_, rfl, h⟩
theorem zax (h : Qr a w) : W P .ret Qn Qe Qr Qg a w := fun _ _ => wpIn_ret ⟨_, rfl, h⟩
theorem zam {id : Nat} {c : Code} (h : ∀ Qe' : Nat → AP,(∀ a w, Qn a w → Qe' id a w) → (∀ i, Nat.beq i id = false → ∀ a w, Qe i a w → Qe' i a w) → W P c Qn Qe' Qr Qg a w) :
    W P (.block id c) Qn Qe Qr Qg a w := by
  intro r M
  refine wpIn_block (wpIn_mono (h (fun i => if i = id then Qn else Qe i) (fun a w h => by simpa using h) (fun i hi a w h => by
    have : i ≠ id := by intro e; subst e; simp at hi
    simpa [this] using h) r M) ?_)
  rintro e a w ⟨b, rfl, q⟩
  cases e <;> simp only [Post, Exit.inBlock] at q ⊢ <;> first | exact ⟨b, rfl, q⟩ | skip
  split
  · rename_i hi; rw [if_pos hi] at q; exact ⟨b, rfl, q⟩
  · rename_i hi; rw [if_neg hi] at q; exact ⟨b, rfl, q⟩
theorem zah {n w0 f L E} {c : Operand} {x y : Code} {b : Bool} (hs : St n w0 f L E a w) (hc : opv E c = some (.bool b))
    (ht : b = true → W P x Qn Qe Qr Qg a w) (hf : b = false → W P y Qn Qe Qr Qg a w) : W P (.cond c x y) Qn Qe Qr Qg a w :=
  fun r M => wpIn_cond_split (a := withM M a) (hs.ev.eval hc) (fun e => ht e r M) (fun e => hf e r M)
open Classical in
theorem zd1 {c : Code} {G : Type} (I : G → AP) (m : G → Nat) (g0 : G) (h0 : I g0 a w)
    (round : ∀ g a w, I g a w → ∀ K : AP,(∀ g' a' w', m g' < m g → I g' a' w' → K a' w') → W P c K Qe Qr Qg a w) : W P (.loop c) Qn Qe Qr Qg a w := by
  intro r M
  refine wpIn_loop_ghost (fun k a w => ∃ b, a = withM M b ∧ ∃ g, m g = k ∧ I g b w) (m g0) ⟨a, rfl, g0, rfl, h0⟩ ?_
  rintro k a w ⟨b, rfl, g, rfl, hI⟩
  refine wpIn_mono (round g b w hI _ (fun g' a' w' hlt hI' => (⟨m g', hlt, g', rfl, hI'⟩ : ∃ n', n' < m g ∧ ∃ g, m g = n' ∧ I g a' w')) r M) ?_
  rintro e a w ⟨b, rfl, q⟩
  cases e with
  | normal => obtain ⟨n', h1, h2⟩ := q; exact ⟨n', h1, b, rfl, h2⟩
  | _ => exact ⟨b, rfl, q⟩
def uponS (P : Program) (K : Value → World → Prop) : Result Next → Prop
  | .ok (.value v) w' => K v w'
  | .ok .skip w' => K undef w'
  | .ok (.enter f args) w' => Calls P f args w' fun e w'' => ∃ v, e = .returned v ∧ K v w''
  | .ok (.round l f tmps assign body) w' => RoundIn Fence.wide 0 P l f tmps assign body w' fun e w'' => ∃ v, e = .returned v ∧ K v w''
  | _ => False
def opS (P : Program) (o : Oper) (a : Act) (w : World) (K : AP) : Prop := uponS P (fun v w' => K (a.put o.dst v) w') ((execOp a.eval o).run P w)
theorem zor {K K' : Value → World → Prop} {x : Result Next} (hk : ∀ v w, K v w → K' v w) (h : uponS P K x) : uponS P K' x := by
  cases x with
  | ok x w' => cases x <;> simp only [uponS] at h ⊢ <;> first | exact hk _ _ h | exact Calls.mono h fun _ _ ⟨v, h1, h2⟩ => ⟨v, h1, hk _ _ h2⟩ | exact RoundIn.mono h fun _ _ ⟨v, h1, h2⟩ => ⟨v, h1, hk _ _ h2⟩
  | halt x w' => exact h
theorem zpv {o : Oper} {K K' : AP} (hk : ∀ a w, K a w → K' a w) (h : opS P o a w K) : opS P o a w K' := zor (fun _ _ h => hk _ _ h) h
theorem zsh {r : Option Nat} {n : Nat} {f : FuncId} {args : Array Value} {R : Ending → World → Prop} (h : Calls P f args w R) : CallsIn (wideR r) n P f args w R :=
  ⟨trivial, fun cs _ => (callsIn_wide (n := n).2 h).2 cs (room_wide _)⟩
theorem zus {r : Option Nat} {M : List Deferred} {o : Oper} {K K' : AP} (hK : ∀ a w, K a w → K' (withM M a) w) (h : opS P o a w K) : o.wpIn (wideR r) 0 P (withM M a) w K' Q := by
  refine ⟨fun _ _ => trivial, ?_⟩
  have hx : o.semAt r a.eval = execOp a.eval o := by
    cases r with
    | none => rfl
    | some l =>
      unfold opS at h
      obtain ⟨d, op, ty, pos, af, g⟩ := o
      cases op <;> first | rfl | skip
      rename_i c
      exfalso
      revert h
      simp only [execOp, Sem.run_bind, Sem.run_pure]
      cases (resolve a.eval c ty).run P w <;> simp [Result.andThen, uponS]
  show o.uponIn (wideR r) 0 P (withM M a) K' Q ((o.semAt r a.eval).run P w)
  rw [hx]
  unfold opS at h
  revert h
  generalize (execOp a.eval o).run P w = x
  intro h
  cases x with
  | ok x w' =>
    cases x <;> simp only [uponS] at h
    case value v => rw [Oper.uponIn_value, zi4]; exact hK _ _ h
    case skip => rw [Oper.uponIn_skip, zi4]; exact hK _ _ h
    case enter f args =>
      rw [Oper.uponIn_enter]
      refine ⟨fun hh => by simp [wideR, Fence.wide] at hh, zsh (Calls.mono h fun e w'' he => ?_)⟩
      obtain ⟨v, rfl, he⟩ := he
      simp only
      rw [zi4]; exact hK _ _ he
    case round l f tmps assign body =>
      rw [Oper.uponIn_round]
      refine ⟨fun hh => by simp [wideR, Fence.wide] at hh, ?_⟩
      have h' : RoundIn (wideR r) 0 P l f tmps assign body w' fun e w'' => ∃ v, e = .returned v ∧ K (a.put o.dst v) w'' := h
      refine RoundIn.mono h' fun e w'' he => ?_
      obtain ⟨v, rfl, he⟩ := he
      simp only
      rw [zi4]; exact hK _ _ he
  | halt x w' => simp only [uponS] at h
def RLd (P : Program) (ops : Array Oper) : List Oper → AP → AP
  | [], K => K
  | o :: rest, K => fun a w => if Region.wanted o (yielded ops a.tmps) then opS P o a w (RLd P ops rest K) else RLd P ops rest K (a.put o.dst undef) w
structure RL (P : Program) (ops : Array Oper) (l : List Oper) (K : AP) (a : Act) (w : World) : Prop where
  d : RLd P ops l K a w
theorem RL_in {r : Option Nat} {M : List Deferred} {ops : Array Oper} : ∀ {l : List Oper} {a : Act} {w : World}, RLd P ops l (Q .normal) a w → wpListIn (wideR r) 0 P ops (upM M Q) l (withM M a) w
  | [], a, w, h => ⟨a, rfl, h⟩
  | o :: l, a, w, h => by
    unfold RLd at h
    unfold wpListIn
    show if Region.wanted o (yielded ops a.tmps) then _ else _
    split
    · rename_i hw
      rw [if_pos hw] at h
      exact zus (fun a w h => RL_in h) h
    · rename_i hw
      rw [if_neg hw] at h
      refine ⟨fun _ _ => trivial, ?_⟩
      rw [zi4]
      exact RL_in h
theorem za2 {id : Nat} {l : List Oper} (h : RL P l.toArray l Qn a w) : W P (.region id l.toArray false) Qn Qe Qr Qg a w :=
  fun _ _ => wpIn_region_lit (RL_in (Q := Post Qn Qe Qr Qg) h.d)
section
variable {ops : Array Oper} {rest : List Oper} {o : Oper} {K : AP}
theorem za0 (h : K a w) : RL P ops [] K a w := ⟨h⟩
theorem zjg (h : ∀ K' : AP,(∀ a w, RL P ops rest K a w → K' a w) → if Region.wanted o (yielded ops a.tmps) then opS P o a w K' else K' (a.put o.dst undef) w) : RL P ops (o :: rest) K a w :=
  ⟨h _ fun _ _ h => h.d⟩
theorem zko {C : World → Prop} {K' : AP} {v : Value} (hw : C w) (h : ∀ w', C w' → K' (a.put o.dst v) w') (hh : o.quietAt P a C w v) : opS P o a w K' := by
  unfold Oper.quietAt at hh
  unfold opS
  generalize (execOp a.eval o).run P w = r at *
  cases r with
  | ok n w' =>
    cases n <;> simp only [Oper.quietUpon] at hh <;> simp only [uponS]
    case value u => obtain ⟨e1, e2⟩ := hh; rw [e1, e2]; exact h _ hw
    case skip => obtain ⟨e1, e2⟩ := hh; rw [e1, ← e2]; exact h _ hw
    case enter f args =>
      obtain ⟨e1, hc⟩ := hh
      rw [e1]
      exact hc.mono fun e w'' ⟨he, hw''⟩ => ⟨v, he, h _ hw''⟩
  | halt x w' => simp only [Oper.quietUpon] at hh
def Y (P : Program) (C : World → Prop) (n : Nat) (E : List (Nat × Value)) (o : Oper) (v : Value) : Prop := ∀ a, Ev n E a → ∀ w, C w → o.quietAt P a C w v
def Dst (n : Nat) (o : Oper) (v : Value) (E E' : List (Nat × Value)) : Prop := (∃ d, o.dst = some d ∧ d < n ∧ E' = (d, v) :: E) ∨ (o.dst = none ∧ E' = E)
theorem Ev.dst {n E E' a v} {o : Oper} (h : Ev n E a) (hd : Dst n o v E E') : Ev n E' (a.put o.dst v) := by
  rcases hd with ⟨d, e, hlt, rfl⟩ | ⟨e, rfl⟩
  · rw [e]; exact h.put hlt v
  · rw [e]; exact h
def Want (ops : Array Oper) (E : List (Nat × Value)) (o : Oper) (b : Bool) : Prop :=
  (o.guard = none ∧ b = true) ∨ ∃ j want d c, o.guard = some (j, want) ∧ (ops[j]?).bind (·.dst) = some d ∧ look E d = some c ∧ ((c = .bool want ∧ b = true) ∨ ((c = .bool (!want) ∨ c = undef) ∧ b = false))
theorem Want.wanted {n E b} (h : Ev n E a) (hw : Want ops E o b) : Region.wanted o (yielded ops a.tmps) = b := by
  rcases hw with ⟨e, rfl⟩ | ⟨j, want, d, c, e, hd, hl, hc⟩
  · simp [Region.wanted, e]
  · have hs := h.slots d c hl
    simp only [Region.wanted, e, yielded, hd, Option.bind_some, hs]
    rcases hc with ⟨rfl, rfl⟩ | ⟨rfl | rfl, rfl⟩
    · simp
    · cases want <;> simp
    · simp [undef]
theorem RL_y {n w0 f L E E' v} (hs : St n w0 f L E a w) (hw : Want ops E o true) (hd : Dst n o v E E') (hy : Y P (Cw w0 f L) n E o v)
    (h : ∀ a w, St n w0 f L E' a w → RL P ops rest K a w) : RL P ops (o :: rest) K a w := by
  refine zjg fun K' hK' => ?_
  rw [if_pos (hw.wanted hs.ev)]
  exact zko hs.cw (fun w' hC => hK' _ _ (h _ _ ⟨hs.ev.dst hd, hC⟩)) (hy a hs.ev w hs.cw)
theorem zvu {n w0 f L E E'} (hs : St n w0 f L E a w) (hw : Want ops E o false) (hd : Dst n o undef E E')
    (h : ∀ a w, St n w0 f L E' a w → RL P ops rest K a w) : RL P ops (o :: rest) K a w := by
  refine zjg fun K' hK' => ?_
  rw [if_neg (by rw [hw.wanted hs.ev]; decide)]
  exact hK' _ _ (h _ _ ⟨hs.ev.dst hd, hs.cw⟩)
def wpOpS (P : Program) (ops : Array Oper) (i : Nat) (K : AP) : AP := fun a w => match ops[i]? with
  | none => K a w
  | some o => if Region.wanted o (yielded ops a.tmps) then opS P o a w K else K (a.put o.dst undef) w
def anyS (P : Program) (ops : Array Oper) (K : AP) : Nat → Array Bool → AP
  | 0, listed => fun a w => Region.ready .any ops listed = [] ∧ K a w
  | m + 1, listed => fun a w => (Region.ready .any ops listed = [] → K a w) ∧ ∀ i ∈ Region.ready .any ops listed, wpOpS P ops i (anyS P ops K m (listed.setIfInBounds i true)) a w
theorem zoq {i : Nat} {K K' : AP} (hk : ∀ a w, K a w → K' a w) (h : wpOpS P ops i K a w) : wpOpS P ops i K' a w := by
  unfold wpOpS at *
  split
  · rename_i ho; rw [ho] at h; exact hk _ _ h
  · rename_i o ho
    rw [ho] at h
    simp only at h ⊢
    split
    · rename_i hw; rw [if_pos hw] at h; exact zpv hk h
    · rename_i hw; rw [if_neg hw] at h; exact hk _ _ h
theorem zqi {r : Option Nat} {M : List Deferred} : ∀ (m : Nat) (listed : Array Bool) (a : Act) (w : World), anyS P ops (Q .normal) m listed a w → wpAnyIn (wideR r) 0 P .any ops (upM M Q) m listed (withM M a) w
  | 0, _, a, _, h => ⟨h.1, a, rfl, h.2⟩
  | m + 1, listed, a, w, h => ⟨fun h0 => ⟨a, rfl, h.1 h0⟩, fun i hi => by
    have h1 := h.2 i hi
    unfold wpOpS at h1
    unfold wpOpIn
    cases ho : ops[i]? with
    | none => rw [ho] at h1; exact zqi m _ a w h1
    | some o =>
      rw [ho] at h1
      simp only at h1 ⊢
      show if Region.wanted o (yielded ops a.tmps) then _ else _
      split
      · rename_i hw
        rw [if_pos hw] at h1
        exact zus (fun a w h => zqi m _ a w h) h1
      · rename_i hw
        rw [if_neg hw] at h1
        refine ⟨fun _ _ => trivial, ?_⟩
        rw [zi4]
        exact zqi m _ _ w h1⟩
theorem W_any {id : Nat} (hm : P.follows .mixedOrders = true) (h : anyS P ops Qn ops.size (Array.replicate ops.size false) a { w with drawn := w.drawn + 1 }) : W P (.region id ops true) Qn Qe Qr Qg a w :=
  fun _ _ => wpIn_region_any hm (zqi (Q := Post Qn Qe Qr Qg) _ _ _ _ h)
theorem zin {C : World → Prop} {Qq : Act → Prop} (hq : ∀ a w, C w → Qq a → K a w) : ∀ (m : Nat) (listed : Array Bool) (a : Act) (w : World), C w → wpAnyQ P .any ops C Qq m listed a → anyS P ops K m listed a w
  | 0, _, _, _, hw, h => ⟨h.1, hq _ _ hw h.2⟩
  | m + 1, listed, a, w, hw, h => ⟨fun h0 => hq _ _ hw (h.1 h0), fun i hi => by
    have h1 := h.2 i hi
    unfold qOp at h1
    unfold wpOpS
    cases ho : ops[i]? with
    | none => rw [ho] at h1; exact zin hq m _ a w hw h1
    | some o =>
      rw [ho] at h1
      simp only at h1 ⊢
      split
      · rename_i hw'
        rw [if_pos hw'] at h1
        obtain ⟨v, h2, h3⟩ := h1
        exact zko hw (fun w' hw' => zin hq m _ _ w' hw' h3) (h2 w hw)
      · rename_i hw'
        rw [if_neg hw'] at h1
        exact zin hq m _ _ w hw h1⟩
def QL (P : Program) (ops : Array Oper) (C : World → Prop) (l : List Oper) (K : AP) (a : Act) : Prop := wpQuiet P ops C (fun a => ∀ w, C w → K a w) l a
theorem Cw.drew {w0 f L} (h : Cw w0 f L w) : Cw w0 f L { w with drawn := w.drawn + 1 } := ⟨h.os, h.tape, h.output, h.size, h.frz, fun e he => by
  have := h.live e he
  cases e <;> exact this, h.apart, h.sep⟩
theorem zju {id : Nat} {l : List Oper} {n w0 f L E} (hs : St n w0 f L E a w) (hm : P.follows .mixedOrders = true) (hB : Region.lexB .any l.toArray = true)
    (h : ∀ a, Ev n E a → QL P l.toArray (Cw w0 f L) l Qn a) : W P (.region id l.toArray true) Qn Qe Qr Qg a w :=
  by
  simp only [Region.lexB, Bool.and_eq_true] at hB
  refine W_any hm (zin (C := Cw w0 f L) (Qq := fun a' => ∀ w', Cw w0 f L w' → Qn a' w') (fun _ w' hw' h => h w' hw') _ _ _ _ hs.cw.drew ?_)
  have := wpAnyQ_lex (C := Cw w0 f L) (md := .any) hB.1 l.toArray.toList 0 (Array.replicate l.toArray.size false) a (by simp) (by simpa using hB.2) (h a hs.ev)
  simpa using this
theorem zfw {n w0 f L E} (he : Ev n E a) (h : ∀ a w, St n w0 f L E a w → K a w) : QL P ops (Cw w0 f L) [] K a := fun w hw => h a w ⟨he, hw⟩
theorem QL_y {n w0 f L E E' v} (he : Ev n E a) (hw : Want ops E o true) (hd : Dst n o v E E') (hy : Y P (Cw w0 f L) n E o v)
    (h : ∀ a, Ev n E' a → QL P ops (Cw w0 f L) rest K a) : QL P ops (Cw w0 f L) (o :: rest) K a := by
  refine wpQuiet_step fun K' hK' => ?_
  rw [if_pos (hw.wanted he)]
  exact ⟨v, hy a he, hK' _ (h _ (he.dst hd))⟩
theorem zvz {n w0 f L E E'} (he : Ev n E a) (hw : Want ops E o false) (hd : Dst n o undef E E')
    (h : ∀ a, Ev n E' a → QL P ops (Cw w0 f L) rest K a) : QL P ops (Cw w0 f L) (o :: rest) K a := by
  refine wpQuiet_step fun K' hK' => ?_
  rw [if_neg (by rw [hw.wanted he]; decide)]
  exact hK' _ (h _ (he.dst hd))
theorem Want.free (h : o.guard = none) {E} : Want ops E o true := .inl ⟨h, rfl⟩
theorem Want.yes {E j want d} (h : o.guard = some (j, want)) (hd : (ops[j]?).bind (·.dst) = some d) (hl : look E d = some (.bool want)) : Want ops E o true := .inr ⟨j, want, d, _, h, hd, hl, .inl ⟨rfl, rfl⟩⟩
theorem Want.no {E j want d} (h : o.guard = some (j, want)) (hd : (ops[j]?).bind (·.dst) = some d) (hl : look E d = some (.bool (!want))) : Want ops E o false := .inr ⟨j, want, d, _, h, hd, hl, .inr ⟨.inl rfl, rfl⟩⟩
theorem Want.un {E j want d} (h : o.guard = some (j, want)) (hd : (ops[j]?).bind (·.dst) = some d) (hl : look E d = some undef) : Want ops E o false := .inr ⟨j, want, d, _, h, hd, hl, .inr ⟨.inr rfl, rfl⟩⟩
theorem Dst.to {n d v E} (h : o.dst = some d) (hlt : d < n) : Dst n o v E ((d, v) :: E) := .inl ⟨d, h, hlt, rfl⟩
theorem Dst.drop {n v E} (h : o.dst = none) : Dst n o v E E := .inr ⟨h, rfl⟩
end
end
end
section
open Go.RowKit
section
variable {P : Program} {f : Fz} {L : List Ent} {w0 w : World} {n : Nat} {E : List (Nat × Value)}
def Ent.cell (b o : Nat) (v : Value) : Ent → Prop
  | .blk b' (.cells C _ _) => b' = b ∧ C[o]? = some v
  | .row (.slice (some a) _ _) _ _ rows => a = ⟨b,0, none⟩ ∧ rows.flatten[o]? = some v
  | _ => False
def Cell (f : Fz) (L : List Ent) (b o : Nat) (v : Value) : Prop :=
  (∃ C e fr, f b = some (.cells C e fr) ∧ C[o]? = some v) ∨ ∃ x ∈ L, x.cell b o v
theorem Cell.mono {f' : Fz} {L' : List Ent} {b o v} (h : Cell f L b o v) (hf : Fz.le f f') (hL : ∀ e ∈ L, e ∈ L') : Cell f' L' b o v := by
  rcases h with ⟨C, e, fr, h1, h2⟩ | ⟨x, hx, h⟩
  · exact .inl ⟨C, e, fr, hf _ _ h1, h2⟩
  · exact .inr ⟨x, hL x hx, h⟩
theorem Cell.cell? {b o v} (h : Cell f L b o v) (hC : Cw w0 f L w) : w.cell? ⟨b, o, none⟩ = some v := by
  rcases h with ⟨C, e, fr, h1, h2⟩ | ⟨x, hx, h⟩
  · have := hC.frz b _ h1
    simp [World.cell?, this, h2]
  · have hl := hC.live x hx
    cases x with
    | blk b' o' =>
      cases o' <;> simp only [Ent.cell] at h
      obtain ⟨rfl, h2⟩ := h
      simp only [Ent.holds] at hl
      simp [World.cell?, hl, h2]
    | row sv e k rows =>
      unfold Ent.cell at h
      split at h <;> try exact h.elim
      · rename_i hh; cases hh
      · rename_i a _ _ _ _ _ hh
        cases hh
        obtain ⟨rfl, h2⟩ := h
        simp only [Ent.holds] at hl
        have := hl.1.cells (g := b) rfl o v h2
        rw [show (⟨b,0, none⟩ : Addr).add o = ⟨b, o, none⟩ from by unfold Addr.add; split <;> simp_all] at this
        exact this
def eaddr (v : Value) (k i j : Nat) : Value := match v with
  | .slice (some a) _ _ => .pointer (some ⟨a.block, a.off + (i * k + j), none⟩)
  | _ => undef
structure Rd (f : Fz) (L : List Ent) (v : Value) (k : Nat) (rows : List (List Value)) : Prop where
  len : ∀ r ∈ rows, OneRow k r
  val : ∃ ao cap, v = .slice ao rows.length cap ∧ rows.length ≤ cap ∧ (ao = none → rows = []) ∧
    ∀ a, ao = some a → (rows ≠ [] → a.spot = none) ∧ ∀ i r, rows[i]? = some r → ∀ j x, r[j]? = some x → Cell f L a.block (a.off + (i * k + j)) x
theorem Rd.mono {f' : Fz} {L' : List Ent} {v k rows} (h : Rd f L v k rows) (hf : Fz.le f f') (hL : ∀ e ∈ L, e ∈ L') : Rd f' L' v k rows := by
  obtain ⟨hl, ao, cap, rfl, h1, h2, h3⟩ := h
  exact ⟨hl, ao, cap, rfl, h1, h2, fun a ha => ⟨(h3 a ha).1, fun i r hr j x hx => ((h3 a ha).2 i r hr j x hx).mono hf hL⟩⟩
theorem Rd.cell {v k rows i j r x} (h : Rd f L v k rows) (hr : rows[i]? = some r) (hx : r[j]? = some x) :
    ∃ b o, eaddr v k i j = .pointer (some ⟨b, o, none⟩) ∧ Cell f L b o x := by
  obtain ⟨hl, ao, cap, rfl, h1, h2, h3⟩ := h
  cases ao with
  | none => rw [h2 rfl] at hr; simp at hr
  | some a => exact ⟨_, _, rfl,(h3 a rfl).2 i r hr j x hx⟩
theorem Y.of {C : World → Prop} {o : Oper} {v : Value} (h : ∀ a, Ev n E a → ∀ w, C w → (execOp a.eval o).run P w = .ok (.value v) w) : Y P C n E o v := by
  intro a ha w hw
  unfold Oper.quietAt
  rw [h a ha w hw]
  exact ⟨rfl, rfl⟩
variable {C : World → Prop} {d : Option Tmp} {ty : TypeId} {pos : String} {af : Array Edge} {g : Option (Nat × Bool)}
theorem za3 {x : Operand} {v : Value} (h : opv E x = some v) : Y P C n E ⟨d, .move x, ty, pos, af, g⟩ v :=
  .of fun a ha w _ => by simp [execOp, ha.eval h]
theorem za9 {x : Operand} {v : Value} (h : opv E x = some v) : Y P C n E ⟨d, .assign x, ty, pos, af, g⟩ v :=
  .of fun a ha w _ => by simp [execOp, ha.eval h]
theorem zaz {c x y : Operand} {b : Bool} {v : Value} (hc : opv E c = some (.bool b)) (h : opv E (if b then x else y) = some v) : Y P C n E ⟨d, .pick c x y, ty, pos, af, g⟩ v :=
  .of fun a ha w _ => by
    cases b <;> simp at h <;> simp [execOp, ha.eval hc, ha.eval h, asBool]
def nth : List Value → Nat → Option Value
  | [], _ => none
  | v :: _,0 => some v
  | _ :: l, i + 1 => nth l i
theorem nth_eq : ∀ (l : List Value) (i : Nat), nth l i = l[i]?
  | [], _ => by simp [nth]
  | _ :: _,0 => rfl
  | _ :: l, i + 1 => by simp [nth, nth_eq l i]
theorem zap {x : Operand} {i : Nat} {vs : List Value} {v : Value} (h : opv E x = some (.tuple vs.toArray)) (hi : nth vs i = some v) : Y P C n E ⟨d, .extract x i, ty, pos, af, g⟩ v :=
  .of fun a ha w _ => by
    rw [nth_eq] at hi
    simp [execOp, ha.eval h, Instr.extract, hi]
theorem zfc {x : Operand} {t : TypeId} {b : Bool} (h : opv E x = some (.bool b)) : Y P C n E ⟨d, .unOp .not t x, ty, pos, af, g⟩ (.bool (!b)) :=
  .of fun a ha w _ => by simp [execOp, ha.eval h, Op.unary]
theorem za5 {x : Operand} {p : Addr} (h : opv E x = some (.pointer (some p))) : Y P C n E ⟨d, .nilCheck x, ty, pos, af, g⟩ (.pointer (some p)) :=
  .of fun a ha w _ => by simp [execOp, ha.eval h]
theorem y_len {x : Operand} {t e : TypeId} {ao : Option Addr} {m c : Nat} (h : opv E x = some (.slice ao m c)) (ht : P.underlying t = some (.slice e)) :
    Y P C n E ⟨d, .call { callee := .builtin .len, args := #[x], argTypes := #[t] }, ty, pos, af, g⟩ (.int .i64 m) :=
  .of fun a ha w _ => by
    simp [execOp, resolve, invoke, builtin, ha.eval h, Builtin.len_, run_underlying ht, goInt]
theorem zli {x : Operand} {t e : TypeId} {v : Value} {k : Nat} {rows} (hR : Rd f L v k rows) (h : opv E x = some v) (ht : P.underlying t = some (.slice e)) :
    Y P C n E ⟨d, .call { callee := .builtin .len, args := #[x], argTypes := #[t] }, ty, pos, af, g⟩ (.int .i64 rows.length) := by
  obtain ⟨_, ao, cap, rfl, _⟩ := hR
  exact y_len h ht
theorem zg2 {x : Operand} {t : TypeId} {s : ByteArray} (h : opv E x = some (.string s)) (ht : P.underlying t = some .string) :
    Y P C n E ⟨d, .call { callee := .builtin .len, args := #[x], argTypes := #[t] }, ty, pos, af, g⟩ (.int .i64 s.size) :=
  .of fun a ha w _ => by
    simp [execOp, resolve, invoke, builtin, ha.eval h, run_len_string _ _ _ _ ht, goInt]
theorem zdz {x y : Operand} {t t' : TypeId} {k : IntKind} {i j m : Int} (hx : opv E x = some (.int k i)) (hy : opv E y = some (.int k j)) (hm : k.wrap (i + j) = m) :
    Y P C n E ⟨d, .binOp .add t x y t', ty, pos, af, g⟩ (.int k m) :=
  .of fun a ha w _ => by simp [execOp, ha.eval hx, ha.eval hy, eqGuard, binOp, Op.intArith, hm]
theorem zn2 {x y : Operand} {t t' : TypeId} {k : IntKind} {i j m : Int} (hx : opv E x = some (.int k i)) (hy : opv E y = some (.int k j)) (hm : k.wrap (i - j) = m) :
    Y P C n E ⟨d, .binOp .sub t x y t', ty, pos, af, g⟩ (.int k m) :=
  .of fun a ha w _ => by simp [execOp, ha.eval hx, ha.eval hy, eqGuard, binOp, Op.intArith, hm]
theorem zgq {x y : Operand} {t t' : TypeId} {k : IntKind} {i j : Int} (hx : opv E x = some (.int k i)) (hy : opv E y = some (.int k j)) :
    Y P C n E ⟨d, .binOp .lss t x y t', ty, pos, af, g⟩ (.bool (decide (i < j))) :=
  .of fun a ha w _ => by simp [execOp, ha.eval hx, ha.eval hy, eqGuard, binOp, Op.intCmp]
theorem zeo {x y : Operand} {t t' : TypeId} {k : IntKind} {i j : Int} (hx : opv E x = some (.int k i)) (hy : opv E y = some (.int k j)) :
    Y P C n E ⟨d, .binOp .neq t x y t', ty, pos, af, g⟩ (.bool (decide (i ≠ j))) :=
  .of fun a ha w _ => by
    by_cases e : i = j <;> simp [execOp, ha.eval hx, ha.eval hy, eqGuard, binOp, Op.intCmp, e]
end
end
section
open Go.RowKit
section
variable {P : Program} {f : Fz} {L : List Ent} {w0 w w' : World} {n : Nat} {E : List (Nat × Value)}
theorem Ent.lt {x : Ent} {b : Nat} (h : x.holds w) (hk : x.key = some b) : b < w.heap.size := by
  cases x with
  | blk b' o =>
    simp only [Ent.key, Option.some.injEq] at hk
    subst hk
    exact (Array.getElem?_eq_some_iff.1 h).1
  | row v e k rows => exact (World.ownsRow.lt h.1 b hk).2
theorem Ent.kept {x : Ent} (h : x.holds w) (hb : ∀ b, x.key = some b → w'.heap[b]? = w.heap[b]?) : x.holds w' := by
  cases x with
  | blk b' o => exact (hb b' rfl).trans h
  | row v e k rows =>
    obtain ⟨⟨h1, h2⟩, h3⟩ := h
    refine ⟨⟨h1, ?_⟩, h3⟩
    rcases h2 with h2 | ⟨g, cap, cur, rfl, hg, hh, r⟩
    · exact .inl h2
    · exact .inr ⟨g, cap, cur, rfl, hg,(hb g rfl).trans hh, r⟩
structure Grew (w w' : World) (row : Option Nat) : Prop where
  os : w'.os = w.os
  tape : w'.tape = w.tape
  output : w'.output = w.output
  size : w.heap.size ≤ w'.heap.size
  block : ∀ k, k < w.heap.size → some k ≠ row → w'.heap[k]? = w.heap[k]?
theorem Grew.of {row} (h : w.grownBy w' row) : Grew w w' row := ⟨h.os, h.tape, h.output, h.size, h.block⟩
theorem Cw.fz_lt (h : Cw w0 f L w) {b o} (hb : f b = some o) : b < w.heap.size := (Array.getElem?_eq_some_iff.1 (h.frz b o hb)).1
theorem Cw.repl {i : Nat} {x y : Ent} (h : Cw w0 f L w) (hi : L[i]? = some x) (hg : Grew w w' x.key) (hy : y.holds w')
    (hk : ∀ b, y.key = some b → x.key = some b ∨ w.heap.size ≤ b) : Cw w0 f (L.set i y) w' := by
  have hx := h.live x (List.mem_of_getElem? hi)
  have hne : ∀ j z, L[j]? = some z → i ≠ j → ∀ b, z.key = some b → x.key ≠ some b := fun j z hj hij b hb e => h.sep i j x z hi hj hij b e hb
  refine ⟨hg.os.trans h.os, hg.tape.trans h.tape, hg.output.trans h.output, Nat.le_trans h.size hg.size, fun b o hb => ?_, fun z hz => ?_, fun z hz b hb => ?_, fun p q u v hp hq hpq b hu hv => ?_⟩
  · rw [hg.block b (h.fz_lt hb) (fun e => by have := h.apart x (List.mem_of_getElem? hi) b e.symm; simp [this] at hb)]
    exact h.frz b o hb
  · obtain ⟨j, hj⟩ := List.getElem?_of_mem hz
    rw [List.getElem?_set] at hj
    split at hj
    · split at hj
      · simp at hj; subst hj; exact hy
      · cases hj
    · rename_i hij
      have hl := h.live z (List.mem_of_getElem? hj)
      exact Ent.kept hl fun b hb => hg.block b (Ent.lt hl hb) (fun e => hne j z hj hij b hb e.symm)
  · obtain ⟨j, hj⟩ := List.getElem?_of_mem hz
    rw [List.getElem?_set] at hj
    split at hj
    · split at hj
      · simp at hj; subst hj
        rcases hk b hb with e | hlt
        · exact h.apart x (List.mem_of_getElem? hi) b e
        · cases hf : f b with
          | none => rfl
          | some o => have := h.fz_lt hf; omega
      · cases hj
    · exact h.apart z (List.mem_of_getElem? hj) b hb
  · rw [List.getElem?_set] at hp hq
    split at hp <;> split at hq
    · omega
    · rename_i e1 e2
      split at hp
      · simp at hp; subst hp
        have hl := h.live v (List.mem_of_getElem? hq)
        rcases hk b hu with e | hlt
        · exact hne q v hq e2 b hv e
        · have := Ent.lt hl hv; omega
      · cases hp
    · rename_i e1 e2
      split at hq
      · simp at hq; subst hq
        have hl := h.live u (List.mem_of_getElem? hp)
        rcases hk b hv with e | hlt
        · exact hne p u hp e1 b hu e
        · have := Ent.lt hl hu; omega
      · cases hq
    · exact h.sep p q u v hp hq hpq b hu hv
theorem Cw.cons {y : Ent} (h : Cw w0 f L w) (hg : Grew w w' none) (hy : y.holds w') (hk : ∀ b, y.key = some b → w.heap.size ≤ b) : Cw w0 f (y :: L) w' := by
  refine ⟨hg.os.trans h.os, hg.tape.trans h.tape, hg.output.trans h.output, Nat.le_trans h.size hg.size, fun b o hb => ?_, fun z hz => ?_, fun z hz b hb => ?_, fun p q u v hp hq hpq b hu hv => ?_⟩
  · rw [hg.block b (h.fz_lt hb) (by simp)]; exact h.frz b o hb
  · rcases List.mem_cons.1 hz with rfl | hz
    · exact hy
    · have hl := h.live z hz
      exact Ent.kept hl fun b hb => hg.block b (Ent.lt hl hb) (by simp)
  · rcases List.mem_cons.1 hz with rfl | hz
    · cases hf : f b with
      | none => rfl
      | some o => have := h.fz_lt hf; have := hk b hb; omega
    · exact h.apart z hz b hb
  · cases p with
    | zero =>
      cases q with
      | zero => omega
      | succ q =>
        simp at hp hq; subst hp
        have := Ent.lt (h.live v (List.mem_of_getElem? hq)) hv
        have := hk b hu; omega
    | succ p =>
      cases q with
      | zero =>
        simp at hp hq; subst hq
        have := Ent.lt (h.live u (List.mem_of_getElem? hp)) hu
        have := hk b hv; omega
      | succ q => simp at hp hq; exact h.sep p q u v hp hq (by omega) b hu hv
theorem Cw.step (h : Cw w0 f L w) (hg : Grew w w' none) : Cw w0 f L w' := by
  refine ⟨hg.os.trans h.os, hg.tape.trans h.tape, hg.output.trans h.output, Nat.le_trans h.size hg.size, fun b o hb => ?_, fun z hz => ?_, h.apart, h.sep⟩
  · rw [hg.block b (h.fz_lt hb) (by simp)]; exact h.frz b o hb
  · have hl := h.live z hz
    exact Ent.kept hl fun b hb => hg.block b (Ent.lt hl hb) (by simp)
theorem Cw.tail {x : Ent} (h : Cw w0 f (x :: L) w) : Cw w0 f L w :=
  ⟨h.os, h.tape, h.output, h.size, h.frz, fun z hz => h.live z (List.mem_cons_of_mem _ hz), fun z hz => h.apart z (List.mem_cons_of_mem _ hz),
    fun p q u v hp hq hpq => h.sep (p + 1) (q + 1) u v (by simpa using hp) (by simpa using hq) (by omega)⟩
theorem Cw.erase (h : Cw w0 f L w) (i : Nat) : Cw w0 f (L.eraseIdx i) w := by
  have key : ∀ (p : Nat),(L.eraseIdx i)[p]? = L[if p < i then p else p + 1]? := fun p => by rw [List.getElem?_eraseIdx]; split <;> rfl
  refine ⟨h.os, h.tape, h.output, h.size, h.frz, fun z hz => h.live z (List.mem_of_mem_eraseIdx hz), fun z hz => h.apart z (List.mem_of_mem_eraseIdx hz), fun p q u v hp hq hpq => ?_⟩
  rw [key] at hp hq
  exact h.sep _ _ u v hp hq (by split <;> split <;> omega)
theorem Cw.freeze {x : Ent} (h : Cw w0 f (x :: L) w) : ∃ f', Fz.le f f' ∧ Cw w0 f' L w ∧ (∀ b, x.key = some b → f' b = w.heap[b]?) ∧ (∀ b, x.key ≠ some b → f' b = f b) := by
  have ha := h.apart x List.mem_cons_self
  refine ⟨fun b => if x.key = some b then w.heap[b]? else f b, fun b o hb => ?_, ⟨h.os, h.tape, h.output, h.size, fun b o hb => ?_, fun z hz => h.live z (List.mem_cons_of_mem _ hz), fun z hz b hb => ?_,
    fun p q u v hp hq hpq => h.sep (p + 1) (q + 1) u v (by simpa using hp) (by simpa using hq) (by omega)⟩, fun b hb => by simp [hb], fun b hb => by simp [hb]⟩
  · have hne : x.key ≠ some b := fun e => by rw [ha b e] at hb; cases hb
    simp [hne, hb]
  · by_cases e : x.key = some b
    · simpa [e] using hb
    · simp [e] at hb; exact h.frz b o hb
  · have hne : x.key ≠ some b := fun e => by
      obtain ⟨j, hj⟩ := List.getElem?_of_mem hz
      exact h.sep 0 (j + 1) x z rfl (by simpa using hj) (by omega) b e hb
    simp only [hne, if_false]
    exact h.apart z (List.mem_cons_of_mem _ hz) b hb
theorem ziw {α : Type} {k : Nat} : ∀ {rows : List (List α)}, (∀ r ∈ rows, r.length = k) → ∀ {i r j x}, rows[i]? = some r → r[j]? = some x → rows.flatten[i * k + j]? = some x
  | [], _, i, r, j, x, hr, _ => by simp at hr
  | r0 :: rows, hl, i, r, j, x, hr, hx => by
    have h0 : r0.length = k := hl r0 (by simp)
    rw [List.flatten_cons]
    cases i with
    | zero =>
      simp at hr; subst hr
      have : j < r0.length := (List.getElem?_eq_some_iff.1 hx).1
      rw [List.getElem?_append_left (by omega)]
      simpa using hx
    | succ i =>
      simp at hr
      rw [List.getElem?_append_right (by rw [h0, Nat.succ_mul]; omega)]
      have := ziw (fun r hr => hl r (by simp [hr])) hr hx
      rw [← this]
      congr 1
      rw [h0, Nat.succ_mul]
      omega
theorem zez {α : Type} {k : Nat} : ∀ {rows : List (List α)}, (∀ r ∈ rows, r.length = k) → rows.flatten.length = rows.length * k
  | [], _ => by simp
  | r0 :: rows, hl => by
    rw [List.flatten_cons, List.length_append, zez (fun r hr => hl r (by simp [hr])), hl r0 (by simp), List.length_cons, Nat.succ_mul]
    omega
theorem Rd.ofOwn {v e k rows} (hm : .row v e k rows ∈ L) (hC : Cw w0 f L w) : Rd f L v k rows := by
  have hh := hC.live _ hm
  obtain ⟨⟨h1, h2⟩, hl⟩ := hh
  refine ⟨hl, ?_⟩
  rcases h2 with ⟨rfl, h0⟩ | ⟨g, cap, cur, rfl, hg, hh, hle, hcm, hcs, htk⟩
  · have : rows = [] := List.eq_nil_of_length_eq_zero h0
    subst this
    exact ⟨none,0, rfl, Nat.le_refl _, fun _ => rfl, fun a ha => by cases ha⟩
  · refine ⟨some ⟨g,0, none⟩, cap, rfl, hle, fun h => (by cases h), fun a ha => ?_⟩
    cases ha
    refine ⟨fun _ => rfl, fun i r hr j x hx => .inr ⟨_, hm, ?_⟩⟩
    simp only [Ent.cell]
    exact ⟨trivial, by simpa using ziw (fun r hr => (hl r hr).1) hr hx⟩
theorem Rd.frozen {v e k rows} (hC : Cw w0 f (.row v e k rows :: L) w) :
    ∃ f', Fz.le f f' ∧ Cw w0 f' L w ∧ Rd f' [] v k rows := by
  obtain ⟨f', h1, h2, h3, h4⟩ := hC.freeze
  have hh := hC.live _ List.mem_cons_self
  obtain ⟨⟨hq, hh⟩, hl⟩ := hh
  refine ⟨f', h1, h2, hl, ?_⟩
  rcases hh with ⟨rfl, h0⟩ | ⟨g, cap, cur, rfl, hg, hh, hle, hcm, hcs, htk⟩
  · have : rows = [] := List.eq_nil_of_length_eq_zero h0
    subst this
    exact ⟨none,0, rfl, Nat.le_refl _, fun _ => rfl, fun a ha => by cases ha⟩
  · refine ⟨some ⟨g,0, none⟩, cap, rfl, hle, fun h => (by cases h), fun a ha => ?_⟩
    cases ha
    refine ⟨fun _ => rfl, fun i r hr j x hx => .inl ⟨cur, e,(0,0), ?_, ?_⟩⟩
    · rw [h3 g rfl]; exact hh
    · have := ziw (fun r hr => (hl r hr).1) hr hx
      rw [← htk, List.getElem?_take] at this
      split at this
      · simpa using this
      · cases this
end
end
section
open Go.RowKit
def TI (P : Program) (t : TypeId) (k by_ : Nat) (z : Value) : Prop := ∃ i, P.info? t = some i ∧ i.zero = some z ∧ i.size = k ∧ i.bytes = by_
theorem TI.of {P : Program} {t k by_ z} (h : (P.info? t).map (fun i => (i.zero, i.size, i.bytes)) = some (some z, k, by_)) : TI P t k by_ z := by
  obtain ⟨i, hi, h1, h2, h3⟩ := info_parts h
  exact ⟨i, hi, h1, h2, h3⟩
def Agg : TypeDesc → Bool
  | .struct _ | .array _ _ => true
  | _ => false
section
variable {P : Program} {f f' : Fz} {L L' : List Ent} {w0 w w' : World} {n : Nat} {E E' : List (Nat × Value)} {a : Act}
variable {ops : Array Oper} {rest : List Oper} {o : Oper} {K : AP}
theorem RL_v {v : Value} (hs : St n w0 f L E a w) (hw : Want ops E o true) (hd : Dst n o v E E') (hr : (execOp a.eval o).run P w = .ok (.value v) w') (hC : Cw w0 f' L' w')
    (h : ∀ a w, St n w0 f' L' E' a w → RL P ops rest K a w) : RL P ops (o :: rest) K a w := by
  refine zjg fun K' hK' => ?_
  rw [if_pos (hw.wanted hs.ev)]
  unfold opS
  rw [hr]
  exact hK' _ _ (h _ _ ⟨hs.ev.dst hd, hC⟩)
theorem RL_u (hs : St n w0 f L E a w) (hw : Want ops E o true) (hd : Dst n o undef E E') (hr : (execOp a.eval o).run P w = .ok .skip w') (hC : Cw w0 f' L' w')
    (h : ∀ a w, St n w0 f' L' E' a w → RL P ops rest K a w) : RL P ops (o :: rest) K a w := by
  refine zjg fun K' hK' => ?_
  rw [if_pos (hw.wanted hs.ev)]
  unfold opS
  rw [hr]
  exact hK' _ _ (h _ _ ⟨hs.ev.dst hd, hC⟩)
theorem Grew.alloc (w : World) (o : Obj) (row : Option Nat) : Grew w (w.alloc o) row := .of (World.grownBy_alloc w o row)
theorem Grew.setCell (w : World) (p : Addr) (u : Value) : Grew w (w.setCell p u) (some p.block) :=
  ⟨rfl, rfl, rfl, by simp [World.setCell], fun k _ hk => Below.heap_setCell _ _ _ _ (fun e => hk (by rw [e]))⟩
theorem Grew.setRow (w : World) (g : Nat) (cs : Array Value) : Grew w (w.setRow g cs) (some g) :=
  ⟨rfl, rfl, rfl, by simp, fun k _ hk => setRow_other w g k cs (fun e => hk (by rw [e]))⟩
theorem Cw.alloc (h : Cw w0 f L w) (o : Obj) : Cw w0 f (.blk w.heap.size o :: L) (w.alloc o) :=
  h.cons (Grew.alloc w o none) (heap_alloc_new w o) (fun b hb => by simp [Ent.key] at hb; omega)
theorem Cw.nilRow (h : Cw w0 f L w) (e : TypeId) (k : Nat) : Cw w0 f (.row (.slice none 0 0) e k [] :: L) w :=
  h.cons ⟨rfl, rfl, rfl, Nat.le_refl _, fun _ _ _ => rfl⟩ ⟨World.ownsRow_nil w 0 e k, by simp⟩ (fun b hb => by simp [Ent.key, Value.ownBlock] at hb)
theorem St.nilRow (h : St n w0 f L E a w) (e : TypeId) (k : Nat) : St n w0 f (.row (.slice none 0 0) e k [] :: L) E a w := ⟨h.ev, h.cw.nilRow e k⟩
variable {d : Option Tmp} {ty : TypeId} {pos : String} {af : Array Edge} {g : Option (Nat × Bool)}
theorem RL_box {t : TypeId} {x : Operand} {v : Value} (hs : St n w0 f L E a w) {dd : Nat} (hx : opv E x = some v) (hw : Want ops E ⟨some dd, .box t x, ty, pos, af, g⟩ true) (hd : dd < n)
    (h : ∀ b a w, St n w0 f (.blk b (.cells v.cells t) :: L) ((dd, .pointer (some ⟨b,0, none⟩)) :: E) a w → RL P ops rest K a w) :
    RL P ops (⟨some dd, .box t x, ty, pos, af, g⟩ :: rest) K a w :=
  RL_v hs hw (.to rfl hd) (v := .pointer (some ⟨w.heap.size,0, none⟩)) (w' := w.alloc (.cells v.cells t)) (by simp [execOp, hs.ev.eval hx, Instr.box, newVar, newRow]) (hs.cw.alloc _) (h _)
theorem zbl {t : TypeId} {k by_ : Nat} {z : Value} (hs : St n w0 f L E a w) {dd : Nat} (ht : TI P t k by_ z) (hw : Want ops E ⟨some dd, .alloc t, ty, pos, af, g⟩ true) (hd : dd < n)
    (h : ∀ b a w, St n w0 f (.blk b (.cells z.cells t) :: L) ((dd, .pointer (some ⟨b,0, none⟩)) :: E) a w → RL P ops rest K a w) :
    RL P ops (⟨some dd, .alloc t, ty, pos, af, g⟩ :: rest) K a w := by
  obtain ⟨i, hi, hz, _, _⟩ := ht
  exact RL_v hs hw (.to rfl hd) (v := .pointer (some ⟨w.heap.size,0, none⟩)) (w' := w.alloc (.cells z.cells t)) (by simp [execOp, Instr.alloc, zeroValue, typeInfo, hi, hz, newVar, newRow]) (hs.cw.alloc _) (h _)
theorem evalParts (hs : Ev n E a) : ∀ {l : List (Nat × Operand)} {vs : List (Nat × Value)}, l.mapM (fun p => (opv E p.2).map fun v => (p.1, v)) = some vs → l.map (fun p => (p.1, a.eval p.2)) = vs
  | [], vs, h => by simp at h; subst h; rfl
  | p :: l, vs, h => by
    simp only [List.mapM_cons, Option.bind_eq_bind, Option.bind_eq_some_iff] at h
    obtain ⟨q, hq, qs, hqs, e⟩ := h
    simp at hq
    obtain ⟨v, hv, rfl⟩ := hq
    simp at e
    subst e
    simp [hs.eval hv, evalParts hs hqs]
theorem zmi {t e : TypeId} {len : Nat} {parts : List (Nat × Operand)} {vs : List (Nat × Value)} {k by_ : Nat} {z : Value} {rows : List (List Value)} (hs : St n w0 f L E a w) {dd : Nat}
    (hv : parts.mapM (fun p => (opv E p.2).map fun v => (p.1, v)) = some vs) (ht : P.underlying t = some (.slice e)) (hi : TI P e k by_ z) (hk : 0 < k ∧ 0 < len ∧ len * k ≤ 16777216)
    (hf : (Instr.fill (fun i => some (i * k, k)) ((Array.range (len * k)).map (z.cells[· % z.cells.size]!)) vs).map (·.toList) = some rows.flatten) (hl : rows.length = len) (h1 : ∀ r ∈ rows, OneRow k r)
    (hw : Want ops E ⟨some dd, .buildSlice t len parts.toArray, ty, pos, af, g⟩ true) (hd : dd < n)
    (h : ∀ v a w, St n w0 f (.row v e k rows :: L) ((dd, v) :: E) a w → RL P ops rest K a w) :
    RL P ops (⟨some dd, .buildSlice t len parts.toArray, ty, pos, af, g⟩ :: rest) K a w := by
  obtain ⟨i, hi, hz, hk1, _⟩ := hi
  subst hk1
  simp only [Option.map_eq_some_iff] at hf
  obtain ⟨cells, hf, hr⟩ := hf
  have e1 : (parts.toArray.map fun (i, x) => (i, a.eval x)).toList = vs := by
    simpa using evalParts hs.ev hv
  have hrun := run_buildSlice (P := P) w t e len (parts.toArray.map fun (i, x) => (i, a.eval x)) cells i z ht hi hz (by omega) (by have := Nat.mul_pos hk.2.1 hk.1; omega) (by rw [e1]; exact hf)
  refine RL_v hs hw (.to rfl hd) (v := .slice (some ⟨w.heap.size,0, none⟩) len len) (w' := w.alloc (.cells cells e)) (f' := f) (L' := .row (.slice (some ⟨w.heap.size,0, none⟩) len len) e i.size rows :: L) ?_ ?_ (h _)
  · simp only [execOp, Sem.run_bind, hrun, Result.andThen_ok, Sem.run_pure]
  · refine hs.cw.cons (Grew.alloc w _ none) ⟨?_, h1⟩ (fun b hb => by simp [Ent.key, Value.ownBlock] at hb; omega)
    have := World.ownsRow_lit (base := 0) (e := e) w cells len (Nat.zero_le _) (by have := Nat.le_mul_of_pos_right len hk.1; simp only [maxLen]; omega) (size := i.size) (by
      have := zez (fun r hr => (h1 r hr).1)
      rw [← hr, hl] at this
      simpa using this)
    rw [hr] at this
    rw [hl]
    exact this
theorem Rd.at {v : Value} {k : Nat} {rows : List (List Value)} (hR : Rd f L v k rows) {b o : Nat} {m c : Nat} (e : v = .slice (some ⟨b, o, none⟩) m c) : m = rows.length ∧ ∀ j u, rows.flatten[j]? = some u → Cell f L b (o + j) u := by
  obtain ⟨hl, ao, cap, rfl, h1, h2, h3⟩ := hR
  cases e
  refine ⟨rfl, ?_⟩
  have key := (h3 _ rfl).2
  clear h1 h2 h3
  intro j u hj
  -- the row in which cell j lies
  have : ∃ i r x, rows[i]? = some r ∧ r[x]? = some u ∧ i * k + x = j := by
    clear key
    induction rows generalizing j with
    | nil => simp at hj
    | cons r0 rows ih =>
      rw [List.flatten_cons] at hj
      by_cases hlt : j < r0.length
      · rw [List.getElem?_append_left hlt] at hj
        exact ⟨0, r0, j, rfl, hj, by omega⟩
      · rw [List.getElem?_append_right (by omega)] at hj
        obtain ⟨i, r, x, h1, h2, h3⟩ := ih (fun r hr => hl r (by simp [hr])) _ hj
        refine ⟨i + 1, r, x, by simpa using h1, h2, ?_⟩
        have := (hl r0 (by simp)).1
        rw [Nat.succ_mul]; omega
  obtain ⟨i, r, x, h1, h2, h3⟩ := this
  rw [← h3]
  exact key i r h1 x u h2
theorem Rd.cells {ad : Addr} {m c k : Nat} {rows : List (List Value)} (hR : Rd f L (.slice (some ad) m c) k rows) (hC : Cw w0 f L w) : ∀ j u, rows.flatten[j]? = some u → w.cell? (ad.add j) = some u := by
  intro j u hj
  have hne : rows ≠ [] := by intro e; subst e; simp at hj
  obtain ⟨b, off, sp⟩ := ad
  have hsp : sp = none := by
    obtain ⟨_, ao, cap, e, _, _, h3⟩ := hR
    cases e
    exact (h3 _ rfl).1 hne
  subst hsp
  have := ((hR.at rfl).2 j u hj).cell? hC
  rw [← this]; congr 1; unfold Addr.add; split <;> simp_all
theorem zru {t ty e : TypeId} {i : TypeInfo} {z : Value} {size bytes : Nat} (ht : P.underlying t = some (.slice e)) (hi : P.info? e = some i) (hz : i.zero = some z)
    (hsize : i.size = size) (hby : i.bytes = bytes) {v : Value} {n : Nat} {xs : List Value} (hown : w.ownsRow 0 e size v n xs)
    {ad : Addr} {m c : Nat} {news : List Value} (hl : news.length = m * size) (hnews : ∀ j u, news[j]? = some u → w.cell? (ad.add j) = some u) (h1 : ∀ u ∈ news, u.oneCell' = true)
    (h63 : n + m ≤ maxLen) (hbytes : (n + m) * bytes ≤ 140737488355328) {v' : Value} {w' : World}
    (hr : (Builtin.append_ #[t, t] ty #[v, .slice (some ad) m c]).run P w = .ok v' w') : ∀ b, v'.ownBlock = some b → v.ownBlock = some b ∨ w.heap.size ≤ b := by
  subst hsize
  subst hby
  have hsmall : n + m ≤ 9223372036854775807 := by simp only [maxLen] at h63; omega
  intro b hb
  rcases hown.2 with ⟨rfl, rfl⟩ | ⟨g, cap, cur, rfl, hbg, hg, hnc, hcm, hcs, htake⟩
  · by_cases hm : m = 0
    · subst hm
      have : (Builtin.append_ #[t, t] ty #[.slice none 0 0, .slice (some ad) 0 c]).run P w = .ok (.slice none 0 0) w := by
        simp [Builtin.append_, run_underlying ht, sizeOf, typeInfo, hi, Builtin.lenOf, Builtin.firstCells, loadCells, loadCellsFrom]
      rw [this] at hr
      cases hr
      simp [Value.ownBlock] at hb
    · rw [run_append_nil (P := P) w t ty e i z ht hi hz ad m c news hl hnews (by omega) (by omega) (by have hb := hbytes; simp only [Nat.zero_add] at hb; omega)] at hr
      cases hr
      simp [Value.ownBlock] at hb
      exact .inr (by omega)
  · by_cases hroom : n + m ≤ cap
    · have hfit : n * i.size + news.length ≤ cur.size := by rw [hl, hcs, ← Nat.add_mul]; exact Nat.mul_le_mul_right _ hroom
      rw [run_append_room (P := P) w t ty e i ht hi g n cap cur hg ad m c news hl hnews h1 hroom hfit] at hr
      cases hr
      exact .inl hb
    · have holds : ∀ j u, xs[j]? = some u → w.cell? ((⟨g,0, none⟩ : Addr).add j) = some u := hown.cells (g := g) rfl
      rw [run_append_grow (P := P) w t ty e i z ht hi hz ⟨g,0, none⟩ n cap xs hown.1 holds ad m c news hl hnews (by omega) (by omega) (growslice_fits (by omega) hbytes)] at hr
      cases hr
      simp [Value.ownBlock] at hb
      exact .inr (by omega)
theorem zc9 {s x : Operand} {t e : TypeId} {v v2 : Value} {k by_ : Nat} {z : Value} {rows rows2 : List (List Value)} {i : Nat} (hs : St n w0 f L E a w) {dd : Nat}
    (hi : L[i]? = some (.row v e k rows)) (hx : opv E s = some v) (hx2 : opv E x = some v2) (hR : Rd f L v2 k rows2) (ht : P.underlying t = some (.slice e)) (hT : TI P e k by_ z) (hk : 0 < k ∧ z.cells.size = k)
    (hb : rows.length + rows2.length ≤ maxLen ∧ (rows.length + rows2.length) * by_ ≤ 140737488355328)
    (hw : Want ops E ⟨some dd, .call { callee := .builtin .append, args := #[s, x], argTypes := #[t, t] }, ty, pos, af, g⟩ true) (hd : dd < n)
    (h : ∀ v' a w, St n w0 f (L.set i (.row v' e k (rows ++ rows2))) ((dd, v') :: E) a w → RL P ops rest K a w) :
    RL P ops (⟨some dd, .call { callee := .builtin .append, args := #[s, x], argTypes := #[t, t] }, ty, pos, af, g⟩ :: rest) K a w := by
  obtain ⟨it, hit, hz, hk1, hk2⟩ := hT
  have hR' := hR
  obtain ⟨hl2, ao, cap, rfl, h1, h2, h3⟩ := hR
  have hlive := hs.cw.live _ (List.mem_of_getElem? hi)
  obtain ⟨hown, hone⟩ := hlive
  have hnew : ∀ r ∈ rows ++ rows2, OneRow k r := fun r hr => by
    rcases List.mem_append.1 hr with hr | hr
    · exact hone r hr
    · exact hl2 r hr
  cases ao with
  | none =>
    obtain rfl := h2 rfl
    have hr := run_append_owned_none (P := P) w 0 t ty e it k ht hit v rows.length rows.flatten hown
    have hcap : cap = 0 ∨ 0 < cap := by omega
    have hr' : (Builtin.append_ #[t, t] ty #[v, .slice none 0 cap]).run P w = .ok v w := by
      rcases hown.2 with ⟨rfl, hn⟩ | ⟨g, cap, cur, rfl, _, _, hnc, _⟩
      · simp [Builtin.append_, run_underlying ht, sizeOf, typeInfo, hit, Builtin.lenOf, Builtin.firstCells]
      · simp [Builtin.append_, run_underlying ht, sizeOf, typeInfo, hit, Builtin.lenOf, Builtin.firstCells, hnc, storeCells]
    refine RL_v hs hw (.to rfl hd) (v := v) (w' := w) (f' := f) (L' := L.set i (.row v e k (rows ++ []))) ?_ ?_ (h v)
    · simp only [execOp, resolve, invoke, builtin, Sem.run_bind, Sem.run_pure, Result.andThen_ok, List.map_toArray, List.map_cons, List.map_nil, hs.ev.eval hx, hs.ev.eval hx2, List.length_nil, hr']
    · rw [List.append_nil]
      exact hs.cw.repl hi ⟨rfl, rfl, rfl, Nat.le_refl _, fun _ _ _ => rfl⟩ ⟨hown, hone⟩ (fun b hb => .inl hb)
  | some ad =>
    have hcells := hR'.cells hs.cw
    obtain ⟨v', w', hr, g1, g2, g3⟩ := run_append_own (P := P) w 0 t ty e it z k by_ ht hit hz hk1 hk2 hk.2 hk.1 v rows.length rows.flatten hown ad rows2.length cap rows2.flatten
      (zez fun r hr => (hl2 r hr).1) hcells (fun u hu => by
        obtain ⟨r, hr, hu⟩ := List.mem_flatten.1 hu
        exact (hl2 r hr).2 u hu) hb.1 hb.2 (Nat.zero_le _)
    refine RL_v hs hw (.to rfl hd) (v := v') (w' := w') (f' := f) (L' := L.set i (.row v' e k (rows ++ rows2))) ?_ ?_ (h v')
    · simp only [execOp, resolve, invoke, builtin, Sem.run_bind, Sem.run_pure, Result.andThen_ok, List.map_toArray, List.map_cons, List.map_nil, hs.ev.eval hx, hs.ev.eval hx2, hr]
    · refine hs.cw.repl hi (.of g2) ⟨by rw [List.length_append, List.flatten_append]; exact g1, hnew⟩ (fun b' hb' => ?_)
      have hlt := World.ownsRow.lt g1 b' hb'
      by_cases e : v.ownBlock = some b'
      · exact .inl e
      · refine (zru (P := P) (w := w) ht hit hz hk1 hk2 hown (ad := ad) (zez fun r hr => (hl2 r hr).1) hcells (fun u hu => by
          obtain ⟨r, hr, hu⟩ := List.mem_flatten.1 hu
          exact (hl2 r hr).2 u hu) hb.1 hb.2 hr b' hb')
end
end
section
open Go.RowKit
section
variable {P : Program} {f f' : Fz} {L L' : List Ent} {w0 w w' : World} {n : Nat} {E E' : List (Nat × Value)} {a : Act}
variable {ops : Array Oper} {rest : List Oper} {o : Oper} {K : AP} {C : World → Prop}
variable {d : Option Tmp} {ty : TypeId} {pos : String} {af : Array Edge} {g : Option (Nat × Bool)}
theorem add_lit (b o n : Nat) : (⟨b, o, none⟩ : Addr).add n = ⟨b, o + n, none⟩ := by
  unfold Addr.add; split <;> simp_all
theorem zac {t e : TypeId} {x ix : Operand} {v : Value} {k by_ : Nat} {z : Value} {rows : List (List Value)} {ik : IntKind} {i : Int} {m : Nat} (hR : Rd f L v k rows) (hx : opv E x = some v) (hi : opv E ix = some (.int ik i))
    (hm : i = (m : Int)) (hb : m < rows.length) (ht : P.underlying t = some (.slice e)) (hT : TI P e k by_ z) : Y P C n E ⟨d, .indexAddr t x ix, ty, pos, af, g⟩ (eaddr v k m 0) :=
  .of fun a ha w _ => by
    subst hm
    obtain ⟨it, hit, _, hk, _⟩ := hT
    obtain ⟨hl, ao, cap, rfl, h1, h2, h3⟩ := hR
    cases ao with
    | none => rw [h2 rfl] at hb; simp at hb
    | some ad =>
      obtain ⟨b, off, sp⟩ := ad
      have hsp : sp = none := (h3 _ rfl).1 (by intro e; rw [e] at hb; simp at hb)
      subst hsp
      simp [execOp, ha.eval hx, ha.eval hi, Instr.indexAt, run_underlying ht, asIntOf, sizeOf, typeInfo, hit, hk, hb, add_lit, eaddr]
def FO (P : Program) (t : TypeId) (fi off : Nat) : Prop := ∃ fs fd i, P.underlying t = some (.struct fs) ∧ fs[fi]? = some fd ∧ fd.offset = off ∧ P.info? fd.type = some i ∧ i.size ≠ 0
theorem FO.of {t fi off} {fs : Array Field} {fd : Field} {k by_ : Nat} {z : Value} (h : P.underlying t = some (.struct fs)) (h1 : fs[fi]? = some fd) (h2 : fd.offset = off) (h3 : TI P fd.type k by_ z) (hk : k ≠ 0) : FO P t fi off := by
  obtain ⟨i, hi, _, hk', _⟩ := h3
  exact ⟨fs, fd, i, h, h1, h2, hi, by omega⟩
theorem za1 {t : TypeId} {x : Operand} {fi off b o : Nat} (hx : opv E x = some (.pointer (some ⟨b, o, none⟩))) (hf : FO P t fi off) :
    Y P C n E ⟨d, .fieldAddr t x fi, ty, pos, af, g⟩ (.pointer (some ⟨b, o + off, none⟩)) :=
  .of fun a ha w _ => by
    obtain ⟨fs, fd, i, h1, h2, h3, h4, h5⟩ := hf
    simp [execOp, ha.eval hx, Instr.fieldAt, run_underlying h1, h2, Instr.sureAddr, fieldPlace, sizeOf, typeInfo, h4, h5, h3, add_lit]
theorem zp6 {v : Value} {k i : Nat} {rows : List (List Value)} (hR : Rd f L v k rows) (hi : i < rows.length) : ∃ b o, ∀ j, eaddr v k i j = .pointer (some ⟨b, o + j, none⟩) := by
  obtain ⟨hl, ao, cap, rfl, h1, h2, h3⟩ := hR
  cases ao with
  | none => rw [h2 rfl] at hi; simp at hi
  | some ad => exact ⟨ad.block, ad.off + i * k, fun j => by simp [eaddr, Nat.add_assoc]⟩
theorem zck {t : TypeId} {x : Operand} {fi off : Nat} {v : Value} {k i j : Nat} {rows} (hR : Rd f L v k rows) (hx : opv E x = some (eaddr v k i j)) (hi : i < rows.length) (hf : FO P t fi off) :
    Y P C n E ⟨d, .fieldAddr t x fi, ty, pos, af, g⟩ (eaddr v k i (j + off)) := by
  obtain ⟨b, o, he⟩ := zp6 hR hi
  rw [he] at hx
  rw [he, ← Nat.add_assoc]
  exact za1 hx hf
theorem zu6 {t : TypeId} {x : Operand} {b o : Nat} {u : Value} {td : TypeDesc} (hx : opv E x = some (.pointer (some ⟨b, o, none⟩))) (hc : Cell f L b o u) (ht : P.underlying t = some td) (ha : Agg td = false) :
    Y P (Cw w0 f L) n E ⟨d, .load t x, ty, pos, af, g⟩ u :=
  .of fun a he w hw => by
    have := hc.cell? hw
    have hag : (match td with | .struct _ | .array _ _ => true | _ => false) = false := by cases td <;> first | rfl | simp [Agg] at ha
    cases td <;> first | (simp [Agg] at ha; done) | simp [execOp, he.eval hx, Instr.loadAt, Instr.sureAddr, loadVar, isAgg, run_underlying ht, this]
theorem zbm {t : TypeId} {x : Operand} {v : Value} {k i j : Nat} {rows : List (List Value)} {r : List Value} {u : Value} {td : TypeDesc} (hR : Rd f L v k rows) (hx : opv E x = some (eaddr v k i j)) (hr : rows[i]? = some r) (hu : r[j]? = some u)
    (ht : P.underlying t = some td) (ha : Agg td = false) : Y P (Cw w0 f L) n E ⟨d, .load t x, ty, pos, af, g⟩ u := by
  obtain ⟨b, o, he, hc⟩ := hR.cell hr hu
  rw [he] at hx
  exact zu6 hx hc ht ha
theorem zlt {t : TypeId} {x : Operand} {b o : Nat} {cs : List Value} {td : TypeDesc} {k by_ : Nat} {z : Value} (hx : opv E x = some (.pointer (some ⟨b, o, none⟩))) (hc : ∀ j u, cs[j]? = some u → Cell f L b (o + j) u)
    (ht : P.underlying t = some td) (ha : Agg td = true) (hT : TI P t k by_ z) (hk : cs.length = k) : Y P (Cw w0 f L) n E ⟨d, .load t x, ty, pos, af, g⟩ (.agg cs.toArray) :=
  .of fun a he w hw => by
    obtain ⟨it, hit, _, hk', _⟩ := hT
    have hl : (loadCells ⟨b, o, none⟩ it.size).run P w = .ok cs.toArray w := by
      rw [hk', ← hk]
      exact run_loadCells_list w _ cs fun j u hj => by rw [add_lit]; exact (hc j u hj).cell? hw
    cases td <;> first | (simp [Agg] at ha; done) | simp [execOp, he.eval hx, Instr.loadAt, Instr.sureAddr, loadVar, isAgg, run_underlying ht, sizeOf, typeInfo, hit, hl]
theorem zdn {t : TypeId} {x : Operand} {v : Value} {k i : Nat} {rows : List (List Value)} {r : List Value} {td : TypeDesc} {by_ : Nat} {z : Value} (hR : Rd f L v k rows) (hx : opv E x = some (eaddr v k i 0)) (hr : rows[i]? = some r)
    (ht : P.underlying t = some td) (ha : Agg td = true) (hT : TI P t k by_ z) : Y P (Cw w0 f L) n E ⟨d, .load t x, ty, pos, af, g⟩ (.agg r.toArray) := by
  have hi : i < rows.length := (List.getElem?_eq_some_iff.1 hr).1
  obtain ⟨b, o, he⟩ := zp6 hR hi
  rw [he] at hx
  refine zlt hx (fun j u hj => ?_) ht ha hT (hR.len r (List.mem_of_getElem? hr)).1
  obtain ⟨b', o', he', hc⟩ := hR.cell hr hj
  rw [he] at he'
  cases he'
  exact hc
theorem Cell.blk {b o : Nat} {cs : Array Value} {e : TypeId} {fr : Nat × Nat} {u : Value} (hm : .blk b (.cells cs e fr) ∈ L) (h : cs[o]? = some u) : Cell f L b o u := .inr ⟨_, hm, rfl, h⟩
theorem y_build {t : TypeId} {parts : List (Nat × Operand)} {vs : List (Nat × Value)} {cells : Array Value} (hv : parts.mapM (fun p => (opv E p.2).map fun v => (p.1, v)) = some vs) (hb : P.built t vs = some cells) :
    Y P C n E ⟨d, .build t parts.toArray, ty, pos, af, g⟩ (.agg cells) :=
  .of fun a he w _ => by
    have e1 : (parts.toArray.map fun (i, x) => (i, a.eval x)).toList = vs := by simpa using evalParts he hv
    simp only [execOp, Sem.run_bind, run_build w t _ cells (by rw [e1]; exact hb), Result.andThen_ok, Sem.run_pure]
theorem zuk {p : Addr} {u v : Value} (hu : u.oneCell' = true) (hc : w.cell? p = some v) (hf : w.frozen? p = false) : (store p u .plain).run P w = .ok () (w.setCell p u) := by
  rw [run_store P w p u .plain hu]
  simp [hc, hf]
theorem zjn {t : TypeId} {p : Addr} {u v : Value} {by_ : Nat} {z : Value} (hu : u.oneCell' = true) (hT : TI P t 1 by_ z) (hc : w.cell? p = some v) (hf : w.frozen? p = false) :
    (storeVar t p u).run P w = .ok () (w.setCell p u) := by
  obtain ⟨i, hi, _, hk', _⟩ := hT
  have e1 : u.cells = #[u] := by cases u <;> first | rfl | simp [Value.oneCell'] at hu
  have e0 : p.add 0 = p := by simp [Addr.add]
  simp [storeVar, e1, sizeOf, typeInfo, hi, hk', storeCells, e0, zuk hu hc hf]
theorem Cell.free {b o : Nat} {cs : Array Value} {e : TypeId} (hg : w.heap[b]? = some (.cells cs e (0,0))) : w.frozen? ⟨b, o, none⟩ = false := by
  simp [World.frozen?, hg]
theorem zda {t : TypeId} {x y : Operand} {b o : Nat} {u : Value} {i : Nat} {cs cs' : Array Value} {e : TypeId} {by_ : Nat} {z : Value} (hs : St n w0 f L E a w) (hi : L[i]? = some (.blk b (.cells cs e (0,0))))
    (hx : opv E x = some (.pointer (some ⟨b, o, none⟩))) (hy : opv E y = some u) (hT : TI P t 1 by_ z) (hu : u.oneCell' = true) (ho : o < cs.size) (hc' : cs.setIfInBounds o u = cs') (hw : Want ops E ⟨none, .store t x y, ty, pos, af, g⟩ true)
    (h : ∀ a w, St n w0 f (L.set i (.blk b (.cells cs' e (0,0)))) E a w → RL P ops rest K a w) : RL P ops (⟨none, .store t x y, ty, pos, af, g⟩ :: rest) K a w := by
  have hlive : w.heap[b]? = some (.cells cs e (0,0)) := hs.cw.live _ (List.mem_of_getElem? hi)
  have hcell : w.cell? ⟨b, o, none⟩ = some (cs[o]'ho) := by simp [World.cell?, hlive, ho]
  refine RL_u hs hw (.drop rfl) (w' := w.setCell ⟨b, o, none⟩ u) (f' := f) (L' := L.set i (.blk b (.cells cs' e (0,0)))) ?_ ?_ h
  · simp [execOp, hs.ev.eval hx, hs.ev.eval hy, Instr.storeAt, Instr.sureAddr, zjn hu hT hcell (Cell.free hlive)]
  · subst hc'
    refine hs.cw.repl hi (Grew.setCell w ⟨b, o, none⟩ u) ?_ (fun b' hb => .inl hb)
    exact heap_setCell_same w b o cs e u hlive
theorem zb5 {t : TypeId} {x y : Operand} {b : Nat} {cells : Array Value} {i : Nat} {cs : Array Value} {e : TypeId} {k by_ : Nat} {z : Value} (hs : St n w0 f L E a w) (hi : L[i]? = some (.blk b (.cells cs e (0,0))))
    (hx : opv E x = some (.pointer (some ⟨b,0, none⟩))) (hy : opv E y = some (.agg cells)) (hT : TI P t k by_ z) (hk : cs.size = k ∧ cells.size = k) (hu : cells.all (·.oneCell') = true) (hw : Want ops E ⟨none, .store t x y, ty, pos, af, g⟩ true)
    (h : ∀ a w, St n w0 f (L.set i (.blk b (.cells cells e (0,0)))) E a w → RL P ops rest K a w) : RL P ops (⟨none, .store t x y, ty, pos, af, g⟩ :: rest) K a w := by
  have hlive : w.heap[b]? = some (.cells cs e (0,0)) := hs.cw.live _ (List.mem_of_getElem? hi)
  obtain ⟨it, hit, _, hk', _⟩ := hT
  have hrun := run_storeVar_row (P := P) w b e t cs cells hlive (by simp [hit]; omega) (by omega) hu
  refine RL_u hs hw (.drop rfl) (w' := w.setRow b cells) (f' := f) (L' := L.set i (.blk b (.cells cells e (0,0)))) ?_ ?_ h
  · simp [execOp, hs.ev.eval hx, hs.ev.eval hy, Instr.storeAt, Instr.sureAddr, hrun]
  · exact hs.cw.repl hi (Grew.setRow w b _) (setRow_heap w b cs _ e _ hlive) (fun b' hb => .inl hb)
theorem zny {α : Type} {k : Nat} : ∀ {rows : List (List α)}, (∀ r ∈ rows, r.length = k) → ∀ {i r j x}, rows[i]? = some r → j < k → (rows.set i (r.set j x)).flatten = rows.flatten.set (i * k + j) x
  | [], _, i, r, j, x, hr, _ => by simp at hr
  | r0 :: rows, hl, i, r, j, x, hr, hx => by
    have h0 : r0.length = k := hl r0 (by simp)
    cases i with
    | zero =>
      simp at hr; subst hr
      simp only [List.set_cons_zero, List.flatten_cons]
      rw [List.set_append_left _ _ (by omega)]
      simp
    | succ i =>
      simp at hr
      simp only [List.set_cons_succ, List.flatten_cons]
      rw [List.set_append_right _ _ (by rw [h0, Nat.succ_mul]; omega), zny (fun r hr => hl r (by simp [hr])) hr hx]
      congr 2
      rw [h0, Nat.succ_mul]; omega
theorem zei {t : TypeId} {x y : Operand} {v u : Value} {i m j : Nat} {k : Nat} {rows : List (List Value)} {r : List Value} {e : TypeId} {by_ : Nat} {z : Value} (hs : St n w0 f L E a w) (hi : L[i]? = some (.row v e k rows))
    (hx : opv E x = some (eaddr v k m j)) (hy : opv E y = some u) (hr : rows[m]? = some r) (hj : j < k) (hT : TI P t 1 by_ z) (hu : u.oneCell' = true) (hw : Want ops E ⟨none, .store t x y, ty, pos, af, g⟩ true)
    (h : ∀ a w, St n w0 f (L.set i (.row v e k (rows.set m (r.set j u)))) E a w → RL P ops rest K a w) : RL P ops (⟨none, .store t x y, ty, pos, af, g⟩ :: rest) K a w := by
  have hm : m < rows.length := (List.getElem?_eq_some_iff.1 hr).1
  obtain ⟨hown, hone⟩ := hs.cw.live _ (List.mem_of_getElem? hi)
  have hrk := hone r (List.mem_of_getElem? hr)
  rcases hown.2 with ⟨rfl, h0⟩ | ⟨gb, cap, cur, rfl, _, hg, hnc, hcm, hcs, htk⟩
  · omega
  have hx' : opv E x = some (.pointer (some ⟨gb, m * k + j, none⟩)) := by simpa [eaddr] using hx
  have hfl := zez fun r hr => (hone r hr).1
  have hlt : m * k + j < rows.length * k := by
    have := Nat.mul_le_mul_right k (show m + 1 ≤ rows.length by omega)
    rw [Nat.succ_mul] at this; omega
  have hcur : m * k + j < cur.size := by
    have := Nat.mul_le_mul_right k hnc
    omega
  have hcell : w.cell? ⟨gb, m * k + j, none⟩ = some (cur[m * k + j]'hcur) := by simp [World.cell?, hg, hcur]
  refine RL_u hs hw (.drop rfl) (w' := w.setCell ⟨gb, m * k + j, none⟩ u) (f' := f) (L' := L.set i (.row (.slice (some ⟨gb,0, none⟩) rows.length cap) e k (rows.set m (r.set j u)))) ?_ ?_ h
  · simp [execOp, hs.ev.eval hx', hs.ev.eval hy, Instr.storeAt, Instr.sureAddr, zjn hu hT hcell (Cell.free hg)]
  · refine hs.cw.repl hi (Grew.setCell w ⟨gb, m * k + j, none⟩ u) ⟨?_, ?_⟩ (fun b' hb => .inl hb)
    · have hst := World.ownsRow.stored hown (m * k + j) u
      rw [List.length_set, zny (fun r hr => (hone r hr).1) hr hj]
      exact hst.1
    · intro q hq
      rcases List.mem_or_eq_of_mem_set hq with hq | rfl
      · exact hone q hq
      · refine ⟨by rw [List.length_set]; exact hrk.1, fun x hx => ?_⟩
        rcases List.mem_or_eq_of_mem_set hx with hx | rfl
        · exact hrk.2 x hx
        · exact hu
end
end
section
open Go.RowKit
section
variable {P : Program} {f f' : Fz} {L L' : List Ent} {w0 w w' : World} {n : Nat} {E E' : List (Nat × Value)} {a : Act}
variable {ops : Array Oper} {rest : List Oper} {o : Oper} {K : AP} {C : World → Prop}
variable {d : Option Tmp} {ty : TypeId} {pos : String} {af : Array Edge} {g : Option (Nat × Bool)}
def Gives (P : Program) (fn : FuncId) (args : List Value) (f : Fz) (v : Value) : Prop :=
  ∀ w0 L w, Cw w0 f L w → Calls P fn args.toArray w fun e w' => e = .returned v ∧ Cw w0 f L w'
def Does (P : Program) (fn : FuncId) (args : List Value) (f : Fz) (Lr : List Ent) (R : Value → Fz → List Ent → Prop) : Prop :=
  ∀ w0 L w, Cw w0 f (Lr ++ L) w → Calls P fn args.toArray w fun e w' => ∃ v f' L', e = .returned v ∧ Fz.le f f' ∧ Cw w0 f' (L' ++ L) w' ∧ R v f' L'
theorem Does.mono {fn args Lr} {R R' : Value → Fz → List Ent → Prop} (h : Does P fn args f Lr R) (hr : ∀ v f' L', R v f' L' → R' v f' L') : Does P fn args f Lr R' :=
  fun w0 L w hC => (h w0 L w hC).mono fun _ _ ⟨v, f', L', h1, h2, h3, h4⟩ => ⟨v, f', L', h1, h2, h3, hr _ _ _ h4⟩
def Rt (P : Program) (fn : Func) (R : Ending → World → Prop) : AP := fun a w => a.defers = [] ∧ ∃ v,(results fn a.tmps).run P w = .ok v w ∧ R (.returned v) w
def argEnv : Nat → List Value → List (Nat × Value)
  | _,[] => []
  | i, v :: vs => (i, v) :: argEnv (i + 1) vs
theorem zk1 : ∀ (vs : List Value) (i t : Nat) (v : Value), look (argEnv i vs) t = some v → i ≤ t ∧ vs[t - i]? = some v
  | [], _, _, _, h => by simp [argEnv, look] at h
  | u :: vs, i, t, v, h => by
    simp only [argEnv, look] at h
    by_cases e : i = t
    · subst e; simp at h; subst h; simp
    · rw [nbeq e] at h
      obtain ⟨h1, h2⟩ := zk1 vs (i + 1) t v h
      refine ⟨by omega, ?_⟩
      rw [show t - i = (t - (i + 1)) + 1 by omega]
      simpa using h2
theorem enter {gn : FuncId} {fn : Func} {c : Code} {args : List Value} {R : Ending → World → Prop} (hf : P.funcs[gn]? = some fn) (hb : fn.body = some c) (hn : fn.ntmps = n) (hl : args.length ≤ n) (hC : Cw w0 f L w)
    (h : ∀ a, St n w0 f L (argEnv 0 args) a w → W P c (Rt P fn R) (fun _ _ _ => False) (Rt P fn R) (fun _ _ _ => False) a w) : Calls P gn args.toArray w R := by
  refine calls_of_wp hf hb (wpIn_wide (n := 0).1 (wpIn_mono (h { tmps := args.toArray ++ Array.replicate (fn.ntmps - args.toArray.size) undef, defers := [] } ⟨⟨?_, rfl, ?_⟩, hC⟩ none []) fun e a w q => ?_))
  · simp; omega
  · intro t v ht
    obtain ⟨_, h2⟩ := zk1 args 0 t v ht
    simp only [Nat.sub_zero] at h2
    have hlt : t < args.length := (List.getElem?_eq_some_iff.1 h2).1
    rw [Array.getElem?_append_left (by simpa using hlt)]
    simpa using h2
  · obtain ⟨b, rfl, q⟩ := q
    cases e <;> first | exact ⟨rfl, q.2⟩ | exact q.elim
theorem Rt_0 {fn : Func} {R : Ending → World → Prop} (hs : St n w0 f L E a w) (hr : fn.results = #[]) (h : R (.returned (.tuple #[])) w) : Rt P fn R a w :=
  ⟨hs.ev.defers, _, results_none hr _ _ _, h⟩
theorem Rt_1 {fn : Func} {R : Ending → World → Prop} {t : Nat} {v : Value} (hs : St n w0 f L E a w) (hr : fn.results = #[.tmp t]) (hv : look E t = some v) (h : R (.returned v) w) : Rt P fn R a w := by
  refine ⟨hs.ev.defers, _, results_tmp hr _ _ _, ?_⟩
  rw [show a.tmps.getD t undef = v from by simp [Array.getD_eq_getD_getElem?, hs.ev.slots t v hv]]
  exact h
theorem Rt_2 {fn : Func} {R : Ending → World → Prop} {t t2 : Nat} {v v2 : Value} (hs : St n w0 f L E a w) (hr : fn.results = #[.tmp t, .tmp t2]) (hv : look E t = some v) (hv2 : look E t2 = some v2) (h : R (.returned (.tuple #[v, v2])) w) : Rt P fn R a w := by
  refine ⟨hs.ev.defers, _, results_tmp2 hr _ _ _, ?_⟩
  rw [show a.tmps.getD t undef = v from by simp [Array.getD_eq_getD_getElem?, hs.ev.slots t v hv], show a.tmps.getD t2 undef = v2 from by simp [Array.getD_eq_getD_getElem?, hs.ev.slots t2 v2 hv2]]
  exact h
def Has (P : Program) (gn : FuncId) : Prop := ∃ fn, P.funcs[gn]? = some fn ∧ fn.body.isNone = false ∧ (fn.name == "runtime.NumGoroutine") = false
theorem evalArgs (hs : Ev n E a) : ∀ {l : List Operand} {vs : List Value}, l.mapM (opv E) = some vs → l.map a.eval = vs
  | [], vs, h => by simp at h; subst h; rfl
  | p :: l, vs, h => by
    simp only [List.mapM_cons, Option.bind_eq_bind, Option.bind_eq_some_iff] at h
    obtain ⟨q, hq, qs, hqs, e⟩ := h
    simp at e
    subst e
    simp [hs.eval hq, evalArgs hs hqs]
theorem zi7 {gn : FuncId} {vs : Array Value} (hg : Has P gn) : (callFunc gn vs).run P w = .ok (.enter gn vs) w := by
  obtain ⟨fn, h1, h2, h3⟩ := hg
  have h3' : fn.name ≠ "runtime.NumGoroutine" := by simpa using h3
  have h2' : fn.body ≠ none := by intro e; simp [e] at h2
  simp [callFunc, h1, h2', h3']
theorem zi1 {gn : FuncId} {x : Operand} {cap : Array Value} {as : List Operand} {vs : List Value} {ats : Array TypeId} (hs : Ev n E a) (hx : opv E x = some (.func (.func gn) #[] cap)) (hg : Has P gn) (hv : as.mapM (opv E) = some vs) :
    (execOp a.eval ⟨d, .call { callee := .value x, args := as.toArray, argTypes := ats }, ty, pos, af, g⟩).run P w = .ok (.enter gn (vs.toArray ++ cap)) w := by
  have := evalArgs hs hv
  have e1 : as.toArray.map a.eval = vs.toArray := by simp [this]
  simp [execOp, resolve, hs.eval hx, Deferred.ofValue, invoke, zi7 hg, e1]
theorem zbi {gn : FuncId} {x : Operand} {as : List Operand} {vs : List Value} {ats : Array TypeId} {v : Value} (hx : opv E x = some (.func (.func gn) #[] #[])) (hg : Has P gn) (hv : as.mapM (opv E) = some vs) (hp : Gives P gn vs f v) :
    Y P (Cw w0 f L) n E ⟨d, .call { callee := .value x, args := as.toArray, argTypes := ats }, ty, pos, af, g⟩ v := by
  intro a ha w hw
  unfold Oper.quietAt
  rw [zi1 ha hx hg hv]
  exact ⟨rfl, by simpa using hp w0 L w hw⟩
theorem zbb {gn : FuncId} {x : Operand} {cap : Array Value} {as : List Operand} {vs : List Value} {ats : Array TypeId} {Lr Lf : List Ent} {R : Value → Fz → List Ent → Prop} (hs : St n w0 f L E a w) {dd : Nat}
    (hx : opv E x = some (.func (.func gn) #[] cap)) (hg : Has P gn) (hv : as.mapM (opv E) = some vs) (hL : L = Lr ++ Lf) (hp : Does P gn (vs ++ cap.toList) f Lr R)
    (hw : Want ops E ⟨some dd, .call { callee := .value x, args := as.toArray, argTypes := ats }, ty, pos, af, g⟩ true) (hd : dd < n)
    (h : ∀ v f' L' a w, Fz.le f f' → R v f' L' → St n w0 f' (L' ++ Lf) ((dd, v) :: E) a w → RL P ops rest K a w) :
    RL P ops (⟨some dd, .call { callee := .value x, args := as.toArray, argTypes := ats }, ty, pos, af, g⟩ :: rest) K a w := by
  refine zjg fun K' hK' => ?_
  rw [if_pos (hw.wanted hs.ev)]
  unfold opS
  rw [zi1 hs.ev hx hg hv]
  subst hL
  have := hp w0 Lf w hs.cw
  rw [show (vs ++ cap.toList).toArray = vs.toArray ++ cap from by simp] at this
  refine this.mono ?_
  rintro e w' ⟨v, f', L', rfl, h1, h2, h3⟩
  exact ⟨v, rfl, hK' _ _ (h v f' L' _ _ h1 h3 ⟨hs.ev.put hd v, h2⟩)⟩
end
end
section
open Go.RowKit
section
variable {P : Program} {f f' : Fz} {L L' : List Ent} {w0 w w' : World} {n : Nat} {E E' : List (Nat × Value)} {a : Act}
variable {ops : Array Oper} {rest : List Oper} {o : Oper} {K : AP} {C : World → Prop}
variable {d : Option Tmp} {ty : TypeId} {pos : String} {af : Array Edge} {g : Option (Nat × Bool)}
theorem Rd.up {v k rows} (h : Rd f [] v k rows) : Rd f L v k rows := h.mono (.refl f) (by simp)
theorem Rd.le {v k rows} (h : Rd f L v k rows) (hf : Fz.le f f') : Rd f' L v k rows := h.mono hf (fun _ h => h)
theorem Rd.st {v e k rows} (hs : St n w0 f L E a w) (hm : .row v e k rows ∈ L) : Rd f L v k rows := Rd.ofOwn hm hs.cw
theorem sy {v : Value} {dd : Nat} {op : Op} (hs : St n w0 f L E a w) (hy : Y P (Cw w0 f L) n E ⟨some dd, op, ty, pos, af, none⟩ v) (h : ∀ a w, St n w0 f L ((dd, v) :: E) a w → RL P ops rest K a w) (hd : dd < n := by decide) :
    RL P ops (⟨some dd, op, ty, pos, af, none⟩ :: rest) K a w := RL_y hs (.free rfl) (.to rfl hd) hy h
theorem sy0 {v : Value} {op : Op} (hs : St n w0 f L E a w) (hy : Y P (Cw w0 f L) n E ⟨none, op, ty, pos, af, none⟩ v) (h : ∀ a w, St n w0 f L E a w → RL P ops rest K a w) :
    RL P ops (⟨none, op, ty, pos, af, none⟩ :: rest) K a w := RL_y hs (.free rfl) (.drop rfl) hy h
theorem syg {v : Value} {dd j gd : Nat} {b : Bool} {op : Op} (hs : St n w0 f L E a w) (hy : Y P (Cw w0 f L) n E ⟨some dd, op, ty, pos, af, some (j, b)⟩ v) (h : ∀ a w, St n w0 f L ((dd, v) :: E) a w → RL P ops rest K a w)
    (hg : (ops[j]?).bind (·.dst) = some gd := by rfl) (hl : look E gd = some (.bool b) := by rfl) (hd : dd < n := by decide) :
    RL P ops (⟨some dd, op, ty, pos, af, some (j, b)⟩ :: rest) K a w := RL_y hs (.yes rfl hg hl) (.to rfl hd) hy h
theorem sno {dd j gd : Nat} {b : Bool} {op : Op} (hs : St n w0 f L E a w) (h : ∀ a w, St n w0 f L ((dd, undef) :: E) a w → RL P ops rest K a w)
    (hg : (ops[j]?).bind (·.dst) = some gd := by rfl) (hl : look E gd = some (.bool (!b)) := by rfl) (hd : dd < n := by decide) :
    RL P ops (⟨some dd, op, ty, pos, af, some (j, b)⟩ :: rest) K a w := zvu hs (.no rfl hg hl) (.to rfl hd) h
theorem sun {dd j gd : Nat} {b : Bool} {op : Op} (hs : St n w0 f L E a w) (h : ∀ a w, St n w0 f L ((dd, undef) :: E) a w → RL P ops rest K a w)
    (hg : (ops[j]?).bind (·.dst) = some gd := by rfl) (hl : look E gd = some undef := by rfl) (hd : dd < n := by decide) :
    RL P ops (⟨some dd, op, ty, pos, af, some (j, b)⟩ :: rest) K a w := zvu hs (.un rfl hg hl) (.to rfl hd) h
theorem qy {v : Value} {dd : Nat} {op : Op} (he : Ev n E a) (hy : Y P (Cw w0 f L) n E ⟨some dd, op, ty, pos, af, none⟩ v) (h : ∀ a, Ev n ((dd, v) :: E) a → QL P ops (Cw w0 f L) rest K a) (hd : dd < n := by decide) :
    QL P ops (Cw w0 f L) (⟨some dd, op, ty, pos, af, none⟩ :: rest) K a := QL_y he (.free rfl) (.to rfl hd) hy h
theorem qyg {v : Value} {dd j gd : Nat} {b : Bool} {op : Op} (he : Ev n E a) (hy : Y P (Cw w0 f L) n E ⟨some dd, op, ty, pos, af, some (j, b)⟩ v) (h : ∀ a, Ev n ((dd, v) :: E) a → QL P ops (Cw w0 f L) rest K a)
    (hg : (ops[j]?).bind (·.dst) = some gd := by rfl) (hl : look E gd = some (.bool b) := by rfl) (hd : dd < n := by decide) :
    QL P ops (Cw w0 f L) (⟨some dd, op, ty, pos, af, some (j, b)⟩ :: rest) K a := QL_y he (.yes rfl hg hl) (.to rfl hd) hy h
theorem qno {dd j gd : Nat} {b : Bool} {op : Op} (he : Ev n E a) (h : ∀ a, Ev n ((dd, undef) :: E) a → QL P ops (Cw w0 f L) rest K a)
    (hg : (ops[j]?).bind (·.dst) = some gd := by rfl) (hl : look E gd = some (.bool (!b)) := by rfl) (hd : dd < n := by decide) :
    QL P ops (Cw w0 f L) (⟨some dd, op, ty, pos, af, some (j, b)⟩ :: rest) K a := zvz he (.no rfl hg hl) (.to rfl hd) h
theorem qun {dd j gd : Nat} {b : Bool} {op : Op} (he : Ev n E a) (h : ∀ a, Ev n ((dd, undef) :: E) a → QL P ops (Cw w0 f L) rest K a)
    (hg : (ops[j]?).bind (·.dst) = some gd := by rfl) (hl : look E gd = some undef := by rfl) (hd : dd < n := by decide) :
    QL P ops (Cw w0 f L) (⟨some dd, op, ty, pos, af, some (j, b)⟩ :: rest) K a := zvz he (.un rfl hg hl) (.to rfl hd) h
theorem St.split {t : Nat} {c : Bool} {G : Prop} (hs : St n w0 f L E a w) (hl : look E t = some (.bool c)) (ht : c = true → St n w0 f L ((t, .bool true) :: E) a w → G) (hf : c = false → St n w0 f L ((t, .bool false) :: E) a w → G) : G := by
  have key : ∀ b, c = b → St n w0 f L ((t, .bool b) :: E) a w := fun b hb => by
    subst hb
    refine ⟨⟨hs.ev.size, hs.ev.defers, fun s v hv => ?_⟩, hs.cw⟩
    simp only [look] at hv
    by_cases e : t = s
    · subst e; simp at hv; subst hv; exact hs.ev.slots _ _ hl
    · rw [nbeq e] at hv; exact hs.ev.slots _ _ hv
  cases c with
  | true => exact ht rfl (key _ rfl)
  | false => exact hf rfl (key _ rfl)
theorem Ev.split {t : Nat} {c : Bool} {G : Prop} (he : Ev n E a) (hl : look E t = some (.bool c)) (ht : c = true → Ev n ((t, .bool true) :: E) a → G) (hf : c = false → Ev n ((t, .bool false) :: E) a → G) : G := by
  have key : ∀ b, c = b → Ev n ((t, .bool b) :: E) a := fun b hb => by
    subst hb
    refine ⟨he.size, he.defers, fun s v hv => ?_⟩
    simp only [look] at hv
    by_cases e : t = s
    · subst e; simp at hv; subst hv; exact he.slots _ _ hl
    · rw [nbeq e] at hv; exact he.slots _ _ hv
  cases c with
  | true => exact ht rfl (key _ rfl)
  | false => exact hf rfl (key _ rfl)
theorem zg4 {n : Int} (h : -9223372036854775808 ≤ n ∧ n ≤ 9223372036854775807) : IntKind.i64.wrap n = n := IntWalk.i64_in n h
theorem zdq {Qn : AP} {Qe : Nat → AP} {Qr : AP} {Qg : Nat → AP} {c : Operand} {x y : Code} (hs : St n w0 f L E a w) (hc : opv E c = some (.bool true)) (h : W P x Qn Qe Qr Qg a w) : W P (.cond c x y) Qn Qe Qr Qg a w :=
  zah hs hc (fun _ => h) (fun e => by cases e)
theorem zdj {Qn : AP} {Qe : Nat → AP} {Qr : AP} {Qg : Nat → AP} {c : Operand} {x y : Code} (hs : St n w0 f L E a w) (hc : opv E c = some (.bool false)) (h : W P y Qn Qe Qr Qg a w) : W P (.cond c x y) Qn Qe Qr Qg a w :=
  zah hs hc (fun e => by cases e) (fun _ => h)
theorem zho {Qn : AP} {Qe : Nat → AP} {Qr : AP} {Qg : Nat → AP} {c : Operand} {x y : Code} {p : Prop} [Decidable p] (hs : St n w0 f L E a w) (hc : opv E c = some (.bool (decide p))) (ht : p → W P x Qn Qe Qr Qg a w)
    (hf : ¬ p → W P y Qn Qe Qr Qg a w) : W P (.cond c x y) Qn Qe Qr Qg a w :=
  zah hs hc (fun e => ht (of_decide_eq_true e)) (fun e => hf (of_decide_eq_false e))
theorem St.splitP {t : Nat} {p : Prop} [Decidable p] {G : Prop} (hs : St n w0 f L E a w) (hl : look E t = some (.bool (decide p))) (ht : p → St n w0 f L ((t, .bool true) :: E) a w → G) (hf : ¬ p → St n w0 f L ((t, .bool false) :: E) a w → G) : G :=
  hs.split hl (fun e => ht (of_decide_eq_true e)) (fun e => hf (of_decide_eq_false e))
theorem y_mul {x y : Operand} {t t' : TypeId} {k : IntKind} {i j m : Int} (hx : opv E x = some (.int k i)) (hy : opv E y = some (.int k j)) (hm : k.wrap (i * j) = m) :
    Y P C n E ⟨d, .binOp .mul t x y t', ty, pos, af, g⟩ (.int k m) :=
  .of fun a ha w _ => by simp [execOp, ha.eval hx, ha.eval hy, eqGuard, binOp, Op.intArith, hm]
theorem zpj {x y : Operand} {t t' : TypeId} {k : IntKind} {i j : Int} (hx : opv E x = some (.int k i)) (hy : opv E y = some (.int k j)) :
    Y P C n E ⟨d, .binOp .leq t x y t', ty, pos, af, g⟩ (.bool (decide (i ≤ j))) :=
  .of fun a ha w _ => by simp [execOp, ha.eval hx, ha.eval hy, eqGuard, binOp, Op.intCmp]
theorem zhq {x y : Operand} {t t' : TypeId} {k : IntKind} {i j : Int} (hx : opv E x = some (.int k i)) (hy : opv E y = some (.int k j)) :
    Y P C n E ⟨d, .binOp .gtr t x y t', ty, pos, af, g⟩ (.bool (decide (j < i))) :=
  .of fun a ha w _ => by simp [execOp, ha.eval hx, ha.eval hy, eqGuard, binOp, Op.intCmp]
theorem zkf {x y : Operand} {t t' : TypeId} {k : IntKind} {i j : Int} (hx : opv E x = some (.int k i)) (hy : opv E y = some (.int k j)) :
    Y P C n E ⟨d, .binOp .geq t x y t', ty, pos, af, g⟩ (.bool (decide (j ≤ i))) :=
  .of fun a ha w _ => by simp [execOp, ha.eval hx, ha.eval hy, eqGuard, binOp, Op.intCmp]
theorem zct {x y : Operand} {t t' : TypeId} {k : IntKind} {i j : Int} (hx : opv E x = some (.int k i)) (hy : opv E y = some (.int k j)) :
    Y P C n E ⟨d, .binOp .eql t x y t', ty, pos, af, g⟩ (.bool (decide (i = j))) :=
  .of fun a ha w _ => by by_cases e : i = j <;> simp [execOp, ha.eval hx, ha.eval hy, eqGuard, binOp, Op.intCmp, e]
theorem y_rem {x y : Operand} {t t' : TypeId} {i j : Int} (hx : opv E x = some (.int .i64 i)) (hy : opv E y = some (.int .i64 j)) (h0 : 0 ≤ i ∧ i ≤ 9223372036854775807) (h1 : 0 < j) :
    Y P C n E ⟨d, .binOp .rem t x y t', ty, pos, af, g⟩ (.int .i64 (i % j)) :=
  .of fun a ha w _ => by
    have hj : j ≠ 0 := by omega
    have h2 : i.tmod j = i % j := Int.tmod_eq_emod_of_nonneg h0.1
    have h3 : 0 ≤ i % j := Int.emod_nonneg _ (by omega)
    have h4 : i % j < j := Int.emod_lt_of_pos _ h1
    simp [execOp, ha.eval hx, ha.eval hy, eqGuard, binOp, Op.intDiv, hj, h2]
theorem zmk {s u : ByteArray} (h : s.toList = u.toList) : s = u := by
  rw [ByteArray.toList_eq, ByteArray.toList_eq] at h
  cases s; cases u; simp at h ⊢; exact h
theorem y_sadd {x y : Operand} {t t' : TypeId} {s u : ByteArray} (hx : opv E x = some (.string s)) (hy : opv E y = some (.string u)) (hb : s.size + u.size ≤ 9223372036854775807) :
    Y P C n E ⟨d, .binOp .add t x y t', ty, pos, af, g⟩ (.string (s ++ u)) :=
  .of fun a ha w _ => by simp [execOp, ha.eval hx, ha.eval hy, eqGuard, binOp, run_string_add_sum (P := P) w s u hb]
theorem zcs {x y : Operand} {t t' : TypeId} {s u : ByteArray} (hx : opv E x = some (.string s)) (hy : opv E y = some (.string u)) :
    Y P C n E ⟨d, .binOp .eql t x y t', ty, pos, af, g⟩ (.bool (decide (s = u))) :=
  .of fun a ha w _ => by
    have : (s.toList == u.toList) = decide (s = u) := by
      by_cases e : s = u
      · simp [e]
      · have : s.toList ≠ u.toList := fun h => e (zmk h)
        simp [e, this]
    simp [execOp, ha.eval hx, ha.eval hy, eqGuard, binOp, Op.stringOp, this]
theorem zhr {x y : Operand} {t t' : TypeId} {s u : ByteArray} (hx : opv E x = some (.string s)) (hy : opv E y = some (.string u)) :
    Y P C n E ⟨d, .binOp .neq t x y t', ty, pos, af, g⟩ (.bool (decide (s ≠ u))) :=
  .of fun a ha w _ => by
    have : (s.toList == u.toList) = decide (s = u) := by
      by_cases e : s = u
      · simp [e]
      · have : s.toList ≠ u.toList := fun h => e (zmk h)
        simp [e, this]
    by_cases e : s = u <;> simp [execOp, ha.eval hx, ha.eval hy, eqGuard, binOp, Op.stringOp, this, e]
theorem y_ixS {t : TypeId} {x ix : Operand} {s : ByteArray} {ik : IntKind} {i : Int} (hx : opv E x = some (.string s)) (hi : opv E ix = some (.int ik i)) (ht : P.underlying t = some .string) (hb : 0 ≤ i ∧ i < s.size) :
    Y P C n E ⟨d, .index t x ix, ty, pos, af, g⟩ (.int .u8 (s[i.toNat]!).toNat) :=
  .of fun a ha w _ => by
    have hlt : i.toNat < s.size := by omega
    simp [execOp, ha.eval hx, ha.eval hi, Instr.index, run_underlying ht, asIntOf, hb.1, hlt]
theorem y_ld {t : TypeId} {x : Operand} {b o : Nat} {u : Value} {td : TypeDesc} (hx : opv E x = some (.pointer (some ⟨b, o, none⟩))) (ht : P.underlying t = some td) (ha : Agg td = false)
    (hc : Cell f L b o u := by first | assumption | exact Cell.blk (by first | exact .head _ | exact .tail _ (.head _) | exact .tail _ (.tail _ (.head _)) | exact .tail _ (.tail _ (.tail _ (.head _))) | exact .tail _ (.tail _ (.tail _ (.tail _ (.head _)))) | exact .tail _ (.tail _ (.tail _ (.tail _ (.tail _ (.head _)))))) rfl) : Y P (Cw w0 f L) n E ⟨d, .load t x, ty, pos, af, g⟩ u := zu6 hx hc ht ha
theorem zj3 {t : TypeId} {x : Operand} {b : Nat} {td : TypeDesc} {cs : Array Value} {e : TypeId} {fr : Nat × Nat} {k by_ : Nat} {z : Value} (hx : opv E x = some (.pointer (some ⟨b,0, none⟩))) (ht : P.underlying t = some td) (ha : Agg td = true) (hT : TI P t k by_ z)
    (hm : .blk b (.cells cs e fr) ∈ L := by first | exact .head _ | exact .tail _ (.head _) | exact .tail _ (.tail _ (.head _)) | exact .tail _ (.tail _ (.tail _ (.head _))) | exact .tail _ (.tail _ (.tail _ (.tail _ (.head _)))) | exact .tail _ (.tail _ (.tail _ (.tail _ (.tail _ (.head _)))))) (hk : cs.size = k := by rfl) : Y P (Cw w0 f L) n E ⟨d, .load t x, ty, pos, af, g⟩ (.agg cs) := by
  have := zlt (P := P) (f := f) (L := L) (w0 := w0) (n := n) (d := d) (ty := ty) (pos := pos) (af := af) (g := g) (cs := cs.toList) hx (fun j u hj => by rw [Nat.zero_add]; exact Cell.blk hm (by simpa using hj)) ht ha hT (by simpa using hk)
  simpa using this
end
end
section
open Go.RowKit
section
variable {P : Program} {f f' : Fz} {L L' : List Ent} {w0 w w' : World} {n : Nat} {E E' : List (Nat × Value)} {a : Act}
variable {ops : Array Oper} {rest : List Oper} {o : Oper} {K : AP} {C : World → Prop}
variable {d : Option Tmp} {ty : TypeId} {pos : String} {af : Array Edge} {g : Option (Nat × Bool)}
theorem zi9 {α : Type} (l : List α) (hl : 0 < l.length) : ∀ (n j : Nat), j < n * l.length → (List.replicate n l).flatten[j]? = l[j % l.length]?
  | 0, j, h => by omega
  | n + 1, j, h => by
    rw [List.replicate_succ, List.flatten_cons]
    by_cases hj : j < l.length
    · rw [List.getElem?_append_left hj, Nat.mod_eq_of_lt hj]
    · rw [List.getElem?_append_right (by omega), zi9 l hl n _ (by rw [Nat.succ_mul] at h; omega)]
      congr 1
      rw [← Nat.mod_eq_sub_mod (by omega)]
theorem zom (z : Array Value) (n : Nat) (hz : 0 < z.size) : (madeCells z (n * z.size)).toList = (List.replicate n z.toList).flatten := by
  apply List.ext_getElem?
  intro j
  by_cases hj : j < n * z.size
  · rw [zi9 _ (by simpa using hz) _ _ (by simpa using hj)]
    have hm : j % z.size < z.size := Nat.mod_lt _ hz
    simp [madeCells, hj, hm]
  · have h1 : (madeCells z (n * z.size)).toList.length ≤ j := by simp [size_madeCells]; omega
    have h2 : (List.replicate n z.toList).flatten.length ≤ j := by
      rw [zez (k := z.size) (by intro r hr; rw [List.mem_replicate] at hr; rw [hr.2]; simp)]; simp; omega
    rw [List.getElem?_eq_none h1, List.getElem?_eq_none h2]
theorem zvw {t e : TypeId} {x y : Operand} {k by_ m : Nat} {z : Value} {dd : Nat} (hs : St n w0 f L E a w) (hx : opv E x = some (.int .i64 (m : Int))) (hy : opv E y = some (.int .i64 (m : Int))) (ht : P.underlying t = some (.slice e)) (hT : TI P e k by_ z)
    (hk : 0 < k ∧ z.cells.size = k) (h1 : OneRow k z.cells.toList) (hb : by_ * m ≤ 281474976710656 ∧ m ≤ 9223372036854775807)
    (h : ∀ v a w, St n w0 f (.row v e k (List.replicate m z.cells.toList) :: L) ((dd, v) :: E) a w → RL P ops rest K a w) (hd : dd < n := by decide) :
    RL P ops (⟨some dd, .makeSlice t x y, ty, pos, af, none⟩ :: rest) K a w := by
  obtain ⟨i, hi, hz, hk1, hk2⟩ := hT
  subst hk2
  obtain ⟨w', hr, g1, g2⟩ := run_make_full (P := P) w 0 t e i z k ht hi hz hk1 .i64 .i64 m hb.1 (by simp only [maxLen]; omega) (Nat.zero_le _)
  refine RL_v hs (.free rfl) (.to rfl hd) (v := _) (w' := w') (f' := f) (L' := .row (.slice (some ⟨w.heap.size,0, none⟩) m m) e k (List.replicate m z.cells.toList) :: L) ?_ ?_ (h _)
  · simp only [execOp, hs.ev.eval hx, hs.ev.eval hy, Sem.run_bind, hr, Result.andThen_ok, Sem.run_pure]
  · refine hs.cw.cons (.of g2) ⟨?_, ?_⟩ (fun b hb => by simp [Ent.key, Value.ownBlock] at hb; omega)
    · have e1 := zom z.cells m (by omega)
      rw [hk.2] at e1
      rw [List.length_replicate, ← e1]
      exact g1
    · intro r hr
      rw [List.mem_replicate] at hr
      rw [hr.2]; exact h1
theorem RL_make0 {t e : TypeId} {x y : Operand} {k by_ m : Nat} {z : Value} {dd : Nat} (hs : St n w0 f L E a w) (hx : opv E x = some (.int .i64 0)) (hy : opv E y = some (.int .i64 (m : Int))) (ht : P.underlying t = some (.slice e)) (hT : TI P e k by_ z)
    (hb : by_ * m ≤ 281474976710656 ∧ m ≤ 9223372036854775807)
    (h : ∀ v a w, St n w0 f (.row v e k [] :: L) ((dd, v) :: E) a w → RL P ops rest K a w) (hd : dd < n := by decide) :
    RL P ops (⟨some dd, .makeSlice t x y, ty, pos, af, none⟩ :: rest) K a w := by
  obtain ⟨i, hi, hz, hk1, hk2⟩ := hT
  subst hk2
  obtain ⟨w', hr, g1, g2⟩ := run_make_own (P := P) w 0 t e i z k ht hi hz hk1 .i64 .i64 m hb.1 (by simp only [maxLen]; omega) (Nat.zero_le _)
  refine RL_v hs (.free rfl) (.to rfl hd) (v := _) (w' := w') (f' := f) (L' := .row (.slice (some ⟨w.heap.size,0, none⟩) 0 m) e k [] :: L) ?_ ?_ (h _)
  · simp only [execOp, hs.ev.eval hx, hs.ev.eval hy, Sem.run_bind, hr, Result.andThen_ok, Sem.run_pure]
  · exact hs.cw.cons (.of g2) ⟨g1, by simp⟩ (fun b hb => by simp [Ent.key, Value.ownBlock] at hb; omega)
theorem zmv {α : Type} {k : Nat} : ∀ {rows : List (List α)}, (∀ r ∈ rows, r.length = k) → ∀ m,(rows.take m).flatten = rows.flatten.take (m * k)
  | [], _, m => by simp
  | r0 :: rows, hl,0 => by simp
  | r0 :: rows, hl, m + 1 => by
    have h0 : r0.length = k := hl r0 (by simp)
    rw [List.take_succ_cons, List.flatten_cons, List.flatten_cons, zmv (fun r hr => hl r (by simp [hr])), Nat.succ_mul, Nat.add_comm, ← h0, List.take_length_add_append]
end
end
section
open Go.RowKit
section
variable {P : Program} {f f' : Fz} {L L' : List Ent} {w0 w w' : World} {n : Nat} {E E' : List (Nat × Value)} {a : Act}
variable {ops : Array Oper} {rest : List Oper} {o : Oper} {K : AP} {C : World → Prop}
variable {d : Option Tmp} {ty : TypeId} {pos : String} {af : Array Edge} {g : Option (Nat × Bool)}
def cutv (v : Value) (k lo hi : Nat) : Value := match v with
  | .slice ao _ cap => .slice (if cap = lo then ao else ao.map (·.add (lo * k))) (hi - lo) (cap - lo)
  | v => v
theorem Rd.cut {v k rows lo hi} (hR : Rd f L v k rows) (h1 : lo ≤ hi) (h2 : hi ≤ rows.length) : Rd f L (cutv v k lo hi) k ((rows.take hi).drop lo) := by
  obtain ⟨hl, ao, cap, rfl, e1, e2, e3⟩ := hR
  refine ⟨fun r hr => hl r (List.mem_of_mem_take (List.mem_of_mem_drop hr)), ?_⟩
  have hlen : ((rows.take hi).drop lo).length = hi - lo := by simp; omega
  refine ⟨_, cap - lo, by rw [hlen]; rfl, by omega, ?_, ?_⟩
  · intro h
    have : ao = none := by
      split at h
      · exact h
      · simpa using h
    rw [e2 this]; simp
  · intro a ha
    by_cases hc : cap = lo
    · rw [if_pos hc] at ha
      have : (rows.take hi).drop lo = [] := List.eq_nil_of_length_eq_zero (by omega)
      refine ⟨fun hne => absurd this hne, fun i r hr => ?_⟩
      exfalso
      rw [this] at hr; simp at hr
    · rw [if_neg hc] at ha
      cases ao with
      | none => simp at ha
      | some ad =>
        by_cases hne : rows = []
        · subst hne
          exact ⟨fun h => absurd (by simp) h, fun i r hr => by simp at hr⟩
        obtain ⟨b, off, sp⟩ := ad
        have hsp : sp = none := (e3 _ rfl).1 hne
        subst hsp
        simp only [Option.map_some, Option.some.injEq, add_lit] at ha
        subst ha
        refine ⟨fun _ => rfl, fun i r hr j x hx => ?_⟩
        rw [List.getElem?_drop, List.getElem?_take] at hr
        split at hr
        · have := (e3 _ rfl).2 (lo + i) r hr j x hx
          simp only at this ⊢
          rw [show off + lo * k + (i * k + j) = off + ((lo + i) * k + j) by rw [Nat.add_mul]; omega]
          exact this
        · cases hr
theorem zpr {t e : TypeId} {ao : Option Addr} {m cap k by_ lo hi : Nat} {z : Value} {xl xh : Option Value} (ht : P.underlying t = some (.slice e)) (hT : TI P e k by_ z)
    (hlo : (xl = none ∧ lo = 0) ∨ xl = some (.int .i64 (lo : Int))) (hhi : (xh = none ∧ hi = m) ∨ xh = some (.int .i64 (hi : Int))) (h1 : lo ≤ hi) (h2 : hi ≤ cap) :
    (Instr.sliceAt t (.slice ao m cap) xl xh none).run P w = .ok (cutv (.slice ao m cap) k lo hi) w := by
  obtain ⟨i, hi', _, hk, _⟩ := hT
  have a1 : (lo : Int) ≤ (hi : Int) := by omega
  have a2 : (hi : Int) ≤ (cap : Int) := by omega
  rcases hlo with ⟨rfl, rfl⟩ | rfl <;> rcases hhi with ⟨rfl, rfl⟩ | rfl <;>
    simp [Instr.sliceAt, Instr.slice, run_underlying ht, Instr.sliceBounds, Instr.sliceBound, asIntOf, sizeOf, typeInfo, cutv, *]
theorem zpg {t e : TypeId} {x : Operand} {ol oh : Option Operand} {v : Value} {k by_ lo hi : Nat} {z : Value} {rows : List (List Value)} (hx : opv E x = some v) (ht : P.underlying t = some (.slice e)) (hT : TI P e k by_ z)
    (hlo : (ol = none ∧ lo = 0) ∨ ∃ y, ol = some y ∧ opv E y = some (.int .i64 (lo : Int))) (hhi : (oh = none ∧ hi = rows.length) ∨ ∃ y, oh = some y ∧ opv E y = some (.int .i64 (hi : Int))) (h1 : lo ≤ hi) (h2 : hi ≤ rows.length) (hR : Rd f L v k rows) :
    Y P C n E ⟨d, .slice t x ol oh none, ty, pos, af, g⟩ (cutv v k lo hi) :=
  .of fun a ha w _ => by
    obtain ⟨hl, ao, cap, rfl, e1, e2, e3⟩ := hR
    have := zpr (P := P) (w := w) (ao := ao) (m := rows.length) (cap := cap) (lo := lo) (hi := hi) (xl := ol.map a.eval) (xh := oh.map a.eval) ht hT
      (by rcases hlo with ⟨rfl, h⟩ | ⟨y, rfl, hy⟩
          · exact .inl ⟨rfl, h⟩
          · exact .inr (by simp [ha.eval hy]))
      (by rcases hhi with ⟨rfl, h⟩ | ⟨y, rfl, hy⟩
          · exact .inl ⟨rfl, h⟩
          · exact .inr (by simp [ha.eval hy])) h1 (by omega)
    simp [execOp, ha.eval hx, this]
theorem St.shrink {i : Nat} {v : Value} {e : TypeId} {k : Nat} {rows : List (List Value)} (hs : St n w0 f L E a w) (hi : L[i]? = some (.row v e k rows)) {m : Nat} (hm : m ≤ rows.length) : St n w0 f (L.set i (.row (cutv v k 0 m) e k (rows.take m))) E a w := by
  refine ⟨hs.ev, ?_⟩
  obtain ⟨hown, hone⟩ := hs.cw.live _ (List.mem_of_getElem? hi)
  have hlen : (rows.take m).length = m := by simp; omega
  refine hs.cw.repl hi ⟨rfl, rfl, rfl, Nat.le_refl _, fun _ _ _ => rfl⟩ ⟨⟨zez fun r hr => (hone r (List.mem_of_mem_take hr)).1, ?_⟩, fun r hr => hone r (List.mem_of_mem_take hr)⟩ (fun b hb => ?_)
  · rcases hown.2 with ⟨rfl, h0⟩ | ⟨gb, cap, cur, rfl, hg, hh, hle, hcm, hcs, htk⟩
    · left; exact ⟨by simp [cutv]; omega, by omega⟩
    · right
      refine ⟨gb, cap, cur, ?_, hg, hh, by omega, hcm, hcs, ?_⟩
      · rw [hlen]
        simp [cutv, Addr.add]
      · rw [hlen, zmv fun r hr => (hone r hr).1, ← htk, List.take_take]
        congr 1
        have := Nat.mul_le_mul_right k hm
        omega
  · rcases hown.2 with ⟨rfl, h0⟩ | ⟨gb, cap, cur, rfl, hg, hh, hle, hcm, hcs, htk⟩
    · simp [Ent.key, cutv, Value.ownBlock] at hb
    · left
      simp [Ent.key, cutv, Value.ownBlock, Addr.add] at hb ⊢
      exact hb
theorem zkw {t : TypeId} {x : Operand} {ol oh : Option Operand} {s : ByteArray} {lo hi : Nat} (hx : opv E x = some (.string s)) (ht : P.underlying t = some .string)
    (hlo : (ol = none ∧ lo = 0) ∨ ∃ y, ol = some y ∧ opv E y = some (.int .i64 (lo : Int))) (hhi : (oh = none ∧ hi = s.size) ∨ ∃ y, oh = some y ∧ opv E y = some (.int .i64 (hi : Int))) (h1 : lo ≤ hi) (h2 : hi ≤ s.size) :
    Y P C n E ⟨d, .slice t x ol oh none, ty, pos, af, g⟩ (.string (s.extract lo hi)) :=
  .of fun a ha w _ => by
    have a1 : (lo : Int) ≤ (hi : Int) := by omega
    have a2 : (hi : Int) ≤ (s.size : Int) := by omega
    rcases hlo with ⟨rfl, rfl⟩ | ⟨y, rfl, hy⟩ <;> rcases hhi with ⟨rfl, rfl⟩ | ⟨y', rfl, hy'⟩ <;>
      simp [execOp, ha.eval hx, *, Instr.sliceAt, Instr.slice, run_underlying ht, Instr.sliceBounds, Instr.sliceBound, asIntOf, Ev.eval ha]
theorem zql {t : TypeId} {x : Operand} {s : ByteArray} {dd : Nat} (hs : St n w0 f L E a w) (hx : opv E x = some (.string s)) (ht : P.underlying t = some .string)
    (h : ∀ b a w, St n w0 f (.blk b (.stringIter s 0) :: L) ((dd, .pointer (some ⟨b,0, none⟩)) :: E) a w → RL P ops rest K a w) (hd : dd < n := by decide) :
    RL P ops (⟨some dd, .range t x, ty, pos, af, none⟩ :: rest) K a w :=
  RL_v hs (.free rfl) (.to rfl hd) (v := .pointer (some ⟨w.heap.size,0, none⟩)) (w' := w.alloc (.stringIter s 0)) (by simp [execOp, hs.ev.eval hx, Instr.range, run_underlying ht]) (hs.cw.alloc _) (h _)
theorem Grew.setObj (w : World) (b : Nat) (o : Obj) : Grew w { w with heap := w.heap.setIfInBounds b o } (some b) :=
  ⟨rfl, rfl, rfl, by simp, fun k _ hk => by
    show (w.heap.setIfInBounds b o)[k]? = w.heap[k]?
    rw [Array.getElem?_setIfInBounds, if_neg (fun e => hk (by rw [e]))]⟩
theorem znm {b p : Nat} {s : ByteArray} (h : w.heap[b]? = some (.stringIter s p)) : (getObj b).run P w = .ok (.stringIter s p) w := by simp [getObj, Sem.run, h]
theorem zs4 {b p p' : Nat} {s : ByteArray} (h : w.heap[b]? = some (.stringIter s p)) : (setObj b (.stringIter s p')).run P w = .ok () { w with heap := w.heap.setIfInBounds b (.stringIter s p') } := by simp [setObj, Sem.run, h]
theorem zsm {x : Operand} {s : ByteArray} {p b i dd : Nat} (hs : St n w0 f L E a w) (hi : L[i]? = some (.blk b (.stringIter s p))) (hx : opv E x = some (.pointer (some ⟨b,0, none⟩)))
    (h1 : p < s.size → ∀ a w, St n w0 f (L.set i (.blk b (.stringIter s (p + (Utf8.decode s p).2)))) ((dd, .tuple #[.bool true, .int .i64 p, .int .i32 ((Utf8.decode s p).1 : Int)]) :: E) a w → RL P ops rest K a w)
    (h2 : s.size ≤ p → ∀ a w, St n w0 f L ((dd, .tuple #[.bool false]) :: E) a w → RL P ops rest K a w) (hd : dd < n := by decide) :
    RL P ops (⟨some dd, .next x true, ty, pos, af, none⟩ :: rest) K a w := by
  have hlive : w.heap[b]? = some (.stringIter s p) := hs.cw.live _ (List.mem_of_getElem? hi)
  by_cases hp : p < s.size
  · refine RL_v hs (.free rfl) (.to rfl hd) (v := .tuple #[.bool true, .int .i64 p, .int .i32 ((Utf8.decode s p).1 : Int)]) (w' := { w with heap := w.heap.setIfInBounds b (.stringIter s (p + (Utf8.decode s p).2)) }) (f' := f)
      (L' := L.set i (.blk b (.stringIter s (p + (Utf8.decode s p).2)))) ?_ ?_ (h1 hp)
    · simp [execOp, hs.ev.eval hx, Instr.next, znm hlive, zs4 hlive, hp, goInt]
    · refine hs.cw.repl hi (Grew.setObj w b _) ?_ (fun b' hb => .inl hb)
      have hlt : b < w.heap.size := (Array.getElem?_eq_some_iff.1 hlive).1
      show (w.heap.setIfInBounds b _)[b]? = _
      simp [hlt]
  · refine RL_y hs (.free rfl) (.to rfl hd) (fun a ha w hw => ?_) (h2 (by omega))
    have hlive : w.heap[b]? = some (.stringIter s p) := hw.live _ (List.mem_of_getElem? hi)
    unfold Oper.quietAt
    simp [execOp, ha.eval hx, Instr.next, znm hlive, hp, Oper.quietUpon]
theorem zey {α β : Type} (h : α → β) : ∀ xs : List α,(xs.map fun x => [h x]).flatten = xs.map h
  | [] => rfl
  | x :: xs => by simp [zey h xs]
def bytesOf (xs : List Int) : ByteArray := ⟨(xs.map fun n => UInt8.ofNat n.toNat).toArray⟩
theorem y_b2s {t u e : TypeId} {x : Operand} {v : Value} {xs : List Int} (hx : opv E x = some v) (ht : P.underlying t = some (.slice e)) (he : P.underlying e = some (.int .u8)) (hu : P.underlying u = some .string) (hR : Rd f L v 1 (xs.map fun x => [.int .u8 x])) :
    Y P (Cw w0 f L) n E ⟨d, .convert t u x, ty, pos, af, g⟩ (.string (bytesOf xs)) :=
  .of fun a ha w hw => by
    have hR' := hR
    obtain ⟨hl, ao, cap, rfl, e1, e2, e3⟩ := hR
    cases ao with
    | none =>
      have : xs = [] := by simpa using e2 rfl
      subst this
      simp [execOp, ha.eval hx, convert, run_underlying ht, run_underlying hu, run_underlying he, Conv.bytesToString, bytesOf]
      rfl
    | some ad =>
      have hcells := hR'.cells hw
      have hfl : (xs.map fun x => [Value.int .u8 x]).flatten = xs.map (Value.int .u8) := zey _ xs
      have hload : (loadCells ad xs.length).run P w = .ok (xs.map (Value.int .u8)).toArray w := by
        have := run_loadCells_list (P := P) w ad (xs.map (Value.int .u8)) fun j u hj => hcells j u (by rw [hfl]; exact hj)
        simpa using this
      have := run_bytesToString (P := P) w ad xs.length cap xs hload
      rw [foldl_push_bytes] at this
      simp only [execOp, ha.eval hx, List.length_map, run_convert_bytes_string w t u e _ _ _ ht he hu, this, Sem.run_bind, Result.andThen_ok, Sem.run_pure]
      congr 3
      simp [bytesOf]
end
end
section
open Go.RowKit
section
variable {P : Program} {f f' : Fz} {L L' : List Ent} {w0 w w' : World} {n : Nat} {E E' : List (Nat × Value)} {a : Act}
variable {ops : Array Oper} {rest : List Oper} {o : Oper} {K : AP} {C : World → Prop}
variable {d : Option Tmp} {ty : TypeId} {pos : String} {af : Array Edge} {g : Option (Nat × Bool)}
theorem World.heap_old (w : World) (o : Obj) (k : Nat) (h : k < w.heap.size) : (w.alloc o).heap[k]? = w.heap[k]? := Below.heap_alloc w o k h
theorem zs0 {t u : TypeId} {x : Operand} {k k' : IntKind} {i m : Int} (hx : opv E x = some (.int k i)) (ht : (P.underlying t).isSome = true) (hu : P.underlying u = some (.int k')) (hm : k'.wrap i = m) : Y P C n E ⟨d, .convert t u x, ty, pos, af, g⟩ (.int k' m) :=
  .of fun a ha w _ => by
    obtain ⟨td, htd⟩ := Option.isSome_iff_exists.1 ht
    simp [execOp, ha.eval hx, convert, run_underlying htd, run_underlying hu, Conv.intToInt, hm]
theorem y_i2s {t u : TypeId} {x : Operand} {k : IntKind} {i : Int} (hx : opv E x = some (.int k i)) (ht : (P.underlying t).isSome = true) (hu : P.underlying u = some .string) : Y P C n E ⟨d, .convert t u x, ty, pos, af, g⟩ (.string (Utf8.encode i)) :=
  .of fun a ha w _ => by
    obtain ⟨td, htd⟩ := Option.isSome_iff_exists.1 ht
    simp [execOp, ha.eval hx, convert, run_underlying htd, run_underlying hu, Conv.intToString]
def textOf (xs : List Int) : ByteArray := xs.foldl (fun s r => s ++ Utf8.encode r) ByteArray.empty
theorem znn {w : World} (h : Value → ByteArray → Sem (ForInStep ByteArray)) (hf : ∀ (m : Int) (r : ByteArray),(h (.int .i32 m) r).run P w = .ok (.yield (r ++ Utf8.encode m)) w) :
    ∀ (ns : List Int) (s : ByteArray),(forIn (ns.map (Value.int .i32)) s h).run P w = .ok (ns.foldl (fun s r => s ++ Utf8.encode r) s) w := by
  intro ns
  induction ns with
  | nil => intro s; simp [Sem.run_pure]
  | cons m ns ih =>
    intro s
    simp only [List.map_cons, List.forIn_cons, Sem.run_bind, hf, Result.andThen, List.foldl_cons]
    exact ih _
theorem y_r2s {t u e : TypeId} {x : Operand} {v : Value} {xs : List Int} (hx : opv E x = some v) (ht : P.underlying t = some (.slice e)) (he : P.underlying e = some (.int .i32)) (hu : P.underlying u = some .string) (hR : Rd f L v 1 (xs.map fun x => [.int .i32 x])) :
    Y P (Cw w0 f L) n E ⟨d, .convert t u x, ty, pos, af, g⟩ (.string (textOf xs)) :=
  .of fun a ha w hw => by
    have hR' := hR
    obtain ⟨hl, ao, cap, rfl, e1, e2, e3⟩ := hR
    cases ao with
    | none =>
      have : xs = [] := by simpa using e2 rfl
      subst this
      simp [execOp, ha.eval hx, convert, run_underlying ht, run_underlying hu, run_underlying he, Conv.runesToString, textOf]
    | some ad =>
      have hcells := hR'.cells hw
      have hfl : (xs.map fun x => [Value.int .i32 x]).flatten = xs.map (Value.int .i32) := zey _ xs
      have hload : (loadCells ad xs.length).run P w = .ok (xs.map (Value.int .i32)).toArray w := by
        have := run_loadCells_list (P := P) w ad (xs.map (Value.int .i32)) fun j u hj => hcells j u (by rw [hfl]; exact hj)
        simpa using this
      have hq : (Conv.runesToString (.slice (some ad) xs.length cap)).run P w = .ok (.string (textOf xs)) w := by
        unfold Conv.runesToString
        simp only [Sem.run_bind, hload, Result.andThen, List.forIn_toArray]
        rw [znn _ (by intro n r; simp [Sem.run_pure])]
        simp [Sem.run_pure, textOf]
      simp [execOp, ha.eval hx, convert, run_underlying ht, run_underlying hu, run_underlying he, hq]
def bytesIn (s : ByteArray) : List Int := s.data.toList.map fun b => (b.toNat : Int)
theorem zak (s : ByteArray) : (bytesIn s).length = s.size := by rw [bytesIn, List.length_map]; rfl
def runesFr (s : ByteArray) : Nat → Nat → List Int
  | 0, _ => []
  | m + 1, i => if i < s.size then ((Utf8.decode s i).1 : Int) :: runesFr s m (i + (Utf8.decode s i).2) else []
def runesIn (s : ByteArray) : List Int := runesFr s s.size 0
theorem zkm (s : ByteArray) : ∀ (m i : Nat) (acc : Array Value), Conv.runesFrom s m i acc = acc ++ ((runesFr s m i).map (Value.int .i32)).toArray
  | 0, i, acc => by simp [Conv.runesFrom, runesFr]
  | m + 1, i, acc => by
    simp only [Conv.runesFrom, runesFr]
    split
    · rw [zkm s m]
      simp
    · simp
theorem zrl (s : ByteArray) (i : Nat) : 1 ≤ (Utf8.decode s i).2 := by
  simp only [Utf8.decode]
  repeat' split
  all_goals simp
theorem zld (s : ByteArray) : ∀ m i,(runesFr s m i).length ≤ m
  | 0, _ => by simp [runesFr]
  | m + 1, i => by
    simp only [runesFr]
    split
    · have := zld s m (i + (Utf8.decode s i).2); simp; omega
    · simp
theorem zjc (s : ByteArray) : (runesIn s).length ≤ s.size := zld s _ _
theorem Rd.ofBlk {v : Value} {k : Nat} {rows : List (List Value)} {b cap : Nat} {cs : Array Value} {e : TypeId} {fr : Nat × Nat} (hl : ∀ r ∈ rows, OneRow k r) (hv : v = .slice (some ⟨b,0, none⟩) rows.length cap) (hc : rows.length ≤ cap)
    (hf : f b = some (.cells cs e fr)) (ht : cs.toList.take (rows.length * k) = rows.flatten) : Rd f L v k rows := by
  refine ⟨hl, some ⟨b,0, none⟩, cap, hv, hc, fun h => (by cases h), fun a ha => ?_⟩
  cases ha
  refine ⟨fun _ => rfl, fun i r hr j x hx => .inl ⟨cs, e, fr, hf, ?_⟩⟩
  have := ziw (fun r hr => (hl r hr).1) hr hx
  rw [← ht, List.getElem?_take] at this
  split at this
  · simpa using this
  · cases this
theorem RL_s2b {t u e : TypeId} {x : Operand} {s : ByteArray} {dd : Nat} (hs : St n w0 f L E a w) (hx : opv E x = some (.string s)) (ht : P.underlying t = some .string) (hu : P.underlying u = some (.slice e)) (he : P.underlying e = some (.int .u8))
    (h : ∀ f' v a w, Fz.le f f' → Rd f' [] v 1 ((bytesIn s).map fun x => [.int .u8 x]) → St n w0 f' L ((dd, v) :: E) a w → RL P ops rest K a w) (hd : dd < n := by decide) :
    RL P ops (⟨some dd, .convert t u x, ty, pos, af, none⟩ :: rest) K a w := by
  have hcap : s.size ≤ grownCap w s.size 0 e := grownCap_ge w _ _ _
  have hC : ∀ (cs : Array Value) (fr : Nat × Nat), Cw w0 f (.blk w.heap.size (.cells cs e fr) :: L) (w.drew.alloc (.cells cs e fr)) := fun cs fr =>
    hs.cw.cons ⟨rfl, rfl, rfl, by simp, fun k hk _ => World.heap_old w.drew _ k hk⟩ (heap_alloc_new w.drew _) (fun b hb => by simp [Ent.key] at hb; omega)
  obtain ⟨f', g1, g2, g3, g4⟩ := (hC (bytesRow s (grownCap w s.size 0 e)) ((bytesRow s (grownCap w s.size 0 e)).size,(bytesRow s (grownCap w s.size 0 e)).size + 1)).freeze
  have hR : Rd f' [] (.slice (some ⟨w.heap.size,0, none⟩) s.size (grownCap w s.size 0 e)) 1 ((bytesIn s).map fun x => [.int .u8 x]) := by
    refine Rd.ofBlk (b := w.heap.size) (cap := grownCap w s.size 0 e) (cs := bytesRow s (grownCap w s.size 0 e)) (e := e) (fr := ((bytesRow s (grownCap w s.size 0 e)).size,(bytesRow s (grownCap w s.size 0 e)).size + 1)) ?_ ?_ ?_ ?_ ?_
    · intro r hr
      simp at hr
      obtain ⟨x, _, rfl⟩ := hr
      exact ⟨rfl, by simp [Value.oneCell']⟩
    · rw [List.length_map, zak]
    · rw [List.length_map, zak]; exact hcap
    · rw [g3 _ rfl]; exact heap_alloc_new w.drew _
    · rw [zey, List.length_map, zak]
      have h2 : s.data.toList.length = s.size := rfl
      rw [bytesRow, Array.toList_append, List.take_append_of_le_length (by rw [Array.toList_map, List.length_map, h2]; omega), Array.toList_map, List.take_of_length_le (by rw [List.length_map, h2]; omega), bytesIn, List.map_map]
      rfl
  refine RL_v hs (.free rfl) (.to rfl hd) (v := .slice (some ⟨w.heap.size,0, none⟩) s.size (grownCap w s.size 0 e)) (w' := _) (f' := f') (L' := L) ?_ g2 (fun a2 w2 hs2 => h f' _ a2 w2 g1 hR hs2)
  simp only [execOp, hs.ev.eval hx, Sem.run_bind, run_bytes_of_string w t u e s ht hu he, Result.andThen_ok, Sem.run_pure]
theorem RL_s2r {t u e : TypeId} {x : Operand} {s : ByteArray} {dd : Nat} (hs : St n w0 f L E a w) (hx : opv E x = some (.string s)) (ht : P.underlying t = some .string) (hu : P.underlying u = some (.slice e)) (he : P.underlying e = some (.int .i32)) (hb : s.size ≤ 70368744177664)
    (h : ∀ v a w, St n w0 f (.row v e 1 ((runesIn s).map fun x => [.int .i32 x]) :: L) ((dd, v) :: E) a w → RL P ops rest K a w) (hd : dd < n := by decide) :
    RL P ops (⟨some dd, .convert t u x, ty, pos, af, none⟩ :: rest) K a w := by
  have hlen := zjc s
  have hsz : (Conv.runesFrom s s.size 0 #[]).size = (runesIn s).length := by rw [zkm]; simp [runesIn]
  have hcap : (runesIn s).length ≤ grownCap w (runesIn s).length 0 e := grownCap_ge w _ _ _
  have hmax : grownCap w (runesIn s).length 0 e ≤ maxLen := grownCap_le_maxLen w _ _ _ (by simp only [maxLen]; omega)
  refine RL_v hs (.free rfl) (.to rfl hd) (v := .slice (some ⟨w.heap.size,0, none⟩) (Conv.runesFrom s s.size 0 #[]).size (grownCap w (Conv.runesFrom s s.size 0 #[]).size 0 e))
    (w' := w.drew.alloc (.cells (Conv.runesFrom s s.size 0 #[] ++ Array.replicate (grownCap w (Conv.runesFrom s s.size 0 #[]).size 0 e - (Conv.runesFrom s s.size 0 #[]).size) (.int .i32 0)) e)) (f' := f)
    (L' := .row (.slice (some ⟨w.heap.size,0, none⟩) (Conv.runesFrom s s.size 0 #[]).size (grownCap w (Conv.runesFrom s s.size 0 #[]).size 0 e)) e 1 ((runesIn s).map fun x => [.int .i32 x]) :: L) ?_ ?_ (h _)
  · simp only [execOp, hs.ev.eval hx, Sem.run_bind, run_runes_of_string w t u e s ht hu he (by omega), Result.andThen_ok, Sem.run_pure]
  · refine hs.cw.cons ⟨rfl, rfl, rfl, by simp, fun k hk _ => World.heap_old w.drew _ k hk⟩ ⟨⟨?_, .inr ⟨w.heap.size, grownCap w (runesIn s).length 0 e, _, ?_, Nat.zero_le _, heap_alloc_new w.drew _, ?_, ?_, ?_, ?_⟩⟩, ?_⟩ (fun b hb => by simp [Ent.key, Value.ownBlock] at hb; omega)
    · rw [zey]; simp
    · rw [hsz, List.length_map]
    · rw [List.length_map]; exact hcap
    · exact hmax
    · simp [hsz]; omega
    · rw [zey, List.length_map, zkm]
      simp [runesIn]
    · intro r hr
      simp at hr
      obtain ⟨x, _, rfl⟩ := hr
      exact ⟨rfl, by simp [Value.oneCell']⟩
end
end
section
open Go.RowKit
section
variable {P : Program} {f f' : Fz} {L L' : List Ent} {w0 w w' : World} {n : Nat} {E E' : List (Nat × Value)} {a : Act}
variable {ops : Array Oper} {rest : List Oper} {o : Oper} {K : AP} {C : World → Prop}
variable {d : Option Tmp} {ty : TypeId} {pos : String} {af : Array Edge} {g : Option (Nat × Bool)}
theorem St.tail {x : Ent} (hs : St n w0 f (x :: L) E a w) : St n w0 f L E a w := ⟨hs.ev, hs.cw.tail⟩
theorem St.erase (hs : St n w0 f L E a w) (i : Nat) : St n w0 f (L.eraseIdx i) E a w := ⟨hs.ev, hs.cw.erase i⟩
theorem St.frz {v : Value} {e : TypeId} {k : Nat} {rows : List (List Value)} (hs : St n w0 f (.row v e k rows :: L) E a w) : ∃ f', Fz.le f f' ∧ St n w0 f' L E a w ∧ Rd f' [] v k rows := by
  obtain ⟨f', h1, h2, h3⟩ := Rd.frozen hs.cw
  exact ⟨f', h1, ⟨hs.ev, h2⟩, h3⟩
theorem fill_one (k : Nat) (z c : Array Value) (hc : c.size = k) :
    (Instr.fill (fun i => some (i * k, k)) ((Array.range (1 * k)).map (z[· % z.size]!)) [(0, .agg c)]).map (·.toList) = some c.toList := by
  have key : ∀ (l : List Value) (m : Nat) (cs : Array Value), m + l.length ≤ cs.size → ((l.zipIdx m).foldl (fun (cs : Array Value) (x : Value × Nat) => cs.setIfInBounds (0 * k + x.2) x.1) cs).toList = cs.toList.take m ++ l ++ cs.toList.drop (m + l.length) := by
    intro l
    induction l with
    | nil => intro m cs h; simp
    | cons u l ih =>
      intro m cs h
      rw [List.zipIdx_cons, List.foldl_cons, ih]
      · simp only [Nat.zero_mul, Nat.zero_add]
        simp only [List.length_cons] at h
        apply List.ext_getElem?
        intro j
        simp only [Array.toList_setIfInBounds, List.getElem?_append, List.length_take, List.length_append, List.length_set, Array.length_toList, List.length_cons, List.getElem?_take, List.getElem?_drop, List.getElem?_set]
        by_cases h1 : j < m
        · simp [h1, show j < m + 1 by omega, show min (m + 1) cs.size = m + 1 by omega, show min m cs.size = m by omega, show ¬ m = j by omega, show j < m + (l.length + 1) by omega, show j < m + 1 + l.length by omega]
        · by_cases h2 : j = m
          · subst h2
            simp [show min (j + 1) cs.size = j + 1 by omega, show min j cs.size = j by omega, show j < cs.size by omega, show j < j + 1 + l.length by omega]
          · by_cases h3 : j < m + 1 + l.length
            · simp [h1, h3, show ¬ j < m + 1 by omega, show min (m + 1) cs.size = m + 1 by omega, show min m cs.size = m by omega, show j < m + (l.length + 1) by omega, show j - m = (j - (m + 1)) + 1 by omega]
            · simp [h3, show min (m + 1) cs.size = m + 1 by omega, show min m cs.size = m by omega, show ¬ j < m + (l.length + 1) by omega, show ¬ m = m + 1 + l.length + (j - (m + 1 + l.length)) by omega]
              congr 1
              omega
      · simpa using by simp at h; omega
  have h1 : ¬ (Value.agg c).cells.size ≠ k := by simp [Value.cells, hc]
  have h2 : ¬ 0 * k + (Value.agg c).cells.size > ((Array.range (1 * k)).map (z[· % z.size]!)).size := by simp [Value.cells, hc]
  simp only [Instr.fill]
  rw [if_neg (by simp only [Bool.or_eq_true, decide_eq_true_eq] at *; omega)]
  simp only [Option.map_some, Value.cells]
  congr 1
  have hk2 := key c.toList 0 ((Array.range (1 * k)).map (z[· % z.size]!)) (by simp [hc])
  rw [← Array.foldl_toList]
  rw [Array.toList_zipIdx]
  rw [hk2]
  simp [hc]
theorem RL_bs1 {t e : TypeId} {x : Operand} {u : Value} {k by_ : Nat} {z : Value} (hs : St n w0 f L E a w) {dd : Nat} (hx : opv E x = some u) (ht : P.underlying t = some (.slice e)) (hT : TI P e k by_ z) (hk : 0 < k ∧ k ≤ 16777216 ∧ z.cells.size = k ∧ u.cells.size = k)
    (h1 : OneRow k u.cells.toList)
    (h : ∀ v a w, St n w0 f (.row v e k [u.cells.toList] :: L) ((dd, v) :: E) a w → RL P ops rest K a w) (hd : dd < n := by decide) :
    RL P ops (⟨some dd, .buildSlice t 1 #[(0, x)], ty, pos, af, none⟩ :: rest) K a w := by
  refine zmi (parts := [(0, x)]) (vs := [(0, u)]) (rows := [u.cells.toList]) hs (by simp [hx]) ht hT (by omega) ?_ rfl (by simpa using h1) (.free rfl) hd h
  have e1 : (Instr.fill (fun i => some (i * k, k)) ((Array.range (1 * k)).map (z.cells[· % z.cells.size]!)) [(0, u)]) = (Instr.fill (fun i => some (i * k, k)) ((Array.range (1 * k)).map (z.cells[· % z.cells.size]!)) [(0, .agg u.cells)]) := by
    have hc : (Value.agg u.cells).cells = u.cells := rfl
    simp only [Instr.fill, hc]
  rw [e1, fill_one k z.cells u.cells hk.2.2.2]
  simp
theorem zrq {u : Value} (h : u.oneCell' = true) : u.cells = #[u] := by cases u <;> first | rfl | simp [Value.oneCell'] at h
theorem zg1 {t e : TypeId} {x : Operand} {u : Value} {by_ : Nat} {z : Value} (hs : St n w0 f L E a w) {dd : Nat} (hx : opv E x = some u) (ht : P.underlying t = some (.slice e)) (hT : TI P e 1 by_ z) (hz : z.cells.size = 1) (hu : u.oneCell' = true)
    (h : ∀ v a w, St n w0 f (.row v e 1 [[u]] :: L) ((dd, v) :: E) a w → RL P ops rest K a w) (hd : dd < n := by decide) :
    RL P ops (⟨some dd, .buildSlice t 1 #[(0, x)], ty, pos, af, none⟩ :: rest) K a w := by
  have hc := zrq hu
  refine RL_bs1 hs hx ht hT ⟨by omega, by omega, hz, by rw [hc]; rfl⟩ ⟨by rw [hc]; rfl, by rw [hc]; simpa using hu⟩ (fun v a w hs => h v a w ?_) hd
  rwa [hc] at hs
theorem zka {t e : TypeId} {x : Operand} {r : List Value} {k by_ : Nat} {z : Value} (hs : St n w0 f L E a w) {dd : Nat} (hx : opv E x = some (.agg r.toArray)) (ht : P.underlying t = some (.slice e)) (hT : TI P e k by_ z) (hz : 0 < k ∧ k ≤ 16777216 ∧ z.cells.size = k) (hu : OneRow k r)
    (h : ∀ v a w, St n w0 f (.row v e k [r] :: L) ((dd, v) :: E) a w → RL P ops rest K a w) (hd : dd < n := by decide) :
    RL P ops (⟨some dd, .buildSlice t 1 #[(0, x)], ty, pos, af, none⟩ :: rest) K a w := by
  have hc : (Value.agg r.toArray).cells = r.toArray := rfl
  refine RL_bs1 hs hx ht hT ⟨hz.1, hz.2.1, hz.2.2, by rw [hc]; simpa using hu.1⟩ (by rw [hc]; simpa using hu) (fun v a w hs => h v a w ?_) hd
  rw [hc] at hs
  simpa using hs
theorem zhp {gn : FuncId} {x : Operand} {as : List Operand} {vs : List Value} {ats : Array TypeId} {R : Value → Fz → List Ent → Prop} (hs : St n w0 f L E a w) {dd : Nat}
    (hx : opv E x = some (.func (.func gn) #[] #[])) (hg : Has P gn) (hv : as.mapM (opv E) = some vs) (hp : Does P gn vs f [] R)
    (h : ∀ v f' L' a w, Fz.le f f' → R v f' L' → St n w0 f' (L' ++ L) ((dd, v) :: E) a w → RL P ops rest K a w) (hd : dd < n := by decide) :
    RL P ops (⟨some dd, .call { callee := .value x, args := as.toArray, argTypes := ats }, ty, pos, af, none⟩ :: rest) K a w :=
  zbb (Lr := []) (Lf := L) hs hx hg hv rfl (by simpa using hp) (.free rfl) hd h
end
end
section
open Go.RowKit
section
variable {P : Program} {f f' : Fz} {L L' : List Ent} {w0 w w' : World} {n : Nat} {E E' : List (Nat × Value)} {a : Act}
variable {ops : Array Oper} {rest : List Oper} {o : Oper} {K : AP} {C : World → Prop}
variable {d : Option Tmp} {ty : TypeId} {pos : String} {af : Array Edge} {g : Option (Nat × Bool)}
theorem Cw.weak (h : Cw w0 f' L w) (hf : Fz.le f f') : Cw w0 f L w :=
  ⟨h.os, h.tape, h.output, h.size, fun b o hb => h.frz b o (hf b o hb), h.live, fun x hx b hb => (by
    have := h.apart x hx b hb
    cases e : f b with
    | none => rfl
    | some o => rw [hf b o e] at this; cases this), h.sep⟩
theorem St.weak (h : St n w0 f' L E a w) (hf : Fz.le f f') : St n w0 f L E a w := ⟨h.ev, h.cw.weak hf⟩
theorem Cw.freezeAt {i : Nat} {x : Ent} (h : Cw w0 f L w) (hi : L[i]? = some x) :
    ∃ f', Fz.le f f' ∧ Cw w0 f' (L.eraseIdx i) w ∧ (∀ b, x.key = some b → f' b = w.heap[b]?) ∧ (∀ b, x.key ≠ some b → f' b = f b) := by
  have hm := List.mem_of_getElem? hi
  have ha := h.apart x hm
  have he := h.erase i
  have key : ∀ (p : Nat),(L.eraseIdx i)[p]? = L[if p < i then p else p + 1]? := fun p => by rw [List.getElem?_eraseIdx]; split <;> rfl
  refine ⟨fun b => if x.key = some b then w.heap[b]? else f b, fun b o hb => ?_, ⟨h.os, h.tape, h.output, h.size, fun b o hb => ?_, he.live, fun z hz b hb => ?_, he.sep⟩, fun b hb => by simp [hb], fun b hb => by simp [hb]⟩
  · have hne : x.key ≠ some b := fun e => by rw [ha b e] at hb; cases hb
    simp [hne, hb]
  · by_cases e : x.key = some b
    · simpa [e] using hb
    · simp [e] at hb; exact h.frz b o hb
  · have hne : x.key ≠ some b := fun e => by
      obtain ⟨j, hj⟩ := List.getElem?_of_mem hz
      rw [key] at hj
      exact h.sep i _ x z hi hj (by split <;> omega) b e hb
    simp only [hne, if_false]
    exact he.apart z hz b hb
theorem Rd.frozenAt {i : Nat} {v e k rows} (hC : Cw w0 f L w) (hi : L[i]? = some (.row v e k rows)) :
    ∃ f', Fz.le f f' ∧ Cw w0 f' (L.eraseIdx i) w ∧ (∀ b, v.ownBlock = some b → f' b = w.heap[b]?) ∧ Rd f' [] v k rows := by
  obtain ⟨f', h1, h2, h3, h4⟩ := hC.freezeAt hi
  have hh := hC.live _ (List.mem_of_getElem? hi)
  obtain ⟨⟨hq, hh⟩, hl⟩ := hh
  refine ⟨f', h1, h2, h3, hl, ?_⟩
  rcases hh with ⟨rfl, h0⟩ | ⟨g, cap, cur, rfl, hg, hh, hle, hcm, hcs, htk⟩
  · have : rows = [] := List.eq_nil_of_length_eq_zero h0
    subst this
    exact ⟨none,0, rfl, Nat.le_refl _, fun _ => rfl, fun a ha => by cases ha⟩
  · refine ⟨some ⟨g,0, none⟩, cap, rfl, hle, fun h => (by cases h), fun a ha => ?_⟩
    cases ha
    refine ⟨fun _ => rfl, fun i r hr j x hx => .inl ⟨cur, e,(0,0), ?_, ?_⟩⟩
    · rw [h3 g rfl]; exact hh
    · have := ziw (fun r hr => (hl r hr).1) hr hx
      rw [← htk, List.getElem?_take] at this
      split at this
      · simpa using this
      · cases this
theorem St.frzAt {v : Value} {e : TypeId} {k : Nat} {rows : List (List Value)} (i : Nat) (hs : St n w0 f L E a w) (hi : L[i]? = some (.row v e k rows)) : ∃ f', Fz.le f f' ∧ St n w0 f' (L.eraseIdx i) E a w ∧ Rd f' [] v k rows := by
  obtain ⟨f', h1, h2, _, h3⟩ := Rd.frozenAt hs.cw hi
  exact ⟨f', h1, ⟨hs.ev, h2⟩, h3⟩
theorem Cw.thaw {i : Nat} {x : Ent} (h : Cw w0 f L w) (hi : L[i]? = some x) (hle : Fz.le f f') (hx : ∀ b, x.key = some b → f' b = w.heap[b]?) (h' : Cw w0 f' (L.eraseIdx i) w') : Cw w0 f L w' := by
  refine ⟨h'.os, h'.tape, h'.output, h'.size, fun b o hb => h'.frz b o (hle b o hb), fun z hz => ?_, h.apart, h.sep⟩
  obtain ⟨j, hj⟩ := List.getElem?_of_mem hz
  by_cases e : j = i
  · subst e
    rw [hi] at hj; cases hj
    have hl := h.live x (List.mem_of_getElem? hi)
    refine Ent.kept hl fun b hb => ?_
    have hlt := Ent.lt hl hb
    have h1 := hx b hb
    rw [Array.getElem?_eq_getElem hlt] at h1 ⊢
    exact h'.frz b _ h1
  · refine h'.live z ?_
    rw [List.mem_eraseIdx_iff_getElem?]
    exact ⟨j, e, hj⟩
theorem zni {gn : FuncId} {x : Operand} {as : List Operand} {vs : List Value} {ats : Array TypeId} {v : Value} (hx : opv E x = some (.func (.func gn) #[] #[])) (hg : Has P gn) (hv : as.mapM (opv E) = some vs)
    (hp : ∀ w, Cw w0 f L w → Calls P gn vs.toArray w fun e w' => e = .returned v ∧ Cw w0 f L w') :
    Y P (Cw w0 f L) n E ⟨d, .call { callee := .value x, args := as.toArray, argTypes := ats }, ty, pos, af, g⟩ v := by
  intro a ha w hw
  unfold Oper.quietAt
  rw [zi1 ha hx hg hv]
  exact ⟨rfl, by simpa using hp w hw⟩
end
end
section
open Go.RowKit Go.ChangeShapes Go.WideShapes Go.ChangeAt
variable {P : Program} {H : Type} {enc : TypeId × Value → H}
def whole (w : World) : Fz := fun b => w.heap[b]?
theorem Cw.start (w : World) : Cw w (whole w) [] w := ⟨rfl, rfl, rfl, Nat.le_refl _, fun _ _ h => h, fun e he => by simp at he, fun e he => by simp at he, fun i j x y hi => by simp at hi⟩
theorem Cw.below {w w' : World} (h : Cw w (whole w) [] w') : Below w.heap.size w w' :=
  ⟨h.os, h.tape, h.output, h.size, fun k hk => by
    have := h.frz k (w.heap[k]) (by simp [whole, hk])
    rw [this]; simp [hk]⟩
theorem ztw {w : World} {b o : Nat} {v : Value} (h : w.cell? ⟨b, o, none⟩ = some v) (L : List Ent) : Cell (whole w) L b o v := by
  simp only [World.cell?] at h
  split at h
  · rename_i c e fr hh
    exact .inl ⟨c, e, fr, hh, by simpa using h⟩
  · cases h
theorem zlx (hl : laidOutB P = true) {W W' : World} (hb : Below W.heap.size W W') : ∀ (ts : List TypeId) (vs : List Value) (ds : List (DataW H)) (ps : List MemPlace),(∀ t ∈ ts, P.readableRec t = true ∧ t < P.types.size) →
    DataW.TrodAll enc P W 0 (fun _ => true) true ts vs ds ps → (∀ x ∈ ps, x.block < W.heap.size) → DataW.TrodAll enc P W' 0 (fun b => decide (b < W.heap.size)) true ts vs ds ps
  | [], vs, ds, ps, _, h, _ => by
    obtain ⟨rfl, rfl, rfl⟩ := trodAll_nil h
    exact trodAll_mk0
  | t :: ts, vs, ds, ps, ht, h, hlt => by
    obtain ⟨v, vs', d, ds', p, q, rfl, rfl, rfl, h1, h2⟩ := trodAll_cons h
    have g := ht t (by simp)
    exact trodAll_cons_mk (Below.trod hl g.1 g.2 h1 hb (fun x hx => hlt x (by simp [hx]))) (zlx hl hb ts vs' ds' q (fun t h => ht t (by simp [h])) h2 (fun x hx => hlt x (by simp [hx])))
theorem zqx {w : World} {spare : Nat → Bool} {gs : List (DataW H)} {q : List MemPlace} (h : DataW.TrodVars enc P w spare [] gs q) : gs = [] ∧ q = [] := trodVars_none h
theorem post_law {f : Func} {s : ChangeSpec} {W W' : World} {args : Array Value} {ds gs : List (DataW H)} {before : List MemPlace} {rt : TypeId} (hl : laidOutB P = true) (hv : s.vars = []) (hrt : f.resultTypes = #[rt]) (hbool : P.underlying rt = some .bool)
    (hps : ∀ t ∈ f.params.toList, P.readableRec t = true ∧ t < P.types.size) (hW : DataW.Whole enc P f.params.toList s.vars false W args.toList ds gs before) (hb : Below W.heap.size W W')
    (hres : (s.fn H (ds ++ [])).results = [.lit (.bool true)]) (hargs : (s.fn H (ds ++ [])).args = ds) (hvars : (s.fn H (ds ++ [])).vars = []) : s.post enc P f false true false false W args (.bool true) W' := by
  have hW' := hW
  obtain ⟨p, q, hA, hV, rfl, hfz, hnd⟩ := hW
  rw [hv] at hV
  obtain ⟨rfl, rfl⟩ := zqx hV
  refine ⟨ds,[], _,[], p,[], hW', ?_, ?_, ?_, hb.frame _, fun h => by cases h⟩
  · rw [hres, hrt]
    exact trodAll_mk1 (shut_bool hbool true)
  · rw [hargs]
    exact zlx hl hb _ _ _ _ hps hA (fun x hx => by simpa using hW'.lt x (by simp [hx]))
  · rw [hvars, hv]; exact rfl
end
end Go.Sl
