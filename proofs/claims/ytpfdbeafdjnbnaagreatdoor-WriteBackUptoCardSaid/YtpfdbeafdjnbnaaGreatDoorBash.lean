/-
  Walks and laws of this seat.
-/
import Derived.Test.YtpfdbeafdjnbnaaGreatDoorBasg
import Derived.ChangeArms
import Derived.Lib.Builder
import Derived.Lib.UnsafeStr
import Derived.Laws.Externs
import Derived.ChangeKeysEq
import Derived.Test.YtpfdbeafdjnbnaaGreatDoorBasf
import Derived.LaidEql
import Derived.Laws.LoneSync
import Derived.Defers
namespace Go.Sl
section
open Go.RowKit Go.ChangeShapes Go.WideShapes Go.ChangeAt
section
variable {α : Type} {P : Program}
def Sint (k : IntKind) (i : Int) : Prop := (Lit.int k i).wf = true
theorem zv3 {β : Type} {Q : Nat → β → Prop} : ∀ (len : Nat),(∀ i, i < len → ∃ p, Q i p) → ∃ l : List β, l.length = len ∧ ∀ (i : Nat) p, l[i]? = some p → Q i p
  | 0, _ => ⟨[], rfl, by simp⟩
  | len + 1, h => by
    obtain ⟨l, h1, h2⟩ := zv3 len (fun i hi => h i (by omega))
    obtain ⟨p, hp⟩ := h len (by omega)
    refine ⟨l ++ [p], by simp [h1], fun i q hq => ?_⟩
    rw [List.getElem?_append] at hq
    split at hq
    · exact h2 i q hq
    · have : i = len := by
        have := (List.getElem?_eq_some_iff.1 hq).1
        simp at this; omega
      subst this
      simp [h1] at hq
      subst hq
      exact hp
theorem ztm {w : World} {r : Reach} {base : Nat} {T : TypeId} {v : Value} {fs : Array Field} (ht : P.underlying T = some (.struct fs)) (h : Value.okWide P w r base T v) : ∃ cs : List Value, v = .agg cs.toArray := by
  simp only [Value.okWide, ht] at h
  cases v <;> simp_all
  exact ⟨_, rfl⟩
end
end
section
open Go.RowKit
section
variable {P : Program} {M : List Deferred} {Q Q' : List Deferred → Exit → AP} {a : Act} {w : World}
open Classical in
end
end
section
open Go.RowKit
section
variable {P : Program} {f f' : Fz} {L L' : List Ent} {w0 w w' : World} {n : Nat} {E E' : List (Nat × Value)} {a : Act}
end
end
section
open Go.RowKit
section
variable {P : Program} {f f' : Fz} {L L' : List Ent} {w0 w w' : World} {n : Nat} {E E' : List (Nat × Value)} {a : Act}
variable {ops : Array Oper} {rest : List Oper} {K : AP} {ty : TypeId} {pos : String} {af : Array Edge} {g : Option (Nat × Bool)}
end
end
section
open Go.RowKit
abbrev MP := List Deferred → AP
section
variable {P : Program} {f f' f0 : Fz} {L L' : List Ent} {w0 w w' : World} {n : Nat} {E E' : List (Nat × Value)} {a : Act}
variable {M : List Deferred} {Qn : MP} {Qe : Nat → MP} {Qr : MP} {Qg : Nat → MP}
section
variable {ops : Array Oper} {rest : List Oper} {K : AP} {ty : TypeId} {pos : String} {af : Array Edge}
end
section
variable {C : World → Prop} {d : Option Tmp} {ty : TypeId} {pos : String} {af : Array Edge} {g : Option (Nat × Bool)}
theorem zhb {t : TypeId} {x : Operand} {ol oh : Option Operand} {s u : ByteArray} {lo hi : Nat} (he : s.extract lo hi = u) (hx : opv E x = some (.string s)) (ht : P.underlying t = some .string)
    (hlo : (ol = none ∧ lo = 0) ∨ ∃ y, ol = some y ∧ opv E y = some (.int .i64 (lo : Int))) (hhi : (oh = none ∧ hi = s.size) ∨ ∃ y, oh = some y ∧ opv E y = some (.int .i64 (hi : Int))) (h1 : lo ≤ hi) (h2 : hi ≤ s.size) :
    Y P C n E ⟨d, .slice t x ol oh none, ty, pos, af, g⟩ (.string u) := by subst he; exact zkw hx ht hlo hhi h1 h2
end
end
end
section
open Go.RowKit
theorem zfi {P : Program} {b : Frame} {a : Act} {k : List Item} {cs : List Frame} {w : World} {c : Code} : step P (lone (b.atR a (.code (.scope c) :: k)) cs w) = .next (lone (b.atR a (.code c :: .inScope c :: k)) cs w) :=
  step_lone_go (by simp [stepG, stepG.exec, Frame.atR])
theorem zlz {P : Program} {b : Frame} {a : Act} {k : List Item} {cs : List Frame} {w : World} {c : Code} : step P (lone (b.atR a (.inScope c :: k)) cs w) = .next (lone (b.atR a k) cs w) :=
  step_lone_go (by simp [stepG, stepG.exec, Frame.atR])
def scopePost (c : Code) (J : Nat → AP) (Q : Exit → AP) : Exit → AP
  | .goto l, a, w => (∃ rest, findLabel c l = some rest ∧ J l a w) ∨ (findLabel c l = none ∧ Q (.goto l) a w)
  | e, a, w => Q e a w
theorem zth {F : Fence} {n : Nat} {P : Program} {a : Act} {w : World} {Q : Exit → AP} {c : Code} (J : Nat → Nat → AP)
    (first : c.wpIn F n P (scopePost c (fun l a w => ∃ k, J l k a w) Q) a w)
    (pass : ∀ l k a w rest, findLabel c l = some rest → J l k a w → rest.wpIn F n P (scopePost c (fun l a w => ∃ k', k' < k ∧ J l k' a w) Q) a w) : (Code.scope c).wpIn F n P Q a w := by
  intro b k cs hro hb hr
  have h0 : ∀ a w,(lone (b.atR a (.code (.scope c) :: k)) cs w).fenced P F := fun a w => fenced_calm hb hr rfl
  have key : ∀ m l a w rest, findLabel c l = some rest → J l m a w → ∃ e a' w', Q e a' w' ∧ ArrivesIn (Machine.fenced P F) P (lone (b.atR a (.code rest :: .inScope c :: k)) cs w) b k cs e a' w' := by
    intro m
    induction m using Nat.strongRecOn with
    | _ m ih =>
      intro l a w rest hl hJ
      obtain ⟨e, a₁, w₁, hq, harr⟩ := pass l m a w rest hl hJ b (.inScope c :: k) cs hro hb hr
      cases e with
      | normal => exact ⟨.normal, a₁, w₁, hq, StepsIn.trans harr (.one (fenced_calm hb hr rfl) zlz)⟩
      | exit id => exact ⟨_, a₁, w₁, hq, .pass (x := .inLoop c) rfl (fun _ _ => .inl (by simp)) ⟨fun k' hk => harr.1 k' (by simpa [exitTo] using hk), fun h1 h2 => harr.2 h1 (by simpa [exitTo] using h2)⟩⟩
      | goto l' =>
        rcases hq with ⟨rest', hl', m', hlt, hJ'⟩ | ⟨hno, hq⟩
        · obtain ⟨e₂, a₂, w₂, hq₂, harr₂⟩ := ih m' hlt l' a₁ w₁ rest' hl' hJ'
          exact ⟨e₂, a₂, w₂, hq₂, .of_steps (harr.1 _ (by simp [gotoIn, hl'])) harr₂⟩
        · have hx : gotoIn l' (.inScope c :: k) = gotoIn l' k := by simp [gotoIn, hno]
          exact ⟨.goto l', a₁, w₁, hq, fun k' hk => harr.1 k' (by rw [hx]; exact hk), fun h1 h2 => harr.2 h1 (by rw [hx]; exact h2)⟩
      | ret => exact ⟨_, a₁, w₁, hq, harr⟩
      | panic ch => exact ⟨_, a₁, w₁, hq, harr⟩
      | outgrown => exact ⟨_, a₁, w₁, hq, harr⟩
  obtain ⟨e, a₁, w₁, hq, harr⟩ := first b (.inScope c :: k) cs hro hb hr
  cases e with
  | normal => exact ⟨.normal, a₁, w₁, hq, .head (h0 _ _) zfi (StepsIn.trans harr (.one (fenced_calm hb hr rfl) zlz))⟩
  | exit id => exact ⟨.exit id, a₁, w₁, hq, fun k' hk => .head (h0 _ _) zfi (harr.1 k' (by simpa [exitTo] using hk)), fun h1 h2 => let ⟨k₁, h3, h4⟩ := harr.2 h1 (by simpa [exitTo] using h2); ⟨k₁, h3, .head (h0 _ _) zfi h4⟩⟩
  | goto l' =>
    rcases hq with ⟨rest', hl', m', hJ'⟩ | ⟨hno, hq⟩
    · obtain ⟨e₂, a₂, w₂, hq₂, harr₂⟩ := key m' l' a₁ w₁ rest' hl' hJ'
      exact ⟨e₂, a₂, w₂, hq₂, .of_steps (.head (h0 _ _) zfi (harr.1 _ (by simp [gotoIn, hl']))) harr₂⟩
    · have hx : gotoIn l' (.inScope c :: k) = gotoIn l' k := by simp [gotoIn, hno]
      exact ⟨.goto l', a₁, w₁, hq, fun k' hk => .head (h0 _ _) zfi (harr.1 k' (by rw [hx]; exact hk)), fun h1 h2 => let ⟨k₁, h3, h4⟩ := harr.2 h1 (by rw [hx]; exact h2); ⟨k₁, h3, .head (h0 _ _) zfi h4⟩⟩
  | ret => exact ⟨_, a₁, w₁, hq, .of_steps (.one (h0 _ _) zfi) harr⟩
  | panic ch => exact ⟨_, a₁, w₁, hq, .of_steps (.one (h0 _ _) zfi) harr⟩
  | outgrown => exact ⟨_, a₁, w₁, hq, .of_steps (.one (h0 _ _) zfi) harr⟩
theorem W_scope {P : Program} {a : Act} {w : World} {c : Code} {Qn : AP} {Qe : Nat → AP} {Qr : AP} {Qg : Nat → AP} (J : Nat → Nat → AP)
    (first : ∀ G : Nat → AP,(∀ l k a w,(∃ rest, findLabel c l = some rest) → J l k a w → G l a w) → (∀ l a w, findLabel c l = none → Qg l a w → G l a w) → W P c Qn Qe Qr G a w)
    (pass : ∀ l k a w rest, findLabel c l = some rest → J l k a w → ∀ G : Nat → AP,(∀ l k' a w,(∃ rest, findLabel c l = some rest) → k' < k → J l k' a w → G l a w) → (∀ l a w, findLabel c l = none → Qg l a w → G l a w) → W P rest Qn Qe Qr G a w) :
    W P (.scope c) Qn Qe Qr Qg a w := by
  intro r M
  refine zth (fun l k a w => ∃ b, a = withM M b ∧ J l k b w) ?_ ?_
  · refine wpIn_mono (first (fun l a w => (∃ rest, findLabel c l = some rest ∧ ∃ k, J l k a w) ∨ (findLabel c l = none ∧ Qg l a w)) (fun l k a w ⟨rest, h⟩ hJ => .inl ⟨rest, h, k, hJ⟩) (fun l a w h hq => .inr ⟨h, hq⟩) r M) ?_
    rintro e a' w' ⟨b, rfl, q⟩
    cases e with
    | goto l =>
      rcases q with ⟨rest, h1, k, h2⟩ | ⟨h1, h2⟩
      · exact .inl ⟨rest, h1, k, b, rfl, h2⟩
      · exact .inr ⟨h1, b, rfl, h2⟩
    | _ => exact ⟨b, rfl, q⟩
  · rintro l k a' w' rest hl ⟨b, rfl, hJ⟩
    refine wpIn_mono (pass l k b w' rest hl hJ (fun l a w => (∃ rest, findLabel c l = some rest ∧ ∃ k', k' < k ∧ J l k' a w) ∨ (findLabel c l = none ∧ Qg l a w)) (fun l k' a w ⟨rest, h⟩ hlt hJ => .inl ⟨rest, h, k', hlt, hJ⟩) (fun l a w h hq => .inr ⟨h, hq⟩) r M) ?_
    rintro e a' w' ⟨b, rfl, q⟩
    cases e with
    | goto l =>
      rcases q with ⟨rest, h1, k', h2, h3⟩ | ⟨h1, h2⟩
      · exact .inl ⟨rest, h1, k', h2, b, rfl, h3⟩
      · exact .inr ⟨h1, b, rfl, h2⟩
    | _ => exact ⟨b, rfl, q⟩
end
section
open Go.RowKit
section
variable {P : Program} {f f' f0 : Fz} {L L' Lc : List Ent} {w0 w w' : World} {n m i : Nat} {E E' : List (Nat × Value)} {a : Act}
variable {ops : Array Oper} {rest : List Oper} {o : Oper} {K : AP} {C : World → Prop} {op : Op}
variable {d : Option Tmp} {ty : TypeId} {pos : String} {af : Array Edge} {g : Option (Nat × Bool)} {brk : List Nat} {p : PT} {v : Value}
def Apart (x y : Ent) : Prop := ∀ k, x.key = some k → y.key = some k → False
theorem zmw {L : List Ent} : (∀ (i j : Nat) (x y : Ent), L[i]? = some x → L[j]? = some y → i ≠ j → ∀ k, x.key = some k → y.key = some k → False) ↔ L.Pairwise Apart := by
  rw [List.pairwise_iff_getElem]
  constructor
  · intro h i j hi hj hij k h1 h2
    exact h i j _ _ (List.getElem?_eq_getElem hi) (List.getElem?_eq_getElem hj) (by omega) k h1 h2
  · intro h i j x y hi hj hij k h1 h2
    obtain ⟨hi', rfl⟩ := List.getElem?_eq_some_iff.1 hi
    obtain ⟨hj', rfl⟩ := List.getElem?_eq_some_iff.1 hj
    rcases Nat.lt_or_gt_of_ne hij with hlt | hlt
    · exact h i j hi' hj' hlt k h1 h2
    · exact h j i hj' hi' hlt k h2 h1
theorem Cw.perm (h : Cw w0 f L w) (hp : L.Perm L') : Cw w0 f L' w := by
  refine ⟨h.os, h.tape, h.output, h.size, h.frz, fun e he => h.live e (hp.mem_iff.2 he), fun e he => h.apart e (hp.mem_iff.2 he), ?_⟩
  rw [zmw]
  exact (List.Perm.pairwise_iff (fun {x y} (hxy : Apart x y) k h1 h2 => hxy k h2 h1) hp).1 (zmw.1 h.sep)
theorem zal {α : Type} : ∀ (L : List α) (i : Nat) {x : α}, L[i]? = some x → L.Perm (x :: L.eraseIdx i)
  | [], _, _, h => by simp at h
  | y :: L,0, x, h => by simp at h; subst h; exact .refl _
  | y :: L, i + 1, x, h => by
    simp at h
    rw [List.eraseIdx_cons_succ]
    exact ((zal L i h).cons y).trans (.swap _ _ _)
def GivesL (P : Program) (fn : FuncId) (args : List Value) (f : Fz) (Lr : List Ent) (v : Value) : Prop :=
  ∀ w0 L w, Cw w0 f (Lr ++ L) w → Calls P fn args.toArray w fun e w' => e = .returned v ∧ Cw w0 f (Lr ++ L) w'
theorem GivesL.at {fn : FuncId} {args : List Value} {Lr Lf : List Ent} (h : GivesL P fn args f Lr v) (hp : L.Perm (Lr ++ Lf)) (hC : Cw w0 f L w) : Calls P fn args.toArray w fun e w' => e = .returned v ∧ Cw w0 f L w' :=
  (h w0 Lf w (hC.perm hp)).mono fun _ _ ⟨h1, h2⟩ => ⟨h1, h2.perm hp.symm⟩
theorem zec {gn : FuncId} {x : Operand} {cap : List Value} {as : List Operand} {vs : List Value} {ats : Array TypeId} {Lr Lf : List Ent} (hx : opv E x = some (.func (.func gn) #[] cap.toArray)) (hg : Has P gn) (hv : as.mapM (opv E) = some vs) (hL : L.Perm (Lr ++ Lf)) (hp : GivesL P gn (vs ++ cap) f Lr v) :
    Y P (Cw w0 f L) n E ⟨d, .call { callee := .value x, args := as.toArray, argTypes := ats }, ty, pos, af, g⟩ v := by
  intro a ha w hw
  unfold Oper.quietAt
  rw [zi1 ha hx hg hv]
  refine ⟨rfl, ?_⟩
  have := hp.at hL hw
  rw [List.append_toArray] at *
  simpa using this
theorem RW.ints {k : IntKind} {rows : List (List Value)} {xs : List Int} (h : RW (tInt k) f rows xs) : rows = xs.map fun x => [.int k x] := RW.map (fun _ _ h => h) h
theorem zu4 {t u e : TypeId} {x : Operand} {v : Value} {rows : List (List Value)} {xs : List Int} (hx : opv E x = some v) (ht : P.underlying t = some (.slice e)) (he : P.underlying e = some (.int .i32)) (hu : P.underlying u = some .string) (hR : Rd f L v 1 rows) (hW : RW (tInt .i32) f' rows xs) :
    Y P (Cw w0 f L) n E ⟨d, .convert t u x, ty, pos, af, g⟩ (.string (textOf xs)) := y_r2s hx ht he hu (hW.ints ▸ hR)
theorem y_b2sW {t u e : TypeId} {x : Operand} {v : Value} {rows : List (List Value)} {xs : List Int} (hx : opv E x = some v) (ht : P.underlying t = some (.slice e)) (he : P.underlying e = some (.int .u8)) (hu : P.underlying u = some .string) (hR : Rd f L v 1 rows) (hW : RW (tInt .u8) f' rows xs) :
    Y P (Cw w0 f L) n E ⟨d, .convert t u x, ty, pos, af, g⟩ (.string (bytesOf xs)) := y_b2s hx ht he hu (hW.ints ▸ hR)
def runesM (s : ByteArray) : Option (List Int) := bif decide (s.size ≤ 70368744177664) then some (runesIn s) else none
theorem zs3 {s : ByteArray} {xs : List Int} (h : runesM s = some xs) : s.size ≤ 70368744177664 ∧ runesIn s = xs := by
  unfold runesM at h
  by_cases hs : s.size ≤ 70368744177664
  · rw [decide_eq_true hs] at h; exact ⟨hs, Option.some.inj h⟩
  · rw [decide_eq_false hs] at h; cases h
theorem RW.ofInts {k : IntKind} : ∀ xs : List Int, RW (tInt k) f (xs.map fun x => [.int k x]) xs
  | [] => trivial
  | _ :: xs => ⟨rfl, RW.ofInts xs⟩
theorem RL_s2rW {t u e : TypeId} {x : Operand} {s : ByteArray} {xs : List Int} {dd : Nat} (hm : runesM s = some xs) (hs : St n w0 f L E a w) (hx : opv E x = some (.string s)) (ht : P.underlying t = some .string) (hu : P.underlying u = some (.slice e)) (he : P.underlying e = some (.int .i32))
    (h : ∀ v rows a w, RW (tInt .i32) f rows xs → St n w0 f (.row v e 1 rows :: L) ((dd, v) :: E) a w → RL P ops rest K a w) (hd : dd < n := by decide) :
    RL P ops (⟨some dd, .convert t u x, ty, pos, af, none⟩ :: rest) K a w := by
  obtain ⟨h1, rfl⟩ := zs3 hm
  exact RL_s2r hs hx ht hu he h1 (fun v a w hs => h v _ a w (RW.ofInts _) hs) hd
def bytesM (s : ByteArray) : Option (List Int) := bif decide (s.size ≤ 70368744177664) then some (bytesIn s) else none
theorem y_min2 {t1 t2 : TypeId} {x y : Operand} {k : IntKind} {i j : Int} (hx : opv E x = some (.int k i)) (hy : opv E y = some (.int k j)) :
    Y P C n E ⟨d, .call { callee := .builtin .min, args := #[x, y], argTypes := #[t1, t2] }, ty, pos, af, g⟩ (.int k (bif decide (j < i) then j else i)) :=
  .of fun a ha w _ => by
    by_cases h : j < i <;> simp [execOp, resolve, invoke, builtin, ha.eval hx, ha.eval hy, Builtin.min_, Builtin.min2, h]
theorem zu2 {x y : Operand} {t u e : TypeId} {v : Value} {by_ : Nat} {z : Value} {rows : List (List Value)} {s : ByteArray} {xs zs : List Int} (i : Nat) (hm : appM by_ xs (bytesIn s) = some zs) (hW : RW (tInt .u8) f rows xs) (hs : St n w0 f L E a w) {dd : Nat}
    (hi : L[i]? = some (.row v e 1 rows)) (hx : opv E x = some v) (hy : opv E y = some (.string s)) (ht : P.underlying t = some (.slice e)) (hu : P.underlying u = some .string) (hT : TI P e 1 by_ z) (hzs : z.cells.size = 1)
    (h : ∀ v' rows' a w, RW (tInt .u8) f rows' zs → St n w0 f (L.set i (.row v' e 1 rows')) ((dd, v') :: E) a w → RL P ops rest K a w) (hd : dd < n := by decide) :
    RL P ops (⟨some dd, .call { callee := .builtin .append, args := #[x, y], argTypes := #[t, u] }, ty, pos, af, none⟩ :: rest) K a w := by
  obtain ⟨h1, h2⟩ := zcb hm
  rw [zak] at h1
  refine zrz i hs hi hx hy ht hu hT hzs (by rw [hW.len]; exact h1) (fun v' a w hs' => h v' _ a w ?_ hs') hd
  rw [← h2]
  exact hW.append (RW.ofInts _)
end
section
variable {P : Program} {f f' f0 : Fz} {L L' Lc : List Ent} {w0 w w' : World} {n m i : Nat} {E E' : List (Nat × Value)} {a : Act}
variable {ops : Array Oper} {K : AP} {ty : TypeId} {pos : String} {af : Array Edge} {brk : List Nat} {p : PT} {v : Value} {dd : Nat} {j gd : Nat} {b : Bool}
end
end
section
open Go.RowKit
section
variable {P : Program} {f f' f0 : Fz} {L L' Lc : List Ent} {w0 w w' : World} {n m i : Nat} {E E' : List (Nat × Value)} {a : Act}
variable {d : Option Tmp} {ty : TypeId} {pos : String} {af : Array Edge} {g : Option (Nat × Bool)} {r v : Value}
theorem lent0 {e : TypeId} {k : Nat} {rows : List (List Value)} {fn : FuncId} {args : List Value} (hC : Cw w0 f (.row v e k rows :: L) w)
    (h : ∀ f' w, Fz.le f f' → Rd f' [] v k rows → Cw w0 f' L w → Calls P fn args.toArray w fun e w' => e = .returned r ∧ Cw w0 f' L w') :
    Calls P fn args.toArray w fun e' w' => e' = .returned r ∧ Cw w0 f (.row v e k rows :: L) w' := by
  obtain ⟨f', h1, h2, h3, h4⟩ := Rd.frozenAt (i := 0) hC rfl
  exact (h f' w h1 h4 h2).mono fun _ _ ⟨e1, e2⟩ => ⟨e1, hC.thaw (i := 0) rfl h1 h3 e2⟩
theorem callsP {Lr Lf : List Ent} {fn : FuncId} {args : List Value} (hp : L.Perm (Lr ++ Lf)) (hC : Cw w0 f L w)
    (h : ∀ Lz w, Cw w0 f (Lr ++ Lz) w → Calls P fn args.toArray w fun e w' => e = .returned r ∧ Cw w0 f (Lr ++ Lz) w') : Calls P fn args.toArray w fun e w' => e = .returned r ∧ Cw w0 f L w' :=
  (h Lf w (hC.perm hp)).mono fun _ _ ⟨h1, h2⟩ => ⟨h1, h2.perm hp.symm⟩
theorem zdr {gn : FuncId} {x : Operand} {cap : List Value} {as : List Operand} {vs : List Value} {ats : Array TypeId} (hx : opv E x = some (.func (.func gn) #[] cap.toArray)) (hg : Has P gn) (hv : as.mapM (opv E) = some vs)
    (hp : ∀ w, Cw w0 f L w → Calls P gn (vs ++ cap).toArray w fun e w' => e = .returned v ∧ Cw w0 f L w') :
    Y P (Cw w0 f L) n E ⟨d, .call { callee := .value x, args := as.toArray, argTypes := ats }, ty, pos, af, g⟩ v := by
  intro a ha w hw
  unfold Oper.quietAt
  rw [zi1 ha hx hg hv]
  refine ⟨rfl, ?_⟩
  have := hp w hw
  rw [List.append_toArray] at *
  simpa using this
end
def spine : Code → Nat → Option Code
  | .seq (.label l') b, l => if l' == l then some b else spine b l
  | .seq _ b, l => spine b l
  | _, _ => none
def noLab : Code → Bool
  | .label _ => false
  | .seq a b => noLab a && noLab b
  | _ => true
def rightOnly : Code → Bool
  | .seq (.label _) b => rightOnly b
  | .seq a b => noLab a && rightOnly b
  | .label _ => false
  | _ => true
theorem zmp : ∀ (c : Code) (l : Nat), noLab c = true → findLabel c l = none
  | .seq a b, l, h => by
    simp only [noLab, Bool.and_eq_true] at h
    simp [findLabel, zmp a l h.1, zmp b l h.2]
  | .label _, _, h => by simp [noLab] at h
  | .region .., _, _ | .cond .., _, _ | .block .., _, _ | .loop .., _, _ | .exit .., _, _ | .goto .., _, _ | .skip, _, _ | .ret, _, _ | .scope .., _, _ | .rangeFunc .., _, _ | .refuse .., _, _ => rfl
theorem zh9 : ∀ (c : Code) (l : Nat), rightOnly c = true → findLabel c l = (spine c l).map (Code.seq .skip)
  | .seq (.label l') b, l, h => by
    simp only [rightOnly] at h
    simp only [findLabel, spine]
    by_cases e : (l' == l) = true
    · simp [e]
    · simp [e, zh9 b l h]
  | .seq (.seq x y) b, l, h => by
    simp only [rightOnly, Bool.and_eq_true] at h
    rw [findLabel, zmp _ l h.1]
    exact zh9 b l h.2
  | .seq (.region ..) b, l, h | .seq (.cond ..) b, l, h | .seq (.block ..) b, l, h | .seq (.loop ..) b, l, h | .seq (.exit ..) b, l, h | .seq (.goto ..) b, l, h | .seq .skip b, l, h | .seq .ret b, l, h | .seq (.scope ..) b, l, h | .seq (.rangeFunc ..) b, l, h | .seq (.refuse ..) b, l, h => by
    simp only [rightOnly, Bool.and_eq_true] at h
    exact zh9 b l h.2
  | .label _, _, h => by simp [rightOnly] at h
  | .region .., _, _ | .cond .., _, _ | .block .., _, _ | .loop .., _, _ | .exit .., _, _ | .goto .., _, _ | .skip, _, _ | .ret, _, _ | .scope .., _, _ | .rangeFunc .., _, _ | .refuse .., _, _ => rfl
section
variable {P : Program} {Qn : AP} {Qe : Nat → AP} {Qr : AP} {Qg : Nat → AP} {a : Act} {w : World} {c : Code}
structure Gone (c : Code) (Qg : Nat → AP) (J : Nat → AP) (G : Nat → AP) : Prop where
  at_ : ∀ l a w,(spine c l).isSome = true → J l a w → G l a w
  out : ∀ l a w, spine c l = none → Qg l a w → G l a w
def Behind (P : Program) (c : Code) (Qn : AP) (Qe : Nat → AP) (Qr : AP) (Qg : Nat → AP) (J : Nat → Nat → AP) (k : Nat) : Prop :=
  ∀ l a w R, spine c l = some R → J l k a w → ∀ G : Nat → AP, Gone c Qg (fun l a w => ∃ k', k' < k ∧ J l k' a w) G → W P R Qn Qe Qr G a w
theorem ztd (J : Nat → Nat → AP) (hr : rightOnly c = true)
    (pass : ∀ k,(∀ k', k' < k → Behind P c Qn Qe Qr Qg J k') → Behind P c Qn Qe Qr Qg J k)
    (first : (∀ k, Behind P c Qn Qe Qr Qg J k) → ∀ G : Nat → AP, Gone c Qg (fun l a w => ∃ k, J l k a w) G → W P c Qn Qe Qr G a w) : W P (.scope c) Qn Qe Qr Qg a w := by
  have hall : ∀ k, Behind P c Qn Qe Qr Qg J k := fun k => by
    induction k using Nat.strongRecOn with
    | ind k ih => exact pass k ih
  have hs : ∀ {l : Nat}, findLabel c l = none → spine c l = none := fun {l} h => by
    rw [zh9 c l hr] at h
    simpa using h
  have hs2 : ∀ {l : Nat}, (∃ rest, findLabel c l = some rest) ↔ (spine c l).isSome = true := fun {l} => by
    rw [zh9 c l hr]
    cases spine c l <;> simp
  refine W_scope J (fun G h1 h2 => first hall G ⟨fun l a w hl ⟨k, hJ⟩ => h1 l k a w (hs2.2 hl) hJ, fun l a w hl hq => h2 l a w ?_ hq⟩) ?_
  · rw [zh9 c l hr, hl]; rfl
  · intro l k a w rest hl hJ G h1 h2
    rw [zh9 c l hr] at hl
    obtain ⟨R, hR, rfl⟩ := Option.map_eq_some_iff.1 hl
    refine zai fun K hK => zaj (hK _ _ (hall k l a w R hR hJ G ⟨fun l a w hl ⟨k', h3, h4⟩ => h1 l k' a w (hs2.2 hl) h3 h4, fun l a w hl hq => h2 l a w ?_ hq⟩))
    rw [zh9 c l hr, hl]; rfl
theorem Behind.into {J : Nat → Nat → AP} {J' : Nat → AP} {k l : Nat} {R : Code} {G : Nat → AP} (hB : Behind P c Qn Qe Qr Qg J k) (hR : spine c l = some R) (hJ : J l k a w) (hG : Gone c Qg J' G)
    (hJ' : ∀ l a w k', k' < k → J l k' a w → J' l a w) : W P (.seq (.label l) R) Qn Qe Qr G a w :=
  zai fun _ hK => W_label (hK _ _ (hB l a w R hR hJ G ⟨fun l a w hl ⟨k', h3, h4⟩ => hG.at_ l a w hl (hJ' l a w k' h3 h4), hG.out⟩))
end
end
section
open Go.RowKit
section
variable {P : Program} {f f' f0 : Fz} {L L' Lc : List Ent} {w0 w w' : World} {n m i : Nat} {E E' : List (Nat × Value)} {a : Act}
variable {ops : Array Oper} {rest : List Oper} {K : AP} {C : World → Prop}
variable {d : Option Tmp} {ty : TypeId} {pos : String} {af : Array Edge} {g : Option (Nat × Bool)} {v : Value} {dd : Nat}
theorem zu8 {gn : FuncId} {x : Operand} {as : List Operand} {vs : List Value} {ats : Array TypeId} (hx : opv E x = some (.func (.func gn) #[] #[])) (hv : as.mapM (opv E) = some vs)
    (hc : ∀ w,(callFunc gn vs.toArray).run P w = .ok (.value v) w) : Y P C n E ⟨d, .call { callee := .value x, args := as.toArray, argTypes := ats }, ty, pos, af, g⟩ v :=
  .of fun a ha w _ => by
    have := evalArgs ha hv
    have e1 : as.toArray.map a.eval = vs.toArray := by simp [this]
    simp [execOp, resolve, ha.eval hx, Deferred.ofValue, invoke, e1, hc]
theorem y_pnn {x y : Operand} {t t' q : TypeId} (hx : opv E x = some (.pointer none)) (hy : opv E y = some (.pointer none)) (ht : P.underlying t = some (.pointer q)) : Y P C n E ⟨d, .binOp .eql t x y t', ty, pos, af, g⟩ (.bool true) :=
  .of fun a ha w _ => by
    have h : (Op.equal t (.pointer none) (.pointer none)).run P w = .ok true w := zha (fun d => by simp [Op.equalIn, run_underlying ht]) rfl
    simp [execOp, ha.eval hx, ha.eval hy, eqGuard, binOp, h]
theorem y_pselfN {x y : Operand} {t t' q : TypeId} {p : Addr} {k by_ : Nat} {z : Value} (hx : opv E x = some (.pointer (some p))) (hy : opv E y = some (.pointer (some p))) (ht : P.underlying t = some (.pointer q)) (hT : TI P q k by_ z) : Y P C n E ⟨d, .binOp .neq t x y t', ty, pos, af, g⟩ (.bool false) :=
  .of fun a ha w _ => by
    obtain ⟨it, hit, _⟩ := hT
    have h := Lib.run_neq_ptr_same (P := P) w p ht hit
    simp [execOp, ha.eval hx, ha.eval hy, eqGuard, h]
theorem zr1 {b : Nat} {cs : Array Value} {e : TypeId} (hm : .blk b (.cells cs e (0,0)) ∈ L) (hC : Cw w0 f L w) : w.shape? b = some (e, cs.size) := by
  have : w.heap[b]? = some (.cells cs e (0,0)) := hC.live _ hm
  simp [World.shape?, this]
theorem ztg {t u q e : TypeId} {x : Operand} {b : Nat} {cs : Array Value} {k by_ : Nat} {z : Value} (hx : opv E x = some (.pointer (some ⟨b,0, none⟩))) (ht : P.underlying t = some (.pointer q)) (hu : P.underlying u = some .unsafePointer) (hT : TI P q k by_ z) (hk : k ≠ 0)
    (hm : .blk b (.cells cs e (0,0)) ∈ L) (hs : 0 < cs.size) : Y P (Cw w0 f L) n E ⟨d, .convert t u x, ty, pos, af, g⟩ (.pointer (some ⟨b,0, none⟩)) :=
  .of fun a ha w hw => by
    obtain ⟨it, hit, _, hk', _⟩ := hT
    have h := Lib.run_to_unsafe (P := P) w ⟨b,0, none⟩ ht hu hit (by omega) (zr1 hm hw) hs
    simp only [execOp, ha.eval hx, Sem.run_bind, h, Result.andThen_ok, Sem.run_pure]
theorem zqt {t u q e : TypeId} {x : Operand} {b : Nat} {cs : Array Value} {k by_ : Nat} {z : Value} (hx : opv E x = some (.pointer (some ⟨b,0, none⟩))) (ht : P.underlying t = some .unsafePointer) (hu : P.underlying u = some (.pointer q)) (hT : TI P q k by_ z)
    (hm : .blk b (.cells cs e (0,0)) ∈ L) (hl : liesAt P P.depth e (cs.size / P.cellsOf e) 0 q 1 = true) : Y P (Cw w0 f L) n E ⟨d, .convert t u x, ty, pos, af, g⟩ (.pointer (some ⟨b,0, none⟩)) :=
  .of fun a ha w hw => by
    obtain ⟨it, hit, _⟩ := hT
    have h := Lib.run_from_unsafe (P := P) w ⟨b,0, none⟩ ht hu hit (zr1 hm hw) hl
    simp only [execOp, ha.eval hx, Sem.run_bind, h, Result.andThen_ok, Sem.run_pure]
def HeadOf (v : Value) (m : Nat) (p : Option Addr) : Prop := m ≠ 0 → ∃ gb q c, v = .slice (some ⟨gb,0, none⟩) q c ∧ p = some ⟨gb,0, none⟩
theorem RL_usd {x : Operand} {t e : TypeId} {rows : List (List Value)} {i : Nat} (hs : St n w0 f L E a w) (hi : L[i]? = some (.row v e 1 rows)) (hx : opv E x = some v) (ht : P.underlying ty = some (.pointer e))
    (h : ∀ p L1 a w, HeadOf v rows.length p → St n w0 f (L1 ++ L) ((dd, .pointer p) :: E) a w → RL P ops rest K a w) (hd : dd < n := by decide) :
    RL P ops (⟨some dd, .call { callee := .builtin .unsafeSliceData, args := #[x], argTypes := #[t] }, ty, pos, af, none⟩ :: rest) K a w := by
  have hm := List.mem_of_getElem? hi
  obtain ⟨hown, _⟩ := hs.cw.live _ hm
  rcases hown.2 with ⟨rfl, h0⟩ | ⟨gb, cap, cur, rfl, hgb, hg, hnc, hcm, hcs, htk⟩
  · refine RL_v hs (.free rfl) (.to rfl hd) (v := .pointer none) (w' := w) (f' := f) (L' := L) ?_ hs.cw (fun a w hs => h none [] a w (fun hne => absurd h0 hne) hs)
    simp only [execOp, resolve, invoke, builtin, Sem.run_bind, Sem.run_pure, Result.andThen_ok, List.map_toArray, List.map_cons, List.map_nil, hs.ev.eval hx, Lib.run_unsafeSliceData_nil]
  · by_cases hc : cap = 0
    · subst hc
      refine RL_v hs (.free rfl) (.to rfl hd) (v := .pointer (some ⟨w.heap.size,0, none⟩)) (w' := w.alloc (.view ⟨gb,0, none⟩ e)) (f' := f) (L' := .blk w.heap.size (.view ⟨gb,0, none⟩ e) :: L) ?_ (hs.cw.alloc _) (fun a w hs => h _ [_] a w (fun hne => by omega) hs)
      simp only [execOp, resolve, invoke, builtin, Sem.run_bind, Sem.run_pure, Result.andThen_ok, List.map_toArray, List.map_cons, List.map_nil, hs.ev.eval hx, Lib.run_unsafeSliceData_zero (P := P) w #[t] ty e ht ⟨gb,0, none⟩ rows.length (e, cur.size) (by simp [World.shape?, hg])]
    · refine RL_v hs (.free rfl) (.to rfl hd) (v := .pointer (some ⟨gb,0, none⟩)) (w' := w) (f' := f) (L' := L) ?_ hs.cw (fun a w hs => h _ [] a w (fun _ => ⟨gb, _, _, rfl, rfl⟩) hs)
      simp only [execOp, resolve, invoke, builtin, Sem.run_bind, Sem.run_pure, Result.andThen_ok, List.map_toArray, List.map_cons, List.map_nil, hs.ev.eval hx, Lib.run_unsafeSliceData_row (P := P) w #[t] ty ⟨gb,0, none⟩ rows.length cap hc]
theorem zle : ∀ (l : List Int) (a : Addr) (acc : ByteArray),(∀ (j : Nat) x, l[j]? = some x → w.cell? (a.add j) = some (.int .u8 x)) →
    (Go.loadBytes a acc l.length).run P w = .ok ⟨acc.data ++ (l.map fun n => UInt8.ofNat n.toNat).toArray⟩ w
  | [], a, acc, _ => by simp [Go.loadBytes]
  | x :: l, a, acc, h => by
    have h0 : w.cell? a = some (.int .u8 x) := by
      have := h 0 x rfl
      simpa [Addr.add] using this
    have ih := zle l (a.add 1) (acc.push (UInt8.ofNat x.toNat)) (fun j y hy => by
      have := h (j + 1) y (by simpa using hy)
      have e : (a.add 1).add j = a.add (j + 1) := by
        unfold Addr.add
        by_cases hj : j = 0
        · subst hj; simp
        · simp [hj]; omega
      rw [e]; exact this)
    simp only [List.length_cons, Go.loadBytes, Sem.run_bind, run_load, h0, Result.andThen]
    rw [show x.toNat.toUInt8 = UInt8.ofNat x.toNat from rfl, ih]
    congr 1
    apply ByteArray.ext
    simp [ByteArray.push]
theorem zml (pt it ty e : TypeId) (hp : P.underlying pt = some (.pointer e)) (hc : P.cellsOf e = 1) (gb cells : Nat) (hsh : w.shape? gb = some (e, cells)) (l : List Int) (h0 : l ≠ []) (hn : l.length ≤ cells) (h63 : l.length ≤ 9223372036854775807)
    (hcell : ∀ (j : Nat) x, l[j]? = some x → w.cell? ((⟨gb,0, none⟩ : Addr).add j) = some (.int .u8 x)) :
    (Builtin.unsafeString_ #[pt, it] ty #[.pointer (some ⟨gb,0, none⟩), .int .i64 l.length]).run P w = .ok (.string (bytesOf l)) (w.freeze ⟨gb,0, none⟩ l.length) := by
  have hl : l.length ≠ 0 := by simpa using h0
  have hlb := zle (P := P) (w := w) l ⟨gb,0, none⟩ .empty hcell
  have hlies := Lib.liesAt_bytes (P := P) hc (cells / P.cellsOf e) l.length (by rw [hc]; simpa using hn)
  have h63' : ¬ (9223372036854775807 : Int) < (l.length : Int) := by omega
  have hdef : Builtin.unsafeString_ #[pt, it] ty #[.pointer (some ⟨gb,0, none⟩), .int .i64 l.length] =
      (do
        let n ← asInt (.int .i64 l.length)
        if n < 0 then runtimePanic (.error "unsafe.String: len out of range")
        if n > IntKind.i64.max then unsupported (.unsafePointer "String: a length above the largest int")
        if n = 0 then pure (.string .empty)
        else if ← variablesAt ⟨gb,0, none⟩ (← elemOf pt) n.toNat then do
          let s ← loadBytes ⟨gb,0, none⟩ .empty n.toNat
          freeze ⟨gb,0, none⟩ n.toNat
          pure (.string s)
        else unsupported (.unsafePointer "String: not so many bytes at ptr")) := rfl
  rw [hdef]
  have hmax : IntKind.i64.max = 9223372036854775807 := rfl
  have hneg : ¬ (l.length : Int) < 0 := by omega
  simp [asInt, asIntOf, hmax, h63', hneg, hl, variablesAt, hsh, elemOf, run_underlying hp, hlies, hlb, bytesOf]
theorem RL_ust {x y : Operand} {pt it e : TypeId} {rows : List (List Value)} {xs : List Int} {p : Option Addr} {i : Nat} (hs : St n w0 f L E a w) (hi : L[i]? = some (.row v e 1 rows)) (hW : RW (tInt .u8) f' rows xs) (hx : opv E x = some (.pointer p)) (hy : opv E y = some (.int .i64 (xs.length : Int)))
    (hp : HeadOf v rows.length p) (ht : P.underlying pt = some (.pointer e)) (hc : P.cellsOf e = 1)
    (h : ∀ a w, St n w0 f (L.eraseIdx i) ((dd, .string (bytesOf xs)) :: E) a w → RL P ops rest K a w) (hd : dd < n := by decide) :
    RL P ops (⟨some dd, .call { callee := .builtin .unsafeString, args := #[x, y], argTypes := #[pt, it] }, ty, pos, af, none⟩ :: rest) K a w := by
  have hm := List.mem_of_getElem? hi
  obtain ⟨hown, hone⟩ := hs.cw.live _ hm
  by_cases h0 : xs = []
  · subst h0
    refine RL_v hs (.free rfl) (.to rfl hd) (v := .string (bytesOf [])) (w' := w) (f' := f) (L' := L.eraseIdx i) ?_ (hs.cw.sub (List.eraseIdx_sublist ..)) h
    have := Lib.run_unsafeString_none (P := P) w pt it ty p
    simp only [execOp, resolve, invoke, builtin, Sem.run_bind, Sem.run_pure, Result.andThen_ok, List.map_toArray, List.map_cons, List.map_nil, hs.ev.eval hx, hs.ev.eval hy, List.length_nil, Int.natCast_zero, this]
    rfl
  · have hl := hW.len
    have hne : rows.length ≠ 0 := by rw [hl]; simpa using h0
    obtain ⟨gb', q, c, hv, hpe⟩ := hp hne
    rcases hown.2 with ⟨hv2, hz⟩ | ⟨gb, cap, cur, hv2, hgb, hg, hnc, hcm, hcs, htk⟩
    · exact absurd hz hne
    · have : gb' = gb := by rw [hv] at hv2; injection hv2 with e1 _ _; injection e1 with e2; injection e2
      subst this
      have hcell : ∀ (j : Nat) z, xs[j]? = some z → w.cell? ((⟨gb', 0, none⟩ : Addr).add j) = some (.int .u8 z) := fun j z hj => by
        have h1 := hW.ints
        have hfl : rows.flatten = xs.map (Value.int .u8) := by rw [h1]; exact zey _ xs
        exact hown.cells (g := gb') (by rw [hv2]; rfl) j _ (by rw [hfl]; simp [hj])
      have hrun := zml (P := P) (w := w) pt it ty e ht hc gb' cur.size (by simp [World.shape?, hg]) xs h0 (by omega) (by unfold maxLen at hcm; omega) hcell
      have hxl : xs.length ≠ 0 := by simpa using h0
      have hlt : gb' < w.heap.size := (Array.getElem?_eq_some_iff.1 hg).1
      have hC : Cw w0 f (L.set i (.blk gb' (.cells cur e (0, xs.length)))) (w.freeze ⟨gb', 0, none⟩ xs.length) := by
        refine hs.cw.repl hi ⟨?_, ?_, ?_, ?_, fun k hk hkr => ?_⟩ ?_ (fun b hb => .inl ?_)
        · simp [World.freeze, hxl]
        · simp [World.freeze, hxl]
        · simp [World.freeze, hxl]
        · simp [World.freeze, hxl]
        · have : k ≠ gb' := fun e' => hkr (by rw [e']; simp [Ent.key, hv, Value.ownBlock])
          simp only [World.freeze, hxl, if_false]
          rw [Array.getElem?_modify]
          simp [Ne.symm this]
        · show (w.freeze ⟨gb', 0, none⟩ xs.length).heap[gb']? = _
          simp only [World.freeze, hxl, if_false]
          rw [Array.getElem?_modify]
          simp [hg]
        · simp [Ent.key] at hb; subst hb; simp [Ent.key, hv, Value.ownBlock]
      have hC2 : Cw w0 f (L.eraseIdx i) (w.freeze ⟨gb', 0, none⟩ xs.length) := by
        have e1 : (L.set i (.blk gb' (.cells cur e (0, xs.length)))).eraseIdx i = L.eraseIdx i := by
          apply List.ext_getElem?
          intro j
          rw [List.getElem?_eraseIdx, List.getElem?_eraseIdx]
          split
          · rw [List.getElem?_set_ne (by omega)]
          · rw [List.getElem?_set_ne (by omega)]
        rw [← e1]
        exact hC.sub (List.eraseIdx_sublist ..)
      refine RL_v hs (.free rfl) (.to rfl hd) (v := .string (bytesOf xs)) (w' := w.freeze ⟨gb', 0, none⟩ xs.length) (f' := f) (L' := L.eraseIdx i) ?_ hC2 h
      rw [hpe] at hx
      simp only [execOp, resolve, invoke, builtin, Sem.run_bind, Sem.run_pure, Result.andThen_ok, List.map_toArray, List.map_cons, List.map_nil, hs.ev.eval hx, hs.ev.eval hy, hrun]
end
def baddr (b : Nat) (u : Bool) : Value := bif u then .pointer (some ⟨b,0, none⟩) else .pointer none
structure Builder where
  addr : Bool
  buf : List Int
end
section
open Go.RowKit
section
variable {P : Program} {f : Fz} {L : List Ent} {w0 w : World} {n : Nat} {E : List (Nat × Value)} {a : Act}
variable {ops : Array Oper} {rest : List Oper} {K : AP} {d : Option Tmp} {ty : TypeId} {pos : String} {af : Array Edge}
theorem zqp {j gd : Nat} {b : Bool} {op : Op} (hs : St n w0 f L E a w) (hg : (ops[j]?).bind (·.dst) = some gd) (hl : look E gd = some (.bool b))
    (h : RL P ops (⟨d, op, ty, pos, af, none⟩ :: rest) K a w) : RL P ops (⟨d, op, ty, pos, af, some (j, b)⟩ :: rest) K a w := by
  have h' := h.d
  refine ⟨?_⟩
  unfold RLd at h' ⊢
  have w1 : Region.wanted (⟨d, op, ty, pos, af, some (j, b)⟩ : Oper) (yielded ops a.tmps) = true := Want.wanted hs.ev (.yes rfl hg hl)
  have w2 : Region.wanted (⟨d, op, ty, pos, af, none⟩ : Oper) (yielded ops a.tmps) = true := Want.wanted hs.ev (.free rfl)
  rw [if_pos w2] at h'
  rw [if_pos w1]
  exact h'
end
end
section
open Go.RowKit
def SMapK {κ : Type} (ke : κ → Value) (l : List MapEntry) (m : List (κ × Value)) : Prop := l.map (fun e => (e.key, e.val)) = m.map fun p => (ke p.1, p.2)
section
variable {κ : Type} [DecidableEq κ]
def kfind (k : κ) : List (κ × Value) → Nat → Option (Nat × Value)
  | [], _ => none
  | p :: m, i => if p.1 = k then some (i, p.2) else kfind k m (i + 1)
variable {P : Program}
end
section
variable {P : Program} {ops : Array Oper} {rest : List Oper} {n : Nat} {w0 w : World} {f f' : Fz} {L L' : List Ent} {E E' : List (Nat × Value)} {a : Act} {K : AP} {v : Value}
variable {ty : TypeId} {pos : String} {af : Array Edge} {d : Option Tmp} {g : Option (Nat × Bool)} {C : World → Prop} {κ α : Type} [DecidableEq κ]
end
end
section
open Go.RowKit
section
variable {P : Program} {n : Nat} {E : List (Nat × Value)} {C : World → Prop}
variable {d : Option Tmp} {ty : TypeId} {pos : String} {af : Array Edge} {g : Option (Nat × Bool)}
variable {dp : Nat} {xs ys : Array Value} {fd : Field} {fs : List Field} {c c0 : Bool} {t e : TypeId} {a b : Value}
end
end
section
open Go.RowKit
section
variable {P : Program} {n : Nat} {E : List (Nat × Value)} {C : World → Prop}
variable {d : Option Tmp} {ty : TypeId} {pos : String} {af : Array Edge} {g : Option (Nat × Bool)}
end
end
section
open Go.RowKit
def RP (bs : List Nat) (v : Value) (i : Int) : Prop := (i = -1 ∧ v = .pointer none) ∨ ∃ b, v = .pointer (some ⟨b,0, none⟩) ∧ 0 ≤ i ∧ bs[i.toNat]? = some b
theorem RP.nil {bs : List Nat} : RP bs (.pointer none) (-1) := .inl ⟨rfl, rfl⟩
theorem ztl {α : Type} {l l' : List α} (h : l <+: l') {i : Nat} {x : α} (hx : l[i]? = some x) : l'[i]? = some x := by
  obtain ⟨r, rfl⟩ := h
  rw [List.getElem?_append_left (List.getElem?_eq_some_iff.1 hx).1]; exact hx
theorem RP.grow {bs bs' : List Nat} {v : Value} {i : Int} (h : RP bs v i) (hb : bs <+: bs') : RP bs' v i := by
  rcases h with h | ⟨b, h1, h2, h3⟩
  · exact .inl h
  · exact .inr ⟨b, h1, h2, ztl hb h3⟩
theorem RP.one {bs : List Nat} {v : Value} {i : Int} (h : RP bs v i) : v.oneCell' = true := by
  rcases h with ⟨_, rfl⟩ | ⟨b, rfl, _⟩ <;> rfl
def tP (bs : List Nat) : Ty Int := ⟨1, fun _ r x => ∃ v, r = [v] ∧ RP bs v x, fun h _ => h, fun ⟨v, e, h⟩ => by subst e; exact ⟨rfl, by simp [h.one]⟩⟩
theorem RW.grow {bs bs' : List Nat} {f : Fz} (hb : bs <+: bs') : ∀ {rows : List (List Value)} {xs : List Int}, RW (tP bs) f rows xs → RW (tP bs') f rows xs
  | [],[], _ => trivial
  | _ :: _, _ :: _, ⟨⟨v, h1, h2⟩, h3⟩ => ⟨⟨v, h1, h2.grow hb⟩, RW.grow hb h3⟩
  | [], _ :: _, h => h.elim
  | _ :: _,[], h => h.elim
theorem RW.anyP {bs : List Nat} {f f' : Fz} : ∀ {rows : List (List Value)} {xs : List Int}, RW (tP bs) f rows xs → RW (tP bs) f' rows xs
  | [],[], _ => trivial
  | _ :: _, _ :: _, ⟨h, h3⟩ => ⟨h, RW.anyP h3⟩
  | [], _ :: _, h => h.elim
  | _ :: _,[], h => h.elim
structure NSh (α : Type) where
  R : Fz → List Nat → Nat → α → List Ent → Prop
  mono : ∀ {f f' : Fz} {bs bs' : List Nat} {b : Nat} {x : α} {l : List Ent}, R f bs b x l → Fz.le f f' → bs <+: bs' → R f' bs' b x l
  key : ∀ {f : Fz} {bs : List Nat} {b : Nat} {x : α} {l : List Ent}, R f bs b x l → ∃ cs e l', l = .blk b (.cells cs e (0,0)) :: l'
section
variable {α : Type} {S : NSh α} {f f' : Fz} {bs bs' : List Nat} {A : List α} {H : List Nat} {L0 L L' X : List Ent} {v : Value} {i : Int} {j : Nat} {x : α} {b : Nat} {l : List Ent}
theorem perm3 {α : Type} (X G R : List α) : (X ++ (G ++ R)).Perm (G ++ (X ++ R)) := by
  rw [← List.append_assoc, ← List.append_assoc]
  exact List.perm_append_comm.append_right _
def rest (n : Nat) (H : List Nat) : List Nat := (List.range n).filter fun i => !H.contains i
def AR (S : NSh α) (f : Fz) (bs : List Nat) (A : List α) (H : List Nat) (L0 L : List Ent) : Prop :=
  bs.length = A.length ∧ bs.Nodup ∧ ∃ G : Nat → List Ent,(∀ i x b, i ∉ H → A[i]? = some x → bs[i]? = some b → S.R f bs b x (G i)) ∧ L.Perm ((rest A.length H).flatMap G ++ L0)
theorem AR.nil {L : List Ent} : AR S f [] [] [] L L := ⟨rfl, List.nodup_nil, fun _ => [], fun _ _ _ _ h => by simp at h, .refl _⟩
theorem AR.le (h : AR S f bs A H L0 L) (hf : Fz.le f f') : AR S f' bs A H L0 L := by
  obtain ⟨h1, h2, G, h3, h4⟩ := h
  exact ⟨h1, h2, G, fun i x b g1 g2 g3 => S.mono (h3 i x b g1 g2 g3) hf (List.prefix_refl _), h4⟩
theorem zov {n j : Nat} {H : List Nat} (hj : j < n) (hh : j ∉ H) : (rest n H).Perm (j :: rest n (j :: H)) := by
  have hm : j ∈ rest n H := by simp [rest, hj, hh]
  have hn : (rest n H).Nodup := List.nodup_range.filter _
  refine (List.perm_cons_erase hm).trans (.cons _ ?_)
  rw [hn.erase_eq_filter]
  unfold rest
  rw [List.filter_filter]
  refine List.Perm.of_eq (List.filter_congr fun i _ => ?_)
  by_cases hi : i = j
  · subst hi; simp
  · simp [hi]
def focM {α : Type} (A : List α) (H : List Nat) (i : Int) : Option α := bif H.contains i.toNat then none else geti A i
theorem ziv {A : List α} {H : List Nat} {i : Int} {x : α} (h : focM A H i = some x) : i.toNat ∉ H ∧ geti A i = some x := by
  unfold focM at h
  cases hc : H.contains i.toNat with
  | true => rw [hc] at h; cases h
  | false => rw [hc] at h; exact ⟨by simpa using hc, h⟩
theorem RP.at (hp : RP bs v i) (h : geti A i = some x) (_ : bs.length = A.length) : ∃ b, v = .pointer (some ⟨b,0, none⟩) ∧ bs[i.toNat]? = some b ∧ A[i.toNat]? = some x := by
  obtain ⟨h1, h2⟩ := zkp h
  rcases hp with ⟨rfl, _⟩ | ⟨b, g1, g2, g3⟩
  · simp at h1
  · exact ⟨b, g1, g3, h2⟩
end
section
variable {α : Type} {S : NSh α} {P : Program} {f f' : Fz} {bs bs' : List Nat} {A A' : List α} {H : List Nat} {L0 L L' X : List Ent} {v : Value} {i : Int} {j : Nat} {x : α} {b : Nat} {l : List Ent}
variable {w0 w w' : World} {n m : Nat} {E E' : List (Nat × Value)} {a : Act}
variable {ops : Array Oper} {rst : List Oper} {o : Oper} {K : AP} {C : World → Prop} {op : Op}
variable {d : Option Tmp} {ty : TypeId} {pos : String} {af : Array Edge} {g : Option (Nat × Bool)}
theorem St.perm (hs : St n w0 f L E a w) (hp : L.Perm L') : St n w0 f L' E a w := ⟨hs.ev, hs.cw.perm hp⟩
theorem AR.focus (X : List Ent) (h : AR S f bs A H L0 L) (hs : St n w0 f (X ++ L) E a w) (hx : focM A H i = some x) (hp : RP bs v i) :
    ∃ b l L1, v = .pointer (some ⟨b,0, none⟩) ∧ RP bs (.pointer (some ⟨b,0, none⟩)) i ∧ S.R f bs b x l ∧ AR S f bs A (i.toNat :: H) L0 L1 ∧ St n w0 f (l ++ (X ++ L1)) E a w := by
  obtain ⟨h1, h2, G, h3, h4⟩ := h
  obtain ⟨hh, hg⟩ := ziv hx
  obtain ⟨b, rfl, hb, hA⟩ := hp.at hg h1
  have hlt : i.toNat < A.length := (List.getElem?_eq_some_iff.1 hA).1
  refine ⟨b, G i.toNat,(rest A.length (i.toNat :: H)).flatMap G ++ L0, rfl, hp, h3 _ _ _ hh hA hb, ⟨h1, h2, G, fun k y c g1 g2 g3 => h3 k y c (fun q => g1 (List.mem_cons_of_mem _ q)) g2 g3, .refl _⟩, hs.perm ?_⟩
  have p1 : L.Perm (G i.toNat ++ ((rest A.length (i.toNat :: H)).flatMap G ++ L0)) := by
    refine h4.trans ?_
    rw [← List.append_assoc]
    refine List.Perm.append_right _ ?_
    exact (List.Perm.flatMap_right G (zov hlt hh)).trans (.of_eq (by simp))
  exact (p1.append_left X).trans (perm3 _ _ _)
theorem key_sep {X : List Ent} {o : Obj} (h : Cw w0 f (X ++ .blk b o :: L) w) (e : Ent) (he : e ∈ X ++ L) (hk : e.key = some b) : False := by
  have hp : (X ++ .blk b o :: L).Perm (.blk b o :: (X ++ L)) := List.perm_middle
  have hc := h.perm hp
  obtain ⟨k, hk'⟩ := List.getElem?_of_mem he
  exact hc.sep 0 (k + 1) _ _ rfl (by simpa using hk') (by omega) b rfl hk
theorem AR.unfocus (X : List Ent) (h : AR S f bs A (j :: H) L0 L) (hs : St n w0 f (l ++ (X ++ L)) E a w) (hh : j ∉ H) (hb : RP bs (.pointer (some ⟨b,0, none⟩)) (j : Int)) (hR : S.R f bs b x l) :
    ∃ L1, AR S f bs (A.set j x) H L0 L1 ∧ St n w0 f (X ++ L1) E a w := by
  obtain ⟨h1, h2, G, h3, h4⟩ := h
  have hj : bs[j]? = some b := by
    rcases hb with ⟨q, _⟩ | ⟨c, q, _, r⟩
    · omega
    · cases q; simpa using r
  have hlt : j < A.length := by rw [← h1]; exact (List.getElem?_eq_some_iff.1 hj).1
  refine ⟨l ++ L, ⟨by simpa using h1, h2, fun k => if k = j then l else G k, fun k y c g1 g2 g3 => ?_, ?_⟩, hs.perm ?_⟩
  · by_cases hk : k = j
    · subst hk
      rw [List.getElem?_set_self hlt] at g2
      cases g2
      rw [hj] at g3
      cases g3
      simpa using hR
    · rw [List.getElem?_set_ne (by omega)] at g2
      simp only [hk, if_false]
      exact h3 k y c (by simp [hk, g1]) g2 g3
  · have e1 : (rest A.length (j :: H)).flatMap (fun k => if k = j then l else G k) = (rest A.length (j :: H)).flatMap G := by
      unfold List.flatMap
      congr 1
      refine List.map_congr_left fun k hk => ?_
      have : k ≠ j := by
        intro q; subst q
        simp [rest] at hk
      simp [this]
    refine ((h4.append_left l).trans ?_).trans ((List.Perm.flatMap_right _ (zov (by simpa using hlt) hh)).symm.append_right L0)
    rw [List.length_set, List.flatMap_cons, e1]
    simp
  · exact perm3 _ _ _
theorem AR.adopt (X : List Ent) (h : AR S f bs A [] L0 L) (hs : St n w0 f (l ++ (X ++ L)) E a w) (hR : S.R f (bs ++ [b]) b x l) :
    ∃ bs' L1, bs <+: bs' ∧ AR S f bs' (A ++ [x]) [] L0 L1 ∧ RP bs' (.pointer (some ⟨b,0, none⟩)) (A.length : Int) ∧ St n w0 f (X ++ L1) E a w := by
  obtain ⟨h1, h2, G, h3, h4⟩ := h
  obtain ⟨ocs, oe, l', rfl⟩ := S.key hR
  have hpre : bs <+: bs ++ [b] := List.prefix_append _ _
  have hnin : b ∉ bs := by
    intro hb
    obtain ⟨k, hk⟩ := List.getElem?_of_mem hb
    have hlt : k < A.length := by rw [← h1]; exact (List.getElem?_eq_some_iff.1 hk).1
    have hRk := h3 k A[k] b (by simp) (List.getElem?_eq_getElem hlt) hk
    obtain ⟨cs2, oe2, l2, e2⟩ := S.key hRk
    have hmem : Ent.blk b (.cells cs2 oe2 (0,0)) ∈ L := by
      rw [h4.mem_iff]
      refine List.mem_append_left _ (List.mem_flatMap.2 ⟨k, by simp [rest, hlt], ?_⟩)
      rw [e2]; simp
    exact key_sep (X := []) (by simpa using hs.cw) (.blk b (.cells cs2 oe2 (0,0))) (by simp [hmem]) rfl
  refine ⟨bs ++ [b],(.blk b (.cells ocs oe (0,0)) :: l') ++ L, hpre, ⟨by simp [h1], ?_, fun k => if k = A.length then .blk b (.cells ocs oe (0,0)) :: l' else G k, fun k y c _ g2 g3 => ?_, ?_⟩, .inr ⟨b, rfl, by omega, by simp [← h1]⟩, hs.perm ?_⟩
  · rw [List.nodup_append]
    refine ⟨h2, by simp, ?_⟩
    intro p hp q hq
    simp at hq; subst hq
    intro e; subst e; exact hnin hp
  · by_cases hk : k = A.length
    · subst hk
      rw [List.getElem?_append_right (Nat.le_refl _)] at g2
      rw [List.getElem?_append_right (by omega)] at g3
      simp [h1] at g2 g3
      subst g2; subst g3
      simpa using hR
    · have hlt : k < A.length := by
        have := (List.getElem?_eq_some_iff.1 g2).1
        simp at this; omega
      rw [List.getElem?_append_left hlt] at g2
      rw [List.getElem?_append_left (by omega)] at g3
      simp only [hk, if_false]
      exact S.mono (h3 k y c (by simp) g2 g3) (Fz.le.refl _) hpre
  · have e0 : rest (A ++ [x]).length [] = rest A.length [] ++ [A.length] := by
      simp [rest, List.range_succ]
    have e1 : (rest A.length []).flatMap (fun k => if k = A.length then .blk b (.cells ocs oe (0,0)) :: l' else G k) = (rest A.length []).flatMap G := by
      unfold List.flatMap
      congr 1
      refine List.map_congr_left fun k hk => ?_
      have : k ≠ A.length := by
        intro q; subst q
        simp [rest] at hk
      simp [this]
    rw [e0, List.flatMap_append, e1]
    refine (h4.append_left _).trans ?_
    rw [← List.append_assoc]
    refine List.Perm.append_right _ ?_
    refine List.perm_append_comm.trans (.of_eq ?_)
    simp
  · exact perm3 _ _ _
theorem AR.drop (X : List Ent) (h : AR S f bs A H L0 L) (hs : St n w0 f (X ++ L) E a w) : St n w0 f (X ++ L0) E a w := by
  obtain ⟨h1, h2, G, h3, h4⟩ := h
  exact (hs.perm (h4.append_left X)).subL ((List.Sublist.refl _).append (List.sublist_append_right _ _))
def DoesA (S : NSh α) (P : Program) (fn : FuncId) (args : List Value) (f : Fz) (Lr : List Ent) (bs : List Nat) (A A' : List α) (R : Value → Fz → List Nat → List Ent → Prop) : Prop :=
  ∀ w0 L0 L w, AR S f bs A [] L0 L → Cw w0 f (Lr ++ L) w → Calls P fn args.toArray w fun e w' =>
    ∃ v f' bs' L' LA, e = .returned v ∧ Fz.le f f' ∧ bs <+: bs' ∧ AR S f' bs' A' [] L0 LA ∧ Cw w0 f' (L' ++ LA) w' ∧ R v f' bs' L'
theorem DoesA.at {fn : FuncId} {args : List Value} {Lr : List Ent} {R : Value → Fz → List Nat → List Ent → Prop} (hp : DoesA S P fn args f Lr bs A A' R) (h : AR S f bs A [] L0 L) (hC : Cw w0 f (Lr ++ (X ++ L)) w) :
    Calls P fn args.toArray w fun e w' => ∃ v f' bs' L' LA, e = .returned v ∧ Fz.le f f' ∧ bs <+: bs' ∧ AR S f' bs' A' [] L0 LA ∧ Cw w0 f' (L' ++ (X ++ LA)) w' ∧ R v f' bs' L' := by
  obtain ⟨h1, h2, G, h3, h4⟩ := h
  refine (hp w0 (X ++ L0) (X ++ L) w ⟨h1, h2, G, h3, ?_⟩ hC).mono ?_
  · exact (h4.append_left X).trans (perm3 _ _ _)
  · rintro e w' ⟨v, f', bs', L', LA, rfl, g1, g2, ⟨k1, k2, G', k3, k4⟩, g4, g5⟩
    refine ⟨v, f', bs', L', (rest A'.length []).flatMap G' ++ L0, rfl, g1, g2, ⟨k1, k2, G', k3, .refl _⟩, g4.perm (List.Perm.append_left _ ?_), g5⟩
    exact k4.trans (perm3 _ _ _)
theorem zl4 {gn : FuncId} {y : Operand} {cap : Array Value} {as : List Operand} {vs : List Value} {ats : Array TypeId} {Lr : List Ent} {R : Value → Fz → List Nat → List Ent → Prop} (X : List Ent) (hA : AR S f bs A [] L0 L) (hs : St n w0 f (Lr ++ (X ++ L)) E a w) {dd : Nat}
    (hx : opv E y = some (.func (.func gn) #[] cap)) (hg : Has P gn) (hv : as.mapM (opv E) = some vs) (hp : DoesA S P gn (vs ++ cap.toList) f Lr bs A A' R)
    (hw : Want ops E ⟨some dd, .call { callee := .value y, args := as.toArray, argTypes := ats }, ty, pos, af, g⟩ true) (hd : dd < n)
    (h : ∀ v f' bs' L' LA a w, Fz.le f f' → bs <+: bs' → AR S f' bs' A' [] L0 LA → R v f' bs' L' → St n w0 f' (L' ++ (X ++ LA)) ((dd, v) :: E) a w → RL P ops rst K a w) :
    RL P ops (⟨some dd, .call { callee := .value y, args := as.toArray, argTypes := ats }, ty, pos, af, g⟩ :: rst) K a w := by
  refine zjg fun K' hK' => ?_
  rw [if_pos (hw.wanted hs.ev)]
  unfold opS
  rw [zi1 hs.ev hx hg hv]
  have := hp.at hA hs.cw
  rw [show (vs ++ cap.toList).toArray = vs.toArray ++ cap from by simp] at this
  refine this.mono ?_
  rintro e w' ⟨v, f', bs', L', LA, rfl, h1, h2, h3, h4, h5⟩
  exact ⟨v, rfl, hK' _ _ (h v f' bs' L' LA _ _ h1 h2 h3 h5 ⟨hs.ev.put hd v, h4⟩)⟩
theorem zp5 {t u : TypeId} (ht : P.underlying t = some (.pointer u)) (hp : RP bs v i) (w : World) : (Op.equal t v (.pointer none)).run P w = .ok (decide (i = -1)) w := by
  rcases hp with ⟨rfl, rfl⟩ | ⟨b, rfl, h2, _⟩
  · exact zha (fun d => by simp [Op.equalIn, run_underlying ht]) rfl
  · have : ¬ i = -1 := by omega
    simp only [this, decide_false]
    exact zha (fun d => by simp [Op.equalIn, run_underlying ht]) rfl
theorem y_apnil {p q : Operand} {t t' u : TypeId} (hx : opv E p = some v) (hy : opv E q = some (.pointer none)) (hp : RP bs v i) (ht : P.underlying t = some (.pointer u)) :
    Y P C n E ⟨d, .binOp .eql t p q t', ty, pos, af, g⟩ (.bool (decide (i = -1))) :=
  .of fun a ha w _ => by
    simp only [execOp, ha.eval hx, ha.eval hy, eqGuard, binOp, Sem.run_bind, Sem.run_pure, zp5 ht hp, Result.andThen_ok]
    rfl
theorem zpl {p q : Operand} {t t' u : TypeId} (hx : opv E p = some v) (hy : opv E q = some (.pointer none)) (hp : RP bs v i) (ht : P.underlying t = some (.pointer u)) :
    Y P C n E ⟨d, .binOp .neq t p q t', ty, pos, af, g⟩ (.bool (!decide (i = -1))) :=
  .of fun a ha w _ => by
    simp only [execOp, ha.eval hx, ha.eval hy, eqGuard, binOp, Sem.run_bind, Sem.run_pure, zp5 ht hp, Result.andThen_ok]
    rfl
theorem y_max2 {t1 t2 : TypeId} {x y : Operand} {k : IntKind} {i j : Int} (hx : opv E x = some (.int k i)) (hy : opv E y = some (.int k j)) :
    Y P C n E ⟨d, .call { callee := .builtin .max, args := #[x, y], argTypes := #[t1, t2] }, ty, pos, af, g⟩ (.int k (bif decide (i < j) then j else i)) :=
  .of fun a ha w _ => by
    by_cases h : i < j <;> simp [execOp, resolve, invoke, builtin, ha.eval hx, ha.eval hy, Builtin.max_, Builtin.max2, h]
end
end
section
open Go.RowKit
section
variable {α : Type} {S : NSh α} {P : Program} {f f' : Fz} {bs bs' : List Nat} {A A' : List α} {H : List Nat} {L0 L L' X : List Ent} {v : Value} {i : Int} {j : Nat} {x : α} {b : Nat} {l : List Ent}
variable {w0 w w' : World} {n m : Nat} {E E' : List (Nat × Value)} {a : Act}
def setM {α : Type} (A : List α) (i : Int) (x : α) : List α := A.set i.toNat x
theorem RP.ptr (hp : RP bs v i) (hx : focM A H i = some x) : ∃ b, v = .pointer (some ⟨b,0, none⟩) := by
  rcases hp with ⟨rfl, _⟩ | ⟨b, g, _⟩
  · have := (zkp (ziv hx).2).1
    simp at this
  · exact ⟨b, g⟩
theorem AR.focusP (X : List Ent) (h : AR S f bs A H L0 L) (hs : St n w0 f (X ++ L) E a w) (hx : focM A H i = some x) (hp : RP bs (.pointer (some ⟨b,0, none⟩)) i) :
    ∃ l L1, S.R f bs b x l ∧ AR S f bs A (i.toNat :: H) L0 L1 ∧ St n w0 f (l ++ (X ++ L1)) E a w := by
  obtain ⟨b', l, L1, e, _, h2, h3, h4⟩ := AR.focus X h hs hx hp
  cases e
  exact ⟨l, L1, h2, h3, h4⟩
theorem AR.unfocusI (X : List Ent) (h : AR S f bs A (i.toNat :: H) L0 L) (hs : St n w0 f (l ++ (X ++ L)) E a w) (hh : i.toNat ∉ H) (hb : RP bs (.pointer (some ⟨b,0, none⟩)) i) (hR : S.R f bs b x l) :
    ∃ L1, AR S f bs (setM A i x) H L0 L1 ∧ St n w0 f (X ++ L1) E a w := by
  refine AR.unfocus X h hs hh ?_ hR
  rcases hb with ⟨_, q⟩ | ⟨c, q, h0, r⟩
  · cases q
  · cases q
    exact .inr ⟨b, rfl, by omega, by rw [Int.toNat_natCast]; exact r⟩
theorem AR.unfocusS (X : List Ent) (h : AR S f bs A (i.toNat :: H) L0 L) (hs : St n w0 f (l ++ (X ++ L)) E a w) (hx : focM A H i = some x) (hb : RP bs (.pointer (some ⟨b,0, none⟩)) i) (hR : S.R f bs b x l) :
    ∃ L1, AR S f bs A H L0 L1 ∧ St n w0 f (X ++ L1) E a w := by
  have := AR.unfocusI X h hs (ziv hx).1 hb hR
  have e : setM A i x = A := by
    have h2 := (zkp (ziv hx).2).2
    unfold setM
    apply List.ext_getElem?
    intro k
    rw [List.getElem?_set]
    split
    · subst_vars
      split
      · exact h2.symm
      · rename_i hlt
        rw [List.getElem?_eq_none (by omega)]
    · rfl
  rwa [e] at this
theorem AR.peek (h : AR S f bs A H L0 L) (hx : focM A H i = some x) (hp : RP bs v i) : ∃ b, v = .pointer (some ⟨b,0, none⟩) ∧ ∃ l, S.R f bs b x l ∧ ∀ e ∈ l, e ∈ L := by
  obtain ⟨h1, h2, G, h3, h4⟩ := h
  obtain ⟨hh, hg⟩ := ziv hx
  obtain ⟨b, rfl, hb, hA⟩ := hp.at hg h1
  have hlt : i.toNat < A.length := (List.getElem?_eq_some_iff.1 hA).1
  refine ⟨b, rfl, G i.toNat, h3 _ _ _ hh hA hb, fun e he => ?_⟩
  rw [h4.mem_iff]
  exact List.mem_append_left _ (List.mem_flatMap.2 ⟨_, by simp [rest, hlt, hh], he⟩)
theorem AR.app (X : List Ent) (h : AR S f bs A H L0 L) : AR S f bs A H (X ++ L0) (X ++ L) := by
  obtain ⟨h1, h2, G, h3, h4⟩ := h
  exact ⟨h1, h2, G, h3,(h4.append_left X).trans (perm3 _ _ _)⟩
def DoesR (S : NSh α) (P : Program) (fn : FuncId) (args : List Value) (f : Fz) (Lr : List Ent) (bs : List Nat) (A : List α) (R : Value → Fz → List Ent → Prop) : Prop :=
  ∀ w0 L0 L w, AR S f bs A [] L0 L → Cw w0 f (Lr ++ L) w → Calls P fn args.toArray w fun e w' => ∃ v f' L', e = .returned v ∧ Fz.le f f' ∧ Cw w0 f' (L' ++ L) w' ∧ R v f' L'
def GivesR (S : NSh α) (P : Program) (fn : FuncId) (args : List Value) (f : Fz) (Lr : List Ent) (bs : List Nat) (A : List α) (v : Value) : Prop :=
  ∀ w0 L0 L w, AR S f bs A [] L0 L → Cw w0 f (Lr ++ L) w → Calls P fn args.toArray w fun e w' => e = .returned v ∧ Cw w0 f (Lr ++ L) w'
theorem GivesR.at {fn : FuncId} {args : List Value} {Lr X : List Ent} (h : GivesR S P fn args f Lr bs A v) (hA : AR S f bs A [] L0 L) (hp : L'.Perm (Lr ++ (X ++ L))) (hC : Cw w0 f L' w) : Calls P fn args.toArray w fun e w' => e = .returned v ∧ Cw w0 f L' w' :=
  (h w0 (X ++ L0) (X ++ L) w (hA.app X) (hC.perm hp)).mono fun _ _ ⟨h1, h2⟩ => ⟨h1, h2.perm hp.symm⟩
variable {ops : Array Oper} {rst : List Oper} {o : Oper} {K : AP} {C : World → Prop} {op : Op}
variable {d : Option Tmp} {ty : TypeId} {pos : String} {af : Array Edge} {g : Option (Nat × Bool)}
theorem zpk {gn : FuncId} {y : Operand} {cap : List Value} {as : List Operand} {vs : List Value} {ats : Array TypeId} {Lr X : List Ent} (hA : AR S f bs A [] L0 L) (hx : opv E y = some (.func (.func gn) #[] cap.toArray)) (hg : Has P gn) (hv : as.mapM (opv E) = some vs) (hL : L'.Perm (Lr ++ (X ++ L))) (hp : GivesR S P gn (vs ++ cap) f Lr bs A v) :
    Y P (Cw w0 f L') n E ⟨d, .call { callee := .value y, args := as.toArray, argTypes := ats }, ty, pos, af, g⟩ v := by
  intro a ha w hw
  unfold Oper.quietAt
  rw [zi1 ha hx hg hv]
  refine ⟨rfl, ?_⟩
  have := hp.at hA hL hw
  rw [List.append_toArray] at *
  simpa using this
theorem zgp {gn : FuncId} {y : Operand} {cap : Array Value} {as : List Operand} {vs : List Value} {ats : Array TypeId} {Lr : List Ent} {R : Value → Fz → List Ent → Prop} (X : List Ent) (hA : AR S f bs A [] L0 L) (hs : St n w0 f (Lr ++ (X ++ L)) E a w) {dd : Nat}
    (hx : opv E y = some (.func (.func gn) #[] cap)) (hg : Has P gn) (hv : as.mapM (opv E) = some vs) (hp : DoesR S P gn (vs ++ cap.toList) f Lr bs A R)
    (hw : Want ops E ⟨some dd, .call { callee := .value y, args := as.toArray, argTypes := ats }, ty, pos, af, g⟩ true) (hd : dd < n)
    (h : ∀ v f' L' a w, Fz.le f f' → R v f' L' → St n w0 f' (L' ++ (X ++ L)) ((dd, v) :: E) a w → RL P ops rst K a w) :
    RL P ops (⟨some dd, .call { callee := .value y, args := as.toArray, argTypes := ats }, ty, pos, af, g⟩ :: rst) K a w := by
  refine zjg fun K' hK' => ?_
  rw [if_pos (hw.wanted hs.ev)]
  unfold opS
  rw [zi1 hs.ev hx hg hv]
  have := hp w0 (X ++ L0) (X ++ L) w (hA.app X) hs.cw
  rw [show (vs ++ cap.toList).toArray = vs.toArray ++ cap from by simp] at this
  refine this.mono ?_
  rintro e w' ⟨v, f', L', rfl, h1, h4, h5⟩
  exact ⟨v, rfl, hK' _ _ (h v f' L' _ _ h1 h5 ⟨hs.ev.put hd v, h4⟩)⟩
theorem callsF {fn : FuncId} {args : List Value} {Lr Lf : List Ent} {r : Value} (hp : L.Perm (Lr ++ Lf)) (hC : Cw w0 f L w) (h : ∀ w, Cw w0 f (Lr ++ Lf) w → Calls P fn args.toArray w fun e w' => e = .returned r ∧ Cw w0 f (Lr ++ Lf) w') : Calls P fn args.toArray w fun e w' => e = .returned r ∧ Cw w0 f L w' :=
  (h w (hC.perm hp)).mono fun _ _ ⟨h1, h2⟩ => ⟨h1, h2.perm hp.symm⟩
end
end
section
open Go.RowKit
section
variable {P : Program} {f f' f0 : Fz} {L L' : List Ent} {w0 w w' : World} {n : Nat} {E E' : List (Nat × Value)} {a : Act}
variable {ops : Array Oper} {rest : List Oper} {o : Oper} {K : AP} {C : World → Prop}
variable {d : Option Tmp} {ty : TypeId} {pos : String} {af : Array Edge} {g : Option (Nat × Bool)}
end
end
section
open Go.RowKit
end
section
open Go.RowKit
section
variable {P : Program} {f f' : Fz} {L L' : List Ent} {w0 w w' : World} {n : Nat} {E E' : List (Nat × Value)} {a : Act}
variable {ops : Array Oper} {rest : List Oper} {o : Oper} {K : AP} {C : World → Prop}
variable {d : Option Tmp} {ty : TypeId} {pos : String} {af : Array Edge} {g : Option (Nat × Bool)}
end
end
section
open Go.RowKit
section
variable {P : Program} {f f' f0 : Fz} {L L' Lc : List Ent} {w0 w w' : World} {n m i : Nat} {E E' : List (Nat × Value)} {a : Act}
variable {ops : Array Oper} {rest : List Oper} {K : AP} {C : World → Prop}
variable {d : Option Tmp} {ty : TypeId} {pos : String} {af : Array Edge} {g : Option (Nat × Bool)} {v : Value} {dd : Nat}
theorem zqr {t : TypeId} {x : Operand} {td : TypeDesc} (hx : opv E x = some v) (ht : P.underlying t = some td) (hn : (match td with | .interface _ => false | _ => true) = true) : Y P C n E ⟨d, .makeInterface t x, ty, pos, af, g⟩ (.iface t v) :=
  .of fun a ha w _ => by
    have : (Instr.makeInterface t v).run P w = .ok (.iface t v) w := by
      unfold Instr.makeInterface
      cases td <;> first | (simp at hn; done) | simp [run_underlying ht]
    simp [execOp, ha.eval hx, this]
theorem zu7 {t t' : TypeId} {x : Operand} {ms : Array (String × TypeId)} (hx : opv E x = some .nilIface) (ht : P.underlying t = some (.interface ms)) : Y P C n E ⟨d, .binOp .neq t x (.const .nilIface) t', ty, pos, af, g⟩ (.bool false) :=
  .of fun a ha w _ => by
    have h : (Op.equal t .nilIface .nilIface).run P w = .ok true w := zha (fun d => by simp [Op.equalIn, run_underlying ht]) rfl
    have e : a.eval (.const .nilIface) = .nilIface := rfl
    simp [execOp, ha.eval hx, e, eqGuard, binOp, h]
theorem y_assert {t t' u : TypeId} {x : Operand} {ms : Array (String × TypeId)} {it : TypeInfo} (hx : opv E x = some (.iface u v)) (ht : P.underlying t' = some (.interface ms)) (hi : P.info? u = some it) (hm : Instr.missingMethod ms it.methods = none) :
    Y P C n E ⟨d, .typeAssert x t t' true, ty, pos, af, g⟩ (.tuple #[.iface u v, .bool true]) :=
  .of fun a ha w _ => by
    have : (Instr.typeAssert (.iface u v) t t' true).run P w = .ok (.tuple #[.iface u v, .bool true]) w := by
      simp [Instr.typeAssert, run_underlying ht, typeInfo, hi, hm]
    simp [execOp, ha.eval hx, this]
theorem zlj {t e : TypeId} {x ix : Operand} {b o len k by_ : Nat} {z : Value} {ik : IntKind} {i : Int} {j : Nat} (hx : opv E x = some (.pointer (some ⟨b, o, none⟩))) (hi : opv E ix = some (.int ik i)) (ht : P.underlying t = some (.array len e)) (hT : TI P e k by_ z)
    (hm : i = (j : Int)) (hb : j < len) : Y P C n E ⟨d, .indexAddr t x ix, ty, pos, af, g⟩ (.pointer (some ⟨b, o + j * k, none⟩)) :=
  .of fun a ha w _ => by
    subst hm
    obtain ⟨it, hit, _, hk, _⟩ := hT
    simp [execOp, ha.eval hx, ha.eval hi, Instr.indexAt, Instr.sureAddr, run_underlying ht, asIntOf, sizeOf, typeInfo, hit, hk, hb, add_lit]
theorem zun {e : TypeId} {td : TypeDesc} {cs : Array Value} {j : Nat} {u : Value} {w : World} (ht : P.underlying e = some td) (ha : Agg td = false) (hj : cs[j]? = some u) : (part e cs j).run P w = .ok u w := by
  cases td <;> first | (simp [Agg] at ha; done) | simp [part, isAgg, run_underlying ht, hj]
theorem y_ixAV {t e : TypeId} {x ix : Operand} {cs : Array Value} {len by_ : Nat} {z u : Value} {ik : IntKind} {i : Int} {j : Nat} {td : TypeDesc} (hx : opv E x = some (.agg cs)) (hi : opv E ix = some (.int ik i)) (ht : P.underlying t = some (.array len e)) (he : P.underlying e = some td) (ha : Agg td = false) (hT : TI P e 1 by_ z)
    (hm : i = (j : Int)) (hb : j < len) (hj : cs[j]? = some u) : Y P C n E ⟨d, .index t x ix, ty, pos, af, g⟩ u :=
  .of fun a ha' w _ => by
    subst hm
    obtain ⟨it, hit, _, hk, _⟩ := hT
    have h1 : (part e cs (((j : Int)).toNat * it.size)).run P w = .ok u w := by rw [hk, Int.toNat_natCast, Nat.mul_one]; exact zun he ha hj
    simp [execOp, ha'.eval hx, ha'.eval hi, Instr.index, run_underlying ht, asIntOf, sizeOf, typeInfo, hit, hb]
    rw [show j * it.size = ((j : Int)).toNat * it.size by simp, h1]
    rfl
theorem zsr {x : Operand} {nm : String} (hx : opv E x = some v) : Y P C n E ⟨d, .makeFunc (.method nm) #[x] #[], ty, pos, af, g⟩ (.func (.method nm) #[v] #[]) :=
  .of fun a ha w _ => by simp [execOp, ha.eval hx, Instr.makeFunc]
theorem zqq {x : Operand} {nm : String} {t : TypeId} (hx : opv E x = some (.func (.method nm) #[.iface t v] #[])) (hm : ∀ w,(nilAhead (P.types.size + Made.depth) t v nm).run P w = .ok (some false) w) : Y P C n E ⟨d, .nilCheck x, ty, pos, af, g⟩ (.func (.method nm) #[.iface t v] #[]) :=
  .of fun a ha w _ => by simp [execOp, ha.eval hx, hm]
theorem ztj {gn : FuncId} {x : Operand} {nm : String} {t : TypeId} {r : Value} {as : List Operand} {vs : List Value} {ats : Array TypeId} (hs : Ev n E a) (hx : opv E x = some (.iface t v)) (hm : ∀ w,(method (P.types.size + Made.depth) t v nm).run P w = .ok (gn, r) w) (hg : Has P gn) (hv : as.mapM (opv E) = some vs) :
    (execOp a.eval ⟨d, .call { callee := .invoke x nm, args := as.toArray, argTypes := ats }, ty, pos, af, g⟩).run P w = .ok (.enter gn (r :: vs).toArray) w := by
  have := evalArgs hs hv
  have e1 : as.toArray.map a.eval = vs.toArray := by simp [this]
  have e2 : (#[Value.iface t v] ++ vs.toArray).extract 1 (#[Value.iface t v] ++ vs.toArray).size = vs.toArray := by
    apply Array.ext_getElem?; intro i; simp
  have h3 : (callFunc gn (r :: vs).toArray).run P w = .ok (.enter gn (r :: vs).toArray) w := zi7 hg
  simp only [execOp, resolve, invoke, Sem.run_bind, Sem.run_pure, Result.andThen_ok, hs.eval hx, e1, callMethod]
  rw [e2]
  simp [hm, h3]
theorem zmh {gn : FuncId} {x : Operand} {nm : String} {t : TypeId} {r : Value} {as : List Operand} {vs : List Value} {ats : Array TypeId} {Lr Lf : List Ent} {R : Value → Fz → List Ent → Prop} (hs : St n w0 f L E a w)
    (hx : opv E x = some (.iface t v)) (hm : ∀ w,(method (P.types.size + Made.depth) t v nm).run P w = .ok (gn, r) w) (hg : Has P gn) (hv : as.mapM (opv E) = some vs) (hL : L = Lr ++ Lf) (hp : Does P gn (r :: vs) f Lr R)
    (hw : Want ops E ⟨some dd, .call { callee := .invoke x nm, args := as.toArray, argTypes := ats }, ty, pos, af, g⟩ true) (hd : dd < n)
    (h : ∀ v f' L' a w, Fz.le f f' → R v f' L' → St n w0 f' (L' ++ Lf) ((dd, v) :: E) a w → RL P ops rest K a w) :
    RL P ops (⟨some dd, .call { callee := .invoke x nm, args := as.toArray, argTypes := ats }, ty, pos, af, g⟩ :: rest) K a w := by
  refine zjg fun K' hK' => ?_
  rw [if_pos (hw.wanted hs.ev)]
  unfold opS
  rw [ztj hs.ev hx hm hg hv]
  subst hL
  refine (hp w0 Lf w hs.cw).mono ?_
  rintro e w' ⟨v, f', L', rfl, h1, h2, h3⟩
  exact ⟨v, rfl, hK' _ _ (h v f' L' _ _ h1 h3 ⟨hs.ev.put hd v, h2⟩)⟩
structure ExtF (P : Program) (gn : FuncId) (h : Array Value → Sem Value) : Prop where
  ex : ∃ fn, P.funcs[gn]? = some fn ∧ (fn.name == "runtime.NumGoroutine") = false ∧ fn.body.isNone = true ∧ Extern.findNext fn = none ∧ Extern.find fn = some h
theorem y_atLoad {gn : FuncId} {k : IntKind} {x y : Operand} {ats : Array TypeId} {b o : Nat} {i : Int} (hF : ExtF P gn (Extern.Atomic.loadT (.int k))) (hx : opv E x = some (.func (.func gn) #[] #[])) (hy : opv E y = some (.pointer (some ⟨b, o, none⟩))) (hc : Cell f L b o (.int k i)) :
    Y P (Cw w0 f L) n E ⟨d, .call { callee := .value x, args := #[y], argTypes := ats }, ty, pos, af, g⟩ (.int k i) :=
  .of fun a ha w hw => by
    obtain ⟨fn, h1, h2, h3, h4, h5⟩ := hF.ex
    have := run_call_load (P := P) h1 h2 h3 h4 k h5 (hc.cell? hw)
    simp [execOp, resolve, ha.eval hx, ha.eval hy, Deferred.ofValue, invoke, this]
theorem zpi {gn : FuncId} {m : Mark} {x : Operand} {ats : Array TypeId} (hF : ExtF P gn (fun _ => do mark m; pure Extern.Race.none_)) (hx : opv E x = some (.func (.func gn) #[] #[])) :
    Y P C n E ⟨d, .call { callee := .value x, args := #[], argTypes := ats }, ty, pos, af, g⟩ (.tuple #[]) :=
  .of fun a ha w hw => by
    obtain ⟨fn, h1, h2, h3, h4, h5⟩ := hF.ex
    have := run_call_mark0 (P := P) h1 h2 h3 h4 m h5 w
    simp [execOp, resolve, ha.eval hx, Deferred.ofValue, invoke, this]
theorem zss {gn : FuncId} {m : Addr → Mark} {x y : Operand} {ats : Array TypeId} {p : Addr} (hF : ExtF P gn (Extern.Race.marked m)) (hx : opv E x = some (.func (.func gn) #[] #[])) (hy : opv E y = some (.pointer (some p))) :
    Y P C n E ⟨d, .call { callee := .value x, args := #[y], argTypes := ats }, ty, pos, af, g⟩ (.tuple #[]) :=
  .of fun a ha w hw => by
    obtain ⟨fn, h1, h2, h3, h4, h5⟩ := hF.ex
    have := run_call_marked (P := P) h1 h2 h3 h4 m h5 p w
    simp [execOp, resolve, ha.eval hx, ha.eval hy, Deferred.ofValue, invoke, this]
theorem zng {t u q : TypeId} {x : Operand} {b o : Nat} {k by_ : Nat} {z cv : Value} (hx : opv E x = some (.pointer (some ⟨b, o, none⟩))) (ht : P.underlying t = some (.pointer q)) (hu : P.underlying u = some .unsafePointer) (hT : TI P q k by_ z) (hk : k ≠ 0) (hc : Cell f L b o cv) :
    Y P (Cw w0 f L) n E ⟨d, .convert t u x, ty, pos, af, g⟩ (.pointer (some ⟨b, o, none⟩)) :=
  .of fun a ha w hw => by
    obtain ⟨it, hit, _, hk', _⟩ := hT
    have h := run_convert_to_unsafe (P := P) ht hu (by rw [hit]; simp [hk', hk]) (hc.cell? hw)
    simp only [execOp, ha.eval hx, Sem.run_bind, h, Result.andThen_ok, Sem.run_pure]
theorem zob {gn : FuncId} {x : Operand} {as : List Operand} {vs : List Value} {ats : Array TypeId} {u new : Value} {b o i : Nat} {cs cs' : Array Value} {e : TypeId} (hs : St n w0 f L E a w) (hi : L[i]? = some (.blk b (.cells cs e (0,0))))
    (hx : opv E x = some (.func (.func gn) #[] #[])) (hv : as.mapM (opv E) = some vs) (ho : o < cs.size)
    (hr : ∀ w : World, w.cell? ⟨b, o, none⟩ = some (cs[o]'ho) → w.frozen? ⟨b, o, none⟩ = false → (callFunc gn vs.toArray).run P w = .ok (.value u) (w.setCell ⟨b, o, none⟩ new)) (hc' : cs.setIfInBounds o new = cs')
    (hw : Want ops E ⟨some dd, .call { callee := .value x, args := as.toArray, argTypes := ats }, ty, pos, af, g⟩ true) (hd : dd < n)
    (h : ∀ a w, St n w0 f (L.set i (.blk b (.cells cs' e (0,0)))) ((dd, u) :: E) a w → RL P ops rest K a w) :
    RL P ops (⟨some dd, .call { callee := .value x, args := as.toArray, argTypes := ats }, ty, pos, af, g⟩ :: rest) K a w := by
  have hlive : w.heap[b]? = some (.cells cs e (0,0)) := hs.cw.live _ (List.mem_of_getElem? hi)
  have hcell : w.cell? ⟨b, o, none⟩ = some (cs[o]'ho) := by simp [World.cell?, hlive, ho]
  have := evalArgs hs.ev hv
  have e1 : as.toArray.map a.eval = vs.toArray := by simp [this]
  refine RL_v hs hw (.to rfl hd) (v := u) (w' := w.setCell ⟨b, o, none⟩ new) (f' := f) (L' := L.set i (.blk b (.cells cs' e (0,0)))) ?_ ?_ h
  · simp [execOp, resolve, hs.ev.eval hx, Deferred.ofValue, invoke, e1, hr w hcell (Cell.free hlive)]
  · subst hc'
    exact hs.cw.repl hi (Grew.setCell w ⟨b, o, none⟩ new) (heap_setCell_same w b o cs e new hlive) (fun b' hb => .inl hb)
end
end
section
open Go.RowKit
section
variable {P : Program} {f f' : Fz} {L : List Ent} {w0 w : World} {n : Nat} {E : List (Nat × Value)} {a : Act} {fn : Func} {R : Ending → World → Prop} {M : List Deferred} {K : AP}
def WD (P : Program) (fn : Func) (R : Ending → World → Prop) (M : List Deferred) (c : Code) : AP := fun a w => c.wpIn (wideR none) 0 P (bodyPostD P fn R) (withM M a) w
theorem enterDf {gn : FuncId} {c : Code} {args : List Value} (hf : P.funcs[gn]? = some fn) (hb : fn.body = some c) (hn : fn.ntmps = n) (hl : args.length ≤ n) (hC : Cw w0 f L w)
    (h : ∀ a, St n w0 f L (argEnv 0 args) a w → WD P fn R [] c a w) : Calls P gn args.toArray w R := by
  refine calls_of_wp_defers hf hb (wpIn_wide (n := 0).1 (h { tmps := args.toArray ++ Array.replicate (fn.ntmps - args.toArray.size) undef, defers := [] } ⟨⟨?_, rfl, ?_⟩, hC⟩))
  · simp; omega
  · intro t v ht
    obtain ⟨_, h2⟩ := zk1 args 0 t v ht
    simp only [Nat.sub_zero] at h2
    have hlt : t < args.length := (List.getElem?_eq_some_iff.1 h2).1
    rw [Array.getElem?_append_left (by simpa using hlt)]
    simpa using h2
theorem enterCD {gn : FuncId} {c : Code} {args : List Value} {u : FrameMode} (hf : P.funcs[gn]? = some fn) (hb : fn.body = some c) (hn : fn.ntmps = n) (hl : args.length ≤ n) (hC : Cw w0 f L w)
    (h : ∀ a, St n w0 f L (argEnv 0 args) a w → W P c (Rt P fn R) (fun _ _ _ => False) (Rt P fn R) (fun _ _ _ => False) a w) : CallsD P gn args.toArray u w fun e u' w' => u' = u ∧ R e w' := by
  refine callsD_of_wp hf hb (wpIn_wide (n := 0).1 (wpIn_mono (h { tmps := args.toArray ++ Array.replicate (fn.ntmps - args.toArray.size) undef, defers := [] } ⟨⟨?_, rfl, ?_⟩, hC⟩ none []) fun e a w q => ?_))
  · simp; omega
  · intro t v ht
    obtain ⟨_, h2⟩ := zk1 args 0 t v ht
    simp only [Nat.sub_zero] at h2
    have hlt : t < args.length := (List.getElem?_eq_some_iff.1 h2).1
    rw [Array.getElem?_append_left (by simpa using hlt)]
    simpa using h2
  · obtain ⟨b, rfl, q⟩ := q
    cases e <;> first | exact ⟨rfl, q.2⟩ | exact q.elim
def RD (P : Program) (fn : Func) (R : Ending → World → Prop) (M : List Deferred) : AP := fun b w => Leaves P fn b.tmps R M .returning w
theorem WD_seq {x y : Code} (h : ∀ K : AP,(∀ b w, WD P fn R M y b w → K b w) → W P x K (fun _ _ _ => False) (RD P fn R M) (fun _ _ _ => False) a w) : WD P fn R M (.seq x y) a w :=
  wpIn_seq (wpIn_mono (h _ (fun _ _ h => h) none M) fun e b w q => by
    obtain ⟨b, rfl, q⟩ := q
    cases e <;> first | exact q | exact q.elim)
theorem WD_end {x : Code} (h : W P x (RD P fn R M) (fun _ _ _ => False) (RD P fn R M) (fun _ _ _ => False) a w) : WD P fn R M x a w :=
  wpIn_mono (h none M) fun e b w q => by
    obtain ⟨b, rfl, q⟩ := q
    cases e <;> first | exact q | exact q.elim
theorem zvv {Q : Exit → AP} {ops : Array Oper} {rest : List Oper} (hK : ∀ b w, K b w → wpListIn (wideR none) 0 P ops Q rest (withM M b) w) : ∀ {l : List Oper} {a : Act} {w : World}, RLd P ops l K a w → wpListIn (wideR none) 0 P ops Q (l ++ rest) (withM M a) w
  | [], a, w, h => hK a w h
  | o :: l, a, w, h => by
    unfold RLd at h
    rw [List.cons_append]
    unfold wpListIn
    show if Region.wanted o (yielded ops a.tmps) then _ else _
    split
    · rename_i hw
      rw [if_pos hw] at h
      exact zus (fun a w h => zvv hK h) h
    · rename_i hw
      rw [if_neg hw] at h
      refine ⟨fun _ _ => trivial, ?_⟩
      rw [zi4]
      exact zvv hK h
theorem WD_defer {id : Nat} {l : List Oper} {o : Oper} {y : Code} {cl : Call} (ho : o.op = .defer cl) (hg : o.guard = none) (h : RL P (l ++ [o]).toArray l (fun b w => ∃ d,(resolve b.eval cl o.type).run P w = .ok d w ∧ WD P fn R (d :: M) y (b.put o.dst undef) w) a w) :
    WD P fn R M (.seq (.region id (l ++ [o]).toArray false) y) a w := by
  refine wpIn_seq (wpIn_region_lit (zvv (fun b w hb => ?_) h.d))
  obtain ⟨d, h1, h2⟩ := hb
  obtain ⟨dst, op, ty, pos, af, g⟩ := o
  simp only at ho hg
  subst ho hg
  unfold wpListIn
  show if Region.wanted _ _ then _ else _
  rw [if_pos (by simp [Region.wanted])]
  refine ⟨fun _ _ => trivial, ?_⟩
  have hx : (Oper.semAt (wideR none).round b.eval ⟨dst, .defer cl, ty, pos, af, none⟩).run P w = .ok (.defer d) w := by
    show (execOp b.eval ⟨dst, .defer cl, ty, pos, af, none⟩).run P w = _
    simp only at h1
    simp [execOp, h1]
  show Oper.uponIn (wideR none) 0 P _ (withM M b) _ _ ((Oper.semAt (wideR none).round b.eval ⟨dst, .defer cl, ty, pos, af, none⟩).run P w)
  rw [hx, Oper.uponIn_defer]
  have : ({ withM M b with defers := d :: (withM M b).defers }.put dst undef) = withM (d :: M) (b.put dst undef) := by rw [← zi4]; rfl
  rw [this]
  exact h2
theorem zrx {id : Nat} {ops : List Oper} {o : Oper} {y : Code} {cl : Call} (hl : ops.getLast? = some o) (ho : o.op = .defer cl) (hg : o.guard = none) (h : RL P ops.toArray ops.dropLast (fun b w => ∃ d,(resolve b.eval cl o.type).run P w = .ok d w ∧ WD P fn R (d :: M) y (b.put o.dst undef) w) a w) :
    WD P fn R M (.seq (.region id ops.toArray false) y) a w := by
  have hsp : ops.dropLast ++ [o] = ops := by
    have hne : ops ≠ [] := fun e => by rw [e] at hl; cases hl
    have := List.dropLast_concat_getLast hne
    rw [List.getLast?_eq_some_getLast hne] at hl
    cases hl; exact this
  have key := WD_defer (id := id) (l := ops.dropLast) (y := y) (M := M) (R := R) (fn := fn) (P := P) (a := a) (w := w) ho hg
  rw [hsp] at key
  exact key h
theorem WD_condT {c : Operand} {x y : Code} (hs : St n w0 f L E a w) (hc : opv E c = some (.bool true)) (h : WD P fn R M x a w) : WD P fn R M (.cond c x y) a w :=
  wpIn_cond (t := true) (show (withM M a).eval c = .bool true from hs.ev.eval hc) h
theorem zow {gn : FuncId} {x : Operand} {as : List Operand} {vs : List Value} {ats : Array TypeId} {ty : TypeId} (hs : Ev n E a) (hx : opv E x = some (.func (.func gn) #[] #[])) (hv : as.mapM (opv E) = some vs) :
    (resolve a.eval { callee := .value x, args := as.toArray, argTypes := ats } ty).run P w = .ok { target := .fn (.func gn) #[], args := vs.toArray } w := by
  have := evalArgs hs hv
  have e1 : as.toArray.map a.eval = vs.toArray := by simp [this]
  simp [resolve, hs.eval hx, Deferred.ofValue, e1]
variable {ops : Array Oper} {rest : List Oper} {ty : TypeId} {pos : String} {af : Array Edge} {g : Option (Nat × Bool)} {dd : Nat}
theorem RL_callF {gn : FuncId} {x : Operand} {fs : List Value} {as : List Operand} {vs : List Value} {ats : Array TypeId} {Lr Lf : List Ent} {Q : Value → Fz → List Ent → Prop} (hs : St n w0 f L E a w)
    (hx : opv E x = some (.func (.func gn) fs.toArray #[])) (hg : Has P gn) (hv : as.mapM (opv E) = some vs) (hL : L = Lr ++ Lf) (hp : Does P gn (fs ++ vs) f Lr Q)
    (hw : Want ops E ⟨some dd, .call { callee := .value x, args := as.toArray, argTypes := ats }, ty, pos, af, g⟩ true) (hd : dd < n)
    (h : ∀ v f' L' a w, Fz.le f f' → Q v f' L' → St n w0 f' (L' ++ Lf) ((dd, v) :: E) a w → RL P ops rest K a w) :
    RL P ops (⟨some dd, .call { callee := .value x, args := as.toArray, argTypes := ats }, ty, pos, af, g⟩ :: rest) K a w := by
  refine zjg fun K' hK' => ?_
  rw [if_pos (hw.wanted hs.ev)]
  unfold opS
  have := evalArgs hs.ev hv
  have e1 : as.toArray.map a.eval = vs.toArray := by simp [this]
  have hr : (execOp a.eval ⟨some dd, .call { callee := .value x, args := as.toArray, argTypes := ats }, ty, pos, af, g⟩).run P w = .ok (.enter gn (fs ++ vs).toArray) w := by
    simp [execOp, resolve, hs.ev.eval hx, Deferred.ofValue, invoke, zi7 hg, e1]
  rw [hr]
  subst hL
  refine (hp w0 Lf w hs.cw).mono ?_
  rintro e w' ⟨v, f', L', rfl, h1, h2, h3⟩
  exact ⟨v, rfl, hK' _ _ (h v f' L' _ _ h1 h3 ⟨hs.ev.put hd v, h2⟩)⟩
end
end
section
open Go.RowKit
section
variable {P : Program} {C : World → Prop} {n : Nat} {E : List (Nat × Value)} {d : Option Tmp} {ty : TypeId} {pos : String} {af : Array Edge} {g : Option (Nat × Bool)}
theorem znh {t t' e : TypeId} {x : Operand} {ao : Option Addr} {m c : Nat} (hx : opv E x = some (.slice ao m c)) (ht : P.underlying t = some (.slice e)) : Y P C n E ⟨d, .binOp .neq t x (.const (.slice none 0 0)) t', ty, pos, af, g⟩ (.bool ao.isSome) :=
  .of fun a ha w _ => by
    have h : (Op.equal t (.slice ao m c) (.slice none 0 0)).run P w = .ok ao.isNone w := zha (fun d => by cases ao <;> simp [Op.equalIn, run_underlying ht]) rfl
    have e : a.eval (.const (.slice none 0 0)) = .slice none 0 0 := rfl
    simp [execOp, ha.eval hx, e, eqGuard, binOp, h]
end
end
section
open Go.RowKit
variable {P : Program} {w0 w w' : World} {f f' : Fz} {L L' : List Ent}
theorem Grew.below (b : Below w.heap.size w w') : Grew w w' none := ⟨b.os, b.tape, b.output, b.size, fun k hk _ => b.block k hk⟩
theorem Cw.grown (h : Cw w0 f L w) (b : Below w.heap.size w w') : Cw w0 f L w' := h.step (Grew.below b)
theorem Gives.of {fn : FuncId} {args : List Value} {v : Value} (h : ∀ w0 L w, Cw w0 f L w → Calls P fn args.toArray w fun e w' => e = .returned v ∧ Below w.heap.size w w') : Gives P fn args f v :=
  fun w0 L w hC => (h w0 L w hC).mono fun _ _ ⟨he, hb⟩ => ⟨he, hC.grown hb⟩
end
section
open Go.RowKit
section
variable {P : Program} {f : Fz} {L : List Ent} {w0 w : World} {n : Nat} {E : List (Nat × Value)} {a : Act}
variable {ops : Array Oper} {rest : List Oper} {K Qn Qr : AP} {Qe Qg : Nat → AP}
variable {ty : TypeId} {pos : String} {af : Array Edge}
/-! Shorter forms: what is bound is implicit. -/
theorem s1 {v : Value} {dd : Nat} {op : Op} (hs : St n w0 f L E a w) (hy : Y P (Cw w0 f L) n E ⟨some dd, op, ty, pos, af, none⟩ v) (h : ∀ {a w}, St n w0 f L ((dd, v) :: E) a w → RL P ops rest K a w) (hd : dd < n := by decide) :
    RL P ops (⟨some dd, op, ty, pos, af, none⟩ :: rest) K a w := sy hs hy (fun _ _ h' => h h') hd
theorem sM {v : Value} {dd : Nat} {x : Operand} (hs : St n w0 f L E a w) (hx : opv E x = some v) (h : ∀ {a w}, St n w0 f L ((dd, v) :: E) a w → RL P ops rest K a w) (hd : dd < n := by decide) :
    RL P ops (⟨some dd, .move x, ty, pos, af, none⟩ :: rest) K a w := s1 hs (za3 hx) h hd
theorem sA {v : Value} {dd : Nat} {x : Operand} (hs : St n w0 f L E a w) (hx : opv E x = some v) (h : ∀ {a w}, St n w0 f L ((dd, v) :: E) a w → RL P ops rest K a w) (hd : dd < n := by decide) :
    RL P ops (⟨some dd, .assign x, ty, pos, af, none⟩ :: rest) K a w := s1 hs (za9 hx) h hd
theorem sP {v : Value} {dd : Nat} {c x y : Operand} {b : Bool} (hs : St n w0 f L E a w) (hc : opv E c = some (.bool b)) (hx : opv E (if b then x else y) = some v) (h : ∀ {a w}, St n w0 f L ((dd, v) :: E) a w → RL P ops rest K a w) (hd : dd < n := by decide) :
    RL P ops (⟨some dd, .pick c x y, ty, pos, af, none⟩ :: rest) K a w := s1 hs (zaz hc hx) h hd
theorem s0 {v : Value} {op : Op} (hs : St n w0 f L E a w) (hy : Y P (Cw w0 f L) n E ⟨none, op, ty, pos, af, none⟩ v) (h : ∀ {a w}, St n w0 f L E a w → RL P ops rest K a w) :
    RL P ops (⟨none, op, ty, pos, af, none⟩ :: rest) K a w := sy0 hs hy fun _ _ h' => h h'
theorem s2 {v : Value} {dd j gd : Nat} {b : Bool} {op : Op} (hs : St n w0 f L E a w) (hy : Y P (Cw w0 f L) n E ⟨some dd, op, ty, pos, af, some (j, b)⟩ v) (h : ∀ {a w}, St n w0 f L ((dd, v) :: E) a w → RL P ops rest K a w)
    (hg : (ops[j]?).bind (·.dst) = some gd := by rfl) (hl : look E gd = some (.bool b) := by rfl) (hd : dd < n := by decide) :
    RL P ops (⟨some dd, op, ty, pos, af, some (j, b)⟩ :: rest) K a w := syg hs hy (fun _ _ h' => h h') hg hl hd
theorem s3 {dd j gd : Nat} {b : Bool} {op : Op} (hs : St n w0 f L E a w) (h : ∀ {a w}, St n w0 f L ((dd, undef) :: E) a w → RL P ops rest K a w)
    (hg : (ops[j]?).bind (·.dst) = some gd := by rfl) (hl : look E gd = some (.bool (!b)) := by rfl) (hd : dd < n := by decide) :
    RL P ops (⟨some dd, op, ty, pos, af, some (j, b)⟩ :: rest) K a w := sno hs (fun _ _ h' => h h') hg hl hd
theorem s4 {dd j gd : Nat} {b : Bool} {op : Op} (hs : St n w0 f L E a w) (h : ∀ {a w}, St n w0 f L ((dd, undef) :: E) a w → RL P ops rest K a w)
    (hg : (ops[j]?).bind (·.dst) = some gd := by rfl) (hl : look E gd = some undef := by rfl) (hd : dd < n := by decide) :
    RL P ops (⟨some dd, op, ty, pos, af, some (j, b)⟩ :: rest) K a w := sun hs (fun _ _ h' => h h') hg hl hd
theorem Ws {x y : Code} (h : ∀ {K : AP}, (∀ {a w}, W P y Qn Qe Qr Qg a w → K a w) → W P x K Qe Qr Qg a w) : W P (.seq x y) Qn Qe Qr Qg a w :=
  zai fun K hK => h (K := K) fun {a w} h' => hK a w h'
theorem Wq {id : Nat} {l : List Oper} {y : Code} (h : ∀ {K : AP}, (∀ {a w}, W P y Qn Qe Qr Qg a w → K a w) → RL P l.toArray l K a w) : W P (.seq (.region id l.toArray false) y) Qn Qe Qr Qg a w :=
  Ws fun hK => za2 (h fun h' => hK h')
end
end
end Go.Sl
