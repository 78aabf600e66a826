/-
  Walks and laws of this seat.
-/
import Derived.Test.YtdjjeahiomackaaGreatBasg
import Derived.ChangeArms
import Derived.Lib.Builder
import Derived.Lib.UnsafeStr
import Derived.Laws.Externs
import Derived.ChangeKeysEq
import Derived.Test.YtdjjeahiomackaaGreatBasf
import Derived.LaidEql
import Derived.Laws.LoneSync
import Derived.Defers
import Derived.Maps.RangeRun
namespace Go.Sl
section
open Go.RowKit Go.ChangeShapes Go.WideShapes Go.ChangeAt
section
variable {α : Type} {P : Program}
theorem zv7 {β : Type} {Q : Nat → β → Prop} : ∀ (len : Nat),(∀ i, i < len → ∃ p, Q i p) → ∃ l : List β, l.length = len ∧ ∀ (i : Nat) p, l[i]? = some p → Q i p
  | 0, _ => ⟨[], rfl, by simp⟩
  | len + 1, h => by
    obtain ⟨l, h1, h2⟩ := zv7 len (fun i hi => h i (by omega))
    obtain ⟨p, hp⟩ := h len (by omega)
    refine ⟨l ++ [p], by simp [h1], fun i q hq => ?_⟩
    rw [List.getElem?_append] at hq
    split at hq
    · exact h2 i q hq
    · have : i = len := by
        have := (List.getElem?_eq_some_iff.1 hq).1
        simp at this; omega
      subst this
      simp [h1] at hq
      subst hq
      exact hp
end
end
section
open Go.RowKit
section
variable {P : Program} {M : List Deferred} {Q Q' : List Deferred → Exit → AP} {a : Act} {w : World}
open Classical in
end
end
section
open Go.RowKit
section
variable {P : Program} {f f' : Fz} {L L' : List Ent} {w0 w w' : World} {n : Nat} {E E' : List (Nat × Value)} {a : Act}
end
end
section
open Go.RowKit
section
variable {P : Program} {f f' : Fz} {L L' : List Ent} {w0 w w' : World} {n : Nat} {E E' : List (Nat × Value)} {a : Act}
variable {ops : Array Oper} {rest : List Oper} {K : AP} {ty : TypeId} {pos : String} {af : Array Edge} {g : Option (Nat × Bool)}
end
end
section
open Go.RowKit
abbrev MP := List Deferred → AP
section
variable {P : Program} {f f' f0 : Fz} {L L' : List Ent} {w0 w w' : World} {n : Nat} {E E' : List (Nat × Value)} {a : Act}
variable {M : List Deferred} {Qn : MP} {Qe : Nat → MP} {Qr : MP} {Qg : Nat → MP}
section
variable {ops : Array Oper} {rest : List Oper} {K : AP} {ty : TypeId} {pos : String} {af : Array Edge}
end
section
variable {C : World → Prop} {d : Option Tmp} {ty : TypeId} {pos : String} {af : Array Edge} {g : Option (Nat × Bool)}
theorem zud {t : TypeId} {x : Operand} {ol oh : Option Operand} {s u : ByteArray} {lo hi : Nat} (he : s.extract lo hi = u) (hx : opv E x = some (.string s)) (ht : P.underlying t = some .string)
    (hlo : (ol = none ∧ lo = 0) ∨ ∃ y, ol = some y ∧ opv E y = some (.int .i64 (lo : Int))) (hhi : (oh = none ∧ hi = s.size) ∨ ∃ y, oh = some y ∧ opv E y = some (.int .i64 (hi : Int))) (h1 : lo ≤ hi) (h2 : hi ≤ s.size) :
    Y P C n E ⟨d, .slice t x ol oh none, ty, pos, af, g⟩ (.string u) := by subst he; exact zsu hx ht hlo hhi h1 h2
end
end
end
section
open Go.RowKit
theorem zec {P : Program} {b : Frame} {a : Act} {k : List Item} {cs : List Frame} {w : World} {c : Code} : step P (lone (b.atR a (.code (.scope c) :: k)) cs w) = .next (lone (b.atR a (.code c :: .inScope c :: k)) cs w) :=
  step_lone_go (by simp [stepG, stepG.exec, Frame.atR])
theorem zlc {P : Program} {b : Frame} {a : Act} {k : List Item} {cs : List Frame} {w : World} {c : Code} : step P (lone (b.atR a (.inScope c :: k)) cs w) = .next (lone (b.atR a k) cs w) :=
  step_lone_go (by simp [stepG, stepG.exec, Frame.atR])
def scopePost (c : Code) (J : Nat → AP) (Q : Exit → AP) : Exit → AP
  | .goto l, a, w => (∃ rest, findLabel c l = some rest ∧ J l a w) ∨ (findLabel c l = none ∧ Q (.goto l) a w)
  | e, a, w => Q e a w
theorem zts {F : Fence} {n : Nat} {P : Program} {a : Act} {w : World} {Q : Exit → AP} {c : Code} (J : Nat → Nat → AP)
    (first : c.wpIn F n P (scopePost c (fun l a w => ∃ k, J l k a w) Q) a w)
    (pass : ∀ l k a w rest, findLabel c l = some rest → J l k a w → rest.wpIn F n P (scopePost c (fun l a w => ∃ k', k' < k ∧ J l k' a w) Q) a w) : (Code.scope c).wpIn F n P Q a w := by
  intro b k cs hro hb hr
  have h0 : ∀ a w,(lone (b.atR a (.code (.scope c) :: k)) cs w).fenced P F := fun a w => fenced_calm hb hr rfl
  have key : ∀ m l a w rest, findLabel c l = some rest → J l m a w → ∃ e a' w', Q e a' w' ∧ ArrivesIn (Machine.fenced P F) P (lone (b.atR a (.code rest :: .inScope c :: k)) cs w) b k cs e a' w' := by
    intro m
    induction m using Nat.strongRecOn with
    | _ m ih =>
      intro l a w rest hl hJ
      obtain ⟨e, a₁, w₁, hq, harr⟩ := pass l m a w rest hl hJ b (.inScope c :: k) cs hro hb hr
      cases e with
      | normal => exact ⟨.normal, a₁, w₁, hq, StepsIn.trans harr (.one (fenced_calm hb hr rfl) zlc)⟩
      | exit id => exact ⟨_, a₁, w₁, hq, .pass (x := .inLoop c) rfl (fun _ _ => .inl (by simp)) ⟨fun k' hk => harr.1 k' (by simpa [exitTo] using hk), fun h1 h2 => harr.2 h1 (by simpa [exitTo] using h2)⟩⟩
      | goto l' =>
        rcases hq with ⟨rest', hl', m', hlt, hJ'⟩ | ⟨hno, hq⟩
        · obtain ⟨e₂, a₂, w₂, hq₂, harr₂⟩ := ih m' hlt l' a₁ w₁ rest' hl' hJ'
          exact ⟨e₂, a₂, w₂, hq₂, .of_steps (harr.1 _ (by simp [gotoIn, hl'])) harr₂⟩
        · have hx : gotoIn l' (.inScope c :: k) = gotoIn l' k := by simp [gotoIn, hno]
          exact ⟨.goto l', a₁, w₁, hq, fun k' hk => harr.1 k' (by rw [hx]; exact hk), fun h1 h2 => harr.2 h1 (by rw [hx]; exact h2)⟩
      | ret => exact ⟨_, a₁, w₁, hq, harr⟩
      | panic ch => exact ⟨_, a₁, w₁, hq, harr⟩
      | outgrown => exact ⟨_, a₁, w₁, hq, harr⟩
  obtain ⟨e, a₁, w₁, hq, harr⟩ := first b (.inScope c :: k) cs hro hb hr
  cases e with
  | normal => exact ⟨.normal, a₁, w₁, hq, .head (h0 _ _) zec (StepsIn.trans harr (.one (fenced_calm hb hr rfl) zlc))⟩
  | exit id => exact ⟨.exit id, a₁, w₁, hq, fun k' hk => .head (h0 _ _) zec (harr.1 k' (by simpa [exitTo] using hk)), fun h1 h2 => let ⟨k₁, h3, h4⟩ := harr.2 h1 (by simpa [exitTo] using h2); ⟨k₁, h3, .head (h0 _ _) zec h4⟩⟩
  | goto l' =>
    rcases hq with ⟨rest', hl', m', hJ'⟩ | ⟨hno, hq⟩
    · obtain ⟨e₂, a₂, w₂, hq₂, harr₂⟩ := key m' l' a₁ w₁ rest' hl' hJ'
      exact ⟨e₂, a₂, w₂, hq₂, .of_steps (.head (h0 _ _) zec (harr.1 _ (by simp [gotoIn, hl']))) harr₂⟩
    · have hx : gotoIn l' (.inScope c :: k) = gotoIn l' k := by simp [gotoIn, hno]
      exact ⟨.goto l', a₁, w₁, hq, fun k' hk => .head (h0 _ _) zec (harr.1 k' (by rw [hx]; exact hk)), fun h1 h2 => let ⟨k₁, h3, h4⟩ := harr.2 h1 (by rw [hx]; exact h2); ⟨k₁, h3, .head (h0 _ _) zec h4⟩⟩
  | ret => exact ⟨_, a₁, w₁, hq, .of_steps (.one (h0 _ _) zec) harr⟩
  | panic ch => exact ⟨_, a₁, w₁, hq, .of_steps (.one (h0 _ _) zec) harr⟩
  | outgrown => exact ⟨_, a₁, w₁, hq, .of_steps (.one (h0 _ _) zec) harr⟩
theorem W_scope {P : Program} {a : Act} {w : World} {c : Code} {Qn : AP} {Qe : Nat → AP} {Qr : AP} {Qg : Nat → AP} (J : Nat → Nat → AP)
    (first : ∀ G : Nat → AP,(∀ l k a w,(∃ rest, findLabel c l = some rest) → J l k a w → G l a w) → (∀ l a w, findLabel c l = none → Qg l a w → G l a w) → W P c Qn Qe Qr G a w)
    (pass : ∀ l k a w rest, findLabel c l = some rest → J l k a w → ∀ G : Nat → AP,(∀ l k' a w,(∃ rest, findLabel c l = some rest) → k' < k → J l k' a w → G l a w) → (∀ l a w, findLabel c l = none → Qg l a w → G l a w) → W P rest Qn Qe Qr G a w) :
    W P (.scope c) Qn Qe Qr Qg a w := by
  intro r M
  refine zts (fun l k a w => ∃ b, a = withM M b ∧ J l k b w) ?_ ?_
  · refine wpIn_mono (first (fun l a w => (∃ rest, findLabel c l = some rest ∧ ∃ k, J l k a w) ∨ (findLabel c l = none ∧ Qg l a w)) (fun l k a w ⟨rest, h⟩ hJ => .inl ⟨rest, h, k, hJ⟩) (fun l a w h hq => .inr ⟨h, hq⟩) r M) ?_
    rintro e a' w' ⟨b, rfl, q⟩
    cases e with
    | goto l =>
      rcases q with ⟨rest, h1, k, h2⟩ | ⟨h1, h2⟩
      · exact .inl ⟨rest, h1, k, b, rfl, h2⟩
      · exact .inr ⟨h1, b, rfl, h2⟩
    | _ => exact ⟨b, rfl, q⟩
  · rintro l k a' w' rest hl ⟨b, rfl, hJ⟩
    refine wpIn_mono (pass l k b w' rest hl hJ (fun l a w => (∃ rest, findLabel c l = some rest ∧ ∃ k', k' < k ∧ J l k' a w) ∨ (findLabel c l = none ∧ Qg l a w)) (fun l k' a w ⟨rest, h⟩ hlt hJ => .inl ⟨rest, h, k', hlt, hJ⟩) (fun l a w h hq => .inr ⟨h, hq⟩) r M) ?_
    rintro e a' w' ⟨b, rfl, q⟩
    cases e with
    | goto l =>
      rcases q with ⟨rest, h1, k', h2, h3⟩ | ⟨h1, h2⟩
      · exact .inl ⟨rest, h1, k', h2, b, rfl, h3⟩
      · exact .inr ⟨h1, b, rfl, h2⟩
    | _ => exact ⟨b, rfl, q⟩
end
section
open Go.RowKit
section
variable {P : Program} {f f' f0 : Fz} {L L' Lc : List Ent} {w0 w w' : World} {n m i : Nat} {E E' : List (Nat × Value)} {a : Act}
variable {ops : Array Oper} {rest : List Oper} {o : Oper} {K : AP} {C : World → Prop} {op : Op}
variable {d : Option Tmp} {ty : TypeId} {pos : String} {af : Array Edge} {g : Option (Nat × Bool)} {brk : List Nat} {p : PT} {v : Value}
def Apart (x y : Ent) : Prop := ∀ k, x.key = some k → y.key = some k → False
theorem zmm {L : List Ent} : (∀ (i j : Nat) (x y : Ent), L[i]? = some x → L[j]? = some y → i ≠ j → ∀ k, x.key = some k → y.key = some k → False) ↔ L.Pairwise Apart := by
  rw [List.pairwise_iff_getElem]
  constructor
  · intro h i j hi hj hij k h1 h2
    exact h i j _ _ (List.getElem?_eq_getElem hi) (List.getElem?_eq_getElem hj) (by omega) k h1 h2
  · intro h i j x y hi hj hij k h1 h2
    obtain ⟨hi', rfl⟩ := List.getElem?_eq_some_iff.1 hi
    obtain ⟨hj', rfl⟩ := List.getElem?_eq_some_iff.1 hj
    rcases Nat.lt_or_gt_of_ne hij with hlt | hlt
    · exact h i j hi' hj' hlt k h1 h2
    · exact h j i hj' hi' hlt k h2 h1
theorem Cw.perm (h : Cw w0 f L w) (hp : L.Perm L') : Cw w0 f L' w := by
  refine ⟨h.os, h.tape, h.output, h.size, h.frz, fun e he => h.live e (hp.mem_iff.2 he), fun e he => h.apart e (hp.mem_iff.2 he), ?_⟩
  rw [zmm]
  exact (List.Perm.pairwise_iff (fun {x y} (hxy : Apart x y) k h1 h2 => hxy k h2 h1) hp).1 (zmm.1 h.sep)
theorem zae {α : Type} : ∀ (L : List α) (i : Nat) {x : α}, L[i]? = some x → L.Perm (x :: L.eraseIdx i)
  | [], _, _, h => by simp at h
  | y :: L,0, x, h => by simp at h; subst h; exact .refl _
  | y :: L, i + 1, x, h => by
    simp at h
    rw [List.eraseIdx_cons_succ]
    exact ((zae L i h).cons y).trans (.swap _ _ _)
def GivesL (P : Program) (fn : FuncId) (args : List Value) (f : Fz) (Lr : List Ent) (v : Value) : Prop :=
  ∀ w0 L w, Cw w0 f (Lr ++ L) w → Calls P fn args.toArray w fun e w' => e = .returned v ∧ Cw w0 f (Lr ++ L) w'
theorem GivesL.at {fn : FuncId} {args : List Value} {Lr Lf : List Ent} (h : GivesL P fn args f Lr v) (hp : L.Perm (Lr ++ Lf)) (hC : Cw w0 f L w) : Calls P fn args.toArray w fun e w' => e = .returned v ∧ Cw w0 f L w' :=
  (h w0 Lf w (hC.perm hp)).mono fun _ _ ⟨h1, h2⟩ => ⟨h1, h2.perm hp.symm⟩
theorem zex {gn : FuncId} {x : Operand} {cap : List Value} {as : List Operand} {vs : List Value} {ats : Array TypeId} {Lr Lf : List Ent} (hx : opv E x = some (.func (.func gn) #[] cap.toArray)) (hg : Has P gn) (hv : as.mapM (opv E) = some vs) (hL : L.Perm (Lr ++ Lf)) (hp : GivesL P gn (vs ++ cap) f Lr v) :
    Y P (Cw w0 f L) n E ⟨d, .call { callee := .value x, args := as.toArray, argTypes := ats }, ty, pos, af, g⟩ v := by
  intro a ha w hw
  unfold Oper.quietAt
  rw [zg2 ha hx hg hv]
  refine ⟨rfl, ?_⟩
  have := hp.at hL hw
  rw [List.append_toArray] at *
  simpa using this
theorem RW.ints {k : IntKind} {rows : List (List Value)} {xs : List Int} (h : RW (tInt k) f rows xs) : rows = xs.map fun x => [.int k x] := RW.map (fun _ _ h => h) h
theorem zuf {t u e : TypeId} {x : Operand} {v : Value} {rows : List (List Value)} {xs : List Int} (hx : opv E x = some v) (ht : P.underlying t = some (.slice e)) (he : P.underlying e = some (.int .i32)) (hu : P.underlying u = some .string) (hR : Rd f L v 1 rows) (hW : RW (tInt .i32) f' rows xs) :
    Y P (Cw w0 f L) n E ⟨d, .convert t u x, ty, pos, af, g⟩ (.string (textOf xs)) := y_r2s hx ht he hu (hW.ints ▸ hR)
theorem y_b2sW {t u e : TypeId} {x : Operand} {v : Value} {rows : List (List Value)} {xs : List Int} (hx : opv E x = some v) (ht : P.underlying t = some (.slice e)) (he : P.underlying e = some (.int .u8)) (hu : P.underlying u = some .string) (hR : Rd f L v 1 rows) (hW : RW (tInt .u8) f' rows xs) :
    Y P (Cw w0 f L) n E ⟨d, .convert t u x, ty, pos, af, g⟩ (.string (bytesOf xs)) := y_b2s hx ht he hu (hW.ints ▸ hR)
def runesM (s : ByteArray) : Option (List Int) := bif decide (s.size ≤ 70368744177664) then some (runesIn s) else none
theorem zs3 {s : ByteArray} {xs : List Int} (h : runesM s = some xs) : s.size ≤ 70368744177664 ∧ runesIn s = xs := by
  unfold runesM at h
  by_cases hs : s.size ≤ 70368744177664
  · rw [decide_eq_true hs] at h; exact ⟨hs, Option.some.inj h⟩
  · rw [decide_eq_false hs] at h; cases h
theorem RW.ofInts {k : IntKind} : ∀ xs : List Int, RW (tInt k) f (xs.map fun x => [.int k x]) xs
  | [] => trivial
  | _ :: xs => ⟨rfl, RW.ofInts xs⟩
theorem zwd {t u e : TypeId} {x : Operand} {s : ByteArray} {xs : List Int} {dd : Nat} (hm : runesM s = some xs) (hs : St n w0 f L E a w) (hx : opv E x = some (.string s)) (ht : P.underlying t = some .string) (hu : P.underlying u = some (.slice e)) (he : P.underlying e = some (.int .i32))
    (h : ∀ v rows a w, RW (tInt .i32) f rows xs → St n w0 f (.row v e 1 rows :: L) ((dd, v) :: E) a w → RL P ops rest K a w) (hd : dd < n := by decide) :
    RL P ops (⟨some dd, .convert t u x, ty, pos, af, none⟩ :: rest) K a w := by
  obtain ⟨h1, rfl⟩ := zs3 hm
  exact RL_s2r hs hx ht hu he h1 (fun v a w hs => h v _ a w (RW.ofInts _) hs) hd
def bytesM (s : ByteArray) : Option (List Int) := bif decide (s.size ≤ 70368744177664) then some (bytesIn s) else none
end
section
variable {P : Program} {f f' f0 : Fz} {L L' Lc : List Ent} {w0 w w' : World} {n m i : Nat} {E E' : List (Nat × Value)} {a : Act}
variable {ops : Array Oper} {K : AP} {ty : TypeId} {pos : String} {af : Array Edge} {brk : List Nat} {p : PT} {v : Value} {dd : Nat} {j gd : Nat} {b : Bool}
end
end
section
open Go.RowKit
section
variable {P : Program} {f f' f0 : Fz} {L L' Lc : List Ent} {w0 w w' : World} {n m i : Nat} {E E' : List (Nat × Value)} {a : Act}
variable {d : Option Tmp} {ty : TypeId} {pos : String} {af : Array Edge} {g : Option (Nat × Bool)} {r v : Value}
theorem lent0 {e : TypeId} {k : Nat} {rows : List (List Value)} {fn : FuncId} {args : List Value} (hC : Cw w0 f (.row v e k rows :: L) w)
    (h : ∀ f' w, Fz.le f f' → Rd f' [] v k rows → Cw w0 f' L w → Calls P fn args.toArray w fun e w' => e = .returned r ∧ Cw w0 f' L w') :
    Calls P fn args.toArray w fun e' w' => e' = .returned r ∧ Cw w0 f (.row v e k rows :: L) w' := by
  obtain ⟨f', h1, h2, h3, h4⟩ := Rd.frozenAt (i := 0) hC rfl
  exact (h f' w h1 h4 h2).mono fun _ _ ⟨e1, e2⟩ => ⟨e1, hC.thaw (i := 0) rfl h1 h3 e2⟩
theorem callsP {Lr Lf : List Ent} {fn : FuncId} {args : List Value} (hp : L.Perm (Lr ++ Lf)) (hC : Cw w0 f L w)
    (h : ∀ Lz w, Cw w0 f (Lr ++ Lz) w → Calls P fn args.toArray w fun e w' => e = .returned r ∧ Cw w0 f (Lr ++ Lz) w') : Calls P fn args.toArray w fun e w' => e = .returned r ∧ Cw w0 f L w' :=
  (h Lf w (hC.perm hp)).mono fun _ _ ⟨h1, h2⟩ => ⟨h1, h2.perm hp.symm⟩
theorem zds {gn : FuncId} {x : Operand} {cap : List Value} {as : List Operand} {vs : List Value} {ats : Array TypeId} (hx : opv E x = some (.func (.func gn) #[] cap.toArray)) (hg : Has P gn) (hv : as.mapM (opv E) = some vs)
    (hp : ∀ w, Cw w0 f L w → Calls P gn (vs ++ cap).toArray w fun e w' => e = .returned v ∧ Cw w0 f L w') :
    Y P (Cw w0 f L) n E ⟨d, .call { callee := .value x, args := as.toArray, argTypes := ats }, ty, pos, af, g⟩ v := by
  intro a ha w hw
  unfold Oper.quietAt
  rw [zg2 ha hx hg hv]
  refine ⟨rfl, ?_⟩
  have := hp w hw
  rw [List.append_toArray] at *
  simpa using this
end
def spine : Code → Nat → Option Code
  | .seq (.label l') b, l => if l' == l then some b else spine b l
  | .seq _ b, l => spine b l
  | _, _ => none
def noLab : Code → Bool
  | .label _ => false
  | .seq a b => noLab a && noLab b
  | _ => true
def rightOnly : Code → Bool
  | .seq (.label _) b => rightOnly b
  | .seq a b => noLab a && rightOnly b
  | .label _ => false
  | _ => true
theorem zma : ∀ (c : Code) (l : Nat), noLab c = true → findLabel c l = none
  | .seq a b, l, h => by
    simp only [noLab, Bool.and_eq_true] at h
    simp [findLabel, zma a l h.1, zma b l h.2]
  | .label _, _, h => by simp [noLab] at h
  | .region .., _, _ | .cond .., _, _ | .block .., _, _ | .loop .., _, _ | .exit .., _, _ | .goto .., _, _ | .skip, _, _ | .ret, _, _ | .scope .., _, _ | .rangeFunc .., _, _ | .refuse .., _, _ => rfl
theorem zfs : ∀ (c : Code) (l : Nat), rightOnly c = true → findLabel c l = (spine c l).map (Code.seq .skip)
  | .seq (.label l') b, l, h => by
    simp only [rightOnly] at h
    simp only [findLabel, spine]
    by_cases e : (l' == l) = true
    · simp [e]
    · simp [e, zfs b l h]
  | .seq (.seq x y) b, l, h => by
    simp only [rightOnly, Bool.and_eq_true] at h
    rw [findLabel, zma _ l h.1]
    exact zfs b l h.2
  | .seq (.region ..) b, l, h | .seq (.cond ..) b, l, h | .seq (.block ..) b, l, h | .seq (.loop ..) b, l, h | .seq (.exit ..) b, l, h | .seq (.goto ..) b, l, h | .seq .skip b, l, h | .seq .ret b, l, h | .seq (.scope ..) b, l, h | .seq (.rangeFunc ..) b, l, h | .seq (.refuse ..) b, l, h => by
    simp only [rightOnly, Bool.and_eq_true] at h
    exact zfs b l h.2
  | .label _, _, h => by simp [rightOnly] at h
  | .region .., _, _ | .cond .., _, _ | .block .., _, _ | .loop .., _, _ | .exit .., _, _ | .goto .., _, _ | .skip, _, _ | .ret, _, _ | .scope .., _, _ | .rangeFunc .., _, _ | .refuse .., _, _ => rfl
section
variable {P : Program} {Qn : AP} {Qe : Nat → AP} {Qr : AP} {Qg : Nat → AP} {a : Act} {w : World} {c : Code}
structure Gone (c : Code) (Qg : Nat → AP) (J : Nat → AP) (G : Nat → AP) : Prop where
  at_ : ∀ l a w,(spine c l).isSome = true → J l a w → G l a w
  out : ∀ l a w, spine c l = none → Qg l a w → G l a w
def Behind (P : Program) (c : Code) (Qn : AP) (Qe : Nat → AP) (Qr : AP) (Qg : Nat → AP) (J : Nat → Nat → AP) (k : Nat) : Prop :=
  ∀ l a w R, spine c l = some R → J l k a w → ∀ G : Nat → AP, Gone c Qg (fun l a w => ∃ k', k' < k ∧ J l k' a w) G → W P R Qn Qe Qr G a w
theorem zto (J : Nat → Nat → AP) (hr : rightOnly c = true)
    (pass : ∀ k,(∀ k', k' < k → Behind P c Qn Qe Qr Qg J k') → Behind P c Qn Qe Qr Qg J k)
    (first : (∀ k, Behind P c Qn Qe Qr Qg J k) → ∀ G : Nat → AP, Gone c Qg (fun l a w => ∃ k, J l k a w) G → W P c Qn Qe Qr G a w) : W P (.scope c) Qn Qe Qr Qg a w := by
  have hall : ∀ k, Behind P c Qn Qe Qr Qg J k := fun k => by
    induction k using Nat.strongRecOn with
    | ind k ih => exact pass k ih
  have hs : ∀ {l : Nat}, findLabel c l = none → spine c l = none := fun {l} h => by
    rw [zfs c l hr] at h
    simpa using h
  have hs2 : ∀ {l : Nat}, (∃ rest, findLabel c l = some rest) ↔ (spine c l).isSome = true := fun {l} => by
    rw [zfs c l hr]
    cases spine c l <;> simp
  refine W_scope J (fun G h1 h2 => first hall G ⟨fun l a w hl ⟨k, hJ⟩ => h1 l k a w (hs2.2 hl) hJ, fun l a w hl hq => h2 l a w ?_ hq⟩) ?_
  · rw [zfs c l hr, hl]; rfl
  · intro l k a w rest hl hJ G h1 h2
    rw [zfs c l hr] at hl
    obtain ⟨R, hR, rfl⟩ := Option.map_eq_some_iff.1 hl
    refine zc0 fun K hK => zak (hK _ _ (hall k l a w R hR hJ G ⟨fun l a w hl ⟨k', h3, h4⟩ => h1 l k' a w (hs2.2 hl) h3 h4, fun l a w hl hq => h2 l a w ?_ hq⟩))
    rw [zfs c l hr, hl]; rfl
theorem Behind.into {J : Nat → Nat → AP} {J' : Nat → AP} {k l : Nat} {R : Code} {G : Nat → AP} (hB : Behind P c Qn Qe Qr Qg J k) (hR : spine c l = some R) (hJ : J l k a w) (hG : Gone c Qg J' G)
    (hJ' : ∀ l a w k', k' < k → J l k' a w → J' l a w) : W P (.seq (.label l) R) Qn Qe Qr G a w :=
  zc0 fun _ hK => W_label (hK _ _ (hB l a w R hR hJ G ⟨fun l a w hl ⟨k', h3, h4⟩ => hG.at_ l a w hl (hJ' l a w k' h3 h4), hG.out⟩))
end
end
section
open Go.RowKit
section
variable {P : Program} {f f' f0 : Fz} {L L' Lc : List Ent} {w0 w w' : World} {n m i : Nat} {E E' : List (Nat × Value)} {a : Act}
variable {ops : Array Oper} {rest : List Oper} {K : AP} {C : World → Prop}
variable {d : Option Tmp} {ty : TypeId} {pos : String} {af : Array Edge} {g : Option (Nat × Bool)} {v : Value} {dd : Nat}
theorem y_callE {gn : FuncId} {x : Operand} {as : List Operand} {vs : List Value} {ats : Array TypeId} (hx : opv E x = some (.func (.func gn) #[] #[])) (hv : as.mapM (opv E) = some vs)
    (hc : ∀ w,(callFunc gn vs.toArray).run P w = .ok (.value v) w) : Y P C n E ⟨d, .call { callee := .value x, args := as.toArray, argTypes := ats }, ty, pos, af, g⟩ v :=
  .of fun a ha w _ => by
    have := evalArgs ha hv
    have e1 : as.toArray.map a.eval = vs.toArray := by simp [this]
    simp [execOp, resolve, ha.eval hx, Deferred.ofValue, invoke, e1, hc]
theorem y_pnn {x y : Operand} {t t' q : TypeId} (hx : opv E x = some (.pointer none)) (hy : opv E y = some (.pointer none)) (ht : P.underlying t = some (.pointer q)) : Y P C n E ⟨d, .binOp .eql t x y t', ty, pos, af, g⟩ (.bool true) :=
  .of fun a ha w _ => by
    have h : (Op.equal t (.pointer none) (.pointer none)).run P w = .ok true w := ze7 (fun d => by simp [Op.equalIn, run_underlying ht]) rfl
    simp [execOp, ha.eval hx, ha.eval hy, eqGuard, binOp, h]
theorem y_pselfN {x y : Operand} {t t' q : TypeId} {p : Addr} {k by_ : Nat} {z : Value} (hx : opv E x = some (.pointer (some p))) (hy : opv E y = some (.pointer (some p))) (ht : P.underlying t = some (.pointer q)) (hT : TI P q k by_ z) : Y P C n E ⟨d, .binOp .neq t x y t', ty, pos, af, g⟩ (.bool false) :=
  .of fun a ha w _ => by
    obtain ⟨it, hit, _⟩ := hT
    have h := Lib.run_neq_ptr_same (P := P) w p ht hit
    simp [execOp, ha.eval hx, ha.eval hy, eqGuard, h]
theorem zqq {b : Nat} {cs : Array Value} {e : TypeId} (hm : .blk b (.cells cs e (0,0)) ∈ L) (hC : Cw w0 f L w) : w.shape? b = some (e, cs.size) := by
  have : w.heap[b]? = some (.cells cs e (0,0)) := hC.live _ hm
  simp [World.shape?, this]
theorem ztr {t u q e : TypeId} {x : Operand} {b : Nat} {cs : Array Value} {k by_ : Nat} {z : Value} (hx : opv E x = some (.pointer (some ⟨b,0, none⟩))) (ht : P.underlying t = some (.pointer q)) (hu : P.underlying u = some .unsafePointer) (hT : TI P q k by_ z) (hk : k ≠ 0)
    (hm : .blk b (.cells cs e (0,0)) ∈ L) (hs : 0 < cs.size) : Y P (Cw w0 f L) n E ⟨d, .convert t u x, ty, pos, af, g⟩ (.pointer (some ⟨b,0, none⟩)) :=
  .of fun a ha w hw => by
    obtain ⟨it, hit, _, hk', _⟩ := hT
    have h := Lib.run_to_unsafe (P := P) w ⟨b,0, none⟩ ht hu hit (by omega) (zqq hm hw) hs
    simp only [execOp, ha.eval hx, Sem.run_bind, h, Result.andThen_ok, Sem.run_pure]
theorem zqj {t u q e : TypeId} {x : Operand} {b : Nat} {cs : Array Value} {k by_ : Nat} {z : Value} (hx : opv E x = some (.pointer (some ⟨b,0, none⟩))) (ht : P.underlying t = some .unsafePointer) (hu : P.underlying u = some (.pointer q)) (hT : TI P q k by_ z)
    (hm : .blk b (.cells cs e (0,0)) ∈ L) (hl : liesAt P P.depth e (cs.size / P.cellsOf e) 0 q 1 = true) : Y P (Cw w0 f L) n E ⟨d, .convert t u x, ty, pos, af, g⟩ (.pointer (some ⟨b,0, none⟩)) :=
  .of fun a ha w hw => by
    obtain ⟨it, hit, _⟩ := hT
    have h := Lib.run_from_unsafe (P := P) w ⟨b,0, none⟩ ht hu hit (zqq hm hw) hl
    simp only [execOp, ha.eval hx, Sem.run_bind, h, Result.andThen_ok, Sem.run_pure]
def HeadOf (v : Value) (m : Nat) (p : Option Addr) : Prop := m ≠ 0 → ∃ gb q c, v = .slice (some ⟨gb,0, none⟩) q c ∧ p = some ⟨gb,0, none⟩
theorem RL_usd {x : Operand} {t e : TypeId} {rows : List (List Value)} {i : Nat} (hs : St n w0 f L E a w) (hi : L[i]? = some (.row v e 1 rows)) (hx : opv E x = some v) (ht : P.underlying ty = some (.pointer e))
    (h : ∀ p L1 a w, HeadOf v rows.length p → St n w0 f (L1 ++ L) ((dd, .pointer p) :: E) a w → RL P ops rest K a w) (hd : dd < n := by decide) :
    RL P ops (⟨some dd, .call { callee := .builtin .unsafeSliceData, args := #[x], argTypes := #[t] }, ty, pos, af, none⟩ :: rest) K a w := by
  have hm := List.mem_of_getElem? hi
  obtain ⟨hown, _⟩ := hs.cw.live _ hm
  rcases hown.2 with ⟨rfl, h0⟩ | ⟨gb, cap, cur, rfl, hgb, hg, hnc, hcm, hcs, htk⟩
  · refine RL_v hs (.free rfl) (.to rfl hd) (v := .pointer none) (w' := w) (f' := f) (L' := L) ?_ hs.cw (fun a w hs => h none [] a w (fun hne => absurd h0 hne) hs)
    simp only [execOp, resolve, invoke, builtin, Sem.run_bind, Sem.run_pure, Result.andThen_ok, List.map_toArray, List.map_cons, List.map_nil, hs.ev.eval hx, Lib.run_unsafeSliceData_nil]
  · by_cases hc : cap = 0
    · subst hc
      refine RL_v hs (.free rfl) (.to rfl hd) (v := .pointer (some ⟨w.heap.size,0, none⟩)) (w' := w.alloc (.view ⟨gb,0, none⟩ e)) (f' := f) (L' := .blk w.heap.size (.view ⟨gb,0, none⟩ e) :: L) ?_ (hs.cw.alloc _) (fun a w hs => h _ [_] a w (fun hne => by omega) hs)
      simp only [execOp, resolve, invoke, builtin, Sem.run_bind, Sem.run_pure, Result.andThen_ok, List.map_toArray, List.map_cons, List.map_nil, hs.ev.eval hx, Lib.run_unsafeSliceData_zero (P := P) w #[t] ty e ht ⟨gb,0, none⟩ rows.length (e, cur.size) (by simp [World.shape?, hg])]
    · refine RL_v hs (.free rfl) (.to rfl hd) (v := .pointer (some ⟨gb,0, none⟩)) (w' := w) (f' := f) (L' := L) ?_ hs.cw (fun a w hs => h _ [] a w (fun _ => ⟨gb, _, _, rfl, rfl⟩) hs)
      simp only [execOp, resolve, invoke, builtin, Sem.run_bind, Sem.run_pure, Result.andThen_ok, List.map_toArray, List.map_cons, List.map_nil, hs.ev.eval hx, Lib.run_unsafeSliceData_row (P := P) w #[t] ty ⟨gb,0, none⟩ rows.length cap hc]
theorem zkm : ∀ (l : List Int) (a : Addr) (acc : ByteArray),(∀ (j : Nat) x, l[j]? = some x → w.cell? (a.add j) = some (.int .u8 x)) →
    (Go.loadBytes a acc l.length).run P w = .ok ⟨acc.data ++ (l.map fun n => UInt8.ofNat n.toNat).toArray⟩ w
  | [], a, acc, _ => by simp [Go.loadBytes]
  | x :: l, a, acc, h => by
    have h0 : w.cell? a = some (.int .u8 x) := by
      have := h 0 x rfl
      simpa [Addr.add] using this
    have ih := zkm l (a.add 1) (acc.push (UInt8.ofNat x.toNat)) (fun j y hy => by
      have := h (j + 1) y (by simpa using hy)
      have e : (a.add 1).add j = a.add (j + 1) := by
        unfold Addr.add
        by_cases hj : j = 0
        · subst hj; simp
        · simp [hj]; omega
      rw [e]; exact this)
    simp only [List.length_cons, Go.loadBytes, Sem.run_bind, run_load, h0, Result.andThen]
    rw [show x.toNat.toUInt8 = UInt8.ofNat x.toNat from rfl, ih]
    congr 1
    apply ByteArray.ext
    simp [ByteArray.push]
theorem zm3 (pt it ty e : TypeId) (hp : P.underlying pt = some (.pointer e)) (hc : P.cellsOf e = 1) (gb cells : Nat) (hsh : w.shape? gb = some (e, cells)) (l : List Int) (h0 : l ≠ []) (hn : l.length ≤ cells) (h63 : l.length ≤ 9223372036854775807)
    (hcell : ∀ (j : Nat) x, l[j]? = some x → w.cell? ((⟨gb,0, none⟩ : Addr).add j) = some (.int .u8 x)) :
    (Builtin.unsafeString_ #[pt, it] ty #[.pointer (some ⟨gb,0, none⟩), .int .i64 l.length]).run P w = .ok (.string (bytesOf l)) (w.freeze ⟨gb,0, none⟩ l.length) := by
  have hl : l.length ≠ 0 := by simpa using h0
  have hlb := zkm (P := P) (w := w) l ⟨gb,0, none⟩ .empty hcell
  have hlies := Lib.liesAt_bytes (P := P) hc (cells / P.cellsOf e) l.length (by rw [hc]; simpa using hn)
  have h63' : ¬ (9223372036854775807 : Int) < (l.length : Int) := by omega
  have hdef : Builtin.unsafeString_ #[pt, it] ty #[.pointer (some ⟨gb,0, none⟩), .int .i64 l.length] =
      (do
        let n ← asInt (.int .i64 l.length)
        if n < 0 then runtimePanic (.error "unsafe.String: len out of range")
        if n > IntKind.i64.max then unsupported (.unsafePointer "String: a length above the largest int")
        if n = 0 then pure (.string .empty)
        else if ← variablesAt ⟨gb,0, none⟩ (← elemOf pt) n.toNat then do
          let s ← loadBytes ⟨gb,0, none⟩ .empty n.toNat
          freeze ⟨gb,0, none⟩ n.toNat
          pure (.string s)
        else unsupported (.unsafePointer "String: not so many bytes at ptr")) := rfl
  rw [hdef]
  have hmax : IntKind.i64.max = 9223372036854775807 := rfl
  have hneg : ¬ (l.length : Int) < 0 := by omega
  simp [asInt, asIntOf, hmax, h63', hneg, hl, variablesAt, hsh, elemOf, run_underlying hp, hlies, hlb, bytesOf]
theorem RL_ust {x y : Operand} {pt it e : TypeId} {rows : List (List Value)} {xs : List Int} {p : Option Addr} {i : Nat} (hs : St n w0 f L E a w) (hi : L[i]? = some (.row v e 1 rows)) (hW : RW (tInt .u8) f' rows xs) (hx : opv E x = some (.pointer p)) (hy : opv E y = some (.int .i64 (xs.length : Int)))
    (hp : HeadOf v rows.length p) (ht : P.underlying pt = some (.pointer e)) (hc : P.cellsOf e = 1)
    (h : ∀ a w, St n w0 f (L.eraseIdx i) ((dd, .string (bytesOf xs)) :: E) a w → RL P ops rest K a w) (hd : dd < n := by decide) :
    RL P ops (⟨some dd, .call { callee := .builtin .unsafeString, args := #[x, y], argTypes := #[pt, it] }, ty, pos, af, none⟩ :: rest) K a w := by
  have hm := List.mem_of_getElem? hi
  obtain ⟨hown, hone⟩ := hs.cw.live _ hm
  by_cases h0 : xs = []
  · subst h0
    refine RL_v hs (.free rfl) (.to rfl hd) (v := .string (bytesOf [])) (w' := w) (f' := f) (L' := L.eraseIdx i) ?_ (hs.cw.sub (List.eraseIdx_sublist ..)) h
    have := Lib.run_unsafeString_none (P := P) w pt it ty p
    simp only [execOp, resolve, invoke, builtin, Sem.run_bind, Sem.run_pure, Result.andThen_ok, List.map_toArray, List.map_cons, List.map_nil, hs.ev.eval hx, hs.ev.eval hy, List.length_nil, Int.natCast_zero, this]
    rfl
  · have hl := hW.len
    have hne : rows.length ≠ 0 := by rw [hl]; simpa using h0
    obtain ⟨gb', q, c, hv, hpe⟩ := hp hne
    rcases hown.2 with ⟨hv2, hz⟩ | ⟨gb, cap, cur, hv2, hgb, hg, hnc, hcm, hcs, htk⟩
    · exact absurd hz hne
    · have : gb' = gb := by rw [hv] at hv2; injection hv2 with e1 _ _; injection e1 with e2; injection e2
      subst this
      have hcell : ∀ (j : Nat) z, xs[j]? = some z → w.cell? ((⟨gb', 0, none⟩ : Addr).add j) = some (.int .u8 z) := fun j z hj => by
        have h1 := hW.ints
        have hfl : rows.flatten = xs.map (Value.int .u8) := by rw [h1]; exact zdz _ xs
        exact hown.cells (g := gb') (by rw [hv2]; rfl) j _ (by rw [hfl]; simp [hj])
      have hrun := zm3 (P := P) (w := w) pt it ty e ht hc gb' cur.size (by simp [World.shape?, hg]) xs h0 (by omega) (by unfold maxLen at hcm; omega) hcell
      have hxl : xs.length ≠ 0 := by simpa using h0
      have hlt : gb' < w.heap.size := (Array.getElem?_eq_some_iff.1 hg).1
      have hC : Cw w0 f (L.set i (.blk gb' (.cells cur e (0, xs.length)))) (w.freeze ⟨gb', 0, none⟩ xs.length) := by
        refine hs.cw.repl hi ⟨?_, ?_, ?_, ?_, fun k hk hkr => ?_⟩ ?_ (fun b hb => .inl ?_)
        · simp [World.freeze, hxl]
        · simp [World.freeze, hxl]
        · simp [World.freeze, hxl]
        · simp [World.freeze, hxl]
        · have : k ≠ gb' := fun e' => hkr (by rw [e']; simp [Ent.key, hv, Value.ownBlock])
          simp only [World.freeze, hxl, if_false]
          rw [Array.getElem?_modify]
          simp [Ne.symm this]
        · show (w.freeze ⟨gb', 0, none⟩ xs.length).heap[gb']? = _
          simp only [World.freeze, hxl, if_false]
          rw [Array.getElem?_modify]
          simp [hg]
        · simp [Ent.key] at hb; subst hb; simp [Ent.key, hv, Value.ownBlock]
      have hC2 : Cw w0 f (L.eraseIdx i) (w.freeze ⟨gb', 0, none⟩ xs.length) := by
        have e1 : (L.set i (.blk gb' (.cells cur e (0, xs.length)))).eraseIdx i = L.eraseIdx i := by
          apply List.ext_getElem?
          intro j
          rw [List.getElem?_eraseIdx, List.getElem?_eraseIdx]
          split
          · rw [List.getElem?_set_ne (by omega)]
          · rw [List.getElem?_set_ne (by omega)]
        rw [← e1]
        exact hC.sub (List.eraseIdx_sublist ..)
      refine RL_v hs (.free rfl) (.to rfl hd) (v := .string (bytesOf xs)) (w' := w.freeze ⟨gb', 0, none⟩ xs.length) (f' := f) (L' := L.eraseIdx i) ?_ hC2 h
      rw [hpe] at hx
      simp only [execOp, resolve, invoke, builtin, Sem.run_bind, Sem.run_pure, Result.andThen_ok, List.map_toArray, List.map_cons, List.map_nil, hs.ev.eval hx, hs.ev.eval hy, hrun]
end
def baddr (b : Nat) (u : Bool) : Value := bif u then .pointer (some ⟨b,0, none⟩) else .pointer none
structure Builder where
  addr : Bool
  buf : List Int
end
section
open Go.RowKit
section
variable {P : Program} {f : Fz} {L : List Ent} {w0 w : World} {n : Nat} {E : List (Nat × Value)} {a : Act}
variable {ops : Array Oper} {rest : List Oper} {K : AP} {d : Option Tmp} {ty : TypeId} {pos : String} {af : Array Edge}
theorem RL_guard {j gd : Nat} {b : Bool} {op : Op} (hs : St n w0 f L E a w) (hg : (ops[j]?).bind (·.dst) = some gd) (hl : look E gd = some (.bool b))
    (h : RL P ops (⟨d, op, ty, pos, af, none⟩ :: rest) K a w) : RL P ops (⟨d, op, ty, pos, af, some (j, b)⟩ :: rest) K a w := by
  have h' := h.d
  refine ⟨?_⟩
  unfold RLd at h' ⊢
  have w1 : Region.wanted (⟨d, op, ty, pos, af, some (j, b)⟩ : Oper) (yielded ops a.tmps) = true := Want.wanted hs.ev (.yes rfl hg hl)
  have w2 : Region.wanted (⟨d, op, ty, pos, af, none⟩ : Oper) (yielded ops a.tmps) = true := Want.wanted hs.ev (.free rfl)
  rw [if_pos w2] at h'
  rw [if_pos w1]
  exact h'
end
end
section
open Go.RowKit
def SMapK {κ : Type} (ke : κ → Value) (l : List MapEntry) (m : List (κ × Value)) : Prop := l.map (fun e => (e.key, e.val)) = m.map fun p => (ke p.1, p.2)
section
variable {κ : Type} [DecidableEq κ]
def kfind (k : κ) : List (κ × Value) → Nat → Option (Nat × Value)
  | [], _ => none
  | p :: m, i => if p.1 = k then some (i, p.2) else kfind k m (i + 1)
variable {P : Program}
end
section
variable {P : Program} {ops : Array Oper} {rest : List Oper} {n : Nat} {w0 w : World} {f f' : Fz} {L L' : List Ent} {E E' : List (Nat × Value)} {a : Act} {K : AP} {v : Value}
variable {ty : TypeId} {pos : String} {af : Array Edge} {d : Option Tmp} {g : Option (Nat × Bool)} {C : World → Prop} {κ α : Type} [DecidableEq κ]
end
end
section
open Go.RowKit
section
variable {P : Program} {n : Nat} {E : List (Nat × Value)} {C : World → Prop}
variable {d : Option Tmp} {ty : TypeId} {pos : String} {af : Array Edge} {g : Option (Nat × Bool)}
def PartIs (P : Program) (t : TypeId) (xs : Array Value) (off : Nat) (v : Value) : Prop := ∀ w,(part t xs off).run P w = .ok v w
theorem PartIs.one {t : TypeId} {xs : Array Value} {off : Nat} {v : Value} {dsc : TypeDesc} (hu : P.underlying t = some dsc) (hx : xs[off]? = some v) (ha : (match dsc with | .struct _ => true | .array _ _ => true | _ => false) = false := by rfl) : PartIs P t xs off v := fun w => by
  cases dsc <;> first | (simp at ha; done) | simp [part, isAgg, run_underlying hu, hx]
def EqIs (P : Program) (dp : Nat) (t : TypeId) (a b : Value) (c : Bool) : Prop := ∀ w,(Op.equalIn dp t a b).run P w = .ok c w
def EqFs (P : Program) (dp : Nat) (xs ys : Array Value) (fs : List Field) (c : Bool) : Prop := ∀ w,(Op.eqFields dp xs ys fs).run P w = .ok c w
def EqEs (P : Program) (dp : Nat) (e : TypeId) (k : Nat) (xs ys : Array Value) (is : List Nat) (c : Bool) : Prop := ∀ w,(Op.eqItems dp e k xs ys is).run P w = .ok c w
variable {dp : Nat} {xs ys : Array Value} {fd : Field} {fs : List Field} {c c0 : Bool} {t e : TypeId} {a b : Value}
theorem EqIs.int {k : IntKind} {i j : Int} (hu : P.underlying t = some (.int k)) : EqIs P (dp + 1) t (.int k i) (.int k j) (decide (i = j)) := fun w => by
  by_cases e : i = j <;> simp [run_equalIn_int _ _ _ k k _ _ hu, e]
theorem EqIs.bool {i j : Bool} (hu : P.underlying t = some .bool) : EqIs P (dp + 1) t (.bool i) (.bool j) (i == j) := fun w => by
  cases i <;> cases j <;> simp [run_equalIn_bool' _ _ _ _ _ hu]
theorem EqFs.nil : EqFs P dp xs ys [] true := fun w => by simp [Op.eqFields]
theorem EqFs.cons (hn : (fd.name == "_") = false) (pa : PartIs P fd.type xs fd.offset a) (pb : PartIs P fd.type ys fd.offset b) (h0 : EqIs P dp fd.type a b c0) (h : EqFs P dp xs ys fs c) : EqFs P dp xs ys (fd :: fs) (c0 && c) := fun w => by
  have hn' : fd.name ≠ "_" := by simpa using hn
  cases c0 <;> simp [Op.eqFields, hn', pa w, pb w, h0 w, h w]
theorem EqEs.nil {k : Nat} : EqEs P dp e k xs ys [] true := fun w => by simp [Op.eqItems]
theorem EqEs.cons {k i : Nat} {is : List Nat} (pa : PartIs P e xs (i * k) a) (pb : PartIs P e ys (i * k) b) (h0 : EqIs P dp e a b c0) (h : EqEs P dp e k xs ys is c) : EqEs P dp e k xs ys (i :: is) (c0 && c) := fun w => by
  cases c0 <;> simp [Op.eqItems, pa w, pb w, h0 w, h w]
theorem EqIs.st {fs : Array Field} (ht : P.underlying t = some (.struct fs)) (hp : P.stoodInHeld t = false) (h : EqFs P dp xs ys fs.toList c) : EqIs P (dp + 1) t (.agg xs) (.agg ys) c := fun w => by
  have e1 := run_equalIn_agg (P := P) w dp t xs ys (by rw [znz ht]; exact ht) hp
  rw [znz ht, h w] at e1
  exact e1
theorem y_deql {x y : Operand} {t' : TypeId} (hx : opv E x = some (.agg xs)) (hy : opv E y = some (.agg ys)) (hg : P.eqGuardType P.depth t = false) (h : EqIs P 10000 t (.agg xs) (.agg ys) c) : Y P C n E ⟨d, .binOp .eql t x y t', ty, pos, af, g⟩ (.bool c) :=
  .of fun a ha w _ => by
    simp only [execOp, ha.eval hx, ha.eval hy, Sem.run_bind, run_eqGuard_agg w .eql t x y xs ys hg, run_eql_struct, h w, Result.andThen_ok, Sem.run_pure]
theorem y_dneq {x y : Operand} {t' : TypeId} (hx : opv E x = some (.agg xs)) (hy : opv E y = some (.agg ys)) (hg : P.eqGuardType P.depth t = false) (h : EqIs P 10000 t (.agg xs) (.agg ys) c) : Y P C n E ⟨d, .binOp .neq t x y t', ty, pos, af, g⟩ (.bool (!c)) :=
  .of fun a ha w _ => by
    simp only [execOp, ha.eval hx, ha.eval hy, Sem.run_bind, run_eqGuard_agg w .neq t x y xs ys hg, run_neq_struct, h w, Result.andThen_ok, Sem.run_pure]
end
end
section
open Go.RowKit
section
variable {P : Program} {n : Nat} {E : List (Nat × Value)} {C : World → Prop}
variable {d : Option Tmp} {ty : TypeId} {pos : String} {af : Array Edge} {g : Option (Nat × Bool)}
end
end
section
open Go.RowKit
def RP (bs : List Nat) (v : Value) (i : Int) : Prop := (i = -1 ∧ v = .pointer none) ∨ ∃ b, v = .pointer (some ⟨b,0, none⟩) ∧ 0 ≤ i ∧ bs[i.toNat]? = some b
theorem RP.nil {bs : List Nat} : RP bs (.pointer none) (-1) := .inl ⟨rfl, rfl⟩
theorem ztv {α : Type} {l l' : List α} (h : l <+: l') {i : Nat} {x : α} (hx : l[i]? = some x) : l'[i]? = some x := by
  obtain ⟨r, rfl⟩ := h
  rw [List.getElem?_append_left (List.getElem?_eq_some_iff.1 hx).1]; exact hx
theorem RP.grow {bs bs' : List Nat} {v : Value} {i : Int} (h : RP bs v i) (hb : bs <+: bs') : RP bs' v i := by
  rcases h with h | ⟨b, h1, h2, h3⟩
  · exact .inl h
  · exact .inr ⟨b, h1, h2, ztv hb h3⟩
theorem RP.one {bs : List Nat} {v : Value} {i : Int} (h : RP bs v i) : v.oneCell' = true := by
  rcases h with ⟨_, rfl⟩ | ⟨b, rfl, _⟩ <;> rfl
def tP (bs : List Nat) : Ty Int := ⟨1, fun _ r x => ∃ v, r = [v] ∧ RP bs v x, fun h _ => h, fun ⟨v, e, h⟩ => by subst e; exact ⟨rfl, by simp [h.one]⟩⟩
theorem RW.grow {bs bs' : List Nat} {f : Fz} (hb : bs <+: bs') : ∀ {rows : List (List Value)} {xs : List Int}, RW (tP bs) f rows xs → RW (tP bs') f rows xs
  | [],[], _ => trivial
  | _ :: _, _ :: _, ⟨⟨v, h1, h2⟩, h3⟩ => ⟨⟨v, h1, h2.grow hb⟩, RW.grow hb h3⟩
  | [], _ :: _, h => h.elim
  | _ :: _,[], h => h.elim
theorem RW.anyP {bs : List Nat} {f f' : Fz} : ∀ {rows : List (List Value)} {xs : List Int}, RW (tP bs) f rows xs → RW (tP bs) f' rows xs
  | [],[], _ => trivial
  | _ :: _, _ :: _, ⟨h, h3⟩ => ⟨h, RW.anyP h3⟩
  | [], _ :: _, h => h.elim
  | _ :: _,[], h => h.elim
structure NSh (α : Type) where
  R : Fz → List Nat → Nat → α → List Ent → Prop
  mono : ∀ {f f' : Fz} {bs bs' : List Nat} {b : Nat} {x : α} {l : List Ent}, R f bs b x l → Fz.le f f' → bs <+: bs' → R f' bs' b x l
  key : ∀ {f : Fz} {bs : List Nat} {b : Nat} {x : α} {l : List Ent}, R f bs b x l → ∃ cs e l', l = .blk b (.cells cs e (0,0)) :: l'
section
variable {α : Type} {S : NSh α} {f f' : Fz} {bs bs' : List Nat} {A : List α} {H : List Nat} {L0 L L' X : List Ent} {v : Value} {i : Int} {j : Nat} {x : α} {b : Nat} {l : List Ent}
theorem perm3 {α : Type} (X G R : List α) : (X ++ (G ++ R)).Perm (G ++ (X ++ R)) := by
  rw [← List.append_assoc, ← List.append_assoc]
  exact List.perm_append_comm.append_right _
def rest (n : Nat) (H : List Nat) : List Nat := (List.range n).filter fun i => !H.contains i
def AR (S : NSh α) (f : Fz) (bs : List Nat) (A : List α) (H : List Nat) (L0 L : List Ent) : Prop :=
  bs.length = A.length ∧ bs.Nodup ∧ ∃ G : Nat → List Ent,(∀ i x b, i ∉ H → A[i]? = some x → bs[i]? = some b → S.R f bs b x (G i)) ∧ L.Perm ((rest A.length H).flatMap G ++ L0)
theorem AR.nil {L : List Ent} : AR S f [] [] [] L L := ⟨rfl, List.nodup_nil, fun _ => [], fun _ _ _ _ h => by simp at h, .refl _⟩
theorem AR.le (h : AR S f bs A H L0 L) (hf : Fz.le f f') : AR S f' bs A H L0 L := by
  obtain ⟨h1, h2, G, h3, h4⟩ := h
  exact ⟨h1, h2, G, fun i x b g1 g2 g3 => S.mono (h3 i x b g1 g2 g3) hf (List.prefix_refl _), h4⟩
theorem AR.nodup (h : AR S f bs A H L0 L) : bs.Nodup := h.2.1
theorem zow {n j : Nat} {H : List Nat} (hj : j < n) (hh : j ∉ H) : (rest n H).Perm (j :: rest n (j :: H)) := by
  have hm : j ∈ rest n H := by simp [rest, hj, hh]
  have hn : (rest n H).Nodup := List.nodup_range.filter _
  refine (List.perm_cons_erase hm).trans (.cons _ ?_)
  rw [hn.erase_eq_filter]
  unfold rest
  rw [List.filter_filter]
  refine List.Perm.of_eq (List.filter_congr fun i _ => ?_)
  by_cases hi : i = j
  · subst hi; simp
  · simp [hi]
def focM {α : Type} (A : List α) (H : List Nat) (i : Int) : Option α := bif H.contains i.toNat then none else geti A i
theorem zdu {A : List α} {H : List Nat} {i : Int} {x : α} (h : focM A H i = some x) : i.toNat ∉ H ∧ geti A i = some x := by
  unfold focM at h
  cases hc : H.contains i.toNat with
  | true => rw [hc] at h; cases h
  | false => rw [hc] at h; exact ⟨by simpa using hc, h⟩
theorem RP.at (hp : RP bs v i) (h : geti A i = some x) (_ : bs.length = A.length) : ∃ b, v = .pointer (some ⟨b,0, none⟩) ∧ bs[i.toNat]? = some b ∧ A[i.toNat]? = some x := by
  obtain ⟨h1, h2⟩ := zjx h
  rcases hp with ⟨rfl, _⟩ | ⟨b, g1, g2, g3⟩
  · simp at h1
  · exact ⟨b, g1, g3, h2⟩
end
section
variable {α : Type} {S : NSh α} {P : Program} {f f' : Fz} {bs bs' : List Nat} {A A' : List α} {H : List Nat} {L0 L L' X : List Ent} {v : Value} {i : Int} {j : Nat} {x : α} {b : Nat} {l : List Ent}
variable {w0 w w' : World} {n m : Nat} {E E' : List (Nat × Value)} {a : Act}
variable {ops : Array Oper} {rst : List Oper} {o : Oper} {K : AP} {C : World → Prop} {op : Op}
variable {d : Option Tmp} {ty : TypeId} {pos : String} {af : Array Edge} {g : Option (Nat × Bool)}
theorem St.perm (hs : St n w0 f L E a w) (hp : L.Perm L') : St n w0 f L' E a w := ⟨hs.ev, hs.cw.perm hp⟩
theorem AR.focus (X : List Ent) (h : AR S f bs A H L0 L) (hs : St n w0 f (X ++ L) E a w) (hx : focM A H i = some x) (hp : RP bs v i) :
    ∃ b l L1, v = .pointer (some ⟨b,0, none⟩) ∧ RP bs (.pointer (some ⟨b,0, none⟩)) i ∧ S.R f bs b x l ∧ AR S f bs A (i.toNat :: H) L0 L1 ∧ St n w0 f (l ++ (X ++ L1)) E a w := by
  obtain ⟨h1, h2, G, h3, h4⟩ := h
  obtain ⟨hh, hg⟩ := zdu hx
  obtain ⟨b, rfl, hb, hA⟩ := hp.at hg h1
  have hlt : i.toNat < A.length := (List.getElem?_eq_some_iff.1 hA).1
  refine ⟨b, G i.toNat,(rest A.length (i.toNat :: H)).flatMap G ++ L0, rfl, hp, h3 _ _ _ hh hA hb, ⟨h1, h2, G, fun k y c g1 g2 g3 => h3 k y c (fun q => g1 (List.mem_cons_of_mem _ q)) g2 g3, .refl _⟩, hs.perm ?_⟩
  have p1 : L.Perm (G i.toNat ++ ((rest A.length (i.toNat :: H)).flatMap G ++ L0)) := by
    refine h4.trans ?_
    rw [← List.append_assoc]
    refine List.Perm.append_right _ ?_
    exact (List.Perm.flatMap_right G (zow hlt hh)).trans (.of_eq (by simp))
  exact (p1.append_left X).trans (perm3 _ _ _)
theorem key_sep {X : List Ent} {o : Obj} (h : Cw w0 f (X ++ .blk b o :: L) w) (e : Ent) (he : e ∈ X ++ L) (hk : e.key = some b) : False := by
  have hp : (X ++ .blk b o :: L).Perm (.blk b o :: (X ++ L)) := List.perm_middle
  have hc := h.perm hp
  obtain ⟨k, hk'⟩ := List.getElem?_of_mem he
  exact hc.sep 0 (k + 1) _ _ rfl (by simpa using hk') (by omega) b rfl hk
theorem AR.unfocus (X : List Ent) (h : AR S f bs A (j :: H) L0 L) (hs : St n w0 f (l ++ (X ++ L)) E a w) (hh : j ∉ H) (hb : RP bs (.pointer (some ⟨b,0, none⟩)) (j : Int)) (hR : S.R f bs b x l) :
    ∃ L1, AR S f bs (A.set j x) H L0 L1 ∧ St n w0 f (X ++ L1) E a w := by
  obtain ⟨h1, h2, G, h3, h4⟩ := h
  have hj : bs[j]? = some b := by
    rcases hb with ⟨q, _⟩ | ⟨c, q, _, r⟩
    · omega
    · cases q; simpa using r
  have hlt : j < A.length := by rw [← h1]; exact (List.getElem?_eq_some_iff.1 hj).1
  refine ⟨l ++ L, ⟨by simpa using h1, h2, fun k => if k = j then l else G k, fun k y c g1 g2 g3 => ?_, ?_⟩, hs.perm ?_⟩
  · by_cases hk : k = j
    · subst hk
      rw [List.getElem?_set_self hlt] at g2
      cases g2
      rw [hj] at g3
      cases g3
      simpa using hR
    · rw [List.getElem?_set_ne (by omega)] at g2
      simp only [hk, if_false]
      exact h3 k y c (by simp [hk, g1]) g2 g3
  · have e1 : (rest A.length (j :: H)).flatMap (fun k => if k = j then l else G k) = (rest A.length (j :: H)).flatMap G := by
      unfold List.flatMap
      congr 1
      refine List.map_congr_left fun k hk => ?_
      have : k ≠ j := by
        intro q; subst q
        simp [rest] at hk
      simp [this]
    refine ((h4.append_left l).trans ?_).trans ((List.Perm.flatMap_right _ (zow (by simpa using hlt) hh)).symm.append_right L0)
    rw [List.length_set, List.flatMap_cons, e1]
    simp
  · exact perm3 _ _ _
theorem AR.adopt (X : List Ent) (h : AR S f bs A [] L0 L) (hs : St n w0 f (l ++ (X ++ L)) E a w) (hR : S.R f (bs ++ [b]) b x l) :
    ∃ bs' L1, bs <+: bs' ∧ AR S f bs' (A ++ [x]) [] L0 L1 ∧ RP bs' (.pointer (some ⟨b,0, none⟩)) (A.length : Int) ∧ St n w0 f (X ++ L1) E a w := by
  obtain ⟨h1, h2, G, h3, h4⟩ := h
  obtain ⟨ocs, oe, l', rfl⟩ := S.key hR
  have hpre : bs <+: bs ++ [b] := List.prefix_append _ _
  have hnin : b ∉ bs := by
    intro hb
    obtain ⟨k, hk⟩ := List.getElem?_of_mem hb
    have hlt : k < A.length := by rw [← h1]; exact (List.getElem?_eq_some_iff.1 hk).1
    have hRk := h3 k A[k] b (by simp) (List.getElem?_eq_getElem hlt) hk
    obtain ⟨cs2, oe2, l2, e2⟩ := S.key hRk
    have hmem : Ent.blk b (.cells cs2 oe2 (0,0)) ∈ L := by
      rw [h4.mem_iff]
      refine List.mem_append_left _ (List.mem_flatMap.2 ⟨k, by simp [rest, hlt], ?_⟩)
      rw [e2]; simp
    exact key_sep (X := []) (by simpa using hs.cw) (.blk b (.cells cs2 oe2 (0,0))) (by simp [hmem]) rfl
  refine ⟨bs ++ [b],(.blk b (.cells ocs oe (0,0)) :: l') ++ L, hpre, ⟨by simp [h1], ?_, fun k => if k = A.length then .blk b (.cells ocs oe (0,0)) :: l' else G k, fun k y c _ g2 g3 => ?_, ?_⟩, .inr ⟨b, rfl, by omega, by simp [← h1]⟩, hs.perm ?_⟩
  · rw [List.nodup_append]
    refine ⟨h2, by simp, ?_⟩
    intro p hp q hq
    simp at hq; subst hq
    intro e; subst e; exact hnin hp
  · by_cases hk : k = A.length
    · subst hk
      rw [List.getElem?_append_right (Nat.le_refl _)] at g2
      rw [List.getElem?_append_right (by omega)] at g3
      simp [h1] at g2 g3
      subst g2; subst g3
      simpa using hR
    · have hlt : k < A.length := by
        have := (List.getElem?_eq_some_iff.1 g2).1
        simp at this; omega
      rw [List.getElem?_append_left hlt] at g2
      rw [List.getElem?_append_left (by omega)] at g3
      simp only [hk, if_false]
      exact S.mono (h3 k y c (by simp) g2 g3) (Fz.le.refl _) hpre
  · have e0 : rest (A ++ [x]).length [] = rest A.length [] ++ [A.length] := by
      simp [rest, List.range_succ]
    have e1 : (rest A.length []).flatMap (fun k => if k = A.length then .blk b (.cells ocs oe (0,0)) :: l' else G k) = (rest A.length []).flatMap G := by
      unfold List.flatMap
      congr 1
      refine List.map_congr_left fun k hk => ?_
      have : k ≠ A.length := by
        intro q; subst q
        simp [rest] at hk
      simp [this]
    rw [e0, List.flatMap_append, e1]
    refine (h4.append_left _).trans ?_
    rw [← List.append_assoc]
    refine List.Perm.append_right _ ?_
    refine List.perm_append_comm.trans (.of_eq ?_)
    simp
  · exact perm3 _ _ _
theorem AR.drop (X : List Ent) (h : AR S f bs A H L0 L) (hs : St n w0 f (X ++ L) E a w) : St n w0 f (X ++ L0) E a w := by
  obtain ⟨h1, h2, G, h3, h4⟩ := h
  exact (hs.perm (h4.append_left X)).subL ((List.Sublist.refl _).append (List.sublist_append_right _ _))
def DoesA (S : NSh α) (P : Program) (fn : FuncId) (args : List Value) (f : Fz) (Lr : List Ent) (bs : List Nat) (A A' : List α) (R : Value → Fz → List Nat → List Ent → Prop) : Prop :=
  ∀ w0 L0 L w, AR S f bs A [] L0 L → Cw w0 f (Lr ++ L) w → Calls P fn args.toArray w fun e w' =>
    ∃ v f' bs' L' LA, e = .returned v ∧ Fz.le f f' ∧ bs <+: bs' ∧ AR S f' bs' A' [] L0 LA ∧ Cw w0 f' (L' ++ LA) w' ∧ R v f' bs' L'
theorem DoesA.at {fn : FuncId} {args : List Value} {Lr : List Ent} {R : Value → Fz → List Nat → List Ent → Prop} (hp : DoesA S P fn args f Lr bs A A' R) (h : AR S f bs A [] L0 L) (hC : Cw w0 f (Lr ++ (X ++ L)) w) :
    Calls P fn args.toArray w fun e w' => ∃ v f' bs' L' LA, e = .returned v ∧ Fz.le f f' ∧ bs <+: bs' ∧ AR S f' bs' A' [] L0 LA ∧ Cw w0 f' (L' ++ (X ++ LA)) w' ∧ R v f' bs' L' := by
  obtain ⟨h1, h2, G, h3, h4⟩ := h
  refine (hp w0 (X ++ L0) (X ++ L) w ⟨h1, h2, G, h3, ?_⟩ hC).mono ?_
  · exact (h4.append_left X).trans (perm3 _ _ _)
  · rintro e w' ⟨v, f', bs', L', LA, rfl, g1, g2, ⟨k1, k2, G', k3, k4⟩, g4, g5⟩
    refine ⟨v, f', bs', L', (rest A'.length []).flatMap G' ++ L0, rfl, g1, g2, ⟨k1, k2, G', k3, .refl _⟩, g4.perm (List.Perm.append_left _ ?_), g5⟩
    exact k4.trans (perm3 _ _ _)
theorem zhe {gn : FuncId} {y : Operand} {cap : Array Value} {as : List Operand} {vs : List Value} {ats : Array TypeId} {Lr : List Ent} {R : Value → Fz → List Nat → List Ent → Prop} (X : List Ent) (hA : AR S f bs A [] L0 L) (hs : St n w0 f (Lr ++ (X ++ L)) E a w) {dd : Nat}
    (hx : opv E y = some (.func (.func gn) #[] cap)) (hg : Has P gn) (hv : as.mapM (opv E) = some vs) (hp : DoesA S P gn (vs ++ cap.toList) f Lr bs A A' R)
    (hw : Want ops E ⟨some dd, .call { callee := .value y, args := as.toArray, argTypes := ats }, ty, pos, af, g⟩ true) (hd : dd < n)
    (h : ∀ v f' bs' L' LA a w, Fz.le f f' → bs <+: bs' → AR S f' bs' A' [] L0 LA → R v f' bs' L' → St n w0 f' (L' ++ (X ++ LA)) ((dd, v) :: E) a w → RL P ops rst K a w) :
    RL P ops (⟨some dd, .call { callee := .value y, args := as.toArray, argTypes := ats }, ty, pos, af, g⟩ :: rst) K a w := by
  refine zk5 fun K' hK' => ?_
  rw [if_pos (hw.wanted hs.ev)]
  unfold opS
  rw [zg2 hs.ev hx hg hv]
  have := hp.at hA hs.cw
  rw [show (vs ++ cap.toList).toArray = vs.toArray ++ cap from by simp] at this
  refine this.mono ?_
  rintro e w' ⟨v, f', bs', L', LA, rfl, h1, h2, h3, h4, h5⟩
  exact ⟨v, rfl, hK' _ _ (h v f' bs' L' LA _ _ h1 h2 h3 h5 ⟨hs.ev.put hd v, h4⟩)⟩
theorem zme {t u : TypeId} (ht : P.underlying t = some (.pointer u)) (hp : RP bs v i) (w : World) : (Op.equal t v (.pointer none)).run P w = .ok (decide (i = -1)) w := by
  rcases hp with ⟨rfl, rfl⟩ | ⟨b, rfl, h2, _⟩
  · exact ze7 (fun d => by simp [Op.equalIn, run_underlying ht]) rfl
  · have : ¬ i = -1 := by omega
    simp only [this, decide_false]
    exact ze7 (fun d => by simp [Op.equalIn, run_underlying ht]) rfl
theorem zv3 {l : List Nat} (h : l.Nodup) {i j : Nat} {x : Nat} (hi : l[i]? = some x) (hj : l[j]? = some x) : i = j := by
  obtain ⟨l1, e1⟩ := List.getElem?_eq_some_iff.1 hi
  obtain ⟨l2, e2⟩ := List.getElem?_eq_some_iff.1 hj
  rcases Nat.lt_trichotomy i j with hlt | he | hlt
  · exact absurd (e1.trans e2.symm) (List.pairwise_iff_getElem.1 h i j l1 l2 hlt)
  · exact he
  · exact absurd (e2.trans e1.symm) (List.pairwise_iff_getElem.1 h j i l2 l1 hlt)
def PBH (L : List Ent) (bs : List Nat) (H : List Nat) : Prop := ∀ j b, j ∉ H → bs[j]? = some b → ∃ cs e, .blk b (.cells cs e (0,0)) ∈ L
theorem AR.pbh (h : AR S f bs A H L0 L) : PBH L bs H := fun j b hj hb => by
  obtain ⟨h1, h2, G, h3, h4⟩ := h
  have hlt : j < A.length := by rw [← h1]; exact (List.getElem?_eq_some_iff.1 hb).1
  obtain ⟨cs, e, l', hl⟩ := S.key (h3 j _ b hj (List.getElem?_eq_getElem hlt) hb)
  refine ⟨cs, e, ?_⟩
  rw [h4.mem_iff]
  refine List.mem_append_left _ (List.mem_flatMap.2 ⟨j, by simp [rest, hlt, hj], ?_⟩)
  rw [hl]; simp
theorem PBH.app (h : PBH L bs H) (X : List Ent) : PBH (X ++ L) bs H := fun j b hj hb => by
  obtain ⟨cs, e, hm⟩ := h j b hj hb
  exact ⟨cs, e, List.mem_append_right _ hm⟩
theorem PBH.hole {cs : Array Value} {e : TypeId} (h : PBH L bs (i.toNat :: H)) (hp : RP bs (.pointer (some ⟨b,0, none⟩)) i) (hm : .blk b (.cells cs e (0,0)) ∈ L) : PBH L bs H := fun j c hj hc => by
  by_cases hi : j = i.toNat
  · subst hi
    rcases hp with ⟨_, q⟩ | ⟨b', q, _, r⟩
    · cases q
    · cases q
      rw [r] at hc
      cases hc
      exact ⟨cs, e, hm⟩
  · exact h j c (by simp [hi, hj]) hc
theorem equal_pp {t u : TypeId} {k by_ : Nat} {z : Value} (ht : P.underlying t = some (.pointer u)) (hT : TI P u k by_ z) (hk : 0 < k) (hn : bs.Nodup) (hpb : PBH L bs []) {v' : Value} {i' : Int} (hp : RP bs v i) (hq : RP bs v' i') (hC : Cw w0 f L w) : (Op.equal t v v').run P w = .ok (decide (i = i')) w := by
  rcases hq with ⟨rfl, rfl⟩ | ⟨b', rfl, h2', h3'⟩
  · exact zme ht hp w
  · rcases hp with ⟨rfl, rfl⟩ | ⟨b, rfl, h2, h3⟩
    · have : ¬ -1 = i' := by omega
      simp only [this, decide_false]
      exact ze7 (fun d => by simp [Op.equalIn, run_underlying ht]) rfl
    · obtain ⟨it, hit, _, hk', _⟩ := hT
      have hz : ¬ it.size = 0 := by omega
      by_cases hi : i = i'
      · subst hi
        rw [h3] at h3'
        cases h3'
        have := run_sameAddr_same (P := P) (w := w) ⟨b', 0, none⟩
        simp only [decide_true]
        exact ze7 (fun d => by simp [Op.equalIn, run_underlying ht, sizeOf, typeInfo, hit, hz, this]) rfl
      · have hb : ¬ b = b' := by
          intro e; subst e
          have := zv3 hn h3 h3'
          omega
        obtain ⟨cs, e, hm⟩ := hpb _ _ (by simp) h3
        obtain ⟨cs', e', hm'⟩ := hpb _ _ (by simp) h3'
        have hh := hC.live _ hm
        have hh' := hC.live _ hm'
        have := run_sameAddr_other (P := P) (w := w) (a := ⟨b,0, none⟩) (b := ⟨b', 0, none⟩) (fun q => hb (by cases q; rfl)) hh hh'
        simp only [hi, decide_false]
        exact ze7 (fun d => by simp [Op.equalIn, run_underlying ht, sizeOf, typeInfo, hit, hz, this]) rfl
theorem y_apnil {p q : Operand} {t t' u : TypeId} (hx : opv E p = some v) (hy : opv E q = some (.pointer none)) (hp : RP bs v i) (ht : P.underlying t = some (.pointer u)) :
    Y P C n E ⟨d, .binOp .eql t p q t', ty, pos, af, g⟩ (.bool (decide (i = -1))) :=
  .of fun a ha w _ => by
    simp only [execOp, ha.eval hx, ha.eval hy, eqGuard, binOp, Sem.run_bind, Sem.run_pure, zme ht hp, Result.andThen_ok]
    rfl
theorem zp8 {p q : Operand} {t t' u : TypeId} (hx : opv E p = some v) (hy : opv E q = some (.pointer none)) (hp : RP bs v i) (ht : P.underlying t = some (.pointer u)) :
    Y P C n E ⟨d, .binOp .neq t p q t', ty, pos, af, g⟩ (.bool (!decide (i = -1))) :=
  .of fun a ha w _ => by
    simp only [execOp, ha.eval hx, ha.eval hy, eqGuard, binOp, Sem.run_bind, Sem.run_pure, zme ht hp, Result.andThen_ok]
    rfl
theorem y_apeq {p q : Operand} {t t' u : TypeId} {k by_ : Nat} {z : Value} {v' : Value} {i' : Int} (hn : bs.Nodup) (hpb : PBH L bs []) (hx : opv E p = some v) (hy : opv E q = some v') (hp : RP bs v i) (hq : RP bs v' i') (ht : P.underlying t = some (.pointer u)) (hT : TI P u k by_ z) (hk : 0 < k) :
    Y P (Cw w0 f L) n E ⟨d, .binOp .eql t p q t', ty, pos, af, g⟩ (.bool (decide (i = i'))) :=
  .of fun a ha w hw => by
    have key := equal_pp ht hT hk hn hpb hp hq hw
    rcases hp with ⟨_, rfl⟩ | ⟨b, rfl, _⟩ <;> rcases hq with ⟨_, rfl⟩ | ⟨b', rfl, _⟩ <;>
    · simp only [execOp, ha.eval hx, ha.eval hy, eqGuard, binOp, Sem.run_bind, Sem.run_pure]
      have e1 : ∀ w1,(Sem.run P (pure () : Sem Unit) w1) = .ok () w1 := fun w1 => Sem.run_pure _ _ _
      simp only [Bool.not_true, Bool.false_eq_true, if_false, Sem.run_pure, Result.andThen_ok]
      rw [key]
      rfl
theorem y_max2 {t1 t2 : TypeId} {x y : Operand} {k : IntKind} {i j : Int} (hx : opv E x = some (.int k i)) (hy : opv E y = some (.int k j)) :
    Y P C n E ⟨d, .call { callee := .builtin .max, args := #[x, y], argTypes := #[t1, t2] }, ty, pos, af, g⟩ (.int k (bif decide (i < j) then j else i)) :=
  .of fun a ha w _ => by
    by_cases h : i < j <;> simp [execOp, resolve, invoke, builtin, ha.eval hx, ha.eval hy, Builtin.max_, Builtin.max2, h]
end
end
section
open Go.RowKit
section
variable {α : Type} {S : NSh α} {P : Program} {f f' : Fz} {bs bs' : List Nat} {A A' : List α} {H : List Nat} {L0 L L' X : List Ent} {v : Value} {i : Int} {j : Nat} {x : α} {b : Nat} {l : List Ent}
variable {w0 w w' : World} {n m : Nat} {E E' : List (Nat × Value)} {a : Act}
def setM {α : Type} (A : List α) (i : Int) (x : α) : List α := A.set i.toNat x
theorem RP.ptr (hp : RP bs v i) (hx : focM A H i = some x) : ∃ b, v = .pointer (some ⟨b,0, none⟩) := by
  rcases hp with ⟨rfl, _⟩ | ⟨b, g, _⟩
  · have := (zjx (zdu hx).2).1
    simp at this
  · exact ⟨b, g⟩
theorem AR.focusP (X : List Ent) (h : AR S f bs A H L0 L) (hs : St n w0 f (X ++ L) E a w) (hx : focM A H i = some x) (hp : RP bs (.pointer (some ⟨b,0, none⟩)) i) :
    ∃ l L1, S.R f bs b x l ∧ AR S f bs A (i.toNat :: H) L0 L1 ∧ St n w0 f (l ++ (X ++ L1)) E a w := by
  obtain ⟨b', l, L1, e, _, h2, h3, h4⟩ := AR.focus X h hs hx hp
  cases e
  exact ⟨l, L1, h2, h3, h4⟩
theorem AR.unfocusI (X : List Ent) (h : AR S f bs A (i.toNat :: H) L0 L) (hs : St n w0 f (l ++ (X ++ L)) E a w) (hh : i.toNat ∉ H) (hb : RP bs (.pointer (some ⟨b,0, none⟩)) i) (hR : S.R f bs b x l) :
    ∃ L1, AR S f bs (setM A i x) H L0 L1 ∧ St n w0 f (X ++ L1) E a w := by
  refine AR.unfocus X h hs hh ?_ hR
  rcases hb with ⟨_, q⟩ | ⟨c, q, h0, r⟩
  · cases q
  · cases q
    exact .inr ⟨b, rfl, by omega, by rw [Int.toNat_natCast]; exact r⟩
theorem AR.unfocusS (X : List Ent) (h : AR S f bs A (i.toNat :: H) L0 L) (hs : St n w0 f (l ++ (X ++ L)) E a w) (hx : focM A H i = some x) (hb : RP bs (.pointer (some ⟨b,0, none⟩)) i) (hR : S.R f bs b x l) :
    ∃ L1, AR S f bs A H L0 L1 ∧ St n w0 f (X ++ L1) E a w := by
  have := AR.unfocusI X h hs (zdu hx).1 hb hR
  have e : setM A i x = A := by
    have h2 := (zjx (zdu hx).2).2
    unfold setM
    apply List.ext_getElem?
    intro k
    rw [List.getElem?_set]
    split
    · subst_vars
      split
      · exact h2.symm
      · rename_i hlt
        rw [List.getElem?_eq_none (by omega)]
    · rfl
  rwa [e] at this
theorem AR.peek (h : AR S f bs A H L0 L) (hx : focM A H i = some x) (hp : RP bs v i) : ∃ b, v = .pointer (some ⟨b,0, none⟩) ∧ ∃ l, S.R f bs b x l ∧ ∀ e ∈ l, e ∈ L := by
  obtain ⟨h1, h2, G, h3, h4⟩ := h
  obtain ⟨hh, hg⟩ := zdu hx
  obtain ⟨b, rfl, hb, hA⟩ := hp.at hg h1
  have hlt : i.toNat < A.length := (List.getElem?_eq_some_iff.1 hA).1
  refine ⟨b, rfl, G i.toNat, h3 _ _ _ hh hA hb, fun e he => ?_⟩
  rw [h4.mem_iff]
  exact List.mem_append_left _ (List.mem_flatMap.2 ⟨_, by simp [rest, hlt, hh], he⟩)
theorem AR.app (X : List Ent) (h : AR S f bs A H L0 L) : AR S f bs A H (X ++ L0) (X ++ L) := by
  obtain ⟨h1, h2, G, h3, h4⟩ := h
  exact ⟨h1, h2, G, h3,(h4.append_left X).trans (perm3 _ _ _)⟩
def DoesR (S : NSh α) (P : Program) (fn : FuncId) (args : List Value) (f : Fz) (Lr : List Ent) (bs : List Nat) (A : List α) (R : Value → Fz → List Ent → Prop) : Prop :=
  ∀ w0 L0 L w, AR S f bs A [] L0 L → Cw w0 f (Lr ++ L) w → Calls P fn args.toArray w fun e w' => ∃ v f' L', e = .returned v ∧ Fz.le f f' ∧ Cw w0 f' (L' ++ L) w' ∧ R v f' L'
def GivesR (S : NSh α) (P : Program) (fn : FuncId) (args : List Value) (f : Fz) (Lr : List Ent) (bs : List Nat) (A : List α) (v : Value) : Prop :=
  ∀ w0 L0 L w, AR S f bs A [] L0 L → Cw w0 f (Lr ++ L) w → Calls P fn args.toArray w fun e w' => e = .returned v ∧ Cw w0 f (Lr ++ L) w'
theorem GivesR.at {fn : FuncId} {args : List Value} {Lr X : List Ent} (h : GivesR S P fn args f Lr bs A v) (hA : AR S f bs A [] L0 L) (hp : L'.Perm (Lr ++ (X ++ L))) (hC : Cw w0 f L' w) : Calls P fn args.toArray w fun e w' => e = .returned v ∧ Cw w0 f L' w' :=
  (h w0 (X ++ L0) (X ++ L) w (hA.app X) (hC.perm hp)).mono fun _ _ ⟨h1, h2⟩ => ⟨h1, h2.perm hp.symm⟩
variable {ops : Array Oper} {rst : List Oper} {o : Oper} {K : AP} {C : World → Prop} {op : Op}
variable {d : Option Tmp} {ty : TypeId} {pos : String} {af : Array Edge} {g : Option (Nat × Bool)}
theorem zl6 {gn : FuncId} {y : Operand} {cap : List Value} {as : List Operand} {vs : List Value} {ats : Array TypeId} {Lr X : List Ent} (hA : AR S f bs A [] L0 L) (hx : opv E y = some (.func (.func gn) #[] cap.toArray)) (hg : Has P gn) (hv : as.mapM (opv E) = some vs) (hL : L'.Perm (Lr ++ (X ++ L))) (hp : GivesR S P gn (vs ++ cap) f Lr bs A v) :
    Y P (Cw w0 f L') n E ⟨d, .call { callee := .value y, args := as.toArray, argTypes := ats }, ty, pos, af, g⟩ v := by
  intro a ha w hw
  unfold Oper.quietAt
  rw [zg2 ha hx hg hv]
  refine ⟨rfl, ?_⟩
  have := hp.at hA hL hw
  rw [List.append_toArray] at *
  simpa using this
theorem zev {gn : FuncId} {y : Operand} {cap : Array Value} {as : List Operand} {vs : List Value} {ats : Array TypeId} {Lr : List Ent} {R : Value → Fz → List Ent → Prop} (X : List Ent) (hA : AR S f bs A [] L0 L) (hs : St n w0 f (Lr ++ (X ++ L)) E a w) {dd : Nat}
    (hx : opv E y = some (.func (.func gn) #[] cap)) (hg : Has P gn) (hv : as.mapM (opv E) = some vs) (hp : DoesR S P gn (vs ++ cap.toList) f Lr bs A R)
    (hw : Want ops E ⟨some dd, .call { callee := .value y, args := as.toArray, argTypes := ats }, ty, pos, af, g⟩ true) (hd : dd < n)
    (h : ∀ v f' L' a w, Fz.le f f' → R v f' L' → St n w0 f' (L' ++ (X ++ L)) ((dd, v) :: E) a w → RL P ops rst K a w) :
    RL P ops (⟨some dd, .call { callee := .value y, args := as.toArray, argTypes := ats }, ty, pos, af, g⟩ :: rst) K a w := by
  refine zk5 fun K' hK' => ?_
  rw [if_pos (hw.wanted hs.ev)]
  unfold opS
  rw [zg2 hs.ev hx hg hv]
  have := hp w0 (X ++ L0) (X ++ L) w (hA.app X) hs.cw
  rw [show (vs ++ cap.toList).toArray = vs.toArray ++ cap from by simp] at this
  refine this.mono ?_
  rintro e w' ⟨v, f', L', rfl, h1, h4, h5⟩
  exact ⟨v, rfl, hK' _ _ (h v f' L' _ _ h1 h5 ⟨hs.ev.put hd v, h4⟩)⟩
theorem RL_clear {t e : TypeId} {y : Operand} {u : Value} {by_ lo hi : Nat} {z : Value} {rows : List (List Value)} (k : Nat) (hs : St n w0 f L E a w) (hi_ : L[k]? = some (.row u e 1 rows)) (hx : opv E y = some (cutv u 1 lo hi)) (h1 : lo ≤ hi) (h2 : hi = rows.length)
    (ht : P.underlying t = some (.slice e)) (hT : TI P e 1 by_ z) (hz : z.cells = #[z]) (hz1 : z.oneCell' = true)
    (h : ∀ a w, St n w0 f (L.set k (.row u e 1 (rows.take lo ++ List.replicate (rows.length - lo) [z]))) E a w → RL P ops rst K a w) :
    RL P ops (⟨none, .call { callee := .builtin .clear, args := #[y], argTypes := #[t] }, ty, pos, af, none⟩ :: rst) K a w := by
  subst h2
  obtain ⟨it, hit, hz0, hk1, hk2⟩ := hT
  obtain ⟨hown, hone⟩ := hs.cw.live _ (List.mem_of_getElem? hi_)
  have hzv : (zeroValue e).run P w = .ok z w := by simp [zeroValue, typeInfo, hit, hz0]
  rcases hown.2 with ⟨rfl, h0⟩ | ⟨g, cap, cur, rfl, _, hg, hnc, hcm, hcs, htk⟩
  · have e0 : rows = [] := List.eq_nil_of_length_eq_zero h0
    subst e0
    have e1 : lo = 0 := by simpa using h1
    subst e1
    refine RL_v hs (.free rfl) (.drop rfl) (v := .tuple #[]) (w' := w) (f' := f) (L' := L.set k (.row (.slice none 0 0) e 1 ([].take 0 ++ List.replicate (([] : List (List Value)).length - 0) [z]))) ?_ (hs.cw.repl hi_ ⟨rfl, rfl, rfl, Nat.le_refl _, fun _ _ _ => rfl⟩ ⟨hown, hone⟩ (fun b hb => .inl hb)) h
    simp [execOp, resolve, invoke, builtin, hs.ev.eval hx, cutv, Builtin.clear_, run_underlying ht]
  · have hfl : rows.flatten.length = rows.length := by rw [zbg fun r hr => (hone r hr).1]; simp
    by_cases hlo : lo = rows.length
    · subst hlo
      refine RL_v hs (.free rfl) (.drop rfl) (v := .tuple #[]) (w' := w) (f' := f) (L' := L.set k (.row (.slice (some ⟨g,0, none⟩) rows.length cap) e 1 (rows.take rows.length ++ List.replicate (rows.length - rows.length) [z]))) ?_ ?_ h
      · by_cases hc : cap = rows.length <;> simp [execOp, resolve, invoke, builtin, hs.ev.eval hx, cutv, Builtin.clear_, run_underlying ht, hc]
      · have e1 : rows.take rows.length ++ List.replicate (rows.length - rows.length) [z] = rows := by simp
        rw [e1]
        exact hs.cw.repl hi_ ⟨rfl, rfl, rfl, Nat.le_refl _, fun _ _ _ => rfl⟩ ⟨hown, hone⟩ (fun b hb => .inl hb)
    · have hcap : ¬ cap = lo := by omega
      have hzc : (Builtin.zeroCells #[z] (rows.length - lo)).toList = List.replicate (rows.length - lo) z := by
        apply List.ext_getElem?
        intro j
        by_cases hj : j < rows.length - lo
        · simp [Builtin.zeroCells, hj, Nat.mod_one]
        · rw [List.getElem?_eq_none (by simp [Builtin.zeroCells]; omega), List.getElem?_eq_none (by simp; omega)]
      have hst := run_storeCells_at P g lo e (List.replicate (rows.length - lo) z) 0 cur w hg (by simp; omega) (fun u hu => by rw [List.mem_replicate] at hu; rw [hu.2]; exact hz1)
      simp only [Nat.add_zero] at hst
      refine RL_v hs (.free rfl) (.drop rfl) (v := .tuple #[]) (w' := w.setRow g (cur.toList.take lo ++ List.replicate (rows.length - lo) z ++ cur.toList.drop (lo + (List.replicate (rows.length - lo) z).length)).toArray) (f' := f) (L' := L.set k (.row (.slice (some ⟨g,0, none⟩) rows.length cap) e 1 (rows.take lo ++ List.replicate (rows.length - lo) [z]))) ?_ ?_ h
      · have hpos : ¬ rows.length - lo = 0 := by omega
        obtain ⟨q, hq⟩ : ∃ q, rows.length - lo = q + 1 := ⟨rows.length - lo - 1, by omega⟩
        rw [hq] at hzc hst ⊢
        simp [execOp, resolve, invoke, builtin, hs.ev.eval hx, cutv, Builtin.clear_, run_underlying ht, hcap, hq, hzv, hz, hzc, hst, add_lit]
      · have hl' : (rows.take lo ++ List.replicate (rows.length - lo) [z]).length = rows.length := by simp; omega
        have hf' : (rows.take lo ++ List.replicate (rows.length - lo) [z]).flatten = rows.flatten.take lo ++ List.replicate (rows.length - lo) z := by
          rw [List.flatten_append, zhx (fun r hr => (hone r hr).1), Nat.mul_one]
          congr 1
          generalize rows.length - lo = q
          induction q with
          | zero => rfl
          | succ q ih => rw [List.replicate_succ, List.flatten_cons, ih, List.replicate_succ]; rfl
        refine hs.cw.repl hi_ (Grew.setRow w g _) ⟨⟨?_, .inr ⟨g, cap, _, by rw [hl'], Nat.zero_le _, setRow_heap w g cur _ e _ hg, by rw [hl']; exact hnc, hcm, ?_, ?_⟩⟩, ?_⟩ (fun b' hb => .inl hb)
        · rw [hf', hl']; simp [hfl]; omega
        · simp; omega
        · rw [hl', hf', ← htk, List.take_take, Nat.mul_one, show min lo rows.length = lo by omega]
          exact List.take_left' (by simp; omega)
        · intro r hr
          rcases List.mem_append.1 hr with hr | hr
          · exact hone r (List.mem_of_mem_take hr)
          · rw [List.mem_replicate] at hr
            rw [hr.2]
            exact ⟨rfl, fun u hu => by simp at hu; subst hu; exact hz1⟩
def clrM (xs : List Int) (lo : Int) : List Int := xs.take lo.toNat ++ List.replicate (xs.length - lo.toNat) (-1)
theorem RW.clear {rows : List (List Value)} {xs : List Int} {lo : Int} (hW : RW (tP bs) f rows xs) : RW (tP bs) f (rows.take lo.toNat ++ List.replicate (rows.length - lo.toNat) [.pointer none]) (clrM xs lo) := by
  unfold clrM
  rw [hW.len]
  exact (hW.take _).append (RW.rep (t := tP bs) (r := [.pointer none]) ⟨_, rfl, RP.nil⟩ _)
theorem callsF {fn : FuncId} {args : List Value} {Lr Lf : List Ent} {r : Value} (hp : L.Perm (Lr ++ Lf)) (hC : Cw w0 f L w) (h : ∀ w, Cw w0 f (Lr ++ Lf) w → Calls P fn args.toArray w fun e w' => e = .returned r ∧ Cw w0 f (Lr ++ Lf) w') : Calls P fn args.toArray w fun e w' => e = .returned r ∧ Cw w0 f L w' :=
  (h w (hC.perm hp)).mono fun _ _ ⟨h1, h2⟩ => ⟨h1, h2.perm hp.symm⟩
end
end
section
open Go.RowKit
section
variable {P : Program} {f : Fz} {L : List Ent} {w0 w : World} {n : Nat} {E : List (Nat × Value)} {a : Act}
variable {ops : Array Oper} {rest : List Oper} {K Qn Qr : AP} {Qe Qg : Nat → AP}
variable {ty : TypeId} {pos : String} {af : Array Edge}
/-! Shorter forms: what is bound is implicit. -/
theorem s1 {v : Value} {dd : Nat} {op : Op} (hs : St n w0 f L E a w) (hy : Y P (Cw w0 f L) n E ⟨some dd, op, ty, pos, af, none⟩ v) (h : ∀ {a w}, St n w0 f L ((dd, v) :: E) a w → RL P ops rest K a w) (hd : dd < n := by decide) :
    RL P ops (⟨some dd, op, ty, pos, af, none⟩ :: rest) K a w := sy hs hy (fun _ _ h' => h h') hd
theorem sM {v : Value} {dd : Nat} {x : Operand} (hs : St n w0 f L E a w) (hx : opv E x = some v) (h : ∀ {a w}, St n w0 f L ((dd, v) :: E) a w → RL P ops rest K a w) (hd : dd < n := by decide) :
    RL P ops (⟨some dd, .move x, ty, pos, af, none⟩ :: rest) K a w := s1 hs (za9 hx) h hd
theorem sA {v : Value} {dd : Nat} {x : Operand} (hs : St n w0 f L E a w) (hx : opv E x = some v) (h : ∀ {a w}, St n w0 f L ((dd, v) :: E) a w → RL P ops rest K a w) (hd : dd < n := by decide) :
    RL P ops (⟨some dd, .assign x, ty, pos, af, none⟩ :: rest) K a w := s1 hs (zb2 hx) h hd
theorem sP {v : Value} {dd : Nat} {c x y : Operand} {b : Bool} (hs : St n w0 f L E a w) (hc : opv E c = some (.bool b)) (hx : opv E (if b then x else y) = some v) (h : ∀ {a w}, St n w0 f L ((dd, v) :: E) a w → RL P ops rest K a w) (hd : dd < n := by decide) :
    RL P ops (⟨some dd, .pick c x y, ty, pos, af, none⟩ :: rest) K a w := s1 hs (zdf hc hx) h hd
theorem s0 {v : Value} {op : Op} (hs : St n w0 f L E a w) (hy : Y P (Cw w0 f L) n E ⟨none, op, ty, pos, af, none⟩ v) (h : ∀ {a w}, St n w0 f L E a w → RL P ops rest K a w) :
    RL P ops (⟨none, op, ty, pos, af, none⟩ :: rest) K a w := sy0 hs hy fun _ _ h' => h h'
theorem s2 {v : Value} {dd j gd : Nat} {b : Bool} {op : Op} (hs : St n w0 f L E a w) (hy : Y P (Cw w0 f L) n E ⟨some dd, op, ty, pos, af, some (j, b)⟩ v) (h : ∀ {a w}, St n w0 f L ((dd, v) :: E) a w → RL P ops rest K a w)
    (hg : (ops[j]?).bind (·.dst) = some gd := by rfl) (hl : look E gd = some (.bool b) := by rfl) (hd : dd < n := by decide) :
    RL P ops (⟨some dd, op, ty, pos, af, some (j, b)⟩ :: rest) K a w := syg hs hy (fun _ _ h' => h h') hg hl hd
theorem s3 {dd j gd : Nat} {b : Bool} {op : Op} (hs : St n w0 f L E a w) (h : ∀ {a w}, St n w0 f L ((dd, undef) :: E) a w → RL P ops rest K a w)
    (hg : (ops[j]?).bind (·.dst) = some gd := by rfl) (hl : look E gd = some (.bool (!b)) := by rfl) (hd : dd < n := by decide) :
    RL P ops (⟨some dd, op, ty, pos, af, some (j, b)⟩ :: rest) K a w := sno hs (fun _ _ h' => h h') hg hl hd
theorem s4 {dd j gd : Nat} {b : Bool} {op : Op} (hs : St n w0 f L E a w) (h : ∀ {a w}, St n w0 f L ((dd, undef) :: E) a w → RL P ops rest K a w)
    (hg : (ops[j]?).bind (·.dst) = some gd := by rfl) (hl : look E gd = some undef := by rfl) (hd : dd < n := by decide) :
    RL P ops (⟨some dd, op, ty, pos, af, some (j, b)⟩ :: rest) K a w := sun hs (fun _ _ h' => h h') hg hl hd
theorem Ws {x y : Code} (h : ∀ {K : AP}, (∀ {a w}, W P y Qn Qe Qr Qg a w → K a w) → W P x K Qe Qr Qg a w) : W P (.seq x y) Qn Qe Qr Qg a w :=
  zc0 fun K hK => h (K := K) fun {a w} h' => hK a w h'
theorem Wq {id : Nat} {l : List Oper} {y : Code} (h : ∀ {K : AP}, (∀ {a w}, W P y Qn Qe Qr Qg a w → K a w) → RL P l.toArray l K a w) : W P (.seq (.region id l.toArray false) y) Qn Qe Qr Qg a w :=
  Ws fun hK => za5 (h fun h' => hK h')
end
end
section
open Go.RowKit
section
variable {P : Program} {f f' f0 : Fz} {L L' : List Ent} {w0 w w' : World} {n : Nat} {E E' : List (Nat × Value)} {a : Act}
variable {ops : Array Oper} {rest : List Oper} {o : Oper} {K : AP} {C : World → Prop}
variable {d : Option Tmp} {ty : TypeId} {pos : String} {af : Array Edge} {g : Option (Nat × Bool)}
def Obj.free : Obj → Bool
  | .cells _ _ (0,0) => true
  | _ => false
def fy (f0 f : Fz) : Fz := fun b => match f0 b, f b with
  | none, some o => if Obj.free o = true then some o else none
  | _, _ => none
theorem zmd {b : Nat} {o : Obj} : fy f0 f b = some o ↔ f0 b = none ∧ f b = some o ∧ Obj.free o = true := by
  unfold fy
  cases h0 : f0 b with
  | some _ => simp
  | none =>
    cases h1 : f b with
    | none => simp
    | some u =>
      simp only
      split
      · rename_i h; constructor
        · intro e; cases e; exact ⟨trivial, rfl, h⟩
        · rintro ⟨_, e, _⟩; exact e
      · rename_i h
        constructor
        · intro e; cases e
        · rintro ⟨_, e, h2⟩; cases e; exact absurd h2 h
theorem fy_le : Fz.le (fy f0 f) f := fun _ _ h => (zmd.1 h).2.1
theorem fyl (h : Fz.le f f') : Fz.le (fy f0 f) (fy f0 f') := fun b o hb => by
  obtain ⟨h1, h2, h3⟩ := zmd.1 hb
  exact zmd.2 ⟨h1, h b o h2, h3⟩
theorem zsb {b : Nat} (h : Fz.le f0 f) (hb : f b = none) : f0 b = none := by
  cases e : f0 b with
  | none => rfl
  | some o => rw [h b o e] at hb; cases hb
theorem zsr {t : TypeId} {x y : Operand} {b o : Nat} {i : Nat} {k : Nat} {cs : Array Value} {r' : List Value} {e : TypeId} {by_ : Nat} {z : Value} (hs : St n w0 f L E a w) (hi : L[i]? = some (.blk b (.cells cs e (0,0))))
    (hx : opv E x = some (.pointer (some ⟨b, o, none⟩))) (hy : opv E y = some (.agg r'.toArray)) (hT : TI P t k by_ z) (hu : OneRow k r') (ho : o + k ≤ cs.size) (hw : Want ops E ⟨none, .store t x y, ty, pos, af, g⟩ true)
    (h : ∀ a w, St n w0 f (L.set i (.blk b (.cells (cs.toList.take o ++ r' ++ cs.toList.drop (o + r'.length)).toArray e (0,0)))) E a w → RL P ops rest K a w) : RL P ops (⟨none, .store t x y, ty, pos, af, g⟩ :: rest) K a w := by
  have hlive : w.heap[b]? = some (.cells cs e (0,0)) := hs.cw.live _ (List.mem_of_getElem? hi)
  obtain ⟨it, hit, _, hk', _⟩ := hT
  have hst := run_storeCells_at P b o e r' 0 cs w hlive (by simpa [hu.1] using ho) hu.2
  simp only [Nat.add_zero] at hst
  refine RL_u hs hw (.drop rfl) (w' := w.setRow b (cs.toList.take o ++ r' ++ cs.toList.drop (o + r'.length)).toArray) (f' := f) (L' := L.set i (.blk b (.cells (cs.toList.take o ++ r' ++ cs.toList.drop (o + r'.length)).toArray e (0,0)))) ?_ ?_ h
  · simp [execOp, hs.ev.eval hx, hs.ev.eval hy, Instr.storeAt, Instr.sureAddr, storeVar, sizeOf, typeInfo, hit, Value.cells, hu.1, hk', hst]
  · exact hs.cw.repl hi (Grew.setRow w b _) (setRow_heap w b cs _ e _ hlive) (fun b' hb => .inl hb)
end
end
section
open Go.RowKit
end
section
open Go.RowKit
section
variable {P : Program} {f f' : Fz} {L L' : List Ent} {w0 w w' : World} {n : Nat} {E E' : List (Nat × Value)} {a : Act}
variable {ops : Array Oper} {rest : List Oper} {o : Oper} {K : AP} {C : World → Prop}
variable {d : Option Tmp} {ty : TypeId} {pos : String} {af : Array Edge} {g : Option (Nat × Bool)}
end
end
section
open Go.RowKit
section
variable {P : Program} {f f' f0 : Fz} {L L' Lc : List Ent} {w0 w w' : World} {n m i : Nat} {E E' : List (Nat × Value)} {a : Act}
variable {ops : Array Oper} {rest : List Oper} {K : AP} {C : World → Prop}
variable {d : Option Tmp} {ty : TypeId} {pos : String} {af : Array Edge} {g : Option (Nat × Bool)} {v : Value} {dd : Nat}
end
end
section
open Go.RowKit
section
variable {P : Program} {f f' : Fz} {L : List Ent} {w0 w : World} {n : Nat} {E : List (Nat × Value)} {a : Act} {fn : Func} {R : Ending → World → Prop} {M : List Deferred} {K : AP}
variable {ops : Array Oper} {rest : List Oper} {ty : TypeId} {pos : String} {af : Array Edge} {g : Option (Nat × Bool)} {dd : Nat}
end
end
section
open Go.RowKit
section
variable {P : Program} {C : World → Prop} {n : Nat} {E : List (Nat × Value)} {d : Option Tmp} {ty : TypeId} {pos : String} {af : Array Edge} {g : Option (Nat × Bool)}
theorem y_slNeq {t t' e : TypeId} {x : Operand} {ao : Option Addr} {m c : Nat} (hx : opv E x = some (.slice ao m c)) (ht : P.underlying t = some (.slice e)) : Y P C n E ⟨d, .binOp .neq t x (.const (.slice none 0 0)) t', ty, pos, af, g⟩ (.bool ao.isSome) :=
  .of fun a ha w _ => by
    have h : (Op.equal t (.slice ao m c) (.slice none 0 0)).run P w = .ok ao.isNone w := ze7 (fun d => by cases ao <;> simp [Op.equalIn, run_underlying ht]) rfl
    have e : a.eval (.const (.slice none 0 0)) = .slice none 0 0 := rfl
    simp [execOp, ha.eval hx, e, eqGuard, binOp, h]
end
end
section
open Go.RowKit
open Go.ChangeMaps (setBlock)
def igetM (m : List (Int × Int)) (k : Int) : Option Int := (m.find? fun p => decide (p.1 = k)).map (·.2)
def iputM (m : List (Int × Int)) (k v : Int) : List (Int × Int) := match m with
  | [] => [(k, v)]
  | p :: m => if p.1 = k then (p.1, v) :: m else p :: iputM m k v
def IMap (kk kv : IntKind) (l : List MapEntry) (m : List (Int × Int)) : Prop := l.map (fun e => (e.key, e.val)) = m.map fun p => (Value.int kk p.1, Value.int kv p.2)
structure IM (kk kv : IntKind) (es : Array MapEntry) (c : Nat) (m : List (Int × Int)) : Prop where
  map : IMap kk kv es.toList m
  past : ∀ x ∈ es.toList, x.born < c
  nd : (es.toList.map (·.born)).Nodup
theorem IM.nil {kk kv : IntKind} : IM kk kv #[] 0 [] := ⟨rfl, by simp, by simp⟩
def Cur (kk kv : IntKind) (es : Array MapEntry) (seen : Array Nat) (p : Int × Int) : Prop := ∃ e ∈ es.toList, ∃ s : Array Nat, seen = s.push e.born ∧ e.key = .int kk p.1 ∧ e.val = .int kv p.2
theorem zrb {kk kv k0 : IntKind} : ∀ (l : List MapEntry) (m : List (Int × Int)) (k : Int) (i : Nat), IMap kk kv l m →
    (∃ j v, igetM m k = some v ∧ Instr.findNow (.int k0) (.int kk k) l i = some (some (i + j, .int kv v)) ∧ (l[j]?).map (·.key) = some (.int kk k) ∧ ∀ v', IMap kk kv (l.modify j fun e => { e with key := .int kk k, val := .int kv v' }) (iputM m k v')) ∨ (igetM m k = none ∧ Instr.findNow (.int k0) (.int kk k) l i = some none)
  | [], m, k, i, h => by
    cases m with
    | nil => exact .inr ⟨rfl, rfl⟩
    | cons p m => simp [IMap] at h
  | e :: l,[], k, i, h => by simp [IMap] at h
  | e :: l, p :: m, k, i, h => by
    simp only [IMap, List.map_cons, List.cons.injEq, Prod.mk.injEq] at h
    obtain ⟨⟨h1, h2⟩, h3⟩ := h
    by_cases hk : p.1 = k
    · refine .inl ⟨0, p.2, by simp [igetM, hk], ?_, by simp [h1, hk], fun v' => by simp [IMap, iputM, hk]; exact h3⟩
      simp [Instr.findNow, Instr.sameNow, h1, hk, h2]
    · have hk' : (k == p.1) = false := by simpa using fun e => hk e.symm
      rcases zrb (k0 := k0) l m k (i + 1) h3 with ⟨j, v, e1, e2, e3, e4⟩ | ⟨e1, e2⟩
      · refine .inl ⟨j + 1, v, ?_, ?_, by simpa using e3, fun v' => by have := e4 v'; simp [IMap, iputM, hk, h1, h2] at this ⊢; exact this⟩
        · simpa [igetM, hk] using e1
        · simp [Instr.findNow, Instr.sameNow, h1, hk', e2, Nat.add_assoc, Nat.add_comm 1 j]
      · refine .inr ⟨by simpa [igetM, hk] using e1, ?_⟩
        simp [Instr.findNow, Instr.sameNow, h1, hk', e2]
theorem znn {l : List MapEntry} {j : Nat} {k v : Value} : (l.modify j fun e => { e with key := k, val := v }).map (·.born) = l.map (·.born) := by
  refine List.ext_getElem? fun i => ?_
  rw [List.getElem?_map, List.getElem?_map, List.getElem?_modify]
  cases l[i]? with
  | none => rfl
  | some y => simp only [Option.map_some]; split <;> rfl
theorem past_of {l l' : List MapEntry} {c : Nat} (h : ∀ x ∈ l, x.born < c) (e : l'.map (·.born) = l.map (·.born)) : ∀ x ∈ l', x.born < c := fun x hx => by
  have : x.born ∈ l'.map (·.born) := List.mem_map_of_mem hx
  rw [e] at this
  obtain ⟨y, hy, h1⟩ := List.mem_map.1 this
  rw [← h1]; exact h y hy
section
variable {P : Program} {ops : Array Oper} {rest : List Oper} {n : Nat} {w0 w : World} {f f' : Fz} {L L' : List Ent} {E E' : List (Nat × Value)} {a : Act} {K : AP} {v : Value}
variable {ty : TypeId} {pos : String} {af : Array Edge} {d : Option Tmp} {g : Option (Nat × Bool)} {C : World → Prop}
theorem zrd {kt : TypeId} {k0 kk kv : IntKind} {k : Int} {l : List MapEntry} {m : List (Int × Int)} (hk : P.underlying kt = some (.int k0)) (hm : IMap kk kv l m) :
    (∃ j v, igetM m k = some v ∧ (Instr.findKey kt (.int kk k) l).run P w = .ok (some (j, .int kv v)) w ∧ (l[j]?).map (·.key) = some (.int kk k) ∧ ∀ v', IMap kk kv (l.modify j fun e => { e with key := .int kk k, val := .int kv v' }) (iputM m k v')) ∨ (igetM m k = none ∧ (Instr.findKey kt (.int kk k) l).run P w = .ok none w) := by
  rcases zrb (k0 := k0) l m k 0 hm with ⟨j, v, e1, e2, e3⟩ | ⟨e1, e2⟩
  · exact .inl ⟨j, v, e1, by simp [Instr.findKey, run_underlying hk, e2, Sem.run_pure], e3⟩
  · exact .inr ⟨e1, by simp [Instr.findKey, run_underlying hk, e2, Sem.run_pure]⟩
theorem zo2 {kt : TypeId} {k0 kk : IntKind} {k : Int} {em : Bool} {dpt : Nat} (hk : P.underlying kt = some (.int k0)) : (Instr.checkKey em (dpt + 1) kt (.int kk k)).run P w = .ok () w := by
  simp [Instr.checkKey, run_underlying hk]
theorem zqh {t kt e : TypeId} {k0 kk kv : IntKind} {x y : Operand} {r : Nat} {es : Array MapEntry} {c : Nat} {m : List (Int × Int)} {k : Int} {by_ sz : Nat} (hx : opv E x = some (.map (some r))) (hy : opv E y = some (.int kk k))
    (ht : P.underlying t = some (.map kt e)) (hk : P.underlying kt = some (.int k0)) (hT : TI P e sz by_ (.int kv 0)) (hm : .blk r (.map es c) ∈ L) (hS : IM kk kv es c m) :
    Y P (Cw w0 f L) n E ⟨d, .lookup t x y false, ty, pos, af, g⟩ (.int kv ((igetM m k).getD 0)) :=
  .of fun a ha w hw => by
    obtain ⟨i, hi, hz, _, _⟩ := hT
    have hb := zk7 (P := P) (mapAt hm hw)
    have hck : (Instr.checkKey es.isEmpty 10000 kt (.int kk k)).run P w = .ok () w := zo2 (dpt := 9999) hk
    rcases zrd (P := P) (w := w) (k := k) hk hS.map with ⟨j, v, e1, e2, _⟩ | ⟨e1, e2⟩
    · simp [execOp, ha.eval hx, ha.eval hy, Instr.lookup, run_underlying ht, hb, hck, e1, e2]
    · simp [execOp, ha.eval hx, ha.eval hy, Instr.lookup, run_underlying ht, hb, hck, e1, e2, zeroValue, typeInfo, hi, hz]
theorem zvi {kk kv : IntKind} {l : List MapEntry} {m : List (Int × Int)} {k v : Int} {c : Nat} (h : IMap kk kv l m) (hn : igetM m k = none) : IMap kk kv (l ++ [{ key := .int kk k, val := .int kv v, born := c }]) (iputM m k v) := by
  have e : iputM m k v = m ++ [(k, v)] := by
    clear h
    induction m with
    | nil => rfl
    | cons p m ih =>
      have hp : ¬ p.1 = k := fun e => by simp [igetM, e] at hn
      rw [iputM, if_neg hp, ih (by simpa [igetM, hp] using hn)]
      rfl
  rw [e]
  unfold IMap at h ⊢
  rw [List.map_append, List.map_append, h]
  rfl
theorem zly {t kt e : TypeId} {k0 kk kv : IntKind} {x y z : Operand} {r : Nat} {es : Array MapEntry} {c : Nat} {m : List (Int × Int)} {k u : Int} (i : Nat) (hs : St n w0 f L E a w) (hi : L[i]? = some (.blk r (.map es c))) (hx : opv E x = some (.map (some r))) (hy : opv E y = some (.int kk k)) (hz : opv E z = some (.int kv u))
    (ht : P.underlying t = some (.map kt e)) (hk : P.underlying kt = some (.int k0)) (hS : IM kk kv es c m)
    (h : ∀ es' c' a w, IM kk kv es' c' (iputM m k u) → St n w0 f (L.set i (.blk r (.map es' c'))) E a w → RL P ops rest K a w) : RL P ops (⟨none, .mapUpdate t x y z, ty, pos, af, none⟩ :: rest) K a w := by
  have hb := hs.cw.live _ (List.mem_of_getElem? hi)
  have hlt : r < w.heap.size := (Array.getElem?_eq_some_iff.1 hb).1
  have hg := zk7 (P := P) hb
  have hck : (Instr.checkKey false 10000 kt (.int kk k)).run P w = .ok () w := zo2 (dpt := 9999) hk
  have fin : ∀ es' c', (Instr.mapUpdate t (.map (some r)) (.int kk k) (.int kv u)).run P w = .ok () { w with heap := w.heap.setIfInBounds r (.map es' c') } → IM kk kv es' c' (iputM m k u) →
      RL P ops (⟨none, .mapUpdate t x y z, ty, pos, af, none⟩ :: rest) K a w := fun es' c' hr hS' => by
    refine RL_u hs (.free rfl) (.drop rfl) (w' := { w with heap := w.heap.setIfInBounds r (.map es' c') }) (f' := f) (L' := L.set i (.blk r (.map es' c'))) ?_ ?_ (fun a w => h es' c' a w hS')
    · simp [execOp, hs.ev.eval hx, hs.ev.eval hy, hs.ev.eval hz, hr]
    · refine hs.cw.repl hi ⟨rfl, rfl, rfl, by simp, fun b hb hne => ?_⟩ ?_ (fun b hb => .inl hb)
      · have : r ≠ b := fun e => hne (by simp [Ent.key, e])
        simp [Array.getElem?_setIfInBounds_ne this]
      · show (w.heap.setIfInBounds r (.map es' c'))[r]? = some (.map es' c')
        simp [hlt]
  rcases zrd (P := P) (w := w) (k := k) hk hS.map with ⟨j, v, e1, e2, e3, e4⟩ | ⟨e1, e2⟩
  · refine fin (es.modify j fun e => { e with key := .int kk k, val := .int kv u }) c ?_ ⟨?_, ?_, ?_⟩
    · have hkey : ((es[j]?).map (·.key)).getD (.int kk k) = .int kk k := by rw [← Array.getElem?_toList, e3]; rfl
      simp [Instr.mapUpdate, run_underlying ht, hg, hck, e2, hkey, Instr.keyThatStays, Instr.sameBits, zk6 _ hb]
    · simpa using e4 u
    · rw [Array.toList_modify]; exact past_of hS.past znn
    · rw [Array.toList_modify, znn]; exact hS.nd
  · refine fin (es.push { key := .int kk k, val := .int kv u, born := c }) (c + 1) ?_ ⟨?_, ?_, ?_⟩
    · simp [Instr.mapUpdate, run_underlying ht, hg, hck, e2, zk6 _ hb]
    · simpa using zvi hS.map e1
    · intro x hx
      rw [Array.toList_push] at hx
      rcases List.mem_append.1 hx with hx | hx
      · have := hS.past x hx; omega
      · rw [List.mem_singleton.1 hx]; exact Nat.lt_succ_self c
    · rw [Array.toList_push, List.map_append, List.nodup_append]
      refine ⟨hS.nd, by simp, fun x hx y hy => ?_⟩
      obtain ⟨e, he, rfl⟩ := List.mem_map.1 hx
      have h1 := hS.past e he
      simp only [List.map_cons, List.map_nil, List.mem_singleton] at hy
      omega
theorem zss {t kt e : TypeId} {x : Operand} {r dd : Nat} {es : Array MapEntry} {c : Nat} (hs : St n w0 f L E a w) (hx : opv E x = some (.map (some r))) (ht : P.underlying t = some (.map kt e)) (hm : .blk r (.map es c) ∈ L)
    (h : ∀ b a w, St n w0 f (.blk b (.mapIter (some r) c #[] c) :: L) ((dd, .pointer (some ⟨b,0, none⟩)) :: E) a w → RL P ops rest K a w) (hd : dd < n := by decide) :
    RL P ops (⟨some dd, .range t x, ty, pos, af, none⟩ :: rest) K a w :=
  RL_v hs (.free rfl) (.to rfl hd) (v := .pointer (some ⟨w.heap.size,0, none⟩)) (w' := w.alloc (.mapIter (some r) c #[] c)) (by
    simp [execOp, hs.ev.eval hx, run_range_map w t kt e r es c ht (mapAt hm hs.cw)]) (hs.cw.alloc _) (h _)
theorem zua {x : Operand} {r b dd : Nat} {es : Array MapEntry} {c : Nat} {seen : Array Nat} {kk kv : IntKind} {m : List (Int × Int)} (i : Nat) (hs : St n w0 f L E a w) (hi : L[i]? = some (.blk b (.mapIter (some r) c seen c))) (hx : opv E x = some (.pointer (some ⟨b,0, none⟩))) (hm : .blk r (.map es c) ∈ L) (hS : IM kk kv es c m)
    (h0 : ∀ a w, St n w0 f L ((dd, .tuple #[.bool false]) :: E) a w → RL P ops rest K a w)
    (h1 : ∀ p ∈ m, ∀ seen' a w,(leftOf es seen').size < (leftOf es seen).size → Cur kk kv es seen' p → St n w0 f (L.set i (.blk b (.mapIter (some r) c seen' c))) ((dd, .tuple #[.bool true, .int kk p.1, .int kv p.2]) :: E) a w → RL P ops rest K a w) (hd : dd < n := by decide) :
    RL P ops (⟨some dd, .next x false, ty, pos, af, none⟩ :: rest) K a w := by
  have hb := hs.cw.live _ (List.mem_of_getElem? hi)
  have hlt : b < w.heap.size := (Array.getElem?_eq_some_iff.1 hb).1
  rcases run_next_at (P := P) w ty b r c c seen es c hb (mapAt hm hs.cw) hS.past (Nat.le_refl c) with ⟨_, hr⟩ | ⟨e, he, w1, hw1, hr⟩
  · exact RL_v hs (.free rfl) (.to rfl hd) (v := .tuple #[.bool false]) (w' := w) (by simp [execOp, hs.ev.eval hx, hr]) hs.cw h0
  · have hmem := (mem_left he).1
    obtain ⟨p, hp, hpe⟩ : ∃ p ∈ m,(Value.int kk p.1, Value.int kv p.2) = (e.key, e.val) := by
      have : (e.key, e.val) ∈ es.toList.map fun e => (e.key, e.val) := List.mem_map_of_mem (f := fun e : MapEntry => (e.key, e.val)) hmem
      rw [hS.map] at this
      exact List.mem_map.1 this
    injection hpe with p1 p2
    have hC1 : Cw w0 f L w1 := by
      rcases hw1 with rfl | rfl
      · exact hs.cw
      · exact hs.cw.drew
    have hl1 : w1.heap = w.heap := by rcases hw1 with rfl | rfl <;> rfl
    refine RL_v hs (.free rfl) (.to rfl hd) (v := .tuple #[.bool true, e.key, e.val]) (w' := setBlock w1 b (.mapIter (some r) c (seen.push e.born) c)) (f' := f) (L' := L.set i (.blk b (.mapIter (some r) c (seen.push e.born) c))) (by simp [execOp, hs.ev.eval hx, hr]) ?_ ?_
    · refine hC1.repl hi ⟨rfl, rfl, rfl, by simp [setBlock], fun b' hb' hne => ?_⟩ ?_ (fun b hb => .inl hb)
      · have : b ≠ b' := fun e => hne (by simp [Ent.key, e])
        simp [setBlock, Array.getElem?_setIfInBounds_ne this]
      · show (setBlock w1 b _).heap[b]? = _
        simp [setBlock, hl1, hlt]
    · rw [← p1, ← p2]
      exact fun a w hs' => h1 p hp _ a w (left_shrinks es seen e he) ⟨e, hmem, seen, rfl, p1.symm, p2.symm⟩ hs'
theorem y_entryI {x : Operand} {r b : Nat} {es : Array MapEntry} {c : Nat} {seen : Array Nat} {kk kv : IntKind} {m : List (Int × Int)} {p : Int × Int} (hx : opv E x = some (.pointer (some ⟨b,0, none⟩))) (hi : .blk b (.mapIter (some r) c seen c) ∈ L) (hm : .blk r (.map es c) ∈ L) (hS : IM kk kv es c m) (hc : Cur kk kv es seen p) :
    Y P (Cw w0 f L) n E ⟨d, .entry x, ty, pos, af, g⟩ (.tuple #[.int kk p.1, .int kv p.2]) :=
  .of fun a ha w hw => by
    obtain ⟨e, he, s, rfl, h1, h2⟩ := hc
    have := run_entry_at (P := P) w b r c s es c e (hw.live _ hi) (mapAt hm hw) he hS.nd
    simp [execOp, ha.eval hx, this, h1, h2]
end
end
end Go.Sl
