/-
  Walks and laws of this seat.
-/
import Derived.Test.YteicdfkmpnmkmaaGreatVI
import Derived.Test.YteicdfkmpnmkmaaGreatBash
namespace Go.V
set_option linter.unusedVariables false
set_option linter.unusedSimpArgs false
set_option linter.unusedSectionVars false
attribute [local irreducible] opd opr
open Go.RowKit Go.Sl
variable [F0]
def E1 (d : Option Tmp) (u : Value) (E : List (Nat × Value)) : List (Nat × Value) := match d with
  | some t => (t, u) :: E
  | none => E
def EOk (P : Program) (o : Op) (d : Option Tmp) (sl : List (Nat × V)) (ob : List Ob) (v : V) (ob' : List Ob) : Prop := ∀ (f : Fz) (N : Nm) (E : List (Nat × Value)) (L : List Ent) (w0 : World) (n : Nat) (a : Act) (w : World), SlR f N sl E → OLR f N ob L → Nb N ob → St n w0 f L E a w →
  ∀ (ty : TypeId) (pos : String) (af : Array Edge) (ops : Array Oper) (rest : List Oper) (K : AP),(∀ t, d = some t → t < n) →
  (∀ f' N' u L' a' w', Fz.le f f' → Nm.le N N' → Nb N' ob' → OLR f' N' ob' L' → VR f' N' v u → Fm ob L ob' L' → St n w0 f' L' (E1 d u E) a' w' → RL P ops rest K a' w') →
  RL P ops (⟨d, o, ty, pos, af, none⟩ :: rest) K a w
structure EnvOk (P : Program) (E : Env) : Prop where
  T : TOk P E.T
  G : ∀ g c, E.G g = some c → ConOk P (g % 10000) c
  mixed : P.follows .mixedOrders = true
variable {α : Type} {r : α} {P : Program} {E : Env} {sl : List (Nat × V)} {ob : List Ob} {K : V → List Ob → Option α} {d : Option Tmp}
theorem zt2 {K : Option α} (h : dS d K = some r) : ∃ t, d = some t ∧ K = some r := by
  cases d with
  | none => cases h
  | some t => exact ⟨t, rfl, h⟩
theorem dN_inv {K : Option α} (h : dN d K = some r) : d = none ∧ K = some r := by
  cases d with
  | none => exact ⟨rfl, h⟩
  | some t => cases h
theorem EOk.quiet {o : Op} {v : V} (h : QOk P o sl ob v) : EOk P o d sl ob v ob := fun f N E L w0 n a w hS hO hn hs ty pos af ops rest K hd hK => by
  obtain ⟨u, h1, h2⟩ := h f N E L w0 w hS hO hs.cw
  refine RL_y (E' := E1 d u E) hs (.free rfl) ?_ (h2 n d ty pos af none) fun a w hs => hK f N u L a w (.refl f) (.refl N) hn hO h1 (.refl _ _) hs
  cases d with
  | none => exact .drop rfl
  | some t => exact .to rfl (hd t rfl)
theorem alloc_ok (hE : EnvOk P E) {t : TypeId} (h : op1 E (.alloc t) d sl ob K = some r) : ∃ v ob', K v ob' = some r ∧ EOk P (.alloc t) d sl ob v ob' := by
  obtain ⟨dd, rfl, h1⟩ := zt2 (h : dS d _ = some r)
  obtain ⟨td, h2, h3⟩ := zab h1
  obtain ⟨d, z, g1, g2, g3, g4, g5, g6, _⟩ := zli (hE.T _ _ h2)
  refine ⟨_, _, h3, fun f N E L w0 n a w hS hO hn hs ty pos af ops rest K hd hK => zgk hs g2 (.free rfl) (hd dd rfl) fun b a w hs => ?_⟩
  have u := Up.push (x := .bx td.z) (e := .blk b (.cells z.cells t)) (v := .pointer (some ⟨b,0, none⟩)) hO hn fun M hM hv => ⟨b, z.cells.toList, t, hv, by simp, g5 f M⟩
  exact hK f _ _ _ a w (.refl f) u.le u.nb u.ol ⟨b, zd9, rfl⟩ u.fm hs
theorem box_ok (hE : EnvOk P E) {t : TypeId} {x : Operand} (h : op1 E (.box t x) d sl ob K = some r) : ∃ v ob', K v ob' = some r ∧ EOk P (.box t x) d sl ob v ob' := by
  obtain ⟨dd, rfl, h1⟩ := zt2 (h : dS d _ = some r)
  obtain ⟨v, h2, hx⟩ := zb3 h1
  obtain ⟨td, h3, h4⟩ := zab h2
  obtain ⟨cs, h5, hc⟩ := ztc h4
  obtain ⟨h6, h7⟩ := zar h5
  simp only [Bool.and_eq_true] at h6
  refine ⟨_, _, h7, fun f N E L w0 n a w hS hO hn hs ty pos af ops rest K hd hK => ?_⟩
  obtain ⟨u, e1, e2⟩ := hx f N E hS
  refine yhv hs e1 (.free rfl) (hd dd rfl) fun b a w hs => ?_
  have hcs : CLR f N cs u.cells.toList := by
    rcases hc with ⟨_, rfl⟩ | ⟨_, y, rfl, rfl⟩
    · obtain ⟨vs, rfl, h⟩ := e2
      exact h
    · have hy : y ≠ .u := fun e => by
        subst e
        have := h6.2
        simp [isU] at this
      have := CR.one (f := f) (N := N) e2 hy
      have e : u.cells = #[u] := by cases u <;> first | rfl | simp [Value.oneCell'] at this
      rw [e]
      exact ⟨e2, trivial⟩
  have up := Up.push (x := .bx cs) (e := .blk b (.cells u.cells t)) (v := .pointer (some ⟨b,0, none⟩)) hO hn fun M hM hv => ⟨b, u.cells.toList, t, hv, by simp, hcs.le (.refl f) hM⟩
  exact hK f _ _ _ a w (.refl f) up.le up.nb up.ol ⟨b, zd9, rfl⟩ up.fm hs
theorem CLR.set {f : Fz} {N : Nm} : ∀ {l : List C} {r : List Value} {i : Nat} {c : C} {v : Value}, CLR f N l r → CR f N c v → CLR f N (l.set i c) (r.set i v)
  | [],[], _, _, _, _, _ => trivial
  | _ :: _, _ :: _,0, _, _, ⟨_, h2⟩, h => ⟨h, h2⟩
  | _ :: _, _ :: _, i + 1, _, _, ⟨h1, h2⟩, h => ⟨h1, CLR.set h2 h⟩
theorem allU {xs : List C} (h : xs.all isU = true) : ∀ c ∈ xs, c ≠ .u := fun c hc e => by
  subst e
  have := List.all_eq_true.1 h _ hc
  simp [isU] at this
theorem store_ok (hE : EnvOk P E) {t : TypeId} {x y : Operand} (h : op1 E (.store t x y) d sl ob K = some r) : ∃ v ob', K v ob' = some r ∧ EOk P (.store t x y) d sl ob v ob' := by
  obtain ⟨rfl, h1⟩ := dN_inv (h : dN d _ = some r)
  obtain ⟨v, h2, hx⟩ := zb3 h1
  obtain ⟨w1, h3, hy⟩ := zb3 h2
  obtain ⟨td, h4, h5⟩ := zab h3
  obtain ⟨xs, h6, hc⟩ := ztc h5
  obtain ⟨h7, h8⟩ := zar h6
  simp only [Bool.and_eq_true] at h7
  obtain ⟨hsz, hall⟩ := h7
  have hsz := Nat.eq_of_beq_eq_true hsz
  obtain ⟨dd, z, g1, g2, g3, g4, g5, g6, _⟩ := zli (hE.T _ _ h4)
  clear h h1 h2 h3 h5 h6
  unfold storeTo at h8
  split at h8
  · rename_i j o
    obtain ⟨yy, k1, k2⟩ := zab h8
    split at k2
    · rename_i cs
      rcases hc with ⟨ha, rfl⟩ | ⟨ha, c, rfl, rfl⟩
      · rw [ha] at k2
        obtain ⟨k3, k4⟩ := zar (k2 : cond _ _ none = some r)
        have ko := Nat.le_of_ble_eq_true k3
        refine ⟨_, _, k4, fun f N E L w0 n a w hS hO hn hs ty pos af ops rest K hd hK => ?_⟩
        obtain ⟨u, e1, b, q1, rfl⟩ := hx f N E hS
        obtain ⟨u2, e3, vs, rfl, e4⟩ := hy f N E hS
        obtain ⟨hlt, en, q2, b', ws, tt, q3, q4, q5⟩ := hO.get k1
        subst q4
        rw [q1] at q3
        cases q3
        have l1 := e4.len
        have l2 := q5.len
        have hone : OneRow td.sz vs := ⟨by omega, fun u hu => by
          obtain ⟨i, hi⟩ := List.getElem?_of_mem hu
          have hlt : i < xs.length := by have := (List.getElem?_eq_some_iff.1 hi).1; omega
          obtain ⟨u', m1, m2⟩ := e4.get (i := i) (c := xs[i]) (by simp)
          rw [hi] at m1
          cases m1
          exact m2.one (allU hall _ (by simp))⟩
        refine ych hs q2 e1 e3 g2 hone (by simp; omega) (.free rfl) fun a w hs => ?_
        have hl : CLR f N (lay cs xs o) (ws.take o ++ vs ++ ws.drop (o + vs.length)) := by
          have := ((q5.take o).app e4).app (q5.drop (o + xs.length))
          rw [← l1] at this
          unfold lay
          rw [← l1]; exact this
        exact hK f N undef _ a w (.refl f) (.refl N) (hn.len (zak _ _ _)) (hO.put hlt ⟨b, _, tt, q1, rfl, hl⟩) rfl (.set k1 (by simp)) (show St n w0 f _ E a w from by simpa using hs)
      · rw [ha] at k2
        obtain ⟨k3, k4⟩ := zar (k2 : cond _ _ none = some r)
        have ko : o < cs.length := Nat.blt_eq.mp k3
        refine ⟨_, _, k4, fun f N E L w0 n a w hS hO hn hs ty pos af ops rest K hd hK => ?_⟩
        obtain ⟨u, e1, b, q1, rfl⟩ := hx f N E hS
        obtain ⟨u2, e3, e4⟩ := hy f N E hS
        obtain ⟨hlt, en, q2, b', ws, tt, q3, q4, q5⟩ := hO.get k1
        subst q4
        rw [q1] at q3
        cases q3
        have l2 := q5.len
        have e4 : CR f N c u2 := e4
        have hs1 : td.sz = 1 := by simpa using hsz.symm
        rw [hs1] at g2
        refine zry hs q2 e1 e3 g2 (e4.one (allU hall c (by simp))) (by simp; omega) (cs' := (ws.set o u2).toArray) (by simp) (.free rfl) fun a w hs => ?_
        exact hK f N undef _ a w (.refl f) (.refl N) (hn.len (zak _ _ _)) (hO.put hlt ⟨b, ws.set o u2, tt, q1, rfl, q5.set e4⟩) rfl (.set k1 (by simp)) hs
    · cases k2
  · rename_i k j i o
    obtain ⟨xs', ob1, k0, HF⟩ := zqy h8
    obtain ⟨yy, k1, k2⟩ := zab k0
    split at k2
    · rename_i e c l
      obtain ⟨hk, k3⟩ := zar k2
      have hk := Nat.eq_of_beq_eq_true hk
      obtain ⟨x0, k4, k5⟩ := zab k3
      clear k2 k3 h8 k0
      rcases hc with ⟨ha, rfl⟩ | ⟨ha, c0, rfl, rfl⟩
      · rw [ha] at k5
        obtain ⟨k6, k7⟩ := zar (k5 : cond _ _ none = some r)
        simp only [Bool.and_eq_true] at k6
        have ko := Nat.eq_of_beq_eq_true k6.1
        have kl := Nat.eq_of_beq_eq_true k6.2
        obtain ⟨zz, k8, _, kR⟩ := TC.mkA_inv k7
        subst ko
        refine ⟨_, _, k8, fun f N E L w0 n a w hS hO hn hs ty pos af ops rest K hd hK => ?_⟩
        obtain ⟨u, e1, v0, q1, q2, q3⟩ := hx f N E hS
        obtain ⟨u2, e3, vs, q4, e4⟩ := hy f N E hS
        subst q2 q4
        obtain ⟨f1, L1, m, hv⟩ := HF f N L w0 w hO hs.cw
        have hv := hv vs e4
        obtain ⟨hlt, en, q5, v', rows, q6, q7, q8⟩ := m.ol.get k1
        subst q7
        rw [q1] at q6
        cases q6
        subst hk
        obtain ⟨r0, p1, p2, p3, p4⟩ := q8.geti k4
        have hz := kR f1 N vs hv
        have hT1 : TI P t c.k td.by_ z := by
          have l1 := e4.len
          have l2 := hv.len
          have : td.sz = c.k := by omega
          rw [← this]; exact g2
        refine zuq ⟨hs.ev, m.cw⟩ q5 e1 e3 p1 hT1 (c.oneR hz) (.free rfl) fun a w hs => ?_
        exact hK f1 N undef _ a w m.le (.refl N) (hn.len (by rw [zak, m.len])) (m.ol.put hlt ⟨_, _, q1, rfl, q8.set hz⟩) rfl (m.fm.trans (.set k1 (by simp))) hs
      · rw [ha] at k5
        cases xs' with
        | nil => cases k5
        | cons y0 ys =>
        cases ys with
        | cons _ _ => cases k5
        | nil =>
          have k5 : cond (Nat.blt o c.k) (c.mkA ((c.lv x0).set o y0) fun z => K (.c .u) (oset ob1 j (.ow e c (l.set i.toNat z)))) none = some r := k5
          obtain ⟨k6, k7⟩ := zar k5
          have ko : o < c.k := Nat.blt_eq.mp k6
          obtain ⟨zz, k8, _, kR⟩ := TC.mkA_inv k7
          refine ⟨_, _, k8, fun f N E L w0 n a w hS hO hn hs ty pos af ops rest K hd hK => ?_⟩
          obtain ⟨u, e1, v0, q1, q2, q3⟩ := hx f N E hS
          obtain ⟨u2, e3, e4⟩ := hy f N E hS
          subst q2
          obtain ⟨f1, L1, m, hv⟩ := HF f N L w0 w hO hs.cw
          obtain ⟨hv, _⟩ := hv [u2] ⟨e4, trivial⟩
          obtain ⟨hlt, en, q5, v', rows, q6, q7, q8⟩ := m.ol.get k1
          subst q7
          rw [q1] at q6
          cases q6
          subst hk
          obtain ⟨r0, p1, p2, p3, p4⟩ := q8.geti k4
          have hz := kR f1 N (r0.set o u2) (((TC.lvR (N := N) c).1 p2).set hv)
          have hs1 : td.sz = 1 := by simpa using hsz.symm
          rw [hs1] at g2
          have e4 : CR f N c0 u2 := e4
          refine zrx ⟨hs.ev, m.cw⟩ q5 e1 e3 p1 ko g2 (e4.one (allU hall c0 (by simp))) (.free rfl) fun a w hs => ?_
          exact hK f1 N undef _ a w m.le (.refl N) (hn.len (by rw [zak, m.len])) (m.ol.put hlt ⟨_, _, q1, rfl, q8.set hz⟩) rfl (m.fm.trans (.set k1 (by simp))) hs
    · cases k2
  · cases h8
end Go.V
