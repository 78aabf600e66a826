/-
  Walks and laws of this seat.
-/
import Derived.Test.YtdjjeahiomackaaGreatVC
import Derived.Laws.Cover4
namespace Go.V
set_option linter.unusedVariables false
set_option linter.unusedSimpArgs false
set_option linter.unusedSectionVars false
attribute [local irreducible] opd opr
open Go.RowKit Go.Sl
variable [F0]
section
variable {α : Type} {P : Program} {T : Nat → Option TD} {sl : List (Nat × V)} {ob : List Ob} {r : α}
def QOk (P : Program) (o : Op) (sl : List (Nat × V)) (ob : List Ob) (v : V) : Prop := ∀ (f : Fz) (N : Nm) (E : List (Nat × Value)) (L : List Ent) (w0 w : World), SlR f N sl E → OLR f N ob L → Cw w0 f L w →
  ∃ u, VR f N v u ∧ ∀ (n : Nat) (d : Option Tmp) (ty : TypeId) (pos : String) (af : Array Edge) (g : Option (Nat × Bool)), Y P (Cw w0 f L) n E ⟨d, o, ty, pos, af, g⟩ u
theorem zvd {a b : IntKind} (h : kB a b = true) : a = b := of_decide_eq_true h
theorem zhv {t : TypeId} {td : TD} (h : TDok P t td) : ∃ d z, P.underlying t = some d ∧ TI P t td.sz td.by_ z ∧ Agg d = td.ag ∧ DsOk P td.d d ∧ (∀ f N, CLR f N td.z z.cells.toList) ∧ z.cells.size = td.sz ∧ 0 < td.sz ∧ (∀ x ∈ z.cells.toList, x.oneCell' = true) := by
  obtain ⟨d, i, z, h1, h2, h3, h4, h5, h6, h7, h8, h9, h10, h11, h12, h13, h14⟩ := h.ok
  exact ⟨d, z, h1, ⟨i, h2, h5, h3, h4⟩, h6, h7, h8, h13, h10, h14⟩
theorem zj5 (hT : TOk P T) {t : Nat} {K : Nat → Option α} (h : elm T t K = some r) : ∃ e k by_ z, K k = some r ∧ P.underlying t = some (.slice e) ∧ TI P e k by_ z ∧ 0 < k := by
  obtain ⟨td, h1, h⟩ := zaa h
  obtain ⟨d, z, g1, g2, g3, g4, _⟩ := zhv (hT _ _ h1)
  split at h
  · rename_i e he
    obtain ⟨te, h2, h⟩ := zaa h
    obtain ⟨d', z', q1, q2, q3, q4, _, _, q7, _⟩ := zhv (hT _ _ h2)
    rw [he] at g4
    have g4 : d = .slice e := g4
    subst g4
    exact ⟨e, te.sz, te.by_, z', h, g1, q2, q7⟩
  · cases h
theorem zn2 (hT : TOk P T) {t : Nat} {K : Option α} (h : strT T t K = some r) : K = some r ∧ P.underlying t = some .string := by
  obtain ⟨td, h1, h⟩ := zaa h
  obtain ⟨d, z, g1, g2, g3, g4, _⟩ := zhv (hT _ _ h1)
  split at h
  · rename_i he
    rw [he] at g4
    have g4 : d = .string := g4
    subst g4
    exact ⟨h, g1⟩
  · cases h
theorem zvl (hT : TOk P T) {t i : Nat} {K : Nat → TypeId → Option α} (h : fld T t i K = some r) : ∃ off ft, K off ft = some r ∧ FO P t i off ∧ ∃ fs fd, P.underlying t = some (.struct fs) ∧ fs[i]? = some fd ∧ fd.offset = off ∧ fd.type = ft := by
  obtain ⟨td, h1, h⟩ := zaa h
  obtain ⟨d, z, g1, g2, g3, g4, _⟩ := zhv (hT _ _ h1)
  split at h
  · rename_i fs he
    obtain ⟨p, h2, h⟩ := zaa h
    rw [he] at g4
    obtain ⟨F, rfl, c1, c2⟩ := g4
    obtain ⟨fd, k1, k2, k3, i', k4, k5⟩ := c2 i p h2
    exact ⟨p.1, p.2, h, ⟨F, fd, i', g1, k1, k2, k4, k5⟩, F, fd, g1, k1, k2, k3⟩
  · cases h
def PlaceOk (P : Program) (t : TypeId) (i off : Nat) (ft : TypeId) : Prop := (∃ fs fd, P.underlying t = some (.struct fs) ∧ fs[i]? = some fd ∧ fd.offset = off ∧ fd.type = ft) ∨ (∃ n ie, P.underlying t = some (.array n ft) ∧ P.info? ft = some ie ∧ off = i * ie.size)
theorem plc_inv (hT : TOk P T) {t i : Nat} {K : Nat → TypeId → Option α} (h : plc T t i K = some r) : ∃ off ft, K off ft = some r ∧ PlaceOk P t i off ft := by
  obtain ⟨td, h1, h⟩ := zaa h
  obtain ⟨d, z, g1, g2, g3, g4, _⟩ := zhv (hT _ _ h1)
  split at h
  · rename_i fs he
    obtain ⟨p, h2, h⟩ := zaa h
    rw [he] at g4
    obtain ⟨F, rfl, c1, c2⟩ := g4
    obtain ⟨fd, k1, k2, k3, i', k4, k5⟩ := c2 i p h2
    exact ⟨p.1, p.2, h, .inl ⟨F, fd, g1, k1, k2, k3⟩⟩
  · rename_i n e he
    obtain ⟨te, h2, h3⟩ := zaa h
    obtain ⟨_, h4⟩ := zb0 h3
    obtain ⟨d', i', z', q1, q2, q3, _⟩ := (hT _ _ h2).ok
    rw [he] at g4
    obtain ⟨g4, _⟩ := g4
    subst g4
    exact ⟨_, _, h4, .inr ⟨n, i', g1, q2, by rw [q3]⟩⟩
  · cases h
def PtrTo (ob : List Ob) (v : V) (cs : List C) (o : Nat) : Prop := ∀ (f : Fz) (N : Nm) (L : List Ent) (w0 w : World), OLR f N ob L → Cw w0 f L w → ∀ u, VR f N v u → ∃ b base vs, u = .pointer (some ⟨b, base + o, none⟩) ∧ CLR f N cs vs ∧ ∀ j x, vs[j]? = some x → Cell f L b (base + j) x
theorem zlp {v : Value} {k i j : Nat} (h : (eaddr v k i j).oneCell' = true) : ∃ a m c, v = .slice (some a) m c ∧ ∀ j, eaddr v k i j = .pointer (some ⟨a.block, a.off + (i * k + j), none⟩) := by
  unfold eaddr at h
  split at h
  · exact ⟨_, _, _, rfl, fun _ => rfl⟩
  · simp [undef, Value.oneCell'] at h
theorem vP_inv {v : V} {K : List C → Nat → Option α} (h : vP ob v K = some r) : ∃ cs o, K cs o = some r ∧ PtrTo ob v cs o := by
  unfold vP at h
  split at h
  · rename_i c x o
    refine ⟨_, _, h, fun f N L w0 w hO hC u hu => ?_⟩
    obtain ⟨b, base, rw, h1, h2, h3⟩ := hu
    exact ⟨b, base, rw, h1,(TC.lvR c).1 h2, fun j x hj => (h3 j x hj).mono (.refl f) (by simp)⟩
  · rename_i j o
    obtain ⟨y, h1, h⟩ := zaa h
    split at h
    · rename_i cs
      refine ⟨_, _, h, fun f N L w0 w hO hC u hu => ?_⟩
      obtain ⟨b, g1, rfl⟩ := hu
      obtain ⟨_, e, g2, b', vs, t, g3, rfl, g5⟩ := hO.get h1
      rw [g1] at g3
      cases g3
      exact ⟨b,0, vs, by rw [Nat.zero_add], g5, fun j x hj => by rw [Nat.zero_add]; exact Cell.blk (List.mem_of_getElem? g2) (by simpa using hj)⟩
    · rename_i cs
      refine ⟨_, _, h, fun f N L w0 w hO hC u hu => ?_⟩
      obtain ⟨b, g1, rfl⟩ := hu
      obtain ⟨_, e, g2, b', vs, t, g3, g4, g5⟩ := hO.get h1
      rw [g1] at g3
      cases g3
      exact ⟨b,0, vs, by rw [Nat.zero_add], g5, fun j x hj => by rw [Nat.zero_add]; exact .inl ⟨_, t,(0,0), g4, by simpa using hj⟩⟩
    · cases h
  · rename_i j
    obtain ⟨y, h1, h⟩ := zaa h
    split at h
    · refine ⟨_, _, h, fun f N L w0 w hO hC u hu => ?_⟩
      obtain ⟨g1, b, rfl⟩ := hu
      obtain ⟨_, e, g2, b', vs, t, cv, g3, g4, g5, g6⟩ := hO.get h1
      rw [g1] at g3
      cases g3
      have h1 : cv.oneCell' = true := by rw [g5]; rfl
      refine ⟨b,0,[cv], rfl, ⟨⟨b, t,(0,0), g1, g4, h1⟩, trivial⟩, fun j x hj => ?_⟩
      rw [Nat.zero_add]
      exact .inl ⟨_, t,(0,0), g4, by simpa using hj⟩
    · cases h
  · rename_i k j i o
    obtain ⟨y, h1, h⟩ := zaa h
    split at h
    · rename_i et c xs
      obtain ⟨hk, h'⟩ := zb0 h
      have hk := Nat.eq_of_beq_eq_true hk
      obtain ⟨x, h2, h3⟩ := zaa h'
      refine ⟨_, _, h3, fun f N L w0 w hO hC u hu => ?_⟩
      obtain ⟨v0, g1, g2, g3⟩ := hu
      subst hk
      subst g2
      obtain ⟨_, e, g4, v', rows, g5, rfl, g7⟩ := hO.get h1
      rw [g1] at g5
      cases g5
      obtain ⟨rw, q1, q2, q3, q4⟩ := g7.geti h2
      have hR : Rd f L v0 c.k rows := Rd.ofOwn (List.mem_of_getElem? g4) hC
      obtain ⟨a, m, cp, rfl, ha⟩ := zlp g3
      refine ⟨a.block, a.off + i.toNat * c.k, rw, by rw [ha, Nat.add_assoc],(TC.lvR c).1 q2, fun j x hj => ?_⟩
      obtain ⟨b', o', e1, e2⟩ := hR.cell q1 hj
      rw [ha] at e1
      cases e1
      rw [Nat.add_assoc]; exact e2
    · cases h
  · cases h
theorem rd_inv {ag : Bool} {sz : Nat} {cs : List C} {o : Nat} {K : V → Option α} (h : rd ag sz cs o K = some r) : ∃ v, K v = some r ∧ ((ag = true ∧ v = .a ((cs.drop o).take sz) ∧ ((cs.drop o).take sz).length = sz) ∨ (ag = false ∧ ∃ c, cs[o]? = some c ∧ v = .c c)) := by
  unfold rd at h
  rcases zdv h with ⟨rfl, h⟩ | ⟨rfl, h⟩
  · obtain ⟨h1, h⟩ := zb0 h
    exact ⟨_, h, .inl ⟨rfl, rfl, Nat.eq_of_beq_eq_true h1⟩⟩
  · obtain ⟨c, h1, h⟩ := zaa h
    exact ⟨_, h, .inr ⟨rfl, c, h1, rfl⟩⟩
theorem load_ok (hT : TOk P T) {t : TypeId} {x : Operand} {K : V → Option α} (h : qop T (.load t x) sl ob K = some r) : ∃ v, K v = some r ∧ QOk P (.load t x) sl ob v := by
  obtain ⟨v, h, hx⟩ := zba (h : opd sl x _ = some r)
  obtain ⟨td, h1, h⟩ := zaa h
  obtain ⟨d, z, g1, g2, g3, g4, _⟩ := zhv (hT _ _ h1)
  obtain ⟨cs, o, h, hp⟩ := vP_inv h
  obtain ⟨v', h, hv⟩ := rd_inv h
  refine ⟨v', h, fun f N E L w0 w hS hO hC => ?_⟩
  obtain ⟨u, e1, e2⟩ := hx f N E hS
  obtain ⟨b, base, vs, rfl, q2, q3⟩ := hp f N L w0 w hO hC u e2
  rcases hv with ⟨ha, rfl, hl⟩ | ⟨ha, c, hc, rfl⟩
  · have hv := (q2.drop o).take td.sz
    refine ⟨.agg ((vs.drop o).take td.sz).toArray, ⟨_, rfl, hv⟩, fun n d' ty pos af g => zna e1 (fun j u hj => ?_) g1 (g3.trans ha) g2 (by rw [hv.len, hl])⟩
    rw [List.getElem?_take] at hj
    split at hj
    · rw [List.getElem?_drop] at hj
      rw [Nat.add_assoc]; exact q3 _ _ hj
    · cases hj
  · obtain ⟨y, k1, k2⟩ := q2.get hc
    exact ⟨y, k2, fun n d' ty pos af g => zuh e1 (q3 _ _ k1) g1 (g3.trans ha)⟩
theorem zoz {f : Fz} {N : Nm} {c : TC} {xs : List c.T} {v : Value} {n : Int} {y : c.T} (h : TS c f v xs) (hy : geti xs n = some y) : ∃ rows, Rd f [] v c.k rows ∧ n = (n.toNat : Int) ∧ n.toNat < rows.length ∧ CR f N (.fp c y 0) (eaddr v c.k n.toNat 0) := by
  obtain ⟨rows, h1, h2⟩ := h.rd
  obtain ⟨r, q1, q2, q3, q4⟩ := h2.geti hy
  refine ⟨rows, h1, q3, q4, ?_⟩
  obtain ⟨hl, ao, cap, rfl, e1, e2, e3⟩ := h1
  cases ao with
  | none => rw [e2 rfl] at q4; simp at q4
  | some a => exact ⟨a.block, a.off + n.toNat * c.k, r, by simp [eaddr], q2, fun j u hj => by rw [Nat.add_assoc]; exact (e3 a rfl).2 _ _ q1 j u hj⟩
theorem zrx {C : World → Prop} {n : Nat} {E : List (Nat × Value)} {d : Option Tmp} {ty : TypeId} {pos : String} {af : Array Edge} {g : Option (Nat × Bool)} {t e : TypeId} {x ix : Operand} {b o len k by_ : Nat} {z : Value} {ik : IntKind} {i : Int} {j : Nat} (hx : opv E x = some (.pointer (some ⟨b, o, none⟩))) (hi : opv E ix = some (.int ik i)) (ht : P.underlying t = some (.array len e)) (hT : TI P e k by_ z)
    (hm : i = (j : Int)) (hb : j < len) : Y P C n E ⟨d, .indexAddr t x ix, ty, pos, af, g⟩ (.pointer (some ⟨b, o + j * k, none⟩)) :=
  .of fun a ha w _ => by
    subst hm
    obtain ⟨it, hit, _, hk, _⟩ := hT
    simp [execOp, ha.eval hx, ha.eval hi, Instr.indexAt, Instr.sureAddr, run_underlying ht, asIntOf, sizeOf, typeInfo, hit, hk, hb, add_lit]
theorem zmc : ∀ {m : Nat} {i : Int} {K : Nat → Option α}, ixc m i K = some r → ∃ q, K q = some r ∧ q < m ∧ i = (q : Int)
  | 0, _, _, h => by cases h
  | m + 1, i, K, h => by
    rcases zdv h with ⟨h1, h2⟩ | ⟨_, h2⟩
    · exact ⟨m, h2, Nat.lt_succ_self _, of_decide_eq_true h1⟩
    · obtain ⟨q, h3, h4, h5⟩ := zmc h2
      exact ⟨q, h3, by omega, h5⟩
theorem zsf (hT : TOk P T) {t e : TypeId} {m : Nat} {td te : TD} {x ix : Operand} {v : V} {ik : IntKind} {n : Int} {K : V → Option α} (hx : Opn sl x v) (hix : Opn sl ix (.c (.i ik n))) (h1 : T t = some td) (hd : td.d = .array m e) (h2 : T e = some te)
    (h : ixArr m te.sz n v K = some r) : ∃ v, K v = some r ∧ QOk P (.indexAddr t x ix) sl ob v := by
  obtain ⟨d1, z1, g1, _, _, g2, _⟩ := zhv (hT _ _ h1)
  obtain ⟨d2, z2, g3, g4, _⟩ := zhv (hT _ _ h2)
  rw [hd] at g2
  obtain ⟨g2, _⟩ := g2
  subst g2
  unfold ixArr at h
  split at h
  · obtain ⟨q, k1, k2, k3⟩ := zmc h
    refine ⟨_, k1, fun f N E L w0 w hS hO hC => ?_⟩
    obtain ⟨u, e1, b, base, r, rfl, q2, q3⟩ := hx f N E hS
    obtain ⟨u2, e3, e4⟩ := hix f N E hS
    have e4 : u2 = .int ik n := e4
    subst e4
    exact ⟨.pointer (some ⟨b, base + (_ + q * te.sz), none⟩), ⟨b, base, r, rfl, q2, q3⟩, fun n d ty pos af g => by rw [← Nat.add_assoc]; exact zrx e1 e3 g1 g4 k3 k2⟩
  · obtain ⟨q, k1, k2, k3⟩ := zmc h
    refine ⟨_, k1, fun f N E L w0 w hS hO hC => ?_⟩
    obtain ⟨u, e1, b, q1, rfl⟩ := hx f N E hS
    obtain ⟨u2, e3, e4⟩ := hix f N E hS
    have e4 : u2 = .int ik n := e4
    subst e4
    exact ⟨_, ⟨b, q1, rfl⟩, fun n d ty pos af g => zrx e1 e3 g1 g4 k3 k2⟩
  · rename_i k j i o
    obtain ⟨q, k1, k2, k3⟩ := zmc h
    refine ⟨_, k1, fun f N E L w0 w hS hO hC => ?_⟩
    obtain ⟨u, e1, v0, q1, q2, q3⟩ := hx f N E hS
    obtain ⟨u2, e3, e4⟩ := hix f N E hS
    have e4 : u2 = .int ik n := e4
    subst q2 e4
    obtain ⟨a, m', c, q4, ha⟩ := zlp q3
    rw [ha] at e1
    refine ⟨_, ⟨_, q1, rfl, by rw [ha]; rfl⟩, fun n' d ty pos af g => ?_⟩
    rw [ha, show a.off + (i.toNat * k + (o + q * te.sz)) = a.off + (i.toNat * k + o) + q * te.sz from by omega]
    exact zrx e1 e3 g1 g4 k3 k2
  · cases h
theorem zr7 (hT : TOk P T) {t : TypeId} {x ix : Operand} {K : V → Option α} (h : qop T (.indexAddr t x ix) sl ob K = some r) : ∃ v, K v = some r ∧ QOk P (.indexAddr t x ix) sl ob v := by
  obtain ⟨v, h, hx⟩ := zba (h : opd sl x _ = some r)
  obtain ⟨v2, h, hix⟩ := zba h
  obtain ⟨ik, n, hv2, h'⟩ := zql h
  subst hv2
  clear h
  obtain ⟨td, ht1, ht2⟩ := zaa h'
  clear h'
  split at ht2
  · rename_i m e hd
    obtain ⟨te, hte, h3⟩ := zaa ht2
    exact zsf hT hx hix ht1 hd hte h3
  have h' := ht2
  clear ht2
  obtain ⟨e, k, by_, z, h, g1, g2, g3⟩ := zj5 hT h'
  clear h'
  split at h
  · rename_i c xs
    obtain ⟨hk, h'⟩ := zb0 h
    have hk := Nat.eq_of_beq_eq_true hk
    obtain ⟨y, hy, h2⟩ := zaa h'
    clear h h'
    subst hk
    refine ⟨_, h2, fun f N E L w0 w hS hO hC => ?_⟩
    obtain ⟨u, e1, e2⟩ := hx f N E hS
    obtain ⟨u2, e3, rfl⟩ := hix f N E hS
    obtain ⟨rows, q1, q2, q3, q4⟩ := zoz (N := N) e2 hy
    exact ⟨_, q4, fun n d ty pos af g => zai (Rd.up (L := L) q1) e1 e3 q2 q3 g1 g2⟩
  · rename_i j
    obtain ⟨y, h1, h⟩ := zaa h
    split at h
    · rename_i et c xs
      obtain ⟨hk, h'⟩ := zb0 h
      have hk := Nat.eq_of_beq_eq_true hk
      obtain ⟨y, hy, h2⟩ := zaa h'
      clear h h'
      subst hk
      refine ⟨_, h2, fun f N E L w0 w hS hO hC => ?_⟩
      obtain ⟨u, e1, e2, e2'⟩ := hx f N E hS
      obtain ⟨u2, e3, rfl⟩ := hix f N E hS
      obtain ⟨_, en, k1, v0, rows, k2, rfl, k3⟩ := hO.get h1
      rw [e2] at k2
      cases k2
      obtain ⟨rw, q1, q2, q3, q4⟩ := k3.geti hy
      have hR : Rd f L u c.k rows := Rd.ofOwn (List.mem_of_getElem? k1) hC
      obtain ⟨b', o', m1⟩ := zkb hR q4
      exact ⟨_, ⟨u, e2, rfl, by rw [m1]; rfl⟩, fun n d ty pos af g => zai hR e1 e3 q3 q4 g1 g2⟩
    · rename_i c xs
      obtain ⟨hk, h'⟩ := zb0 h
      have hk := Nat.eq_of_beq_eq_true hk
      obtain ⟨y, hy, h2⟩ := zaa h'
      clear h h'
      subst hk
      refine ⟨_, h2, fun f N E L w0 w hS hO hC => ?_⟩
      obtain ⟨u, e1, e2, e2'⟩ := hx f N E hS
      obtain ⟨u2, e3, rfl⟩ := hix f N E hS
      obtain ⟨_, en, k1, v0, k2, k3⟩ := hO.get h1
      rw [e2] at k2
      cases k2
      obtain ⟨rows, q1, q2, q3, q4⟩ := zoz (N := N) k3 hy
      exact ⟨_, q4, fun n d ty pos af g => zai (Rd.up (L := L) q1) e1 e3 q2 q3 g1 g2⟩
    · cases h
  · rename_i kk j lo hi hh
    clear hh
    obtain ⟨y, h1, h⟩ := zaa h
    split at h
    · rename_i et c xs
      obtain ⟨hk, h'⟩ := zb0 h
      simp only [Bool.and_eq_true] at hk
      have hk' := Nat.eq_of_beq_eq_true hk.2
      have hk := Nat.eq_of_beq_eq_true hk.1
      subst hk'
      obtain ⟨zs, hz, h2⟩ := zaa h'
      obtain ⟨y, hy, h3⟩ := zaa h2
      clear h h' h2
      subst hk
      obtain ⟨⟨c1, c2, c3, c4⟩, c5⟩ := zen hz
      refine ⟨_, h3, fun f N E L w0 w hS hO hC => ?_⟩
      obtain ⟨u, e1, v1, e2, e4, e5, _⟩ := hx f N E hS
      obtain ⟨u2, e3, rfl⟩ := hix f N E hS
      obtain ⟨_, en, k1, v0, rows, k2, rfl, k3⟩ := hO.get h1
      rw [e2] at k2
      cases k2
      have hR : Rd f L v1 c.k rows := Rd.ofOwn (List.mem_of_getElem? k1) hC
      have hR2 := Rd.cut hR c3 (by rw [k3.len]; exact c4)
      rw [← e4] at hR2
      have hW : RW c.ty f ((rows.take hi.toNat).drop lo.toNat) zs := by rw [← c5]; exact (k3.take _).drop _
      obtain ⟨rw, q1, q2, q3, q4⟩ := hW.geti hy
      obtain ⟨b', o', m1⟩ := zkb hR2 q4
      refine ⟨_, ⟨v1, e2, ?_, by rw [m1]; rfl⟩, fun n d ty pos af g => zai hR2 e1 e3 q3 q4 g1 g2⟩
      subst e4
      rw [show (lo + n).toNat = lo.toNat + n.toNat by omega]
      obtain ⟨hl, ao, cap, rfl, a1, a2, a3⟩ := hR
      have hlen : n.toNat < ((rows.take hi.toNat).drop lo.toNat).length := q4
      simp only [List.length_drop, List.length_take] at hlen
      cases ao with
      | none => exact absurd (a2 rfl) (by intro e; rw [e] at hlen; simp at hlen)
      | some a =>
        simp only [cutv]
        rw [if_neg (by omega)]
        simp only [eaddr, Option.map_some, Addr.add]
        by_cases h0 : lo.toNat * c.k = 0
        · simp [h0, Nat.add_mul]
        · simp [h0, Nat.add_mul, Nat.add_assoc]
    · cases h
  · cases h
theorem zrg (hT : TOk P T) {t : TypeId} {x : Operand} {i : Nat} {K : V → Option α} (h : qop T (.fieldAddr t x i) sl ob K = some r) : ∃ v, K v = some r ∧ QOk P (.fieldAddr t x i) sl ob v := by
  obtain ⟨v, h, hx⟩ := zba (h : opd sl x _ = some r)
  obtain ⟨off, ft, h, hF, _⟩ := zvl hT h
  split at h
  · refine ⟨_, h, fun f N E L w0 w hS hO hC => ?_⟩
    obtain ⟨u, e1, b, base, r, rfl, q2, q3⟩ := hx f N E hS
    exact ⟨.pointer (some ⟨b, base + (_ + off), none⟩), ⟨b, base, r, rfl, q2, q3⟩, fun n d ty pos af g => by rw [← Nat.add_assoc]; exact za3 e1 hF⟩
  · refine ⟨_, h, fun f N E L w0 w hS hO hC => ?_⟩
    obtain ⟨u, e1, b, q1, rfl⟩ := hx f N E hS
    exact ⟨_, ⟨b, q1, rfl⟩, fun n d ty pos af g => za3 e1 hF⟩
  · refine ⟨_, h, fun f N E L w0 w hS hO hC => ?_⟩
    rename_i k j n o h0
    obtain ⟨u, e1, v0, q1, q2, q3⟩ := hx f N E hS
    subst q2
    obtain ⟨a, m, c, q4, ha⟩ := zlp q3
    rw [ha] at e1
    refine ⟨_, ⟨_, q1, rfl, by rw [ha]; rfl⟩, fun n' d ty pos af g => ?_⟩
    rw [ha, show a.off + (n.toNat * k + (o + off)) = a.off + (n.toNat * k + o) + off from by omega]
    exact za3 e1 hF
  · cases h
theorem zul : ∀ {us : List U} {vs : List Value} {f : Fz} {N : Nm} {i : Nat} {u : U}, ULR f N us vs → us[i]? = some u → ∃ v, nth vs i = some v ∧ UR f N u v
  | _ :: _, _ :: _, f, N,0, u, ⟨h1, _⟩, h => by simp at h; subst h; exact ⟨_, rfl, h1⟩
  | _ :: _, _ :: _, f, N, i + 1, u, ⟨_, h2⟩, h => zul (i := i) h2 (by simpa using h)
theorem zj7 {x : Option Operand} {d : Int} {K : Int → Option α} (h : bnd sl x d K = some r) : ∃ n, K n = some r ∧ ((x = none ∧ n = d) ∨ ∃ y, x = some y ∧ Opn sl y (.c (.i .i64 n))) := by
  cases x with
  | none => exact ⟨d, h, .inl ⟨rfl, rfl⟩⟩
  | some y =>
    obtain ⟨v, h, hx⟩ := zba (h : opd sl y _ = some r)
    obtain ⟨k, n, rfl, h⟩ := zql h
    obtain ⟨hk, h⟩ := zb0 h
    have := zvd hk
    subst this
    exact ⟨n, h, .inr ⟨y, rfl, hx⟩⟩
theorem zj6 {x : Option Operand} {d n : Int} {m dm : Nat} {f : Fz} {N : Nm} {E : List (Nat × Value)} (h : (x = none ∧ n = d) ∨ ∃ y, x = some y ∧ Opn sl y (.c (.i .i64 n))) (hS : SlR f N sl E) (hn : n = (m : Int)) (hd : d = (dm : Int)) : (x = none ∧ m = dm) ∨ ∃ y, x = some y ∧ opv E y = some (.int .i64 (m : Int)) := by
  rcases h with ⟨rfl, rfl⟩ | ⟨y, rfl, hy⟩
  · exact .inl ⟨rfl, by omega⟩
  · obtain ⟨u, h1, h2⟩ := hy f N E hS
    have h2 : u = .int .i64 n := h2
    subst h2
    exact .inr ⟨y, rfl, by rw [← hn]; exact h1⟩
theorem field_ok (hT : TOk P T) {t : TypeId} {x : Operand} {i : Nat} {K : V → Option α} (h : qop T (.field t x i) sl ob K = some r) : ∃ v, K v = some r ∧ QOk P (.field t x i) sl ob v := by
  obtain ⟨v, h0, hx⟩ := zba (h : opd sl x _ = some r)
  obtain ⟨off, ft, h1, hF, fs, fd, c1, c2, c3, c4⟩ := zvl hT h0
  obtain ⟨td, h2, h3⟩ := zaa h1
  clear h h0 h1
  obtain ⟨d, z, g1, g2, g3, g4, _⟩ := zhv (hT _ _ h2)
  split at h3
  · obtain ⟨v', h4, hv⟩ := rd_inv h3
    refine ⟨v', h4, fun f N E L w0 w hS hO hC => ?_⟩
    obtain ⟨u, e1, vs, rfl, e2⟩ := hx f N E hS
    subst c3 c4
    rcases hv with ⟨ha, rfl, hl⟩ | ⟨ha, c, hc, rfl⟩
    · have hv := (e2.drop fd.offset).take td.sz
      refine ⟨.agg ((vs.drop fd.offset).take td.sz).toArray, ⟨_, rfl, hv⟩, fun n d' ty pos af g => .of fun a he w _ => ?_⟩
      obtain ⟨it, hit, _, hk, _⟩ := g2
      have hlen := e2.len
      have hsz : fd.offset + td.sz ≤ vs.length := by
        simp only [List.length_take, List.length_drop] at hl
        omega
      have hag := g3.trans ha
      cases d <;> first | (simp [Agg] at hag; done) | skip
      all_goals
        simp [execOp, he.eval e1, Instr.field, run_underlying c1, c2, asAgg, part, isAgg, run_underlying g1, sizeOf, typeInfo, hit, hk]
    · obtain ⟨y, k1, k2⟩ := e2.get hc
      exact ⟨y, k2, fun n d' ty pos af g => y_field e1 c1 c2 rfl g1 (g3.trans ha) (by simpa using k1)⟩
  · cases h3
theorem len_ok (hT : TOk P T) {t : TypeId} {x : Operand} {v : V} {K : Int → Option α} (hx : Opn sl x v) (h : slLen T t ob v K = some r) : ∃ n, K n = some r ∧ QOk P (.call ⟨.builtin .len, #[x], #[t]⟩) sl ob (.c (.i .i64 n)) := by
  unfold slLen at h
  split at h
  · obtain ⟨e, k, by_, z, h1, g1, _⟩ := zj5 hT h
    refine ⟨_, h1, fun f N E L w0 w hS hO hC => ?_⟩
    obtain ⟨u, e1, rows, e2, e3⟩ := hx f N E hS
    exact ⟨_, rfl, fun n d ty pos af g => by rw [← e3.len]; exact zp6 (Rd.up (L := L) (TC.rdU _ e2)) e1 g1⟩
  · obtain ⟨e, k, by_, z, h1, g1, _⟩ := zj5 hT h
    refine ⟨_, h1, fun f N E L w0 w hS hO hC => ?_⟩
    obtain ⟨u, e1, e2⟩ := hx f N E hS
    have e2 : u = .slice none 0 0 := e2
    subst e2
    exact ⟨_, rfl, fun n d ty pos af g => y_len e1 g1⟩
  · obtain ⟨h1, g1⟩ := zn2 hT h
    refine ⟨_, h1, fun f N E L w0 w hS hO hC => ?_⟩
    obtain ⟨u, e1, e2⟩ := hx f N E hS
    have e2 : u = .string _ := e2
    subst e2
    exact ⟨_, rfl, fun n d ty pos af g => y_lenS e1 g1⟩
  · obtain ⟨e, k, by_, z, h0, g1, _⟩ := zj5 hT h
    obtain ⟨y, h1, h2⟩ := zaa h0
    clear h h0
    split at h2
    · refine ⟨_, h2, fun f N E L w0 w hS hO hC => ?_⟩
      obtain ⟨u, e1, e2, e2'⟩ := hx f N E hS
      obtain ⟨_, en, k1, v0, rows, k2, rfl, k3⟩ := hO.get h1
      rw [e2] at k2
      cases k2
      exact ⟨_, rfl, fun n d ty pos af g => by rw [← k3.len]; exact zp6 (Rd.ofOwn (List.mem_of_getElem? k1) hC) e1 g1⟩
    · refine ⟨_, h2, fun f N E L w0 w hS hO hC => ?_⟩
      obtain ⟨u, e1, e2, e2'⟩ := hx f N E hS
      obtain ⟨_, en, k1, v0, k2, rows, k3, k4⟩ := hO.get h1
      rw [e2] at k2
      cases k2
      exact ⟨_, rfl, fun n d ty pos af g => by rw [← k4.len]; exact zp6 (Rd.up (L := L) (TC.rdU _ k3)) e1 g1⟩
    · cases h2
  · rename_i kk j lo hi
    obtain ⟨e, k, by_, z, h0, g1, _⟩ := zj5 hT h
    refine ⟨_, h0, fun f N E L w0 w hS hO hC => ?_⟩
    obtain ⟨u, e1, v1, e2, e4, e5, e6, e7, ao, m, c, rfl⟩ := hx f N E hS
    refine ⟨_, rfl, fun n d ty pos af g => ?_⟩
    subst e4
    have : hi - lo = ((hi.toNat - lo.toNat : Nat) : Int) := by omega
    rw [this]
    exact y_len e1 g1
  · cases h
theorem slice_ok (hT : TOk P T) {t : TypeId} {x : Operand} {lo hi : Option Operand} {K : V → Option α} (h : qop T (.slice t x lo hi none) sl ob K = some r) : ∃ v, K v = some r ∧ QOk P (.slice t x lo hi none) sl ob v := by
  obtain ⟨v, h0, hx⟩ := zba (h : opd sl x _ = some r)
  clear h
  split at h0
  · rename_i s
    obtain ⟨h1, g1⟩ := zn2 hT h0
    obtain ⟨a, h2, ha⟩ := zj7 h1
    obtain ⟨b, h3, hb⟩ := zj7 h2
    obtain ⟨y, h4, h5⟩ := zaa h3
    obtain ⟨⟨q1, q2, q3, q4⟩, q5⟩ := zri h4
    refine ⟨_, h5, fun f N E L w0 w hS hO hC => ?_⟩
    obtain ⟨u, e1, e2⟩ := hx f N E hS
    have e2 : u = .string _ := e2
    subst e2
    exact ⟨_, rfl, fun n d ty pos af g => zud q5 e1 g1 (zj6 ha hS q1 rfl) (zj6 hb hS q2 rfl) q3 q4⟩
  · rename_i c xs
    obtain ⟨e, k, by_, z, h1, g1, g2, _⟩ := zj5 hT h0
    obtain ⟨hk, h1'⟩ := zb0 h1
    obtain ⟨hk, hfl⟩ := (Bool.and_eq_true _ _).mp hk
    have hk := Nat.eq_of_beq_eq_true hk
    obtain ⟨a, h2, ha⟩ := zj7 h1'
    obtain ⟨b, h3, hb⟩ := zj7 h2
    obtain ⟨y, h4, h5⟩ := zaa h3
    obtain ⟨⟨q1, q2, q3, q4⟩, q5⟩ := zen h4
    refine ⟨_, h5, fun f N E L w0 w hS hO hC => ?_⟩
    obtain ⟨u, e1, rows, e2, e3⟩ := hx f N E hS
    have hl : (xs.length : Int) = (rows.length : Int) := by rw [e3.len]
    have hW : RW c.ty f ((rows.take b.toNat).drop a.toNat) y := by rw [← q5]; exact (e3.take _).drop _
    refine ⟨cutv u c.k a.toNat b.toNat, ⟨_, TC.rd_cut hfl e2 q3 (by rw [e3.len]; exact q4), hW⟩, fun n d ty pos af g => ?_⟩
    have e2' : Rd f L u k rows := by rw [← hk]; exact Rd.up (c.rdU e2)
    rw [hk]
    exact zi3 e1 g1 g2 (zj6 ha hS q1 rfl) (zj6 hb hS q2 hl) q3 (by rw [e3.len]; exact q4) e2'
  · rename_i j
    obtain ⟨e, k, by_, z, h1, g1, g2, _⟩ := zj5 hT h0
    obtain ⟨y0, h2, h3⟩ := zaa h1
    clear h0 h1
    split at h3
    · rename_i et c xs
      obtain ⟨hk, h4⟩ := zb0 h3
      have hk := Nat.eq_of_beq_eq_true hk
      obtain ⟨a, h5, ha⟩ := zj7 h4
      obtain ⟨b, h6, hb⟩ := zj7 h5
      obtain ⟨y, h7, h8⟩ := zaa h6
      obtain ⟨⟨q1, q2, q3, q4⟩, q5⟩ := zen h7
      refine ⟨_, h8, fun f N E L w0 w hS hO hC => ?_⟩
      obtain ⟨u, e1, e2, e2'⟩ := hx f N E hS
      obtain ⟨_, en, k1, v0, rows, k2, rfl, k3⟩ := hO.get h2
      rw [e2] at k2
      cases k2
      have hl : (xs.length : Int) = (rows.length : Int) := by rw [k3.len]
      have hR : Rd f L u c.k rows := Rd.ofOwn (List.mem_of_getElem? k1) hC
      have hR2 := Rd.cut hR q3 (by rw [k3.len]; exact q4)
      obtain ⟨ao, m, cp, hu⟩ : ∃ ao m c, u = .slice ao m c := by obtain ⟨_, ao, cap, rfl, _⟩ := hR; exact ⟨_, _, _, rfl⟩
      refine ⟨cutv u c.k a.toNat b.toNat, ⟨u, e2, rfl, hR2.one, by omega, by omega, ao, m, cp, hu⟩, fun n d ty pos af g => ?_⟩
      rw [hk] at hR ⊢
      exact zi3 e1 g1 g2 (zj6 ha hS q1 rfl) (zj6 hb hS q2 hl) q3 (by rw [k3.len]; exact q4) hR
    · rename_i c xs
      obtain ⟨hk, h4⟩ := zb0 h3
      obtain ⟨hk, hfl⟩ := (Bool.and_eq_true _ _).mp hk
      have hk := Nat.eq_of_beq_eq_true hk
      obtain ⟨a, h5, ha⟩ := zj7 h4
      obtain ⟨b, h6, hb⟩ := zj7 h5
      obtain ⟨y, h7, h8⟩ := zaa h6
      obtain ⟨⟨q1, q2, q3, q4⟩, q5⟩ := zen h7
      refine ⟨_, h8, fun f N E L w0 w hS hO hC => ?_⟩
      obtain ⟨u, e1, e2, e2'⟩ := hx f N E hS
      obtain ⟨_, en, k1, v0, k2, rows, k3, k4⟩ := hO.get h2
      rw [e2] at k2
      cases k2
      have hl : (xs.length : Int) = (rows.length : Int) := by rw [k4.len]
      have hW : RW c.ty f ((rows.take b.toNat).drop a.toNat) y := by rw [← q5]; exact (k4.take _).drop _
      refine ⟨cutv u c.k a.toNat b.toNat, ⟨_, TC.rd_cut hfl k3 q3 (by rw [k4.len]; exact q4), hW⟩, fun n d ty pos af g => ?_⟩
      have e2' : Rd f L u k rows := by rw [← hk]; exact Rd.up (c.rdU k3)
      rw [hk]
      exact zi3 e1 g1 g2 (zj6 ha hS q1 rfl) (zj6 hb hS q2 hl) q3 (by rw [k4.len]; exact q4) e2'
    · cases h3
  · cases h0
end
end Go.V
