/-
  Walks and laws of this seat.
-/
import Derived.Test.YtdjjeahiomackaaGreatVH
namespace Go.V
set_option linter.unusedVariables false
set_option linter.unusedSimpArgs false
set_option linter.unusedSectionVars false
attribute [local irreducible] opd opr
open Go.RowKit Go.Sl
variable [F0]
variable {α : Type} {r : α} {P : Program} {E : Env} {sl : List (Nat × V)} {ob : List Ob} {K : V → List Ob → Option α} {d : Option Tmp}
theorem zjz (hE : EnvOk P E) {t : Nat} {K : TypeId → TD → Option α} (h : elemT E t K = some r) : ∃ e te d z, K e te = some r ∧ P.underlying t = some (.slice e) ∧ P.underlying e = some d ∧ TI P e te.c.k te.by_ z ∧ 0 < te.c.k ∧ DsOk P te.d d ∧ (∀ f N, CLR f N te.z z.cells.toList) ∧ z.cells.size = te.c.k ∧ (∀ x ∈ z.cells.toList, x.oneCell' = true) := by
  obtain ⟨td, h1, h⟩ := zaa h
  obtain ⟨d, z, g1, g2, g3, g4, _⟩ := zhv (hE.T _ _ h1)
  split at h
  · rename_i e he
    obtain ⟨te, h2, h3⟩ := zaa h
    obtain ⟨d', i, z', h1, h2', h3', h4, h5, h6, h7, h8, h9, h10, h11, h12, h13, h14⟩ := (hE.T _ _ h2).ok
    rw [he] at g4
    have g4 : d = .slice e := g4
    subst g4
    exact ⟨e, te, d', z', h3, g1, h1, ⟨i, h2', h5, by omega, h4⟩, by omega, h7, h8, by omega, h14⟩
  · cases h
theorem zur {c' : TC} {v : V} {K : List c'.T → Option α} (h : slX c' v ob K = some r) : ∃ xs, K xs = some r ∧ ∀ (f : Fz) (N : Nm) (L : List Ent) (w0 w : World), OLR f N ob L → Cw w0 f L w → ∀ u, VR f N v u → ∃ rows, Rd f L u c'.k rows ∧ RW c'.ty f rows xs := by
  unfold slX at h
  split at h
  · obtain ⟨ys, h1, hw⟩ := zk2 h
    exact ⟨_, h1, fun f N L w0 w hO hC u hu => by
      obtain ⟨rows, g1, g2⟩ := TS.rd (hw.ts f u hu)
      exact ⟨rows, Rd.up g1, g2⟩⟩
  · exact ⟨[], h, fun f N L w0 w hO hC u hu => by
      have hu : u = .slice none 0 0 := hu
      subst hu
      exact ⟨[], Rd.nil _ _ _, trivial⟩⟩
  · rename_i j
    obtain ⟨y, h1, h2⟩ := zaa h
    split at h2
    · obtain ⟨ys, h3, hw⟩ := zk2 h2
      exact ⟨_, h3, fun f N L w0 w hO hC u hu => by
        obtain ⟨hu, _⟩ := hu
        obtain ⟨hlt, en, q5, v', rows, q6, q7, q8⟩ := hO.get h1
        subst q7
        rw [hu] at q6
        cases q6
        have := Rd.ofOwn (List.mem_of_getElem? q5) hC
        rw [hw.k] at this
        exact ⟨rows, this, hw.rw _ _ q8⟩⟩
    · obtain ⟨ys, h3, hw⟩ := zk2 h2
      exact ⟨_, h3, fun f N L w0 w hO hC u hu => by
        obtain ⟨hu, _⟩ := hu
        obtain ⟨hlt, en, q5, v', q6, q7⟩ := hO.get h1
        rw [hu] at q6
        cases q6
        obtain ⟨rows, q8, q9⟩ := TS.rd (hw.ts f u q7)
        exact ⟨rows, Rd.up q8, q9⟩⟩
    · cases h2
  · rename_i k j lo hi
    obtain ⟨y, h1, h2⟩ := zaa h
    split at h2
    · rename_i e c xs
      obtain ⟨hk, h3⟩ := zb0 h2
      have hk := Nat.eq_of_beq_eq_true hk
      subst hk
      obtain ⟨zs, hz, h4⟩ := zaa h3
      obtain ⟨ys, h5, hw⟩ := zk2 h4
      obtain ⟨⟨c1, c2, c3, c4⟩, c5⟩ := zen hz
      exact ⟨_, h5, fun f N L w0 w hO hC u hu => by
        obtain ⟨v1, e2, e4, _⟩ := hu
        obtain ⟨_, en, k1, v0, rows, k2, rfl, k3⟩ := hO.get h1
        rw [e2] at k2
        cases k2
        have hR : Rd f L v1 c.k rows := Rd.ofOwn (List.mem_of_getElem? k1) hC
        have hR2 := Rd.cut hR c3 (by rw [k3.len]; exact c4)
        rw [← e4, hw.k] at hR2
        have hW : RW c.ty f ((rows.take hi.toNat).drop lo.toNat) zs := by rw [← c5]; exact (k3.take _).drop _
        exact ⟨_, hR2, hw.rw _ _ hW⟩⟩
    · cases h2
  · cases h
theorem zr5 (hE : EnvOk P E) {t : TypeId} {x y : Operand} (h : op1 E (.makeSlice t x y) d sl ob K = some r) : ∃ v ob', K v ob' = some r ∧ EOk P (.makeSlice t x y) d sl ob v ob' := by
  obtain ⟨dd, rfl, h1⟩ := zlt (h : dS d _ = some r)
  obtain ⟨e, te, td, z, h2, g1, g1', g2, g3, g4, g5, g6, g7⟩ := zjz hE h1
  obtain ⟨zx, h3, hzl, hz⟩ := TC.mkA_inv h2
  obtain ⟨hxy, h4⟩ := zb0 h3
  obtain ⟨v, h5, hx⟩ := zba h4
  obtain ⟨k, n, hv, h6⟩ := zql h5
  subst hv
  obtain ⟨hk, h7⟩ := zb0 h6
  have hk := zvd hk
  subst hk
  obtain ⟨xs, h8, h9⟩ := zaa h7
  obtain ⟨q1, q2, q3⟩ := zuw h8
  refine ⟨_, _, h9, fun f N E L w0 nn a w hS hO hn hs ty pos af ops rest K hd hK => ?_⟩
  obtain ⟨u, e1, e2⟩ := hx f N E hS
  have e2 : u = .int .i64 n := e2
  subst e2
  have e3 : opv E y = some (.int .i64 n) := by
    unfold sameOp at hxy
    split at hxy
    · have := Nat.eq_of_beq_eq_true hxy
      subst this
      exact e1
    · simp only [decide_eq_true_eq] at hxy
      subst hxy
      exact e1
    · cases hxy
  refine RL_makeW hs e1 e3 q1 g1 g2 ⟨g3, g6⟩ ⟨by simpa using g6, g7⟩ q2 (fun v a w hs => ?_) (hd dd rfl)
  have up := Up.push (x := .ow e te.c xs) (e := .row v e te.c.k (List.replicate n.toNat z.cells.toList)) (v := v) hO hn fun M hM hv => ⟨v, _, hv, rfl, by rw [← q3]; exact RW.rep (t := te.c.ty) (hz f M _ (g5 f M)) _⟩
  exact hK f _ _ _ a w (.refl f) up.le up.nb up.ol ⟨zd6, St.one hs (i := 0) rfl⟩ up.fm hs
theorem range_ok (hE : EnvOk P E) {t : TypeId} {x : Operand} (h : op1 E (.range t x) d sl ob K = some r) : ∃ v ob', K v ob' = some r ∧ EOk P (.range t x) d sl ob v ob' := by
  obtain ⟨dd, rfl, h1⟩ := zlt (h : dS d _ = some r)
  obtain ⟨v, h2, hx⟩ := zba h1
  obtain ⟨td, h3, h4⟩ := zaa h2
  obtain ⟨d, z, g1, g2, g3, g4, _⟩ := zhv (hE.T _ _ h3)
  split at h4
  · rename_i hd'
    rw [hd'] at g4
    have g4 : d = .string := g4
    subst g4
    obtain ⟨s, hs', h5⟩ := zqk h4
    subst hs'
    refine ⟨_, _, h5, fun f N E L w0 n a w hS hO hn hs ty pos af ops rest K hd hK => ?_⟩
    obtain ⟨u, e1, e2⟩ := hx f N E hS
    have e2 : u = .string s := e2
    subst e2
    refine zn7 hs e1 g1 (fun b a w hs => ?_) (hd dd rfl)
    have up := Up.push (x := .it s 0) (e := .blk b (.stringIter s 0)) (v := .pointer (some ⟨b,0, none⟩)) hO hn fun M hM hv => ⟨b, hv, rfl⟩
    exact hK f _ _ _ a w (.refl f) up.le up.nb up.ol ⟨zd6, b, rfl⟩ up.fm hs
  · cases h4
theorem next_ok {x : Operand} {q : Bool} (hT : TOk P E.T) (h : op1 E (.next x q) d sl ob K = some r) : ∃ v ob', K v ob' = some r ∧ EOk P (.next x q) d sl ob v ob' := by
  cases q with
  | false => cases h
  | true =>
  obtain ⟨dd, rfl, h1⟩ := zlt (h : dS d _ = some r)
  obtain ⟨v, h2, hx⟩ := zba h1
  clear h h1
  split at h2
  · rename_i j
    obtain ⟨y, h3, h4⟩ := zaa h2
    clear h2
    split at h4
    · rename_i s p
      rcases zdv h4 with ⟨hp, h5⟩ | ⟨hp, h5⟩
      · have hp := of_decide_eq_true hp
        refine ⟨_, _, h5, fun f N E L w0 n a w hS hO hn hs ty pos af ops rest K hd hK => ?_⟩
        obtain ⟨u, e1, e2, b, rfl⟩ := hx f N E hS
        obtain ⟨hlt, en, q5, b', q6, q7⟩ := hO.get h3
        subst q7
        rw [e2] at q6
        cases q6
        refine zo7 hs q5 e1 (fun _ a w hs => ?_) (fun hh => absurd hp (by omega)) (hd dd rfl)
        exact hK f N _ _ a w (.refl f) (.refl N) (hn.len (zao _ _ _)) (hO.put hlt ⟨b, e2, rfl⟩) ⟨[_, _, _], rfl, rfl, rfl, rfl, trivial⟩ (.set h3 (by simp)) hs
      · have hp := of_decide_eq_false hp
        refine ⟨_, _, h5, fun f N E L w0 n a w hS hO hn hs ty pos af ops rest K hd hK => ?_⟩
        obtain ⟨u, e1, e2, b, rfl⟩ := hx f N E hS
        obtain ⟨hlt, en, q5, b', q6, q7⟩ := hO.get h3
        subst q7
        rw [e2] at q6
        cases q6
        refine zo7 hs q5 e1 (fun hh => absurd hh hp) (fun _ a w hs => ?_) (hd dd rfl)
        exact hK f N _ _ a w (.refl f) (.refl N) hn hO ⟨[_], rfl, rfl, trivial⟩ (.refl _ _) hs
    · cases h4
  · cases h2
theorem Cw.toTop {w0 w : World} {f : Fz} {L : List Ent} {i : Nat} {e : Ent} (h : Cw w0 f (L.set i e) w) (hi : i < L.length) : Cw w0 f (e :: L.set i ph) w := by
  refine Cw.re h (fun p => if p = 0 then i else p - 1) (fun p x hp => ?_) (fun p q x y hp hq hx hy hpq => ?_)
  · cases p with
    | zero => simp at hp; subst hp; exact .inr (by simp [hi])
    | succ p =>
      simp only [List.getElem?_cons_succ] at hp
      rw [List.getElem?_set] at hp
      split at hp
      · rename_i he
        cases hp
        exact .inl ⟨zil, ph_holds⟩
      · rename_i he
        exact .inr (by rw [if_neg (by omega), Nat.add_sub_cancel, List.getElem?_set_ne he]; exact hp)
  · have key : ∀ p x,(e :: L.set i ph)[p]? = some x → x.key ≠ none → p ≠ i + 1 := fun p x hp hx he => by
      subst he
      simp [hi] at hp
      subst hp
      exact hx zil
    have k1 := key p x hp hx
    have k2 := key q y hq hy
    split <;> split <;> omega
theorem bytesRW {f : Fz} : ∀ l : List Int, RW (TC.int .u8).ty f (l.map fun x => [Value.int .u8 x]) l
  | [] => trivial
  | _ :: l => ⟨rfl, bytesRW l⟩
theorem appS_ok (hE : EnvOk P E) {x y : Operand} {t u : TypeId} {dd : Nat} (h : (opd sl x fun v => opd sl y fun w => elemT E t fun e te => vS w fun s => strT E.T u (vC v fun c => cond (TC.eq te.c (.int .u8)) (decO e (.int .u8) c ob fun xs ob => (appM te.by_ xs (bytesIn s)).bind fun zs => K (.c (.os ob.length)) (.ow e (.int .u8) zs :: ob)) none)) = some r) : ∃ v ob', K v ob' = some r ∧ EOk P (.call ⟨.builtin .append, #[x, y], #[t, u]⟩) (some dd) sl ob v ob' := by
  obtain ⟨v, h3, hx⟩ := zba h
  obtain ⟨w1, h4, hy⟩ := zba h3
  obtain ⟨e, te, td, z, h5, g1, g1', g2, g3, g4, g5, g6, g7⟩ := zjz hE h4
  obtain ⟨s, hsw, h6⟩ := zqk h5
  subst hsw
  obtain ⟨h8, gu⟩ := zn2 hE.T h6
  obtain ⟨c0, hsv, h9⟩ := zou h8
  subst hsv
  obtain ⟨hte, h7⟩ := zb0 h9
  have hte := TC.eq_ok hte
  have hk : te.c.k = 1 := by rw [hte]; rfl
  rw [hk] at g2 g6
  clear h h3 h4 h5 h6 h8 h9
  unfold decO at h7
  split at h7
  · rename_i j
    obtain ⟨y0, h8, h9⟩ := zaa h7
    clear h7
    split at h9
    · rename_i e' c xs
      obtain ⟨he, h10⟩ := zb0 h9
      have he := Nat.eq_of_beq_eq_true he
      obtain ⟨ec, h11⟩ := ziq h10
      subst ec
      subst he
      obtain ⟨zs, h12, h13⟩ := zaa h11
      obtain ⟨m1, m2⟩ := zcs h12
      refine ⟨_, _, h13, fun f N E L w0 n a w hS hO hn hs ty pos af ops rest K hd hK => ?_⟩
      obtain ⟨u1, e1, e2, e2'⟩ := hx f N E hS
      obtain ⟨u2, e3, e4⟩ := hy f N E hS
      have e4 : u2 = .string s := e4
      subst e4
      obtain ⟨hlt, en, q5, v', rows, q6, q7, q8⟩ := hO.get h8
      subst q7
      rw [e2] at q6
      cases q6
      have q8 : RW (TC.int .u8).ty f rows xs := q8
      refine zrv _ hs q5 e1 e3 g1 gu g2 g6 ⟨by rw [q8.len, ← zb9]; exact m1.1, by rw [q8.len, ← zb9]; exact m1.2⟩ (fun v' a w hs => ?_) (hd dd rfl)
      have hlen := hO.len
      have hW := (q8.append (bytesRW (f := f) (bytesIn s)))
      have m2 : xs ++ bytesIn s = zs := m2
      rw [m2] at hW
      have hO2 : OLR f N (oset ob j .no) (L.set (ob.length - 1 - j) ph) := hO.put hlt trivial
      have up := Up.push (x := .ow e' (.int .u8) zs) (e := .row v' e' 1 (rows ++ (bytesIn s).map fun x => [Value.int .u8 x])) (v := v') hO2 (hn.len (zao _ _ _)) fun M hM hv => ⟨v', _, hv, rfl, hW⟩
      have hC2 := Cw.toTop hs.cw (by omega)
      exact hK f _ v' _ a w (.refl f) up.le up.nb up.ol ⟨by rw [show (oset ob j Ob.no).length = ob.length from zao _ _ _]; exact zd6, St.one (i := 0) (⟨hs.ev, hC2⟩ : St n w0 f _ _ a w) rfl⟩ ((Fm.set h8 (by simp)).trans up.fm) ⟨hs.ev, hC2⟩
    · cases h9
  · obtain ⟨zs, h12, h13⟩ := zaa h7
    obtain ⟨m1, m2⟩ := zcs h12
    refine ⟨_, _, h13, fun f N E L w0 n a w hS hO hn hs ty pos af ops rest K hd hK => ?_⟩
    obtain ⟨u1, e1, e2⟩ := hx f N E hS
    have e2 : u1 = .slice none 0 0 := e2
    subst e2
    obtain ⟨u2, e3, e4⟩ := hy f N E hS
    have e4 : u2 = .string s := e4
    subst e4
    refine zrv 0 (hs.nilRow e 1) rfl e1 e3 g1 gu g2 g6 ⟨by rw [← zb9]; exact m1.1, by rw [← zb9]; exact m1.2⟩ (fun v' a w hs => ?_) (hd dd rfl)
    have m2 : [] ++ bytesIn s = zs := m2
    have hW : RW (TC.int .u8).ty f ([] ++ (bytesIn s).map fun x => [Value.int .u8 x]) zs := by rw [← m2]; exact bytesRW (f := f) (bytesIn s)
    have up := Up.push (x := .ow e (.int .u8) zs) (e := .row v' e 1 ([] ++ (bytesIn s).map fun x => [Value.int .u8 x])) (v := v') hO hn fun M hM hv => ⟨v', _, hv, rfl, hW⟩
    exact hK f _ v' _ a w (.refl f) up.le up.nb up.ol ⟨zd6, St.one (i := 0) hs rfl⟩ up.fm hs
  · cases h7
theorem zw9 (hE : EnvOk P E) {args : Array Operand} {ats : Array TypeId} (h : op1 E (.call ⟨.builtin .append, args, ats⟩) d sl ob K = some r) : ∃ v ob', K v ob' = some r ∧ EOk P (.call ⟨.builtin .append, args, ats⟩) d sl ob v ob' := by
  simp only [op1] at h
  split at h
  · rename_i x y t t2 ha ht
    have e1 : args = #[x, y] := by apply Array.ext'; simpa using ha
    have e2 : ats = #[t, t2] := by apply Array.ext'; simpa using ht
    subst e1 e2
    obtain ⟨dd, hd0, h1⟩ := zlt h
    subst hd0
    rcases zdv h1 with ⟨htt, h2⟩ | ⟨_, h2⟩
    case inr => exact appS_ok hE h2
    have htt := Nat.eq_of_beq_eq_true htt
    subst htt
    obtain ⟨v, h3, hx⟩ := zba h2
    obtain ⟨w1, h4, hy⟩ := zba h3
    obtain ⟨e, te, td, z, h5, g1, g1', g2, g3, g4, g5, g6, g7⟩ := zjz hE h4
    obtain ⟨ys, h6, HY⟩ := zur h5
    obtain ⟨s, hsv, h7⟩ := zou h6
    subst hsv
    clear h h1 h2 h3 h4 h5 h6
    unfold decO at h7
    split at h7
    · rename_i j
      obtain ⟨y0, h8, h9⟩ := zaa h7
      clear h7
      split at h9
      · rename_i e' c xs
        obtain ⟨he, h10⟩ := zb0 h9
        have he := Nat.eq_of_beq_eq_true he
        obtain ⟨ec, h11⟩ := ziq h10
        subst ec
        subst he
        obtain ⟨zs, h12, h13⟩ := zaa h11
        obtain ⟨m1, m2⟩ := zcs h12
        refine ⟨_, _, h13, fun f N E L w0 n a w hS hO hn hs ty pos af ops rest K hd hK => ?_⟩
        obtain ⟨u, e1, e2, e2'⟩ := hx f N E hS
        obtain ⟨u2, e3, e4⟩ := hy f N E hS
        obtain ⟨hlt, en, q5, v', rows, q6, q7, q8⟩ := hO.get h8
        subst q7
        rw [e2] at q6
        cases q6
        obtain ⟨rows2, p1, p2⟩ := HY f N L w0 w hO hs.cw u2 e4
        refine zdb hs q5 e1 e3 p1 g1 g2 ⟨g3, g6⟩ ⟨by rw [q8.len, p2.len]; exact m1.1, by rw [q8.len, p2.len]; exact m1.2⟩ (.free rfl) (hd dd rfl) fun v' a w hs => ?_
        have hlen := hO.len
        have hW := (q8.append p2)
        rw [m2] at hW
        have hO2 : OLR f N (oset ob j .no) (L.set (ob.length - 1 - j) ph) := hO.put hlt trivial
        have up := Up.push (x := .ow e' te.c zs) (e := .row v' e' te.c.k (rows ++ rows2)) (v := v') hO2 (hn.len (zao _ _ _)) fun M hM hv => ⟨v', _, hv, rfl, hW⟩
        have hC2 := Cw.toTop hs.cw (by omega)
        exact hK f _ v' _ a w (.refl f) up.le up.nb up.ol ⟨by rw [show (oset ob j Ob.no).length = ob.length from zao _ _ _]; exact zd6, St.one (i := 0) (⟨hs.ev, hC2⟩ : St n w0 f _ _ a w) rfl⟩ ((Fm.set h8 (by simp)).trans up.fm) ⟨hs.ev, hC2⟩
      · cases h9
    · obtain ⟨zs, h12, h13⟩ := zaa h7
      obtain ⟨m1, m2⟩ := zcs h12
      refine ⟨_, _, h13, fun f N E L w0 n a w hS hO hn hs ty pos af ops rest K hd hK => ?_⟩
      obtain ⟨u, e1, e2⟩ := hx f N E hS
      have e2 : u = .slice none 0 0 := e2
      subst e2
      obtain ⟨u2, e3, e4⟩ := hy f N E hS
      obtain ⟨rows2, p1, p2⟩ := HY f N L w0 w hO hs.cw u2 e4
      have p1' : Rd f (.row (.slice none 0 0) e te.c.k [] :: L) u2 te.c.k rows2 := p1.mono (.refl f) (fun x hx => List.mem_cons_of_mem _ hx)
      refine zdb (hs.nilRow e te.c.k) (i := 0) rfl e1 e3 p1' g1 g2 ⟨g3, g6⟩ ⟨by rw [p2.len]; exact m1.1, by rw [p2.len]; exact m1.2⟩ (.free rfl) (hd dd rfl) fun v' a w hs => ?_
      have hW : RW te.c.ty f ([] ++ rows2) zs := by rw [← m2]; exact p2
      have up := Up.push (x := .ow e te.c zs) (e := .row v' e te.c.k ([] ++ rows2)) (v := v') hO hn fun M hM hv => ⟨v', _, hv, rfl, hW⟩
      exact hK f _ v' _ a w (.refl f) up.le up.nb up.ol ⟨zd6, St.one (i := 0) hs rfl⟩ up.fm hs
    · cases h7
  · cases h
theorem zpo : ∀ {l : List Operand} {K : List V → Option α}, opds sl l K = some r → ∃ us, K us = some r ∧ ∀ (f : Fz) (N : Nm) (E : List (Nat × Value)), SlR f N sl E → ∃ vs, l.mapM (opv E) = some vs ∧ VLR f N us vs
  | [], K, h => ⟨[], h, fun f N E hS => ⟨[], rfl, trivial⟩⟩
  | x :: l, K, h => by
    obtain ⟨v, h1, hx⟩ := zba (h : opd sl x _ = some r)
    obtain ⟨us, h2, H⟩ := zpo h1
    refine ⟨v :: us, h2, fun f N E hS => ?_⟩
    obtain ⟨u, e1, e2⟩ := hx f N E hS
    obtain ⟨vs, e3, e4⟩ := H f N E hS
    exact ⟨u :: vs, by simp [List.mapM_cons, e1, e3], e2, e4⟩
theorem MLR.len {f : Fz} : ∀ {l : List Md} {x : Pr Md.T l} {vs : List Value} {es : List Ent}, MLR f l x vs es → vs.length = l.length
  | [], _, _, _, h => by obtain ⟨rfl, _⟩ := h; rfl
  | [m], _, _, _, h => by obtain ⟨v, rfl, _⟩ := h; rfl
  | m :: n :: r, _, _, _, h => by
    obtain ⟨v, vs', e1, e2, rfl, _, _, h4⟩ := h
    simp [MLR.len h4]
theorem ztq {N : Nm} {ob : List Ob} : ∀ {ps rs : List Md} {rvs vs : List Value} {us : List V} {js : List Nat}, rvs.length = rs.length → (∀ m ∈ rs, isP m = false) → LJ N ob js (pvals ps vs) → vs.length = ps.length → JsR N ob (rs ++ ps.filter isP) (rvs ++ pvals ps vs) js
  | ps,[],[], vs, us, js, _, _, hL, hl => by
    show JsR N ob (ps.filter isP) (pvals ps vs) js
    induction ps generalizing vs js with
    | nil => trivial
    | cons m ps ih =>
      cases vs with
      | nil => simp at hl
      | cons v vs =>
        have hl' : vs.length = ps.length := by simpa using hl
        cases hm : isP m with
        | false =>
          have e : (m :: ps).filter isP = ps.filter isP := by simp [hm]
          rw [e]
          cases m <;> first | (cases hm; done) | exact ih _ _ hL hl'
        | true =>
          have e : (m :: ps).filter isP = m :: ps.filter isP := by simp [hm]
          rw [e]
          cases m <;> first | (cases hm; done) | skip
          cases js with
          | nil => exact hL.elim
          | cons j js => exact ⟨⟨hL.1.1, hL.1.2.1⟩, ih _ _ hL.2 hl'⟩
  | ps, m :: rs, v :: rvs, vs, us, js, hl, hm, hL, hv => by
    have ih := ztq (ps := ps) (rs := rs) (rvs := rvs) (vs := vs) (us := us) (js := js) (by simpa using hl) (fun x hx => hm x (by simp [hx])) hL hv
    have := hm m (by simp)
    cases m <;> first | (cases this; done) | exact ih
  | ps,[], _ :: _, _, _, _, h, _, _, _ => by simp at h
  | ps, _ :: _,[], _, _, _, h, _, _, _ => by simp at h
theorem zt4 : ∀ {ps rs : List Md} {rvs vs : List Value}, rvs.length = rs.length → (∀ m ∈ rs, isP m = false) → vs.length = ps.length → nonP (rs ++ ps.filter isP) (rvs ++ pvals ps vs) = rvs
  | ps,[],[], vs, _, _, hl => by
    show nonP (ps.filter isP) (pvals ps vs) = []
    induction ps generalizing vs with
    | nil => rfl
    | cons m ps ih =>
      cases vs with
      | nil => simp at hl
      | cons v vs =>
        have hl' : vs.length = ps.length := by simpa using hl
        cases hm : isP m with
        | false =>
          have e : (m :: ps).filter isP = ps.filter isP := by simp [hm]
          rw [e]
          cases m <;> first | (cases hm; done) | exact ih _ hl'
        | true =>
          have e : (m :: ps).filter isP = m :: ps.filter isP := by simp [hm]
          rw [e]
          cases m <;> first | (cases hm; done) | exact ih _ hl'
  | ps, m :: rs, v :: rvs, vs, hl, hm, hv => by
    have ih := zt4 (ps := ps) (rs := rs) (rvs := rvs) (vs := vs) (by simpa using hl) (fun x hx => hm x (by simp [hx])) hv
    have := hm m (by simp)
    cases m <;> first | (cases this; done) | exact congrArg (v :: ·) ih
  | ps,[], _ :: _, _, h, _, _ => by simp at h
  | ps, _ :: _,[], _, h, _, _ => by simp at h
theorem one_ok {f : Fz} {N : Nm} {us : List V} {vs : List Value} (h : VLR f N us vs) (hn : ∀ v ∈ us, nt v) : VR f N (one us) (oneV vs) := by
  have key : ∀ {us : List V} {vs : List Value}, VLR f N us vs → (∀ v ∈ us, nt v) → ULR f N (tupU us) vs := by
    intro us
    induction us with
    | nil => intro vs h _; cases vs with | nil => trivial | cons _ _ => exact h.elim
    | cons v us ih =>
      intro vs h hn
      cases vs with
      | nil => exact h.elim
      | cons u vs =>
        have h0 := hn v (by simp)
        have h1 := ih h.2 (fun x hx => hn x (by simp [hx]))
        cases v with
        | c x => exact ⟨h.1, h1⟩
        | a l => exact ⟨h.1, h1⟩
        | t l => exact h0.elim
  match us, vs, h, hn with
  | [],[], h, hn => exact ⟨[], rfl, trivial⟩
  | [v],[u], h, hn => exact h.1
  | a :: b :: us, x :: y :: vs, h, hn => exact ⟨_, rfl, key h hn⟩
theorem Fm.bk {ob ob1 ob2 : List Ob} {L L1 L2 : List Ent} {js : List Nat} (h : Fm ob L ob1 L1) (hl : ob1.length = ob.length) (hb : Bk js ob1 L1 ob2 L2) (hj : ∀ j ∈ js, og ob j ≠ some .no) : Fm ob L ob2 L2 := ⟨fun i hi => by
  obtain ⟨a, b⟩ := h.1 i hi
  obtain ⟨c, e⟩ := hb.1 i (zky a) (fun hm => hj i hm hi)
  exact ⟨c.trans a, e.trans b⟩, hb.2.trans h.2⟩
theorem LJ.mem {N : Nm} {ob : List Ob} : ∀ {js : List Nat} {us : List Value}, LJ N ob js us → ∀ j ∈ js, og ob j ≠ some .no
  | [],[], _, j, h => by simp at h
  | i :: js, u :: us, ⟨⟨_, _, h3⟩, h4⟩, j, h => by
    rcases List.mem_cons.1 h with rfl | h
    · exact h3
    · exact LJ.mem h4 j h
end Go.V
