/-
  Walks and laws of this seat.
-/
import Derived.Test.YtdjjeahiomackaaGreatVR
namespace Go.V
set_option linter.unusedVariables false
set_option linter.unusedSimpArgs false
set_option linter.unusedSectionVars false
attribute [local irreducible] opd opr
open Go.RowKit Go.Sl
variable [F0]
variable {α : Type} {r : α} {P : Program} {E : Env} {sl : List (Nat × V)} {ob : List Ob} {K : V → List Ob → Option α} {d : Option Tmp}
theorem zu5 (hE : EnvOk P E) {s t : TypeId} {x : Operand} (h : op1 E (.convert s t x) d sl ob K = some r) : ∃ v ob', K v ob' = some r ∧ EOk P (.convert s t x) d sl ob v ob' := by
  obtain ⟨dd, hd0, h1⟩ := zlt (h : dS d _ = some r)
  subst hd0
  obtain ⟨v, h2, hx⟩ := zba h1
  obtain ⟨sd, h3, h4⟩ := zaa h2
  obtain ⟨td, h5, h6⟩ := zaa h4
  clear h h1 h2 h4
  obtain ⟨d1, z1, g1, _, _, g2, _⟩ := zhv (hE.T _ _ h3)
  obtain ⟨d2, z2, g3, _, _, g4, _⟩ := zhv (hE.T _ _ h5)
  split at h6
  · rename_i k0 e1 e2
    rw [e2] at g4
    have g4 : d2 = .string := g4
    subst g4
    obtain ⟨k, n, hv, h7⟩ := zql h6
    subst hv
    refine ⟨_, _, h7, .quiet fun f N E L w0 w hS hO hC => ?_⟩
    obtain ⟨u, e1, e2⟩ := hx f N E hS
    have e2 : u = .int k n := e2
    subst e2
    exact ⟨_, rfl, fun n d ty pos af g => y_i2s e1 (by rw [g1]; rfl) g3⟩
  · rename_i e1 e2 e3
    rw [e3] at g4
    have g4 : d2 = .string := g4
    subst g4
    rw [e2] at g2
    have g2 : d1 = .slice e1 := g2
    subst g2
    obtain ⟨te, h7, h8⟩ := zaa h6
    obtain ⟨d3, z3, g5, _, _, g6, _⟩ := zhv (hE.T _ _ h7)
    split at h8
    · rename_i e4
      rw [e4] at g6
      have g6 : d3 = .int .i32 := g6
      subst g6
      obtain ⟨xs, h9, HX⟩ := zur h8
      refine ⟨_, _, h9, .quiet fun f N E L w0 w hS hO hC => ?_⟩
      obtain ⟨u, e1, e2⟩ := hx f N E hS
      obtain ⟨rows, k1, k2⟩ := HX f N L w0 w hO hC u e2
      exact ⟨_, rfl, fun n d ty pos af g => zuf e1 g1 g5 g3 k1 k2⟩
    · rename_i e4
      rw [e4] at g6
      have g6 : d3 = .int .u8 := g6
      subst g6
      obtain ⟨xs, h9, HX⟩ := zur h8
      refine ⟨_, _, h9, .quiet fun f N E L w0 w hS hO hC => ?_⟩
      obtain ⟨u, e1, e2⟩ := hx f N E hS
      obtain ⟨rows, k1, k2⟩ := HX f N L w0 w hO hC u e2
      exact ⟨_, rfl, fun n d ty pos af g => y_b2sW e1 g1 g5 g3 k1 k2⟩
    · cases h8
  · rename_i e1 e2 e3
    rw [e2] at g2
    have g2 : d1 = .string := g2
    subst g2
    rw [e3] at g4
    have g4 : d2 = .slice e1 := g4
    subst g4
    obtain ⟨te, h7, h8⟩ := zaa h6
    obtain ⟨d3, z3, g5, _, _, g6, _⟩ := zhv (hE.T _ _ h7)
    split at h8
    · rename_i e4
      rw [e4] at g6
      have g6 : d3 = .int .i32 := g6
      subst g6
      obtain ⟨s, hs', h9⟩ := zqk h8
      subst hs'
      obtain ⟨xs, h10, h11⟩ := zaa h9
      refine ⟨_, _, h11, fun f N E L w0 n a w hS hO hn hs ty pos af ops rest K hd hK => ?_⟩
      obtain ⟨u, e1', e2'⟩ := hx f N E hS
      have e2' : u = .string s := e2'
      subst e2'
      refine zwd h10 hs e1' g1 g3 g5 (fun v rows a w hW hs => ?_) (hd dd rfl)
      have up := Up.push (x := .ow e1 (.int .i32) xs) (e := .row v e1 1 rows) (v := v) hO hn fun M hM hv => ⟨v, rows, hv, rfl, hW⟩
      exact hK f _ v _ a w (.refl f) up.le up.nb up.ol ⟨zd6, St.one (i := 0) hs rfl⟩ up.fm hs
    · rename_i e4
      rw [e4] at g6
      have g6 : d3 = .int .u8 := g6
      subst g6
      obtain ⟨s, hs', h9⟩ := zqk h8
      subst hs'
      obtain ⟨xs, h10, h11⟩ := zaa h9
      refine ⟨_, _, h11, fun f N E L w0 n a w hS hO hn hs ty pos af ops rest K hd hK => ?_⟩
      obtain ⟨u, e1', e2'⟩ := hx f N E hS
      have e2' : u = .string s := e2'
      subst e2'
      have hxs : bytesIn s = xs := by
        unfold bytesM at h10
        cases q : decide (s.size ≤ 70368744177664) with
        | true => rw [q] at h10; exact Option.some.inj h10
        | false => rw [q] at h10; cases h10
      refine RL_s2b hs e1' g1 g3 g5 (fun f' v a w hle hR hs => ?_) (hd dd rfl)
      exact hK f' N v L a w hle (.refl N) hn (hO.le hle (.refl N)) ⟨_, ⟨hR, trivial⟩, by rw [hxs]; exact RW.ofInts _⟩ (.refl _ _) hs
    · cases h8
  · obtain ⟨c, h7, h8⟩ := zw0 (P := P) hE.T hx h3 h5 h6
    exact ⟨_, _, h7, .quiet h8⟩
theorem zrowF {zc : List Value} {k : Nat} (hk : zc.length = k) (h0 : 0 < k) : ∀ (len : Nat),(Array.range (len * k)).map (fun j => zc.toArray[j % zc.toArray.size]!) = (List.replicate len zc).flatten.toArray := fun len => by
  apply Array.ext'
  apply List.ext_getElem?
  intro j
  simp only [Array.toList_map, List.getElem?_map]
  have hfl : (List.replicate len zc).flatten.length = len * k := by
    rw [List.length_flatten]; simp [hk]
  by_cases hj : j < len * k
  · have e1 : (Array.range (len * k)).toList[j]? = some j := by simp [hj]
    rw [e1]
    have hq : j / k < len := Nat.div_lt_of_lt_mul (by rw [Nat.mul_comm]; exact hj)
    have hm : j % k < k := Nat.mod_lt _ h0
    have e2 := zf2 (k := k) (rows := List.replicate len zc) (fun r hr => by rw [List.eq_of_mem_replicate hr]; exact hk) (i := j / k) (r := zc) (j := j % k) (x := zc[j % k]'(by omega)) (by simp [hq]) (by simp)
    have e3 : j / k * k + j % k = j := by rw [Nat.mul_comm]; exact Nat.div_add_mod j k
    rw [e3] at e2
    rw [e2]
    simp [hk, hm]
  · have e1 : (Array.range (len * k)).toList[j]? = none := by simp; omega
    rw [e1, List.getElem?_eq_none (by omega)]
    rfl
theorem zuv {te : TC} {z : te.T} : ∀ {ps : List (Nat × Operand)} {xs : List te.T} {ob : List Ob} {K : List te.T → List Ob → Option α}, rows te z sl ps xs ob K = some r → ∃ xs' ob', K xs' ob' = some r ∧ xs'.length = xs.length ∧ ∀ (f : Fz) (N : Nm) (E : List (Nat × Value)) (L : List Ent) (w0 w : World), SlR f N sl E → OLR f N ob L → Cw w0 f L w →
    ∃ f' L' vs, Mv f N ob L w0 w f' ob' L' ∧ (ps.mapM fun p => (opv E p.2).map fun v => (p.1, v)) = some vs ∧
      ∀ (rs : List (List Value)), RW te.ty f rs xs → 0 < te.k → (∀ r ∈ rs, OneRow te.k r) → ∃ rs' : List (List Value),(Instr.fill (fun i => some (i * te.k, te.k)) rs.flatten.toArray vs).map (·.toList) = some rs'.flatten ∧ rs'.length = rs.length ∧ RW te.ty f' rs' xs' ∧ ∀ r ∈ rs', OneRow te.k r
  | [], xs, ob, K, h => ⟨xs, ob, h, rfl, fun f N E L w0 w hS hO hC => ⟨f, L,[], .refl hO hC, rfl, fun rs hR h0 h1 => ⟨rs, rfl, rfl, hR, h1⟩⟩⟩
  | (i, x) :: ps, xs, ob, K, h => by
    obtain ⟨v, h1, hx⟩ := zba (h : opd sl x _ = some r)
    obtain ⟨hi, h1⟩ := zb0 h1
    have hi : i < xs.length := Nat.blt_eq.mp hi
    obtain ⟨cs, h2, hc⟩ := zm1 h1
    obtain ⟨hu, h2⟩ := zb0 h2
    obtain ⟨cs1, ob1, h3, HF⟩ := zjy h2
    obtain ⟨y, h4, _, hy⟩ := TC.mkA_inv h3
    obtain ⟨xs', ob', h5, hl, H⟩ := zuv h4
    refine ⟨xs', ob', h5, by rw [hl]; simp, fun f N E L w0 w hS hO hC => ?_⟩
    obtain ⟨u, e1, e2⟩ := hx f N E hS
    obtain ⟨f1, L1, m1, hv⟩ := HF f N L w0 w hO hC
    obtain ⟨f2, L2, vs, m2, e3, H2⟩ := H f1 N E L1 w0 w (hS.le m1.le (.refl N)) m1.ol m1.cw
    refine ⟨f2, L2,(i, u) :: vs, m1.trans m2, by simp [List.mapM_cons, e1, e3], fun rs hR h0 h1 => ?_⟩
    have hcs : CLR f N cs u.cells.toList := by
      rcases hc with ⟨_, rfl⟩ | ⟨_, y, rfl, rfl⟩
      · obtain ⟨vs, rfl, h⟩ := e2
        exact h
      · have := CR.one (f := f) (N := N) e2 (allU hu y (by simp))
        have e : u.cells = #[u] := by cases u <;> first | rfl | simp [Value.oneCell'] at this
        rw [e]
        exact ⟨e2, trivial⟩
    have hrow := hy f1 N _ (hv _ hcs)
    have hone := te.oneR hrow
    have hsz : u.cells.size = te.k := by simpa using hone.1
    have hlr := hR.len
    have hlen : ∀ r ∈ rs, r.length = te.k := fun r hr => (h1 r hr).1
    have hfl := zbg hlen
    have hle : i * te.k + te.k ≤ rs.length * te.k := by
      have := Nat.mul_le_mul_right te.k (show i + 1 ≤ rs.length by omega)
      rw [Nat.succ_mul] at this; exact this
    obtain ⟨r0, hr0⟩ : ∃ r0, rs[i]? = some r0 := ⟨rs[i], by simp [hlr, hi]⟩
    have hset := zis (k := te.k) hlen hr0 hone.1
    obtain ⟨rs', k1, k2, k3, k4⟩ := H2 (rs.set i u.cells.toList) ((hR.le m1.le).set hrow) h0 (fun r hr => by
      rcases List.mem_or_eq_of_mem_set hr with hr | rfl
      · exact h1 r hr
      · exact hone)
    refine ⟨rs', ?_, by rw [k2]; simp, k3, k4⟩
    rw [zpx (place := fun i => some (i * te.k, te.k)) (off := i * te.k) (by rw [hsz]) (by simp only [List.size_toArray]; rw [hfl, hsz]; exact hle), ← k1, hset, hsz]
theorem zq8 (hE : EnvOk P E) {t : TypeId} {len : Nat} {ps : Array (Nat × Operand)} (h : op1 E (.buildSlice t len ps) d sl ob K = some r) : ∃ v ob', K v ob' = some r ∧ EOk P (.buildSlice t len ps) d sl ob v ob' := by
  obtain ⟨dd, hd0, h1⟩ := zlt (h : dS d _ = some r)
  subst hd0
  obtain ⟨e, te, td, z, h2, g1, g1', g2, g3, g4, g5, g6, g7⟩ := zjz hE h1
  obtain ⟨zx, h3, hzl, hz⟩ := TC.mkA_inv h2
  rcases zdv h3 with ⟨h0, h3⟩ | ⟨_, h3⟩
  · have h0 := Nat.eq_of_beq_eq_true h0
    subst h0
    split at h3
    · rename_i hp
      have e1 : ps = #[] := by apply Array.ext'; simpa using hp
      subst e1
      refine ⟨_, _, h3, fun f N E L w0 n a w hS hO hn hs ty pos af ops rest K hd hK => ?_⟩
      refine ztp hs g1 g2 (fun v a w hs => ?_) (hd dd rfl)
      have up := Up.push (x := .ow e te.c []) (e := .row v e te.c.k []) (v := v) hO hn fun M hM hv => ⟨v,[], hv, rfl, trivial⟩
      exact hK f _ v _ a w (.refl f) up.le up.nb up.ol ⟨zd6, St.one (i := 0) hs rfl⟩ up.fm hs
    · cases h3
  obtain ⟨hl, h3⟩ := zb0 h3
  simp only [Bool.and_eq_true] at hl
  have hl0 : 0 < len := Nat.blt_eq.mp hl.1
  have hl1 : len * te.c.k ≤ 16777216 := Nat.le_of_ble_eq_true hl.2
  obtain ⟨xs, ob1, h4, hxl, H⟩ := zuv h3
  refine ⟨_, _, h4, fun f N E L w0 n a w hS hO hn hs ty pos af ops rest K hd hK => ?_⟩
  obtain ⟨f1, L1, vs, m, e3, HR⟩ := H f N E L w0 w hS hO hs.cw
  have hzR : te.c.R f z.cells.toList zx := hz f N _ (g5 f N)
  have hz1 := te.c.oneR hzR
  obtain ⟨rs', k1, k2, k3, k4⟩ := HR (List.replicate len z.cells.toList) (RW.rep (t := te.c.ty) hzR len) g3 (fun r hr => by rw [List.eq_of_mem_replicate hr]; exact hz1)
  have hps : ps = ps.toList.toArray := by simp
  rw [hps]
  have hf : (Instr.fill (fun i => some (i * te.c.k, te.c.k)) ((Array.range (len * te.c.k)).map (z.cells[· % z.cells.size]!)) vs).map (·.toList) = some rs'.flatten := by
    have := zrowF hz1.1 g3 len
    simp only [Array.toArray_toList] at this
    rw [this]
    exact k1
  refine zhf ⟨hs.ev, m.cw⟩ e3 g1 g2 ⟨g3, hl0, hl1⟩ hf (by rw [k2]; simp) k4 (.free rfl) (hd dd rfl) fun v a w hs => ?_
  have up := Up.push (x := .ow e te.c xs) (e := .row v e te.c.k rs') (v := v) m.ol (hn.len m.len) fun M hM hv => ⟨v, rs', hv, rfl, k3⟩
  exact hK f1 _ v _ a w m.le up.le up.nb up.ol ⟨zd6, St.one (i := 0) hs rfl⟩ (m.fm.trans up.fm) hs
theorem zqn {k : Nat} : ∀ {rows : List (List Value)} (n : Nat),(∀ r ∈ rows, r.length = k) → (rows.take n).flatten = rows.flatten.take (n * k)
  | [], n, _ => by simp
  | r :: rows,0, _ => by simp
  | r :: rows, n + 1, h => by
    have hr := h r (by simp)
    have ih := zqn (rows := rows) n fun r hr => h r (by simp [hr])
    simp only [List.take_succ_cons, List.flatten_cons, ih]
    rw [List.take_append, List.take_of_length_le (l := r) (by rw [hr, Nat.succ_mul]; omega)]
    congr 2
    rw [hr, Nat.succ_mul]; omega
theorem cutRow {w : World} {v : Value} {e : TypeId} {k : Nat} {rows : List (List Value)} {hi : Nat} (h : (Ent.row v e k rows).holds w) (hh : hi ≤ rows.length) : (Ent.row (cutv v k 0 hi) e k (rows.take hi)).holds w ∧ (cutv v k 0 hi).ownBlock = v.ownBlock := by
  obtain ⟨⟨hq, h1⟩, hl⟩ := h
  have hlen : ∀ r ∈ rows, r.length = k := fun r hr => (hl r hr).1
  have hl2 : ∀ r ∈ rows.take hi, OneRow k r := fun r hr => hl r (List.mem_of_mem_take hr)
  have hfl : (rows.take hi).flatten.length = (rows.take hi).length * k := zbg fun r hr => (hl2 r hr).1
  rcases h1 with ⟨rfl, h0⟩ | ⟨g, cap, cur, rfl, hg, hb, hle, hcm, hcs, htk⟩
  · have hr : rows = [] := List.eq_nil_of_length_eq_zero h0
    subst hr
    have : hi = 0 := by simpa using hh
    subst this
    exact ⟨⟨⟨hfl, .inl ⟨rfl, rfl⟩⟩, hl2⟩, rfl⟩
  · have e : cutv (.slice (some ⟨g,0, none⟩) rows.length cap) k 0 hi = .slice (some ⟨g,0, none⟩) (rows.take hi).length cap := by
      simp [cutv, Addr.add, hh]
    refine ⟨⟨⟨hfl, .inr ⟨g, cap, cur, e, hg, hb, ?_, hcm, hcs, ?_⟩⟩, hl2⟩, by rw [e]; rfl⟩
    · simp only [List.length_take]; omega
    · rw [zqn hi hlen, ← htk, List.take_take]
      congr 1
      have := Nat.mul_le_mul_right k hh
      simp only [List.length_take]
      rw [Nat.min_eq_left hh]
      omega
theorem cw_same {w0 w : World} {f : Fz} {L : List Ent} {i : Nat} {x y : Ent} (h : Cw w0 f L w) (hi : L[i]? = some x) (hy : y.holds w) (hk : y.key = x.key) : Cw w0 f (L.set i y) w := by
  have at_ : ∀ (p : Nat) z,(L.set i y)[p]? = some z → ∃ z', L[p]? = some z' ∧ z.key = z'.key ∧ (z = z' ∨ z = y) := fun p z hp => by
    rw [List.getElem?_set] at hp
    split at hp
    · rename_i e
      subst e
      split at hp
      · cases hp; exact ⟨x, hi, hk, .inr rfl⟩
      · cases hp
    · exact ⟨z, hp, rfl, .inl rfl⟩
  refine ⟨h.os, h.tape, h.output, h.size, h.frz, fun z hz => ?_, fun z hz b hb => ?_, fun p q a b ha hb hpq k k1 k2 => ?_⟩
  · obtain ⟨p, hp⟩ := List.getElem?_of_mem hz
    obtain ⟨z', h1, _, rfl | rfl⟩ := at_ p z hp
    · exact h.live _ (List.mem_of_getElem? h1)
    · exact hy
  · obtain ⟨p, hp⟩ := List.getElem?_of_mem hz
    obtain ⟨z', h1, h2, _⟩ := at_ p z hp
    exact h.apart z' (List.mem_of_getElem? h1) b (by rw [← h2]; exact hb)
  · obtain ⟨a', h1, h2, _⟩ := at_ p a ha
    obtain ⟨b', h3, h4, _⟩ := at_ q b hb
    exact h.sep p q a' b' h1 h3 hpq k (by rw [← h2]; exact k1) (by rw [← h4]; exact k2)
theorem cut_ok (hE : EnvOk P E) {t : TypeId} {x hi : Operand} (h : op1 E (.slice t x none (some hi) none) d sl ob K = some r) : ∃ v ob', K v ob' = some r ∧ EOk P (.slice t x none (some hi) none) d sl ob v ob' := by
  have quiet : qop E.T (.slice t x none (some hi) none) sl ob (fun v => K v ob) = some r → ∃ v ob', K v ob' = some r ∧ EOk P (.slice t x none (some hi) none) d sl ob v ob' := fun h2 => by
    obtain ⟨v, h3, h4⟩ := zux hE.T h2
    exact ⟨v, ob, h3, .quiet h4⟩
  obtain ⟨v, h1, hx⟩ := zba (h : opd sl x _ = some r)
  split at h1
  · rename_i j
    obtain ⟨y, h3, h4⟩ := zaa h1
    split at h4
    · rename_i e c xs
      obtain ⟨dd, rfl, h5⟩ := zlt h4
      obtain ⟨e', k, by_, z, h6, g1, g2, _⟩ := zj5 hE.T h5
      obtain ⟨hk, h7⟩ := zb0 h6
      have hk := Nat.eq_of_beq_eq_true hk
      obtain ⟨b, h8, hb⟩ := zj7 h7
      obtain ⟨y, h9, h10⟩ := zaa h8
      obtain ⟨⟨q1, q2, q3, q4⟩, q5⟩ := zen h9
      refine ⟨_, _, h10, fun f N Es L w0 n a w hS hO hn hs ty pos af ops rest K hd hK => ?_⟩
      obtain ⟨u, e1, e2, e2'⟩ := hx f N Es hS
      obtain ⟨hlt, en, k1, v0, rows, k2, rfl, k3⟩ := hO.get h3
      rw [e2] at k2
      cases k2
      have hl : (xs.length : Int) = (rows.length : Int) := by rw [k3.len]
      have hR : Rd f L u k rows := by rw [← hk]; exact Rd.ofOwn (List.mem_of_getElem? k1) hs.cw
      have hbl : b.toNat ≤ rows.length := by rw [k3.len]; exact q4
      have hY := fun (n' : Nat) => zi3 (P := P) (n := n') (E := Es) (d := some dd) (ty := ty) (pos := pos) (af := af) (g := none) (C := Cw w0 f L) (ol := none) (lo := 0) e1 g1 g2 (.inl ⟨rfl, rfl⟩) (zj6 hb hS q2 hl) (Nat.zero_le _) hbl hR
      refine RL_y hs (.free rfl) (.to rfl (hd dd rfl)) (hY n) fun a w hs => ?_
      have hlive := hs.cw.live _ (List.mem_of_getElem? k1)
      obtain ⟨c1, c2⟩ := cutRow (hi := b.toNat) hlive hbl
      have hW : RW c.ty f (rows.take b.toNat) y := by
        have : RW c.ty f ((rows.take b.toNat).drop 0) y := by rw [← q5]; exact (k3.take _).drop _
        simpa using this
      have hC1 := cw_same hs.cw k1 c1 (show (cutv u c.k 0 b.toNat).ownBlock = _ from c2)
      have hC2 := Cw.toTop hC1 (by have := hO.len; omega)
      have hO2 : OLR f N (oset ob j .no) (L.set (ob.length - 1 - j) ph) := hO.put hlt trivial
      have up := Up.push (x := .ow e c y) (e := .row (cutv u c.k 0 b.toNat) e c.k (rows.take b.toNat)) (v := cutv u c.k 0 b.toNat) hO2 (hn.len (zao _ _ _)) fun M hM hv => ⟨_, _, hv, rfl, hW⟩
      rw [← hk] at hs
      exact hK f _ _ _ a w (.refl f) up.le up.nb up.ol ⟨by rw [show (oset ob j Ob.no).length = ob.length from zao _ _ _]; exact zd6, St.one (i := 0) (⟨hs.ev, hC2⟩ : St n w0 f _ _ a w) rfl⟩ ((Fm.set h3 (by simp)).trans up.fm) ⟨hs.ev, hC2⟩
    · exact quiet h4
  · exact quiet h1
theorem op1_ok (hE : EnvOk P E) {o : Op} (h : op1 E o d sl ob K = some r) : ∃ v ob', K v ob' = some r ∧ EOk P o d sl ob v ob' := by
  have q : ∀ (o : Op), qop E.T o sl ob (fun v => K v ob) = some r → ∃ v ob', K v ob' = some r ∧ EOk P o d sl ob v ob' := fun o h => by
    obtain ⟨v, h1, h2⟩ := zux hE.T h
    exact ⟨v, ob, h1, .quiet h2⟩
  cases o with
  | alloc t => exact alloc_ok hE h
  | box t x => exact box_ok hE h
  | store t x y => exact store_ok hE h
  | buildSlice t l ps => exact zq8 hE h
  | makeSlice t x y => exact zr5 hE h
  | range t x => exact range_ok hE h
  | next x s => exact next_ok hE.T h
  | convert s t x => exact zu5 hE h
  | slice t x lo hi mx =>
    cases mx with
    | some m => cases lo <;> cases hi <;> exact q _ h
    | none =>
      cases lo with
      | some l => cases hi <;> exact q _ h
      | none =>
        cases hi with
        | none => exact q _ h
        | some hi => exact cut_ok hE h
  | call c =>
    obtain ⟨callee, args, ats⟩ := c
    cases callee with
    | value f => exact call_ok hE h
    | builtin b =>
      cases b with
      | append => exact zw9 hE h
      | _ => exact q _ h
    | _ => exact q _ h
  | _ => exact q _ h
end Go.V
