/-
  Walks and laws of this seat; the base is the text Base.
-/
import Derived.Test.YteicdfkmpnmkmaaGreatDE8
import Derived.Laws.RangeString
namespace Go.D
open Go.RowKit Go.Sl
section
variable {α : Type} {P : Program} {E : Env} {m : Nat} {t : Tr V} {lc : Ls} {h : H} {n : Nat} {k : KO α} {r : α}
variable (hE : ∀ t ti, E.tt.get t = some ti → TIok P t ti)

/-! ## Maps -/
theorem mapB_inv {o : AO} {K : List (List Nat × C) → Option α} {r : α} (e : mapB o K = some r) : ∃ es, o = .map es ∧ K es = some r := by
  cases o <;> first | exact nn e | exact ⟨_, rfl, e⟩
include hE in
theorem strKey_inv {ty : TypeId} {K : TypeId → Option α} {r : α} (e : strKey E ty K = some r) : ∃ kt vt, P.underlying ty = some (.map kt vt) ∧ P.underlying kt = some .string ∧ K vt = some r := by
  obtain ⟨ti, h1, e1⟩ := oc_inv e
  obtain ⟨d, it, z, q1, q2, q3, q4, q5, q6, q7, _⟩ := (hE _ _ h1).ok
  revert e1 q7
  cases ti.d <;> intro e1 q7 <;> first | exact nn e1 | skip
  rename_i kt vt
  have q7 : d = .map kt vt := q7
  subst q7
  obtain ⟨tk, h2, e2⟩ := oc_inv (e1 : oc (E.tt.get kt) _ = some r)
  obtain ⟨d', it', z', c1, c2, c3, c4, c5, c6, c7, _⟩ := (hE _ _ h2).ok
  revert e2 c7
  cases tk.d <;> intro e2 c7 <;> first | exact nn e2 | skip
  have c7 : d' = .string := c7
  subst c7
  exact ⟨kt, vt, q1, c1, e2⟩
theorem mget_R {σ : Sg} {s : ByteArray} : ∀ {es : List (List Nat × C)} {mm : List (ByteArray × Value)}, MR σ es mm → (∃ c v, mget es (byl s) = some c ∧ Sl.mget mm s = some v ∧ CC σ c v) ∨ (mget es (byl s) = none ∧ Sl.mget mm s = none)
  | [], [], _ => .inr ⟨rfl, rfl⟩
  | (k, c) :: es, (u, v) :: mm, ⟨⟨h1, h2⟩, h3⟩ => by
    have he : mget ((k, c) :: es) (byl s) = bif beqL k (byl s) then some c else mget es (byl s) := by
      show (Bool.rec (mget es (byl s)) (some c) (beqL k (byl s)) : Option C) = _
      cases beqL k (byl s) <;> rfl
    rw [he, beqL_eq]
    by_cases q : u = s
    · subst q
      left
      refine ⟨c, v, by simp [h1], by simp [Sl.mget], h2⟩
    · have hk : k ≠ byl s := fun e => q (byl_inj (h1.trans e))
      have hm : Sl.mget ((u, v) :: mm) s = Sl.mget mm s := by simp [Sl.mget, q]
      rw [hm]
      simpa [hk] using mget_R h3
theorem mput_R {σ : Sg} {s : ByteArray} {c0 : C} {v0 : Value} (hc : CC σ c0 v0) : ∀ {es : List (List Nat × C)} {mm : List (ByteArray × Value)}, MR σ es mm → MR σ (mput es (byl s) c0) (Sl.mput mm s v0)
  | [], [], _ => ⟨⟨rfl, hc⟩, trivial⟩
  | (k, c) :: es, (u, v) :: mm, ⟨⟨h1, h2⟩, h3⟩ => by
    have he : mput ((k, c) :: es) (byl s) c0 = bif beqL k (byl s) then (k, c0) :: es else (k, c) :: mput es (byl s) c0 := by
      show (Bool.rec ((k, c) :: mput es (byl s) c0) ((k, c0) :: es) (beqL k (byl s)) : List (List Nat × C)) = _
      cases beqL k (byl s) <;> rfl
    rw [he, beqL_eq]
    by_cases q : u = s
    · subst q
      rw [Sl.mput, if_pos rfl]
      simp only [h1, decide_true, cond_true]
      exact ⟨⟨h1, hc⟩, h3⟩
    · have hk : k ≠ byl s := fun e => q (byl_inj (h1.trans e))
      rw [Sl.mput, if_neg q]
      simp only [hk, decide_false, cond_false]
      exact ⟨⟨h1, h2⟩, mput_R hc h3⟩

include hE in
theorem opLookup_ok {ty : TypeId} {x y : Operand} {ok : Bool} (e : opLookup ty x y ok E m t lc h n k = some r) : Done P (.lookup ty x y ok) (opT m t lc) h.get n k r := by
  obtain ⟨v, hv, e1⟩ := opd_inv e
  obtain ⟨v2, hv2, e2⟩ := opd_inv e1
  obtain ⟨b, rfl, e3⟩ := mapK_inv e2
  obtain ⟨q, rfl, e4⟩ := strK_inv e3
  obtain ⟨o, h1, e5⟩ := oc_inv e4
  obtain ⟨es, rfl, e6⟩ := mapB_inv e5
  obtain ⟨kt, vt, q1, q2, e7⟩ := strKey_inv hE e6
  obtain ⟨te, h2, e8⟩ := oc_inv e7
  rcases rec_t e8 with ⟨_, e9⟩ | ⟨hok, e9⟩
  · exact nn e9
  rcases rec_t e9 with ⟨_, e10⟩ | ⟨hag, e10⟩
  · exact nn e10
  subst hok
  obtain ⟨d, it, z, c1, c2, c3, c4, c5, c6, c7, c8, c9, c10, c11⟩ := (hE _ _ h2).ok
  have hz1 : ∀ (c : C) rest, te.z = c :: rest → ∀ σ, CC σ c z := fun c rest hc σ => by
    have := c8 σ
    have h10 := c10 hag
    have hcells : z.cells = #[z] := by cases z <;> first | rfl | simp [Value.oneCell'] at h10
    rw [hc, hcells] at this
    exact this.1
  have fin : ∀ c : C, k (.c c) [b] [] n = some r → (∀ (σ : Sg) (s : ByteArray) (mm : List (ByteArray × Value)), byl s = q → MR σ es mm → CC σ c ((Sl.mget mm s).getD z)) → Done P (.lookup ty x y false) (opT m t lc) h.get n k r := fun c e H =>
    ⟨_, _, _, n, e, .ofRead h1 (by simp) fun N σ T2 a w b' x' ht hs hb hB => by
      obtain ⟨b2, x2, g1, g2⟩ := evO hv (by simp [Op.operands]) ht hs
      rw [hb] at g1; cases g1
      obtain ⟨s, g3, g4⟩ := evO hv2 (by simp [Op.operands]) ht hs
      obtain ⟨_, en, cl, mm, f1, f2, f3⟩ := hB
      have hgm := run_getMap (P := P) f1
      have hck : (Instr.checkKey en.isEmpty 10000 kt (.string s)).run P w = .ok () w := checkKey_s (dpt := 9999) q2
      refine ⟨_, H σ s mm g4 f3, fun o' q' => ?_⟩
      rcases findKey_s (P := P) (w := w) (k := s) q2 f2 with ⟨j, v, e1, e2, _⟩ | ⟨e1, e2⟩
      · simp [execOp, q', g2, g3, Instr.lookup, run_underlying q1, hgm, hck, e1, e2]
      · simp [execOp, q', g2, g3, Instr.lookup, run_underlying q1, hgm, hck, e1, e2, zeroValue, typeInfo, c2, c5]⟩
  cases hm : mget es q with
  | some c =>
    rw [hm] at e10
    exact fin c e10 fun σ s mm hs hR => by
      subst hs
      rcases mget_R (s := s) hR with ⟨c', v, g1, g2, g3⟩ | ⟨g1, _⟩
      · rw [hm] at g1; cases g1; rw [g2]; exact g3
      · rw [hm] at g1; cases g1
  | none =>
    rw [hm] at e10
    cases hz : te.z with
    | nil => rw [hz] at e10; exact nn e10
    | cons c rest =>
      rw [hz] at e10
      exact fin c e10 fun σ s mm hs hR => by
        subst hs
        rcases mget_R (s := s) hR with ⟨c', v, g1, g2, g3⟩ | ⟨_, g2⟩
        · rw [hm] at g1; cases g1
        · rw [g2]; exact hz1 c rest hz σ

include hE in
theorem opMapUpd_ok {ty : TypeId} {x y z : Operand} (e : opMapUpd ty x y z E m t lc h n k = some r) : Done P (.mapUpdate ty x y z) (opT m t lc) h.get n k r ∧ Done P (.insert ty x y z) (opT m t lc) h.get n k r := by
  obtain ⟨v, hv, e1⟩ := opd_inv e
  obtain ⟨v2, hv2, e2⟩ := opd_inv e1
  obtain ⟨v3, hv3, e3⟩ := opd_inv e2
  obtain ⟨b, rfl, e4⟩ := mapK_inv e3
  obtain ⟨q, rfl, e5⟩ := strK_inv e4
  obtain ⟨u, rfl, e6⟩ := cK_inv e5
  obtain ⟨o, h1, e7⟩ := oc_inv e6
  obtain ⟨es, rfl, e8⟩ := mapB_inv e7
  obtain ⟨kt, vt, q1, q2, e9⟩ := strKey_inv hE e8
  have key : ∀ (o : Op), o.operands.toList = [x, y, z] → (∀ (ρ : Operand → Value) (o' : Oper), o'.op = o → execOp ρ o' = do Instr.mapUpdate ty (ρ x) (ρ y) (ρ z); pure .skip) → Done P o (opT m t lc) h.get n k r := fun o ho hx =>
    ⟨_, _, _, n, e9, .ofWrite h1 (by simp) fun N σ T2 a w b' x' ht hs hb hB hlt => by
      obtain ⟨b2, x2, g1, g2⟩ := evO hv (by simp [ho]) ht hs
      rw [hb] at g1; cases g1
      obtain ⟨s, g3, g4⟩ := evO hv2 (by simp [ho]) ht hs
      have g5 : CC σ u (a.eval z) := evO hv3 (by simp [ho]) ht hs
      obtain ⟨hx0, en, cl, mm, f1, f2, f3⟩ := hB
      have hgm := run_getMap (P := P) f1
      have hck : (Instr.checkKey false 10000 kt (.string s)).run P w = .ok () w := checkKey_s (dpt := 9999) q2
      have hmr := mput_R (s := s) g5 f3
      rw [g4] at hmr
      have fin : ∀ es' c', (Instr.mapUpdate ty (.map (some b')) (.string s) (a.eval z)).run P w = .ok () { w with heap := w.heap.setIfInBounds b' (.map es' c') } → SMap es'.toList (Sl.mput mm s (a.eval z)) →
          ∃ u w', Grew w w' (some b') ∧ CV σ unit u ∧ BR w' σ b' x' (.map (mput es q _)) ∧ ∀ o' : Oper, o'.op = o → (execOp a.eval o').run P w = .ok (.value u) w' ∨ ((execOp a.eval o').run P w = .ok .skip w' ∧ u = undef) := fun es' c' hr hS =>
        ⟨undef, { w with heap := w.heap.setIfInBounds b' (.map es' c') }, ⟨rfl, rfl, rfl, by simp, fun j hj hne => by
          have : b' ≠ j := fun e => hne (by rw [e])
          simp [Array.getElem?_setIfInBounds_ne this]⟩, CV_undef, ⟨hx0, es', c', _, by simp [hlt], hS, hmr⟩, fun o' q' => .inr ⟨by
            rw [hx a.eval o' q', g2, g3]
            simp [hr], rfl⟩⟩
      rcases findKey_s (P := P) (w := w) (k := s) q2 f2 with ⟨j, v, e1, e2, e3, e4⟩ | ⟨e1, e2⟩
      · refine fin (en.modify j fun e => { e with key := .string s, val := a.eval z }) cl ?_ (by simpa using e4 (a.eval z))
        have hkey : ((en[j]?).map (·.key)).getD (.string s) = .string s := by rw [← Array.getElem?_toList, e3]; rfl
        simp [Instr.mapUpdate, run_underlying q1, hgm, hck, e2, hkey, Instr.keyThatStays, Instr.sameBits, bytes_beq, run_setMap _ f1]
      · refine fin (en.push { key := .string s, val := a.eval z, born := cl }) (cl + 1) ?_ (by simpa using smap_push f2 e1)
        simp [Instr.mapUpdate, run_underlying q1, hgm, hck, e2, run_setMap _ f1]⟩
  exact ⟨key _ (by simp [Op.operands]) (fun ρ o' q => by simp [execOp, q]), key _ (by simp [Op.operands]) (fun ρ o' q => by simp [execOp, q])⟩

/-! ## Ranges over texts -/
theorem byl_drop {s : ByteArray} {p c : Nat} {rest : List Nat} (h : (byl s).drop p = c :: rest) : ∃ hp : p < s.size, (s[p]'hp).toNat = c ∧ (byl s).drop (p + 1) = rest := by
  have h0 : (byl s)[p]? = some c := by
    have : ((byl s).drop p)[0]? = some c := by rw [h]; rfl
    rw [List.getElem?_drop] at this
    simpa using this
  obtain ⟨b, h1, h2⟩ := byl_get h0
  have hp : p < s.size := by
    have := (List.getElem?_eq_some_iff.1 h0).1
    rwa [byl_len] at this
  refine ⟨hp, ?_, ?_⟩
  · rw [getElem?_pos s p hp] at h1
    cases h1
    exact h2
  · have : (byl s).drop (p + 1) = ((byl s).drop p).drop 1 := by rw [List.drop_drop]
    rw [this, h]; rfl
theorem opNext_ok {x : Operand} {b : Bool} (e : opNext x b E m t lc h n k = some r) : Done P (.next x b) (opT m t lc) h.get n k r := by
  obtain ⟨hb, _⟩ := iff_inv e
  subst hb
  obtain ⟨_, e0⟩ := iff_inv e
  obtain ⟨v, hv, e1⟩ := opd_inv e0
  obtain ⟨b, o, rfl, e2⟩ := ptrK_inv e1
  obtain ⟨h0, e3⟩ := iff_inv e2
  obtain rfl := beq_iff' h0
  obtain ⟨ob, h1, e4⟩ := oc_inv e3
  cases ob with
  | cells _ _ _ _ _ => exact nn e4
  | map _ => exact nn e4
  | dead => exact nn e4
  | iter s p =>
    cases s with
    | nil =>
      refine ⟨_, _, _, n, e4, .ofRead h1 (by simp) fun N σ T2 a w b' x' ht hs hb hB => ?_⟩
      obtain ⟨b2, x2, g1, g2⟩ := evO hv (by simp [Op.operands]) ht hs
      rw [hb] at g1; cases g1
      obtain ⟨_, s, f1, f2⟩ := hB
      have hp : ¬ p < s.size := by
        have := congrArg List.length f2
        rw [List.length_drop, byl_len] at this
        simp at this; omega
      refine ⟨.tuple #[.bool false], ⟨_, rfl, rfl, trivial⟩, fun o' q => ?_⟩
      simp [execOp, q, g2, Instr.next, getObj, Sem.run, f1, hp]
    | cons c s =>
      obtain ⟨h2, e5⟩ := iff_inv (e4 : iff (Nat.blt c 128) _ = some r)
      rw [fN_eq] at e5
      have h2 := blt_iff h2
      refine ⟨_, _, _, n, e5, .ofWrite h1 (by simp) fun N σ T2 a w b' x' ht hs hb hB hlt => ?_⟩
      obtain ⟨b2, x2, g1, g2⟩ := evO hv (by simp [Op.operands]) ht hs
      rw [hb] at g1; cases g1
      obtain ⟨hx0, u, f1, f2⟩ := hB
      obtain ⟨hp, f3, f4⟩ := byl_drop f2
      have hd := decode_ascii u p hp (by omega)
      rw [f3] at hd
      refine ⟨.tuple #[.bool true, .int .i64 p, .int .i32 c], { w with heap := w.heap.setIfInBounds b' (.stringIter u (p + 1)) }, ⟨rfl, rfl, rfl, by simp, fun j hj hne => by
        have : b' ≠ j := fun e => hne (by rw [e])
        simp [Array.getElem?_setIfInBounds_ne this]⟩, ⟨_, rfl, rfl, rfl, rfl, trivial⟩, ⟨hx0, u, by simp [hlt], f4⟩, fun o' q => .inl ?_⟩
      simp [execOp, q, g2, Instr.next, getObj, setObj, Sem.run, f1, hp, hd, goInt]
end
end Go.D
