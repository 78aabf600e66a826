/-
  Walks and laws of this seat; the base is the text Base.
-/
import Derived.Test.YteicdfkmpnmkmaaGreatDE12
namespace Go.D
open Go.RowKit Go.Sl
section
variable {α : Type} {P : Program} {E : Env} {m : Nat} {t : Tr V} {lc : Ls} {h : H} {n : Nat} {k : KO α} {r : α}
variable (hE : ∀ t ti, E.tt.get t = some ti → TIok P t ti)

include hE in
theorem append_ok {ats : List TypeId} {ars : List Operand} {l : List V} (hl : opFs (opT m t lc) ars l) (e : builtinK .append ats l E h n k = some r) : Done P (.call ⟨.builtin .append, ars.toArray, ats.toArray⟩) (opT m t lc) h.get n k r := by
  cases l with
  | nil => exact nn e
  | cons x l =>
  cases l with
  | nil => exact nn e
  | cons y l =>
  cases l with
  | cons _ _ => exact nn e
  | nil =>
  cases ats with
  | nil => exact nn e
  | cons ty ats =>
  cases ats with
  | nil => exact nn e
  | cons tx ats =>
  cases ats with
  | cons _ _ => exact nn e
  | nil =>
  cases ars with
  | nil => exact hl.elim
  | cons xo ars =>
  cases ars with
  | nil => exact hl.2.elim
  | cons yo ars =>
  cases ars with
  | cons _ _ => exact hl.2.2.elim
  | nil =>
  have hx := hl.1
  have hy := hl.2.1
  obtain ⟨tj, htj, e1⟩ := oc_inv (e : oc (E.tt.get tx) (fun tj => opAppend ty x y tj.d E h n k) = some r)
  obtain ⟨el, i, z, q1, q2, q3, q4, zl, q5, q6, e2⟩ := elemK_inv hE e1
  obtain ⟨hby, e3⟩ := iff_inv e2
  obtain ⟨l, ml, rs, hS, e4⟩ := srcK_inv hE htj e3
  obtain ⟨hml, e5⟩ := iff_inv e4
  have hrd : ∀ b ∈ rs, ∃ o, h.get b = some o := fun b hb => by
    rcases hS.2.1 with e | ⟨b0, ob, e, g, _⟩
    · rw [e] at hb; cases hb
    · rw [e] at hb
      simp at hb
      subst hb
      exact ⟨_, g⟩
  have hby : i.bytes ≤ 65536 := ble_iff hby
  have hml : ml ≤ 65536 := ble_iff hml
  have hzc : z.cells.size = i.size := by
    have := (q5 (fun _ => none)).len
    simp at this; omega
  generalize hop : Op.call ⟨.builtin .append, [xo, yo].toArray, [ty, tx].toArray⟩ = op
  have hmx : xo ∈ op.operands.toList := by rw [← hop]; simp [Op.operands, Call.operands]
  have hmy : yo ∈ op.operands.toList := by rw [← hop]; simp [Op.operands, Call.operands]
  -- what the run does, from what append does
  have hrun : ∀ (a : Act) (w w' : World) (u : Value), (∀ tt, (Builtin.append_ #[ty, tx] tt #[a.eval xo, a.eval yo]).run P w = .ok u w') → ∀ o' : Oper, o'.op = op → (execOp a.eval o').run P w = .ok (.value u) w' ∨ ((execOp a.eval o').run P w = .ok .skip w' ∧ u = undef) := fun a w w' u H o' q => .inl (by
    subst hop
    simp only [execOp, q, resolve, invoke, builtin, Sem.run_bind, Sem.run_pure, Result.andThen_ok, List.map_toArray, List.map_cons, List.map_nil, H])
  have room : ∀ need, need ≤ 65536 → need * i.bytes ≤ 140737488355328 := fun need hn => by
    have : need * i.bytes ≤ 65536 * 65536 := Nat.mul_le_mul hn hby
    omega
  rcases slK_inv e5 with ⟨rfl, e6⟩ | ⟨b, o, len, cap, rfl, e6⟩
  · -- to nil
    cases ml with
    | zero =>
      refine ⟨_, rs, [], n, e6, ⟨Nat.le_refl _, fun p hp => by simp at hp, hrd, fun w0 Φ N σ T2 h2 a w ht hr hf hs H => ?_⟩⟩
      obtain ⟨news, s1, s2⟩ := src_use hS (fun _ hb => hb) hr H (evO hy hmy ht hs)
      have g1 : a.eval xo = .slice none 0 0 := evO hx hmx ht hs
      refine ⟨.slice none 0 0, w, σ, Sg.le.refl σ, fun _ _ => rfl, rfl, H, hrun a w w _ fun tt => ?_⟩
      rw [g1]
      rcases s1.kind with ⟨e', hk⟩ | hk <;> simp [Builtin.append_, run_underlying q1, run_underlying hk, sizeOf, typeInfo, q2, s1.len, s1.cells]
    | succ ml' =>
      obtain ⟨c, h1, e7⟩ := putRows_inv _ _ _ _ _ (e6 : putRows l .e 0 (fun c => k (.c (.sl n 0 (ml' + 1) (ml' + 1))) rs [(n, .cells i.size c (ml' + 1) el false)] (Nat.succ n)) = some r)
      refine ⟨_, rs, _, n + 1, e7, ⟨Nat.le_succ _, fun p hp => by simp at hp; subst hp; exact .inr ⟨Nat.le_refl _, Nat.lt_succ_self _⟩, hrd, fun w0 Φ N σ T2 h2 a w ht hr hf hs H => ?_⟩⟩
      obtain ⟨news, s1, s2⟩ := src_use hS (fun _ hb => hb) hr H (evO hy hmy ht hs)
      have g1 : a.eval xo = .slice none 0 0 := evO hx hmx ht hs
      have hn := hf n (Nat.le_refl _) (Nat.lt_succ_self _)
      have hap := fun tt => run_append_grow_src (P := P) w ty tx tt el i z q1 q2 q3 none 0 0 [] (run_firstCells_none w.drew i.size 0 0 0) (a.eval yo) (ml' + 1) news s1 (by omega) (by omega) (growslice_fits (by omega) (room _ (by omega)))
      have hge := grownCap_ge w (0 + (ml' + 1)) 0 el
      have hnew := H.alloc (n := n) (b := w.heap.size) (x := grownCap w (0 + (ml' + 1)) 0 el - (0 + (ml' + 1))) (o := .cells i.size c (0 + (ml' + 1)) el false) hn (grew_drew w (.cells (([] ++ news).toArray ++ Builtin.zeroCells z.cells (grownCap w (0 + (ml' + 1)) 0 el - (0 + (ml' + 1)))) el)) (Nat.le_refl _) (by simp)
        (grown_BR hzc hS.1 (olds := []) (len := 0) (by simp) (s2.le (sgSet_le hn)) rfl hge (heap_alloc_new w.drew _) h1 (fun q row hq => by omega))
      have z0 : 0 + (ml' + 1) = ml' + 1 := Nat.zero_add _
      simp only [z0] at hap hnew hge
      refine ⟨.slice (some ⟨w.heap.size, 0, none⟩) (ml' + 1) (grownCap w (ml' + 1) 0 el), _, _, sgSet_le hn, fun c hc => by unfold sgSet; rw [if_neg (by omega)], ⟨_, _, sgSet_at, .inl ?_⟩, hnew, hrun a w _ _ fun tt => ?_⟩
      · congr 1
        omega
      · rw [g1]; exact hap tt
  · -- to a row
    have e6 : fN (Nat.add len ml) _ = some r := e6
    rw [fN_eq] at e6
    obtain ⟨ob, h1, e7⟩ := oc_inv e6
    obtain ⟨bk, c, bl, be, bx, rfl, e8⟩ := cellsK_inv e7
    obtain ⟨h2, e9⟩ := iff_inv e8
    obtain ⟨h3, e10⟩ := iff_inv e9
    obtain rfl := beq_iff' h2
    have h3 : len + ml ≤ 65536 := ble_iff h3
    rcases rec_t e10 with ⟨hroom, e11⟩ | ⟨hroom, e11⟩
    · -- there is room
      have hroom : len + ml ≤ cap := ble_iff hroom
      obtain ⟨h4, e12⟩ := iff_inv e11
      obtain ⟨h5, e13⟩ := iff_inv e12
      have h4 : o % i.size = 0 := beq_iff' h4
      have h5 : o / i.size + (len + ml) ≤ bl := ble_iff h5
      rw [fN_eq] at e13
      obtain ⟨c', h6, e14⟩ := putRows_inv _ _ _ _ _ e13
      have ho : o / i.size * i.size = o := by
        have := Nat.div_add_mod o i.size
        rw [h4, Nat.mul_comm] at this
        omega
      refine ⟨_, _, _, n, e14, ⟨Nat.le_refl _, fun p hp => by simp at hp; subst hp; exact .inl (by simp), fun c hc => by
        rcases List.mem_cons.1 hc with rfl | hc
        · exact ⟨_, h1⟩
        · exact hrd c hc, fun w0 Φ N σ T2 h2 a w ht hr hf hs H => ?_⟩⟩
      obtain ⟨news, s1, s2⟩ := src_use hS (fun _ hb => by simp [hb]) hr H (evO hy hmy ht hs)
      have hb2 := (hr b (by simp)).trans h1
      obtain ⟨b', y, g1, g2, g3, hB⟩ := H.live b _ hb2 (by simp)
      obtain ⟨f1, f2⟩ := hB.wrRows (q0 := o / i.size + len) (c' := c') (by rw [hS.1]; omega) s2 (len' := bl) (x' := y) (ex' := bx) rfl (.inl (Nat.le_refl _)) (by omega) hB.1 h6
      rw [Nat.add_mul, ho] at f1 f2
      have hH := H.write hb2 (by simp) g1 (Grew.setCells b' news (o + len * i.size) w) f2
      obtain ⟨b2, y2, g4, g5 | ⟨l0, c0, o2, g5⟩⟩ := evO hx hmx ht hs
      · rw [g1] at g4; cases g4
        refine ⟨.slice (some ⟨b', o, none⟩) (len + ml) (cap + y), _, σ, Sg.le.refl σ, fun _ _ => rfl, ⟨b', y, g1, .inl rfl⟩, hH, hrun a w _ _ fun tt => ?_⟩
        rw [g5]
        exact run_append_room_src (P := P) w ty tx tt el i q1 q2 b' o len (cap + y) (a.eval yo) ml news s1 (by omega) (fun j hj => (f1 j hj).1) (fun j hj => (f1 j hj).2)
      · rw [g1] at g4; cases g4
        subst l0 c0
        obtain rfl : ml = 0 := by omega
        have hn0 : news = [] := List.eq_nil_of_length_eq_zero (by rw [s2.1, hS.1]; simp)
        subst hn0
        refine ⟨.slice (some ⟨b', o2, none⟩) (0 + 0) 0, _, σ, Sg.le.refl σ, fun _ _ => rfl, ⟨b', y, g1, .inr ⟨rfl, rfl, o2, rfl⟩⟩, hH, hrun a w _ _ fun tt => ?_⟩
        rw [g5]
        exact run_append_room_src (P := P) w ty tx tt el i q1 q2 b' o2 0 0 (a.eval yo) 0 [] s1 (by omega) (fun j hj => by simp at hj) (fun j hj => by simp at hj)
    · -- there is none that the executor knows of
      have hroom : cap < len + ml := ble_not hroom
      obtain ⟨h4, e12⟩ := iff_inv e11
      obtain ⟨h5, e13⟩ := iff_inv e12
      obtain ⟨h6, e14⟩ := iff_inv e13
      obtain rfl := beq_iff' h4
      obtain rfl := beq_iff' h5
      have h6 : len ≤ cap := ble_iff h6
      obtain ⟨c', h7, e15⟩ := putRows_inv _ _ _ _ _ e14
      -- the run that grows
      have grow : ∀ (w0 : World) (Φ : Fz) (σ : Sg) (h2 : Nat → Option AO) (a : Act) (w : World) (b' y o2 ccap : Nat) (news : List Value), HR w0 Φ σ h2 w → σ n = none → BR w σ b' y (.cells i.size c cap be bx) → Src P i.size tx (a.eval yo) ml news w → RC σ i.size l news →
          a.eval xo = .slice (some ⟨b', o2, none⟩) len ccap → (len = 0 ∨ o2 = 0) → ccap < len + ml → ∃ u w' σ', σ.le σ' ∧ (∀ c, (c < n ∨ n + 1 ≤ c) → σ' c = σ c) ∧ CV σ' (.c (.sl n 0 (len + ml) (len + ml))) u ∧ HR w0 Φ σ' (set1 h2 n (.cells i.size c' (len + ml) el false)) w' ∧
            ∀ o' : Oper, o'.op = op → (execOp a.eval o').run P w = .ok (.value u) w' ∨ ((execOp a.eval o').run P w = .ok .skip w' ∧ u = undef) := fun w0 Φ σ h2 a w b' y o2 ccap news H hn hB s1 s2 hx0 ho2 hcc => by
        obtain ⟨_, hcells, hrows⟩ := hB
        have hlk : len * i.size ≤ (cap + y) * i.size := Nat.mul_le_mul_right _ (by omega)
        obtain ⟨olds, p1, p2⟩ := cells_list (w := w) (b := b') (o := o2) (m := len * i.size) (fun j hj => by
          rcases ho2 with rfl | rfl
          · simp at hj
          · exact (hcells _ (by omega)).1)
        have hold := run_firstCells_some (P := P) w.drew i.size len ⟨b', o2, none⟩ len ccap olds p1 (fun j v hj => by rw [Sl.add_lit]; exact ((p2 j v).1 hj).2)
        have hap := fun tt => run_append_grow_src (P := P) w ty tx tt el i z q1 q2 q3 (some ⟨b', o2, none⟩) len ccap olds hold (a.eval yo) ml news s1 hcc (by omega) (growslice_fits hcc (room _ h3))
        have hge := grownCap_ge w (len + ml) ccap el
        have hnew := H.alloc (n := n) (b := w.heap.size) (x := grownCap w (len + ml) ccap el - (len + ml)) (o := .cells i.size c' (len + ml) el false) hn (grew_drew w (.cells ((olds ++ news).toArray ++ Builtin.zeroCells z.cells (grownCap w (len + ml) ccap el - (len + ml))) el)) (Nat.le_refl _) (by simp)
          (grown_BR hzc hS.1 p1 (s2.le (sgSet_le hn)) rfl hge (heap_alloc_new w.drew _) h7 (fun q row hq hr => by
            obtain ⟨f1, vs, f2, f3⟩ := hrows q row (by omega) hr
            refine ⟨f1, vs, f2.le (sgSet_le hn), fun j v hv => (p2 _ v).2 ⟨?_, ?_⟩⟩
            · have hj := (List.getElem?_eq_some_iff.1 hv).1
              have := f2.len
              have : (q + 1) * i.size ≤ len * i.size := Nat.mul_le_mul_right _ hq
              rw [Nat.succ_mul] at this
              omega
            · rcases ho2 with rfl | rfl
              · omega
              · rw [Nat.zero_add]; exact f3 j v hv))
        refine ⟨.slice (some ⟨w.heap.size, 0, none⟩) (len + ml) (grownCap w (len + ml) ccap el), _, _, sgSet_le hn, fun c hc => by unfold sgSet; rw [if_neg (by omega)], ⟨_, _, sgSet_at, .inl ?_⟩, hnew, hrun a w _ _ fun tt => ?_⟩
        · congr 1; omega
        · rw [hx0]; exact hap tt
      have both : ∀ (us : List (Nat × AO)), (us = [(b, .dead), (n, .cells i.size c' (len + ml) el false)] ∧ bx = false) ∨ (us = [(n, .cells i.size c' (len + ml) el false)] ∧ bx = true) → k (.c (.sl n 0 (len + ml) (len + ml))) (b :: rs) us (Nat.succ n) = some r →
          Done P op (opT m t lc) h.get n k r := fun us hus e16 => by
        refine ⟨_, _, _, n + 1, e16, ⟨Nat.le_succ _, fun p hp => ?_, fun c hc => by
          rcases List.mem_cons.1 hc with rfl | hc
          · exact ⟨_, h1⟩
          · exact hrd c hc, fun w0 Φ N σ T2 h2 a w ht hr hf hs H => ?_⟩⟩
        · rcases hus with ⟨rfl, _⟩ | ⟨rfl, _⟩
          · simp at hp
            rcases hp with rfl | rfl
            · exact .inl (by simp)
            · exact .inr ⟨Nat.le_refl _, Nat.lt_succ_self _⟩
          · simp at hp; subst hp
            exact .inr ⟨Nat.le_refl _, Nat.lt_succ_self _⟩
        · obtain ⟨news, s1, s2⟩ := src_use hS (fun _ hb => by simp [hb]) hr H (evO hy hmy ht hs)
          have hn := hf n (Nat.le_refl _) (Nat.lt_succ_self _)
          have hb2 := (hr b (by simp)).trans h1
          obtain ⟨b', y, g1, g2, g3, hB⟩ := H.live b _ hb2 (by simp)
          have fin : ∀ (o2 ccap : Nat), a.eval xo = .slice (some ⟨b', o2, none⟩) len ccap → (len = 0 ∨ o2 = 0) → ccap < len + ml → ∃ u w' σ', σ.le σ' ∧ (∀ c, (c < n ∨ n + 1 ≤ c) → σ' c = σ c) ∧ CV σ' (.c (.sl n 0 (len + ml) (len + ml))) u ∧ HR w0 Φ σ' (upd us h2) w' ∧
              ∀ o' : Oper, o'.op = op → (execOp a.eval o').run P w = .ok (.value u) w' ∨ ((execOp a.eval o').run P w = .ok .skip w' ∧ u = undef) := fun o2 ccap hx0 ho2 hcc => by
            rcases hus with ⟨rfl, _⟩ | ⟨rfl, _⟩
            · exact grow w0 Φ σ (set1 h2 b .dead) a w b' y o2 ccap news H.kill hn hB s1 s2 hx0 ho2 hcc
            · exact grow w0 Φ σ h2 a w b' y o2 ccap news H hn hB s1 s2 hx0 ho2 hcc
          obtain ⟨b2, y2, g4, g5 | ⟨l0, c0, o2, g5⟩⟩ := evO hx hmx ht hs
          · rw [g1] at g4; cases g4
            by_cases hin : len + ml ≤ cap + y
            · -- in place after all
              rcases hus with ⟨rfl, hbx⟩ | ⟨rfl, hbx⟩
              · obtain ⟨f1, f2⟩ := hB.wrRows (q0 := len) (c' := c') (by rw [hS.1]; omega) s2 (len' := len + ml) (x' := cap + y - (len + ml)) (ex' := false) (by omega) (.inr (by rw [hS.1])) h6 (fun h => by cases h) h7
                have f3 : BR (w.setCells b' (len * i.size) news) (sgSet σ n b' (cap + y - (len + ml))) b' (cap + y - (len + ml)) (.cells i.size c' (len + ml) el false) := f2.le (sgSet_le hn)
                have hH := H.move hb2 (by simp) g1 hn (Grew.setCells b' news (len * i.size) w) f3
                refine ⟨.slice (some ⟨b', 0, none⟩) (len + ml) (cap + y), _, _, sgSet_le hn, fun c hc => by unfold sgSet; rw [if_neg (by omega)], ⟨_, _, sgSet_at, .inl ?_⟩, hH, hrun a w _ _ fun tt => ?_⟩
                · congr 1; omega
                · rw [g5]
                  have hap := run_append_room_src (P := P) w ty tx tt el i q1 q2 b' 0 len (cap + y) (a.eval yo) ml news s1 hin (fun j hj => by rw [Nat.zero_add]; exact (f1 j hj).1) (fun j hj => by rw [Nat.zero_add]; exact (f1 j hj).2)
                  rw [Nat.zero_add] at hap
                  exact hap
              · have := hB.1 hbx
                omega
            · exact fin 0 (cap + y) g5 (.inr rfl) (by omega)
          · rw [g1] at g4; cases g4
            subst l0 c0
            exact fin o2 0 g5 (.inl rfl) hroom
      subst hop
      rcases rec_t e15 with ⟨hbx, e16⟩ | ⟨hbx, e16⟩
      · exact both _ (.inr ⟨rfl, hbx⟩) e16
      · exact both _ (.inl ⟨rfl, hbx⟩) e16
end
end Go.D
