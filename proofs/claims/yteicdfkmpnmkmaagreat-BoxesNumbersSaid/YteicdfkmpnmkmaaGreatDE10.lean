/-
  Walks and laws of this seat; the base is the text Base.
-/
import Derived.Test.YteicdfkmpnmkmaaGreatDE9
namespace Go.D
open Go.RowKit Go.Sl
section
variable {α : Type} {P : Program} {E : Env} {m : Nat} {t : Tr V} {lc : Ls} {h : H} {n : Nat} {k : KO α} {r : α}
variable (hE : ∀ t ti, E.tt.get t = some ti → TIok P t ti)

/-! ## Conversions -/
theorem kindK_inv {d : Ds} {u i : Option α} {r : α} (e : kindK d u i = some r) : (d = .int .u8 ∧ u = some r) ∨ (d = .int .i32 ∧ i = some r) := by
  cases d <;> first | exact nn e | skip
  rename_i kd
  cases kd <;> first | exact nn e | exact .inl ⟨rfl, e⟩ | exact .inr ⟨rfl, e⟩
theorem isStr_inv {d : Ds} {k : Option α} {r : α} (e : isStr d k = some r) : d = .str ∧ k = some r := by
  cases d <;> first | exact nn e | exact ⟨rfl, e⟩
theorem ascii_iff : ∀ {l : List Nat}, ascii l = true → ∀ c ∈ l, c < 128
  | [], _, _, h => by simp at h
  | a :: l, h, c, hc => by
    have h' : (Bool.rec false (ascii l) (Nat.blt a 128) : Bool) = true := h
    cases q : Nat.blt a 128 with
    | false => rw [q] at h'; exact absurd h' (by simp)
    | true =>
      rw [q] at h'
      rcases List.mem_cons.1 hc with rfl | hc
      · exact blt_iff q
      · exact ascii_iff h' c hc
theorem ints_inv {kd : IntKind} : ∀ {l : List (List C)} {K : List Nat → Option α} {r : α}, ints kd l K = some r → ∃ ns : List Nat, K ns = some r ∧ ns.length = l.length ∧ (∀ c ∈ ns, c < 128) ∧ ∀ (j : Nat) (c : Nat), ns[j]? = some c → ∃ row rest, l[j]? = some row ∧ row = C.i kd (c : Int) :: rest
  | [], K, r, e => ⟨[], e, rfl, fun _ h => by simp at h, fun j c h => by simp at h⟩
  | [] :: l, K, r, e => nn e
  | (x :: row) :: l, K, r, e => by
    obtain ⟨k', i, hx, e1⟩ := intK_inv (e : intK (.c x) _ = some r)
    cases hx
    obtain ⟨hk, e2⟩ := iff_inv e1
    have hk := of_decide_eq_true hk
    subst hk
    cases i with
    | negSucc _ => exact nn e2
    | ofNat c =>
      obtain ⟨h1, e3⟩ := iff_inv (e2 : iff (Nat.blt c 128) _ = some r)
      obtain ⟨ns, e4, h2, h3, h4⟩ := ints_inv (e3 : ints k' l (fun l => K (c :: l)) = some r)
      refine ⟨c :: ns, e4, by simp [h2], fun d hd => ?_, fun j d hj => ?_⟩
      · rcases List.mem_cons.1 hd with rfl | hd
        · exact blt_iff h1
        · exact h3 d hd
      · cases j with
        | zero => cases hj; exact ⟨_, row, rfl, rfl⟩
        | succ j => simpa using h4 j d (by simpa using hj)

theorem runesFrom_ascii {s : ByteArray} (hA : ∀ c ∈ byl s, c < 128) : ∀ (m i : Nat) (acc : Array Value), (byl s).length ≤ m + i → Conv.runesFrom s m i acc = acc ++ (((byl s).drop i).map (fun c : Nat => Value.int .i32 (c : Int))).toArray
  | 0, i, acc, h => by
    rw [List.drop_eq_nil_of_le (by omega)]
    simp [Conv.runesFrom]
  | m + 1, i, acc, h => by
    unfold Conv.runesFrom
    by_cases hi : i < s.size
    · cases q : (byl s).drop i with
      | nil =>
        have := congrArg List.length q
        rw [List.length_drop, byl_len] at this
        simp at this; omega
      | cons c rest =>
        obtain ⟨hp, f1, f2⟩ := byl_drop q
        have hc : c < 128 := hA c (List.mem_of_mem_drop (i := i) (by rw [q]; simp))
        have hd := decode_ascii s i hp (by omega)
        rw [f1] at hd
        simp only [hi, if_true, hd]
        rw [runesFrom_ascii hA m (i + 1) _ (by omega), f2]
        apply Array.ext'
        simp
    · rw [if_neg hi, List.drop_eq_nil_of_le (by rw [byl_len]; omega)]
      simp
theorem encode_ascii {c : Nat} (h : c < 128) : Utf8.encode (c : Int) = ⟨#[UInt8.ofNat c]⟩ := by
  have hv : Utf8.valid (c : Int) = true := by
    have h1 : (0 : Int) ≤ (c : Int) := by omega
    have h2 : (c : Int) < 55296 := by omega
    simp [Utf8.valid, h1, h2]
  simp [Utf8.encode, hv, h]
theorem byl_one {c : Nat} (h : c < 128) : byl ⟨#[UInt8.ofNat c]⟩ = [c] := by
  simp [byl]
  omega
theorem runesBytes_ascii : ∀ (ns : List Nat) (s : ByteArray), (∀ c ∈ ns, c < 128) → byl ((ns.map fun c : Nat => (c : Int)).foldl (fun r n => r ++ Utf8.encode n) s) = byl s ++ ns
  | [], s, _ => by simp
  | c :: ns, s, h => by
    simp only [List.map_cons, List.foldl_cons]
    rw [runesBytes_ascii ns _ (fun d hd => h d (by simp [hd])), byl_append, encode_ascii (h c (by simp)), byl_one (h c (by simp))]
    simp
theorem byl_mk {ns : List Nat} (h : ∀ c ∈ ns, c < 256) : byl ⟨(ns.map UInt8.ofNat).toArray⟩ = ns := by
  unfold byl
  simp only [List.map_map]
  conv => rhs; rw [← List.map_id ns]
  apply List.map_congr_left
  intro c hc
  have := h c hc
  simp
  omega

/-- A new row of bytes or runes, whose room hangs on the tape. -/
theorem newRow_BR {w' : World} {σ : Sg} {b cap : Nat} {kd : IntKind} {s : List Nat} {c : Tr (List C)} {el ty : TypeId} {fr : Nat × Nat} {z : Value} (hb : w'.heap[b]? = some (.cells ((s.map fun c : Nat => Value.int kd (c : Int)).toArray ++ Array.replicate (cap - s.length) z) ty fr))
    (_hcap : s.length ≤ cap) (hf : fr = (0, 0) ∨ ((s.map fun c : Nat => Value.int kd (c : Int)).toArray ++ Array.replicate (cap - s.length) z).size ≤ fr.1) (hc : ∀ j, c.get j = if 0 ≤ j ∧ j < 0 + (s.map fun c => [C.i kd (.ofNat c)]).length then (s.map fun c => [C.i kd (.ofNat c)])[j - 0]? else Tr.e.get j) :
    BR w' σ b (cap - s.length) (.cells 1 c s.length el false) := by
  refine BR.ofCells hb hf (by simp) (fun h => by cases h) (fun q row hq hr => ?_)
  rw [hc, if_pos ⟨Nat.zero_le _, by simpa using hq⟩, Nat.sub_zero, List.getElem?_map, List.getElem?_eq_getElem hq] at hr
  cases hr
  refine ⟨rfl, [.int kd (s[q] : Int)], ⟨rfl, trivial⟩, fun r v hv => ?_⟩
  cases r with
  | succ r => simp at hv
  | zero =>
    cases hv
    rw [Nat.mul_one, Nat.add_zero, Array.getElem?_append_left (by simpa using hq)]
    simp [hq]

include hE in
theorem opConv_ok {src dst : TypeId} {x : Operand} (e : opConv src dst x E m t lc h n k = some r) : Done P (.convert src dst x) (opT m t lc) h.get n k r := by
  obtain ⟨v, hv, e1⟩ := opd_inv e
  obtain ⟨ts, hs0, e2⟩ := oc_inv e1
  obtain ⟨td, hd0, e3⟩ := oc_inv e2
  obtain ⟨x0, rfl, e4⟩ := cK_inv e3
  clear e e1 e2 e3
  obtain ⟨sd, si, sz, s1, _, _, _, _, _, sD, _⟩ := (hE _ _ hs0).ok
  obtain ⟨dd, it, z, q1, q2, q3, q4, q5, q6, q7, _⟩ := (hE _ _ hd0).ok
  have hm : x ∈ (Op.convert src dst x).operands.toList := by simp [Op.operands]
  revert e4 q7
  cases td.d <;> intro e4 q7 <;> first | exact nn e4 | skip
  · -- to an integer
    rename_i kd
    have q7 : dd = .int kd := q7
    subst q7
    obtain ⟨k0, i, hx, e5⟩ := intK_inv e4
    cases hx
    rw [wrapK_eq] at e5
    refine ⟨_, [], [], n, e5, .ofPure fun N σ T2 a w ht hs => ?_⟩
    have g1 : a.eval x = .int k0 i := evO hv hm ht hs
    exact ⟨.int kd (kd.wrap i), rfl, fun o' q => by simp [execOp, q, g1, convert, run_underlying s1, run_underlying q1, Conv.intToInt]⟩
  · -- to a text
    have q7 : dd = .string := q7
    subst q7
    have empty : ∀ el, P.underlying src = some (.slice el) → (P.underlying el = some (.int .u8) ∨ P.underlying el = some (.int .i32)) → ∀ (ao : Option Addr) (cp : Nat) (w : World), (convert src dst (.slice ao 0 cp)).run P w = .ok (.string .empty) w := fun el hsl hel ao cp w => by
      rcases hel with hel | hel
      · rw [run_convert_bytes_string w src dst el ao 0 cp hsl hel q1]
        cases ao <;> simp [Conv.bytesToString, loadCells, loadCellsFrom]
      · rw [run_convert_runes_string w src dst el ao 0 cp hsl hel q1]
        cases ao <;> simp [Conv.runesToString, loadCells, loadCellsFrom]
    have hemp : byl .empty = [] := rfl
    cases x0 with
    | b _ => exact nn e4
    | pn => exact nn e4
    | p _ _ => exact nn e4
    | mn => exact nn e4
    | m _ => exact nn e4
    | nf => exact nn e4
    | fn _ _ _ => exact nn e4
    | i k0 i =>
      obtain ⟨kd, c, hx, e5⟩ := natK_inv (e4 : natK (.c (.i k0 i)) _ = some r)
      cases hx
      obtain ⟨h1, e6⟩ := iff_inv e5
      have h1 := blt_iff h1
      refine ⟨_, [], [], n, e6, .ofPure fun N σ T2 a w ht hs => ?_⟩
      have g1 : a.eval x = .int k0 (c : Int) := evO hv hm ht hs
      exact ⟨.string (Utf8.encode (c : Int)), ⟨_, rfl, by rw [encode_ascii h1, byl_one h1]⟩, fun o' q => by simp [execOp, q, g1, convert, run_underlying s1, run_underlying q1, Conv.intToString]⟩
    | s s =>
      refine ⟨_, [], [], n, e4, .ofPure fun N σ T2 a w ht hs => ?_⟩
      obtain ⟨b, g1, g2⟩ := evO hv hm ht hs
      exact ⟨.string b, ⟨b, rfl, g2⟩, fun o' q => by simp [execOp, q, g1, convert, run_underlying s1, run_underlying q1]⟩
    | sn =>
      obtain ⟨el, i, z', c1, c2, c3, c4, zl, c5, c6, e5⟩ := elemK_inv hE (e4 : elemK E src _ = some r)
      obtain ⟨te, h1, e6⟩ := oc_inv e5
      obtain ⟨d', it', z'', f1, f2, f3, f4, f5, f6, f7, _⟩ := (hE _ _ h1).ok
      have fin : P.underlying el = some (.int .u8) ∨ P.underlying el = some (.int .i32) → k (.c (.s [])) [] [] n = some r → Done P (.convert src dst x) (opT m t lc) h.get n k r := fun hel e7 =>
        ⟨_, [], [], n, e7, .ofPure fun N σ T2 a w ht hs => by
          have g1 : a.eval x = .slice none 0 0 := evO hv hm ht hs
          exact ⟨.string .empty, ⟨_, rfl, hemp⟩, fun o' q => by simp [execOp, q, g1, empty el c1 hel]⟩⟩
      rcases kindK_inv e6 with ⟨hd, e7⟩ | ⟨hd, e7⟩ <;> rw [hd] at f7
      · have f7 : d' = .int .u8 := f7
        subst f7
        exact fin (.inl f1) e7
      · have f7 : d' = .int .i32 := f7
        subst f7
        exact fin (.inr f1) e7
    | sl b o len cap =>
      obtain ⟨el, i, z', c1, c2, c3, c4, zl, c5, c6, e5⟩ := elemK_inv hE (e4 : elemK E src _ = some r)
      obtain ⟨te, h1, e6⟩ := oc_inv e5
      obtain ⟨d', it', z'', f1, f2, f3, f4, f5, f6, f7, _⟩ := (hE _ _ h1).ok
      cases len with
      | zero =>
        have fin : P.underlying el = some (.int .u8) ∨ P.underlying el = some (.int .i32) → k (.c (.s [])) [] [] n = some r → Done P (.convert src dst x) (opT m t lc) h.get n k r := fun hel e7 =>
          ⟨_, [], [], n, e7, .ofPure fun N σ T2 a w ht hs => by
            obtain ⟨b', y, g1, g2 | ⟨_, _, o2, g2⟩⟩ := evO hv hm ht hs
            · exact ⟨.string .empty, ⟨_, rfl, hemp⟩, fun o' q => by simp [execOp, q, g2, empty el c1 hel]⟩
            · exact ⟨.string .empty, ⟨_, rfl, hemp⟩, fun o' q => by simp [execOp, q, g2, empty el c1 hel]⟩⟩
        rcases kindK_inv (e6 : kindK te.d (k (.c (.s [])) [] [] n) (k (.c (.s [])) [] [] n) = some r) with ⟨hd, e7⟩ | ⟨hd, e7⟩ <;> rw [hd] at f7
        · have f7 : d' = .int .u8 := f7
          subst f7
          exact fin (.inl f1) e7
        · have f7 : d' = .int .i32 := f7
          subst f7
          exact fin (.inr f1) e7
      | succ len' =>
        obtain ⟨ob, h2, e7⟩ := oc_inv (e6 : oc (h.get b) _ = some r)
        obtain ⟨kk, c, bl, be, bx, rfl, e8⟩ := cellsK_inv e7
        obtain ⟨h3, e9⟩ := iff_inv e8
        obtain ⟨h4, e10⟩ := iff_inv e9
        obtain rfl := beq_iff' h3
        have h4 := ble_iff h4
        obtain ⟨l, h5, h6, e11⟩ := rows_inv _ _ _ _ _ e10
        have cells : ∀ (kd : IntKind) (ns : List Nat), ns.length = l.length → (∀ (j : Nat) (c : Nat), ns[j]? = some c → ∃ row rest, l[j]? = some row ∧ row = C.i kd (c : Int) :: rest) → ∀ (w : World) (σ : Sg) (b' x' : Nat), BR w σ b' x' (.cells 1 c bl be bx) → ∀ (j : Nat) (c : Nat), ns[j]? = some c → w.cell? ⟨b', o + j, none⟩ = some (.int kd (c : Int)) :=
          fun kd ns hl hns w σ b' x' hB j cc hj => by
            obtain ⟨row, rest, g1, g2⟩ := hns j cc hj
            have hjl : j < len' + 1 := by
              have := (List.getElem?_eq_some_iff.1 g1).1
              omega
            rw [h6 j hjl] at g1
            obtain ⟨_, _, hB⟩ := hB
            have h4 : o + (len' + 1) ≤ bl := h4
            obtain ⟨_, vs, g3, g4⟩ := hB _ row (by omega) g1
            subst g2
            cases vs with
            | nil => exact g3.elim
            | cons v vs =>
              have := g4 0 v rfl
              rw [g3.1] at this
              simpa using this
        rcases kindK_inv e11 with ⟨hd, e12⟩ | ⟨hd, e12⟩ <;> rw [hd] at f7
        · have f7 : d' = .int .u8 := f7
          subst f7
          obtain ⟨ns, e13, g1, g2, g3⟩ := ints_inv e12
          refine ⟨_, _, _, n, e13, .ofRead h2 (by simp) fun N σ T2 a w b' x' ht hs hb hB => ?_⟩
          obtain ⟨b2, y, g5, g6 | ⟨h, _⟩⟩ := evO hv hm ht hs
          · rw [hb] at g5; cases g5
            have hc := cells .u8 ns g1 g3 w σ b' x' hB
            have hlen : len' + 1 = (ns.map UInt8.ofNat).length := by simp; omega
            have hr := run_convert_bytes_back (P := P) w src dst el ⟨b', o, none⟩ (cap + x') (ns.map UInt8.ofNat) c1 f1 q1 (fun j hj => by
              have hj' : j < ns.length := by simpa using hj
              rw [Sl.add_lit, hc j ns[j] (by simp)]
              have : ns[j] < 128 := g2 _ (List.getElem_mem hj')
              congr 2
              simp
              omega)
            rw [← hlen] at hr
            exact ⟨_, ⟨_, rfl, byl_mk (fun c hc => by have := g2 c hc; omega)⟩, fun o' q => by simp [execOp, q, g6, hr]⟩
          · cases h
        · have f7 : d' = .int .i32 := f7
          subst f7
          obtain ⟨ns, e13, g1, g2, g3⟩ := ints_inv e12
          refine ⟨_, _, _, n, e13, .ofRead h2 (by simp) fun N σ T2 a w b' x' ht hs hb hB => ?_⟩
          obtain ⟨b2, y, g5, g6 | ⟨h, _⟩⟩ := evO hv hm ht hs
          · rw [hb] at g5; cases g5
            have hc := cells .i32 ns g1 g3 w σ b' x' hB
            have hlen : len' + 1 = ns.length := by omega
            have hr := run_convert_runes (P := P) w src dst el ⟨b', o, none⟩ (len' + 1) (cap + x') (ns.map fun c : Nat => (c : Int)) (by simp; omega) c1 f1 q1 (fun j hj => by
              have hj' : j < ns.length := by simpa using hj
              rw [Sl.add_lit, hc j ns[j] (by simp)]
              simp [List.getD, hj'])
            refine ⟨_, ⟨_, rfl, ?_⟩, fun o' q => by simp [execOp, q, g6, hr]; rfl⟩
            rw [List.take_of_length_le (by simp; omega)]
            unfold runesBytes
            rw [runesBytes_ascii ns _ g2]
            rfl
          · cases h
  · -- to a slice
    rename_i el
    have q7 : dd = .slice el := q7
    subst q7
    obtain ⟨hts, e4'⟩ := isStr_inv e4
    rw [hts] at sD
    have s2 : P.underlying src = some .string := by
      have sD : sd = .string := sD
      rw [s1, sD]
    obtain ⟨te, h1, e5⟩ := oc_inv e4'
    obtain ⟨d', it', z'', f1, f2, f3, f4, f5, f6, f7, _⟩ := (hE _ _ h1).ok
    obtain ⟨s, hx, e6⟩ := strK_inv e5
    cases hx
    rw [lenN_eq] at e6
    obtain ⟨h2, e7⟩ := iff_inv e6
    have h2 := ble_iff h2
    rcases kindK_inv e7 with ⟨hd, e8⟩ | ⟨hd, e8⟩ <;> rw [hd] at f7
    · have f7 : d' = .int .u8 := f7
      subst f7
      rw [bytesC_eq] at e8
      obtain ⟨c, h3, e9⟩ := putRows_inv _ _ _ _ _ e8
      refine ⟨_, [], _, n + 1, e9, .ofNew fun N σ T2 a w ht hs hn => ?_⟩
      obtain ⟨b, g1, g2⟩ := evO hv hm ht hs
      have hbl : s.length = b.size := by rw [← g2, byl_len]
      have hge := grownCap_ge w b.size 0 el
      have hrow : bytesRow b (grownCap w b.size 0 el) = (s.map fun c : Nat => Value.int .u8 (c : Int)).toArray ++ Array.replicate (grownCap w b.size 0 el - s.length) (.int .u8 0) := by
        unfold bytesRow
        rw [hbl, ← g2]
        congr 1
        apply Array.ext'
        simp [byl]
      have hrun := run_bytes_of_string (P := P) w src dst el b s2 q1 f1
      rw [hrow] at hrun
      refine ⟨_, _, w.heap.size, grownCap w b.size 0 el - s.length, grew_drew w (.cells ((s.map fun c : Nat => Value.int .u8 (c : Int)).toArray ++ Array.replicate (grownCap w b.size 0 el - s.length) (Value.int .u8 0)) el
          (((s.map fun c : Nat => Value.int .u8 (c : Int)).toArray ++ Array.replicate (grownCap w b.size 0 el - s.length) (Value.int .u8 0)).size, ((s.map fun c : Nat => Value.int .u8 (c : Int)).toArray ++ Array.replicate (grownCap w b.size 0 el - s.length) (Value.int .u8 0)).size + 1)), Nat.le_refl _, by simp, ⟨_, _, sgSet_at, .inl rfl⟩,
        newRow_BR (heap_alloc_new w.drew _) (by omega) (.inr (Nat.le_refl _)) h3, fun o' q => ?_⟩
      have hcap : b.size + (grownCap w b.size 0 el - b.size) = grownCap w b.size 0 el := by omega
      simp only [execOp, q, g1, Sem.run_bind, hrun, Result.andThen_ok, Sem.run_pure, hcap, hbl]
    · have f7 : d' = .int .i32 := f7
      subst f7
      obtain ⟨hA, e9⟩ := iff_inv e8
      have hA := ascii_iff hA
      rw [bytesC_eq] at e9
      obtain ⟨c, h3, e10⟩ := putRows_inv _ _ _ _ _ e9
      refine ⟨_, [], _, n + 1, e10, .ofNew fun N σ T2 a w ht hs hn => ?_⟩
      obtain ⟨b, g1, g2⟩ := evO hv hm ht hs
      have hbl : s.length = b.size := by rw [← g2, byl_len]
      have hrunes : Conv.runesFrom b b.size 0 #[] = (s.map fun c : Nat => Value.int .i32 (c : Int)).toArray := by
        rw [runesFrom_ascii (by rw [g2]; exact hA) b.size 0 #[] (by rw [byl_len]; omega), g2]
        simp
      have hrun := run_runes_of_string (P := P) w src dst el b s2 q1 f1 (by rw [hrunes]; simp; have : s.length ≤ 65536 := h2; omega)
      rw [hrunes] at hrun
      have hz : ((s.map fun c : Nat => Value.int .i32 (c : Int)).toArray).size = s.length := by simp
      rw [hz] at hrun
      have hge := grownCap_ge w s.length 0 el
      refine ⟨_, _, w.heap.size, grownCap w s.length 0 el - s.length, grew_drew w (.cells ((s.map fun c : Nat => Value.int .i32 (c : Int)).toArray ++ Array.replicate (grownCap w s.length 0 el - s.length) (Value.int .i32 0)) el), Nat.le_refl _, by simp, ⟨_, _, sgSet_at, .inl rfl⟩,
        newRow_BR (heap_alloc_new w.drew _) (by omega) (.inl rfl) h3, fun o' q => ?_⟩
      have hcap : s.length + (grownCap w s.length 0 el - s.length) = grownCap w s.length 0 el := by omega
      simp only [execOp, q, g1, Sem.run_bind, hrun, Result.andThen_ok, Sem.run_pure, hcap]
end
end Go.D
