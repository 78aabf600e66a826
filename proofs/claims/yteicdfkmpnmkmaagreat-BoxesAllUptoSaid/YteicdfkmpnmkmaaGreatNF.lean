/-
  Walks and laws of this seat.
-/
import Derived.Test.YteicdfkmpnmkmaaGreatNB
import Derived.Test.YteicdfkmpnmkmaaGreatN5
import Derived.Test.YteicdfkmpnmkmaaGreatPG
import Derived.Test.YteicdfkmpnmkmaaGreatRows
namespace Go.Proofs.YteicdfkmpnmkmaaGreat
set_option linter.unusedVariables false
set_option linter.unusedSimpArgs false
set_option linter.unusedSectionVars false
open Go.RowKit Go.Sl Go.V
def encB (p : List Value × BoxT) : Value := .agg p.1.toArray
section
variable [F0]
mutual
/-- A box with all below it: their cells, as they lie. -/
def AR (f : Fz) : BoxT → List Value → List (List Value × BoxT) → Prop
  | .mk x ks, r, xs => ∃ r1 kv rows ys, r = r1 ++ [kv] ∧ cBx.R f r1 x ∧ Rd f [] kv 57 rows ∧ ARL f ks rows ys ∧ xs = (r, .mk x ks) :: ys
def ARL (f : Fz) : List BoxT → List (List Value) → List (List Value × BoxT) → Prop
  | [], rows, xs => rows = [] ∧ xs = []
  | t :: ts, rows, xs => ∃ r rs y1 y2, rows = r :: rs ∧ xs = y1 ++ y2 ∧ AR f t r y1 ∧ ARL f ts rs y2
end
mutual
theorem AR.of {f : Fz} : ∀ {b : BoxT} {r : List Value}, cBoxT.R f r b → ∃ xs, AR f b r xs ∧ xs.map (·.2) = allT b ∧ ∀ p ∈ xs, cBoxT.R f p.1 p.2
  | .mk x ks, r, h => by
    obtain ⟨r1, v, rows, rfl, h1, h2, h3, h4⟩ := TrR.inv (h : TrR _ _ r (.mk x ks))
    obtain ⟨ys, g1, g2, g3⟩ := ARL.of (ks := ks) (rows := rows) h3 h4
    refine ⟨(r1 ++ [v], .mk x ks) :: ys, ?_, ?_, fun p hp => ?_⟩
    · unfold AR
      exact ⟨r1, v, rows, ys, rfl, h1, TC.rdU (.tn cBx) h2, g1, rfl⟩
    · rw [List.map_cons, g2, ya4]
    · rcases List.mem_cons.1 hp with rfl | hp
      · exact h
      · exact g3 p hp
theorem ARL.of {f : Fz} : ∀ {ks : List BoxT} {rows : List (List Value)}, rows.length = ks.length → (∀ (i : Nat) (r : List Value) (y : BoxT), rows[i]? = some r → ks[i]? = some y → cBoxT.R f r y) → ∃ xs, ARL f ks rows xs ∧ xs.map (·.2) = allL ks ∧ ∀ p ∈ xs, cBoxT.R f p.1 p.2
  | [], rows, hl, _ => ⟨[], by unfold ARL; exact ⟨List.eq_nil_of_length_eq_zero hl, rfl⟩, by rw [zq1]; rfl, by simp⟩
  | t :: ts,[], hl, _ => by simp at hl
  | t :: ts, r :: rs, hl, h => by
    obtain ⟨y1, a1, a2, a3⟩ := AR.of (h 0 r t rfl rfl)
    obtain ⟨y2, c1, c2, c3⟩ := ARL.of (ks := ts) (rows := rs) (by simpa using hl) fun i r' y hr hy => h (i + 1) r' y (by simpa using hr) (by simpa using hy)
    refine ⟨y1 ++ y2, by unfold ARL; exact ⟨r, rs, y1, y2, rfl, rfl, a1, c1⟩, by rw [List.map_append, a2, c2, zmo], fun p hp => ?_⟩
    rcases List.mem_append.1 hp with hp | hp
    · exact a3 p hp
    · exact c3 p hp
end
theorem ARL.len {f : Fz} : ∀ {ks : List BoxT} {rows : List (List Value)} {xs : List (List Value × BoxT)}, ARL f ks rows xs → rows.length = ks.length
  | [], _, _, h => by unfold ARL at h; rw [h.1]; rfl
  | t :: ts, _, _, h => by
    unfold ARL at h
    obtain ⟨r, rs, y1, y2, rfl, _, _, h⟩ := h
    rw [List.length_cons, List.length_cons, ARL.len h]
def WalkOK (b : BoxT) : Prop := szT b ≤ 1000000000 → ∀ (f f' : Fz) (l bY bW : Nat) (r : List Value) (xs : List (List Value × BoxT)), AR f b r xs → Fz.le f f' → f' bY = some (.cells #[.func (.yield l) #[] #[]] 66 (0,0)) → f' bW = some (.cells #[.func (.func 47) #[] #[.pointer (some ⟨bY,0, none⟩), .pointer (some ⟨bW,0, none⟩)]] 66 (0,0)) →
  ∀ (w0 : World) (J : List (List Value × BoxT) → List Ent → Prop) (Jx : List Ent → Prop),(∀ x rem L T f'' w, Fz.le f' f'' → Cw w0 f'' (L ++ T) w → J (x :: rem) L → YieldAt Fence.wide 0 Tryz.prog l #[encB x] w fun e w' => ∃ L', Cw w0 f'' (L' ++ T) w' ∧ ((e = .returned (.bool true) ∧ J rem L') ∨ (e = .returned (.bool false) ∧ Jx L'))) →
  ∀ (rem : List (List Value × BoxT)) (L T : List Ent) (w : World), Cw w0 f' (T ++ L) w → J (xs ++ rem) L → Calls Tryz.prog 47 #[.agg r.toArray, .pointer (some ⟨bY,0, none⟩), .pointer (some ⟨bW,0, none⟩)] w fun e w' => ∃ L', Cw w0 f' (T ++ L') w' ∧ ((e = .returned (.bool true) ∧ J rem L') ∨ (e = .returned (.bool false) ∧ Jx L'))
set_option maxRecDepth 20000 in
set_option maxHeartbeats 8000000 in
theorem yfi {x : cBx.T} {ks : List BoxT} (ih : ∀ b ∈ ks, WalkOK b) : WalkOK (.mk x ks) := by
  intro hsz f f' l bY bW r xs hA hle hbY hbW w0 J Jx hY rem L T w hC hJ
  unfold AR at hA
  obtain ⟨r1, kv, rows, ys, rfl, h1, h2, h3, rfl⟩ := hA
  have hr : OneRow 57 (r1 ++ [kv]) := oneApp (k := 56) (m := 1) (TC.oneR cBx h1) ⟨rfl, by simp [h2.one]⟩
  have hkl := h3.len
  rw [zl5] at hsz
  have hlen := zyi (l := ks)
  have h2' := h2.le hle
  have hck : (r1 ++ [kv])[56]? = some kv := by rw [List.getElem?_append_right (by have := (TC.oneR cBx h1).1; exact Nat.le_of_eq this),(TC.oneR cBx h1).1]; rfl
  show Calls _ _ (List.toArray [.agg (r1 ++ [kv]).toArray, .pointer (some ⟨bY,0, none⟩), .pointer (some ⟨bW,0, none⟩)]) _ _
  refine enter Tryz.func47 rfl Tryz.ntmps47 (by simp) hC fun a hs => ?_
  refine zb0 fun K1 hK1 => ?_
  refine za2 ?_
  refine sbox (cs := (r1 ++ [kv]).toArray) hs rfl fun b3 a w hs => ?_
  replace hs : St 23 w0 f' ((.blk b3 (.cells (r1 ++ [kv]).toArray 31 (0,0)) :: T) ++ L) _ a w := hs
  refine sy hs (zas rfl) fun a w hs => ?_
  refine zab ?_
  refine hK1 _ _ ?_; clear hK1
  refine zb0 fun K2 hK2 => ?_
  refine zb0 fun K3 hK3 => ?_
  refine za2 ?_
  refine sy hs (y_ld (u := .func (.yield l) #[] #[]) rfl Tryz.underlying66 rfl (Cell.fz hbY rfl)) fun a w hs => ?_
  refine sy hs (zwn (cs := (r1 ++ [kv]).toArray) rfl Tryz.underlying31 rfl ti31 (.head _) (by simpa using hr.1)) fun a w hs => ?_
  refine yhy (ents := .blk b3 (.cells (r1 ++ [kv]).toArray 31 (0,0)) :: T) (y := (r1 ++ [kv], Tr.mk x ks)) hY (.refl _) hs rfl rfl hJ ?_; clear hs hJ; (try clear a w); intro v L a w hv hs
  by_cases hvt : v = .bool true
  · have hJ : J (ys ++ rem) L := hv.elim (fun h => h.2) (fun h => by rw [hvt] at h; cases h.1)
    subst hvt
    clear hv
    refine sy hs (zyf (b := true) rfl) fun a w hs => ?_
    refine zab ?_
    refine hK3 _ _ ?_; clear hK3
    refine ya8 hs rfl ?_
    refine zgf ?_
    refine hK2 _ _ ?_; clear hK2
    refine zb0 fun K4 hK4 => ?_
    refine zb0 fun K5 hK5 => ?_
    refine za2 ?_
    refine sy hs (zar rfl (FO.of (off := 56) Tryz.underlying31 rfl rfl ti29 (by decide))) fun a w hs => ?_
    refine sy hs (y_ld (u := kv) rfl Tryz.underlying29 rfl (Cell.blk (.head _) (by simpa using hck))) fun a w hs => ?_
    refine sy hs (zk4 h2' rfl Tryz.underlying29) fun a w hs => ?_
    refine sy hs (zat rfl) fun a w hs => ?_
    refine zab ?_
    refine hK5 _ _ ?_; clear hK5
    refine zm2 fun Qe6 hB6 hO6 => ?_
    refine ye3 (fun (j : Nat) a w => ∃ zs Lj, j ≤ ks.length ∧ ARL f (ks.drop j) (rows.drop j) zs ∧ J (zs ++ rem) Lj ∧ St 23 w0 f' (.blk b3 (.cells (r1 ++ [kv]).toArray 31 (0,0)) :: (T ++ Lj)) [(2, .pointer (some ⟨bW,0, none⟩)),(12, kv),(13, .int .i64 rows.length),(14, .int .i64 (j : Int))] a w) (fun j => ks.length - j) 0 ⟨ys, L, Nat.zero_le _, h3, hJ, hs.sub ⟨rfl, rfl, rfl, rfl, trivial⟩⟩ ?_
    clear hs; rintro j a w ⟨zs, Lj, hj, hz, hJ, hs⟩ K hK
    refine zb0 fun K7 hK7 => ?_
    refine za2 ?_
    refine sy hs (yem rfl rfl) fun a w hs => ?_
    refine zab ?_
    refine hK7 _ _ ?_; clear hK7
    refine zb0 fun K8 hK8 => ?_
    first | refine zrv hs rfl (fun hlt => ?_) (fun hlt => ?_) | refine zl3 hs rfl (fun hlt => ?_) (fun hlt => ?_)
    · obtain ⟨y, hy⟩ : ∃ y, ks[j]? = some y := ⟨_, List.getElem?_eq_getElem (by omega)⟩
      have hmx : rows.length ≤ 9223372036854775807 ∨ True := .inr trivial
      rw [List.drop_eq_getElem_cons (by omega)] at hz
      unfold ARL at hz
      obtain ⟨r, rs, y1, y2, hrs, rfl, hz1, hz2⟩ := hz
      rw [List.drop_eq_getElem_cons (by omega)] at hrs
      obtain ⟨rfl, rfl⟩ := List.cons.inj hrs
      have hyr : rows[j]? = some rows[j] := List.getElem?_eq_getElem (by omega)
      have hr' : OneRow 57 rows[j] := h2.len _ (List.getElem_mem _)
      refine zgf ?_
      refine hK8 _ _ ?_; clear hK8
      refine zb0 fun K9 hK9 => ?_
      refine zm2 fun Qe10 hB10 hO10 => ?_
      refine zb0 fun K11 hK11 => ?_
      refine za2 ?_
      refine sy hs (zc0 h2' rfl rfl rfl (by omega) Tryz.underlying29 ti31) fun a w hs => ?_
      refine sy hs (ybx rfl Tryz.underlying31 rfl ti31 h2'.up hyr) fun a w hs => ?_
      refine zbz hs ti31 (.free rfl) (by decide) fun b6 a w hs => ?_
      refine zbt (i := 0) hs rfl rfl rfl ti31 ⟨rfl, by simpa using hr'.1⟩ (zic hr') (.free rfl) fun a w hs => ?_
      replace hs : St 23 w0 f' ((.blk b6 (.cells rows[j].toArray 31 (0,0)) :: .blk b3 (.cells (r1 ++ [kv]).toArray 31 (0,0)) :: T) ++ Lj) _ a w := hs
      refine zab ?_
      refine hK11 _ _ ?_; clear hK11
      refine zb0 fun K12 hK12 => ?_
      refine za2 ?_
      refine sy hs (y_ld (u := .func (.func 47) #[] #[.pointer (some ⟨bY,0, none⟩), .pointer (some ⟨bW,0, none⟩)]) rfl Tryz.underlying66 rfl (Cell.fz hbW rfl)) fun a w hs => ?_
      refine sy hs (zwn (cs := rows[j].toArray) rfl Tryz.underlying31 rfl ti31 (.head _) (by simpa using hr'.1)) fun a w hs => ?_
      refine yek (R := fun v L' => ∃ L1, L' = (.blk b6 (.cells rows[j].toArray 31 (0,0)) :: .blk b3 (.cells (r1 ++ [kv]).toArray 31 (0,0)) :: T) ++ L1 ∧ ((v = .bool true ∧ J (y2 ++ rem) L1) ∨ (v = .bool false ∧ Jx L1))) hs rfl has47 rfl (fun w hw => (ih ks[j] (List.getElem_mem _) (by have := yfm hy; have e : ks[j] = y := (List.getElem?_eq_some_iff.1 hy).2; rw [e]; omega) f f' l bY bW rows[j] y1 hz1 hle hbY hbW w0 J Jx hY (y2 ++ rem) Lj _ w hw (by rw [List.append_assoc] at hJ; exact hJ)).mono fun e w' ⟨L', q1, q2⟩ => q2.elim (fun q => ⟨_, _, q.1, q1, L', rfl, .inl ⟨rfl, q.2⟩⟩) (fun q => ⟨_, _, q.1, q1, L', rfl, .inr ⟨rfl, q.2⟩⟩)) (.free rfl) (by decide) ?_; clear hs hJ; (try clear a w)
      rintro v _ a w ⟨L1, rfl, hv⟩ hs
      by_cases hvt : v = .bool true
      · have hJ : J (y2 ++ rem) L1 := hv.elim (fun h => h.2) (fun h => by rw [hvt] at h; cases h.1)
        subst hvt
        clear hv
        refine sy hs (zyf (b := true) rfl) fun a w hs => ?_
        refine zab ?_
        refine hK12 _ _ ?_; clear hK12
        refine ya8 hs rfl ?_
        refine zgf ?_
        refine hK9 _ _ ?_; clear hK9
        refine za2 ?_
        refine sy hs (zvb rfl rfl (yd5 (by omega))) fun a w hs => ?_
        refine sy hs (zat rfl) fun a w hs => ?_
        refine zab ?_
        exact hK (j + 1) _ _ (by omega) ⟨y2, L1, by omega, hz2, hJ, hs.tail.sub ⟨rfl, rfl, rfl, rfl, trivial⟩⟩
      · have hX : v = .bool false ∧ Jx L1 := hv.resolve_left fun h => hvt h.1
        obtain ⟨rfl, hX⟩ := hX
        clear hv hvt
        refine sy hs (zyf (b := false) rfl) fun a w hs => ?_
        refine zab ?_
        refine hK12 _ _ ?_; clear hK12
        refine ya7 hs rfl ?_
        refine zb0 fun K13 hK13 => ?_
        refine za2 ?_
        refine sy hs (zas rfl) fun a w hs => ?_
        refine zab ?_
        refine hK13 _ _ ?_; clear hK13
        refine znp ?_
        refine Rt_1 hs rfl rfl ?_
        exact ⟨L1, hs.cw.tail.tail, .inr ⟨rfl, hX⟩⟩
    · refine zuw ?_
      refine hB6 _ _ ?_
      refine hK4 _ _ ?_; clear hK4
      refine zb0 fun K14 hK14 => ?_
      refine za2 ?_
      refine sy hs (zas rfl) fun a w hs => ?_
      refine zab ?_
      refine hK14 _ _ ?_; clear hK14
      refine znp ?_
      refine Rt_1 hs rfl rfl ?_
      rw [List.drop_eq_nil_of_le (by omega)] at hz
      unfold ARL at hz
      obtain ⟨_, rfl⟩ := hz
      exact ⟨Lj, hs.cw.tail, .inl ⟨rfl, hJ⟩⟩
  · have hX : v = .bool false ∧ Jx L := hv.resolve_left fun h => hvt h.1
    obtain ⟨rfl, hX⟩ := hX
    clear hv hvt
    refine sy hs (zyf (b := false) rfl) fun a w hs => ?_
    refine zab ?_
    refine hK3 _ _ ?_; clear hK3
    refine ya7 hs rfl ?_
    refine zb0 fun K15 hK15 => ?_
    refine za2 ?_
    refine sy hs (zas rfl) fun a w hs => ?_
    refine zab ?_
    refine hK15 _ _ ?_; clear hK15
    refine znp ?_
    refine Rt_1 hs rfl rfl ?_
    exact ⟨L, hs.cw.tail, .inr ⟨rfl, hX⟩⟩
mutual
theorem yfj : ∀ b, WalkOK b
  | .mk _ ks => yfi (yd6 ks)
theorem yd6 : ∀ (ks : List BoxT), ∀ b ∈ ks, WalkOK b
  | [], _, h => by simp at h
  | b :: bs, x, h => by
    rcases List.mem_cons.1 h with h | h
    · rw [h]; exact yfj b
    · exact yd6 bs x h
end
set_option maxRecDepth 20000 in
theorem iter_ok {f : Fz} {b : BoxT} {r : List Value} {xs : List (List Value × BoxT)} {b1 : Nat} (hA : AR f b r xs) (hsz : szT b ≤ 1000000000) (hr : OneRow 57 r) (hb : f b1 = some (.cells r.toArray 31 (0,0))) : Iter Tryz.prog 46 [.pointer (some ⟨b1,0, none⟩)] f xs encB := by
  intro l w0 f' J Jx L w hle hC hJ hY
  show Calls _ _ (List.toArray [.func (.yield l) #[] #[], .pointer (some ⟨b1,0, none⟩)]) _ _
  refine enter Tryz.func46 rfl Tryz.ntmps46 (by simp) hC fun a hs => ?_
  refine zb0 fun K1 hK1 => ?_
  refine za2 ?_
  refine sbox1 hs rfl rfl fun b2 a w hs => ?_
  refine zab ?_
  refine hK1 _ _ ?_; clear hK1
  refine zb0 fun K2 hK2 => ?_
  refine za2 ?_
  refine zbz hs ti66 (.free rfl) (by decide) fun b3 a w hs => ?_
  refine zab ?_
  refine hK2 _ _ ?_; clear hK2
  refine zb0 fun K3 hK3 => ?_
  refine za2 ?_
  refine sy hs (zm4 rfl) fun a w hs => ?_
  refine sstore 0 hs rfl rfl rfl ti66 rfl ?_ (by decide); clear hs; (try clear a w); intro a w hs
  replace hs : St _ _ _ (.blk b3 (.cells #[.func (.func 47) #[] #[.pointer (some ⟨b2,0, none⟩), .pointer (some ⟨b3,0, none⟩)]] 66 (0,0)) :: .blk b2 (.cells #[.func (.yield l) #[] #[]] 66 (0,0)) :: L) _ _ _ := hs
  obtain ⟨f1, hf1, hs, h3⟩ := hs.frzB 0 rfl
  obtain ⟨f2, hf2, hs, h2⟩ := St.frzB 0 hs rfl
  have h3 := hf2 _ _ h3
  have hb := (hle.trans (hf1.trans hf2)) _ _ hb
  replace hs : St 8 w0 f2 L _ a w := hs
  refine zab ?_
  refine hK3 _ _ ?_; clear hK3
  refine za2 ?_
  refine sy hs (y_ld (u := .func (.func 47) #[] #[.pointer (some ⟨b2,0, none⟩), .pointer (some ⟨b3,0, none⟩)]) rfl Tryz.underlying66 rfl (Cell.fz h3 rfl)) fun a w hs => ?_
  refine sy hs (y_ldF (cs := r.toArray) rfl Tryz.underlying31 rfl ti31 hb (by simpa using hr.1)) fun a w hs => ?_
  refine yek (R := fun v L' => J [] L' ∨ Jx L') hs rfl has47 rfl (fun w hw => (yfj b hsz f f2 l b2 b3 r xs hA (hle.trans (hf1.trans hf2)) h2 h3 w0 J Jx (fun x rem L T f'' w h => hY x rem L T f'' w ((hf1.trans hf2).trans h)) [] L [] w hw (by rw [List.append_nil]; exact hJ)).mono fun e w' ⟨L', q1, q2⟩ => q2.elim (fun q => ⟨_, L', q.1, q1, .inl q.2⟩) (fun q => ⟨_, L', q.1, q1, .inr q.2⟩)) (.free rfl) (by decide) ?_; clear hs hJ; (try clear a w)
  rintro v L' a w hJ hs
  refine zab ?_
  refine Rt_0 hs rfl ?_
  exact ⟨_, L', rfl,(hs.weak (hf1.trans hf2)).cw, hJ⟩
theorem All_ok {f : Fz} {r : List Value} (hr : OneRow 57 r) : Does Tryz.prog 23 [.agg r.toArray] f [] (fun u f' L' => ∃ b1, u = .func (.func 46) #[] #[.pointer (some ⟨b1,0, none⟩)] ∧ f' b1 = some (.cells r.toArray 31 (0,0)) ∧ L' = []) := by
  intro w0 L w hC
  refine enter Tryz.func23 rfl Tryz.ntmps23 (by simp) hC fun a hs => ?_
  refine zb0 fun K1 hK1 => ?_
  refine za2 ?_
  refine sbox (cs := r.toArray) hs rfl fun b1 a w hs => ?_
  refine sy hs (zas rfl) fun a w hs => ?_
  refine zab ?_
  refine hK1 _ _ ?_; clear hK1
  refine zb0 fun K2 hK2 => ?_
  refine za2 ?_
  refine sy hs (zm4 rfl) fun a w hs => ?_
  refine sy hs (zas rfl) fun a w hs => ?_
  refine zab ?_
  refine hK2 _ _ ?_; clear hK2
  refine znp ?_
  refine Rt_1 hs rfl rfl ?_
  obtain ⟨f1, hf1, hs, h1⟩ := hs.frzB 0 rfl
  exact ⟨_, f1,[], rfl, hf1, hs.cw, b1, rfl, h1, rfl⟩
end
end Go.Proofs.YteicdfkmpnmkmaaGreat
