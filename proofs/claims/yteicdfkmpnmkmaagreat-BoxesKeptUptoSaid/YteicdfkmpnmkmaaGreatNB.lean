/-
  Walks and laws of this seat.
-/
import Derived.Test.YteicdfkmpnmkmaaGreatNa
import Derived.Test.YteicdfkmpnmkmaaGreatBash
import Derived.Test.YteicdfkmpnmkmaaGreatK1
import Derived.Test.YteicdfkmpnmkmaaGreatM3
import Derived.Test.YteicdfkmpnmkmaaGreatRows
namespace Go.Proofs.YteicdfkmpnmkmaaGreat
set_option linter.unusedVariables false
set_option linter.unusedSimpArgs false
set_option linter.unusedSectionVars false
open Go.RowKit Go.Sl Go.V
theorem zdp {l l' : List Ent} (h : ∀ [BEq Ent] [LawfulBEq Ent] (a : Ent), l.count a = l'.count a) : l.Perm l' := by
  classical
  letI : BEq Ent := instBEqOfDecidableEq
  exact List.perm_iff_count.2 fun a => h a
theorem stPm {n : Nat} {w0 w : World} {f : Fz} {L L' : List Ent} {E : List (Nat × Value)} {a : Act} (hs : St n w0 f L E a w) (hp : L.Perm L') : St n w0 f L' E a w := ⟨hs.ev, hs.cw.perm hp⟩
theorem zjl {k : Nat} {r : List Value} (h : OneRow k r) : r.toArray.all (·.oneCell') = true := by
  rw [← Array.all_toList, List.all_eq_true]
  exact fun x hx => h.2 x (by simpa using hx)
abbrev cBx : TC := .st (.cons (.int .i64) (.cons (.int .i64) (.cons (.int .i64) (.cons cStyT (.cons .str .nil)))))
theorem bxR [F0] {f : Fz} {r1 : List Value} {x : cBx.T} (h : cBx.R f r1 x) : ∃ rest, r1 = .int .i64 x.1 :: .int .i64 x.2.1 :: .int .i64 x.2.2.1 :: rest ∧ rest.length = 53 ∧ ∀ m, cBx.R f (.int .i64 x.1 :: .int .i64 x.2.1 :: .int .i64 m :: rest) (x.1, x.2.1, m, x.2.2.2) := by
  obtain ⟨_, _, rfl, rfl, _, _, rfl, rfl, _, r4, rfl, rfl, h4⟩ := h
  refine ⟨r4, rfl,(TL.oneR _ h4).1, fun m => ⟨[_], _, rfl, rfl,[_], _, rfl, rfl,[_], _, rfl, rfl, h4⟩⟩
theorem cellK {a b c kv : Value} {rest : List Value} (h : rest.length = 53) : (a :: b :: c :: (rest ++ [kv]))[56]? = some kv := by
  simp [h]
theorem rdK {f : Fz} {L : List Ent} {kv kv' : Value} {k : Nat} {rows : List (List Value)} (h : kv' = kv ∨ rows = [] ∧ kv' = .slice none 0 0 ∧ ∃ ao cap, kv = .slice ao 0 cap) (hR : Rd f L kv' k rows) : Rd f L kv k rows := by
  rcases h with rfl | ⟨rfl, rfl, ao, cap, rfl⟩
  · exact hR
  · exact ⟨by simp, ao, cap, rfl, Nat.zero_le _, fun _ => rfl, fun _ _ => ⟨fun h => absurd rfl h, by simp⟩⟩
theorem rowMax {n : Nat} {w0 w : World} {f : Fz} {L : List Ent} {E : List (Nat × Value)} {a : Act} {v : Value} {e k} {rows : List (List Value)} (hs : St n w0 f L E a w) (hm : .row v e k rows ∈ L) : rows.length ≤ 9223372036854775807 := by
  obtain ⟨⟨_, h⟩, _⟩ := hs.cw.live _ hm
  rcases h with ⟨_, h⟩ | ⟨_, cap, _, _, _, _, h1, h2, _⟩
  · omega
  · simp only [maxLen] at h2; omega
variable [F0]
def NumOK (c1 c2 : Nat) (b : BoxT) : Prop := ∀ (f : Fz) (n : Int) (v : Value) (ev : TypeId) (rows : List (List Value)) (i : Nat) (r : List Value) (X : List Ent), f c2 = some (.cells #[.func (.func 36) #[] #[.pointer (some ⟨c1,0, none⟩), .pointer (some ⟨c2,0, none⟩)]] 81 (0,0)) → rows[i]? = some r → OT cBx f b r X →
  Does Tryz.prog 36 [eaddr v 57 i 0, .pointer (some ⟨c1,0, none⟩), .pointer (some ⟨c2,0, none⟩)] f (.blk c1 (.cells #[.int .i64 n] 3 (0,0)) :: .row v ev 57 rows :: X)
    (fun _ f' L' => f' = f ∧ ∃ r' X', OT cBx f (numB b n).1 r' X' ∧ L' = .blk c1 (.cells #[.int .i64 (numB b n).2] 3 (0,0)) :: .row v ev 57 (rows.set i r') :: X')
theorem pmM {x y z : Ent} {A B T : List Ent} {X1 : List Ent} : (x :: y :: z :: (A ++ ((X1 ++ B) ++ T))).Perm ((x :: z :: X1) ++ (y :: (A ++ (B ++ T)))) :=
  zdp fun a => by simp only [List.count_append, List.count_cons, List.cons_append]; omega
theorem pmT {y z : Ent} {A B T X1 : List Ent} : (y :: z :: (A ++ ((X1 ++ B) ++ T))).Perm ((z :: X1) ++ (y :: (A ++ (B ++ T)))) :=
  zdp fun a => by simp only [List.count_append, List.count_cons, List.cons_append]; omega
section
variable {c : TC} {f : Fz}
theorem OTL.len : ∀ {bs : List (Tr c.T)} {rows : List (List Value)} {X : List Ent}, OTL c f bs rows X → rows.length = bs.length
  | [], _, _, h => by unfold OTL at h; rw [h.1]; rfl
  | b :: bs, _, _, h => by
    unfold OTL at h
    obtain ⟨r, rs, X1, X2, rfl, _, _, h⟩ := h
    rw [List.length_cons, List.length_cons, OTL.len h]
theorem OTL.append : ∀ {bs cs : List (Tr c.T)} {rows rows2 : List (List Value)} {X X2 : List Ent}, OTL c f bs rows X → OTL c f cs rows2 X2 → OTL c f (bs ++ cs) (rows ++ rows2) (X ++ X2)
  | [], _, _, _, _, _, h, h2 => by unfold OTL at h; rw [h.1, h.2]; exact h2
  | b :: bs, _, _, _, _, _, h, h2 => by
    unfold OTL at h
    obtain ⟨r, rs, X1, X3, rfl, rfl, h1, h⟩ := h
    rw [List.cons_append]
    unfold OTL
    exact ⟨r, rs ++ _, X1, X3 ++ _, rfl, by rw [List.append_assoc], h1, OTL.append h h2⟩
theorem OTL.one {b : Tr c.T} {r : List Value} {X : List Ent} (h : OT c f b r X) : OTL c f [b] [r] X := by
  unfold OTL
  exact ⟨r,[], X,[], rfl, by simp, h, by unfold OTL; exact ⟨rfl, rfl⟩⟩
theorem OTL.nil : OTL c f [] [] [] := by unfold OTL; exact ⟨rfl, rfl⟩
end
structure NumI (f : Fz) (ks : List BoxT) (n0 : Int) (j : Nat) (cnt : Int) (krows : List (List Value)) (XA XB : List Ent) : Prop where
  hj : j ≤ ks.length
  ex : ∃ D ra rb, krows = ra ++ rb ∧ ra.length = j ∧ D.length = j ∧ OTL cBx f D ra XA ∧ OTL cBx f (ks.drop j) rb XB ∧ numL ks n0 = (D ++ (numL (ks.drop j) cnt).1,(numL (ks.drop j) cnt).2)
section
variable {f : Fz} {ks : List BoxT} {n0 : Int} {j : Nat} {cnt : Int} {krows : List (List Value)} {XA XB : List Ent}
theorem NumI.len (h : NumI f ks n0 j cnt krows XA XB) : krows.length = ks.length := by
  obtain ⟨D, ra, rb, h1, h2, h3, h4, h5, h6⟩ := h.ex
  have := OTL.len h5
  have := h.hj
  rw [h1, List.length_append, h2, OTL.len h5, List.length_drop]; omega
theorem NumI.next (h : NumI f ks n0 j cnt krows XA XB) (hj : j < ks.length) : ∃ x r X1 X2, ks[j]? = some x ∧ krows[j]? = some r ∧ XB = X1 ++ X2 ∧ OT cBx f x r X1 ∧ ∀ r' X', OT cBx f (numB x cnt).1 r' X' → NumI f ks n0 (j + 1) (numB x cnt).2 (krows.set j r') (XA ++ X') X2 := by
  obtain ⟨D, ra, rb, rfl, h2, h3, h4, h5, h6⟩ := h.ex
  rw [List.drop_eq_getElem_cons hj] at h5
  unfold OTL at h5
  obtain ⟨r, rs, X1, X2, rfl, rfl, h7, h8⟩ := h5
  refine ⟨ks[j], r, X1, X2, List.getElem?_eq_getElem hj, by rw [← h2]; simp, rfl, h7, fun r' X' hB => ⟨hj, D ++ [(numB ks[j] cnt).1], ra ++ [r'], rs, ?_, by simp [h2], by simp [h3], OTL.append h4 (OTL.one hB), h8, ?_⟩⟩
  · rw [← h2, List.set_append_right _ _ (Nat.le_refl _)]; simp
  · rw [h6, List.drop_eq_getElem_cons hj, zp9]; simp
end
set_option maxRecDepth 20000 in
set_option maxHeartbeats 8000000 in
theorem yby {c1 c2 : Nat} {x : cBx.T} {ks : List BoxT} (ih : ∀ b ∈ ks, NumOK c1 c2 b) : NumOK c1 c2 (.mk x ks) := by
  intro f n v ev rows i r X hc2 hr hB w0 L w hC
  unfold OT at hB
  obtain ⟨r1, kv, kv', e', krows, X, rfl, hx1, hkv, rfl, hO⟩ := hB
  obtain ⟨rest, rfl, hrl, hxm⟩ := bxR hx1
  have hi : i < rows.length := (List.getElem?_eq_some_iff.1 hr).1
  have hkl := OTL.len hO
  rw [List.cons_append, List.cons_append, List.cons_append] at hC
  replace hr : rows[i]? = some (.int .i64 x.1 :: .int .i64 x.2.1 :: .int .i64 x.2.2.1 :: (rest ++ [kv])) := hr
  refine enter Tryz.func36 rfl Tryz.ntmps36 (by simp) hC fun a hs => ?_
  refine zbc fun K1 hK1 => ?_
  refine zad ?_
  refine sy hs (zat rfl) fun a w hs => ?_
  refine sy hs (y_ld (u := .int .i64 n) rfl Tryz.underlying3 rfl) fun a w hs => ?_
  refine sy hs (zxa rfl (Rd.st hs (.tail _ (.head _))) hi) fun a w hs => ?_
  refine sy hs (zzv rfl (FO.of (off := 2) Tryz.underlying31 rfl rfl ti3 (by decide)) (Rd.st hs (.tail _ (.head _))) hi) fun a w hs => ?_
  refine zrx (i := 1) (m := i) (j := 2) hs rfl rfl rfl hr (by decide) ti3 rfl (.free rfl) fun a w hs => ?_
  replace hs : St 28 w0 f (.blk c1 (.cells #[.int .i64 n] 3 (0,0)) :: .row v ev 57 (rows.set i (.int .i64 x.1 :: .int .i64 x.2.1 :: .int .i64 n :: (rest ++ [kv]))) :: .row kv' e' 57 krows :: (X ++ L)) _ a w := hs
  have hr2 : (rows.set i (.int .i64 x.1 :: .int .i64 x.2.1 :: .int .i64 n :: (rest ++ [kv])))[i]? = some (.int .i64 x.1 :: .int .i64 x.2.1 :: .int .i64 n :: (rest ++ [kv])) := by simp [hi]
  have hi2 : i < (rows.set i (.int .i64 x.1 :: .int .i64 x.2.1 :: .int .i64 n :: (rest ++ [kv]))).length := by simpa using hi
  refine zah ?_
  refine hK1 _ _ ?_; clear hK1
  refine zbc fun K2 hK2 => ?_
  refine zad ?_
  refine sy hs (y_ld (u := .int .i64 n) rfl Tryz.underlying3 rfl) fun a w hs => ?_
  refine sy hs (zzx (m := w64 (n + 1)) rfl rfl rfl) fun a w hs => ?_
  refine sstore 0 hs rfl rfl rfl ti3 rfl fun a w hs => ?_
  replace hs : St 28 w0 f (.blk c1 (.cells #[.int .i64 (w64 (n + 1))] 3 (0,0)) :: .row v ev 57 (rows.set i (.int .i64 x.1 :: .int .i64 x.2.1 :: .int .i64 n :: (rest ++ [kv]))) :: .row kv' e' 57 krows :: (X ++ L)) _ a w := hs
  refine zah ?_
  refine hK2 _ _ ?_; clear hK2
  refine zbc fun K3 hK3 => ?_
  refine zad ?_
  refine sy hs (zat rfl) fun a w hs => ?_
  refine sy hs (zxa rfl (Rd.st hs (.tail _ (.head _))) hi2) fun a w hs => ?_
  refine sy hs (zzv rfl (FO.of (off := 56) Tryz.underlying31 rfl rfl ti29 (by decide)) (Rd.st hs (.tail _ (.head _))) hi2) fun a w hs => ?_
  refine sy hs (zv4 (u := kv) (Rd.st hs (.tail _ (.head _))) rfl hr2 (cellK hrl) Tryz.underlying29 rfl) fun a w hs => ?_
  refine sy hs (zmw (rdK hkv (Rd.st hs (.tail _ (.tail _ (.head _))))) rfl Tryz.underlying29) fun a w hs => ?_
  refine sy hs (zat rfl) fun a w hs => ?_
  refine zah ?_
  refine hK3 _ _ ?_; clear hK3
  refine znp fun Qe4 hB4 hO4 => ?_
  refine ydm (fun (j : Nat) a w => ∃ cnt krj XA XB, NumI f ks (w64 (n + 1)) j cnt krj XA XB ∧ St 28 w0 f (.blk c1 (.cells #[.int .i64 cnt] 3 (0,0)) :: .row v ev 57 (rows.set i (.int .i64 x.1 :: .int .i64 x.2.1 :: .int .i64 n :: (rest ++ [kv]))) :: .row kv' e' 57 krj :: (XA ++ (XB ++ L))) [(0, eaddr v 57 i 0),(1, .pointer (some ⟨c1,0, none⟩)),(2, .pointer (some ⟨c2,0, none⟩)),(15, .int .i64 krows.length),(16, .int .i64 (j : Int))] a w) (fun j => ks.length - j) 0 ⟨w64 (n + 1), krows,[], X, ⟨by omega,[],[], krows, rfl, rfl, rfl, OTL.nil, hO, rfl⟩, hs.sub ⟨rfl, rfl, rfl, rfl, rfl, trivial⟩⟩ ?_
  clear hs; rintro j a w ⟨cnt, krj, XA, XB, hI, hs⟩ K hK
  have hjl := hI.len
  refine zbc fun K5 hK5 => ?_
  refine zad ?_
  refine sy hs (yex rfl rfl) fun a w hs => ?_
  refine zah ?_
  refine hK5 _ _ ?_; clear hK5
  refine zbc fun K6 hK6 => ?_
  first | refine zrw hs rfl (fun hlt => ?_) (fun hlt => ?_) | refine zm3 hs rfl (fun hlt => ?_) (fun hlt => ?_)
  · obtain ⟨y, r, X1, X2, hy, hyr, rfl, hB, hnext⟩ := hI.next (by omega)
    obtain rfl : kv' = kv := hkv.elim id fun h => by
      have h0 : krows.length = 0 := by rw [h.1]; rfl
      omega
    have hRv := Rd.st (hs.subL (L' := .row v ev 57 (rows.set i (.int .i64 x.1 :: .int .i64 x.2.1 :: .int .i64 n :: (rest ++ [kv']))) :: []) (.cons _ (.cons_cons _ (List.nil_sublist _)))) (.head _)
    have hRk := Rd.st hs (.tail _ (.tail _ (.head _)))
    have hmx := rowMax hs (.tail _ (.tail _ (.head _)))
    refine zo3 ?_
    refine hK6 _ _ ?_; clear hK6
    refine zbc fun K7 hK7 => ?_
    refine znp fun Qe8 hB8 hO8 => ?_
    refine zbc fun K9 hK9 => ?_
    refine zad ?_
    refine sy hs (zat rfl) fun a w hs => ?_
    refine sy hs (zas rfl) fun a w hs => ?_
    refine zah ?_
    refine hK9 _ _ ?_; clear hK9
    refine D_start hs (.row v ev 57 (rows.set i (.int .i64 x.1 :: .int .i64 x.2.1 :: .int .i64 n :: (rest ++ [kv']))) :: []) [7] [(0, true),(1, true),(2, true),(3, true),(4, true),(5, true),(6, true),(7, false)] mixed (by kernel_rfl) fun a he => ?_
    refine dy 0 he rfl (y_ld (u := .func (.func 36) #[] #[.pointer (some ⟨c1,0, none⟩), .pointer (some ⟨c2,0, none⟩)]) rfl Tryz.underlying81 rfl (Cell.fz hc2 rfl)) ?_; clear he; (try clear a); intro a he
    refine dy 1 he rfl (zat rfl) ?_; clear he; (try clear a); intro a he
    refine dy 2 he rfl (zxa rfl hRv hi2) ?_; clear he; (try clear a); intro a he
    refine dy 3 he rfl (zzv rfl (FO.of (off := 56) Tryz.underlying31 rfl rfl ti29 (by decide)) hRv hi2) ?_; clear he; (try clear a); intro a he
    refine dy 4 he rfl (zv4 (u := kv') hRv rfl hr2 (cellK hrl) Tryz.underlying29 rfl) ?_; clear he; (try clear a); intro a he
    refine dy 5 he rfl (zat rfl) ?_; clear he; (try clear a); intro a he
    refine dy 6 he rfl (zds hRk rfl rfl rfl (by omega) Tryz.underlying29 ti31) ?_; clear he; (try clear a); intro a he
    refine D_eff (i := 7) rfl he ?_; clear he; (try clear a); intro a w hs
    refine zmf (stPm hs pmM) rfl has36 rfl rfl (ih y (List.mem_of_getElem? hy) f cnt kv' e' krj j r X1 hc2 hyr hB) (.free rfl) (by decide) ?_; clear hs; (try clear a w)
    rintro _ _ _ a w _ ⟨rfl, r', X', hB', rfl⟩ hs
    replace hs := stPm hs pmM.symm
    refine dend hs fun a he => ?_
    refine D_nil he ?_; clear he; (try clear a); intro w hs
    refine hK7 _ _ ?_; clear hK7
    refine zad ?_
    refine sy hs (zzx rfl rfl (yco (by omega))) fun a w hs => ?_
    refine sy hs (zat rfl) fun a w hs => ?_
    refine zah ?_
    exact hK (j + 1) _ _ (by omega) ⟨_, _, _, _, hnext r' X' hB', by simp only [List.append_assoc]; simp only [List.append_assoc] at hs; exact hs.sub ⟨rfl, rfl, rfl, rfl, rfl, trivial⟩⟩
  · refine ybb ?_
    refine hB4 _ _ ?_
    refine Rt_0 hs rfl ?_
    obtain ⟨D, ra, rb, rfl, h2, h3, h4, h5, h6⟩ := hI.ex
    rw [List.drop_eq_nil_of_le (by omega)] at h5 h6
    unfold OTL at h5
    obtain ⟨rfl, rfl⟩ := h5
    rw [zpz, List.append_nil] at h6
    refine ⟨_, _, .blk c1 (.cells #[.int .i64 cnt] 3 (0,0)) :: .row v ev 57 (rows.set i (.int .i64 x.1 :: .int .i64 x.2.1 :: .int .i64 n :: (rest ++ [kv]))) :: .row kv' e' 57 (ra ++ []) :: XA, rfl, .refl _, hs.cw, rfl,(.int .i64 x.1 :: .int .i64 x.2.1 :: .int .i64 n :: (rest ++ [kv])), .row kv' e' 57 (ra ++ []) :: XA, ?_, ?_⟩
    · rw [zrl, h6]
      unfold OT
      exact ⟨_, kv, kv', e', ra ++ [], XA, rfl, hxm n, hkv.imp_right fun h => ⟨List.eq_nil_of_length_eq_zero (by rw [hjl, ← hkl, h.1]; rfl), h.2⟩, rfl, by rw [List.append_nil]; exact h4⟩
    · rw [zrl, h6]
mutual
theorem yal {c1 c2 : Nat} : ∀ b, NumOK c1 c2 b
  | .mk _ ks => yby (zxn ks)
theorem zxn {c1 c2 : Nat} : ∀ (ks : List BoxT), ∀ b ∈ ks, NumOK c1 c2 b
  | [], _, h => by simp at h
  | b :: bs, x, h => by
    rcases List.mem_cons.1 h with h | h
    · rw [h]; exact yal b
    · exact zxn bs x h
end
def Num2OK (b : BoxT) : Prop := ∀ (f : Fz) (n : Int) (v : Value) (ev : TypeId) (rows : List (List Value)) (i : Nat) (r : List Value) (X : List Ent), rows[i]? = some r → OT cBx f b r X →
  Does Tryz.prog 40 [eaddr v 57 i 0, .int .i64 n] f (.row v ev 57 rows :: X) (fun u f' L' => f' = f ∧ u = .int .i64 (numB b n).2 ∧ ∃ r' X', OT cBx f (numB b n).1 r' X' ∧ L' = .row v ev 57 (rows.set i r') :: X')
set_option maxRecDepth 20000 in
set_option maxHeartbeats 8000000 in
theorem yam {x : cBx.T} {ks : List BoxT} (ih : ∀ b ∈ ks, Num2OK b) : Num2OK (.mk x ks) := by
  intro f n v ev rows i r X hr hB w0 L w hC
  unfold OT at hB
  obtain ⟨r1, kv, kv', e', krows, X, rfl, hx1, hkv, rfl, hO⟩ := hB
  obtain ⟨rest, rfl, hrl, hxm⟩ := bxR hx1
  have hi : i < rows.length := (List.getElem?_eq_some_iff.1 hr).1
  have hkl := OTL.len hO
  rw [List.cons_append, List.cons_append] at hC
  replace hr : rows[i]? = some (.int .i64 x.1 :: .int .i64 x.2.1 :: .int .i64 x.2.2.1 :: (rest ++ [kv])) := hr
  refine enter Tryz.func40 rfl Tryz.ntmps40 (by simp) hC fun a hs => ?_
  refine zbc fun K1 hK1 => ?_
  refine zad ?_
  refine sy hs (zas rfl) fun a w hs => ?_
  refine zah ?_
  refine hK1 _ _ ?_; clear hK1
  refine zbc fun K2 hK2 => ?_
  refine zad ?_
  refine sy hs (zat rfl) fun a w hs => ?_
  refine sy hs (zat rfl) fun a w hs => ?_
  refine sy hs (zxa rfl (Rd.st hs (.head _)) hi) fun a w hs => ?_
  refine sy hs (zzv rfl (FO.of (off := 2) Tryz.underlying44 rfl rfl ti3 (by decide)) (Rd.st hs (.head _)) hi) fun a w hs => ?_
  refine zrx (i := 0) (m := i) (j := 2) hs rfl rfl rfl hr (by decide) ti3 rfl (.free rfl) fun a w hs => ?_
  replace hs : St 30 w0 f (.row v ev 57 (rows.set i (.int .i64 x.1 :: .int .i64 x.2.1 :: .int .i64 n :: (rest ++ [kv]))) :: .row kv' e' 57 krows :: (X ++ L)) _ a w := hs
  have hr2 : (rows.set i (.int .i64 x.1 :: .int .i64 x.2.1 :: .int .i64 n :: (rest ++ [kv])))[i]? = some (.int .i64 x.1 :: .int .i64 x.2.1 :: .int .i64 n :: (rest ++ [kv])) := by simp [hi]
  have hi2 : i < (rows.set i (.int .i64 x.1 :: .int .i64 x.2.1 :: .int .i64 n :: (rest ++ [kv]))).length := by simpa using hi
  refine zah ?_
  refine hK2 _ _ ?_; clear hK2
  refine zbc fun K3 hK3 => ?_
  refine zad ?_
  refine sy hs (zat rfl) fun a w hs => ?_
  refine sy hs (zzx (m := w64 (n + 1)) rfl rfl rfl) fun a w hs => ?_
  refine sy hs (zas rfl) fun a w hs => ?_
  refine zah ?_
  refine hK3 _ _ ?_; clear hK3
  refine zbc fun K4 hK4 => ?_
  refine zbc fun K5 hK5 => ?_
  refine zad ?_
  refine sy hs (zas rfl) fun a w hs => ?_
  refine zah ?_
  refine hK5 _ _ ?_; clear hK5
  refine znp fun Qe6 hB6 hO6 => ?_
  refine ydm (fun (j : Nat) a w => ∃ cnt krj XA XB, NumI f ks (w64 (n + 1)) j cnt krj XA XB ∧ St 30 w0 f (.row v ev 57 (rows.set i (.int .i64 x.1 :: .int .i64 x.2.1 :: .int .i64 n :: (rest ++ [kv]))) :: .row kv' e' 57 krj :: (XA ++ (XB ++ L))) [(0, eaddr v 57 i 0),(1, .int .i64 cnt),(5, .int .i64 (j : Int))] a w) (fun j => ks.length - j) 0 ⟨w64 (n + 1), krows,[], X, ⟨by omega,[],[], krows, rfl, rfl, rfl, OTL.nil, hO, rfl⟩, hs.sub ⟨rfl, rfl, rfl, trivial⟩⟩ ?_
  clear hs; rintro j a w ⟨cnt, krj, XA, XB, hI, hs⟩ K hK
  have hjl := hI.len
  have hmx := rowMax hs (.tail _ (.head _))
  have hkj : kv' = kv ∨ krj = [] ∧ kv' = .slice none 0 0 ∧ ∃ ao cap, kv = .slice ao 0 cap := hkv.imp_right fun h => ⟨List.eq_nil_of_length_eq_zero (by rw [hjl, ← hkl, h.1]; rfl), h.2⟩
  refine zbc fun K7 hK7 => ?_
  refine zbc fun K8 hK8 => ?_
  refine zad ?_
  refine sy hs (zat rfl) fun a w hs => ?_
  refine sy hs (zat rfl) fun a w hs => ?_
  refine sy hs (zxa rfl (Rd.st hs (.head _)) hi2) fun a w hs => ?_
  refine sy hs (zzv rfl (FO.of (off := 56) Tryz.underlying44 rfl rfl ti42 (by decide)) (Rd.st hs (.head _)) hi2) fun a w hs => ?_
  refine sy hs (zv4 (u := kv) (Rd.st hs (.head _)) rfl hr2 (cellK hrl) Tryz.underlying42 rfl) fun a w hs => ?_
  refine sy hs (zmw (rdK hkj (Rd.st hs (.tail _ (.head _)))) rfl Tryz.underlying42) fun a w hs => ?_
  refine sy hs (yex rfl rfl) fun a w hs => ?_
  refine zah ?_
  refine hK8 _ _ ?_; clear hK8
  first | refine zrw hs rfl (fun hlt => ?_) (fun hlt => ?_) | refine zm3 hs rfl (fun hlt => ?_) (fun hlt => ?_)
  · obtain ⟨y, r, X1, X2, hy, hyr, rfl, hB, hnext⟩ := hI.next (by omega)
    obtain rfl : kv' = kv := hkv.elim id fun h => by
      have h0 : krows.length = 0 := by rw [h.1]; rfl
      omega
    have hRk := Rd.st hs (.tail _ (.head _))
    refine zo3 ?_
    refine hK7 _ _ ?_; clear hK7
    refine zbc fun K9 hK9 => ?_
    refine znp fun Qe10 hB10 hO10 => ?_
    refine zad ?_
    refine sy hs (zat rfl) fun a w hs => ?_
    refine sy hs (zxa rfl (Rd.st hs (.head _)) hi2) fun a w hs => ?_
    refine sy hs (zzv rfl (FO.of (off := 56) Tryz.underlying44 rfl rfl ti42 (by decide)) (Rd.st hs (.head _)) hi2) fun a w hs => ?_
    refine sy hs (zv4 (u := kv') (Rd.st hs (.head _)) rfl hr2 (cellK hrl) Tryz.underlying42 rfl) fun a w hs => ?_
    refine sy hs (zat rfl) fun a w hs => ?_
    refine sy hs (zds hRk rfl rfl rfl (by omega) Tryz.underlying42 ti44) fun a w hs => ?_
    refine sy hs (zat rfl) fun a w hs => ?_
    refine zmf (stPm hs pmT) rfl has40 rfl rfl (ih y (List.mem_of_getElem? hy) f cnt kv' e' krj j r X1 hyr hB) (.free rfl) (by decide) ?_; clear hs; (try clear a w)
    rintro _ _ _ a w _ ⟨rfl, rfl, r', X', hB', rfl⟩ hs
    replace hs := stPm hs pmT.symm
    refine sy hs (zas rfl) fun a w hs => ?_
    refine zah ?_
    refine hK9 _ _ ?_; clear hK9
    refine zad ?_
    refine sy hs (zat rfl) fun a w hs => ?_
    refine sy hs (zzx rfl rfl (yco (by omega))) fun a w hs => ?_
    refine sy hs (zas rfl) fun a w hs => ?_
    refine zah ?_
    exact hK (j + 1) _ _ (by omega) ⟨_, _, _, _, hnext r' X' hB', by simp only [List.append_assoc]; simp only [List.append_assoc] at hs; exact hs.sub ⟨rfl, rfl, rfl, trivial⟩⟩
  · refine ybb ?_
    refine hB6 _ _ ?_
    refine hK4 _ _ ?_; clear hK4
    refine zbc fun K11 hK11 => ?_
    refine zad ?_
    refine sy hs (zat rfl) fun a w hs => ?_
    refine sy hs (zas rfl) fun a w hs => ?_
    refine zah ?_
    refine hK11 _ _ ?_; clear hK11
    refine zrv ?_
    refine Rt_1 hs rfl rfl ?_
    obtain ⟨D, ra, rb, rfl, h2, h3, h4, h5, h6⟩ := hI.ex
    rw [List.drop_eq_nil_of_le (by omega)] at h5 h6
    unfold OTL at h5
    obtain ⟨rfl, rfl⟩ := h5
    rw [zpz, List.append_nil] at h6
    refine ⟨_, _, .row v ev 57 (rows.set i (.int .i64 x.1 :: .int .i64 x.2.1 :: .int .i64 n :: (rest ++ [kv]))) :: .row kv' e' 57 (ra ++ []) :: XA, rfl, .refl _, hs.cw, rfl, ?_,(.int .i64 x.1 :: .int .i64 x.2.1 :: .int .i64 n :: (rest ++ [kv])), .row kv' e' 57 (ra ++ []) :: XA, ?_, rfl⟩
    · rw [zrl, h6]
    · rw [zrl, h6]
      unfold OT
      exact ⟨_, kv, kv', e', ra ++ [], XA, rfl, hxm n, hkj, rfl, by rw [List.append_nil]; exact h4⟩
mutual
theorem zxo : ∀ b, Num2OK b
  | .mk _ ks => yam (zvt ks)
theorem zvt : ∀ (ks : List BoxT), ∀ b ∈ ks, Num2OK b
  | [], _, h => by simp at h
  | b :: bs, x, h => by
    rcases List.mem_cons.1 h with h | h
    · rw [h]; exact zxo b
    · exact zvt bs x h
end
end Go.Proofs.YteicdfkmpnmkmaaGreat
