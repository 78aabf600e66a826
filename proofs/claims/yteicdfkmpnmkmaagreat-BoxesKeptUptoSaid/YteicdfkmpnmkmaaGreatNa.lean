/-
  Walks and laws of this seat.
-/
import Derived.Test.YteicdfkmpnmkmaaGreatVO
import Derived.Test.YteicdfkmpnmkmaaGreatBash
import Derived.Test.YteicdfkmpnmkmaaGreatRows
namespace Go.V
set_option linter.unusedVariables false
set_option linter.unusedSimpArgs false
set_option linter.unusedSectionVars false
open Go.RowKit Go.Sl
section
mutual
/-- Codes without addresses say the same wherever. -/
theorem TC.scA (A B : F0) {f f' : Fz} : ∀ (c : TC), c.sc = true → ∀ (r : List Value) (x : c.T), @TC.R A c f r x → @TC.R B c f' r x
  | .int _, _, _, _, h => h
  | .bool, _, _, _, h => h
  | .str, _, _, _, h => h
  | .st l, hc, r, x, h => TL.scA A B l hc r x h
  | .sl _, hc, _, _, _ => by cases hc
  | .nsl _, hc, _, _, _ => by cases hc
  | .tr _, hc, _, _, _ => by cases hc
  | .tn _, hc, _, _, _ => by cases hc
theorem TL.scA (A B : F0) {f f' : Fz} : ∀ (l : TL), l.sc = true → ∀ (r : List Value) (x : l.T), @TL.R A l f r x → @TL.R B l f' r x
  | .nil, _, _, _, h => h
  | .cons c l, hc, r, x, h => by
    simp only [TL.sc, Bool.and_eq_true] at hc
    obtain ⟨r1, r2, h1, h2, h3⟩ := h
    exact ⟨r1, r2, h1, TC.scA A B c hc.1 _ _ h2, TL.scA A B l hc.2 _ _ h3⟩
end
variable [F0]
mutual
theorem TC.scF : ∀ (c : TC), c.sc = true → ∀ {f : Fz} {r : List Value} {x y : c.T}, c.R f r x → c.R f r y → x = y
  | .int _, _, _, _, _, _, h, g => by rw [show _ = _ from h] at g; cases g; rfl
  | .bool, _, _, _, _, _, h, g => by rw [show _ = _ from h] at g; cases g; rfl
  | .str, _, _, _, _, _, h, g => by rw [show _ = _ from h] at g; cases g; rfl
  | .st l, hc, _, _, _, _, h, g => TL.scF l hc (h : TL.R l _ _ _) (g : TL.R l _ _ _)
  | .sl _, hc, _, _, _, _, _, _ => by cases hc
  | .nsl _, hc, _, _, _, _, _, _ => by cases hc
  | .tr _, hc, _, _, _, _, _, _ => by cases hc
  | .tn _, hc, _, _, _, _, _, _ => by cases hc
theorem TL.scF : ∀ (l : TL), l.sc = true → ∀ {f : Fz} {r : List Value} {x y : l.T}, l.R f r x → l.R f r y → x = y
  | .nil, _, _, _, _, _, _, _ => rfl
  | .cons c l, hc, f, r, x, y, h, g => by
    simp only [TL.sc, Bool.and_eq_true] at hc
    obtain ⟨r1, r2, h1, h2, h3⟩ := h
    obtain ⟨s1, s2, g1, g2, g3⟩ := g
    have e := List.append_inj (h1.symm.trans g1) ((c.oneR h2).1.trans (c.oneR g2).1.symm)
    obtain ⟨rfl, rfl⟩ := e
    exact Prod.ext (TC.scF c hc.1 h2 g2) (TL.scF l hc.2 h3 g3)
end
theorem Rd.fn {f : Fz} {v : Value} {k : Nat} {rows rows' : List (List Value)} (h : Rd f [] v k rows) (g : Rd f [] v k rows') : rows = rows' := by
  obtain ⟨hl, ao, cap, rfl, h1, h2, h3⟩ := h
  obtain ⟨gl, ao', cap', e, g1, g2, g3⟩ := g
  injection e with e1 e2 e3
  subst e1
  refine List.ext_getElem e2 fun i p q => ?_
  have l1 := (hl _ (List.getElem_mem p)).1
  have l2 := (gl _ (List.getElem_mem q)).1
  refine List.ext_getElem (l1.trans l2.symm) fun j p' q' => ?_
  cases ao with
  | none => rw [h2 rfl] at p; simp at p
  | some a =>
    rcases (h3 a rfl).2 i _ (List.getElem?_eq_getElem p) j _ (List.getElem?_eq_getElem p') with ⟨C, e, fr, k1, k2⟩ | ⟨_, hx, _⟩
    · rcases (g3 a rfl).2 i _ (List.getElem?_eq_getElem q) j _ (List.getElem?_eq_getElem q') with ⟨C', e', fr', k3, k4⟩ | ⟨_, hx, _⟩
      · rw [k1] at k3
        cases k3
        rw [k2] at k4
        exact Option.some.inj k4
      · cases hx
    · cases hx
theorem TrR.inv {α : Type} {R : List Value → α → Prop} {D : Value → List (List Value) → Prop} {r : List Value} {t : Tr α} (h : TrR R D r t) : ∃ r1 v rows, r = r1 ++ [v] ∧ R r1 t.x ∧ D v rows ∧ rows.length = t.kids.length ∧ ∀ (i : Nat) (r : List Value) (y : Tr α), rows[i]? = some r → t.kids[i]? = some y → TrR R D r y := by
  cases h with
  | mk h1 h2 h3 h4 => exact ⟨_, _, _, rfl, h1, h2, h3, h4⟩
theorem TrR.fn {α : Type} {R : List Value → α → Prop} {D : Value → List (List Value) → Prop} (hR : ∀ r x y, R r x → R r y → x = y) (hD : ∀ v a b, D v a → D v b → a = b) {r : List Value} {t : Tr α} (h : TrR R D r t) : ∀ {u : Tr α}, TrR R D r u → t = u := by
  induction h with
  | mk h1 h2 h3 h4 ih =>
    intro u hu
    obtain ⟨r1', v', rows', e, g1, g2, g3, g4⟩ := hu.inv
    obtain ⟨rfl, e2⟩ := List.append_inj' e rfl
    obtain rfl : _ = v' := by simpa using e2
    obtain rfl := hD _ _ _ h2 g2
    cases u with
    | mk x ks =>
      have e1 := hR _ _ _ h1 g1
      subst e1
      congr 1
      refine List.ext_getElem (h3.symm.trans g3) fun i p q => ?_
      have hi : i < _ := h3 ▸ p
      exact ih i _ _ (List.getElem?_eq_getElem hi) (List.getElem?_eq_getElem p) (g4 i _ _ (List.getElem?_eq_getElem hi) (List.getElem?_eq_getElem q))
variable {c : TC}
mutual
/-- A tree's cells, the row of its kids and what lies below them. -/
def OT (c : TC) (f : Fz) : Tr c.T → List Value → List Ent → Prop
  | .mk x ks, r, X => ∃ r1 kv kv' e rows X', r = r1 ++ [kv] ∧ c.R f r1 x ∧ (kv' = kv ∨ rows = [] ∧ kv' = .slice none 0 0 ∧ ∃ ao cap, kv = .slice ao 0 cap) ∧ X = .row kv' e (c.k + 1) rows :: X' ∧ OTL c f ks rows X'
def OTL (c : TC) (f : Fz) : List (Tr c.T) → List (List Value) → List Ent → Prop
  | [], rows, X => rows = [] ∧ X = []
  | t :: ts, rows, X => ∃ r rs X1 X2, rows = r :: rs ∧ X = X1 ++ X2 ∧ OT c f t r X1 ∧ OTL c f ts rs X2
end
mutual
/-- The first kids of all that have kids. -/
def fkT {α : Type} : Tr α → List (Tr α)
  | .mk _ ks => ks.take 1 ++ fkL ks
def fkL {α : Type} : List (Tr α) → List (Tr α)
  | [] => []
  | t :: ts => fkT t ++ fkL ts
end
mutual
/-- The blocks of the kids of all that have kids. -/
def OB (c : TC) (f : Fz) : Tr c.T → List Value → List Nat → Prop
  | .mk x ks, r, B => ∃ r1 kv rows B', r = r1 ++ [kv] ∧ c.R f r1 x ∧ OBL c f ks rows B' ∧ ((rows = [] ∧ (∃ ao cap, kv = .slice ao 0 cap) ∧ B = B') ∨ (rows ≠ [] ∧ ∃ b cap cur e, kv = .slice (some ⟨b,0, none⟩) rows.length cap ∧ fn f b = some (.cells cur e (0,0)) ∧ rows.length ≤ cap ∧ cap ≤ maxLen ∧ cur.size = cap * (c.k + 1) ∧ cur.toList.take (rows.length * (c.k + 1)) = rows.flatten ∧ B = b :: B'))
def OBL (c : TC) (f : Fz) : List (Tr c.T) → List (List Value) → List Nat → Prop
  | [], rows, B => rows = [] ∧ B = []
  | t :: ts, rows, B => ∃ r rs B1 B2, rows = r :: rs ∧ B = B1 ++ B2 ∧ OB c f t r B1 ∧ OBL c f ts rs B2
end
end
end Go.V
namespace Go.Proofs.YteicdfkmpnmkmaaGreat
set_option linter.unusedVariables false
set_option linter.unusedSimpArgs false
set_option linter.unusedSectionVars false
open Go.Sl
theorem mixed : Tryz.prog.follows .mixedOrders = true := by kernel_rfl
theorem ti3 : TI Tryz.prog 3 1 8 (.int .i64 0) := .of (by kernel_rfl)
theorem ti9 : TI Tryz.prog 9 1 16 (.string ByteArray.empty) := .of (by kernel_rfl)
theorem ti28 : TI Tryz.prog 28 52 384 (.agg #[.int .i64 0, .int .i64 0, .int .i64 0, .int .i64 0, .int .i64 0, .int .i64 0, .int .i64 0, .int .i64 0, .int .i64 0, .int .i64 0, .int .i64 0, .int .i64 0, .int .i64 0, .int .i64 0, .int .i64 0, .int .i64 0, .int .i64 0, .int .i64 0, .int .i64 0, .int .i64 0, .int .i64 0, .int .i64 0, .int .i64 0, .int .i64 0, .int .i64 0, .int .i64 0, .int .i64 0, .int .i64 0, .int .i64 0, .int .i64 0, .int .i64 0, .int .i64 0, .int .i64 0, .int .i64 0, .int .i64 0, .int .i64 0, .int .u32 0, .int .u32 0, .int .i64 0, .int .i64 0, .int .i64 0, .bool false, .bool false, .bool false, .bool false, .int .i64 0, .int .i64 0, .int .i64 0, .int .i64 0, .int .i64 0, .int .i64 0, .bool false]) := .of (by kernel_rfl)
theorem ti29 : TI Tryz.prog 29 1 24 (.slice none 0 0) := .of (by kernel_rfl)
theorem ti31 : TI Tryz.prog 31 57 448 (.agg #[.int .i64 0, .int .i64 0, .int .i64 0, .int .i64 0, .int .i64 0, .int .i64 0, .int .i64 0, .int .i64 0, .int .i64 0, .int .i64 0, .int .i64 0, .int .i64 0, .int .i64 0, .int .i64 0, .int .i64 0, .int .i64 0, .int .i64 0, .int .i64 0, .int .i64 0, .int .i64 0, .int .i64 0, .int .i64 0, .int .i64 0, .int .i64 0, .int .i64 0, .int .i64 0, .int .i64 0, .int .i64 0, .int .i64 0, .int .i64 0, .int .i64 0, .int .i64 0, .int .i64 0, .int .i64 0, .int .i64 0, .int .i64 0, .int .i64 0, .int .i64 0, .int .i64 0, .int .u32 0, .int .u32 0, .int .i64 0, .int .i64 0, .int .i64 0, .bool false, .bool false, .bool false, .bool false, .int .i64 0, .int .i64 0, .int .i64 0, .int .i64 0, .int .i64 0, .int .i64 0, .bool false, .string ByteArray.empty, .slice none 0 0]) := .of (by kernel_rfl)
theorem ti35 : TI Tryz.prog 35 1 24 (.slice none 0 0) := .of (by kernel_rfl)
theorem ti37 : TI Tryz.prog 37 1 24 (.agg #[.slice none 0 0]) := .of (by kernel_rfl)
theorem ti42 : TI Tryz.prog 42 1 24 (.slice none 0 0) := .of (by kernel_rfl)
theorem ti44 : TI Tryz.prog 44 57 448 (.agg #[.int .i64 0, .int .i64 0, .int .i64 0, .int .i64 0, .int .i64 0, .int .i64 0, .int .i64 0, .int .i64 0, .int .i64 0, .int .i64 0, .int .i64 0, .int .i64 0, .int .i64 0, .int .i64 0, .int .i64 0, .int .i64 0, .int .i64 0, .int .i64 0, .int .i64 0, .int .i64 0, .int .i64 0, .int .i64 0, .int .i64 0, .int .i64 0, .int .i64 0, .int .i64 0, .int .i64 0, .int .i64 0, .int .i64 0, .int .i64 0, .int .i64 0, .int .i64 0, .int .i64 0, .int .i64 0, .int .i64 0, .int .i64 0, .int .i64 0, .int .i64 0, .int .i64 0, .int .u32 0, .int .u32 0, .int .i64 0, .int .i64 0, .int .i64 0, .bool false, .bool false, .bool false, .bool false, .int .i64 0, .int .i64 0, .int .i64 0, .int .i64 0, .int .i64 0, .int .i64 0, .bool false, .string ByteArray.empty, .slice none 0 0]) := .of (by kernel_rfl)
theorem ti55 : TI Tryz.prog 55 1 24 (.slice none 0 0) := .of (by kernel_rfl)
theorem ti76 : TI Tryz.prog 76 1 8 (.nilFunc) := .of (by kernel_rfl)
theorem ti81 : TI Tryz.prog 81 1 8 (.nilFunc) := .of (by kernel_rfl)
theorem ti85 : TI Tryz.prog 85 2 32 (.agg #[.string ByteArray.empty, .string ByteArray.empty]) := .of (by kernel_rfl)
theorem has9 : Has Tryz.prog 9 := ⟨_, Tryz.func9, rfl, by kernel_rfl⟩
theorem has11 : Has Tryz.prog 11 := ⟨_, Tryz.func11, rfl, by kernel_rfl⟩
theorem has14 : Has Tryz.prog 14 := ⟨_, Tryz.func14, rfl, by kernel_rfl⟩
theorem has15 : Has Tryz.prog 15 := ⟨_, Tryz.func15, rfl, by kernel_rfl⟩
theorem has16 : Has Tryz.prog 16 := ⟨_, Tryz.func16, rfl, by kernel_rfl⟩
theorem has17 : Has Tryz.prog 17 := ⟨_, Tryz.func17, rfl, by kernel_rfl⟩
theorem has18 : Has Tryz.prog 18 := ⟨_, Tryz.func18, rfl, by kernel_rfl⟩
theorem has31 : Has Tryz.prog 31 := ⟨_, Tryz.func31, rfl, by kernel_rfl⟩
theorem has32 : Has Tryz.prog 32 := ⟨_, Tryz.func32, rfl, by kernel_rfl⟩
theorem has36 : Has Tryz.prog 36 := ⟨_, Tryz.func36, rfl, by kernel_rfl⟩
theorem has39 : Has Tryz.prog 39 := ⟨_, Tryz.func39, rfl, by kernel_rfl⟩
theorem has40 : Has Tryz.prog 40 := ⟨_, Tryz.func40, rfl, by kernel_rfl⟩
end Go.Proofs.YteicdfkmpnmkmaaGreat
namespace Go.V
set_option linter.unusedVariables false
set_option linter.unusedSimpArgs false
set_option linter.unusedSectionVars false
open Go.RowKit Go.Sl
inductive All2 {α β : Type} (P : α → β → Prop) : List α → List β → Prop
  | nil : All2 P [] []
  | cons {a b l m} (h : P a b) (hs : All2 P l m) : All2 P (a :: l) (b :: m)
theorem All2.app {α β : Type} {P : α → β → Prop} {l1 l2 : List α} {m1 m2 : List β} (h : All2 P l1 m1) (g : All2 P l2 m2) : All2 P (l1 ++ l2) (m1 ++ m2) := by
  induction h with
  | nil => exact g
  | cons h _ ih => exact .cons h ih
section
variable [F0] {c : TC} {f : Fz}
def RowAt (c : TC) (f : Fz) (b : Nat) (y : Tr c.T) : Prop := ∃ cur e, fn f b = some (.cells cur e (0,0)) ∧ TrR (c.R f) ((TC.tn c).rd f) (cur.toList.take (c.k + 1)) y
theorem RowAt.fn (hc : c.sc = true) {b : Nat} {x y : Tr c.T} (h : RowAt c f b x) (g : RowAt c f b y) : x = y := by
  obtain ⟨cur, e, h1, h2⟩ := h
  obtain ⟨cur', e', g1, g2⟩ := g
  rw [h1] at g1
  cases g1
  exact TrR.fn (R := c.R f) (D := (TC.tn c).rd f) (fun _ _ _ h g => TC.scF c hc h g) (fun _ _ _ h g => Rd.fn (And.left h) (And.left g)) h2 g2
theorem OBL.of : ∀ {ks : List (Tr c.T)} {rows : List (List Value)}, rows.length = ks.length → (∀ (i : Nat) (r : List Value) (y : Tr c.T), rows[i]? = some r → ks[i]? = some y → ∃ B, OB c f y r B ∧ All2 (RowAt c f) B (fkT y)) → ∃ B, OBL c f ks rows B ∧ All2 (RowAt c f) B (fkL ks)
  | [],[], _, _ => ⟨[], ⟨rfl, rfl⟩, .nil⟩
  | t :: ts, r :: rs, hl, h => by
    obtain ⟨B1, h1, h2⟩ := h 0 r t rfl rfl
    obtain ⟨B2, h3, h4⟩ := OBL.of (ks := ts) (rows := rs) (by simpa using hl) fun i r y hr hy => h (i + 1) r y (by simpa using hr) (by simpa using hy)
    exact ⟨B1 ++ B2, ⟨r, rs, B1, B2, rfl, rfl, h1, h3⟩, by rw [fkL]; exact All2.app h2 h4⟩
  | [], _ :: _, hl, _ => by simp at hl
  | _ :: _,[], hl, _ => by simp at hl
theorem ye5 {f : Fz} {b cap k : Nat} {cur : Array Value} {e : TypeId} {rows : List (List Value)} (h : Rd f [] (.slice (some ⟨b,0, none⟩) rows.length cap) k rows) (hb : f b = some (.cells cur e (0,0))) (hs : cur.size = cap * k) (hle : rows.length ≤ cap) : cur.toList.take (rows.length * k) = rows.flatten := by
  have hfl := zbi (rows := rows) (k := k) fun r hr => (h.len r hr).1
  have hm : rows.length * k ≤ cap * k := Nat.mul_le_mul_right k hle
  refine List.ext_getElem (by simp [hfl]; omega) fun i p q => ?_
  obtain ⟨_, h2⟩ := h.at rfl
  rcases h2 i _ (List.getElem?_eq_getElem q) with ⟨C, e', fr, g1, g2⟩ | ⟨_, hx, _⟩
  · rw [hb] at g1
    cases g1
    rw [Nat.zero_add] at g2
    rw [List.getElem_take]
    have := Array.getElem?_eq_some_iff.1 g2
    obtain ⟨_, g3⟩ := this
    simpa using g3
  · cases hx
theorem OB.of {r : List Value} {t : Tr c.T} (h : TrR (c.R f) ((TC.tn c).rd f) r t) : ∃ B, OB c f t r B ∧ All2 (RowAt c f) B (fkT t) := by
  induction h with
  | @mk r1 v x kids rows h1 h2 h3 h4 ih =>
    obtain ⟨B', g1, g2⟩ := OBL.of h3 ih
    obtain ⟨hR, hw⟩ := h2
    cases rows with
    | nil =>
      have hk : kids = [] := List.eq_nil_of_length_eq_zero h3.symm
      subst hk
      obtain ⟨_, ao, cap, rfl, _⟩ := hR
      exact ⟨B', by rw [OB]; exact ⟨r1, _,[], B', rfl, h1, g1, .inl ⟨rfl, ⟨ao, cap, rfl⟩, rfl⟩⟩, by rw [fkT]; exact g2⟩
    | cons r0 rs =>
      cases kids with
      | nil => simp at h3
      | cons k0 ks =>
        rcases hw with ⟨ao, cap, rfl⟩ | ⟨b, n, cap, cur, e, rfl, hb, hn, hcm, hcs⟩
        · obtain ⟨_, ao', cap', e, _⟩ := hR
          injection e with _ e2 _
          simp at e2
        · have hlen : n = (r0 :: rs).length := by
            obtain ⟨_, ao', cap', e, _⟩ := hR
            injection e
          subst hlen
          have htk := ye5 (k := c.k + 1) (hR : Rd (fn f) [] _ (c.k + 1) (r0 :: rs)) hb hcs hn
          refine ⟨b :: B', by rw [OB]; exact ⟨r1, _, r0 :: rs, B', rfl, h1, g1, .inr ⟨by simp, b, cap, cur, e, rfl, hb, hn, hcm, hcs, htk, rfl⟩⟩, ?_⟩
          rw [fkT]
          refine .cons ⟨cur, e, hb, ?_⟩ g2
          have hr0 : r0.length = c.k + 1 := (hR.len r0 (by simp)).1
          have : cur.toList.take (c.k + 1) = r0 := by
            have e1 : (cur.toList.take ((r0 :: rs).length * (c.k + 1))).take (c.k + 1) = cur.toList.take (c.k + 1) := by
              rw [List.take_take, Nat.min_eq_left (by simp only [List.length_cons]; rw [Nat.succ_mul]; omega)]
            rw [← e1, htk, List.flatten_cons, List.take_append_of_le_length (by omega), List.take_of_length_le (by omega)]
          rw [this]
          exact h4 0 r0 k0 rfl rfl
theorem yd3 {α β : Type} {P : α → β → Prop} (hP : ∀ a x y, P a x → P a y → x = y) : ∀ {A : List α} {Y : List β}, All2 P A Y → Y.Nodup → A.Nodup
  | _, _, .nil, _ => List.nodup_nil
  | a :: A, y :: Y, .cons h hs, hn => by
    obtain ⟨h1, h2⟩ := List.nodup_cons.1 hn
    refine List.nodup_cons.2 ⟨fun ha => h1 ?_, yd3 hP hs h2⟩
    clear hn h2 h1
    induction hs with
    | nil => cases ha
    | cons g gs ih =>
      rcases List.mem_cons.1 ha with rfl | ha
      · rw [hP _ _ _ h g]; exact .head _
      · exact .tail _ (ih ha)
end
def keys (L : List Ent) : List Nat := L.filterMap Ent.key
theorem zv0 {L M : List Ent} : keys (L ++ M) = keys L ++ keys M := List.filterMap_append
theorem Cw.keysN {w0 w : World} {f : Fz} {L : List Ent} (h : Cw w0 f L w) : (keys L).Nodup := by
  have : L.Pairwise fun x y => ∀ k, x.key = some k → y.key = some k → False := by
    rw [List.pairwise_iff_getElem]
    intro i j hi hj hij k h1 h2
    exact h.sep i j _ _ (List.getElem?_eq_getElem hi) (List.getElem?_eq_getElem hj) (by omega) k h1 h2
  unfold keys
  show List.Pairwise _ _
  rw [List.pairwise_filterMap]
  exact this.imp fun {x y} hxy a ha b hb e => hxy a ha (by rw [e]; exact hb)
theorem sep_of {L : List Ent} (h : (keys L).Nodup) (i j : Nat) (x y : Ent) (hi : L[i]? = some x) (hj : L[j]? = some y) (hij : i ≠ j) (k : Nat) (h1 : x.key = some k) (h2 : y.key = some k) : False := by
  have h : List.Pairwise _ _ := h
  unfold keys at h
  rw [List.pairwise_filterMap] at h
  obtain ⟨l1, e1⟩ := List.getElem?_eq_some_iff.1 hi
  obtain ⟨l2, e2⟩ := List.getElem?_eq_some_iff.1 hj
  rcases Nat.lt_or_gt_of_ne hij with g | g
  · have := List.pairwise_iff_getElem.1 h i j l1 l2 g k (by rw [e1]; exact h1) k (by rw [e2]; exact h2)
    exact this rfl
  · have := List.pairwise_iff_getElem.1 h j i l2 l1 g k (by rw [e2]; exact h2) k (by rw [e1]; exact h1)
    exact this rfl
theorem Cw.free {w0 w : World} {f f' : Fz} {L X : List Ent} (h : Cw w0 f' L w) (hle : Fz.le f f') (hX : ∀ e ∈ X, e.holds w) (hn : (keys X).Nodup) (hk : ∀ b ∈ keys X, f b = none ∧ ∃ o, f' b = some o) : Cw w0 f (X ++ L) w := by
  have key : ∀ e ∈ X, ∀ b, e.key = some b → b ∈ keys X := fun e he b hb => List.mem_filterMap.2 ⟨e, he, hb⟩
  refine ⟨h.os, h.tape, h.output, h.size, fun b o hb => h.frz b o (hle b o hb), fun e he => ?_, fun e he b hb => ?_, sep_of ?_⟩
  · rcases List.mem_append.1 he with he | he
    · exact hX e he
    · exact h.live e he
  · rcases List.mem_append.1 he with he | he
    · exact (hk b (key e he b hb)).1
    · exact zyx hle (h.apart e he b hb)
  · rw [zv0]
    refine List.nodup_append.2 ⟨hn, Cw.keysN h, fun a ha b hb e => ?_⟩
    subst e
    obtain ⟨_, o, ho⟩ := hk a ha
    obtain ⟨e, he, hk⟩ := List.mem_filterMap.1 hb
    rw [h.apart e he a hk] at ho
    cases ho
theorem OB.one (B0 : F0) {c : TC} {f : Fz} : ∀ {t : Tr c.T} {r : List Value} {D : List Nat}, @OB B0 c f t r D → OneRow (c.k + 1) r
  | .mk x ks, r, D, h => by
    rw [OB] at h
    obtain ⟨r1, kv, rows, B', rfl, h1, h2, h3⟩ := h
    refine oneApp (@TC.oneR B0 c _ _ _ h1) ⟨rfl, fun x hx => ?_⟩
    rw [List.mem_singleton.1 hx]
    rcases h3 with ⟨rfl, ⟨ao, cap, rfl⟩, rfl⟩ | ⟨hne, b, cap, cur, e, rfl, _⟩ <;> rfl
theorem OBL.one (B0 : F0) {c : TC} {f : Fz} : ∀ {ks : List (Tr c.T)} {rows : List (List Value)} {D : List Nat}, @OBL B0 c f ks rows D → ∀ r ∈ rows, OneRow (c.k + 1) r
  | [], rows, D, h, r, hr => by
    rw [OBL] at h
    rw [h.1] at hr; cases hr
  | t :: ts, rows, D, h, r', hr => by
    rw [OBL] at h
    obtain ⟨r, rs, B1, B2, rfl, rfl, h1, h2⟩ := h
    rcases List.mem_cons.1 hr with rfl | hr
    · exact OB.one B0 h1
    · exact OBL.one B0 h2 r' hr
mutual
theorem OB.own (A B0 : F0) {c : TC} (hc : c.sc = true) {f g : Fz} {w : World} (hw : ∀ b o, @fn B0 f b = some o → w.heap[b]? = some o) : ∀ (t : Tr c.T) (r : List Value) (D : List Nat), @OB B0 c f t r D → ∃ X, @OT A c g t r X ∧ keys X = D ∧ ∀ e ∈ X, e.holds w
  | .mk x ks, r, D, h => by
    rw [OB] at h
    obtain ⟨r1, kv, rows, B', rfl, h1, h2, h3⟩ := h
    obtain ⟨X', g1, g2, g3⟩ := OBL.own A B0 hc hw ks rows B' h2
    rcases h3 with ⟨rfl, ⟨ao, cap, rfl⟩, rfl⟩ | ⟨hne, b, cap, cur, e, rfl, hb, q1, q2, q3, q4, rfl⟩
    · refine ⟨.row (.slice none 0 0) 0 (c.k + 1) [] :: X', ?_, ?_, fun e he => ?_⟩
      · unfold OT
        exact ⟨r1, _, _,0,[], X', rfl, TC.scA B0 A c hc _ _ h1, .inr ⟨rfl, rfl, ao, cap, rfl⟩, rfl, g1⟩
      · show keys ([_] ++ X') = _
        rw [zv0, g2]; rfl
      · rcases List.mem_cons.1 he with rfl | he
        · exact ⟨World.ownsRow_nil w 0 0 _, by simp⟩
        · exact g3 e he
    · refine ⟨.row (.slice (some ⟨b,0, none⟩) rows.length cap) e (c.k + 1) rows :: X', ?_, ?_, fun e' he => ?_⟩
      · unfold OT
        exact ⟨r1, _, _, e, rows, X', rfl, TC.scA B0 A c hc _ _ h1, .inl rfl, rfl, g1⟩
      · show keys ([_] ++ X') = _
        rw [zv0, g2]; rfl
      · rcases List.mem_cons.1 he with rfl | he
        · have hone : ∀ r ∈ rows, OneRow (c.k + 1) r := OBL.one B0 h2
          exact ⟨⟨zbi fun r hr => (hone r hr).1, .inr ⟨b, cap, cur, rfl, Nat.zero_le _, hw _ _ hb, q1, q2, q3, q4⟩⟩, hone⟩
        · exact g3 e' he
theorem OBL.own (A B0 : F0) {c : TC} (hc : c.sc = true) {f g : Fz} {w : World} (hw : ∀ b o, @fn B0 f b = some o → w.heap[b]? = some o) : ∀ (ks : List (Tr c.T)) (rows : List (List Value)) (D : List Nat), @OBL B0 c f ks rows D → ∃ X, @OTL A c g ks rows X ∧ keys X = D ∧ ∀ e ∈ X, e.holds w
  | [], rows, D, h => by
    rw [OBL] at h
    obtain ⟨rfl, rfl⟩ := h
    exact ⟨[], by unfold OTL; exact ⟨rfl, rfl⟩, rfl, by simp⟩
  | t :: ts, rows, D, h => by
    rw [OBL] at h
    obtain ⟨r, rs, B1, B2, rfl, rfl, h1, h2⟩ := h
    obtain ⟨X1, g1, g2, g3⟩ := OB.own A B0 hc hw t r B1 h1
    obtain ⟨X2, k1, k2, k3⟩ := OBL.own A B0 hc hw ts rs B2 h2
    refine ⟨X1 ++ X2, by unfold OTL; exact ⟨r, rs, X1, X2, rfl, rfl, g1, k1⟩, by rw [zv0, g2, k2], fun e he => ?_⟩
    rcases List.mem_append.1 he with he | he
    · exact g3 e he
    · exact k3 e he
end
end Go.V
namespace Go.V
set_option linter.unusedVariables false
set_option linter.unusedSimpArgs false
set_option linter.unusedSectionVars false
open Go.RowKit Go.Sl
theorem letTree (A : F0) {c : TC} (hc : c.sc = true) {f f' : Fz} {w0 w : World} {L : List Ent} {t : Tr c.T} {r : List Value} (h : @TC.R ⟨f⟩ (.tn c) f' r t) (hn : (fkT t).Nodup) (hC : Cw w0 f' L w) (hle : Fz.le f f') : ∃ X, @OT A c f t r X ∧ Cw w0 f (X ++ L) w := by
  obtain ⟨B, h1, h2⟩ := @OB.of ⟨f⟩ c f' r t h
  have hB := yd3 (fun a x y => @RowAt.fn ⟨f⟩ c f' hc a x y) h2 hn
  have hfn : ∀ b o, @fn ⟨f⟩ f' b = some o → f b = none ∧ f' b = some o := fun b o hb => ⟨(zpd.1 hb).1,(zpd.1 hb).2.1⟩
  obtain ⟨X, g1, g2, g3⟩ := OB.own A ⟨f⟩ hc (f := f') (g := f) (w := w) (fun b o hb => hC.frz b o (hfn b o hb).2) t r B h1
  refine ⟨X, g1, Cw.free hC hle g3 (by rw [g2]; exact hB) fun b hb => ?_⟩
  rw [g2] at hb
  have : ∀ {B : List Nat} {Y : List (Tr c.T)}, All2 (@RowAt ⟨f⟩ c f') B Y → ∀ b ∈ B, f b = none ∧ ∃ o, f' b = some o := fun {B Y} h => by
    induction h with
    | nil => intro b hb; cases hb
    | cons h _ ih =>
      intro b hb
      rcases List.mem_cons.1 hb with rfl | hb
      · obtain ⟨cur, e, q1, _⟩ := h
        exact ⟨(hfn _ _ q1).1, _,(hfn _ _ q1).2⟩
      · exact ih b hb
  exact this h2 b hb
section
variable [F0] {c : TC} {w0 w : World}
mutual
theorem OT.mono {f f' : Fz} (hf : Fz.le f f') : ∀ {t : Tr c.T} {r : List Value} {X : List Ent}, OT c f t r X → OT c f' t r X
  | .mk x ks, r, X, h => by
    unfold OT at h ⊢
    obtain ⟨r1, kv, kv', e, rows, X', h0, h1, h2, h3, h4⟩ := h
    exact ⟨r1, kv, kv', e, rows, X', h0, TC.mono c h1 hf, h2, h3, OTL.mono hf h4⟩
theorem OTL.mono {f f' : Fz} (hf : Fz.le f f') : ∀ {ks : List (Tr c.T)} {rows : List (List Value)} {X : List Ent}, OTL c f ks rows X → OTL c f' ks rows X
  | [], rows, X, h => by unfold OTL at h ⊢; exact h
  | t :: ts, rows, X, h => by
    unfold OTL at h ⊢
    obtain ⟨r, rs, X1, X2, h1, h2, h3, h4⟩ := h
    exact ⟨r, rs, X1, X2, h1, h2, OT.mono hf h3, OTL.mono hf h4⟩
end
mutual
/-- A tree of the call's own is frozen. -/
theorem OT.frz : ∀ {t : Tr c.T} {r : List Value} {X L : List Ent} {f : Fz}, Fz.le f00 f → OT c f t r X → Cw w0 f (X ++ L) w → ∃ f1, Fz.le f f1 ∧ Cw w0 f1 L w ∧ (TC.tn c).R f1 r t
  | .mk x ks, r, X, L, f, h0, h, hC => by
    unfold OT at h
    obtain ⟨r1, kv, kv', e, rows, X', rfl, h1, h2, rfl, h3⟩ := h
    obtain ⟨f1, g1, g2, g3, g4⟩ := OTL.frz (L := .row kv' e (c.k + 1) rows :: L) h0 h3 (Cw.perm hC List.perm_middle.symm)
    obtain ⟨f2, k1, k2, k3, k4⟩ := frzW (i := 0) g2 rfl (h0.trans g1)
    have hD : (TC.tn c).rd f2 kv rows := by
      rcases h2 with rfl | ⟨rfl, rfl, ao, cap, rfl⟩
      · exact ⟨k3, k4⟩
      · exact ⟨⟨by simp, ao, cap, rfl, Nat.zero_le _, fun _ => rfl, fun _ _ => ⟨fun h => absurd rfl h, by simp⟩⟩, .inl ⟨_, _, rfl⟩⟩
    exact ⟨f2, g1.trans k1, k2, TrR.mk (TC.mono c h1 (g1.trans k1)) hD g3 fun i r y hr hy => TC.mono (.tn c) (g4 i r y hr hy) k1⟩
theorem OTL.frz : ∀ {ks : List (Tr c.T)} {rows : List (List Value)} {X L : List Ent} {f : Fz}, Fz.le f00 f → OTL c f ks rows X → Cw w0 f (X ++ L) w → ∃ f1, Fz.le f f1 ∧ Cw w0 f1 L w ∧ rows.length = ks.length ∧ ∀ (i : Nat) (r : List Value) (y : Tr c.T), rows[i]? = some r → ks[i]? = some y → (TC.tn c).R f1 r y
  | [], rows, X, L, f, h0, h, hC => by
    unfold OTL at h
    obtain ⟨rfl, rfl⟩ := h
    exact ⟨f, .refl f, hC, rfl, by simp⟩
  | t :: ts, rows, X, L, f, h0, h, hC => by
    unfold OTL at h
    obtain ⟨r, rs, X1, X2, rfl, rfl, h1, h2⟩ := h
    rw [List.append_assoc] at hC
    obtain ⟨f1, g1, g2, g3⟩ := OT.frz h0 h1 hC
    have h2' : OTL c f1 ts rs X2 := OTL.mono g1 h2
    obtain ⟨f2, k1, k2, k3, k4⟩ := OTL.frz (h0.trans g1) h2' g2
    refine ⟨f2, g1.trans k1, k2, by simp [k3], fun i r' y hr hy => ?_⟩
    cases i with
    | zero => simp at hr hy; subst hr; subst hy; exact TC.mono (.tn c) g3 k1
    | succ i => exact k4 i r' y (by simpa using hr) (by simpa using hy)
end
end
end Go.V
