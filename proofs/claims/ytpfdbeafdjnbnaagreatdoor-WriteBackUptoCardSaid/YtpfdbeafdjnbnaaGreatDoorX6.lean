/-
  Walks and laws of this seat.
-/
import Derived.Test.YtpfdbeafdjnbnaaGreatDoorBash
import Derived.Test.YtpfdbeafdjnbnaaGreatDoorL6t
import Derived.Test.YtpfdbeafdjnbnaaGreatDoorRows
import Derived.Test.YtpfdbeafdjnbnaaGreatDoorX3
namespace Go.Proofs.YtpfdbeafdjnbnaaGreatDoor
set_option linter.unusedVariables false
set_option linter.unusedSimpArgs false
set_option linter.unusedSectionVars false
section
set_option maxHeartbeats 4000000
set_option maxRecDepth 100000
open Go.RowKit Go.Sl
def zbn : Option Int :=
  some (-1)
def zb2 (p0 : (List Int)) : Nat → Option Int
  | 0 => none
  | k5 + 1 =>
  (bif (decide (0 < (p0.length : Int))) then none else
  zbn)
def zbx (n : Nat) (p0 : (List Int)) (p1 : (Int → Option Bool)) (A : (List za4)) : Option Int :=
  zb2 p0 n
theorem zgd (n : Nat) {f : Fz} {ab : List Nat} {A : List za4} {p0 : (List Int)} {a0 : Value} {p1 : (Int → Option Bool)} {g1 : FuncId} {cap1 : List Value} {res : Int} (h0 : RS (tP ab) f a0 p0) (hg1 : Has Tryz.prog g1) (hf1 : ∀ f', Fz.le f f' → ∀ (z0 : Int) (c0 : Value) (r : Bool), RP ab c0 z0 → p1 z0 = some r → GivesR nsh Tryz.prog g1 ([c0] ++ cap1) f' [] ab A (.bool r)) (hm : zbx n p0 p1 A = some res) : GivesR nsh Tryz.prog 101 [a0, .func (.func g1) #[] cap1.toArray] f [] ab A (.int .i64 res) := by
 unfold zbx at hm
 intro w0 L0 L w hA hC
 obtain ⟨rw1, hR2, hW3⟩ := h0
 refine enter Tryz.func101 rfl Tryz.ntmps101 (by simp) hC fun a hs => ?_
 have hle := Fz.le.refl f
 refine Wq fun hK1 => sA hs rfl fun hs => za0 <| hK1 <| Ws fun hK2 => Wq fun hK3 => sM hs rfl fun hs => s1 hs (zc3 hR2 hW3 rfl U97) fun hs => ?_
 refine sM hs rfl fun hs => za0 <| hK3 ?_
 refine zaq (fun a w => zbn = some res ∧ St 19 w0 f (L) [] a w) ?_ ?_
 ·clear hs hm
  rintro a w ⟨hm, hs⟩
  unfold zbn at hm
  refine hK2 <| Wq fun hK4 => sA hs rfl fun hs => za0 <| hK4 <| zax ?_
  obtain rfl := Option.some.inj hm
  refine RtV1 hs rfl (rv_t hs rfl) ?_
  exact ⟨rfl,(hs.weak hle).cw⟩
 refine zam fun Qe5 hB5 hO5 => zd1 (fun (k : Nat) a w => zb2 p0 k = some res ∧ St 19 w0 f (L) [(7, .int .i64 ((p0.length : Int))),(8, .int .i64 (0))] a w) (fun k => k) n ⟨hm, hs.sub ⟨rfl, rfl, trivial⟩⟩ ?_
 clear hs hm
 intro k
 rintro a w ⟨hm, hs⟩
 intro K6 hK6
 cases k with
 | zero => simp [zb2] at hm
 | succ k5 =>
  rw [zb2] at hm
  refine Wq fun hK7 => s1 hs (zgq rfl rfl) fun hs => za0 <| hK7 <| Ws fun hK8 => ?_
  refine zah hs rfl (fun hg6 => ?_) (fun hg6 => ?_)
  ·replace hm := oc_t hg6 hm
   refine zaj <| hK8 <| Ws fun hK9 => zam fun Qe10 hB10 hO10 => Ws fun hK11 => ?_
   cases hm
  replace hm := oc_f hg6 hm
  refine zc0 <| hB5 _ _ ?_
  exact ⟨hm, hs.sub trivial⟩
def zbd (n : Nat) (p0 : (List Int)) (p1 : (Int → Option Bool)) (A : (List za4)) : Option (List Int) :=
  (zbx n p0 p1 A).bind fun x4 =>
  (bif (decide (x4 = (-1))) then some p0 else
  none)
theorem zg7 (n : Nat) {f : Fz} {ab : List Nat} {A : List za4} {p0 : (List Int)} {a0 : Value} {a0r : List (List Value)} {p1 : (Int → Option Bool)} {g1 : FuncId} {cap1 : List Value} {res : (List Int)} (h0 : RW (tP ab) f a0r p0) (hg1 : Has Tryz.prog g1) (hf1 : ∀ f', Fz.le f f' → ∀ (z0 : Int) (c0 : Value) (r : Bool), RP ab c0 z0 → p1 z0 = some r → GivesR nsh Tryz.prog g1 ([c0] ++ cap1) f' [] ab A (.bool r)) (hm : zbd n p0 p1 A = some res) : DoesR nsh Tryz.prog 80 [a0, .func (.func g1) #[] cap1.toArray] f [.row a0 96 1 a0r] ab A (fun r f' L' => ∃ (u0 : Value) (u0r : List (List Value)), L' = [.row u0 96 1 u0r] ∧ r = u0 ∧ RW (tP ab) f' u0r res) := by
 unfold zbd at hm
 intro w0 L0 L w hA hC
 replace hC : Cw w0 f (.row a0 96 1 a0r :: L) w := hC
 refine enter Tryz.func80 rfl Tryz.ntmps80 (by simp) hC fun a hs => ?_
 have hle := Fz.le.refl f
 refine Wq fun hK1 => sA hs rfl fun hs => za0 <| hK1 <| Wq fun hK2 => sM hs rfl fun hs => sM hs rfl fun hs => ?_
 obtain ⟨x4, hx5, hm⟩ := ob hm
 refine sy hs (zdr (cap := []) rfl has101 rfl (fun w9 hw9 => callsF (Lr := [.row a0 96 1 a0r]) (Lf := L) (zal _ 0 rfl) hw9 (fun w9 hw9 => lent0 hw9 (fun f9_0 w9 hle9_0 hRl0 hw9 => GivesR.at (X := []) (zgd n ⟨a0r, hRl0, h0.le hle9_0⟩ hg1 (fun f'' h'' => hf1 f'' (hle9_0.trans h'')) hx5) (hA.le hle9_0) (.refl _) hw9)))) fun _ _ hs => sA hs rfl fun hs => za0 <| hK2 <| Ws fun hK3 => Wq fun hK4 => sM hs rfl fun hs => s1 hs (zct rfl rfl) fun hs => za0 ?_
 refine hK4 ?_
 refine zah hs rfl (fun hg6 => ?_) (fun hg6 => ?_)
 ·replace hm := oc_t hg6 hm
  refine Wq fun hK5 => sM hs rfl fun hs => sA hs rfl fun hs => za0 <| hK5 <| zax ?_
  obtain rfl := Option.some.inj hm
  refine RtV1 hs rfl (rv_t hs rfl) ?_
  exact ⟨_, f,[.row a0 96 1 a0r], rfl, hle, hs.cw, a0, a0r, rfl, rfl, h0⟩
 replace hm := oc_f hg6 hm
 refine zaj <| hK3 <| Ws fun hK6 => Ws fun hK7 => ?_
 cases hm
end
section
open Go.RowKit Go.Sl
open Go.V (T)
theorem zfd {j : Nat} (h : j ≤ 9223372036854775806) : w64 ((j : Int) + 1) = ((j + 1 : Nat) : Int) := by
  rw [show w64 ((j : Int) + 1) = (j : Int) + 1 from zg4 (by omega)]; rfl
theorem foc {α : Type} {A : List α} {H : List Nat} {i : Nat} {x : α} (h : A[i]? = some x) (hn : i ∉ H) : focM A H (i : Int) = some x := by
  unfold focM
  rw [Int.toNat_natCast, show H.contains i = false from by simpa using hn, cond_false]
  unfold geti
  rw [if_pos (by omega), Int.toNat_natCast]; exact h
theorem T.foc {α β : Type} {A : List α} {H : List Nat} {i : Nat} {x : α} {G : Nat → Nat → α → Option β} {Q : β → Prop} (h : A[i]? = some x) (hn : i ∉ H) (g : T (fun k n => G k n x) Q) : T (fun k n => (focM A H (i : Int)).bind fun r => G k n r) Q := by
  rw [_root_.Go.Proofs.YtpfdbeafdjnbnaaGreatDoor.foc h hn]; exact g
theorem T.getN {α β : Type} {A : List α} {i : Nat} {x : α} {G : Nat → Nat → α → Option β} {Q : β → Prop} (h : A[i]? = some x) (g : T (fun k n => G k n x) Q) : T (fun k n => (geti A (i : Int)).bind fun r => G k n r) Q := by
  have e : geti A (i : Int) = some x := by unfold geti; rw [if_pos (by omega), Int.toNat_natCast]; exact h
  rw [e]; exact g
theorem w64n {i : Int} (h : -9223372036854775808 ≤ i ∧ i ≤ 9223372036854775807) : w64 i = i := zg4 h
theorem index_T {l : List ByteArray} {s : ByteArray} (hl : l.length ≤ 1000) : T (fun k _ => zci k l s) fun r => 0 ≤ r ↔ s ∈ l := by
  have key : ∀ (m j : Nat), l.length - j ≤ m → T (fun _ n => zas l s n (j : Int)) fun r => 0 ≤ r ↔ s ∈ l.drop j := by
    intro m
    induction m with
    | zero =>
      intro j h
      refine T.step ?_
      unfold zas
      refine T.dec (fun _ => by omega) fun _ => T.some ?_
      rw [List.drop_eq_nil_of_le (by omega)]; simp
    | succ m ih =>
      intro j h
      refine T.step ?_
      unfold zas
      refine T.dec (fun hj => ?_) fun hj => T.some ?_
      · have hj : j < l.length := by omega
        have hd := List.drop_eq_getElem_cons hj
        refine T.getN (List.getElem?_eq_getElem hj) (T.dec (fun e => T.some ⟨fun _ => by rw [hd, e]; exact List.mem_cons_self .., fun _ => by omega⟩) fun e => ?_)
        rw [zfd (by omega), hd]
        exact (ih (j + 1) (by omega)).mono fun r h => h.trans ⟨fun h => List.mem_cons_of_mem _ h, fun h => (List.mem_cons.1 h).resolve_left e⟩
      · rw [List.drop_eq_nil_of_le (by omega)]; simp
  exact T.diag (F := fun _ n => zas l s n 0) (key _ 0 (Nat.le_refl _))
theorem in_T {l : List ByteArray} {s : ByteArray} (hl : l.length ≤ 1000) : T (fun k _ => zid k s l) fun b => b = true ↔ s ∈ l := by
  unfold zid zat
  exact T.bind (P := fun b => b = true ↔ s ∈ l) (T.bind (index_T hl) fun r h => T.some (decide_eq_true_iff.trans h)) fun r h => T.some h
theorem marked_T {s : ByteArray} : T (fun k _ => zht k s) fun _ => True := by
  unfold zht
  exact T.bind (in_T (by decide)) fun r h => T.some trivial
theorem T.dg {α : Type} {F : Nat → Nat → Option α} {Q : α → Prop} (h : T F Q) : T (fun _ n => F n n) Q := by
  obtain ⟨r, h1, K, h2⟩ := h
  exact ⟨r, h1, K, fun _ n _ hn => h2 n n hn hn⟩
theorem T.fl {α : Type} {f : Nat → Option α} {Q : α → Prop} (h : T (fun _ n => f n) Q) : T (fun k _ => f k) Q := by
  obtain ⟨r, h1, K, h2⟩ := h
  exact ⟨r, h1, K, fun k _ hk _ => h2 k k hk hk⟩
section
variable {A : List za4} {o : List Int} {b : za7}
theorem close_T {i : Nat} (hb : b.open_ = o) (hi : i ≤ o.length) {Q : za7 → Prop} (h : Q ⟨o.take i, b.count, b.deep⟩) : T (fun k _ => zdw k b (i : Int)) Q := by
  unfold zdw
  rw [hb]
  refine T.cut (by omega) (by omega) (by omega) fun r hr _ => T.some ?_
  rw [hr]; simpa using h
end
theorem ztv {p : Nat → Int → Option Bool} {A : List za4} : T (fun k _ => zbd k [] (p k) A) (· = []) := by
  unfold zbd zbx
  refine T.bind (P := (· = -1)) ?_ fun r hr => ?_
  · refine T.diag (F := fun k n => zb2 [] n) (T.step ?_)
    unfold zb2 zbn
    exact T.dec (fun h => by simp at h) fun _ => T.some rfl
  · subst hr
    exact T.dec (fun _ => T.some rfl) fun h => absurd rfl h
theorem T.addT {β : Type} {s t : ByteArray} {G : Nat → Nat → ByteArray → Option β} {Q : β → Prop} (h : s.size + t.size ≤ 9223372036854775807) (g : T (fun k n => G k n (s ++ t)) Q) : T (fun k n => (addS s t).bind fun r => G k n r) Q := by
  unfold addS
  rw [decide_eq_true h, cond_true]; exact g
end
end Go.Proofs.YtpfdbeafdjnbnaaGreatDoor
