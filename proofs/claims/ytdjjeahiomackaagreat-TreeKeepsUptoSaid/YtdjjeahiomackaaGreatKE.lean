/-
  Walks and laws of this seat.
-/
import Derived.Test.YtdjjeahiomackaaGreatL6w
import Derived.Test.YtdjjeahiomackaaGreatGd
import Derived.Test.YtdjjeahiomackaaGreatBash
import Derived.Test.YtdjjeahiomackaaGreatQc
namespace Go.Proofs.YtdjjeahiomackaaGreat
set_option linter.unusedVariables false
set_option linter.unusedSimpArgs false
set_option linter.unusedSectionVars false
open Go.RowKit Go.Sl Go.V
abbrev fNo : F0 := ⟨fun _ => none⟩
theorem fNo_le (f : Fz) : Fz.le (@f00 fNo) f := fun b o h => by cases h
theorem mapK (l : List za4) : (l.map ofK).map toK = l := by
  letI := fNo
  rw [List.map_map]
  refine (List.map_congr_left fun x _ => ?_).trans (List.map_id l)
  show (⟨_, _, _,(x.Attrs.map ofA).map toA, _⟩ : za4) = x
  exact (congrArg (fun z => (⟨x.Kind, x.Name, x.Text, z, x.Closed⟩ : za4)) (mapA x.Attrs))
theorem gives0 [F0] {P : Go.Program} {g : Nat} {c' : TC} {m : Unit → Option c'.T} (h : ConOk P g ⟨[],[.d c'], m⟩) (val : c'.T → Go.Value) (hv : ∀ f y v, VR f (fun _ => none) (c'.v y) v → v = val y) {y : c'.T} (hm : m () = some y) {f : Fz} (hf : Fz.le f00 f) : Gives P g [] f (val y) := fun w0 L w hC =>
  (h.does () y hm f [] [] hf ⟨rfl, rfl⟩ w0 L w hC).mono fun e w' ⟨r0, f', L', h1, h2, h3, us, rvs, h4, h5, h6, v', h7, h8, h9⟩ => by
    subst h1 h9
    match rvs, h6 with
    | [r], _ =>
      have h7 : [v'] = [r] := by rw [← h7, h4]; rfl
      obtain rfl := (List.cons.inj h7).1
      exact ⟨by rw [h5]; exact congrArg _ (hv f' y _ h8), h3.weak h2⟩
set_option maxRecDepth 100000 in
theorem zry (k : Nat) {l : List za4} {b : Bool} (hm : zhk k (l.map ofK) = some b) {f : Fz} {v : Value} (h : RS zaf f v l) : Gives Tryz.prog 5 [v] f (.bool b) := by
  letI := fNo
  exact gives1 (zps k) (fun y => .bool y) (fun f y v h => h) hm (fNo_le f) (tok_S.2 (by rw [mapK]; exact h))
set_option maxRecDepth 100000 in
theorem zl2 (k : Nat) {b : Bool} (hm : zhl k = some b) (f : Fz) : Gives Tryz.prog 6 [] f (.bool b) := by
  letI := fNo
  exact gives0 (zpt k) (fun y => .bool y) (fun f y v h => h) hm (fNo_le f)
theorem zpw {k v k' : Int} : ∀ {m : List (Int × Int)}, igetM (iputM m k v) k' = if k = k' then some v else igetM m k'
  | [] => by
    by_cases h : k = k' <;> simp [iputM, igetM, h]
  | p :: m => by
    have ih := zpw (k := k) (v := v) (k' := k') (m := m)
    unfold iputM
    by_cases hp : p.1 = k
    · rw [if_pos hp]
      subst hp
      by_cases h : p.1 = k' <;> simp [igetM, h]
    · rw [if_neg hp]
      by_cases h : p.1 = k'
      · have : ¬ k = k' := fun e => hp (h.trans e.symm)
        simp [igetM, h, this]
      · simp only [igetM, List.find?_cons, h, decide_false] at ih ⊢
        exact ih
def GoodM (m : List (Int × Int)) : Prop := (m.map (·.1)).Nodup
theorem zt8 {k v : Int} : ∀ {m : List (Int × Int)}, (iputM m k v).map (·.1) = if k ∈ m.map (·.1) then m.map (·.1) else m.map (·.1) ++ [k]
  | [] => by simp [iputM]
  | p :: m => by
    have ih := zt8 (k := k) (v := v) (m := m)
    unfold iputM
    by_cases hp : p.1 = k
    · rw [if_pos hp]; simp [hp]
    · rw [if_neg hp, List.map_cons, ih]
      have hk : ¬ k = p.1 := fun e => hp e.symm
      by_cases h : k ∈ m.map (·.1)
      · rw [if_pos h, if_pos (by rw [List.map_cons]; exact List.mem_cons_of_mem _ h)]; rfl
      · rw [if_neg h, if_neg (by rw [List.map_cons]; intro h2; exact (List.mem_cons.1 h2).elim hk h)]; rfl
theorem GoodM.put {k v : Int} {m : List (Int × Int)} (h : GoodM m) : GoodM (iputM m k v) := by
  unfold GoodM at h ⊢
  rw [zt8]
  split
  · exact h
  · rename_i hk
    exact List.nodup_append.2 ⟨h, by simp, fun a ha b hb e => hk (by rw [List.mem_singleton.1 hb] at e; exact e ▸ ha)⟩
theorem GoodM.get {p : Int × Int} : ∀ {m : List (Int × Int)}, GoodM m → p ∈ m → igetM m p.1 = some p.2
  | q :: m, h, hp => by
    have h := List.nodup_cons.1 h
    rcases List.mem_cons.1 hp with rfl | hp
    · simp [igetM]
    · have hne : ¬ q.1 = p.1 := fun e => h.1 (by show q.1 ∈ _; rw [e]; exact List.mem_map_of_mem hp)
      have := GoodM.get (m := m) h.2 hp
      simp only [igetM, List.find?_cons, hne, decide_false] at this ⊢
      exact this
def restS (s : ByteArray) (p : Nat) : List Int := runesFr s (s.size - p) p
theorem zqs {s : ByteArray} {p : Nat} (h : ¬ p < s.size) : restS s p = [] := by
  unfold restS
  rw [show s.size - p = 0 by omega]; rfl
theorem zm4 {s : ByteArray} {p : Nat} (h : p < s.size) : restS s p = ((Utf8.decode s p).1 : Int) :: restS s (p + (Utf8.decode s p).2) := by
  have hd := zft s p
  unfold restS
  obtain ⟨m, hm⟩ : ∃ m, s.size - p = m + 1 := ⟨s.size - p - 1, by omega⟩
  rw [hm, runesFr, if_pos h]
  congr 1
  have := zmn s (s.size - (p + (Utf8.decode s p).2)) (p + (Utf8.decode s p).2) (m - (s.size - (p + (Utf8.decode s p).2))) (Nat.le_refl _)
  rw [show s.size - (p + (Utf8.decode s p).2) + (m - (s.size - (p + (Utf8.decode s p).2))) = m by omega] at this
  exact this
theorem ztu (s : ByteArray) : restS s 0 = runesIn s := rfl
theorem zrz : ∀ l : List za4, tokO l ≤ l.length
  | [] => Nat.le_refl _
  | x :: l => by
    have := zrz l
    unfold tokO at this ⊢
    rw [List.map_cons, List.sum_cons, List.length_cons]
    split <;> omega
theorem elK_le : ∀ l : List KT, elK l ≤ l.length
  | [] => Nat.le_refl _
  | x :: l => by
    have := elK_le l
    unfold elK at this ⊢
    rw [List.map_cons, List.sum_cons, List.length_cons]
    split <;> omega
section
variable {l : List zal} {q : Nat} (h : q < l.length)
include h
theorem zqo (r : Int) : sumK r ((l.map kt).take (q + 1)) = sumK r ((l.map kt).take q) + cntS r l[q].Text := by
  have := zir (f := fun k : KT => cntS r k.2) (l := l.map kt) (j := q) (by simpa using h)
  rw [List.getElem_map] at this
  exact this
theorem ztd : elK ((l.map kt).take (q + 1)) = elK ((l.map kt).take q) + if l[q].Kind = 1 then 1 else 0 := by
  have := zir (f := fun k : KT => if k.1 = 1 then 1 else 0) (l := l.map kt) (j := q) (by simpa using h)
  rw [List.getElem_map] at this
  exact this
end
end Go.Proofs.YtdjjeahiomackaaGreat
