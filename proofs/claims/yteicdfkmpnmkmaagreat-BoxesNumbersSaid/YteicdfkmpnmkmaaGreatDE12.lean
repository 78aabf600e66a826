/-
  Walks and laws of this seat; the base is the text Base.
-/
import Derived.Test.YteicdfkmpnmkmaaGreatDE11
namespace Go.D
open Go.RowKit Go.Sl
/-- A row that was appended to where it lies: its new name. -/
theorem HR.move {w0 w w' : World} {Φ : Fz} {σ : Sg} {h : Nat → Option AO} {n b b' x x' : Nat} {ob ao : AO} (H : HR w0 Φ σ h w) (hb : h b = some ob) (hd : ob ≠ .dead) (hs : σ b = some (b', x)) (hn : σ n = none) (hg : Grew w w' (some b')) (ho : BR w' (sgSet σ n b' x') b' x' ao) :
    HR w0 Φ (sgSet σ n b' x') (set1 (set1 h b .dead) n ao) w' := by
  obtain ⟨b0, x0, h1, h2, h3, _⟩ := H.live b ob hb hd
  rw [hs] at h1
  cases h1
  have hbn : b ≠ n := fun e => by rw [e, hn] at hs; cases hs
  have old : ∀ a p, set1 h b .dead a = some p → p ≠ .dead → a ≠ b ∧ h a = some p := fun a p ha hp => by
    unfold set1 at ha
    split at ha
    · cases ha; exact absurd rfl hp
    · rename_i e; exact ⟨e, ha⟩
  refine ⟨nilKept H.cw hg h2, fun a p ha hp => ?_, fun a a' p p' c y y' ha ha' hp hp' hc hc' => ?_⟩
  · rw [set1] at ha
    split at ha
    · rename_i e; subst e; cases ha
      exact ⟨b', x', sgSet_at, h2, Nat.lt_of_lt_of_le h3 hg.size, ho⟩
    · obtain ⟨e, ha⟩ := old a p ha hp
      obtain ⟨c, y, g1, g2, g3, g4⟩ := H.live a p ha hp
      refine ⟨c, y, sgSet_le hn _ _ g1, g2, Nat.lt_of_lt_of_le g3 hg.size, (g4.same (hg.block c g3 fun q => e ?_)).le (sgSet_le hn)⟩
      cases q
      exact H.sep a b p ob b' y x ha hb hp hd g1 hs
  · rw [set1] at ha ha'
    by_cases e : a = n <;> by_cases e' : a' = n
    · rw [e, e']
    · rw [if_neg e'] at ha'
      obtain ⟨f1, ha'⟩ := old a' p' ha' hp'
      subst e
      rw [sgSet_at] at hc
      cases hc
      simp only [sgSet, e', if_false] at hc'
      exact absurd (H.sep a' b p' ob _ y' x ha' hb hp' hd hc' hs) f1
    · rw [if_neg e] at ha
      obtain ⟨f1, ha⟩ := old a p ha hp
      subst e'
      rw [sgSet_at] at hc'
      cases hc'
      simp only [sgSet, e, if_false] at hc
      exact absurd (H.sep a b p ob _ y x ha hb hp hd hc hs) f1
    · rw [if_neg e] at ha
      rw [if_neg e'] at ha'
      obtain ⟨_, ha⟩ := old a p ha hp
      obtain ⟨_, ha'⟩ := old a' p' ha' hp'
      simp only [sgSet, e, e', if_false] at hc hc'
      exact H.sep a a' p p' c y y' ha ha' hp hp' hc hc'

section
variable {α : Type} {P : Program} {E : Env} {m : Nat} {t : Tr V} {lc : Ls} {h : H} {n : Nat} {k : KO α} {r : α}

theorem src_use {tx : TypeId} {sz : Nat} {y : V} {l : List (List C)} {ml : Nat} {rs RS : List Nat} {h h2 : Nat → Option AO} {w0 w : World} {Φ : Fz} {σ : Sg} {u : Value} (hS : SrcR P tx sz y l ml rs h) (hR : ∀ b ∈ rs, b ∈ RS) (h1 : ∀ b ∈ RS, h2 b = h b) (H : HR w0 Φ σ h2 w) (hu : CV σ y u) :
    ∃ news, Src P sz tx u ml news w ∧ RC σ sz l news := by
  obtain ⟨_, hrs, hS⟩ := hS
  refine hS σ u w hu fun b ob hb hob => ?_
  rcases hrs with e | ⟨b0, ob0, e, g1, g2⟩
  · rw [e] at hb; cases hb
  · rw [e] at hb; cases hb
    rw [hob] at g1; cases g1
    obtain ⟨b', x, f1, _, _, f4⟩ := H.live b ob ((h1 b (hR b (by rw [e]; simp))).trans hob) g2
    exact ⟨b', x, f1, f4⟩

/-- Behind an append that grows. -/
theorem grown_BR {w' : World} {σ : Sg} {b sz len ml need cap : Nat} {l : List (List C)} {olds news : List Value} {z : Array Value} {c c' : Tr (List C)} {el ty : TypeId} (hz : z.size = sz) (hl : l.length = ml) (ho : olds.length = len * sz) (hn : RC σ sz l news)
    (hneed : need = len + ml) (_hcap : need ≤ cap) (hb : w'.heap[b]? = some (.cells ((olds ++ news).toArray ++ Builtin.zeroCells z (cap - need)) ty (0, 0))) (hc : ∀ j, c'.get j = if len ≤ j ∧ j < len + l.length then l[j - len]? else c.get j)
    (hold : ∀ q row, q < len → c.get q = some row → row.length = sz ∧ ∃ vs, CL σ row vs ∧ ∀ r v, vs[r]? = some v → olds[q * sz + r]? = some v) : BR w' σ b (cap - need) (.cells sz c' need el false) := by
  have hnl := hn.1
  have hml : (len + ml) * sz = len * sz + ml * sz := Nat.add_mul _ _ _
  refine BR.ofCells hb (.inl rfl) ?_ (fun h => by cases h) (fun q row hq hr => ?_)
  · rw [Array.size_append, size_zeroCells, hz]
    simp only [List.size_toArray, List.length_append]
    rw [Nat.add_mul, hneed, ho, hnl, hl, hml]
    exact Nat.le_refl _
  · rw [hc] at hr
    have lift : ∀ j v, (olds ++ news)[j]? = some v → ((olds ++ news).toArray ++ Builtin.zeroCells z (cap - need))[j]? = some v := fun j v hj => by
      have hlt := (List.getElem?_eq_some_iff.1 hj).1
      rw [Array.getElem?_append_left (by simpa using hlt)]
      simpa using hj
    by_cases hh : len ≤ q ∧ q < len + l.length
    · rw [if_pos hh] at hr
      obtain ⟨g1, vs, g2, g3⟩ := hn.2.2 _ row hr
      refine ⟨g1, vs, g2, fun r v hv => lift _ v ?_⟩
      have := g3 r v hv
      have hq2 : len * sz ≤ q * sz := Nat.mul_le_mul_right _ hh.1
      rw [Nat.sub_mul] at this
      rw [List.getElem?_append_right (by omega), ho, show q * sz + r - len * sz = q * sz - len * sz + r by omega]
      exact this
    · rw [if_neg hh] at hr
      obtain ⟨g1, vs, g2, g3⟩ := hold q row (by omega) hr
      refine ⟨g1, vs, g2, fun r v hv => lift _ v ?_⟩
      have := g3 r v hv
      rw [List.getElem?_append_left (List.getElem?_eq_some_iff.1 this).1]
      exact this
end
end Go.D
