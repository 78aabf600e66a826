/-
  Walks and laws of this seat.
-/
import Derived.Test.YtdjjeahiomackaaGreatL6sp
import Derived.Test.YtdjjeahiomackaaGreatGd
import Derived.Test.YtdjjeahiomackaaGreatL6kc
namespace Go.Proofs.YtdjjeahiomackaaGreat
set_option linter.unusedVariables false
set_option linter.unusedSimpArgs false
set_option linter.unusedSectionVars false
section
open Go.RowKit Go.Sl
def OwnR (f0 f : Fz) (v : Value) (k : Nat) (e : TypeId) (rows : List (List Value)) : Prop :=
  (∀ r ∈ rows, OneRow k r) ∧ ((v = .slice none 0 0 ∧ rows = []) ∨ ∃ (g c : Nat) (cur : Array Value), v = .slice (some ⟨g,0, none⟩) rows.length c ∧ rows.length ≤ c ∧ c ≤ maxLen ∧ cur.size = c * k ∧ f g = some (.cells cur e (0,0)) ∧ f0 g = none ∧ cur.toList.take (rows.length * k) = rows.flatten)
theorem OwnR.le {f0 f f' : Fz} {v : Value} {k : Nat} {e : TypeId} {rows : List (List Value)} (h : OwnR f0 f v k e rows) (hf : Fz.le f f') : OwnR f0 f' v k e rows := by
  obtain ⟨h0, h | ⟨g, c, cur, h1, h2, h3, h4, h5, h6, h7⟩⟩ := h
  · exact ⟨h0, .inl h⟩
  · exact ⟨h0, .inr ⟨g, c, cur, h1, h2, h3, h4, hf _ _ h5, h6, h7⟩⟩
theorem OwnR.base {f0 f1 f : Fz} {v : Value} {k : Nat} {e : TypeId} {rows : List (List Value)} (h : OwnR f1 f v k e rows) (hf : Fz.le f0 f1) : OwnR f0 f v k e rows := by
  obtain ⟨h0, h | ⟨g, c, cur, h1, h2, h3, h4, h5, h6, h7⟩⟩ := h
  · exact ⟨h0, .inl h⟩
  · exact ⟨h0, .inr ⟨g, c, cur, h1, h2, h3, h4, h5, zm7 hf h6, h7⟩⟩
theorem OwnR.rd {f0 f : Fz} {v : Value} {k : Nat} {e : TypeId} {rows : List (List Value)} (h : OwnR f0 f v k e rows) : Rd f [] v k rows := by
  obtain ⟨h0, ⟨rfl, rfl⟩ | ⟨g, c, cur, rfl, h2, h3, h4, h5, h6, h7⟩⟩ := h
  · exact Rd.nil _ _ _
  · refine ⟨h0, some ⟨g,0, none⟩, c, rfl, h2, fun h => (by cases h), fun a ha => ?_⟩
    cases ha
    refine ⟨fun _ => rfl, fun i r hr j x hx => .inl ⟨cur, e,(0,0), h5, ?_⟩⟩
    have := ze5 (fun r hr => (h0 r hr).1) hr hx
    rw [← h7, List.getElem?_take] at this
    split at this
    · simpa using this
    · cases this
theorem OwnR.blk {f0 f : Fz} {v : Value} {k : Nat} {e : TypeId} {rows : List (List Value)} (h : OwnR f0 f v k e rows) {b : Nat} (hb : v.ownBlock = some b) : f0 b = none ∧ ∃ o, f b = some o := by
  obtain ⟨_, ⟨rfl, _⟩ | ⟨g, c, cur, rfl, h2, h3, h4, h5, h6, h7⟩⟩ := h
  · cases hb
  · cases hb; exact ⟨h6, _, h5⟩
theorem St.frzR {n : Nat} {w0 w : World} {f : Fz} {L : List Ent} {E : List (Nat × Value)} {a : Act} {v : Value} {e : TypeId} {k : Nat} {rows : List (List Value)} (i : Nat) (hs : St n w0 f L E a w) (hi : L[i]? = some (.row v e k rows)) :
    ∃ f', Fz.le f f' ∧ St n w0 f' (L.eraseIdx i) E a w ∧ OwnR f f' v k e rows := by
  have hC := hs.cw
  obtain ⟨f', h1, h2, h3, h4⟩ := hC.freezeAt hi
  have hap := hC.apart _ (List.mem_of_getElem? hi)
  have hh := hC.live _ (List.mem_of_getElem? hi)
  obtain ⟨⟨_, hh⟩, hl⟩ := hh
  rcases hh with ⟨rfl, h0'⟩ | ⟨g, cap, cur, rfl, hg, hh, hle, hcm, hcs, htk⟩
  · exact ⟨f', h1, ⟨hs.ev, h2⟩, hl, .inl ⟨rfl, List.eq_nil_of_length_eq_zero h0'⟩⟩
  · exact ⟨f', h1, ⟨hs.ev, h2⟩, hl, .inr ⟨g, cap, cur, rfl, hle, hcm, by omega, by rw [h3 g rfl]; exact hh, hap g rfl, htk⟩⟩
theorem letgoK {f0 f : Fz} {k : Nat} {e : TypeId} {w0 w : World} {X : List Ent} (hC : Cw w0 f X w) : ∀ {ps : List (Value × List (List Value))}, (∀ p ∈ ps, OwnR f0 f p.1 k e p.2) → (ps.Pairwise fun p q => ∀ b, p.1.ownBlock = some b → q.1.ownBlock ≠ some b) →
    ∃ g : Fz, Fz.le g f ∧ (∀ b o, f b = some o → (∀ p ∈ ps, p.1.ownBlock ≠ some b) → g b = some o) ∧ Cw w0 g (ps.map (fun p => .row p.1 e k p.2) ++ X) w
  | [], _, _ => ⟨f, .refl f, fun _ _ h _ => h, hC⟩
  | p :: ps, hO, hP => by
    obtain ⟨hP1, hP2⟩ := List.pairwise_cons.1 hP
    obtain ⟨g, h1, h2, h3⟩ := letgoK hC (fun q hq => hO q (List.mem_cons_of_mem _ hq)) hP2
    obtain ⟨v, rows⟩ := p
    obtain ⟨h0, ⟨h4, h5⟩ | ⟨b, c, cur, h4, h5, h6, h7, h8, h9, h10⟩⟩ := hO (v, rows) (List.mem_cons_self ..)
    · have h4 : v = .slice none 0 0 := h4
      have h5 : rows = [] := h5
      subst h4 h5
      exact ⟨g, h1, fun b o hb hn => h2 b o hb fun q hq => hn q (List.mem_cons_of_mem _ hq), h3.nilRow e k⟩
    · have h4 : v = .slice (some ⟨b,0, none⟩) rows.length c := h4
      have hv : v.ownBlock = some b := by rw [h4]; rfl
      have hne : ∀ x ∈ ps.map (fun p => Ent.row p.1 e k p.2) ++ X, x.key ≠ some b := fun x hx ek => by
        rcases List.mem_append.1 hx with hx | hx
        · obtain ⟨q, hq, rfl⟩ := List.mem_map.1 hx
          exact hP1 q hq b hv ek
        · rw [hC.apart x hx b ek] at h8; cases h8
      refine ⟨fun x => if x = b then none else g x, fun x o hx => ?_, fun x o hx hn => ?_, h3.os, h3.tape, h3.output, h3.size, fun x o hx => ?_, fun x hx => ?_, fun x hx b' hb' => ?_, fun i j x y hi hj hij z hz hz' => ?_⟩
      · (try dsimp only at hx)
        split at hx
        · cases hx
        · exact h1 x o hx
      · show (if x = b then none else g x) = some o
        rw [if_neg (fun e => hn (v, rows) (List.mem_cons_self ..) (by rw [e]; exact hv))]
        exact h2 x o hx fun q hq => hn q (List.mem_cons_of_mem _ hq)
      · (try dsimp only at hx)
        split at hx
        · cases hx
        · exact h3.frz x o hx
      · rcases List.mem_cons.1 hx with rfl | hx
        · refine ⟨⟨zbc fun r hr => (h0 r hr).1, .inr ⟨b, c, cur, h4, Nat.zero_le _, hC.frz b _ h8, h5, h6, by omega, h10⟩⟩, h0⟩
        · exact h3.live x hx
      · show (if b' = b then none else g b') = none
        rcases List.mem_cons.1 hx with rfl | hx
        · have hb' : v.ownBlock = some b' := hb'
          rw [hv] at hb'
          cases hb'
          rw [if_pos rfl]
        · split
          · rfl
          · exact h3.apart x hx b' hb'
      · cases i with
        | zero =>
          cases hi
          have hz : v.ownBlock = some z := hz
          rw [hv] at hz
          cases hz
          cases j with
          | zero => exact hij rfl
          | succ j => exact hne y (List.mem_of_getElem? (i := j) (by simpa using hj)) hz'
        | succ i =>
          cases j with
          | zero =>
            cases hj
            have hz' : v.ownBlock = some z := hz'
            rw [hv] at hz'
            cases hz'
            exact hne x (List.mem_of_getElem? (i := i) (by simpa using hi)) hz
          | succ j => exact h3.sep i j x y (by simpa using hi) (by simpa using hj) (by omega) z hz hz'
end
section
open Go.RowKit Go.Sl Go.V
abbrev fNo : F0 := ⟨fun _ => none⟩
theorem zso (f : Fz) : Fz.le (@f00 fNo) f := fun b o h => by cases h
theorem mapK (l : List za4) : (l.map ofK).map toK = l := by
  letI := fNo
  rw [List.map_map]
  refine (List.map_congr_left fun x _ => ?_).trans (List.map_id l)
  show (⟨_, _, _,(x.Attrs.map ofA).map toA, _⟩ : za4) = x
  exact (congrArg (fun z => (⟨x.Kind, x.Name, x.Text, z, x.Closed⟩ : za4)) (mapA x.Attrs))
theorem gives2 [F0] {P : Go.Program} {g : Nat} {c d c' : TC} {m : c.T × d.T → Option c'.T} (h : ConOk P g ⟨[.d c, .d d],[.d c'], m⟩) (val : c'.T → Go.Value) (hv : ∀ f y v, VR f (fun _ => none) (c'.v y) v → v = val y) {x : c.T} {z : d.T} {y : c'.T} (hm : m (x, z) = some y) {f : Fz} (hf : Fz.le f00 f) {v u : Go.Value} (hx : VR f (fun _ => none) (c.v x) v) (hz : VR f (fun _ => none) (d.v z) u) : Gives P g [v, u] f (val y) := fun w0 L w hC =>
  (h.does (x, z) y hm f [v, u] [] hf ⟨v,[u],[],[], rfl, rfl, ⟨hx, rfl⟩, u, rfl, hz, rfl⟩ w0 L w hC).mono fun e w' ⟨r0, f', L', h1, h2, h3, us, rvs, h4, h5, h6, v', h7, h8, h9⟩ => by
    subst h1 h9
    match rvs, h6 with
    | [r], _ =>
      have h7 : [v'] = [r] := by rw [← h7, h4]; rfl
      obtain rfl := (List.cons.inj h7).1
      exact ⟨by rw [h5]; exact congrArg _ (hv f' y _ h8), h3.weak h2⟩
theorem gives0 [F0] {P : Go.Program} {g : Nat} {c' : TC} {m : Unit → Option c'.T} (h : ConOk P g ⟨[],[.d c'], m⟩) (val : c'.T → Go.Value) (hv : ∀ f y v, VR f (fun _ => none) (c'.v y) v → v = val y) {y : c'.T} (hm : m () = some y) {f : Fz} (hf : Fz.le f00 f) : Gives P g [] f (val y) := fun w0 L w hC =>
  (h.does () y hm f [] [] hf ⟨rfl, rfl⟩ w0 L w hC).mono fun e w' ⟨r0, f', L', h1, h2, h3, us, rvs, h4, h5, h6, v', h7, h8, h9⟩ => by
    subst h1 h9
    match rvs, h6 with
    | [r], _ =>
      have h7 : [v'] = [r] := by rw [← h7, h4]; rfl
      obtain rfl := (List.cons.inj h7).1
      exact ⟨by rw [h5]; exact congrArg _ (hv f' y _ h8), h3.weak h2⟩
set_option maxRecDepth 100000 in
theorem zri (k : Nat) {l : List za4} {b : Bool} (hm : zhr k (l.map ofK) = some b) {f : Fz} {v : Value} (h : RS zag f v l) : Gives Tryz.prog 5 [v] f (.bool b) := by
  letI := fNo
  exact gives1 (zpj k) (fun y => .bool y) (fun f y v h => h) hm (zso f) (tok_S.2 (by rw [mapK]; exact h))
set_option maxRecDepth 100000 in
theorem zt8 (k : Nat) {a b : List zaj} {z : Bool} (hm : zbk k (a.map ofA) (b.map ofA) = some z) {f : Fz} {va vb : Value} (ha : RS zb4 f va a) (hb : RS zb4 f vb b) : Gives Tryz.prog 10 [va, vb] f (.bool z) := by
  letI := fNo
  exact gives2 (zf5 k) (fun y => .bool y) (fun f y v h => h) hm (zso f) (att_S.2 (by rw [mapA]; exact ha)) (att_S.2 (by rw [mapA]; exact hb))
set_option maxRecDepth 100000 in
theorem zo6 (k : Nat) {a b : zab} {z : Bool} (hm : zfc k (ofT a) (ofT b) = some z) {f : Fz} {ra rb : List Value} (ha : zdk.R f ra a) (hb : zdk.R f rb b) : Gives Tryz.prog 11 [.agg ra.toArray, .agg rb.toArray] f (.bool z) := by
  letI := fNo
  exact gives2 (zmz k) (fun y => .bool y) (fun f y v h => h) hm (zso f) (TC.vR.2 ⟨ra, tre_R.2 (show zdk.R f ra (toT (ofT a)) by rw [zs9]; exact ha), rfl⟩) (TC.vR.2 ⟨rb, tre_R.2 (show zdk.R f rb (toT (ofT b)) by rw [zs9]; exact hb), rfl⟩)
set_option maxRecDepth 100000 in
theorem zl3 (k : Nat) {b : Bool} (hm : zhs k = some b) (f : Fz) : Gives Tryz.prog 6 [] f (.bool b) := by
  letI := fNo
  exact gives0 (zpk k) (fun y => .bool y) (fun f y v h => h) hm (zso f)
def tokRow (x : za4) (v : Value) : List Value := [.int .i64 x.Kind, .string x.Name, .string x.Text, v, .bool x.Closed]
end
end Go.Proofs.YtdjjeahiomackaaGreat
