/-
  Walks and laws of this seat; the base is the text Base.
-/
import Derived.Test.YtklcdfnhdljkjaaDoorP7V
namespace Go.Proofs.YtklcdfnhdljkjaaDoor
open Go.RowKit Go.Sl
section
variable {ns : List api_Node} {k : Nat}
/-- The part from the node k on: what it is, and that it can be laid below a root of its own. -/
theorem two_of (h : RT ns) (hk1 : 1 ≤ k) (hk : k < ns.length) (hsm : ns.length ≤ 300) (_hkd : (nd ns k).Kind = 1) : ∃ p : dom_Part, (∀ n, 6600 ≤ n → law7_part n ⟨ns⟩ (k : Int) = some (cleanP p)) ∧ okP (cleanP p) ∧ psize (cleanP p) ≤ 300 ∧
    Two ns (lay {Name := bs [114, 111, 111, 116], Text := bs [], Attrs := [], Kids := [cleanP p]} 0 (-1) (-1) (-1)) k (nsz p) := by
  obtain ⟨p, j, j1, j2, j3, j4, j5, j6, _, _⟩ := sub_lay ns (fun j hj => h.good hj) (fun j hj => h.alone hj) h.ref ns.length k (by omega) hk
  have hA : (ns.take k).length = k := by rw [List.length_take]; omega
  have hns : ns = ns.take k ++ (lay p (ns.take k).length (par ns k) (nd ns k).Prev (nd ns k).Next ++ ns.drop j) := by
    rw [hA, ← j3, List.take_append_drop]
  have hz := nsz_pos p
  have hcp := psize_clean (psize p) p (Nat.le_refl _)
  refine ⟨p, fun n hn => ?_, okP_clean (psize p) p (Nat.le_refl _) j6, by omega, ?_⟩
  · have := part_lay (ns := ns) (by omega) (psize p) p n (ns.take k) (ns.drop j) (par ns k) (nd ns k).Prev (nd ns k).Next (Nat.le_refl _) (by omega) hns
    rw [hA] at this
    exact this
  · generalize hR : ({Name := bs [114, 111, 111, 116], Text := bs [], Attrs := [], Kids := [cleanP p]} : dom_Part) = R
    have hRn : R.Name ≠ bs [] := by
      rw [← hR]
      show bs [114, 111, 111, 116] ≠ bs []
      decide
    have hus : lay R 0 (-1) (-1) (-1) = enode (bs [114, 111, 111, 116]) [] (-1) ((1 : Nat) : Int) (lastOf [cleanP p] 1 (-1)) (-1) (-1) :: lay p 1 ((0 : Nat) : Int) (-1) (-1) := by
      rw [lay_elem hRn, ← hR]
      simp only [lays, List.append_nil, lay_clean]
      rfl
    -- the two places
    obtain ⟨x, y, r, r', e1, e2, e3, e4, e5, e6, e7, e8⟩ := lay_sim (B := k) (B' := 1) p 0 (par ns k) ((0 : Nat) : Int) (nd ns k).Prev (-1) (nd ns k).Next (-1)
    rw [Nat.add_zero] at e1 e2
    have hl1 := lay_len p k (par ns k) (nd ns k).Prev (nd ns k).Next
    have hl2 := lay_len p 1 ((0 : Nat) : Int) (-1) (-1)
    have hseg : ∀ m, m < nsz p → ∀ w, (lay p k (par ns k) (nd ns k).Prev (nd ns k).Next)[m]? = some w → nd ns (k + m) = w := fun m hm w hw => by
      have : ns[k + m]? = some w := by
        rw [hns, List.getElem?_append_right (by omega), hA, Nat.add_sub_cancel_left, List.getElem?_append_left (by omega)]; exact hw
      unfold nd
      rw [List.getD_eq_getElem?_getD, this]; rfl
    have hsegu : ∀ m, ∀ w, (lay p 1 ((0 : Nat) : Int) (-1) (-1))[m]? = some w → nd (lay R 0 (-1) (-1) (-1)) (1 + m) = w := fun m w hw => by
      unfold nd
      rw [List.getD_eq_getElem?_getD, hus, Nat.add_comm, List.getElem?_cons_succ, hw]; rfl
    have hx : nd ns k = x := hseg 0 (by omega) x (by rw [e1]; rfl)
    have hy : nd (lay R 0 (-1) (-1) (-1)) 1 = y := hsegu 0 y (by rw [e2]; rfl)
    have hulen : (lay R 0 (-1) (-1) (-1)).length = 1 + nsz p := by rw [hus, List.length_cons, hl2]; omega
    -- it stands well
    have halone : ∀ w ∈ lay p k (par ns k) (nd ns k).Prev (nd ns k).Next, aloneP w := fun w hw => by
      obtain ⟨m, hm⟩ := List.getElem?_of_mem hw
      have hm2 : m < nsz p := by have := (List.getElem?_eq_some_iff.1 hm).1; omega
      rw [← hseg m hm2 w hm]
      exact h.alone (by omega)
    have hgc : goodP (cleanP p) := good_of_alone (cleanP p) k (par ns k) (nd ns k).Prev (nd ns k).Next (by rw [lay_clean]; exact halone)
    have hgR : goodP R := by
      rw [← hR]
      unfold goodP
      exact ⟨fun e => absurd e (by decide), fun _ => ⟨by simp, fun i a ha => by simp at ha, hgc, trivial⟩⟩
    obtain ⟨hlk, _⟩ := lay_linked hRn hgR
    refine ⟨h, ⟨by omega, by omega, hlk⟩, hk1, by omega, hulen, hz, by rw [hx, hy]; exact e3, ?_, by rw [hy]; exact e7, fun m m1 m2 => ?_, ?_⟩
    · unfold par; rw [hy]; exact e5
    · obtain ⟨m, rfl⟩ : ∃ c, m = c + 1 := ⟨m - 1, by omega⟩
      have hrl : m < r.length := by rw [e1] at hl1; simp at hl1; omega
      obtain ⟨w', w1, w2⟩ := e8.get m r[m] (List.getElem?_eq_getElem hrl)
      rw [hseg (m + 1) m2 r[m] (by rw [e1, List.getElem?_cons_succ]; exact List.getElem?_eq_getElem hrl), hsegu (m + 1) w' (by rw [e2, List.getElem?_cons_succ]; exact w1)]
      exact w2
    · have : nd (lay R 0 (-1) (-1) (-1)) 0 = enode (bs [114, 111, 111, 116]) [] (-1) ((1 : Nat) : Int) (lastOf [cleanP p] 1 (-1)) (-1) (-1) := by
        unfold nd
        rw [List.getD_eq_getElem?_getD, hus]; rfl
      rw [this]
      exact ⟨rfl, rfl, rfl⟩
end
theorem right_zero {us : List api_Node} {r : Int} (h : rightR us r) (hl : RT us) (hd : ¬ deepP us) : r = 0 := by
  have hp := hl.pos
  have hs := hl.small
  rcases h with ⟨h, _⟩ | ⟨h, _⟩ | ⟨_, _, ⟨h, _⟩ | ⟨_, h, _⟩ | ⟨_, _, h⟩⟩
  · omega
  · omega
  · exact absurd hl.linked h
  · exact absurd h hd
  · exact h
theorem law7_WriteParts_true {t : api_Tree} {z : Int} (hS : S_api_Tree t) (_hz : (Sint .i64) z) : ∃ n, law7_WriteParts n t z = some true := by
  refine ⟨199999999999940 + 60, ?_⟩
  have hkn : law7_known (199999999999940 + 60) = some true := known7t _
  generalize hF : 199999999999940 + 60 = F at *
  obtain ⟨ns⟩ := t
  have hre : reachBytes = 140737488351232 := rfl
  have hk1 : law7_WriteParts_k1 F ⟨ns⟩ z true = some true := by
    unfold law7_WriteParts_k1
    rw [cond_true, hkn]; rfl
  unfold law7_WriteParts
  by_cases h300 : (300 : Int) < (ns.length : Int)
  · rw [show decide ((300 : Int) < (((⟨ns⟩ : api_Tree).Nodes.length : Nat) : Int)) = true from dT h300, cond_true]; exact hk1
  rw [show decide ((300 : Int) < (((⟨ns⟩ : api_Tree).Nodes.length : Nat) : Int)) = false from dF h300, cond_false]
  obtain ⟨r, r1, r2⟩ := dom_Right_eq ns (n := F) (by omega)
  by_cases hr : r = 0
  · subst hr
    obtain ⟨hRT, hdeep⟩ := RT.of r2 rfl
    have hok : okN F ns := fun j hj => by
      have hN : S_api_Node (nd ns j) := hS.2 _ (nd_mem ns hj)
      refine ⟨?_, fun a ha => ?_, by have := hN.2.2.1; unfold Sstr at this; omega⟩
      · rcases hRT.alone hj with ⟨_, _, _, h4, _⟩ | ⟨_, _, _, h4, _⟩ <;> omega
      · have hA : S_api_Attr a := hN.2.2.2.1.2 a ha
        obtain ⟨a1, a2⟩ := hA
        unfold Sstr at a1 a2
        exact ⟨by omega, by omega⟩
    obtain ⟨b, b1, b2⟩ := can_eq r2 hRT (n := F) (by omega) hok
    rw [b1, Option.bind_some]
    cases b with
    | false => rw [Bool.not_false, cond_true]; exact hk1
    | true =>
      rw [Bool.not_true, cond_false]
      obtain ⟨c1, c2, c3⟩ := b2.1 rfl
      by_cases hz0 : z ≤ 0
      · rw [dT hz0, cond_true]; exact hk1
      rw [dF hz0, cond_false]
      by_cases hzl : (ns.length : Int) ≤ z
      · rw [show decide ((((⟨ns⟩ : api_Tree).Nodes.length : Nat) : Int) ≤ z) = true from dT hzl, cond_true]; exact hk1
      rw [show decide ((((⟨ns⟩ : api_Tree).Nodes.length : Nat) : Int) ≤ z) = false from dF hzl, cond_false]
      obtain ⟨k, rfl⟩ : ∃ k : Nat, z = k := ⟨z.toNat, by omega⟩
      have hk : k < ns.length := by omega
      have hg : geti (⟨ns⟩ : api_Tree).Nodes (k : Int) = some (nd ns k) := by rw [geti_nat]; exact nd_get ns hk
      rw [hg, Option.bind_some]
      by_cases hkd : (nd ns k).Kind = 1
      · rw [dF (fun e => e hkd)]
        unfold law7_WriteParts_k1
        rw [cond_false, hg, Option.bind_some]
        by_cases hnm : (nd ns k).Name = bs [116, 114] ∨ (nd ns k).Name = bs [116, 100] ∨ (nd ns k).Name = bs [108, 105]
        · have e : (decide ((nd ns k).Name = bs [116, 114]) || (decide ((nd ns k).Name = bs [116, 100]) || decide ((nd ns k).Name = bs [108, 105]))) = true := by simpa using hnm
          rw [e, cond_true, hkn]; rfl
        · have e : (decide ((nd ns k).Name = bs [116, 114]) || (decide ((nd ns k).Name = bs [116, 100]) || decide ((nd ns k).Name = bs [108, 105]))) = false := by simpa using hnm
          have hw : withinW (nd ns k).Name = bs [] := by
            unfold withinW
            rw [if_neg (fun e => hnm (.inl e)), if_neg (fun e => hnm (.inr (.inl e))), if_neg (fun e => hnm (.inr (.inr e)))]
          rw [e, cond_false]
          obtain ⟨p, p1, p2, p3, h2⟩ := two_of hRT (by omega) hk (by omega) hkd
          rw [p1 F (by omega), Option.bind_some]
          have hokR : okP ({Name := bs [114, 111, 111, 116], Text := bs [], Attrs := [], Kids := [cleanP p]} : dom_Part) := (okP_eq _).2 ⟨by simp, okPs_of fun q hq => by rw [List.mem_singleton.1 hq]; exact p2⟩
          obtain ⟨r, s1, s2⟩ := make_eq (p := {Name := bs [114, 111, 111, 116], Text := bs [], Attrs := [], Kids := [cleanP p]}) (F := F) (by omega) hokR (by simp only [psize, pssize]; omega)
          obtain rfl := right_zero s1 h2.ru (h2.flat hdeep)
          rw [if_pos rfl] at s2
          rw [s2, Option.bind_some]
          have hkz := h2.kz
          have huz := h2.uz
          obtain ⟨b, d1, d2⟩ := can_eq s1 h2.ru (n := F) (by omega) (h2.ok hok)
          obtain rfl : b = true := d2.2 ⟨h2.root.1, by rw [h2.root.2.1]; rfl, fun j j1 j2 => by
            obtain ⟨m, rfl⟩ : ∃ m, j = 1 + m := ⟨j - 1, by omega⟩
            exact h2.nb hkd hw (by omega) (c3 (k + m) (by omega) (by omega))⟩
          rw [show decide ((0 : Int) = 0) = true from rfl, cond_true]
          show (write_Canonical F ⟨_⟩).bind _ = _
          rw [d1, Option.bind_some, cond_true, hkn]
          rfl
      · rw [dT (show (nd ns k).Kind ≠ 1 from hkd)]; exact hk1
  · rw [can_wrong r2 hr (by omega), Option.bind_some, Bool.not_false, cond_true]
    exact hk1
end Go.Proofs.YtklcdfnhdljkjaaDoor
