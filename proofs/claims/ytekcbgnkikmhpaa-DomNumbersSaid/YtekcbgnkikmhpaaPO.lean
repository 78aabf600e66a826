/-
  Walks and laws of this seat; the base is the text Base.
-/
import Derived.Test.YtekcbgnkikmhpaaPX
import Derived.Test.YtekcbgnkikmhpaaL5j
namespace Go.Proofs.Ytekcbgnkikmhpaa
open Go.RowKit Go.Sl
/-! A part of more than 4096 kids is refused. -/
def zp : dom_Part := {Name := bs [], Text := bs [], Attrs := ([] : List api_Attr), Kids := ([] : List dom_Part)}
def bigp : dom_Part := {Name := bs [97], Text := bs [], Attrs := ([] : List api_Attr), Kids := List.replicate 4096 zp}

theorem kid_put (m : Nat) (pa pr : Int) (L : List api_Node) (hL : L.length ≤ 4096) : dom_Make_1 (m + 1) zp pa pr ⟨L⟩ = some ((L.length : Int), ⟨L ++ [{Kind := 2, Name := bs [], Text := bs [], Attrs := [], Parent := pa, First := -1, Last := -1, Prev := pr, Next := -1}]⟩) := by
  rw [dom_Make_1]
  unfold dom_Make_1_b
  rw [show slices_Clone m zp.Attrs = some [] from rfl, Option.bind_some]
  unfold dom_Make_1_k1
  rw [show decide (zp.Name = bs []) = true from rfl, cond_true]
  unfold dom_Make_1_k2
  rw [appM_small L _ (by omega) (by omega), Option.bind_some, show decide (zp.Name = bs []) = true from rfl, Bool.or_true, cond_true]
  rfl

theorem big_loop (m : Nat) : ∀ (k i : Nat) (L : List api_Node), 4096 < k + i → i < 4096 → L.length = i + 1 →
    ∃ l, dom_Make_1_l4 bigp ⟨[]⟩ (dom_Make_1 (m + 1)) k L (if i = 0 then -1 else (i : Int)) (i : Int) = some (0, ⟨l⟩) ∧ l.length = 4097
  | 0, i, _, h, hi, _ => by omega
  | k + 1, i, L, h, hi, hL => by
    rw [dom_Make_1_l4]
    have hk : bigp.Kids = List.replicate 4096 zp := rfl
    rw [hk, List.length_replicate, show decide ((i : Int) < ((4096 : Nat) : Int)) = true from decide_eq_true (by omega), cond_true, geti_nat, List.getElem?_replicate, if_pos hi, Option.bind_some,
      kid_put _ _ _ _ (by omega), Option.bind_some]
    simp only [List.length_nil]
    have step : ∀ (Y : List api_Node), Y.length = i + 2 → ∃ l, dom_Make_1_k5 ⟨[]⟩ (i : Int) (dom_Make_1_l4 bigp ⟨[]⟩ (dom_Make_1 (m + 1)) k)
        ((L.length : Int), ⟨L ++ [{Kind := 2, Name := bs [], Text := bs [], Attrs := [], Parent := ((0 : Nat) : Int), First := -1, Last := -1, Prev := (if i = 0 then -1 else (i : Int)), Next := -1}]⟩) Y = some (0, ⟨l⟩) ∧ l.length = 4097 := by
      intro Y hY
      unfold dom_Make_1_k5
      by_cases hlast : i = 4095
      · rw [show decide ((4096 : Int) < (Y.length : Int)) = true from decide_eq_true (by omega), cond_true]
        unfold dom_Make_1_k3
        have h0 : Y[0]? = some (Y[0]'(by omega)) := by simp
        rw [show (((⟨[]⟩ : api_Tree).Nodes.length : Int)) = ((0 : Nat) : Int) from rfl, geti_nat, h0, Option.bind_some, seti_nat _ (by omega), Option.bind_some]
        exact ⟨_, rfl, by rw [List.length_set]; omega⟩
      · rw [show decide ((4096 : Int) < (Y.length : Int)) = false from decide_eq_false (by omega), cond_false, w64_succ (by omega)]
        have := big_loop m k (i + 1) Y (by omega) (by omega) (by omega)
        rw [if_neg (by omega)] at this
        rw [show (((L.length : Int), (⟨L ++ [{Kind := 2, Name := bs [], Text := bs [], Attrs := [], Parent := ((0 : Nat) : Int), First := -1, Last := -1, Prev := (if i = 0 then -1 else (i : Int)), Next := -1}]⟩ : api_Tree)) : Int × api_Tree).1 = ((i + 1 : Nat) : Int) from by simp only; omega]
        exact this
    by_cases h0 : i = 0
    · subst h0
      rw [if_pos rfl, show decide ((-1 : Int) = -1) = true from rfl, cond_true]
      have h0 : (L ++ [({Kind := 2, Name := bs [], Text := bs [], Attrs := [], Parent := ((0 : Nat) : Int), First := -1, Last := -1, Prev := -1, Next := -1} : api_Node)])[0]? = some (L[0]'(by omega)) := by
        rw [List.getElem?_append_left (by omega)]; simp
      rw [geti_nat, h0, Option.bind_some, seti_nat _ (by simp), Option.bind_some]
      have := step ((L ++ [({Kind := 2, Name := bs [], Text := bs [], Attrs := [], Parent := ((0 : Nat) : Int), First := -1, Last := -1, Prev := -1, Next := -1} : api_Node)]).set 0 { L[0]'(by omega) with First := (L.length : Int) }) (by simp; omega)
      rw [if_pos rfl] at this
      exact this
    · rw [if_neg h0, show decide ((i : Int) = -1) = false from decide_eq_false (by omega), cond_false]
      have h1 : (L ++ [({Kind := 2, Name := bs [], Text := bs [], Attrs := [], Parent := ((0 : Nat) : Int), First := -1, Last := -1, Prev := (i : Int), Next := -1} : api_Node)])[i]? = some (L[i]'(by omega)) := by
        rw [List.getElem?_append_left (by omega)]; simp
      rw [geti_nat, h1, Option.bind_some, seti_nat _ (by simp; omega), Option.bind_some]
      have := step ((L ++ [({Kind := 2, Name := bs [], Text := bs [], Attrs := [], Parent := ((0 : Nat) : Int), First := -1, Last := -1, Prev := (i : Int), Next := -1} : api_Node)]).set i { L[i]'(by omega) with Next := (L.length : Int) }) (by simp; omega)
      rw [if_neg h0] at this
      exact this

theorem big_make {n : Nat} (hn : 6000 ≤ n) : ∃ t, dom_Make n bigp = some (t, 4) := by
  obtain ⟨m, rfl⟩ : ∃ m, n = m + 2 := ⟨n - 2, by omega⟩
  unfold dom_Make
  rw [dom_Make_1]
  unfold dom_Make_1_b
  rw [show slices_Clone (m + 1) bigp.Attrs = some [] from rfl, Option.bind_some]
  unfold dom_Make_1_k1
  rw [show decide (bigp.Name = bs []) = false from rfl, cond_false]
  unfold dom_Make_1_k2
  rw [appM_small _ _ (by simp) (by omega), Option.bind_some, show decide (bigp.Name = bs []) = false from rfl, Bool.or_false, show decide ((4096 : Int) < _) = false from rfl, cond_false]
  obtain ⟨l, h1, h2⟩ := big_loop m (m + 1) 0 ([] ++ [{Kind := 1, Name := bigp.Name, Text := bs [], Attrs := [], Parent := -1, First := -1, Last := -1, Prev := -1, Next := -1}]) (by omega) (by omega) rfl
  rw [if_pos rfl] at h1
  rw [show ((0 : Nat) : Int) = 0 from rfl] at h1
  rw [h1, Option.bind_some]
  obtain ⟨r, h3, h4⟩ := dom_Right_eq l (n := m + 2) (by omega)
  rw [h3, Option.bind_some]
  have : r = 4 := by rcases h4 with ⟨h5, _⟩ | ⟨_, h5⟩ | ⟨_, h5, _⟩ <;> first | exact h5 | omega
  subst this
  exact ⟨_, rfl⟩

def chain : Nat → List dom_Part → List dom_Part
  | 0, y => y
  | d + 1, y => chain d [{Name := bs [97], Text := bs [], Attrs := ([] : List api_Attr), Kids := y}]
theorem numbers_loop (n : Nat) (x5 x21 x47 : api_Tree × Int) : ∀ (d k i : Nat) (y : List dom_Part), d + i = 256 → d < k → law5_DomNumbers_l5 n x5 x21 x47 k y (i : Int) = law5_DomNumbers_k1 n x5 x21 x47 (chain d y)
  | 0, k + 1, i, y, h, _ => by
    rw [law5_DomNumbers_l5, show decide ((i : Int) < 256) = false from decide_eq_false (by omega), cond_false]; rfl
  | d + 1, k + 1, i, y, h, hk => by
    rw [law5_DomNumbers_l5, show decide ((i : Int) < 256) = true from decide_eq_true (by omega), cond_true, w64_succ (by omega), numbers_loop n x5 x21 x47 d k (i + 1) _ (by omega) (by omega)]; rfl
  | _, 0, _, _, _, h => by omega

theorem of_map {α β : Type} {o : Option (α × β)} {b : β} (h : o.map (·.2) = some b) : ∃ a, o = some (a, b) := by
  cases o with
  | none => cases h
  | some p => exact ⟨p.1, by simp at h; rw [← h]⟩
theorem num_a (k : Nat) : (dom_Make (k + 6000) {Name := bs [], Text := bs [120], Attrs := [], Kids := []}).map (·.2) = some 10 := by kernel_rfl
theorem num_b (k : Nat) : (dom_Make (k + 6000) {Name := bs [], Text := bs [], Attrs := [], Kids := []}).map (·.2) = some 10 := by kernel_rfl
theorem num_c (k : Nat) : (dom_Make (k + 6000) {Name := bs [97], Text := bs [], Attrs := [], Kids := [{Name := bs [], Text := bs [], Attrs := [], Kids := []}]}).map (·.2) = some 10 := by kernel_rfl
/-! A chain of elements -/
def cp : Nat → dom_Part
  | 0 => {Name := bs [97], Text := bs [], Attrs := ([] : List api_Attr), Kids := []}
  | d + 1 => {Name := bs [97], Text := bs [], Attrs := ([] : List api_Attr), Kids := [cp d]}
theorem chain_succ (d : Nat) (y : List dom_Part) : chain (d + 1) y = chain d [{Name := bs [97], Text := bs [], Attrs := ([] : List api_Attr), Kids := y}] := rfl
theorem chain_cp : ∀ (d m : Nat), chain d [cp m] = [cp (m + d)]
  | 0, m => rfl
  | d + 1, m => by rw [chain, show [({Name := bs [97], Text := bs [], Attrs := ([] : List api_Attr), Kids := [cp m]} : dom_Part)] = [cp (m + 1)] from rfl, chain_cp d (m + 1)]; congr 2; omega
theorem cp_name (d : Nat) : (cp d).Name = bs [97] := by cases d <;> rfl
def cn (N i : Nat) : api_Node := enode (bs [97]) [] ((i : Int) - 1) (if i + 1 < N then ((i + 1 : Nat) : Int) else -1) (if i + 1 < N then ((i + 1 : Nat) : Int) else -1) (-1) (-1)
theorem lay_cp : ∀ (d b : Nat), lay (cp d) b ((b : Int) - 1) (-1) (-1) = (List.range (d + 1)).map fun t => cn (b + d + 1) (b + t)
  | 0, b => by
    rw [lay_elem (by rw [cp_name]; decide)]
    simp [cp, lays, lastOf, cn, List.range_succ]
  | d + 1, b => by
    rw [lay_elem (by rw [cp_name]; decide)]
    have h := lay_cp d (b + 1)
    rw [show (((b + 1 : Nat) : Int) - 1) = (b : Int) from by omega] at h
    have e : lays (cp (d + 1)).Kids (b + 1) (b : Int) (-1) (-1) = lay (cp d) (b + 1) (b : Int) (-1) (-1) := by simp [cp, lays]
    rw [e, h]
    conv => rhs; rw [List.range_succ_eq_map]
    rw [List.map_cons, List.map_map]
    congr 1
    · simp [cp, lastOf, cn]
    · refine List.map_congr_left fun t _ => ?_
      simp only [Function.comp]
      rw [show b + 1 + d + 1 = b + (d + 1) + 1 by omega, show b + 1 + t = b + t.succ by omega]
section
variable (N : Nat)
def cns : List api_Node := (List.range N).map fun t => cn N t
theorem cns_nd {i : Nat} (h : i < N) : nd (cns N) i = cn N i := by simp [nd, cns, h]
theorem cns_len : (cns N).length = N := by simp [cns]
theorem cns_par {i : Nat} (h : i < N) : par (cns N) i = (i : Int) - 1 := by rw [par, cns_nd N h]; rfl
theorem cns_lastc : ∀ (i : Nat), i < N → ∀ p : Int, lastc (cns N) i p = if 0 ≤ p ∧ p < i then p + 1 else -1
  | 0, _, p => by rw [lastc, if_neg (by omega)]
  | i + 1, h, p => by
    rw [lastc, cns_par N h, cns_lastc i (by omega) p]
    by_cases e : (((i + 1 : Nat) : Int) - 1) = p
    · rw [if_pos e, if_pos (by omega)]; omega
    · rw [if_neg e]
      by_cases e2 : 0 ≤ p ∧ p < i
      · rw [if_pos e2, if_pos (by omega)]
      · rw [if_neg e2, if_neg (by omega)]
theorem cns_row : ∀ (i : Nat), i < N → (row (cns N) i).length = i + 1 ∧ (row (cns N) i).head? = some (i : Int)
  | 0, _ => ⟨rfl, rfl⟩
  | i + 1, h => by
    obtain ⟨h1, h2⟩ := cns_row i (by omega)
    obtain ⟨tl, e⟩ : ∃ tl, row (cns N) i = (i : Int) :: tl := by
      cases hr : row (cns N) i with
      | nil => rw [hr] at h1; simp at h1
      | cons x tl => rw [hr] at h2; simp at h2; exact ⟨tl, by rw [h2]⟩
    rw [row, cns_par N h, e, show (((i + 1 : Nat) : Int) - 1) = (i : Int) by omega, pop_cons_eq]
    exact ⟨by rw [List.length_cons, ← e, h1], rfl⟩
theorem cns_linked (h0 : 0 < N) : linkedP (cns N) := by
  have hal : ∀ j, j < N → aloneP (nd (cns N) j) := fun j hj => by
    rw [cns_nd N hj]
    exact .inr ⟨rfl, by simp [cn, enode], rfl, by simp [cn, enode], fun i a ha => by simp [cn, enode] at ha⟩
  refine ⟨by rw [cns_nd N h0]; rfl, by rw [cns_nd N h0]; rfl, by rw [cns_nd N h0]; rfl, by rw [cns_nd N h0]; rfl, hal 0 h0, fun j h1 h2 => ?_, fun j hj => ?_⟩
  · rw [cns_len] at h2
    refine ⟨hal j h2, ?_, ?_⟩
    · obtain ⟨j, rfl⟩ : ∃ k, j = k + 1 := ⟨j - 1, by omega⟩
      rw [Nat.add_sub_cancel]
      obtain ⟨r1, r2⟩ := cns_row N j (by omega)
      obtain ⟨tl, e⟩ : ∃ tl, row (cns N) j = (j : Int) :: tl := by
        cases hr : row (cns N) j with
        | nil => rw [hr] at r1; simp at r1
        | cons x tl => rw [hr] at r2; simp at r2; exact ⟨tl, by rw [r2]⟩
      have hp : par (cns N) (j + 1) = (j : Int) := by rw [cns_par N h2]; omega
      unfold okS
      rw [hp, e, pop_cons_eq]
      exact ⟨by simp, by rw [Int.toNat_natCast, cns_nd N (by omega)]; rfl⟩
    · unfold stepP prevc
      rw [cns_lastc N (j - 1) (by omega), cns_par N h2, if_neg (by omega), cns_nd N h2]
      refine ⟨rfl, fun _ => ?_, fun h => absurd rfl h⟩
      rw [show ((j : Int) - 1).toNat = j - 1 by omega, cns_nd N (by omega)]
      show (if j - 1 + 1 < N then ((j - 1 + 1 : Nat) : Int) else -1) = j
      rw [if_pos (by omega)]; omega
  · rw [cns_len] at hj
    unfold endP
    rw [cns_len, cns_lastc N (N - 1) (by omega), cns_nd N hj]
    by_cases hl : j + 1 < N
    · rw [if_pos (by omega)]
      refine ⟨by show (if j + 1 < N then ((j + 1 : Nat) : Int) else -1) = _; rw [if_pos hl]; omega, fun h => by omega, fun _ => ?_⟩
      rw [show ((j : Int) + 1).toNat = j + 1 by omega, cns_nd N hl]; rfl
    · rw [if_neg (by omega)]
      refine ⟨by show (if j + 1 < N then ((j + 1 : Nat) : Int) else -1) = _; rw [if_neg hl], fun _ => by show (if j + 1 < N then ((j + 1 : Nat) : Int) else -1) = _; rw [if_neg hl], fun h => absurd rfl h⟩
theorem cns_right (h0 : 0 < N) (h1 : N ≤ 4096) : rightR (cns N) (if N ≤ 256 then 0 else 5) := by
  refine .inr (.inr ⟨by rw [cns_len]; exact h0, by rw [cns_len]; exact h1, .inr ?_⟩)
  by_cases h : N ≤ 256
  · rw [if_pos h]
    refine .inr ⟨cns_linked N h0, ?_, rfl⟩
    rintro ⟨j, hj, hd⟩
    rw [cns_len] at hj
    rw [(cns_row N j hj).1] at hd
    omega
  · rw [if_neg h]
    refine .inl ⟨cns_linked N h0, ⟨N - 1, by rw [cns_len]; omega, ?_⟩, rfl⟩
    rw [(cns_row N (N - 1) (by omega)).1]; omega
end
theorem psize_cp : ∀ d, psize (cp d) = d + 1
  | 0 => rfl
  | d + 1 => by rw [psize_eq]; simp [cp, pssize, psize_cp d]; omega
theorem okP_cp : ∀ d, okP (cp d)
  | 0 => by rw [okP_eq]; exact ⟨by simp [cp], trivial⟩
  | d + 1 => by rw [okP_eq]; exact ⟨by simp [cp], okP_cp d, trivial⟩
theorem make_cp {F : Nat} (hF : 5000000000000 ≤ F) (d : Nat) (hd : d ≤ 300) : ∃ t, dom_Make F (cp d) = some (t, if d + 1 ≤ 256 then 0 else 5) := by
  obtain ⟨r, r1, r2⟩ := make_eq hF (okP_cp d) (by rw [psize_cp]; omega)
  have e : lay (cp d) 0 (-1) (-1) (-1) = cns (d + 1) := by
    have := lay_cp d 0
    simp only [Nat.zero_add] at this
    exact this
  rw [e] at r1
  have := rightR.uniq _ r1 (cns_right (d + 1) (by omega) (by omega))
  subst this
  rw [r2]
  by_cases h : d + 1 ≤ 256
  · rw [if_pos h, if_pos rfl]; exact ⟨_, rfl⟩
  · rw [if_neg h, if_neg (by decide)]; exact ⟨_, rfl⟩
/-- The rest of the run. -/
def numRest (n : Nat) : Option Bool := (law5_sample n).bind fun x145 =>
  (dom_Attr n x145.1 0 (bs [120])).bind fun x159 =>
  (dom_All n x145.1 (-1)).bind fun x161 =>
  (dom_All_1 n x161.1 x161.2).bind fun x180 =>
  law5_DomNumbers_r2 n (⟨[]⟩, 10) (⟨[]⟩, 10) (⟨[]⟩, 10) (⟨[]⟩, 0) (⟨[]⟩, 5) (⟨[]⟩, 4) x145 x159 x180
theorem num_rest (k : Nat) : numRest (k + 6000) = some true := by kernel_rfl
theorem num_same (n : Nat) (a b c d e f x145 : api_Tree × Int) (x159 : ByteArray × Bool) (l : List Int) (ha : a.2 = 10) (hb : b.2 = 10) (hc : c.2 = 10) (hd : d.2 = 0) (he : e.2 = 5) (hf : f.2 = 4) :
    law5_DomNumbers_r2 n a b c d e f x145 x159 l = law5_DomNumbers_r2 n (⟨[]⟩, 10) (⟨[]⟩, 10) (⟨[]⟩, 10) (⟨[]⟩, 0) (⟨[]⟩, 5) (⟨[]⟩, 4) x145 x159 l := by
  cases l with
  | nil => rw [law5_DomNumbers_r2, law5_DomNumbers_r2, ha, hb, hc, hd, he, hf]
  | cons y l => rw [law5_DomNumbers_r2, law5_DomNumbers_r2]
theorem law5_DomNumbers_true : ∃ n, law5_DomNumbers n = some true := by
  obtain ⟨k, hk⟩ : ∃ k : Nat, k = 5000000000000 := ⟨_, rfl⟩
  refine ⟨k + 6000, ?_⟩
  obtain ⟨ta, ea⟩ := of_map (num_a k)
  obtain ⟨tb, eb⟩ := of_map (num_b k)
  obtain ⟨tc, ec⟩ := of_map (num_c k)
  obtain ⟨td, ed⟩ := make_cp (F := k + 6000) (by omega) 255 (by omega)
  obtain ⟨te, ee⟩ := make_cp (F := k + 6000) (by omega) 256 (by omega)
  obtain ⟨tf, ef⟩ := big_make (n := k + 6000) (by omega)
  have c1 : chain 255 [] = [cp 254] := by
    rw [chain_succ 254 []]; exact chain_cp 254 0
  unfold law5_DomNumbers
  rw [ea, Option.bind_some, eb, Option.bind_some, ec, Option.bind_some, show (1 : Int) = ((1 : Nat) : Int) from rfl, numbers_loop _ _ _ _ 255 _ 1 _ rfl (by omega)]
  unfold law5_DomNumbers_k1
  rw [c1]
  rw [show ({Name := (bs [97]), Text := (bs []), Attrs := ([] : List api_Attr), Kids := [cp 254]} : dom_Part) = cp 255 from rfl, ed, Option.bind_some]
  rw [show ({Name := (bs [97]), Text := (bs []), Attrs := ([] : List api_Attr), Kids := [cp 255]} : dom_Part) = cp 256 from rfl, ee, Option.bind_some]
  rw [show repM 80 4096 ({Name := (bs []), Text := (bs []), Attrs := ([] : (List api_Attr)), Kids := ([] : (List dom_Part))} : dom_Part) = some bigp.Kids from repM_eq (m := 4096) (by omega), Option.bind_some]
  rw [show ({Name := (bs [97]), Text := (bs []), Attrs := ([] : List api_Attr), Kids := bigp.Kids} : dom_Part) = bigp from rfl, ef, Option.bind_some]
  rw [← num_rest k]
  unfold numRest
  exact congrArg _ (funext fun x145 => congrArg _ (funext fun x159 => congrArg _ (funext fun x161 => congrArg _ (funext fun l => num_same _ _ _ _ _ _ _ _ _ _ rfl rfl rfl rfl rfl rfl))))
end Go.Proofs.Ytekcbgnkikmhpaa
