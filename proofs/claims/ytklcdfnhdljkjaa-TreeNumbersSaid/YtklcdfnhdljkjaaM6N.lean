/-
  Walks and laws of this seat.
-/
import Derived.Test.YtklcdfnhdljkjaaPd
import Derived.Test.YtklcdfnhdljkjaaPb
import Derived.Test.YtklcdfnhdljkjaaL6vn
namespace Go.Proofs.Ytklcdfnhdljkjaa
set_option linter.unusedVariables false
set_option linter.unusedSimpArgs false
open Go.RowKit Go.Sl
variable {n : Nat}
section
variable {M : Nat} {A : List za2} {d : Bool} {o : List Nat}
theorem oI_inj {a b : List Nat} (h : oI a = oI b) : a = b := by
  have := congrArg (List.map Int.toNat) h
  unfold oI at this
  rw [List.map_map, List.map_map] at this
  have e : (Int.toNat ∘ fun i : Nat => (i : Int)) = id := by funext x; simp
  rw [e, List.map_id, List.map_id] at this
  exact this
theorem dep_new {q D D' : Nat} {y x : za2} {ks : List Int} (hq : A[q]? = some y) (h : Dep (att A q y ks x) A.length D) (h' : Dep A q D') : D = D' + 1 :=
  h.uniq (.step zkc rfl (by have := (List.getElem?_eq_some_iff.1 hq).1; omega) (h'.ext (zk0 hq)))
theorem zog {q D : Nat} {y : za2} {nm : ByteArray} (hA : InvA M A d) (hO : InvO A o) (ho : o.getLast? = some q) (hq : A[q]? = some y) (hy1 : y.name ≠ nTable) (hy2 : y.name ≠ nTr) (hD : Dep A q D)
    (hnm : nm ≠ bs []) (hb : nm ∉ blocks) (h2 : nm ≠ nTr) (h3 : nm ≠ nTd) (hlen : A.length ≤ 10000) (hn : 1000001 ≤ n) :
    zbn n ⟨oI o, (A.length : Int), d⟩ nm [] A = some (⟨oI (if nm ∈ voids then o else o ++ [A.length]), ((A.length + 1 : Nat) : Int), d || decide (256 < ((D + 1 : Nat) : Int))⟩, att A q y (y.kids ++ [(A.length : Int)]) (elemOf nm [])) ∧
      InvA M (att A q y (y.kids ++ [(A.length : Int)]) (elemOf nm [])) (d || decide (256 < ((D + 1 : Nat) : Int))) ∧ InvO (att A q y (y.kids ++ [(A.length : Int)]) (elemOf nm [])) (if nm ∈ voids then o else o ++ [A.length]) := by
  have hol : o.length ≤ 1000000 := by have := hO.len; omega
  have key : zbn n ⟨oI o, (A.length : Int), d⟩ nm [] A = some (⟨oI (if nm ∈ voids then o else o ++ [A.length]), ((A.length + 1 : Nat) : Int), d || decide (256 < ((D + 1 : Nat) : Int))⟩, att A q y (y.kids ++ [(A.length : Int)]) (elemOf nm [])) := by
    have hli : nm ≠ bs [108, 105] := fun e => hb (by rw [e]; simp [blocks])
    unfold zbn
    rw [block_eq _ (by omega), Option.bind_some, decide_eq_false hb, cond_false]
    unfold zcg
    rw [dF hli, dF (show ¬ nm = bs [116, 114] from h2), dF (show ¬ nm = bs [116, 100] from h3)]
    unfold ze4 ze5 zcf zce
    rw [zhm ho hol, Option.bind_some, zde (by simp), hq, Option.bind_some, dF (show ¬ y.name = bs [116, 97, 98, 108, 101] from hy1), dF (show ¬ y.name = bs [116, 114] from hy2)]
    unfold zaz
    rw [cond_false]
    unfold zbj zi6
    obtain ⟨D', e1, _, e3⟩ := zrm (x := elemOf nm []) hA ho hol hq (by omega) (by omega : 1000000 ≤ n)
    have := dep_new hq e3 hD
    subst this
    rw [show appM 32 ([] : List za9) [] = some [] from by rw [zew (by simp)]; rfl, Option.bind_some]
    rw [show (A ++ [({name := nm, text := (bs []), attrs := [], above := (-1 : Int), kids := ([] : List Int)} : za2)]) = A ++ [elemOf nm []] from rfl, e1, Option.bind_some, zns _ (by omega), Option.bind_some]
    by_cases hv : nm ∈ voids
    · rw [decide_eq_true hv, Bool.not_true, cond_false, if_pos hv]; rfl
    · rw [decide_eq_false hv, Bool.not_false, cond_true, zew (by simp [zif]; omega), Option.bind_some, if_neg hv]
      unfold zc6
      rw [Option.bind_some]
      simp [oI]
  refine ⟨key, ?_⟩
  obtain ⟨o', A', d', f1, f2, f3, f4, _⟩ := zpg (n := n) (at_ := []) hA hO hnm zmb hlen hn
  rw [key] at f1
  have e := Option.some.inj f1
  have ea := congrArg Prod.snd e
  have eb := congrArg Prod.fst e
  simp only at ea eb
  subst ea
  obtain ⟨e1, _, e3⟩ := za6.mk.inj eb
  have := oI_inj e1
  subst this
  subst e3
  exact ⟨f2, f3⟩
end
def brN : ByteArray := bs [98, 114]
def iN : ByteArray := bs [105]
def xN : ByteArray := bs [120]
theorem br_ok : brN ≠ bs [] ∧ brN ∉ blocks ∧ brN ≠ nTr ∧ brN ≠ nTd ∧ brN ∈ voids := by
  refine ⟨?_, ?_, ?_, ?_, ?_⟩ <;> simp [brN, blocks, nTr, nTd, voids]
theorem i_ok : iN ≠ bs [] ∧ iN ∉ blocks ∧ iN ≠ nTr ∧ iN ≠ nTd ∧ iN ∉ voids ∧ iN ≠ nTable := by
  refine ⟨?_, ?_, ?_, ?_, ?_, ?_⟩ <;> simp [iN, blocks, nTr, nTd, voids, nTable]
theorem zr2 (ts : List za5) {j k : Nat} {nm : ByteArray} {A A' : List za2} {o o' : List Nat} {d d' : Bool} (hj : ts[j]? = some (tagTok 2 nm [] false)) (hl : ts.length ≤ 1000000)
    (ho : zbn n ⟨oI o, (A.length : Int), d⟩ nm [] A = some (⟨oI o', (A'.length : Int), d'⟩, A')) :
    zan n ts (k + 1) (oI o) (A.length : Int) d (j : Int) A = bif decide (4096 < (A'.length : Int)) then some (⟨[]⟩, 4) else zan n ts k (oI o') (A'.length : Int) d' ((j + 1 : Nat) : Int) A' := by
  have hlt := (List.getElem?_eq_some_iff.1 hj).1
  rw [zan, dT (by omega), zb1, hj, Option.bind_some, dF (by simp [tagTok]), dT (by rfl)]
  rw [show (tagTok 2 nm [] false).Name = nm from rfl, show (tagTok 2 nm [] false).Attrs = [] from rfl, ho, Option.bind_some]
  unfold zi9 zfn
  rw [zb5 (by omega)]
theorem br_loop (ts : List za5) (hts : ∀ t ∈ ts, t = tagTok 2 brN [] false) (hl : ts.length ≤ 1000000) (hn : 20000000 ≤ n) : ∀ (e j k : Nat) (A : List za2), j + e = ts.length → e + 1 ≤ k → InvA 0 A false → InvO A [0] → A.length ≤ 4096 →
    (A.length + e ≤ 4096 → ∃ t, zan n ts k (oI [0]) (A.length : Int) false (j : Int) A = some (t, 0)) ∧ (4096 < A.length + e → zan n ts k (oI [0]) (A.length : Int) false (j : Int) A = some (⟨[]⟩, 4))
  | 0, j, k, A, hj, hk, hA, hO, hlen => by
    obtain ⟨k, rfl⟩ : ∃ i, k = i + 1 := ⟨k - 1, by omega⟩
    refine ⟨fun _ => ?_, fun h => by omega⟩
    rw [zan, dF (by omega)]
    obtain ⟨p, h1, _⟩ := zpu (n := n) hA hlen hn (oI [0]) (A.length : Int)
    exact ⟨_, h1⟩
  | e + 1, j, k, A, hj, hk, hA, hO, hlen => by
    obtain ⟨k, rfl⟩ : ∃ i, k = i + 1 := ⟨k - 1, by omega⟩
    obtain ⟨b1, b2, b3, b4, b5⟩ := br_ok
    have hg : ts[j]? = some (tagTok 2 brN [] false) := by
      have h1 : ts[j]? = some ts[j] := List.getElem?_eq_getElem (by omega)
      rw [h1, hts _ (List.getElem_mem ..)]
    obtain ⟨r, r1, r2, _⟩ := hA.root
    obtain ⟨g1, g2, g3⟩ := zog (n := n) (q := 0) (D := 1) (nm := brN) hA hO rfl r1 (by rw [r2]; exact zfp.2.2.2.2.2.2.2.2.2.2.2.2.2.2) (by rw [r2]; exact zfp.2.2.2.2.2.2.2.2.2.2.2.2.1) (.root r1) b1 b2 b3 b4 (by omega) (by omega)
    rw [if_pos b5] at g1 g3
    have hlA : (att A 0 r (r.kids ++ [(A.length : Int)]) (elemOf brN [])).length = A.length + 1 := zjz
    rw [← hlA] at g1
    have hst := zr2 (k := k) ts hg hl g1
    rw [hst, hlA]
    by_cases h : 4096 < A.length + 1
    · rw [dT (by omega)]
      exact ⟨fun h2 => by omega, fun _ => rfl⟩
    · rw [dF (by omega), ← hlA]
      have := br_loop ts hts hl hn e (j + 1) k _ (by omega) (by omega) g2 g3 (by omega)
      rw [hlA] at this ⊢
      exact ⟨fun h2 => this.1 (by omega), fun h2 => this.2 (by omega)⟩
theorem i_loop (ts : List za5) (m : Nat) (hm : m ≤ 255) (hts : ∀ j, j < m → ts[j]? = some (tagTok 2 iN [] false)) (hl : ts.length ≤ 1000000) (hn : 20000000 ≤ n) : ∀ (e j k : Nat) (A : List za2) (o : List Nat) (y : za2), j + e = m → e ≤ k → InvA 0 A false → InvO A o → A.length = j + 1 → o.getLast? = some j → A[j]? = some y → y.kids = [] → y.name ≠ nTable → y.name ≠ nTr → Dep A j (j + 1) →
    ∃ (A' : List za2) (o' : List Nat) (y' : za2), zan n ts k (oI o) (A.length : Int) false (j : Int) A = zan n ts (k - e) (oI o') (A'.length : Int) false (m : Int) A' ∧ InvA 0 A' false ∧ InvO A' o' ∧ A'.length = m + 1 ∧ o'.getLast? = some m ∧ A'[m]? = some y' ∧ y'.kids = [] ∧ y'.name ≠ nTable ∧ y'.name ≠ nTr ∧ Dep A' m (m + 1)
  | 0, j, k, A, o, y, hj, hk, hA, hO, h1, h2, h3, h4, h5, h6, h7 => by
    obtain rfl : j = m := by omega
    exact ⟨A, o, y, by rw [Nat.sub_zero], hA, hO, h1, h2, h3, h4, h5, h6, h7⟩
  | e + 1, j, k, A, o, y, hj, hk, hA, hO, h1, h2, h3, h4, h5, h6, h7 => by
    obtain ⟨k, rfl⟩ : ∃ i, k = i + 1 := ⟨k - 1, by omega⟩
    obtain ⟨b1, b2, b3, b4, b5, b6⟩ := i_ok
    obtain ⟨g1, g2, g3⟩ := zog (n := n) (D := j + 1) (nm := iN) hA hO h2 h3 h5 h6 h7 b1 b2 b3 b4 (by omega) (by omega)
    rw [if_neg b5] at g1 g3
    have hd : (false || decide (256 < ((j + 1 + 1 : Nat) : Int))) = false := by rw [Bool.false_or, decide_eq_false_iff_not]; omega
    rw [hd] at g1 g2
    have hlA : (att A j y (y.kids ++ [(A.length : Int)]) (elemOf iN [])).length = A.length + 1 := zjz
    rw [← hlA] at g1
    rw [zr2 (k := k) ts (hts j (by omega)) hl g1, dF (by omega)]
    have hnew : (att A j y (y.kids ++ [(A.length : Int)]) (elemOf iN []))[j + 1]? = some { elemOf iN [] with above := (j : Int) } := by rw [← h1]; exact zkc
    obtain ⟨A', o', y', q1, q2⟩ := i_loop ts m hm hts hl hn e (j + 1) k _ (o ++ [A.length]) _ (by omega) (by omega) g2 g3 (by omega) (by rw [List.getLast?_append]; simp [h1]) hnew rfl b6 b3 (.step hnew rfl (by omega) (h7.ext (zk0 h3)))
    refine ⟨A', o', y', ?_, q2⟩
    rw [q1]
    congr 1; omega
def rep (m : Nat) (l : List UInt8) : List UInt8 := (List.replicate m l).flatten
theorem zrg (m : Nat) (l : List UInt8) : rep (m + 1) l = rep m l ++ l := by unfold rep; rw [List.replicate_succ', List.flatten_append]; simp
theorem zrh (m : Nat) (l : List UInt8) : rep (m + 1) l = l ++ rep m l := by unfold rep; rw [List.replicate_succ, List.flatten_cons]
theorem znw (l : List UInt8) : ∀ m, (rep m l).length = m * l.length
  | 0 => by simp [rep]
  | m + 1 => by rw [zrg, List.length_append, znw l m, Nat.succ_mul]
def brL : List UInt8 := [60, 98, 114, 62]
def iL : List UInt8 := [60, 105, 62]
def repR (m : Nat) (l : List Int) : List Int := (List.replicate m l).flatten
theorem zrb (t : List UInt8) : ∀ m, runesIn (bs (rep m brL ++ t)) = repR m [60, 98, 114, 62] ++ runesIn (bs t)
  | 0 => by simp [rep, repR]
  | m + 1 => by
    rw [zrh]
    unfold brL repR
    simp only [List.cons_append, List.nil_append, List.replicate_succ, List.flatten_cons]
    rw [zd6 (by decide), zd6 (by decide), zd6 (by decide), zd6 (by decide)]
    have := zrb t m
    unfold brL repR at this
    rw [this]; rfl
theorem runes_i (t : List UInt8) : ∀ m, runesIn (bs (rep m iL ++ t)) = repR m [60, 105, 62] ++ runesIn (bs t)
  | 0 => by simp [rep, repR]
  | m + 1 => by
    rw [zrh]
    unfold iL repR
    simp only [List.cons_append, List.nil_append, List.replicate_succ, List.flatten_cons]
    rw [zd6 (by decide), zd6 (by decide), zd6 (by decide)]
    have := runes_i t m
    unfold iL repR at this
    rw [this]; rfl
theorem tok_br (t : List Int) : ∀ (m k : Nat), tokS (k + m) (repR m [60, 98, 114, 62] ++ t) = List.replicate m (tagTok 2 brN [] false) ++ tokS k t
  | 0, k => by simp [repR]
  | m + 1, k => by
    have e1 : ∀ (u : Nat) (xs : List Int), tokS (u + 1) (60 :: 98 :: 114 :: 62 :: xs) = tagTok 2 brN [] false :: tokS u xs := fun u xs => by kernel_rfl
    unfold repR
    simp only [List.replicate_succ, List.flatten_cons, List.cons_append, List.nil_append]
    rw [show k + (m + 1) = (k + m) + 1 from rfl, e1]
    have := tok_br t m k
    unfold repR at this
    rw [this]
theorem tok_i (t : List Int) : ∀ (m k : Nat), tokS (k + m) (repR m [60, 105, 62] ++ t) = List.replicate m (tagTok 2 iN [] false) ++ tokS k t
  | 0, k => by simp [repR]
  | m + 1, k => by
    have e1 : ∀ (u : Nat) (xs : List Int), tokS (u + 1) (60 :: 105 :: 62 :: xs) = tagTok 2 iN [] false :: tokS u xs := fun u xs => by kernel_rfl
    unfold repR
    simp only [List.replicate_succ, List.flatten_cons, List.cons_append, List.nil_append]
    rw [show k + (m + 1) = (k + m) + 1 from rfl, e1]
    have := tok_i t m k
    unfold repR at this
    rw [this]
theorem zox (l : List Int) : ∀ m, (repR m l).length = m * l.length
  | 0 => by simp [repR]
  | m + 1 => by
    have := zox l m
    unfold repR at this ⊢
    rw [List.replicate_succ, List.flatten_cons, List.length_append, this, Nat.succ_mul]; omega
theorem parse_br (m : Nat) (hm : m ≤ 4096) (hn : 20000000 ≤ n) : (m ≤ 4095 → ∃ t, zbp n (repR m [60, 98, 114, 62]) = some (t, 0)) ∧ (m = 4096 → zbp n (repR m [60, 98, 114, 62]) = some (⟨[]⟩, 4)) := by
  have hl := zox [60, 98, 114, 62] m
  have hl' : (repR m [60, 98, 114, 62]).length = m * 4 := hl
  unfold zbp
  rw [zgs _ (by omega) (by omega), Option.bind_some]
  have ht : tokS ((repR m [60, 98, 114, 62]).length + 1) (repR m [60, 98, 114, 62]) = List.replicate m (tagTok 2 brN [] false) := by
    have := tok_br [] m (3 * m + 1)
    rw [List.append_nil] at this
    rw [hl', show m * 4 + 1 = 3 * m + 1 + m by omega, this]
    simp [tokS]
  rw [ht]
  have key := br_loop (n := n) (List.replicate m (tagTok 2 brN [] false)) (fun t ht => (List.mem_replicate.1 ht).2) (by rw [List.length_replicate]; omega) hn m 0 n [rootN] (by rw [List.length_replicate]; omega) (by omega) zm7.1 zm7.2 (by simp)
  constructor
  · intro h
    obtain ⟨t, h1⟩ := key.1 (by simp; omega)
    refine ⟨t, ?_⟩
    rw [show zgp n (List.replicate m (tagTok 2 brN [] false)) = some (t, 0) from h1]; rfl
  · intro h
    rw [show zgp n (List.replicate m (tagTok 2 brN [] false)) = some (⟨[]⟩, 4) from key.2 (by simp; omega)]; rfl
theorem i_start (ts : List za5) (hts : ∀ j, j < 255 → ts[j]? = some (tagTok 2 iN [] false)) (hl : ts.length ≤ 1000000) (hn : 20000000 ≤ n) :
    ∃ (A' : List za2) (o' : List Nat) (y' : za2), zgp n ts = zan n ts (n - 255) (oI o') (A'.length : Int) false ((255 : Nat) : Int) A' ∧ InvA 0 A' false ∧ InvO A' o' ∧ A'.length = 256 ∧ o'.getLast? = some 255 ∧ A'[255]? = some y' ∧ y'.kids = [] ∧ y'.name ≠ nTable ∧ y'.name ≠ nTr ∧ Dep A' 255 256 :=
  i_loop (n := n) ts 255 (Nat.le_refl _) hts hl hn 255 0 n [rootN] [0] rootN rfl (by omega) zm7.1 zm7.2 rfl rfl rfl rfl (fun e => zfp.2.2.2.2.2.2.2.2.2.2.2.2.2.2 e) (fun e => zfp.2.2.2.2.2.2.2.2.2.2.2.2.1 e) (.root rfl)
theorem parse_i (hn : 20000000 ≤ n) : ∃ t, zbp n (repR 255 [60, 105, 62]) = some (t, 0) := by
  have hl : (repR 255 [60, 105, 62]).length = 765 := zox [60, 105, 62] 255
  unfold zbp
  rw [zgs _ (by omega) (by omega), Option.bind_some]
  have ht : tokS ((repR 255 [60, 105, 62]).length + 1) (repR 255 [60, 105, 62]) = List.replicate 255 (tagTok 2 iN [] false) := by
    have := tok_i [] 255 511
    rw [List.append_nil] at this
    rw [hl, show 765 + 1 = 511 + 255 from rfl, this, show tokS 511 [] = [] from rfl, List.append_nil]
  rw [ht]
  obtain ⟨A', o', y', g1, g2, g3, g4, _⟩ := i_start (n := n) (List.replicate 255 (tagTok 2 iN [] false)) (fun j hj => by rw [List.getElem?_replicate, if_pos hj]) (by rw [List.length_replicate]; omega) hn
  obtain ⟨k, hk⟩ : ∃ k, n - 255 = k + 1 := ⟨n - 256, by omega⟩
  rw [g1, hk, zan, dF (by rw [List.length_replicate]; omega)]
  obtain ⟨p, h1, _⟩ := zpu (n := n) g2 (by omega) hn (oI o') (A'.length : Int)
  rw [h1]
  exact ⟨_, rfl⟩
theorem parse_ix (hn : 20000000 ≤ n) : zbp n (repR 255 [60, 105, 62] ++ [120]) = some (⟨[]⟩, 5) := by
  have hl : (repR 255 [60, 105, 62]).length = 765 := zox [60, 105, 62] 255
  unfold zbp
  rw [zgs _ (by rw [List.length_append, hl]; simp) (by rw [List.length_append, hl]; simp; omega), Option.bind_some]
  have ht : tokS ((repR 255 [60, 105, 62] ++ [120]).length + 1) (repR 255 [60, 105, 62] ++ [120]) = List.replicate 255 (tagTok 2 iN [] false) ++ [textTok xN] := by
    have := tok_i [120] 255 512
    rw [List.length_append, hl, show 765 + [(120 : Int)].length + 1 = 512 + 255 from rfl, this]
    congr 1
  rw [ht]
  obtain ⟨A', o', y', g1, g2, g3, g4, g5, g6, g7, g8, g9, g10⟩ := i_start (n := n) (List.replicate 255 (tagTok 2 iN [] false) ++ [textTok xN]) (fun j hj => by rw [List.getElem?_append_left (by rw [List.length_replicate]; exact hj), List.getElem?_replicate, if_pos hj]) (by rw [List.length_append, List.length_replicate]; simp) hn
  obtain ⟨k, hk⟩ : ∃ k, n - 255 = k + 2 := ⟨n - 257, by omega⟩
  have hol : o'.length ≤ 1000000 := by have := g3.len; omega
  have hx : (List.replicate 255 (tagTok 2 iN [] false) ++ [textTok xN])[255]? = some (textTok xN) := by rw [List.getElem?_append_right (by rw [List.length_replicate]; omega), List.length_replicate]; rfl
  have hlt : (List.replicate 255 (tagTok 2 iN [] false) ++ [textTok xN]).length = 256 := by rw [List.length_append, List.length_replicate]; rfl
  obtain ⟨D, e1, _, e3⟩ := zrm (d := false) (x := textOfN xN) g2 g5 hol g6 (by omega) (by omega : 1000000 ≤ n)
  have hD := dep_new g6 e3 g10
  subst hD
  have hch : zby n ⟨oI o', (A'.length : Int), false⟩ xN A' = some (⟨oI o', ((A'.length + 1 : Nat) : Int), true⟩, att A' 255 y' (y'.kids ++ [(A'.length : Int)]) (textOfN xN)) := by
    unfold zby
    rw [zhm g5 hol, Option.bind_some, zde (by simp), g6, Option.bind_some, in_eq _ _ (by simp) (by omega), Option.bind_some, decide_eq_false (by
      intro h
      simp only [List.mem_cons, List.not_mem_nil, or_false] at h
      rcases h with h | h
      · exact g8 h
      · exact g9 h), cond_false]
    unfold zbk
    rw [zhm g5 hol, Option.bind_some, zde (by simp), g6, Option.bind_some, show (!(decide ((-1 : Int) = -1))) = false from rfl, cond_false]
    unfold zcl
    rw [show ((y'.kids.length : Nat) : Int) = 0 from by rw [g7]; rfl, dF (by omega)]
    unfold zc1
    rw [cond_false, show (A' ++ [({name := (bs []), text := xN, attrs := ([] : List za9), above := (-1 : Int), kids := ([] : List Int)} : za2)]) = A' ++ [textOfN xN] from rfl]
    simp only
    rw [e1]
    rfl
  rw [g1, hk, zan, dT (by omega), zb1, hx, Option.bind_some, dT (by rfl), show decide ((textTok xN).Text ≠ (bs [])) = true from decide_eq_true (by simp [textTok, xN]), cond_true, show (textTok xN).Text = xN from rfl, hch, Option.bind_some]
  unfold zdo zfn
  simp only
  rw [dF (by omega), zb5 (by omega), zan, dF (by omega)]
  rfl
theorem nums_l4 (y1 : ByteArray) : ∀ (e j k : Nat), j + e = 255 → e + 1 ≤ k → zcr n y1 k (bs (rep j iL)) (j : Int) = zfa n y1 (bs (rep 255 iL))
  | 0, j, k, hj, hk => by
    obtain ⟨k, rfl⟩ : ∃ i, k = i + 1 := ⟨k - 1, by omega⟩
    obtain rfl : j = 255 := by omega
    rw [zcr, dF (by omega)]
  | e + 1, j, k, hj, hk => by
    obtain ⟨k, rfl⟩ : ∃ i, k = i + 1 := ⟨k - 1, by omega⟩
    rw [zcr, dT (by omega), show (bs [60, 105, 62]) = bs iL from rfl, zpx (by rw [znw]; simp [iL]; omega), Option.bind_some, zb5 (by omega), ← zrg]
    exact nums_l4 y1 e (j + 1) k (by omega) (by omega)
theorem nums_l5 : ∀ (e j k : Nat), j + e = 4096 → e + 1 ≤ k → zcq n k (bs (rep j brL)) (j : Int) = zfb n (bs (rep 4096 brL))
  | 0, j, k, hj, hk => by
    obtain ⟨k, rfl⟩ : ∃ i, k = i + 1 := ⟨k - 1, by omega⟩
    obtain rfl : j = 4096 := by omega
    rw [zcq, dF (by omega)]
  | e + 1, j, k, hj, hk => by
    obtain ⟨k, rfl⟩ : ∃ i, k = i + 1 := ⟨k - 1, by omega⟩
    rw [zcq, dT (by omega), show (bs [60, 98, 114, 62]) = bs brL from rfl, zpx (by rw [znw]; simp [brL]; omega), Option.bind_some, zb5 (by omega), ← zrg]
    exact nums_l5 e (j + 1) k (by omega) (by omega)
set_option maxRecDepth 100000 in
theorem is_1 (k : Nat) : zfe (k + 300) (bs [60, 117, 108, 62, 60, 108, 105, 62, 49, 60, 108, 105, 62, 50, 60, 47, 117, 108, 62, 120]) (bs [117, 108, 40, 108, 105, 40, 49, 59, 41, 108, 105, 40, 50, 59, 41, 41, 120, 59]) = some true := by kernel_rfl
set_option maxRecDepth 100000 in
theorem is_2 (k : Nat) : zfe (k + 300) (bs [60, 98, 62, 49, 60, 105, 62, 50, 60, 47, 98, 62, 51, 60, 47, 105, 62, 52]) (bs [98, 40, 49, 59, 105, 40, 50, 59, 41, 41, 105, 40, 51, 59, 41, 52, 59]) = some true := by kernel_rfl
set_option maxRecDepth 100000 in
theorem is_3 (k : Nat) : zfe (k + 300) (bs [60, 47, 112, 62]) (bs [112, 40, 41]) = some true := by kernel_rfl
theorem is_4 (k : Nat) : zfe (k + 300) (bs [60, 47, 100, 105, 118, 62]) (bs []) = some true := by kernel_rfl
theorem is_5 (k : Nat) : zfe (k + 300) (bs [60, 98, 114, 62, 120, 60, 47, 98, 114, 62]) (bs [98, 114, 40, 41, 120, 59]) = some true := by kernel_rfl
theorem is_6 (k : Nat) : zfe (k + 300) (bs []) (bs []) = some true := by kernel_rfl
theorem is_7 (k : Nat) : zfe (k + 300) (bs [60, 116, 100, 62]) (bs [116, 100, 40, 41]) = some true := by kernel_rfl
set_option maxRecDepth 100000 in
theorem is_8 (k : Nat) : zfe (k + 300) (bs [60, 112, 62, 60, 98, 62, 49, 60, 112, 62, 50]) (bs [112, 40, 98, 40, 49, 59, 41, 41, 112, 40, 50, 59, 41]) = some true := by kernel_rfl
set_option maxRecDepth 100000 in
theorem is_9 (k : Nat) : zfe (k + 300) (bs [60, 116, 97, 98, 108, 101, 62, 60, 116, 114, 62, 32, 60, 98, 62, 120, 60, 47, 98, 62, 121, 60, 47, 116, 97, 98, 108, 101, 62]) (bs [98, 40, 120, 59, 41, 121, 59, 116, 97, 98, 108, 101, 40, 116, 114, 40, 41, 41]) = some true := by kernel_rfl
theorem zm5 {l : List UInt8} {r : List Int} (h : runesIn (bs l) = r) (hl : l.length ≤ 1000000) : runesM (bs l) = some r := by rw [zp7 hl, h]
theorem zmi (hn : 20000000 ≤ n) : zgo n = some true := by
  have kn := zpo (n := n) (by omega)
  unfold zgo
  have h5 := nums_l5 (n := n) 4096 0 n rfl (by omega)
  rw [show (rep 0 brL) = [] from rfl] at h5
  rw [show (0 : Int) = ((0 : Nat) : Int) from rfl, h5]
  unfold zfb
  have h4 := nums_l4 (n := n) (bs (rep 4096 brL)) 255 0 n rfl (by omega)
  rw [show (rep 0 iL) = [] from rfl] at h4
  rw [show (0 : Int) = ((0 : Nat) : Int) from rfl, h4]
  unfold zfa
  have l1 : (rep 4096 brL).length = 16384 := znw brL 4096
  have l2 : (rep 255 iL).length = 765 := znw iL 255
  have l3 : (rep 4095 brL).length = 16380 := znw brL 4095
  have r1 : runesM (bs (rep 4096 brL)) = some (repR 4096 [60, 98, 114, 62]) := zm5 (by have := zrb [] 4096; rw [List.append_nil] at this; rw [this]; exact List.append_nil _) (by omega)
  have r2 : runesM (bs (rep 4095 brL)) = some (repR 4095 [60, 98, 114, 62]) := zm5 (by have := zrb [] 4095; rw [List.append_nil] at this; rw [this]; exact List.append_nil _) (by omega)
  have r3 : runesM (bs (rep 255 iL)) = some (repR 255 [60, 105, 62]) := zm5 (by have := runes_i [] 255; rw [List.append_nil] at this; rw [this]; exact List.append_nil _) (by omega)
  have r4 : runesM (bs (rep 255 iL ++ [120])) = some (repR 255 [60, 105, 62] ++ [120]) := zm5 (runes_i [120] 255) (by rw [List.length_append, l2]; simp)
  have c1 : cutS (bs (rep 4096 brL)) (4 : Int) ((bs (rep 4096 brL)).size : Int) = some (bs (rep 4095 brL)) := by
    rw [zha, show (4 : Int) = ((4 : Nat) : Int) from rfl, zoa _ (by omega) (Nat.le_refl _), List.take_length, zrh 4095 brL]
    rfl
  obtain ⟨t1, p1⟩ := (parse_br (n := n) 4095 (by omega) hn).1 (Nat.le_refl _)
  have p2 := (parse_br (n := n) 4096 (Nat.le_refl _) hn).2 rfl
  obtain ⟨t2, p3⟩ := parse_i (n := n) hn
  have p4 := parse_ix (n := n) hn
  rw [r1, Option.bind_some, p2, Option.bind_some, c1, Option.bind_some, r2, Option.bind_some, p1, Option.bind_some, r3, Option.bind_some, p3, Option.bind_some, zpx (by rw [l2]; simp), Option.bind_some, r4, Option.bind_some, p4, Option.bind_some]
  simp only [decide_true, cond_true]
  rw [show (bs [98, 114] : ByteArray) = brN from rfl, zns _ (by omega), Option.bind_some, decide_eq_true br_ok.2.2.2.2, cond_true, zns _ (by omega), Option.bind_some, decide_eq_false (by simp [voids]), Bool.not_false, cond_true]
  obtain ⟨k, rfl⟩ : ∃ k, n = k + 300 := ⟨n - 300, by omega⟩
  rw [is_1, Option.bind_some, cond_true, is_2, Option.bind_some, cond_true, is_3, Option.bind_some, cond_true, is_4, Option.bind_some, cond_true, is_5, Option.bind_some, cond_true, is_6, Option.bind_some, cond_true, is_7, Option.bind_some, cond_true, is_8, Option.bind_some, cond_true, is_9, Option.bind_some, cond_true, kn]
  rfl
theorem zlv : ∃ fuel, zgo fuel = some true := ⟨20000000, zmi (Nat.le_refl _)⟩
end Go.Proofs.Ytklcdfnhdljkjaa
