/-
  Walks and laws of this seat.
-/
import Derived.Test.YtklcdfnhdljkjaaPd
import Derived.Test.YtklcdfnhdljkjaaM6L
import Derived.Test.YtklcdfnhdljkjaaPb
import Derived.Test.YtklcdfnhdljkjaaL6vo
namespace Go.Proofs.Ytklcdfnhdljkjaa
set_option linter.unusedVariables false
set_option linter.unusedSimpArgs false
open Go.RowKit Go.Sl
variable {n : Nat}
theorem zqj (l : List za9) (hl : l.length ≤ 1000000) : ∀ (e j k : Nat), j + e = l.length → e + 1 ≤ k → zc2 l l k (j : Int) = some true
  | 0, j, k, hj, hk => by
    obtain ⟨k, rfl⟩ : ∃ i, k = i + 1 := ⟨k - 1, by omega⟩
    rw [zc2, dF (by omega)]; rfl
  | e + 1, j, k, hj, hk => by
    obtain ⟨k, rfl⟩ : ∃ i, k = i + 1 := ⟨k - 1, by omega⟩
    rw [zc2, dT (by omega), zb1, List.getElem?_eq_getElem (by omega), Option.bind_some, Option.bind_some, decide_eq_true rfl, decide_eq_true rfl]
    simp only [Bool.and_true, Bool.not_true, cond_false]
    rw [zb5 (by omega)]
    exact zqj l hl e (j + 1) k (by omega) (by omega)
theorem same_node (x : zac) (hl : x.Attrs.length ≤ 1000000) (hn : x.Attrs.length + 1 ≤ n) : zij n x x = some true := by
  unfold zij zbv zgw
  rw [show decide ((x.Attrs.length : Int) ≠ (x.Attrs.length : Int)) = false from decide_eq_false (fun e => e rfl), cond_false, show (0 : Int) = ((0 : Nat) : Int) from rfl, zqj x.Attrs hl x.Attrs.length 0 n (by omega) (by omega)]
  simp
theorem same_tree (ns : List zac) (h : ∀ x ∈ ns, x.Attrs.length ≤ 1000) (hl : ns.length ≤ 1000000) (hn : 1000001 ≤ n) : ∀ (e j k : Nat), j + e = ns.length → e + 1 ≤ k → ze0 n ⟨ns⟩ ⟨ns⟩ k (j : Int) = some true
  | 0, j, k, hj, hk => by
    obtain ⟨k, rfl⟩ : ∃ i, k = i + 1 := ⟨k - 1, by omega⟩
    rw [ze0, dF (by simp only; omega)]; rfl
  | e + 1, j, k, hj, hk => by
    obtain ⟨k, rfl⟩ : ∃ i, k = i + 1 := ⟨k - 1, by omega⟩
    have hx := h _ (List.getElem_mem (show j < ns.length by omega))
    rw [ze0, dT (by simp only; omega)]
    simp only
    rw [zb1, List.getElem?_eq_getElem (by omega), Option.bind_some, Option.bind_some, same_node _ (by omega) (by omega), Option.bind_some, Bool.not_true, cond_false, zb5 (by omega)]
    exact same_tree ns h hl hn e (j + 1) k (by omega) (by omega)
theorem same_tree_eq (ns : List zac) (h : ∀ x ∈ ns, x.Attrs.length ≤ 1000) (hl : ns.length ≤ 1000000) (hn : 1000001 ≤ n) : zii n ⟨ns⟩ ⟨ns⟩ = some true := by
  unfold zii
  simp only
  rw [show decide ((ns.length : Int) ≠ (ns.length : Int)) = false from decide_eq_false (fun e => e rfl), cond_false]
  exact same_tree ns h hl hn ns.length 0 n (by omega) (by omega)
def fixR (x : Int) : Int := if Utf8.valid x = true then x else 65533
theorem enc_fix (x : Int) : Utf8.encode x = Utf8.encode (fixR x) := by
  unfold fixR
  split
  · rfl
  · rename_i h
    have h' : Utf8.valid x = false := by simpa using h
    unfold Utf8.encode
    rw [h']
    rfl
theorem fix_valid (x : Int) : Utf8.valid (fixR x) = true := by
  unfold fixR
  split
  · assumption
  · rfl
theorem text_fix : ∀ xs : List Int, textOf xs = textOf (xs.map fixR)
  | [] => rfl
  | x :: xs => by rw [List.map_cons, zh3, zh3, text_fix xs, enc_fix]
theorem runes_fix (xs : List Int) : runesIn (textOf xs) = xs.map fixR := by
  rw [text_fix, zq3]
  intro x hx
  obtain ⟨y, _, rfl⟩ := List.mem_map.1 hx
  exact fix_valid y
theorem fix_ne {x : Int} (h : x ≠ 60) : fixR x ≠ 60 := by
  unfold fixR
  split
  · exact h
  · decide
def dv : ByteArray := bs [100, 105, 118]
def sp : ByteArray := bs [115, 112, 97, 110]
def pre2 : List UInt8 := [60, 100, 105, 118, 62, 60, 115, 112, 97, 110, 62]
def preR : List Int := [60, 100, 105, 118, 62, 60, 115, 112, 97, 110, 62]
def sufR : List Int := [60, 47, 115, 112, 97, 110, 62, 60, 47, 100, 105, 118, 62, 60, 47, 117, 62, 60, 47, 114, 111, 111, 116, 62, 60, 47, 104, 114, 62]
def suf2 : List UInt8 := [60, 47, 115, 112, 97, 110, 62, 60, 47, 100, 105, 118, 62, 60, 47, 117, 62, 60, 47, 114, 111, 111, 116, 62, 60, 47, 104, 114, 62]
theorem runes_pre (l : List UInt8) : runesIn (bs (pre2 ++ l)) = preR ++ runesIn (bs l) := by
  unfold pre2
  simp only [List.cons_append, List.nil_append]
  rw [zd6 (by decide), zd6 (by decide), zd6 (by decide), zd6 (by decide), zd6 (by decide), zd6 (by decide), zd6 (by decide), zd6 (by decide), zd6 (by decide), zd6 (by decide), zd6 (by decide)]
  rfl
theorem runes_suf (l : List UInt8) : runesIn (bs (l ++ suf2)) = runesIn (bs l) ++ sufR := by
  unfold suf2
  rw [zrc (by decide)]
  congr 1
theorem tok_pre (k : Nat) (r : List Int) : tokS (k + 2) (preR ++ r) = tagTok 2 dv [] false :: tagTok 2 sp [] false :: tokS k r := by
  have e1 : ∀ (m : Nat) (xs : List Int), tokS (m + 1) (60 :: 100 :: 105 :: 118 :: 62 :: xs) = tagTok 2 dv [] false :: tokS m xs := fun m xs => by kernel_rfl
  have e2 : ∀ (m : Nat) (xs : List Int), tokS (m + 1) (60 :: 115 :: 112 :: 97 :: 110 :: 62 :: xs) = tagTok 2 sp [] false :: tokS m xs := fun m xs => by kernel_rfl
  unfold preR
  simp only [List.cons_append, List.nil_append]
  rw [e1, e2]
def shuts : List za5 := [tagTok 3 sp [] false, tagTok 3 dv [] false, tagTok 3 (bs [117]) [] false, tagTok 3 (bs [114, 111, 111, 116]) [] false, tagTok 3 (bs [104, 114]) [] false]
theorem tok_suf (k : Nat) : tokS (k + 6) sufR = shuts := by kernel_rfl
def nd0 (nm : ByteArray) (ab : Int) (ks : List Int) : za2 := {name := nm, text := bs [], attrs := [], above := ab, kids := ks}
def A2 : List za2 := [nd0 (bs [114, 111, 111, 116]) (-1) [1], nd0 dv 0 [2], nd0 sp 1 []]
def A3 (s : ByteArray) : List za2 := [nd0 (bs [114, 111, 111, 116]) (-1) [1], nd0 dv 0 [2], nd0 sp 1 [3], {name := bs [], text := s, attrs := [], above := 2, kids := []}]
def P3 (s : ByteArray) : zad := ⟨bs [114, 111, 111, 116], bs [], [], [⟨dv, bs [], [], [⟨sp, bs [], [], [⟨bs [], s, [], []⟩]⟩]⟩]⟩
def toksA (s : ByteArray) (r : List za5) : List za5 := tagTok 2 dv [] false :: tagTok 2 sp [] false :: textTok s :: r
theorem chars3 (s : ByteArray) (k : Nat) : zby (k + 300) ⟨[0, 1, 2], 3, false⟩ s A2 = some (⟨[0, 1, 2], 4, false⟩, A3 s) := by kernel_rfl
theorem build_a1 (s : ByteArray) (k : Nat) : zgp (k + 300) (toksA s []) = bif decide (s ≠ bs []) then (zby (k + 300) ⟨[0, 1, 2], 3, false⟩ s A2).bind fun x137 => zdo 2 (zan (k + 300) (toksA s []) (k + 297)) x137.1.open_ x137.1.count x137.1.deep x137.2 else zdo 2 (zan (k + 300) (toksA s []) (k + 297)) [0, 1, 2] 3 false A2 := by kernel_rfl
theorem build_a2 (s : ByteArray) (k : Nat) : zdo 2 (zan (k + 300) (toksA s []) (k + 297)) [0, 1, 2] 4 false (A3 s) = (zla (k + 300) (P3 s)).bind fun x59 => some (x59.1, x59.2) := by kernel_rfl
theorem build_b1 (s : ByteArray) (k : Nat) : zgp (k + 300) (toksA s shuts) = bif decide (s ≠ bs []) then (zby (k + 300) ⟨[0, 1, 2], 3, false⟩ s A2).bind fun x137 => zdo 2 (zan (k + 300) (toksA s shuts) (k + 297)) x137.1.open_ x137.1.count x137.1.deep x137.2 else zdo 2 (zan (k + 300) (toksA s shuts) (k + 297)) [0, 1, 2] 3 false A2 := by kernel_rfl
theorem build_b2 (s : ByteArray) (k : Nat) : zdo 2 (zan (k + 300) (toksA s shuts) (k + 297)) [0, 1, 2] 4 false (A3 s) = (zla (k + 300) (P3 s)).bind fun x59 => some (x59.1, x59.2) := by kernel_rfl
theorem zs0 (i : Nat) : attP [] i := fun a h => by simp at h
theorem zpc {p m : ByteArray} (h1 : m ≠ nTr) (h2 : m ≠ nTd) (h3 : m ≠ nP) (h4 : p ≠ nTable) : Rel p m := ⟨fun h => by rcases h.2 with e | e | e; exact h1 e; exact h2 e; exact h3 e, fun h => absurd h h4⟩
theorem goodP_3 {s : ByteArray} (hs : s ≠ bs []) : goodP (P3 s) ∧ okP (P3 s) ∧ psize (P3 s) ≤ 4096 ∧ hgt (P3 s) ≤ 256 := by
  have r1 : Rel (bs [114, 111, 111, 116]) dv := zpc (by simp [dv, nTr]) (by simp [dv, nTd]) (by simp [dv, nP]) (by simp [nTable])
  have r2 : Rel dv sp := zpc (by simp [sp, nTr]) (by simp [sp, nTd]) (by simp [sp, nP]) (by simp [dv, nTable])
  have r3 : Rel sp (bs []) := zpc (by simp [nTr]) (by simp [nTd]) (by simp [nP]) (by simp [sp, nTable])
  have v1 : (bs [114, 111, 111, 116] : ByteArray) ∉ voids := zqq
  have v2 : dv ∉ voids := by simp [dv, voids]
  have v3 : sp ∉ voids := by simp [sp, voids]
  refine ⟨?_, ?_, ?_, ?_⟩
  · unfold P3
    refine ⟨fun h => by simp at h, fun _ => ⟨by simp, zs0, fun h => absurd h v1, fun k hk => ?_, ⟨fun c hc => (by cases hc), trivial⟩, ⟨fun h => by simp [dv] at h, fun _ => ⟨by simp, zs0, fun h => absurd h v2, fun k hk => ?_, ⟨fun c hc => (by cases hc), trivial⟩, ⟨fun h => by simp [sp] at h, fun _ => ⟨by simp, zs0, fun h => absurd h v3, fun k hk => ?_, ⟨fun c hc => (by cases hc), trivial⟩, ⟨fun _ => hs, fun h => absurd rfl h⟩, trivial⟩⟩, trivial⟩⟩, trivial⟩⟩
    · rw [List.mem_singleton] at hk; subst hk; exact r1
    · rw [List.mem_singleton] at hk; subst hk; exact r2
    · rw [List.mem_singleton] at hk; subst hk; exact r3
  · simp [P3, okP, okPs]
  · simp [P3, psize, pssize]
  · simp [P3, hgt, hgts]
theorem lay_3 (s : ByteArray) : ∀ x ∈ lay (P3 s) 0 (-1) (-1) (-1), x.Attrs.length ≤ 1000 := by
  intro x hx
  rw [show lay (P3 s) 0 (-1) (-1) (-1) = [enode (bs [114, 111, 111, 116]) [] (-1) 1 1 (-1) (-1), enode dv [] 0 2 2 (-1) (-1), enode sp [] 1 3 3 (-1) (-1), tnode s 2 (-1) (-1)] from by
    simp [lay, lays, P3, dv, sp, lastOf]] at hx
  simp only [List.mem_cons, List.not_mem_nil, or_false] at hx
  rcases hx with rfl | rfl | rfl | rfl <;> simp [enode, tnode]
theorem open_nil (k : Nat) : zfl (k + 300) [] = some true := by kernel_rfl
theorem open_k1 {x : Int} {xs : List Int} (h : ∀ y ∈ x :: xs, y ≠ 60) (hl : xs.length ≤ 1000) (hn : 20000000 ≤ n) : zfl n (x :: xs) = some true := by
  have kn := zpo (n := n) (by omega)
  obtain ⟨k, rfl⟩ : ∃ k, n = k + 300 := ⟨n - 300, by omega⟩
  obtain ⟨l, hlx⟩ : ∃ l, textOf (x :: xs) = bs l := ⟨_, zrz _⟩
  have hrun : runesIn (bs l) = fixR x :: xs.map fixR := by rw [← hlx, runes_fix]; rfl
  have h60 : ∀ y ∈ fixR x :: xs.map fixR, y ≠ 60 := fun y hy => by
    rw [← List.map_cons, List.mem_map] at hy
    obtain ⟨z, hz, rfl⟩ := hy
    exact fix_ne (h z hz)
  have hll : l.length ≤ 4004 := by
    have h1 := zi1 (x :: xs)
    rw [hlx, zha] at h1
    simp only [List.length_cons] at h1; omega
  have hmap : (xs.map fixR).length ≤ 1000 := by simpa using hl
  obtain ⟨s, hs⟩ : ∃ s, s = ub (textOf (fixR x :: xs.map fixR)) := ⟨_, rfl⟩
  have hsne : s ≠ bs [] := by rw [hs]; exact ub_pos (zm3 (by simp))
  obtain ⟨g1, g2, g3, g4⟩ := goodP_3 hsne
  have mk := make_ok (n := k + 300) (p := P3 s) zl0 g1 g2 g3 g4 (by omega)
  have ra : zbp (k + 300) (preR ++ (fixR x :: xs.map fixR)) = some (⟨lay (P3 s) 0 (-1) (-1) (-1)⟩, 0) := by
    unfold zbp
    rw [zgs _ (by simp [preR]; omega) (by simp [preR]; omega), Option.bind_some]
    have ht : tokS ((preR ++ (fixR x :: xs.map fixR)).length + 1) (preR ++ (fixR x :: xs.map fixR)) = toksA s [] := by
      have hlen : (preR ++ (fixR x :: xs.map fixR)).length = (xs.map fixR).length + 12 := by simp [preR]
      rw [hlen, show (xs.map fixR).length + 12 + 1 = (((xs.map fixR).length + 10) + 1) + 2 from rfl, tok_pre]
      have := tokS_text ((xs.map fixR).length + 10) h60 (r := []) rfl
      rw [List.append_nil] at this
      rw [this, ← hs]; rfl
    rw [ht, build_a1, show decide (s ≠ bs []) = true from decide_eq_true hsne, cond_true, chars3, Option.bind_some, build_a2, mk]; rfl
  have rb : zbp (k + 300) (preR ++ ((fixR x :: xs.map fixR) ++ sufR)) = some (⟨lay (P3 s) 0 (-1) (-1) (-1)⟩, 0) := by
    unfold zbp
    rw [zgs _ (by simp [preR, sufR]; omega) (by simp [preR, sufR]; omega), Option.bind_some]
    have ht : tokS ((preR ++ ((fixR x :: xs.map fixR) ++ sufR)).length + 1) (preR ++ ((fixR x :: xs.map fixR) ++ sufR)) = toksA s shuts := by
      have hlen : (preR ++ ((fixR x :: xs.map fixR) ++ sufR)).length = (xs.map fixR).length + 41 := by simp [preR, sufR]
      rw [hlen, show (xs.map fixR).length + 41 + 1 = (((xs.map fixR).length + 33) + 6 + 1) + 2 from rfl, tok_pre]
      have := tokS_text (((xs.map fixR).length + 33) + 6) h60 (r := sufR) (by kernel_rfl)
      rw [this, ← hs, tok_suf]; rfl
    rw [ht, build_b1, show decide (s ≠ bs []) = true from decide_eq_true hsne, cond_true, chars3, Option.bind_some, build_b2, mk]; rfl
  unfold zfl
  have q1 : addS (bs [60, 100, 105, 118, 62, 60, 115, 112, 97, 110, 62]) (textOf (x :: xs)) = some (bs (pre2 ++ l)) := by rw [hlx, zpx (by simp; omega)]; rfl
  have q2 : addS (bs (pre2 ++ l)) (bs [60, 47, 115, 112, 97, 110, 62, 60, 47, 100, 105, 118, 62, 60, 47, 117, 62, 60, 47, 114, 111, 111, 116, 62, 60, 47, 104, 114, 62]) = some (bs (pre2 ++ (l ++ suf2))) := by
    rw [zpx (by simp [pre2]; omega), List.append_assoc]; rfl
  rw [q1, Option.bind_some, zp7 (by simp [pre2]; omega), Option.bind_some, runes_pre, hrun, ra, Option.bind_some, Option.bind_some, q2, Option.bind_some, zp7 (by simp [pre2, suf2]; omega), Option.bind_some, runes_pre, runes_suf, hrun, rb, Option.bind_some]
  simp only [decide_true, cond_true]
  rw [same_tree_eq _ (lay_3 s) (by rw [zl3]; have := zoj (P3 s); omega) (by omega), Option.bind_some, cond_true, kn]; rfl
theorem open_l3 (l : List Int) (hl : l.length ≤ 1000) (hn : 20000000 ≤ n) : ∀ (e j k : Nat), j + e = l.length → e + 1 ≤ k → (∀ y ∈ l.take j, y ≠ 60) → zdz n l k (j : Int) = some true
  | 0, j, k, hj, hk, h => by
    obtain ⟨k, rfl⟩ : ∃ i, k = i + 1 := ⟨k - 1, by omega⟩
    rw [zdz, dF (by omega)]
    rw [List.take_of_length_le (by omega)] at h
    cases l with
    | nil =>
      obtain ⟨k, rfl⟩ : ∃ k, n = k + 300 := ⟨n - 300, by omega⟩
      exact open_nil k
    | cons x xs => exact open_k1 h (by simp at hl; omega) hn
  | e + 1, j, k, hj, hk, h => by
    obtain ⟨k, rfl⟩ : ∃ i, k = i + 1 := ⟨k - 1, by omega⟩
    have hg : l[j]? = some l[j] := List.getElem?_eq_getElem (by omega)
    rw [zdz, dT (by omega), zb1, hg, Option.bind_some]
    by_cases h2 : l[j] = 60
    · rw [dT h2, zpo (by omega)]; rfl
    · rw [dF h2, zb5 (by omega)]
      refine open_l3 l hl hn e (j + 1) k (by omega) (by omega) fun y hy => ?_
      rw [List.take_add_one, hg, Option.toList_some, List.mem_append, List.mem_singleton] at hy
      rcases hy with hy | rfl
      · exact h y hy
      · exact h2
theorem zo5 (l : List Int) (hn : 20000000 ≤ n) : zih n l = some true := by
  unfold zih
  rw [show (1000 : Int) = ((1000 : Nat) : Int) from rfl, zpr, Option.bind_some]
  exact open_l3 (l.take 1000) (by rw [List.length_take]; omega) hn (l.take 1000).length 0 n (by omega) (by rw [List.length_take]; omega) (by simp)
theorem znl {l : List Int} (_ : Ssl 4 (Sint .i32) l) : ∃ fuel, zih fuel l = some true := ⟨20000000, zo5 l (Nat.le_refl _)⟩
end Go.Proofs.Ytklcdfnhdljkjaa
