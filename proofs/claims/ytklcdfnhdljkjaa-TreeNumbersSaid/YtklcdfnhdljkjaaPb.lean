/-
  Walks and laws of this seat.
-/
import Derived.Test.YtklcdfnhdljkjaaPa
import Derived.Test.YtklcdfnhdljkjaaL6e
import Derived.Test.YtklcdfnhdljkjaaL6f
import Derived.Test.YtklcdfnhdljkjaaBasg
namespace Go.Proofs.Ytklcdfnhdljkjaa
set_option linter.unusedVariables false
set_option linter.unusedSimpArgs false
open Go.RowKit Go.Sl
theorem zrz (s : ByteArray) : s = bs s.data.toList := by cases s; simp [bs]
theorem zha (l : List UInt8) : (bs l).size = l.length := by simp [ByteArray.size]
theorem zlg {a b : List UInt8} : bs a = bs b ↔ a = b := by
  constructor
  · intro h
    have := congrArg (fun s => s.data.toList) h
    simpa using this
  · rintro rfl; rfl
theorem zr1 (l : List UInt8) : bytesIn (bs l) = l.map fun b => (b.toNat : Int) := by simp [bytesIn]
theorem bytesOf_map (l : List UInt8) : bytesOf (l.map fun b => (b.toNat : Int)) = bs l := by
  simp [bytesOf, Function.comp_def]
theorem getS_bs {l : List UInt8} {i : Nat} {b : UInt8} (h : l[i]? = some b) : getS (bs l) (i : Int) = some (b.toNat : Int) := by
  simp [getS, zr1, geti, h]
theorem zoa (l : List UInt8) {lo hi : Nat} (h1 : lo ≤ hi) (h2 : hi ≤ l.length) : cutS (bs l) (lo : Int) (hi : Int) = some (bs ((l.take hi).drop lo)) := by
  have e : (bs l).extract lo hi = bs ((l.take hi).drop lo) := by
    apply ByteArray.ext
    simp [bs, ByteArray.data_extract, List.drop_take]
  have h3 : (lo : Int) ≤ hi := by omega
  have h4 : (hi : Int) ≤ l.length := by omega
  simp only [cutS, zha, Int.toNat_natCast, e, h3, h4]
  simp
theorem zpx {a b : List UInt8} (h : a.length + b.length ≤ 9223372036854775807) : addS (bs a) (bs b) = some (bs (a ++ b)) := by
  have e : bs a ++ bs b = bs (a ++ b) := by apply ByteArray.ext; simp [bs]
  simp [addS, zha, h, e]
def hexes : List UInt8 := [48, 49, 50, 51, 52, 53, 54, 55, 56, 57, 97, 98, 99, 100, 101, 102]
def lowI (x : Int) : Int := bif (decide (65 ≤ x)) && (decide (x ≤ 90)) then IntKind.i32.wrap ((IntKind.i32.wrap (x + 97)) - 65) else x
def dmI (b : UInt8) : Int := Go.Lib.indexByte hexes ((Utf8.encode (lowI (IntKind.i32.wrap (b.toNat : Int)))).data.toList.headD 0)
def dg (base : Int) (b : UInt8) : Int := bif (decide (dmI b < 0)) || (decide (base ≤ dmI b)) then -1 else dmI b
theorem zq6 (k : Nat) (x : Int) : zg0 (k + 2) [x] = some (textOf [lowI x]) := by
  unfold zg0
  rw [zew (by simp), Option.bind_some, List.nil_append]
  unfold zdp
  rw [show decide ((0 : Int) < ((([x] : List Int).length : Nat) : Int)) = true from rfl, cond_true, show geti [x] 0 = some x from rfl, Option.bind_some]
  unfold lowI
  cases (decide (65 ≤ x) && decide (x ≤ 90)) <;> rfl
def dm (b : UInt8) : Int := Go.Lib.indexByte hexes ((Utf8.encode (lowI (IntKind.i32.wrap (b.toNat : Int)))).data.toList.headD 0)
theorem all_bytes {p : UInt8 → Prop} [DecidablePred p] (h : (List.range 256).all (fun k => decide (p (UInt8.ofNat k))) = true) (b : UInt8) : p b := by
  rw [List.all_eq_true] at h
  have := h b.toNat (List.mem_range.2 b.toNat_lt)
  simpa using this
theorem dm_dg10 (b : UInt8) : (bif (decide (dm b < 0)) || (decide (10 ≤ dm b)) then -1 else dm b) = dg 10 b := all_bytes (p := fun b => (bif (decide (dm b < 0)) || (decide (10 ≤ dm b)) then -1 else dm b) = dg 10 b) (by kernel_rfl) b
theorem dm_dg16 (b : UInt8) : (bif (decide (dm b < 0)) || (decide (16 ≤ dm b)) then -1 else dm b) = dg 16 b := all_bytes (p := fun b => (bif (decide (dm b < 0)) || (decide (16 ≤ dm b)) then -1 else dm b) = dg 16 b) (by kernel_rfl) b
theorem zp2 (r : Int) : ∃ b t, (Utf8.encode r).data.toList = b :: t ∧ t.length ≤ 3 := by
  unfold Utf8.encode
  simp only
  generalize (if Utf8.valid r = true then r.toNat else Utf8.runeError) = c
  split
  · exact ⟨_, _, rfl, by simp⟩
  · split
    · exact ⟨_, _, rfl, by simp⟩
    · split
      · exact ⟨_, _, rfl, by simp⟩
      · exact ⟨_, _, rfl, by simp⟩
theorem textOf_one (x : Int) : textOf [x] = Utf8.encode x := by
  simp [textOf]
theorem mark_dig (k : Nat) (b : UInt8) {β : Type} (K : Int → Option β) : ((zg0 (k + 2) [IntKind.i32.wrap (b.toNat : Int)]).bind fun x19 => (getS x19 0).bind fun x21 => (zdc (k + 2) (bs hexes) x21).bind K) = K (dm b) := by
  rw [zq6, Option.bind_some, textOf_one]
  obtain ⟨c, t, h, _⟩ := zp2 (lowI (IntKind.i32.wrap (b.toNat : Int)))
  have e : Utf8.encode (lowI (IntKind.i32.wrap (b.toNat : Int))) = bs (c :: t) := by rw [zrz (Utf8.encode _), h]
  rw [e, show (0 : Int) = ((0 : Nat) : Int) from rfl, getS_bs (b := c) rfl, Option.bind_some]
  unfold zdc dm
  rw [Option.bind_some, h]
  simp
end Go.Proofs.Ytklcdfnhdljkjaa
namespace Go.Proofs.Ytklcdfnhdljkjaa
set_option linter.unusedVariables false
set_option linter.unusedSimpArgs false
open Go.RowKit Go.Sl
theorem dT {α : Type} {p : Prop} [Decidable p] (h : p) {a b : α} : (bif decide p then a else b) = a := by rw [decide_eq_true h]; rfl
theorem dF {α : Type} {p : Prop} [Decidable p] (h : ¬ p) {a b : α} : (bif decide p then a else b) = b := by rw [decide_eq_false h]; rfl
def numR (base : Int) : List UInt8 → Nat → Int → Option (Int × List UInt8)
  | [], _, _ => none
  | b :: t, c, v => if 0 ≤ dg base b then (if c < 9 then numR base t (c + 1) (w64 (w64 (v * base) + dg base b)) else none)
      else if b = 59 ∧ 1 ≤ c ∧ c ≤ 8 then some (v, t) else none
def fixV (v : Int) : Int := bif ((decide (v = 0)) || ((decide (1114111 < v)) || ((decide (55296 ≤ v)) && (decide (v ≤ 57343))))) then 65533 else v
def chr (v : Int) : List UInt8 := (Utf8.encode (IntKind.i32.wrap (fixV v))).data.toList
theorem bs_chr (v : Int) : bs (chr v) = Utf8.encode (IntKind.i32.wrap (fixV v)) := (zrz _).symm
theorem chr_len (v : Int) : 1 ≤ (chr v).length ∧ (chr v).length ≤ 4 := by
  obtain ⟨b, t, h, h2⟩ := zp2 (IntKind.i32.wrap (fixV v))
  unfold chr
  rw [h]
  simp; omega
def words : List (List UInt8 × List UInt8) := [([97, 109, 112], [38]), ([108, 116], [60]), ([103, 116], [62]), ([113, 117, 111, 116], [34]), ([97, 112, 111, 115], [39]), ([110, 98, 115, 112], [194, 160])]
def num (r : List UInt8) : Option (List UInt8 × List UInt8) := match r with
  | h :: x :: t => if h = 35 then (if x = 120 ∨ x = 88 then (numR 16 t 0 0).map fun q => (chr q.1, q.2) else (numR 10 (x :: t) 0 0).map fun q => (chr q.1, q.2)) else none
  | _ => none
def ent (r : List UInt8) : Option (List UInt8 × List UInt8) := match words.find? (fun p => (p.1 ++ [59]).isPrefixOf r) with
  | some p => some (p.2, r.drop (p.1.length + 1))
  | none => num r
def un : Nat → List UInt8 → List UInt8
  | 0, _ => []
  | _ + 1, [] => []
  | k + 1, b :: r => if b = 38 then (match ent r with
    | some q => q.1 ++ un k q.2
    | none => b :: un k r) else b :: un k r
theorem zph (base : Int) : ∀ (t : List UInt8) (c : Nat) (v : Int) (q : Int × List UInt8), numR base t c v = some q → q.2.length < t.length
  | [], _, _, _, h => by simp [numR] at h
  | b :: t, c, v, q, h => by
    unfold numR at h
    split at h
    · split at h
      · have := zph base t _ _ _ h
        simp; omega
      · cases h
    · split at h
      · cases h; simp
      · cases h
theorem num_left {r : List UInt8} {q : List UInt8 × List UInt8} (h : num r = some q) : q.2.length < r.length ∧ 1 ≤ q.1.length ∧ q.1.length ≤ 4 := by
  unfold num at h
  split at h
  · rename_i x t
    split at h
    · split at h
      · obtain ⟨p, h1, rfl⟩ := Option.map_eq_some_iff.1 h
        have := zph _ _ _ _ _ h1
        exact ⟨by simp; omega, chr_len _⟩
      · obtain ⟨p, h1, rfl⟩ := Option.map_eq_some_iff.1 h
        have := zph _ _ _ _ _ h1
        exact ⟨by simp at this ⊢; omega, chr_len _⟩
    · cases h
  · cases h
theorem zp1 {r : List UInt8} {q : List UInt8 × List UInt8} (h : ent r = some q) : q.2.length < r.length ∧ 1 ≤ q.1.length ∧ q.1.length ≤ 4 := by
  unfold ent at h
  split at h
  · rename_i p hp
    cases h
    have h1 := List.mem_of_find?_eq_some hp
    have h2 := List.find?_some hp
    have h3 := (List.isPrefixOf_iff_prefix.1 h2).length_le
    simp only [List.length_append, List.length_singleton] at h3
    refine ⟨by simp; omega, ?_⟩
    simp only [words, List.mem_cons, List.mem_nil_iff, or_false] at h1
    rcases h1 with rfl | rfl | rfl | rfl | rfl | rfl <;> simp
  · exact num_left h
end Go.Proofs.Ytklcdfnhdljkjaa
namespace Go.Proofs.Ytklcdfnhdljkjaa
set_option linter.unusedVariables false
set_option linter.unusedSimpArgs false
open Go.RowKit Go.Sl
end Go.Proofs.Ytklcdfnhdljkjaa
namespace Go.Proofs.Ytklcdfnhdljkjaa
set_option linter.unusedVariables false
set_option linter.unusedSimpArgs false
open Go.RowKit Go.Sl
def semi : List UInt8 → Option Nat
  | [] => none
  | b :: t => if b = 59 then some 0 else (semi t).map (· + 1)
theorem semi_idx : ∀ l : List UInt8, Go.Lib.indexByte l 59 = match semi l with | none => -1 | some e => (e : Int)
  | [] => rfl
  | b :: t => by
    unfold Go.Lib.indexByte semi
    by_cases h : b = 59
    · subst h; rfl
    · rw [if_neg (by simpa using h), if_neg h, semi_idx t]
      cases semi t with
      | none => rfl
      | some e =>
        have : ¬ (((e : Int) == -1) = true) := by simp
        rw [if_neg this]; simp
theorem znu : ∀ {l : List UInt8} {e : Nat}, semi l = some e → e < l.length ∧ l = l.take e ++ 59 :: l.drop (e + 1)
  | b :: t, e, h => by
    unfold semi at h
    split at h
    · cases h; rename_i hb; subst hb; simp
    · obtain ⟨e', h1, rfl⟩ := Option.map_eq_some_iff.1 h
      obtain ⟨h2, h3⟩ := znu h1
      refine ⟨by simp; omega, ?_⟩
      simp only [List.take_succ_cons, List.drop_succ_cons, List.cons_append]
      rw [← h3]
theorem semi_take : ∀ (l : List UInt8) (m : Nat), semi (l.take m) = (semi l).filter (· < m)
  | [], m => by simp [semi]
  | b :: t, 0 => by
    simp only [List.take_zero]
    cases semi (b :: t) <;> simp [semi]
  | b :: t, m + 1 => by
    simp only [List.take_succ_cons]
    by_cases h : b = 59
    · simp [semi, h, Option.filter]
    · simp only [semi, if_neg h, semi_take t m]
      cases semi t with
      | none => rfl
      | some e => by_cases h : e < m <;> simp [Option.filter, h]
theorem semi_word {w r : List UInt8} (hw : ∀ b ∈ w, b ≠ 59) : semi (w ++ 59 :: r) = some w.length := by
  induction w with
  | nil => simp [semi]
  | cons b w ih =>
    rw [List.cons_append]
    unfold semi
    rw [if_neg (hw b (List.mem_cons_self ..)), ih fun x hx => hw x (List.mem_cons_of_mem _ hx)]
    simp
def foldD (base : Int) : List UInt8 → Int → Option Int
  | [], v => some v
  | b :: t, v => if 0 ≤ dg base b then foldD base t (w64 (w64 (v * base) + dg base b)) else none
theorem znf {base : Int} (hb : dg base 59 < 0) : ∀ (t : List UInt8) (c : Nat) (v : Int), numR base t c v = match semi t with
    | none => none
    | some e => if 1 ≤ c + e ∧ c + e ≤ 8 then (foldD base (t.take e) v).map (fun v => (v, t.drop (e + 1))) else none
  | [], c, v => rfl
  | b :: t, c, v => by
    unfold numR semi
    by_cases h59 : b = 59
    · subst h59
      rw [if_neg (by omega), if_pos rfl]
      simp only [Nat.add_zero, List.take_zero, List.drop_succ_cons, List.drop_zero, foldD, Option.map_some, true_and]
    · rw [if_neg h59]
      by_cases hd : 0 ≤ dg base b
      · rw [if_pos hd]
        by_cases h9 : c < 9
        · rw [if_pos h9, znf hb t]
          cases semi t with
          | none => rfl
          | some e =>
            simp only [Option.map_some, List.take_succ_cons, List.drop_succ_cons, foldD, if_pos hd, show c + (e + 1) = c + 1 + e by omega]
        · rw [if_neg h9]
          cases semi t with
          | none => rfl
          | some e => simp only [Option.map_some]; rw [if_neg (by omega)]
      · rw [if_neg hd, if_neg (by simp [h59])]
        cases semi t with
        | none => rfl
        | some e =>
          simp only [Option.map_some, List.take_succ_cons, foldD, if_neg hd, Option.map_none]
          split <;> rfl
def numM (base : Int) (t : List UInt8) : List UInt8 := if t = [] ∨ 8 < t.length then [] else match foldD base t 0 with
  | none => []
  | some v => chr v
theorem mark_k1 (v : Int) : zgk v = some (bs (chr v)) := by
  rw [bs_chr]
  unfold zgk zgj fixV
  cases ((decide (v = 0)) || ((decide (1114111 < v)) || ((decide (55296 ≤ v)) && (decide (v ≤ 57343))))) <;> rfl
theorem mark_l3 {base : Int} (hbase : ∀ b, (bif (decide (dm b < 0)) || (decide (base ≤ dm b)) then -1 else dm b) = dg base b) (hlo : ∀ b, 0 ≤ dm b ∨ dm b < 0) (n : Nat) (hn : 20 ≤ n) : ∀ (t pre : List UInt8) (v : Int) (k : Nat), (pre ++ t).length ≤ 1000 → t.length + 1 ≤ k →
    zdx n (bs (pre ++ t)) base k v (pre.length : Int) = match foldD base t v with | none => some (bs []) | some v => some (bs (chr v))
  | [], pre, v, k, hl, hk => by
    obtain ⟨k, rfl⟩ : ∃ m, k = m + 1 := ⟨k - 1, by omega⟩
    rw [zdx, dF (by rw [zha]; simp)]
    exact mark_k1 v
  | b :: t, pre, v, k, hl, hk => by
    obtain ⟨k, rfl⟩ : ∃ m, k = m + 1 := ⟨k - 1, by omega⟩
    simp only [List.length_cons] at hk
    have hl2 := hl
    rw [List.length_append] at hl2
    obtain ⟨n', rfl⟩ : ∃ m, n = m + 2 := ⟨n - 2, by omega⟩
    rw [zdx, dT (by rw [zha]; simp; omega), getS_bs (b := b) (by simp), Option.bind_some]
    rw [show bs [48, 49, 50, 51, 52, 53, 54, 55, 56, 57, 97, 98, 99, 100, 101, 102] = bs hexes from rfl, mark_dig]
    have hb := hbase b
    unfold foldD
    cases hc : (decide (dm b < 0)) || (decide (base ≤ dm b)) with
    | true =>
      rw [hc, cond_true] at hb
      rw [cond_true, if_neg (by omega)]
    | false =>
      rw [hc, cond_false] at hb
      simp only [Bool.or_eq_false_iff, decide_eq_false_iff_not] at hc
      rw [cond_false, if_pos (by omega), zb5 (by omega), hb]
      have := mark_l3 hbase hlo (n' + 2) hn t (pre ++ [b]) (w64 (w64 (v * base) + dg base b)) k (by simpa using hl) (by omega)
      rw [List.append_assoc, List.singleton_append, List.length_append, List.length_singleton] at this
      exact this
theorem mark_num {base : Int} (hbase : ∀ b, (bif (decide (dm b < 0)) || (decide (base ≤ dm b)) then -1 else dm b) = dg base b) (n : Nat) (hn : 20 ≤ n) (t : List UInt8) : zhg n (bs t) base = some (bs (numM base t)) := by
  unfold zhg numM
  by_cases h : t = [] ∨ 8 < t.length
  · rw [if_pos h]
    have : ((decide (bs t = bs [])) || (decide (8 < ((bs t).size : Int)))) = true := by
      rw [zha, Bool.or_eq_true, decide_eq_true_iff, decide_eq_true_iff, zlg]
      rcases h with h | h
      · exact .inl h
      · exact .inr (by omega)
    rw [this, cond_true]
  · rw [if_neg h]
    have : ((decide (bs t = bs [])) || (decide (8 < ((bs t).size : Int)))) = false := by
      rw [zha, Bool.or_eq_false_iff, decide_eq_false_iff_not, decide_eq_false_iff_not, zlg]
      exact ⟨fun e => h (.inl e), fun e => h (.inr (by omega))⟩
    rw [this, cond_false]
    have h2 : t.length ≤ 8 := by omega
    have := mark_l3 hbase (fun b => by omega) n hn t [] 0 n (by simpa using (by omega : t.length ≤ 1000)) (by omega)
    rw [List.nil_append] at this
    rw [show (0 : Int) = (([] : List UInt8).length : Int) from rfl] at *
    rw [this]
    cases foldD base t _ <;> rfl
end Go.Proofs.Ytklcdfnhdljkjaa
namespace Go.Proofs.Ytklcdfnhdljkjaa
set_option linter.unusedVariables false
set_option linter.unusedSimpArgs false
open Go.RowKit Go.Sl
def namedM (name : List UInt8) : List UInt8 := match words.find? (fun p => decide (name = p.1)) with
  | some p => p.2
  | none => []
def entM (name : List UInt8) : List UInt8 := match name with
  | h :: t => if h = 35 then (match t with
    | x :: t' => if x = 120 ∨ x = 88 then numM 16 t' else numM 10 t
    | [] => numM 10 t) else namedM name
  | [] => namedM name
theorem zrr (n : Nat) (name : List UInt8) : zkl n (bs name) = some (bs (namedM name)) := by
  unfold zkl namedM words
  by_cases h1 : name = [97, 109, 112]
  · subst h1; rfl
  by_cases h2 : name = [108, 116]
  · subst h2; rfl
  by_cases h3 : name = [103, 116]
  · subst h3; rfl
  by_cases h4 : name = [113, 117, 111, 116]
  · subst h4; rfl
  by_cases h5 : name = [97, 112, 111, 115]
  · subst h5; rfl
  by_cases h6 : name = [110, 98, 115, 112]
  · subst h6; rfl
  rw [dF (fun e => h1 (zlg.1 e)), dF (fun e => h2 (zlg.1 e)), dF (fun e => h3 (zlg.1 e)), dF (fun e => h4 (zlg.1 e)), dF (fun e => h5 (zlg.1 e)), dF (fun e => h6 (zlg.1 e))]
  simp [h1, h2, h3, h4, h5, h6]
theorem zkn (n : Nat) (l p : List UInt8) : zea n (bs l) (bs p) = some (p.isPrefixOf l) := by
  unfold zea zd2 zbm
  rw [zha, zha]
  by_cases h : p.length ≤ l.length
  · rw [dT (by omega), show (0 : Int) = ((0 : Nat) : Int) from rfl, zoa l (Nat.zero_le _) h, Option.bind_some, Option.bind_some, List.drop_zero]
    congr 1
    rw [Bool.eq_iff_iff, decide_eq_true_iff, zlg, List.isPrefixOf_iff_prefix, List.prefix_iff_eq_take]
    exact eq_comm
  · rw [dF (by omega), Option.bind_some]
    congr 1
    symm
    rw [Bool.eq_false_iff]
    intro e
    exact h (List.isPrefixOf_iff_prefix.1 e).length_le
theorem zq8 (n : Nat) (hn : 20 ≤ n) (name : List UInt8) : zjv n (bs name) = some (bs (entM name)) := by
  have tail : ∀ (l : List UInt8) (m : Nat), m ≤ l.length → cutS (bs l) (m : Int) (((bs l).size : Nat) : Int) = some (bs (l.drop m)) := fun l m h => by
    rw [zha, zoa l h (Nat.le_refl _), List.take_length]
  unfold zjv
  rw [zkn, Option.bind_some]
  have k1f : ∀ l : List UInt8, ([35] : List UInt8).isPrefixOf l = false → zdf n (bs l) false = some (bs (namedM l)) := fun l h => by
    unfold zdf
    rw [cond_false, zkn, Option.bind_some, h, cond_false, zrr]; rfl
  have k1t : ∀ l : List UInt8, zdf n (bs (35 :: l)) false = some (bs (numM 10 l)) := fun l => by
    unfold zdf
    rw [cond_false, zkn, Option.bind_some, show ([35] : List UInt8).isPrefixOf (35 :: l) = true from by simp, cond_true]
    have := tail (35 :: l) 1 (by simp)
    rw [show ((1 : Nat) : Int) = 1 from rfl] at this
    rw [this, Option.bind_some, List.drop_succ_cons, List.drop_zero, mark_num dm_dg10 n hn]; rfl
  have k1x : ∀ (x : UInt8) (l : List UInt8), zdf n (bs (35 :: x :: l)) true = some (bs (numM 16 l)) := fun x l => by
    unfold zdf
    rw [cond_true]
    have := tail (35 :: x :: l) 2 (by simp)
    rw [show ((2 : Nat) : Int) = 2 from rfl] at this
    rw [this, Option.bind_some, List.drop_succ_cons, List.drop_succ_cons, List.drop_zero, mark_num dm_dg16 n hn]; rfl
  cases name with
  | nil => exact k1f [] rfl
  | cons h t =>
    by_cases hh : h = 35
    · subst hh
      cases t with
      | nil => exact k1t []
      | cons x t' =>
        by_cases hx : x = 120
        · subst hx
          rw [show ([35, 120] : List UInt8).isPrefixOf (35 :: 120 :: t') = true from by simp, cond_true, k1x]; rfl
        · rw [show ([35, 120] : List UInt8).isPrefixOf (35 :: x :: t') = false from by simp [List.isPrefixOf, Ne.symm hx], cond_false, zkn, Option.bind_some]
          by_cases hx2 : x = 88
          · subst hx2
            rw [show ([35, 88] : List UInt8).isPrefixOf (35 :: 88 :: t') = true from by simp, k1x]; rfl
          · rw [show ([35, 88] : List UInt8).isPrefixOf (35 :: x :: t') = false from by simp [List.isPrefixOf, Ne.symm hx2], k1t]
            simp [entM, hx, hx2]
    · rw [show ([35, 120] : List UInt8).isPrefixOf (h :: t) = false from by simp [List.isPrefixOf, Ne.symm hh], cond_false, zkn, Option.bind_some]
      rw [show ([35, 88] : List UInt8).isPrefixOf (h :: t) = false from by simp [List.isPrefixOf, Ne.symm hh], k1f _ (by simp [List.isPrefixOf, Ne.symm hh])]
      simp [entM, hh]
def stepM (r : List UInt8) : Option (List UInt8 × List UInt8) := match semi (r.take 11) with
  | some e => if entM (r.take e) = [] then none else some (entM (r.take e), r.drop (e + 1))
  | none => none
theorem numM_num {base : Int} (hb : dg base 59 < 0) {t : List UInt8} {e : Nat} (he : semi t = some e) : (if numM base (t.take e) = [] then none else some (numM base (t.take e), t.drop (e + 1))) = (numR base t 0 0).map fun q => (chr q.1, q.2) := by
  rw [znf hb, he]
  have hl := (znu he).1
  have hlen : (t.take e).length = e := by rw [List.length_take]; omega
  simp only [Nat.zero_add]
  have hN : numM base (t.take e) = if e = 0 ∨ 8 < e then [] else (match foldD base (t.take e) 0 with | none => [] | some v => chr v) := by
    unfold numM
    have : (t.take e = [] ∨ 8 < (t.take e).length) ↔ (e = 0 ∨ 8 < e) := by rw [← List.length_eq_zero_iff, hlen]
    by_cases hp : e = 0 ∨ 8 < e
    · rw [if_pos (this.2 hp), if_pos hp]
    · rw [if_neg (mt this.1 hp), if_neg hp]
      try (cases foldD base (t.take e) 0 <;> rfl)
  rw [hN]
  by_cases h : 1 ≤ e ∧ e ≤ 8
  · have hne : ¬ (e = 0 ∨ 8 < e) := by omega
    simp only [if_neg hne, if_pos h]
    cases foldD base (t.take e) 0 with
    | none => rfl
    | some v =>
      have := (chr_len v).1
      rw [if_neg (fun e0 => by simp only [e0, List.length_nil] at this; omega)]; rfl
  · have hne : e = 0 ∨ 8 < e := by omega
    simp only [if_pos hne, if_neg h]; rfl
theorem namedM_none {name r : List UInt8} (hf : words.find? (fun p => (p.1 ++ [59]).isPrefixOf r) = none) (hr : ∃ r2, r = name ++ 59 :: r2) : namedM name = [] := by
  unfold namedM
  have : words.find? (fun p => decide (name = p.1)) = none := by
    rw [List.find?_eq_none] at hf ⊢
    intro p hp h
    have := hf p hp
    obtain ⟨r2, rfl⟩ := hr
    have e := of_decide_eq_true h
    subst e
    exact this (List.isPrefixOf_iff_prefix.2 ⟨r2, by simp⟩)
  rw [this]
theorem zro {r : List UInt8} (h : semi r = none) : num r = none := by
  unfold num
  split
  · rename_i x t
    split
    · unfold semi at h
      split at h
      · cases h
      · rw [Option.map_eq_none_iff] at h
        have h1 := h
        unfold semi at h1
        split at h1
        · cases h1
        · rw [Option.map_eq_none_iff] at h1
          rw [znf (by decide +kernel), h1, znf (by decide +kernel), h]; simp
    · rfl
  · rfl
theorem stepM_ent (r : List UInt8) : stepM r = ent r := by
  unfold stepM ent
  rw [semi_take]
  cases hf : words.find? (fun p => (p.1 ++ [59]).isPrefixOf r) with
  | some p =>
    have h1 := List.mem_of_find?_eq_some hf
    have h2 := List.find?_some hf
    obtain ⟨r2, hr⟩ := List.isPrefixOf_iff_prefix.1 h2
    rw [List.append_assoc, List.singleton_append] at hr
    have hw : (∀ b ∈ p.1, b ≠ 59) ∧ p.1.length ≤ 4 ∧ entM p.1 = p.2 ∧ p.2 ≠ [] := by
      simp only [words, List.mem_cons, List.mem_nil_iff, or_false] at h1
      rcases h1 with rfl | rfl | rfl | rfl | rfl | rfl <;> exact ⟨by decide, by decide, by decide +kernel, by decide⟩
    rw [← hr, semi_word hw.1]
    have : (some p.1.length).filter (· < 11) = some p.1.length := by simp [Option.filter]; omega
    rw [this]
    simp only
    rw [List.take_left, hw.2.2.1, if_neg hw.2.2.2]
  | none =>
    simp only
    cases hs : semi r with
    | none => rw [zro hs]; rfl
    | some e =>
      obtain ⟨hlt, hr⟩ := znu hs
      by_cases h35 : r.head? = some 35
      · obtain ⟨r1, rfl⟩ : ∃ r1, r = 35 :: r1 := by
          cases r with
          | nil => simp at h35
          | cons h t => simp at h35; subst h35; exact ⟨t, rfl⟩
        have hs1 : semi r1 = some (e - 1) ∧ 1 ≤ e := by
          unfold semi at hs
          rw [if_neg (by decide)] at hs
          obtain ⟨e', h1, rfl⟩ := Option.map_eq_some_iff.1 hs
          exact ⟨h1, by omega⟩
        obtain ⟨e, rfl⟩ : ∃ m, e = m + 1 := ⟨e - 1, by omega⟩
        simp only [Nat.add_sub_cancel] at hs1
        cases r1 with
        | nil => simp [semi] at hs1
        | cons x t =>
          by_cases hx : x = 120 ∨ x = 88
          · have hs2 : semi t = some (e - 1) ∧ 1 ≤ e := by
              have h1 := hs1.1
              unfold semi at h1
              rw [if_neg (by rcases hx with rfl | rfl <;> decide)] at h1
              obtain ⟨e', h9, rfl⟩ := Option.map_eq_some_iff.1 h1
              exact ⟨h9, by omega⟩
            obtain ⟨e, rfl⟩ : ∃ m, e = m + 1 := ⟨e - 1, by omega⟩
            simp only [Nat.add_sub_cancel] at hs2
            have e1 : num (35 :: x :: t) = (numR 16 t 0 0).map fun q => (chr q.1, q.2) := by simp only [num, if_pos hx, if_true]
            have e2 : entM ((35 :: x :: t).take (e + 1 + 1)) = numM 16 (t.take e) := by simp [entM, hx]
            rw [e1, ← numM_num (by decide +kernel) hs2.1]
            by_cases h11 : e + 1 + 1 < 11
            · have : (some (e + 1 + 1)).filter (· < 11) = some (e + 1 + 1) := by simp [Option.filter]; omega
              rw [this]
              simp only
              rw [e2]; rfl
            · have : (some (e + 1 + 1)).filter (· < 11) = none := by simp [Option.filter]; omega
              rw [this]
              have hl := (znu hs2.1).1
              have : numM 16 (t.take e) = [] := by unfold numM; rw [if_pos (.inr (by rw [List.length_take]; omega))]
              rw [this]; rfl
          · have e1 : num (35 :: x :: t) = (numR 10 (x :: t) 0 0).map fun q => (chr q.1, q.2) := by simp only [num, if_neg hx, if_true]
            have e2 : entM ((35 :: x :: t).take (e + 1)) = numM 10 ((x :: t).take e) := by
              cases e with
              | zero => simp [entM]
              | succ e => simp [entM, hx]
            rw [e1, ← numM_num (by decide +kernel) hs1.1]
            by_cases h11 : e + 1 < 11
            · have : (some (e + 1)).filter (· < 11) = some (e + 1) := by simp [Option.filter]; omega
              rw [this]
              simp only
              rw [e2]; rfl
            · have : (some (e + 1)).filter (· < 11) = none := by simp [Option.filter]; omega
              rw [this]
              have hl := (znu hs1.1).1
              have : numM 10 ((x :: t).take e) = [] := by unfold numM; rw [if_pos (.inr (by rw [List.length_take]; omega))]
              rw [this]; rfl
      · have e1 : num r = none := by
          unfold num
          split
          · rename_i h x t
            rw [if_neg (by intro e0; subst e0; exact h35 rfl)]
          · rfl
        rw [e1]
        have e2 : entM (r.take e) = [] := by
          have hn := namedM_none hf ⟨_, hr⟩
          unfold entM
          split
          · rename_i h t ht
            have : h ≠ 35 := by
              rintro rfl
              apply h35
              rw [hr, ht]; rfl
            rw [if_neg this]; exact hn
          · exact hn
        by_cases h11 : e < 11
        · have : (some e).filter (· < 11) = some e := by simp [Option.filter]; omega
          rw [this]
          simp only
          rw [if_pos e2]
        · have : (some e).filter (· < 11) = none := by simp [Option.filter]; omega
          rw [this]
end Go.Proofs.Ytklcdfnhdljkjaa
namespace Go.Proofs.Ytklcdfnhdljkjaa
set_option linter.unusedVariables false
set_option linter.unusedSimpArgs false
open Go.RowKit Go.Sl
abbrev ints (l : List UInt8) : List Int := l.map fun b => (b.toNat : Int)
theorem mark_un (n : Nat) (hn : 20 ≤ n) : ∀ (k : Nat) (r acc : List UInt8) (u : Bool), r.length + 1 ≤ k → r.length ≤ 1000000000000 → acc.length + 4 * r.length ≤ 8000000000000 →
    zba n k (bs r) u (ints acc) = some (bs (acc ++ un k r))
  | 0, _, _, _, hk, _, _ => by omega
  | k + 1, [], acc, u, hk, hl, ha => by
    rw [zba, dF (by simp)]
    unfold zhy
    rw [bytesOf_map]
    simp [un]
  | k + 1, b :: r, acc, u, hk, hl, ha => by
    simp only [List.length_cons] at hk ha hl
    have hg : getS (bs (b :: r)) 0 = some (b.toNat : Int) := getS_bs (i := 0) rfl
    have tail : ∀ m : Nat, m ≤ r.length + 1 → cutS (bs (b :: r)) (m : Int) (((bs (b :: r)).size : Nat) : Int) = some (bs ((b :: r).drop m)) := fun m h => by
      rw [zha, zoa (b :: r) (by simpa using h) (Nat.le_refl _), List.take_length]
    have plain : zfh n (bs (b :: r)) u (ints acc) (zba n k) = some (bs (acc ++ (b :: un k r))) := by
      unfold zfh zfi zhn
      have := tail 1 (by omega)
      rw [show ((1 : Nat) : Int) = 1 from rfl] at this
      rw [hg, Option.bind_some, zew (by simp; omega), Option.bind_some, Option.bind_some, this, Option.bind_some]
      have := mark_un n hn k r (acc ++ [b]) true (by omega) (by omega) (by simp; omega)
      simp only [ints, List.map_append, List.map_cons, List.map_nil, List.append_assoc, List.singleton_append] at this ⊢
      exact this
    rw [zba, dT (p := bs (b :: r) ≠ bs []) (fun e => by have := zlg.1 e; cases this), hg, Option.bind_some]
    unfold un
    by_cases hb : b = 38
    · subst hb
      rw [show decide (((38 : UInt8).toNat : Int) = 38) = true from rfl, cond_true, if_pos rfl]
      have e12 : (bif decide (12 < ((bs (38 :: r)).size : Int)) then (12 : Int) else ((bs (38 :: r)).size : Int)) = ((min 12 (r.length + 1) : Nat) : Int) := by
        rw [zha, List.length_cons]
        by_cases h12 : 12 < r.length + 1
        · rw [dT (by omega)]; omega
        · rw [dF (by omega)]; omega
      have c12 : cutS (bs (38 :: r)) 0 ((min 12 (r.length + 1) : Nat) : Int) = some (bs (38 :: r.take 11)) := by
        rw [show (0 : Int) = ((0 : Nat) : Int) from rfl, zoa _ (Nat.zero_le _) (by simp; omega), List.drop_zero]
        congr 2
        by_cases h12 : 12 ≤ r.length + 1
        · rw [Nat.min_eq_left h12]; rfl
        · rw [Nat.min_eq_right (by omega)]
          rw [List.take_of_length_le (by simp), List.take_of_length_le (by omega)]
      rw [e12, c12, Option.bind_some]
      unfold zdc
      rw [Option.bind_some, show Int.toNat 59 = 59 from rfl, show Nat.toUInt8 59 = (59 : UInt8) from rfl]
      have eix : Go.Lib.indexByte (bs (38 :: r.take 11)).data.toList 59 = match semi (r.take 11) with | none => -1 | some e => (e : Int) + 1 := by
        have : (bs (38 :: r.take 11)).data.toList = 38 :: r.take 11 := by simp
        rw [this, semi_idx, semi, if_neg (by decide)]
        cases semi (r.take 11) <;> simp
      rw [eix, ← stepM_ent]
      unfold stepM
      cases hs : semi (r.take 11) with
      | none =>
        simp only
        rw [show decide ((0 : Int) < -1) = false from rfl, cond_false]
        exact plain
      | some e =>
        simp only
        obtain ⟨h1, _⟩ := znu hs
        rw [List.length_take] at h1
        rw [dT (by omega)]
        have c1 : cutS (bs (38 :: r)) 1 ((e : Int) + 1) = some (bs (r.take e)) := by
          have := zoa (38 :: r) (lo := 1) (hi := e + 1) (by omega) (by simp; omega)
          rw [show ((e + 1 : Nat) : Int) = (e : Int) + 1 from by omega] at this
          simpa using this
        rw [c1, Option.bind_some, zq8 n hn, Option.bind_some]
        by_cases h0 : entM (r.take e) = []
        · rw [if_pos h0, dF (p := bs (entM (r.take e)) ≠ bs []) (fun h => h (by rw [h0]))]
          unfold zgl
          exact plain
        · rw [if_neg h0, dT (p := bs (entM (r.take e)) ≠ bs []) (fun h => h0 (zlg.1 h))]
          have hE : ent r = some (entM (r.take e), r.drop (e + 1)) := by
            rw [← stepM_ent]; unfold stepM; rw [hs]; simp only; rw [if_neg h0]
          obtain ⟨h5, h6, h7⟩ := zp1 hE
          simp only at h5 h6 h7
          unfold zgh zfi
          simp only [zr1]
          rw [zew (by simp; omega), Option.bind_some, Option.bind_some]
          have e2 : w64 ((e : Int) + 1 + 1) = ((e + 2 : Nat) : Int) := by rw [zi4 (by omega)]; omega
          rw [e2, tail (e + 2) (by omega), Option.bind_some]
          have := mark_un n hn k (r.drop (e + 1)) (acc ++ entM (r.take e)) true (by omega) (by omega) (by simp at h5 ⊢; omega)
          simp only [ints, List.map_append, List.append_assoc] at this ⊢
          exact this
    · rw [dF (fun e => hb (UInt8.toNat_inj.1 (by simpa using (by omega : b.toNat = 38)))), if_neg hb]
      exact plain
theorem zor (n : Nat) (l : List UInt8) (hl : l.length + 20 ≤ n) (hl2 : l.length ≤ 1000000000000) : zgd n (bs l) = some (bs (un n l)) := by
  unfold zgd
  have := mark_un n (by omega) n l [] false (by omega) hl2 (by simp; omega)
  simpa using this
end Go.Proofs.Ytklcdfnhdljkjaa
namespace Go.Proofs.Ytklcdfnhdljkjaa
set_option linter.unusedVariables false
set_option linter.unusedSimpArgs false
open Go.RowKit Go.Sl
abbrev cur (pre r : List Int) : za4 := { l := pre ++ r, at_ := (pre.length : Int) }
abbrev ct (pre r : List Int) (out : List za5) : za3 := { c := cur pre r, out := out }
variable {n : Nat} {pre r : List Int} {out : List za5}
theorem zjo (hb : pre.length + r.length ≤ 1000000000) : zbc n (cur pre r) = some (r.length : Int) := by
  unfold zbc
  simp only [List.length_append]
  rw [zi4 (by omega)]
  congr 1; omega
theorem zlb (k : Nat) (hk : k ≤ 1000000000) (hb : pre.length + r.length ≤ 1000000000) : zb6 n (cur pre r) (k : Int) = some (r[k]?.getD 0, decide (k < r.length)) := by
  unfold zb6 zcu
  rw [dF (by omega), zjo hb, Option.bind_some]
  by_cases h : k < r.length
  · rw [decide_eq_false (by omega), cond_false, zi4 (by simp only; omega)]
    have : ((pre.length : Int) + (k : Int)) = ((pre.length + k : Nat) : Int) := by omega
    simp only [this, zb1]
    rw [List.getElem?_append_right (by omega), show pre.length + k - pre.length = k by omega, List.getElem?_eq_getElem h, Option.bind_some, decide_eq_true h]
    rfl
  · rw [decide_eq_true (by omega), cond_true, List.getElem?_eq_none (by omega), decide_eq_false h]
    rfl
theorem zk6 (hb : pre.length + ([] : List Int).length ≤ 1000000000) : zaj n (cur pre []) = some (0, false, cur pre []) := by
  unfold zaj zc4
  have := zlb (n := n) 0 (by omega) hb
  rw [show ((0 : Nat) : Int) = 0 from rfl] at this
  rw [this, Option.bind_some]; rfl
theorem zgv {x : Int} (hb : pre.length + (x :: r).length ≤ 1000000000) : zaj n (cur pre (x :: r)) = some (x, true, cur (pre ++ [x]) r) := by
  unfold zaj zc4
  have := zlb (n := n) 0 (by omega) hb
  rw [show ((0 : Nat) : Int) = 0 from rfl] at this
  simp only [List.length_cons] at hb
  rw [this, Option.bind_some, zb5 (by omega)]
  simp
theorem zn2 (k : Nat) (hk : k ≤ 1000000000) (hb : pre.length + r.length ≤ 1000000000) : zbu n (ct pre r out) (k : Int) = some (r[k]?.getD 0) := by
  unfold zbu
  rw [zlb k hk hb]; rfl
theorem ct_is_l2 (xs : List Int) (hb : pre.length + r.length ≤ 1000000000) (m : Nat) (hm : m + xs.length ≤ 1000000000) : ∀ (d j k : Nat), j + d = xs.length → d + 1 ≤ k →
    zdd n (ct pre r out) (m : Int) xs k (j : Int) = some ((xs.drop j).isPrefixOf (r.drop (m + j)))
  | 0, j, k, hj, hk => by
    obtain ⟨k, rfl⟩ : ∃ i, k = i + 1 := ⟨k - 1, by omega⟩
    rw [zdd, dF (by omega), List.drop_eq_nil_of_le (by omega)]
    simp [zhh]
  | d + 1, j, k, hj, hk => by
    obtain ⟨k, rfl⟩ : ∃ i, k = i + 1 := ⟨k - 1, by omega⟩
    have hlt : j < xs.length := by omega
    rw [zdd, dT (by omega), zb1, List.getElem?_eq_getElem hlt, Option.bind_some, zi4 (by omega)]
    rw [show (m : Int) + (j : Int) = ((m + j : Nat) : Int) by omega, zlb (m + j) (by omega) hb, Option.bind_some]
    rw [List.drop_eq_getElem_cons hlt]
    by_cases h : m + j < r.length
    · rw [List.drop_eq_getElem_cons h, decide_eq_true h, List.getElem?_eq_getElem h]
      simp only [Option.getD_some, Bool.not_true, Bool.false_or, List.isPrefixOf]
      by_cases he : r[m + j] = xs[j]
      · rw [dF (by simpa using he), zb5 (by omega), ct_is_l2 xs hb m hm d (j + 1) k (by omega) (by omega)]
        simp [he, Nat.add_assoc]
      · rw [dT (by simpa using he)]
        simp [Ne.symm he]
    · have e0 : r.drop (m + j) = [] := List.drop_eq_nil_of_le (by omega)
      rw [e0, decide_eq_false h]
      rfl
theorem ct_is {s : ByteArray} {xs : List Int} (hs : runesM s = some xs) (hx : xs.length + 1 ≤ n) (hx2 : xs.length ≤ 1000) (hb : pre.length + r.length ≤ 1000000000) (m : Nat) (hm : m ≤ 100000000) : zee n (ct pre r out) (m : Int) s = some (xs.isPrefixOf (r.drop m)) := by
  unfold zee
  rw [hs, Option.bind_some]
  exact ct_is_l2 xs hb m (by omega) xs.length 0 n (by omega) hx
def letterB (x : Int) : Bool := bif (decide (97 ≤ x)) then ((decide (x ≤ 122)) || ((decide (65 ≤ x)) && (decide (x ≤ 90)))) else ((decide (65 ≤ x)) && (decide (x ≤ 90)))
def blankB (x : Int) : Bool := (decide (x = 9)) || ((decide (x = 10)) || ((decide (x = 12)) || (decide (x = 32))))
def beginsB : List Int → Bool
  | 60 :: x :: _ => letterB x || decide (x = 33) || decide (x = 63) || decide (x = 47)
  | _ => false
theorem ct_begins (hn : 2 ≤ n) (hb : pre.length + r.length ≤ 1000000000) : zel n (ct pre r out) = some (beginsB r) := by
  unfold zel zcp
  have h1 := ct_is (n := n) (pre := pre) (r := r) (out := out) (s := bs [60]) (xs := [60]) rfl hn (by decide) hb 0 (by omega)
  rw [show ((0 : Nat) : Int) = 0 from rfl] at h1
  rw [h1, Option.bind_some, List.drop_zero]
  cases r with
  | nil => rfl
  | cons x r =>
    by_cases hx : x = 60
    · subst hx
      rw [show ([60] : List Int).isPrefixOf (60 :: r) = true from by simp [List.isPrefixOf]]
      have h2 := zn2 (n := n) (out := out) 1 (by omega) hb
      rw [show ((1 : Nat) : Int) = 1 from rfl] at h2
      rw [h2, Option.bind_some]
      unfold zi2
      rw [Option.bind_some]
      cases r with
      | nil => rfl
      | cons y r =>
        simp only [List.getElem?_cons_succ, List.getElem?_cons_zero, Option.getD_some, Bool.not_true, cond_false]
        unfold beginsB letterB
        simp only
        cases (bif decide (97 ≤ y) then decide (y ≤ 122) || decide (65 ≤ y) && decide (y ≤ 90) else decide (65 ≤ y) && decide (y ≤ 90)) <;> cases decide (y = 33) <;> cases decide (y = 63) <;> simp
    · rw [show ([60] : List Int).isPrefixOf (x :: r) = false from by simp [List.isPrefixOf, Ne.symm hx]]
      have : beginsB (x :: r) = false := by
        unfold beginsB
        split
        · rename_i h; injection h with h _; exact absurd h hx
        · rfl
      rw [this]; rfl
theorem appM4 {xs : List Int} {y : Int} (h : xs.length ≤ 1000000000) : appM 4 xs [y] = some (xs ++ [y]) := zew (by simp; omega)
theorem zps (n : Nat) (pre0 r0 : List Int) (out : List za5) {p : Int → Option Bool} {q : Int → Bool} (hp : ∀ z, p z = some (q z)) : ∀ (r pre acc : List Int) (k : Nat), pre.length + r.length ≤ 1000000000 → acc.length + r.length ≤ 1000000000 → r.length + 1 ≤ k →
    zbg n (ct pre0 r0 out) p k (pre ++ r) (pre.length : Int) acc (r[0]?.getD 0) (decide (0 < r.length)) = some (acc ++ r.takeWhile q, ct (pre ++ r.takeWhile q) (r.dropWhile q) out)
  | [], pre, acc, k, hb, ha, hk => by
    obtain ⟨k, rfl⟩ : ∃ i, k = i + 1 := ⟨k - 1, by omega⟩
    rw [zbg]
    unfold zdv zer
    simp
  | x :: r, pre, acc, k, hb, ha, hk => by
    obtain ⟨k, rfl⟩ : ∃ i, k = i + 1 := ⟨k - 1, by omega⟩
    simp only [List.length_cons] at hb ha hk
    rw [zbg]
    simp only [List.getElem?_cons_zero, Option.getD_some]
    rw [decide_eq_true (by simp : 0 < (x :: r).length), cond_true, hp, Option.bind_some]
    unfold zdv
    cases hq : q x with
    | false =>
      rw [cond_false]
      unfold zer
      simp [hq]
    | true =>
      rw [cond_true, appM4 (by omega), Option.bind_some, zgv (by simp; omega), Option.bind_some]
      have h2 := zlb (n := n) (pre := pre ++ [x]) (r := r) 0 (by omega) (by simp; omega)
      rw [show ((0 : Nat) : Int) = 0 from rfl] at h2
      simp only
      rw [h2, Option.bind_some]
      have := zps n pre0 r0 out hp r (pre ++ [x]) (acc ++ [x]) k (by simp; omega) (by simp; omega) (by omega)
      simp only [List.append_assoc, List.singleton_append] at this ⊢
      rw [this]
      simp [hq]
theorem zlc {p : Int → Option Bool} {q : Int → Bool} (hp : ∀ z, p z = some (q z)) (hb : pre.length + r.length ≤ 1000000000) (hn : r.length + 1 ≤ n) : zcc n (ct pre r out) p = some (r.takeWhile q, ct (pre ++ r.takeWhile q) (r.dropWhile q) out) := by
  unfold zcc
  have h2 := zlb (n := n) (pre := pre) (r := r) 0 (by omega) hb
  rw [show ((0 : Nat) : Int) = 0 from rfl] at h2
  rw [h2, Option.bind_some]
  have := zps n pre r out hp r pre [] n hb (by simp; omega) hn
  simpa using this
end Go.Proofs.Ytklcdfnhdljkjaa
namespace Go.Proofs.Ytklcdfnhdljkjaa
set_option linter.unusedVariables false
set_option linter.unusedSimpArgs false
open Go.RowKit Go.Sl
variable {n : Nat} {pre r : List Int} {out : List za5}
def lowX (x : Int) : Int := bif (decide (65 ≤ x)) && (decide (x ≤ 90)) then x + 32 else x
def smallL (xs : List Int) : ByteArray := textOf (xs.map lowX)
theorem small_l2 (xs : List Int) (hb : xs.length ≤ 1000000000) : ∀ (d : Nat) (ys zs : List Int) (k : Nat), ys ++ zs = xs → zs.length = d → d + 1 ≤ k →
    zdp xs k (ys.map lowX ++ zs) (ys.length : Int) = some (smallL xs)
  | 0, ys, zs, k, he, hd, hk => by
    obtain ⟨k, rfl⟩ : ∃ i, k = i + 1 := ⟨k - 1, by omega⟩
    obtain rfl : zs = [] := List.length_eq_zero_iff.1 hd
    rw [List.append_nil] at he
    subst he
    rw [zdp, dF (by omega), List.append_nil]; rfl
  | d + 1, ys, [], k, he, hd, hk => by simp at hd
  | d + 1, ys, x :: zs, k, he, hd, hk => by
    obtain ⟨k, rfl⟩ : ∃ i, k = i + 1 := ⟨k - 1, by omega⟩
    have hlen : ys.length + (zs.length + 1) = xs.length := by rw [← he]; simp
    have hg : geti (ys.map lowX ++ x :: zs) (ys.length : Int) = some x := by rw [zb1, List.getElem?_append_right (by simp)]; simp
    have ih := small_l2 xs hb d (ys ++ [x]) zs k (by simpa using he) (by simpa using hd) (by omega)
    simp only [List.map_append, List.map_cons, List.map_nil, List.append_assoc, List.singleton_append, List.length_append, List.length_singleton] at ih
    rw [zdp, dT (by omega), hg, Option.bind_some]
    unfold zig
    cases hx : (decide (65 ≤ x)) && (decide (x ≤ 90)) with
    | true =>
      have hx2 := hx
      simp only [Bool.and_eq_true, decide_eq_true_eq] at hx2
      have hw : IntKind.i32.wrap (IntKind.i32.wrap (x + 97) - 65) = lowX x := by
        unfold lowX
        rw [hx, cond_true]
        have h1 : IntKind.i32.wrap (x + 97) = x + 97 := wr_i32 (by omega)
        rw [h1, wr_i32 (by omega)]; omega
      rw [cond_true, Option.bind_some, hw]
      have hs : seti (ys.map lowX ++ x :: zs) (ys.length : Int) (lowX x) = some (ys.map lowX ++ lowX x :: zs) := by
        unfold seti
        simp
      rw [hs, Option.bind_some, zb5 (by omega)]
      exact ih
    | false =>
      have hw : lowX x = x := by unfold lowX; rw [hx, cond_false]
      rw [cond_false, zb5 (by omega)]
      rw [hw] at ih
      exact ih
theorem zl2 (xs : List Int) (hb : xs.length ≤ 1000000000) (hn : xs.length + 1 ≤ n) : zg0 n xs = some (smallL xs) := by
  unfold zg0
  rw [zew (by simp; omega), Option.bind_some, List.nil_append]
  exact small_l2 xs hb xs.length [] xs n rfl rfl hn
def skipS (xs : List Int) : List Int → List Int
  | [] => []
  | x :: r => bif xs.isPrefixOf (x :: r) then (x :: r).drop xs.length else skipS xs r
theorem zr9 (p0 : za3) (xs : List Int) (hx : xs.length ≤ 1000) : ∀ (d j : Nat) (pre r : List Int) (k : Nat), j + d = xs.length → d + 1 ≤ k → pre.length + r.length ≤ 1000000000 →
    ∃ pre', pre' ++ r.drop d = pre ++ r ∧ zc7 n p0 xs k (pre ++ r) (pre.length : Int) (j : Int) = some (ct pre' (r.drop d) p0.out)
  | 0, j, pre, r, k, hj, hk, hb => by
    obtain ⟨k, rfl⟩ : ∃ i, k = i + 1 := ⟨k - 1, by omega⟩
    refine ⟨pre, rfl, ?_⟩
    rw [zc7, dF (by omega)]; rfl
  | d + 1, j, pre, [], k, hj, hk, hb => by
    obtain ⟨k, rfl⟩ : ∃ i, k = i + 1 := ⟨k - 1, by omega⟩
    obtain ⟨pre', h1, h2⟩ := zr9 p0 xs hx d (j + 1) pre [] k (by omega) (by omega) hb
    rw [List.drop_nil] at h1 h2 ⊢
    refine ⟨pre', h1, ?_⟩
    rw [zc7, dT (by omega), zk6 hb, Option.bind_some, zb5 (by omega)]
    exact h2
  | d + 1, j, pre, x :: r, k, hj, hk, hb => by
    obtain ⟨k, rfl⟩ : ∃ i, k = i + 1 := ⟨k - 1, by omega⟩
    obtain ⟨pre', h1, h2⟩ := zr9 p0 xs hx d (j + 1) (pre ++ [x]) r k (by omega) (by omega) (by simp at hb ⊢; omega)
    refine ⟨pre', by simpa using h1, ?_⟩
    rw [zc7, dT (by omega), zgv hb, Option.bind_some, zb5 (by omega)]
    exact h2
theorem skip_l4 (p0 : za3) {s : ByteArray} {xs : List Int} (hs : runesM s = some xs) (hx : 1 ≤ xs.length ∧ xs.length ≤ 1000) (hxn : xs.length + 1 ≤ n) : ∀ (r pre : List Int) (k : Nat), r.length + 1 ≤ k → pre.length + r.length ≤ 100000000 →
    ∃ pre', pre' ++ skipS xs r = pre ++ r ∧ zbo n p0 s k (pre ++ r) (pre.length : Int) = some (ct pre' (skipS xs r) p0.out)
  | [], pre, k, hk, hb => by
    obtain ⟨k, rfl⟩ : ∃ i, k = i + 1 := ⟨k - 1, by omega⟩
    obtain ⟨pre', h1, h2⟩ := zr9 (n := n) p0 xs hx.2 xs.length 0 pre [] n (by omega) hxn (by omega)
    rw [List.drop_nil] at h1 h2
    refine ⟨pre', h1, ?_⟩
    rw [zbo, zjo (by omega), Option.bind_some, dF (by simp)]
    unfold zeb zf9
    rw [cond_false, hs, Option.bind_some]
    exact h2
  | x :: r, pre, k, hk, hb => by
    obtain ⟨k, rfl⟩ : ∃ i, k = i + 1 := ⟨k - 1, by omega⟩
    have hb' := hb
    simp only [List.length_cons] at hk hb
    rw [zbo, zjo (by omega), Option.bind_some, dT (by simp)]
    have h1 := ct_is (n := n) (pre := pre) (r := x :: r) (out := p0.out) hs hxn hx.2 (by omega) 0 (by omega)
    rw [show ((0 : Nat) : Int) = 0 from rfl, List.drop_zero] at h1
    rw [h1, Option.bind_some]
    unfold zeb zf9 skipS
    cases hp : xs.isPrefixOf (x :: r) with
    | true =>
      obtain ⟨pre', h1, h2⟩ := zr9 (n := n) p0 xs hx.2 xs.length 0 pre (x :: r) n (by omega) hxn (by omega)
      refine ⟨pre', h1, ?_⟩
      rw [Bool.not_true, cond_false, cond_true, hs, Option.bind_some]
      exact h2
    | false =>
      obtain ⟨pre', h1, h2⟩ := skip_l4 p0 hs hx hxn r (pre ++ [x]) k (by omega) (by simp; omega)
      refine ⟨pre', by simpa using h1, ?_⟩
      rw [Bool.not_false, cond_true, cond_false, zgv (by omega), Option.bind_some]
      exact h2
theorem ct_skip {s : ByteArray} {xs : List Int} (hs : runesM s = some xs) (hx : 1 ≤ xs.length ∧ xs.length ≤ 1000) (hxn : xs.length + 1 ≤ n) (hn : r.length + 1 ≤ n) (hb : pre.length + r.length ≤ 100000000) :
    ∃ pre', pre' ++ skipS xs r = pre ++ r ∧ zfg n (ct pre r out) s = some (ct pre' (skipS xs r) out) := by
  unfold zfg
  exact skip_l4 (ct pre r out) hs hx hxn r pre n hn hb
theorem zra (p0 : za3) : ∀ (d j : Nat) (pre r : List Int) (k : Nat), j + d = 4 → d + 1 ≤ k → pre.length + r.length ≤ 1000000000 →
    ∃ pre', pre' ++ r.drop d = pre ++ r ∧ zbs n p0 k (pre ++ r) (pre.length : Int) (j : Int) = some (ct pre' (r.drop d) p0.out)
  | 0, j, pre, r, k, hj, hk, hb => by
    obtain ⟨k, rfl⟩ : ∃ i, k = i + 1 := ⟨k - 1, by omega⟩
    refine ⟨pre, rfl, ?_⟩
    rw [zbs, dF (by omega)]; rfl
  | d + 1, j, pre, [], k, hj, hk, hb => by
    obtain ⟨k, rfl⟩ : ∃ i, k = i + 1 := ⟨k - 1, by omega⟩
    obtain ⟨pre', h1, h2⟩ := zra p0 d (j + 1) pre [] k (by omega) (by omega) hb
    rw [List.drop_nil] at h1 h2 ⊢
    refine ⟨pre', h1, ?_⟩
    rw [zbs, dT (by omega), zk6 hb, Option.bind_some, zb5 (by omega)]
    exact h2
  | d + 1, j, pre, x :: r, k, hj, hk, hb => by
    obtain ⟨k, rfl⟩ : ∃ i, k = i + 1 := ⟨k - 1, by omega⟩
    obtain ⟨pre', h1, h2⟩ := zra p0 d (j + 1) (pre ++ [x]) r k (by omega) (by omega) (by simp at hb ⊢; omega)
    refine ⟨pre', by simpa using h1, ?_⟩
    rw [zbs, dT (by omega), zgv hb, Option.bind_some, zb5 (by omega)]
    exact h2
theorem ct_skip4 (hn : 5 ≤ n) (hb : pre.length + r.length ≤ 1000000000) : ∃ pre', pre' ++ r.drop 4 = pre ++ r ∧ zg3 n (ct pre r out) = some (ct pre' (r.drop 4) out) := by
  unfold zg3
  exact zra (ct pre r out) 4 0 pre r n (by omega) (by omega) hb
def bareB (x : Int) : Bool := !blankB x && decide (x ≠ 62)
def valueS : List Int → Option (List Int × List Int)
  | q :: r => bif decide (q = 34) || decide (q = 39) then (match r.dropWhile (fun z => decide (z ≠ q)) with
      | [] => none
      | _ :: r' => some (r.takeWhile (fun z => decide (z ≠ q)), r')) else some ((q :: r).takeWhile bareB, (q :: r).dropWhile bareB)
  | [] => some ([], [])
theorem value1_eq (z : Int) : zf8 n z = some (bareB z) := by
  unfold zf8 ze6 zec bareB blankB
  rw [Option.bind_some]
  cases ((decide (z = 9)) || ((decide (z = 10)) || ((decide (z = 12)) || (decide (z = 32))))) <;> rfl
theorem ct_value (hb : pre.length + r.length ≤ 1000000000) (hn : r.length + 1 ≤ n) : (∃ t b pre' r', valueS r = none ∧ b = false ∧ pre' ++ r' = pre ++ r ∧ zf0 n (ct pre r out) = some (t, b, ct pre' r' out)) ∨
    (∃ v r' pre', valueS r = some (v, r') ∧ pre' ++ r' = pre ++ r ∧ zf0 n (ct pre r out) = some (textOf v, true, ct pre' r' out)) := by
  unfold zf0
  have h2 := zn2 (n := n) (out := out) 0 (by omega) hb
  rw [show ((0 : Nat) : Int) = 0 from rfl] at h2
  rw [h2, Option.bind_some]
  cases r with
  | nil =>
    refine .inr ⟨[], [], pre, rfl, rfl, ?_⟩
    rw [zlc (q := bareB) value1_eq hb hn, Option.bind_some]
    simp
  | cons q r =>
    simp only [List.getElem?_cons_zero, Option.getD_some]
    have hb' := hb
    simp only [List.length_cons] at hb hn
    have hv : valueS (q :: r) = bif decide (q = 34) || decide (q = 39) then (match r.dropWhile (fun z => decide (z ≠ q)) with
      | [] => none
      | _ :: r' => some (r.takeWhile (fun z => decide (z ≠ q)), r')) else some ((q :: r).takeWhile bareB, (q :: r).dropWhile bareB) := rfl
    rw [hv]
    cases hq : decide (q = 34) || decide (q = 39) with
    | false =>
      have : (decide (q ≠ 34) && decide (q ≠ 39)) = true := by simp at hq ⊢; exact hq
      rw [this, cond_true, cond_false]
      refine .inr ⟨_, _, pre ++ (q :: r).takeWhile bareB, rfl, by rw [List.append_assoc, List.takeWhile_append_dropWhile], ?_⟩
      rw [zlc (q := bareB) value1_eq hb' (by simpa using hn), Option.bind_some]
    | true =>
      have : (decide (q ≠ 34) && decide (q ≠ 39)) = false := by
        simp only [Bool.or_eq_true, decide_eq_true_eq] at hq
        rcases hq with rfl | rfl <;> rfl
      rw [this, cond_false, cond_true, zgv hb', Option.bind_some]
      have hw := zlc (n := n) (pre := pre ++ [q]) (r := r) (out := out) (p := fun z => zgb n z q) (q := fun z => decide (z ≠ q)) (fun z => rfl) (by simp; omega) (by omega)
      simp only at hw ⊢
      rw [hw, Option.bind_some]
      have hcat : r.takeWhile (fun z => decide (z ≠ q)) ++ r.dropWhile (fun z => decide (z ≠ q)) = r := List.takeWhile_append_dropWhile
      have hlen := congrArg List.length hcat
      rw [List.length_append] at hlen
      generalize r.takeWhile (fun z => decide (z ≠ q)) = tk at hcat hlen ⊢
      cases hd : r.dropWhile (fun z => decide (z ≠ q)) with
      | nil =>
        rw [hd] at hlen hcat
        refine .inl ⟨textOf tk, false, pre ++ [q] ++ tk, [], rfl, rfl, by rw [← hcat]; simp, ?_⟩
        rw [zk6 (by simp at hlen ⊢; omega)]; rfl
      | cons y r' =>
        rw [hd] at hlen hcat
        refine .inr ⟨tk, r', pre ++ [q] ++ tk ++ [y], rfl, by rw [← hcat]; simp, ?_⟩
        rw [zgv (by simp at hlen ⊢; omega)]; rfl
end Go.Proofs.Ytklcdfnhdljkjaa
namespace Go.Proofs.Ytklcdfnhdljkjaa
set_option linter.unusedVariables false
set_option linter.unusedSimpArgs false
open Go.RowKit Go.Sl
variable {n : Nat} {pre r : List Int} {out : List za5}
theorem zr5 (k : Nat) : un k [] = [] := by cases k <;> rfl
theorem un_fuel : ∀ (k k' : Nat) (l : List UInt8), l.length ≤ k → l.length ≤ k' → un k l = un k' l
  | 0, k', l, h, _ => by
    obtain rfl : l = [] := List.length_eq_zero_iff.1 (by omega)
    rw [zr5, zr5]
  | k + 1, 0, l, _, h => by
    obtain rfl : l = [] := List.length_eq_zero_iff.1 (by omega)
    rw [zr5, zr5]
  | k + 1, k' + 1, [], _, _ => rfl
  | k + 1, k' + 1, b :: l, h, h' => by
    simp only [List.length_cons] at h h'
    have ih := un_fuel k k' l (by omega) (by omega)
    unfold un
    by_cases hb : b = 38
    · rw [if_pos hb, if_pos hb]
      cases he : ent l with
      | none => simp only; rw [ih]
      | some q =>
        have := (zp1 he).1
        simp only
        rw [un_fuel k k' q.2 (by omega) (by omega)]
    · rw [if_neg hb, if_neg hb, ih]
def ub (s : ByteArray) : ByteArray := bs (un s.size s.data.toList)
theorem mark_ub {s : ByteArray} (h : s.size + 20 ≤ n) (h2 : s.size ≤ 1000000000000) : zgd n s = some (ub s) := by
  have e := zrz s
  have hl : s.data.toList.length = s.size := by rw [Array.length_toList]; rfl
  unfold ub
  generalize s.data.toList = l at e hl ⊢
  subst e
  rw [zor n l (by omega) (by omega), un_fuel n (bs l).size l (by omega) (by omega)]
theorem enc_size (x : Int) : (Utf8.encode x).size ≤ 4 := by
  obtain ⟨b, t, h, h2⟩ := zp2 x
  have : (Utf8.encode x).size = (Utf8.encode x).data.toList.length := by rw [Array.length_toList]; rfl
  rw [this, h]; simp; omega
theorem zmx : ∀ (xs : List Int) (s : ByteArray), xs.foldl (fun s r => s ++ Utf8.encode r) s = s ++ textOf xs
  | [], s => by simp [textOf]
  | x :: xs, s => by
    have e1 := zmx xs (s ++ Utf8.encode x)
    have e2 := zmx xs (ByteArray.empty ++ Utf8.encode x)
    unfold textOf
    rw [List.foldl_cons, List.foldl_cons, e1, e2]
    simp [ByteArray.append_assoc]
theorem zh3 (x : Int) (xs : List Int) : textOf (x :: xs) = Utf8.encode x ++ textOf xs := by
  have := zmx xs (ByteArray.empty ++ Utf8.encode x)
  unfold textOf at this ⊢
  rw [List.foldl_cons, this]; simp
theorem zi1 : ∀ xs : List Int, (textOf xs).size ≤ 4 * xs.length
  | [] => by simp [textOf]
  | x :: xs => by
    have := zi1 xs
    have := enc_size x
    rw [zh3, ByteArray.size_append, List.length_cons]; omega
theorem has_l2 (al : List za9) (nm : ByteArray) (hb : al.length ≤ 1000000) : ∀ (d j k : Nat), j + d = al.length → d + 1 ≤ k → zh5 al nm k (j : Int) = some ((al.drop j).any fun a => decide (a.Name = nm))
  | 0, j, k, hj, hk => by
    obtain ⟨k, rfl⟩ : ∃ i, k = i + 1 := ⟨k - 1, by omega⟩
    rw [zh5, dF (by omega), List.drop_eq_nil_of_le (by omega)]; rfl
  | d + 1, j, k, hj, hk => by
    obtain ⟨k, rfl⟩ : ∃ i, k = i + 1 := ⟨k - 1, by omega⟩
    have hlt : j < al.length := by omega
    rw [zh5, dT (by omega), zb1, List.getElem?_eq_getElem hlt, Option.bind_some, List.drop_eq_getElem_cons hlt]
    by_cases h : al[j].Name = nm
    · rw [dT h, List.any_cons, decide_eq_true h]; rfl
    · rw [dF h, zb5 (by omega), has_l2 al nm hb d (j + 1) k (by omega) (by omega), List.any_cons, decide_eq_false h, Bool.false_or]
theorem has_eq (al : List za9) (nm : ByteArray) (hb : al.length ≤ 1000000) (hn : al.length + 1 ≤ n) : zp0 n al nm = some (al.any fun a => decide (a.Name = nm)) :=
  has_l2 al nm hb al.length 0 n (by omega) hn
def addA (al : List za9) (a : za9) : List za9 := bif decide (al.length < 64) && !(al.any fun b => decide (b.Name = a.Name)) then al ++ [a] else al
theorem zs3 {al : List za9} (a : za9) (h : al.length ≤ 64) : (addA al a).length ≤ 64 := by
  unfold addA
  cases hc : decide (al.length < 64) && !(al.any fun b => decide (b.Name = a.Name)) with
  | false => exact h
  | true =>
    simp only [Bool.and_eq_true, decide_eq_true_eq] at hc
    simp only [cond_true, List.length_append, List.length_singleton]; omega
def nameB (x : Int) : Bool := !blankB x && (decide (x ≠ 61) && (decide (x ≠ 47) && decide (x ≠ 62)))
def tagB (x : Int) : Bool := !blankB x && (decide (x ≠ 47) && decide (x ≠ 62))
theorem tag1_eq (z : Int) : zg1 n z = some (tagB z) := by
  unfold zg1 zdw zec tagB blankB
  rw [Option.bind_some]
  cases ((decide (z = 9)) || ((decide (z = 10)) || ((decide (z = 12)) || (decide (z = 32))))) <;> cases decide (z ≠ 47) <;> cases decide (z ≠ 62) <;> rfl
theorem tag2_eq (z : Int) : zf1 n z = some (nameB z) := by
  unfold zf1 zcy zec nameB blankB
  rw [Option.bind_some]
  cases ((decide (z = 9)) || ((decide (z = 10)) || ((decide (z = 12)) || (decide (z = 32))))) <;> cases decide (z ≠ 61) <;> cases decide (z ≠ 47) <;> cases decide (z ≠ 62) <;> rfl
theorem zp3 (z : Int) : zec n z = some (blankB z) := rfl
def attrT (nm : ByteArray) (r1 : List Int) : Option (za9 × List Int) :=
  match r1 with
  | 61 :: r2 => (valueS (r2.dropWhile blankB)).map fun q => ({ Name := nm, Value := ub (textOf q.1) }, q.2)
  | r1 => some ({ Name := nm, Value := bs [] }, r1)
theorem attrT_else {nm : ByteArray} {y : Int} {r : List Int} (h : y ≠ 61) : attrT nm (y :: r) = some ({ Name := nm, Value := bs [] }, y :: r) := by
  unfold attrT
  split
  · rename_i e; injection e with e _; exact absurd e h
  · rfl
def attrS (x : Int) (r : List Int) : Option (za9 × List Int) := attrT (smallL (x :: r.takeWhile nameB)) ((r.dropWhile nameB).dropWhile blankB)
def skipBl : Bool → List Int → Bool × List Int
  | c, [] => (c, [])
  | c, x :: r => bif blankB x || decide (x = 47) then skipBl (decide (x = 47)) r else (c, x :: r)
def tagL : Nat → List Int → List za9 → Option (List za9 × Bool × List Int)
  | 0, _, _ => none
  | k + 1, r, al => match skipBl false r with
    | (_, []) => none
    | (c, x :: r') => if x = 62 then some (al, c, r') else match attrS x r' with
      | none => none
      | some q => tagL k q.2 (addA al q.1)
theorem zki : ∀ (r : List Int) (c : Bool), (skipBl c r).2.length ≤ r.length
  | [], _ => Nat.le_refl _
  | x :: r, c => by
    unfold skipBl
    cases blankB x || decide (x = 47) with
    | true => have := zki r (decide (x = 47)); simp only [cond_true, List.length_cons]; omega
    | false => exact Nat.le_refl _
theorem zil (p : Int → Bool) (r : List Int) : (r.dropWhile p).length ≤ r.length := (List.dropWhile_suffix p).length_le
theorem zqg {r : List Int} {q : List Int × List Int} (h : valueS r = some q) : q.1.length + q.2.length ≤ r.length := by
  cases r with
  | nil => cases h; simp
  | cons x r =>
    have hv : valueS (x :: r) = bif decide (x = 34) || decide (x = 39) then (match r.dropWhile (fun z => decide (z ≠ x)) with
      | [] => none
      | _ :: r' => some (r.takeWhile (fun z => decide (z ≠ x)), r')) else some ((x :: r).takeWhile bareB, (x :: r).dropWhile bareB) := rfl
    rw [hv] at h
    cases hq : decide (x = 34) || decide (x = 39) with
    | true =>
      rw [hq, cond_true] at h
      have hc := congrArg List.length (List.takeWhile_append_dropWhile (p := fun z => decide (z ≠ x)) (l := r))
      rw [List.length_append] at hc
      split at h
      · cases h
      · rename_i hd
        cases h
        rw [hd] at hc
        simp only [List.length_cons] at hc ⊢; omega
    | false =>
      rw [hq, cond_false] at h
      cases h
      have hc := congrArg List.length (List.takeWhile_append_dropWhile (p := bareB) (l := x :: r))
      rw [List.length_append] at hc
      simp only [List.length_cons] at hc ⊢; omega
theorem zpw {x : Int} {r : List Int} {q : za9 × List Int} (h : attrS x r = some q) : q.2.length ≤ r.length := by
  have h1 := zil nameB r
  have h2 := zil blankB (r.dropWhile nameB)
  unfold attrS attrT at h
  split at h
  · rename_i r2 hr2
    obtain ⟨p, hp, rfl⟩ := Option.map_eq_some_iff.1 h
    have h3 := zqg hp
    have h4 := zil blankB r2
    rw [hr2] at h2
    simp only [List.length_cons] at h2 ⊢; omega
  · cases h; simp only; omega
theorem tagL_fuel : ∀ (k k' : Nat) (r : List Int) (al : List za9), r.length + 1 ≤ k → r.length + 1 ≤ k' → tagL k r al = tagL k' r al
  | 0, _, _, _, h, _ => by omega
  | _ + 1, 0, _, _, _, h => by omega
  | k + 1, k' + 1, r, al, h, h' => by
    unfold tagL
    have hl := zki r false
    cases hs : skipBl false r with
    | mk c r1 =>
      rw [hs] at hl
      cases r1 with
      | nil => rfl
      | cons x r1 =>
        simp only [List.length_cons] at hl ⊢
        by_cases hx : x = 62
        · rw [if_pos hx, if_pos hx]
        · rw [if_neg hx, if_neg hx]
          cases ha : attrS x r1 with
          | none => rfl
          | some q =>
            have := zpw ha
            simp only
            exact tagL_fuel k k' _ _ (by omega) (by omega)
end Go.Proofs.Ytklcdfnhdljkjaa
namespace Go.Proofs.Ytklcdfnhdljkjaa
set_option linter.unusedVariables false
set_option linter.unusedSimpArgs false
open Go.RowKit Go.Sl
variable {n : Nat} {pre r : List Int} {out : List za5}
theorem tag_l6 (kind : Int) (nm : ByteArray) (al : List za9) (g0 : (List Int) → Int → (List za5) → ByteArray → (List za9) → Bool → za9 → Option (za5 × Bool × za3)) (g1 : ByteArray → (List za9) → Bool → (List Int) → Int → (List za5) → Option (za5 × Bool × za3)) :
    ∀ (r pre : List Int) (c : Bool) (k : Nat), r.length + 1 ≤ k → pre.length + r.length ≤ 1000000000 → ∃ pre', pre' ++ (skipBl c r).2 = pre ++ r ∧
      zbl n kind out nm al g0 g1 k (pre ++ r) (pre.length : Int) c (r[0]?.getD 0) = zei n kind out nm al g0 g1 (pre' ++ (skipBl c r).2) (pre'.length : Int) (skipBl c r).1
  | [], pre, c, k, hk, hb => by
    obtain ⟨k, rfl⟩ : ∃ i, k = i + 1 := ⟨k - 1, by omega⟩
    refine ⟨pre, rfl, ?_⟩
    rw [zbl]
    rfl
  | x :: r, pre, c, k, hk, hb => by
    obtain ⟨k, rfl⟩ : ∃ i, k = i + 1 := ⟨k - 1, by omega⟩
    have hb' := hb
    simp only [List.length_cons] at hk hb
    have go : ∃ pre', pre' ++ (skipBl (decide (x = 47)) r).2 = pre ++ x :: r ∧ zdq n kind out nm al g0 g1 (pre ++ x :: r) (pre.length : Int) c x (zbl n kind out nm al g0 g1 k) true = zei n kind out nm al g0 g1 (pre' ++ (skipBl (decide (x = 47)) r).2) (pre'.length : Int) (skipBl (decide (x = 47)) r).1 := by
      obtain ⟨pre', h1, h2⟩ := tag_l6 kind nm al g0 g1 r (pre ++ [x]) (decide (x = 47)) k (by omega) (by simp; omega)
      refine ⟨pre', by simpa using h1, ?_⟩
      unfold zdq
      rw [cond_true, zgv hb', Option.bind_some]
      have h3 := zn2 (n := n) (pre := pre ++ [x]) (r := r) (out := out) 0 (by omega) (by simp; omega)
      rw [show ((0 : Nat) : Int) = 0 from rfl] at h3
      simp only
      rw [h3, Option.bind_some]
      exact h2
    rw [zbl]
    simp only [List.getElem?_cons_zero, Option.getD_some]
    rw [zp3, Option.bind_some]
    unfold skipBl
    cases hbl : blankB x with
    | true =>
      rw [cond_true, Bool.true_or, cond_true]
      exact go
    | false =>
      rw [cond_false, Bool.false_or]
      cases hs : decide (x = 47) with
      | true =>
        rw [cond_true]
        rw [hs] at go
        exact go
      | false =>
        rw [cond_false]
        refine ⟨pre, rfl, ?_⟩
        unfold zdq
        rw [cond_false]
theorem tag_k3 (nm : ByteArray) (al : List za9) (g0 : (List Int) → Int → (List za5) → ByteArray → (List za9) → Bool → za9 → Option (za5 × Bool × za3)) (c : Bool) (nm2 v : ByteArray) (l : List Int) (i : Int) (hal : al.length ≤ 64) (hn : 100 ≤ n) :
    zdr n nm al g0 c nm2 l i out v = g0 l i out nm (addA al { Name := nm2, Value := v }) c { Name := nm2, Value := v } := by
  unfold zdr zfr zfq addA
  by_cases h : al.length < 64
  · rw [dT (by omega), has_eq al nm2 (by omega) (by omega), Option.bind_some, decide_eq_true h, Bool.true_and]
    cases hh : al.any fun b => decide (b.Name = nm2) with
    | true => rfl
    | false =>
      rw [Bool.not_false, cond_true, cond_true, zew (by simp; omega), Option.bind_some]
  · rw [dF (by omega), cond_false, decide_eq_false h]; rfl
def tagTok (kind : Int) (nm : ByteArray) (al : List za9) (c : Bool) : za5 :=
  bif decide (kind = 3) then { Kind := 3, Name := nm, Text := bs [], Attrs := [], Closed := false } else { Kind := kind, Name := nm, Text := bs [], Attrs := al, Closed := c }
def TagRes (out : List za5) (kind : Int) (nm : ByteArray) (l : List Int) (m : Option (za5 × Bool × za3)) : Option (List za9 × Bool × List Int) → Prop
  | none => ∃ t pre' r', pre' ++ r' = l ∧ m = some (t, false, ct pre' r' out)
  | some q => ∃ pre', pre' ++ q.2.2 = l ∧ m = some (tagTok kind nm q.1 q.2.1, true, ct pre' q.2.2 out)
theorem tag_g (kind : Int) (nm : ByteArray) : ∀ (k : Nat) (r pre : List Int) (al : List za9) (c0 : Bool) (a0 : za9), r.length + 2 ≤ k → al.length ≤ 64 → 4 * (pre.length + r.length) + 100 ≤ n → pre.length + r.length ≤ 1000000 →
    TagRes out kind nm (pre ++ r) (zav n kind k (pre ++ r) (pre.length : Int) out nm al c0 a0) (tagL k r al)
  | 0, _, _, _, _, _, h, _, _, _ => by omega
  | k + 1, r, pre, al, c0, a0, hk, hal, hn, hb => by
    obtain ⟨k', rfl⟩ : ∃ i, k = i + 1 := ⟨k - 1, by omega⟩
    rw [zav]
    have hp := zn2 (n := n) (pre := pre) (r := r) (out := out) 0 (by omega) (by omega)
    rw [show ((0 : Nat) : Int) = 0 from rfl] at hp
    rw [hp, Option.bind_some]
    obtain ⟨pre1, h1, h2⟩ := tag_l6 (n := n) (out := out) kind nm al (zav n kind (k' + 1)) (zbh n kind (k' + 1)) r pre false n (by omega) (by omega)
    rw [h2]
    have hsl := zki r false
    have hlen := congrArg List.length h1
    rw [List.length_append, List.length_append] at hlen
    unfold tagL
    cases hs : skipBl false r with
    | mk c r1 =>
      rw [hs] at h1 hlen hsl
      simp only at h1 hlen hsl ⊢
      rw [← h1]
      unfold zei
      cases r1 with
      | nil =>
        rw [zk6 (by omega), Option.bind_some]
        exact ⟨_, pre1, [], rfl, rfl⟩
      | cons x r1 =>
        have hlen' := hlen
        simp only [List.length_cons] at hlen hsl
        rw [zgv (by omega), Option.bind_some]
        simp only [Bool.not_true, cond_false]
        by_cases hx : x = 62
        · rw [dT hx, if_pos hx, zbh]
          refine ⟨pre1 ++ [x], by simp, ?_⟩
          unfold tagTok
          cases decide (kind = 3) <;> rfl
        · rw [dF hx, if_neg hx]
          have hw := zlc (n := n) (pre := pre1 ++ [x]) (r := r1) (out := out) (p := fun z => zf1 n z) (q := nameB) tag2_eq (by simp; omega) (by omega)
          rw [hw, Option.bind_some]
          simp only
          have hc1 := congrArg List.length (List.takeWhile_append_dropWhile (p := nameB) (l := r1))
          rw [List.length_append] at hc1
          rw [zew (by simp; omega), Option.bind_some, List.singleton_append, zl2 _ (by simp; omega) (by simp; omega), Option.bind_some]
          have hw2 := zlc (n := n) (pre := pre1 ++ [x] ++ r1.takeWhile nameB) (r := r1.dropWhile nameB) (out := out) (p := fun z => zec n z) (q := blankB) zp3 (by simp; omega) (by omega)
          rw [hw2, Option.bind_some]
          simp only
          have hc2 := congrArg List.length (List.takeWhile_append_dropWhile (p := blankB) (l := r1.dropWhile nameB))
          rw [List.length_append] at hc2
          have hcat : pre1 ++ [x] ++ r1.takeWhile nameB ++ (r1.dropWhile nameB).takeWhile blankB ++ (r1.dropWhile nameB).dropWhile blankB = pre1 ++ x :: r1 := by
            rw [List.append_assoc _ ((r1.dropWhile nameB).takeWhile blankB), List.takeWhile_append_dropWhile, List.append_assoc _ (r1.takeWhile nameB), List.takeWhile_append_dropWhile]
            simp
          have hcl := congrArg List.length hcat
          unfold attrS
          generalize pre1 ++ [x] ++ r1.takeWhile nameB ++ (r1.dropWhile nameB).takeWhile blankB = pre2 at hcat hcl ⊢
          generalize smallL (x :: r1.takeWhile nameB) = nm2
          generalize (r1.dropWhile nameB).dropWhile blankB = r2 at hcat hcl hc2 ⊢
          rw [← hcat]
          simp only [List.length_append, List.length_cons] at hcl hlen'
          have his := ct_is (n := n) (pre := pre2) (r := r2) (out := out) (s := bs [61]) (xs := [61]) rfl (by simp; omega) (by decide) (by omega) 0 (by omega)
          rw [show ((0 : Nat) : Int) = 0 from rfl, List.drop_zero] at his
          rw [his, Option.bind_some]
          have other : ∀ h61 : ([61] : List Int).isPrefixOf r2 = false, TagRes out kind nm (pre2 ++ r2) (bif ([61] : List Int).isPrefixOf r2 then none else zdr n nm al (zav n kind (k' + 1)) c nm2 (pre2 ++ r2) (pre2.length : Int) out (bs [])) (tagL (k' + 1) r2 (addA al { Name := nm2, Value := bs [] })) := fun h61 => by
            rw [h61, cond_false, tag_k3 nm al _ c nm2 (bs []) _ _ hal (by omega)]
            exact tag_g kind nm (k' + 1) r2 pre2 _ c _ (by omega) (zs3 _ hal) (by omega) (by omega)
          cases r2 with
          | nil => exact other rfl
          | cons y r3 =>
            by_cases hy : y = 61
            · subst hy
              rw [show ([61] : List Int).isPrefixOf (61 :: r3) = true from by simp [List.isPrefixOf], cond_true]
              simp only [List.length_cons] at hcl hc2
              rw [zgv (by simp; omega), Option.bind_some]
              have hw3 := zlc (n := n) (pre := pre2 ++ [61]) (r := r3) (out := out) (p := fun z => zec n z) (q := blankB) zp3 (by simp; omega) (by omega)
              simp only
              rw [hw3, Option.bind_some]
              simp only
              have e61 : attrT nm2 (61 :: r3) = (valueS (r3.dropWhile blankB)).map fun q => ({ Name := nm2, Value := ub (textOf q.1) }, q.2) := rfl
              rw [e61]
              have hc3 := congrArg List.length (List.takeWhile_append_dropWhile (p := blankB) (l := r3))
              rw [List.length_append] at hc3
              have hcat2 : pre2 ++ [61] ++ r3.takeWhile blankB ++ r3.dropWhile blankB = pre2 ++ 61 :: r3 := by
                rw [List.append_assoc _ (r3.takeWhile blankB), List.takeWhile_append_dropWhile]; simp
              have hcl2 := congrArg List.length hcat2
              generalize pre2 ++ [61] ++ r3.takeWhile blankB = pre3 at hcat2 hcl2 ⊢
              generalize r3.dropWhile blankB = r4 at hcat2 hcl2 hc3 ⊢
              rw [← hcat2]
              simp only [List.length_append, List.length_cons] at hcl2
              rcases ct_value (n := n) (pre := pre3) (r := r4) (out := out) (by omega) (by omega) with ⟨t, b, pre4, r5, hv, rfl, hc4, hm⟩ | ⟨v, r5, pre4, hv, hc4, hm⟩
              · rw [hm, Option.bind_some, hv]
                exact ⟨_, pre4, r5, hc4, rfl⟩
              · rw [hm, Option.bind_some, hv]
                have hvl := zqg hv
                simp only at hvl
                have hts := zi1 v
                have hcl4 := congrArg List.length hc4
                simp only [List.length_append] at hcl4
                simp only [Bool.not_true, cond_false, Option.map_some]
                rw [mark_ub (by omega) (by omega), Option.bind_some, tag_k3 nm al _ c nm2 _ _ _ hal (by omega), ← hc4]
                exact tag_g kind nm (k' + 1) r5 pre4 _ c _ (by omega) (zs3 _ hal) (by omega) (by omega)
            · have h61 : ([61] : List Int).isPrefixOf (y :: r3) = false := by simp [List.isPrefixOf, Ne.symm hy]
              have := other h61
              rw [h61, cond_false] at this ⊢
              rw [attrT_else hy]
              exact this
end Go.Proofs.Ytklcdfnhdljkjaa
namespace Go.Proofs.Ytklcdfnhdljkjaa
set_option linter.unusedVariables false
set_option linter.unusedSimpArgs false
open Go.RowKit Go.Sl
variable {n : Nat} {pre r : List Int} {out : List za5}
def tagS (r : List Int) : Option (List za9 × Bool × List Int) := tagL (r.length + 2) (r.dropWhile tagB) []
def tagN (r : List Int) : ByteArray := smallL (r.takeWhile tagB)
theorem ct_tag (kind : Int) (hn : 4 * (pre.length + r.length) + 100 ≤ n) (hb : pre.length + r.length ≤ 1000000) : TagRes out kind (tagN r) (pre ++ r) (zg2 n (ct pre r out) kind) (tagS r) := by
  unfold zg2
  have hc := congrArg List.length (List.takeWhile_append_dropWhile (p := tagB) (l := r))
  rw [List.length_append] at hc
  rw [zlc (q := tagB) tag1_eq (by omega) (by omega), Option.bind_some]
  simp only
  rw [zl2 _ (by omega) (by omega), Option.bind_some]
  have hcat : pre ++ r.takeWhile tagB ++ r.dropWhile tagB = pre ++ r := by rw [List.append_assoc, List.takeWhile_append_dropWhile]
  unfold tagS tagN
  rw [tagL_fuel (r.length + 2) n (r.dropWhile tagB) [] (by omega) (by omega)]
  have := tag_g (n := n) (out := out) kind (smallL (r.takeWhile tagB)) n (r.dropWhile tagB) (pre ++ r.takeWhile tagB) [] false { Name := bs [], Value := bs [] } (by omega) (by simp) (by simp; omega) (by simp; omega)
  rw [hcat] at this ⊢
  exact this
def textTok (t : ByteArray) : za5 := { Kind := 1, Name := bs [], Text := t, Attrs := [], Closed := false }
theorem raw_l4 (p0 : za3) : ∀ (d j : Nat) (pre r acc : List Int) (k : Nat), d ≤ r.length → d + 1 ≤ k → pre.length + r.length ≤ 1000000 → acc.length + d ≤ 1000000 → j + d ≤ 1000000 →
    zd0 n p0 ((j + d : Nat) : Int) k (pre ++ r) (pre.length : Int) acc (j : Int) = zft p0 (pre ++ r) ((pre ++ r.take d).length : Int) (acc ++ r.take d)
  | 0, j, pre, r, acc, k, hd, hk, hb, ha, hj => by
    obtain ⟨k, rfl⟩ : ∃ i, k = i + 1 := ⟨k - 1, by omega⟩
    rw [zd0, dF (by omega)]
    simp
  | d + 1, j, pre, [], acc, k, hd, hk, hb, ha, hj => by simp at hd
  | d + 1, j, pre, x :: r, acc, k, hd, hk, hb, ha, hj => by
    obtain ⟨k, rfl⟩ : ∃ i, k = i + 1 := ⟨k - 1, by omega⟩
    have hb' := hb
    simp only [List.length_cons] at hd hb
    rw [zd0, dT (by omega), zgv (by omega), Option.bind_some]
    simp only
    rw [appM4 (by omega), Option.bind_some, zb5 (by omega)]
    have := raw_l4 p0 d (j + 1) (pre ++ [x]) r (acc ++ [x]) k (by omega) (by omega) (by simp; omega) (by simp; omega) (by omega)
    rw [show j + 1 + d = j + (d + 1) by omega] at this
    simp only [List.append_assoc, List.singleton_append] at this ⊢
    rw [this]
    simp
theorem raw_k1 (m : Nat) (hm : m ≤ r.length) (hn : r.length + 1 ≤ n) (hb : pre.length + r.length ≤ 1000000) (ho : out.length ≤ 1000000) :
    zd1 n (ct pre r out) (m : Int) = some (ct (pre ++ r.take m) (r.drop m) (out ++ if m = 0 then [] else [textTok (textOf (r.take m))])) := by
  unfold zd1
  have := raw_l4 (n := n) (ct pre r out) m 0 pre r [] n hm (by omega) hb (by simp; omega) (by omega)
  rw [Nat.zero_add] at this
  rw [show ((0 : Nat) : Int) = 0 from rfl] at this
  rw [this, List.nil_append]
  unfold zft zfs
  have hl : (r.take m).length = m := by rw [List.length_take]; omega
  rw [hl]
  have hcat : pre ++ r.take m ++ r.drop m = pre ++ r := by rw [List.append_assoc, List.take_append_drop]
  by_cases h0 : m = 0
  · subst h0
    rw [dF (by omega)]
    simp
  · rw [dT (by omega), zew (by simp; omega), Option.bind_some, if_neg h0]
    unfold ct cur
    rw [hcat]
    rfl
def textRun : List Int → List Int × List Int
  | [] => ([], [])
  | x :: r => bif beginsB (x :: r) then ([], x :: r) else (x :: (textRun r).1, (textRun r).2)
theorem zmw : ∀ r : List Int, (textRun r).1 ++ (textRun r).2 = r
  | [] => rfl
  | x :: r => by
    unfold textRun
    cases beginsB (x :: r) with
    | true => rfl
    | false => simp only [cond_false, List.cons_append, zmw r]
theorem tokens_l4 (out : List za5) (tk : za5) (g3 : (List Int) → Int → (List za5) → za5 → Option (List za5)) (hn : 2 ≤ n) : ∀ (r pre acc : List Int) (k : Nat), r.length + 1 ≤ k → pre.length + r.length ≤ 1000000 → acc.length + r.length ≤ 1000000 →
    zdg n out tk g3 k (pre ++ r) (pre.length : Int) acc = zht n out tk g3 (pre ++ r) ((pre ++ (textRun r).1).length : Int) (acc ++ (textRun r).1)
  | [], pre, acc, k, hk, hb, ha => by
    obtain ⟨k, rfl⟩ : ∃ i, k = i + 1 := ⟨k - 1, by omega⟩
    rw [zdg, zjo (by omega), Option.bind_some, dF (by simp)]
    unfold zgr
    rw [cond_false]
    simp [textRun]
  | x :: r, pre, acc, k, hk, hb, ha => by
    obtain ⟨k, rfl⟩ : ∃ i, k = i + 1 := ⟨k - 1, by omega⟩
    have hb' := hb
    simp only [List.length_cons] at hk hb ha
    rw [zdg, zjo (by omega), Option.bind_some, dT (by simp), ct_begins hn (by omega), Option.bind_some]
    unfold zgr textRun
    cases hbg : beginsB (x :: r) with
    | true => simp
    | false =>
      rw [Bool.not_false, cond_true, cond_false, zgv (by omega), Option.bind_some]
      simp only
      rw [appM4 (by omega), Option.bind_some]
      have := tokens_l4 out tk g3 hn r (pre ++ [x]) (acc ++ [x]) k (by omega) (by simp; omega) (by simp; omega)
      simp only [List.append_assoc, List.singleton_append] at this ⊢
      rw [this]
end Go.Proofs.Ytklcdfnhdljkjaa
namespace Go.Proofs.Ytklcdfnhdljkjaa
set_option linter.unusedVariables false
set_option linter.unusedSimpArgs false
open Go.RowKit Go.Sl
variable {n : Nat} {pre r : List Int} {out : List za5}
def afterB : List Int → Bool
  | [] => true
  | x :: _ => blankB x || (decide (x = 47) || decide (x = 62))
def rawAt (nm : ByteArray) (r : List Int) : Bool := ([60, 47] : List Int).isPrefixOf r && (decide (2 + nm.size ≤ r.length) && (decide (smallL ((r.drop 2).take nm.size) = nm) && afterB (r.drop (2 + nm.size))))
def rawS (nm : ByteArray) : List Int → Nat
  | [] => 0
  | x :: r => bif rawAt nm (x :: r) then 0 else rawS nm r + 1
theorem zrl (nm : ByteArray) : ∀ r : List Int, rawS nm r ≤ r.length
  | [] => Nat.le_refl _
  | x :: r => by
    unfold rawS
    have := zrl nm r
    cases rawAt nm (x :: r) with
    | true => simp
    | false => simp only [cond_false, List.length_cons]; omega
def padL : Nat → List Int → List Int
  | 0, _ => []
  | m + 1, xs => xs[0]?.getD 0 :: padL m xs.tail
theorem padL_take : ∀ (m : Nat) (xs : List Int), m ≤ xs.length → padL m xs = xs.take m
  | 0, _, _ => by simp [padL]
  | m + 1, [], h => by simp at h
  | m + 1, x :: xs, h => by
    unfold padL
    rw [List.tail_cons, padL_take m xs (by simpa using h)]; rfl
theorem padL_zero : ∀ (m : Nat) (xs : List Int), xs.length < m → ∃ a b, padL m xs = a ++ 0 :: b
  | 0, _, h => by omega
  | m + 1, [], _ => ⟨[], padL m [], rfl⟩
  | m + 1, x :: xs, h => by
    obtain ⟨a, b, e⟩ := padL_zero m xs (by simpa using h)
    refine ⟨x :: a, b, ?_⟩
    unfold padL
    rw [List.tail_cons, e]; rfl
theorem zrn : ∀ (m : Nat) (xs : List Int), (padL m xs).length = m
  | 0, _ => rfl
  | m + 1, xs => by unfold padL; rw [List.length_cons, zrn]
theorem znb : ∀ (a b : List Int), textOf (a ++ b) = textOf a ++ textOf b
  | [], b => by simp [textOf]
  | x :: a, b => by rw [List.cons_append, zh3, zh3, znb a b, ByteArray.append_assoc]
theorem small_zero (a b : List Int) : (0 : UInt8) ∈ (smallL (a ++ 0 :: b)).data.toList := by
  unfold smallL
  rw [List.map_append, List.map_cons, znb, zh3]
  simp only [ByteArray.data_append, Array.toList_append, List.mem_append]
  exact .inr (.inl (by decide +kernel))
theorem small_pad {nm : ByteArray} (h0 : (0 : UInt8) ∉ nm.data.toList) (xs : List Int) : decide (smallL (padL nm.size xs) = nm) = (decide (nm.size ≤ xs.length) && decide (smallL (xs.take nm.size) = nm)) := by
  by_cases h : nm.size ≤ xs.length
  · rw [padL_take _ _ h, decide_eq_true h, Bool.true_and]
  · obtain ⟨a, b, e⟩ := padL_zero nm.size xs (by omega)
    rw [decide_eq_false h, Bool.false_and]
    refine decide_eq_false fun e2 => h0 ?_
    rw [← e2, e]
    exact small_zero a b
theorem raw_l9 (nm : ByteArray) (i : Nat) (lp : Int → Option za3) (hb : pre.length + r.length ≤ 1000000) (hi : i ≤ 1000000) (hs : nm.size ≤ 1000) : ∀ (d j : Nat) (acc : List Int) (k : Nat), j + d = nm.size → d + 1 ≤ k → acc.length + d ≤ 1000000 →
    zcz n (ct pre r out) nm (i : Int) lp k acc (j : Int) = zej n (ct pre r out) nm (i : Int) lp (acc ++ padL d (r.drop (i + 2 + j)))
  | 0, j, acc, k, hj, hk, ha => by
    obtain ⟨k, rfl⟩ : ∃ i, k = i + 1 := ⟨k - 1, by omega⟩
    rw [zcz, dF (by omega)]
    unfold padL
    rw [List.append_nil]
  | d + 1, j, acc, k, hj, hk, ha => by
    obtain ⟨k, rfl⟩ : ∃ i, k = i + 1 := ⟨k - 1, by omega⟩
    rw [zcz, dT (by omega), zi4 (i := (i : Int) + 2) (by omega), zi4 (by omega), show (i : Int) + 2 + (j : Int) = ((i + 2 + j : Nat) : Int) by omega, zn2 _ (by omega) (by omega), Option.bind_some, appM4 (by omega), Option.bind_some, zb5 (by omega)]
    rw [raw_l9 nm i lp hb hi hs d (j + 1) _ k (by omega) (by omega) (by simp; omega)]
    have e : (r.drop (i + 2 + j)).tail = r.drop (i + 2 + (j + 1)) := by rw [List.tail_drop, Nat.add_assoc (i + 2)]
    have e2 : (r.drop (i + 2 + j))[0]? = r[i + 2 + j]? := by rw [List.getElem?_drop, Nat.add_zero]
    rw [show padL (d + 1) (r.drop (i + 2 + j)) = (r.drop (i + 2 + j))[0]?.getD 0 :: padL d (r.drop (i + 2 + j)).tail from rfl, e, e2, List.append_assoc, List.singleton_append]
theorem raw_k7 (nm : ByteArray) (i : Nat) (lp : Int → Option za3) (hb : pre.length + r.length ≤ 1000000) (hi : i ≤ r.length) (hs : nm.size ≤ 1000) (h0 : (0 : UInt8) ∉ nm.data.toList) (hn : 2000 ≤ n) (h60 : ([60, 47] : List Int).isPrefixOf (r.drop i) = true) :
    zej n (ct pre r out) nm (i : Int) lp (padL nm.size (r.drop (i + 2))) = zci n (ct pre r out) (i : Int) lp (rawAt nm (r.drop i)) := by
  unfold zej
  rw [zi4 (i := (i : Int) + 2) (by omega), zi4 (by omega), show (i : Int) + 2 + (nm.size : Int) = ((i + 2 + nm.size : Nat) : Int) by omega, zlb _ (by omega) (by omega), Option.bind_some]
  rw [zl2 _ (by rw [zrn]; omega) (by rw [zrn]; omega), Option.bind_some, small_pad h0]
  have hpl := (List.isPrefixOf_iff_prefix.1 h60).length_le
  simp only [List.length_cons, List.length_nil, List.length_drop] at hpl
  have e1 : decide (nm.size ≤ (r.drop (i + 2)).length) = decide (2 + nm.size ≤ (r.drop i).length) := by
    simp only [List.length_drop]
    congr 1
    exact propext ⟨fun h => by omega, fun h => by omega⟩
  have e2 : (r.drop i).drop 2 = r.drop (i + 2) := by rw [List.drop_drop]
  have e3 : (r.drop i).drop (2 + nm.size) = r.drop (i + 2 + nm.size) := by rw [List.drop_drop, Nat.add_assoc]
  unfold rawAt
  rw [h60, Bool.true_and, e1, e2, e3]
  cases decide (2 + nm.size ≤ (r.drop i).length) with
  | false => rfl
  | true =>
    cases decide (smallL ((r.drop (i + 2)).take nm.size) = nm) with
    | false => rfl
    | true =>
      simp only [Bool.and_true, cond_true, Bool.true_and]
      by_cases hl : i + 2 + nm.size < r.length
      · rw [decide_eq_true hl, Bool.not_true, cond_false, List.drop_eq_getElem_cons hl, List.getElem?_eq_getElem hl, Option.getD_some, zp3, Option.bind_some]
        rw [show ∀ (y : Int) (t : List Int), afterB (y :: t) = (blankB y || (decide (y = 47) || decide (y = 62))) from fun _ _ => rfl]
        cases blankB r[i + 2 + nm.size] with
        | true => rfl
        | false =>
          rw [cond_false, Bool.false_or]
          cases decide (r[i + 2 + nm.size] = 47) <;> rfl
      · have e0 : r.drop (i + 2 + nm.size) = [] := List.drop_eq_nil_of_le (by omega)
        rw [decide_eq_false hl, Bool.not_false, cond_true, e0]; rfl
theorem raw_l5 (nm : ByteArray) (hb : pre.length + r.length ≤ 1000000) (hs : nm.size ≤ 1000) (h0 : (0 : UInt8) ∉ nm.data.toList) (hn : 2000 ≤ n) : ∀ (d i k : Nat), i + d = r.length → d + 1 ≤ k →
    zb2 n (ct pre r out) nm k (i : Int) = zd1 n (ct pre r out) ((i + rawS nm (r.drop i) : Nat) : Int)
  | 0, i, k, hi, hk => by
    obtain ⟨k, rfl⟩ : ∃ i, k = i + 1 := ⟨k - 1, by omega⟩
    have e0 : r.drop i = [] := List.drop_eq_nil_of_le (by omega)
    rw [zb2, zjo (by omega), Option.bind_some, dF (by omega), e0]
    rfl
  | d + 1, i, k, hi, hk => by
    obtain ⟨k, rfl⟩ : ∃ i, k = i + 1 := ⟨k - 1, by omega⟩
    have hlt : i < r.length := by omega
    have ih := raw_l5 nm hb hs h0 hn d (i + 1) k (by omega) (by omega)
    rw [zb2, zjo (by omega), Option.bind_some, dT (by omega)]
    rw [ct_is (xs := [60, 47]) rfl (by simp; omega) (by decide) (by omega) i (by omega), Option.bind_some]
    have hd : r.drop i = r[i] :: r.drop (i + 1) := List.drop_eq_getElem_cons hlt
    have next : rawAt nm (r.drop i) = false → zek (i : Int) (zb2 n (ct pre r out) nm k) = zd1 n (ct pre r out) ((i + rawS nm (r.drop i) : Nat) : Int) := fun hf => by
      unfold zek
      rw [zb5 (by omega), ih]
      rw [hd] at hf ⊢
      rw [show ∀ (y : Int) (t : List Int), rawS nm (y :: t) = bif rawAt nm (y :: t) then 0 else rawS nm t + 1 from fun _ _ => rfl]
      rw [hf, cond_false, show i + 1 + rawS nm (r.drop (i + 1)) = i + (rawS nm (r.drop (i + 1)) + 1) by omega]
    cases h60 : ([60, 47] : List Int).isPrefixOf (r.drop i) with
    | false =>
      rw [Bool.not_false, cond_true]
      exact next (by unfold rawAt; rw [h60]; rfl)
    | true =>
      rw [Bool.not_true, cond_false]
      have h9 := raw_l9 (n := n) (pre := pre) (r := r) (out := out) nm i (zb2 n (ct pre r out) nm k) hb (by omega) hs nm.size 0 [] n (by omega) (by omega) (by simp; omega)
      rw [show ((0 : Nat) : Int) = 0 from rfl, List.nil_append, Nat.add_zero] at h9
      rw [h9, raw_k7 nm i _ hb (by omega) hs h0 hn h60]
      unfold zci
      cases hr : rawAt nm (r.drop i) with
      | false => rw [cond_false]; exact next hr
      | true =>
        rw [cond_true]
        rw [hd] at hr ⊢
        rw [show ∀ (y : Int) (t : List Int), rawS nm (y :: t) = bif rawAt nm (y :: t) then 0 else rawS nm t + 1 from fun _ _ => rfl, hr]; rfl
theorem ct_raw (nm : ByteArray) (hb : pre.length + r.length ≤ 1000000) (hs : nm.size ≤ 1000) (h0 : (0 : UInt8) ∉ nm.data.toList) (hn : 4 * (pre.length + r.length) + 2000 ≤ n) (ho : out.length ≤ 1000000) :
    zh6 n (ct pre r out) nm = some (ct (pre ++ r.take (rawS nm r)) (r.drop (rawS nm r)) (out ++ if rawS nm r = 0 then [] else [textTok (textOf (r.take (rawS nm r)))])) := by
  unfold zh6
  have := raw_l5 (n := n) (pre := pre) (r := r) (out := out) nm hb hs h0 (by omega) r.length 0 n (by omega) (by omega)
  rw [show ((0 : Nat) : Int) = 0 from rfl, List.drop_zero, Nat.zero_add] at this
  rw [this]
  exact raw_k1 _ (zrl nm r) (by omega) hb ho
end Go.Proofs.Ytklcdfnhdljkjaa
namespace Go.Proofs.Ytklcdfnhdljkjaa
set_option linter.unusedVariables false
set_option linter.unusedSimpArgs false
open Go.RowKit Go.Sl
variable {n : Nat}
def isRawB (nm : ByteArray) : Bool := decide (nm = bs [115, 116, 121, 108, 101]) || decide (nm = bs [115, 99, 114, 105, 112, 116])
def tokS : Nat → List Int → List za5
  | 0, _ => []
  | _ + 1, [] => []
  | k + 1, x :: r => bif !(beginsB (x :: r)) then textTok (ub (textOf (textRun (x :: r)).1)) :: tokS k (textRun (x :: r)).2 else
    bif letterB (r[0]?.getD 0) then (match tagS r with
      | none => []
      | some q => tagTok 2 (tagN r) q.1 q.2.1 :: (bif isRawB (tagN r) then (if rawS (tagN r) q.2.2 = 0 then [] else [textTok (textOf (q.2.2.take (rawS (tagN r) q.2.2)))]) ++ tokS k (q.2.2.drop (rawS (tagN r) q.2.2)) else tokS k q.2.2)) else
    bif decide (r[0]?.getD 0 = 47) && letterB (r.tail[0]?.getD 0) then (match tagS r.tail with
      | none => []
      | some q => tagTok 3 (tagN r.tail) q.1 q.2.1 :: tokS k q.2.2) else
    bif ([60, 33, 45, 45] : List Int).isPrefixOf (x :: r) then tokS k (skipS [45, 45, 62] ((x :: r).drop 4)) else tokS k (skipS [62] (x :: r))
theorem zlp (xs : List Int) : ∀ r : List Int, (skipS xs r).length ≤ r.length
  | [] => Nat.le_refl _
  | x :: r => by
    unfold skipS
    have := zlp xs r
    cases xs.isPrefixOf (x :: r) with
    | true => simp
    | false => simp only [cond_false, List.length_cons]; omega
theorem tagL_len : ∀ (k : Nat) (r : List Int) (al : List za9) (q : List za9 × Bool × List Int), tagL k r al = some q → q.2.2.length + 1 ≤ r.length
  | 0, _, _, _, h => by cases h
  | k + 1, r, al, q, h => by
    unfold tagL at h
    have hl := zki r false
    cases hs : skipBl false r with
    | mk c r1 =>
      rw [hs] at h hl
      cases r1 with
      | nil => cases h
      | cons x r1 =>
        simp only [List.length_cons] at h hl
        split at h
        · cases h; simp only; omega
        · cases ha : attrS x r1 with
          | none => rw [ha] at h; cases h
          | some p =>
            rw [ha] at h
            have := zpw ha
            have := tagL_len k _ _ _ h
            omega
theorem zm4 {r : List Int} {q : List za9 × Bool × List Int} (h : tagS r = some q) : q.2.2.length + 1 ≤ r.length := by
  have h1 := tagL_len _ _ _ _ h
  have h2 := zil tagB r
  omega
theorem zmv {r : List Int} : (textRun r).1.length + (textRun r).2.length = r.length := by
  have := congrArg List.length (zmw r)
  rwa [List.length_append] at this
theorem zoc {x : Int} {r : List Int} (h : beginsB (x :: r) = false) : 1 ≤ (textRun (x :: r)).1.length := by
  unfold textRun
  rw [h]; simp
theorem raw_name {nm : ByteArray} (h : isRawB nm = true) : nm.size ≤ 1000 ∧ (0 : UInt8) ∉ nm.data.toList := by
  unfold isRawB at h
  simp only [Bool.or_eq_true, decide_eq_true_eq] at h
  rcases h with rfl | rfl
  · exact ⟨by decide, by decide⟩
  · exact ⟨by decide, by decide⟩
theorem zpv {x : Int} {r : List Int} (h : beginsB (x :: r) = true) : x = 60 := by
  unfold beginsB at h
  split at h
  · rename_i h2; injection h2
  · cases h
theorem zkr : ∀ (m : Nat) (r pre : List Int) (out : List za5) (tk : za5) (k : Nat), r.length ≤ m → 2 * m + 3 ≤ k → 4 * (pre.length + r.length) + 2000 ≤ n → pre.length + r.length ≤ 100000 → out.length + 3 * r.length ≤ 1000000 →
    zay n k (pre ++ r) (pre.length : Int) out tk = some (out ++ tokS (m + 1) r)
  | m, [], pre, out, tk, k, hm, hk, hn, hb, ho => by
    obtain ⟨k, rfl⟩ : ∃ i, k = i + 1 := ⟨k - 1, by omega⟩
    rw [zay, zjo (by omega), Option.bind_some, dT (by simp)]
    simp [tokS]
  | 0, x :: r, _, _, _, _, hm, _, _, _, _ => by simp at hm
  | m + 1, x :: r, pre, out, tk, k, hm, hk, hn, hb, ho => by
    obtain ⟨k, rfl⟩ : ∃ i, k = i + 2 := ⟨k - 2, by omega⟩
    have hn' := hn
    have hb' := hb
    simp only [List.length_cons] at hm hn hb ho
    rw [zay, zjo (by omega), Option.bind_some, dF (by simp; omega), ct_begins (by omega) (by omega), Option.bind_some]
    rw [tokS]
    cases hbg : beginsB (x :: r) with
    | false =>
      rw [Bool.not_false, cond_true, cond_true, zgn, tokens_l4 out tk _ (by omega) (x :: r) pre [] n (by simp; omega) (by omega) (by simp; omega), List.nil_append]
      have h1 := zoc hbg
      have h2 := zmv (r := x :: r)
      have h3 := zi1 (textRun (x :: r)).1
      simp only [List.length_cons] at h2
      unfold zht
      rw [mark_ub (by omega) (by omega), Option.bind_some, zew (by simp; omega), Option.bind_some]
      have hcat : pre ++ (textRun (x :: r)).1 ++ (textRun (x :: r)).2 = pre ++ x :: r := by rw [List.append_assoc, zmw]
      have ih := zkr m (textRun (x :: r)).2 (pre ++ (textRun (x :: r)).1) (out ++ [textTok (ub (textOf (textRun (x :: r)).1))]) tk k (by omega) (by omega) (by simp; omega) (by simp; omega) (by simp; omega)
      rw [hcat] at ih
      rw [List.append_assoc] at ih
      exact ih
    | true =>
      have hx := zpv hbg
      subst hx
      rw [Bool.not_true, cond_false, cond_false]
      have p1 := zn2 (n := n) (pre := pre) (r := 60 :: r) (out := out) 1 (by omega) (by omega)
      rw [show ((1 : Nat) : Int) = 1 from rfl, List.getElem?_cons_succ] at p1
      have p2 := zn2 (n := n) (pre := pre) (r := 60 :: r) (out := out) 2 (by omega) (by omega)
      rw [show ((2 : Nat) : Int) = 2 from rfl, List.getElem?_cons_succ, show r[1]? = r.tail[0]? from by cases r <;> simp] at p2
      have let_eq : ∀ z : Int, zi2 n z = some (letterB z) := fun _ => rfl
      rw [p1, Option.bind_some, let_eq, Option.bind_some]
      cases hlt : letterB (r[0]?.getD 0) with
      | true =>
        rw [cond_true, cond_true, zgm, zgv (by omega), Option.bind_some]
        simp only
        have ht := ct_tag (n := n) (pre := pre ++ [60]) (r := r) (out := out) 2 (by simp; omega) (by simp; omega)
        cases htg : tagS r with
        | none =>
          rw [htg] at ht
          obtain ⟨t, pre', r', h1, h2⟩ := ht
          rw [h2, Option.bind_some]
          simp
        | some q =>
          rw [htg] at ht
          obtain ⟨pre', h1, h2⟩ := ht
          have hl := zm4 htg
          have hcl := congrArg List.length h1
          simp only [List.length_append, List.length_singleton] at hcl
          have hnm : (tagTok 2 (tagN r) q.1 q.2.1).Name = tagN r := rfl
          rw [h2, Option.bind_some]
          simp only [Bool.not_true, cond_false]
          rw [zew (by simp; omega), Option.bind_some, hnm]
          have hre : pre ++ 60 :: r = pre' ++ q.2.2 := by rw [h1]; simp
          show (bif isRawB (tagN r) then _ else _) = _
          cases hraw : isRawB (tagN r) with
          | true =>
            obtain ⟨s1, s2⟩ := raw_name hraw
            have hle := zrl (tagN r) q.2.2
            rw [cond_true, cond_true, ct_raw (n := n) (pre := pre') (r := q.2.2) (tagN r) (by omega) s1 s2 (by omega) (by simp; omega), Option.bind_some]
            unfold zgq
            have ih := zkr m (q.2.2.drop (rawS (tagN r) q.2.2)) (pre' ++ q.2.2.take (rawS (tagN r) q.2.2)) (out ++ [tagTok 2 (tagN r) q.1 q.2.1] ++ if rawS (tagN r) q.2.2 = 0 then [] else [textTok (textOf (q.2.2.take (rawS (tagN r) q.2.2)))]) (tagTok 2 (tagN r) q.1 q.2.1) k (by simp; omega) (by omega) (by simp; omega) (by simp; omega) (by split <;> simp <;> omega)
            simp only
            rw [ih]
            simp
          | false =>
            rw [cond_false, cond_false]
            unfold zgq
            have ih := zkr m q.2.2 pre' (out ++ [tagTok 2 (tagN r) q.1 q.2.1]) (tagTok 2 (tagN r) q.1 q.2.1) k (by omega) (by omega) (by omega) (by omega) (by simp; omega)
            simp only
            rw [ih]
            simp
      | false =>
        rw [cond_false, cond_false, Option.bind_some]
        have rest : (zfy n (pre ++ 60 :: r) (pre.length : Int) out tk (zay n (k + 1)) (zdy n (k + 1)) false) = some (out ++ (bif ([60, 33, 45, 45] : List Int).isPrefixOf (60 :: r) then tokS (m + 1) (skipS [45, 45, 62] ((60 :: r).drop 4)) else tokS (m + 1) (skipS [62] (60 :: r)))) := by
          unfold zfy
          have his := ct_is (n := n) (pre := pre) (r := 60 :: r) (out := out) (s := bs [60, 33, 45, 45]) (xs := [60, 33, 45, 45]) rfl (by simp; omega) (by decide) (by omega) 0 (by omega)
          rw [show ((0 : Nat) : Int) = 0 from rfl, List.drop_zero] at his
          rw [cond_false, his, Option.bind_some]
          cases hc : ([60, 33, 45, 45] : List Int).isPrefixOf (60 :: r) with
          | true =>
            obtain ⟨pre1, h1, h2⟩ := ct_skip4 (n := n) (pre := pre) (r := 60 :: r) (out := out) (by omega) (by omega)
            have hcl := congrArg List.length h1
            have hdl : ((60 :: r).drop 4).length ≤ r.length := by simp
            simp only [List.length_append, List.length_cons] at hcl
            obtain ⟨pre2, h3, h4⟩ := ct_skip (n := n) (pre := pre1) (r := (60 :: r).drop 4) (out := out) (s := bs [45, 45, 62]) (xs := [45, 45, 62]) rfl (by decide) (by simp; omega) (by omega) (by omega)
            have hsl := zlp [45, 45, 62] ((60 :: r).drop 4)
            have hcl2 := congrArg List.length h3
            simp only [List.length_append] at hcl2
            rw [cond_true, cond_true, h2, Option.bind_some, h4, Option.bind_some]
            exact zkr m _ pre2 out tk (k + 1) (by omega) (by omega) (by omega) (by omega) (by omega)
          | false =>
            obtain ⟨pre2, h3, h4⟩ := ct_skip (n := n) (pre := pre) (r := 60 :: r) (out := out) (s := bs [62]) (xs := [62]) rfl (by decide) (by simp; omega) (by simp; omega) (by omega)
            have hsk : skipS [62] (60 :: r) = skipS [62] r := by
              rw [skipS, show ([62] : List Int).isPrefixOf (60 :: r) = false from by simp [List.isPrefixOf], cond_false]
            have hsl := zlp [62] r
            have hcl2 := congrArg List.length h3
            simp only [List.length_append, List.length_cons] at hcl2
            rw [cond_false, cond_false, h4, Option.bind_some]
            rw [hsk] at hcl2 ⊢
            exact zkr m _ pre2 out tk (k + 1) (by omega) (by omega) (by omega) (by omega) (by omega)
        by_cases h47 : r[0]?.getD 0 = 47
        · rw [dT h47, p2, Option.bind_some, let_eq, Option.bind_some, decide_eq_true h47, Bool.true_and]
          cases hl2 : letterB (r.tail[0]?.getD 0) with
          | false => rw [cond_false]; exact rest
          | true =>
            obtain ⟨r2, rfl⟩ : ∃ r2, r = 47 :: r2 := by
              cases r with
              | nil => simp at h47
              | cons y r2 => simp at h47; subst h47; exact ⟨r2, rfl⟩
            simp only [List.tail_cons, List.length_cons] at hl2 hm hn hb ho ⊢
            unfold zfy
            rw [cond_true, cond_true, zdy, zgv (by omega), Option.bind_some]
            simp only
            rw [zgv (by simp; omega), Option.bind_some]
            simp only
            have ht := ct_tag (n := n) (pre := pre ++ [60] ++ [47]) (r := r2) (out := out) 3 (by simp; omega) (by simp; omega)
            cases htg : tagS r2 with
            | none =>
              rw [htg] at ht
              obtain ⟨t, pre', r', h1, h2⟩ := ht
              rw [h2, Option.bind_some]
              simp
            | some q =>
              rw [htg] at ht
              obtain ⟨pre', h1, h2⟩ := ht
              have hl := zm4 htg
              have hcl := congrArg List.length h1
              simp only [List.length_append, List.length_singleton] at hcl
              rw [h2, Option.bind_some]
              simp only [Bool.not_true, cond_false]
              rw [zew (by simp; omega), Option.bind_some]
              have ih := zkr m q.2.2 pre' (out ++ [tagTok 3 (tagN r2) q.1 q.2.1]) (tagTok 3 (tagN r2) q.1 q.2.1) k (by omega) (by omega) (by omega) (by omega) (by simp; omega)
              rw [ih]
              simp
        · rw [dF h47, decide_eq_false h47, Bool.false_and, cond_false]
          exact rest
theorem zgs (l : List Int) (hl : l.length ≤ 100000) (hn : 4 * l.length + 2000 ≤ n) : zjx n l = some (tokS (l.length + 1) l) := by
  unfold zjx zia
  rw [zew (by simp; omega), Option.bind_some, Option.bind_some, List.nil_append]
  have := zkr (n := n) l.length l [] [] { Kind := 0, Name := bs [], Text := bs [], Attrs := [], Closed := false } n (Nat.le_refl _) (by omega) (by simp; omega) (by simpa using hl) (by simp; omega)
  simpa using this
end Go.Proofs.Ytklcdfnhdljkjaa
namespace Go.Proofs.Ytklcdfnhdljkjaa
set_option linter.unusedVariables false
set_option linter.unusedSimpArgs false
open Go.RowKit Go.Sl
def noUp (s : ByteArray) : Prop := ∀ b ∈ s.data.toList, ¬ (65 ≤ b.toNat ∧ b.toNat ≤ 90)
theorem noUp_append {s t : ByteArray} (h : noUp s) (h2 : noUp t) : noUp (s ++ t) := fun b hb => by
  rw [ByteArray.data_append, Array.toList_append, List.mem_append] at hb
  rcases hb with hb | hb
  · exact h b hb
  · exact h2 b hb
theorem enc_noUp {x : Int} (h : ¬ (65 ≤ x ∧ x ≤ 90)) : noUp (Utf8.encode x) := by
  unfold Utf8.encode noUp
  simp only
  have hc : ∃ c, (if Utf8.valid x = true then x.toNat else Utf8.runeError) = c ∧ ¬ (65 ≤ c ∧ c ≤ 90) ∧ c ≤ 1114111 := by
    refine ⟨_, rfl, ?_, ?_⟩
    · split
      · omega
      · decide
    · split
      · rename_i hv
        simp [Utf8.valid] at hv
        omega
      · decide
  obtain ⟨c, e, h1, h2⟩ := hc
  rw [e]
  intro b hb
  split at hb
  · simp only [List.mem_cons, List.mem_nil_iff, or_false] at hb
    subst hb
    simp only [UInt8.toNat_ofNat']
    omega
  · split at hb
    · simp only [List.mem_cons, List.mem_nil_iff, or_false] at hb
      rcases hb with rfl | rfl <;> simp only [UInt8.toNat_ofNat'] <;> omega
    · split at hb
      · simp only [List.mem_cons, List.mem_nil_iff, or_false] at hb
        rcases hb with rfl | rfl | rfl <;> simp only [UInt8.toNat_ofNat'] <;> omega
      · simp only [List.mem_cons, List.mem_nil_iff, or_false] at hb
        rcases hb with rfl | rfl | rfl | rfl <;> simp only [UInt8.toNat_ofNat'] <;> omega
theorem lowX_noUp (x : Int) : ¬ (65 ≤ lowX x ∧ lowX x ≤ 90) := by
  unfold lowX
  cases h : (decide (65 ≤ x)) && (decide (x ≤ 90)) with
  | true => simp only [Bool.and_eq_true, decide_eq_true_eq] at h; rw [cond_true]; omega
  | false => simp only [Bool.and_eq_false_iff, decide_eq_false_iff_not] at h; rw [cond_false]; omega
theorem zqi : ∀ xs : List Int, noUp (smallL xs)
  | [] => fun b hb => by simp [smallL, textOf] at hb
  | x :: xs => by
    unfold smallL
    rw [List.map_cons, zh3]
    exact noUp_append (enc_noUp (lowX_noUp x)) (zqi xs)
theorem enc_pos (x : Int) : 1 ≤ (Utf8.encode x).size := by
  obtain ⟨b, t, h, _⟩ := zp2 x
  have : (Utf8.encode x).size = (Utf8.encode x).data.toList.length := by rw [Array.length_toList]; rfl
  rw [this, h]; simp
theorem zm3 {xs : List Int} (h : xs ≠ []) : 1 ≤ (textOf xs).size := by
  cases xs with
  | nil => exact absurd rfl h
  | cons x xs =>
    have := enc_pos x
    rw [zh3, ByteArray.size_append]; omega
theorem zp5 {xs : List Int} (h : xs ≠ []) : smallL xs ≠ bs [] := fun e => by
  have := zm3 (xs := xs.map lowX) (by simpa using h)
  unfold smallL at e
  rw [e, zha] at this
  simp at this
theorem ub_pos {s : ByteArray} (h : 1 ≤ s.size) : ub s ≠ bs [] := fun e => by
  unfold ub at e
  have e := zlg.1 e
  have hl : s.data.toList.length = s.size := by rw [Array.length_toList]; rfl
  generalize s.data.toList = l at e hl
  cases l with
  | nil => simp at hl; omega
  | cons b l =>
    obtain ⟨m, hm⟩ : ∃ m, s.size = m + 1 := ⟨s.size - 1, by omega⟩
    rw [hm] at e
    unfold un at e
    split at e
    · split at e
      · rename_i q hq
        have := (zp1 hq).2.1
        rw [(List.append_eq_nil_iff.1 e).1] at this
        simp at this
      · cases e
    · cases e
theorem small_size (xs : List Int) : (smallL xs).size ≤ 4 * xs.length := by
  have := zi1 (xs.map lowX)
  rwa [List.length_map] at this
def nmOK (s : ByteArray) : Prop := noUp s ∧ s.size ≤ 8000000
theorem zow {xs : List Int} (h : xs.length ≤ 2000000) : nmOK (smallL xs) := ⟨zqi xs, by have := small_size xs; omega⟩
theorem zr8 (p : Int → Bool) (r : List Int) : (r.takeWhile p).length ≤ r.length := (List.takeWhile_prefix p).length_le
def AttrsOK (al : List za9) : Prop := al.length ≤ 64 ∧ (∀ a ∈ al, nmOK a.Name ∧ a.Name ≠ bs []) ∧ al.Pairwise fun a b => a.Name ≠ b.Name
theorem attrs_nil : AttrsOK [] := ⟨by simp, by simp, .nil⟩
theorem addA_ok {al : List za9} {a : za9} (h : AttrsOK al) (ha : nmOK a.Name ∧ a.Name ≠ bs []) : AttrsOK (addA al a) := by
  refine ⟨zs3 a h.1, ?_, ?_⟩
  · unfold addA
    cases decide (al.length < 64) && !(al.any fun b => decide (b.Name = a.Name)) with
    | false => exact h.2.1
    | true =>
      intro b hb
      rw [cond_true, List.mem_append, List.mem_singleton] at hb
      rcases hb with hb | rfl
      · exact h.2.1 b hb
      · exact ha
  · unfold addA
    cases hc : decide (al.length < 64) && !(al.any fun b => decide (b.Name = a.Name)) with
    | false => exact h.2.2
    | true =>
      simp only [Bool.and_eq_true, Bool.not_eq_true', List.any_eq_false, decide_eq_true_eq] at hc
      rw [cond_true, List.pairwise_append]
      exact ⟨h.2.2, List.pairwise_singleton .., fun b hb c hc2 => by
        rw [List.mem_singleton] at hc2
        subst hc2
        exact hc.2 b hb⟩
theorem attrS_ok {x : Int} {r : List Int} {q : za9 × List Int} (h : attrS x r = some q) (hr : r.length ≤ 1000000) : nmOK q.1.Name ∧ q.1.Name ≠ bs [] := by
  have ht := zr8 nameB r
  unfold attrS attrT at h
  split at h
  · obtain ⟨p, _, rfl⟩ := Option.map_eq_some_iff.1 h
    exact ⟨zow (by simp; omega), zp5 (by simp)⟩
  · cases h
    exact ⟨zow (by simp; omega), zp5 (by simp)⟩
theorem tagL_ok : ∀ (k : Nat) (r : List Int) (al : List za9) (q : List za9 × Bool × List Int), AttrsOK al → r.length ≤ 1000000 → tagL k r al = some q → AttrsOK q.1
  | 0, _, _, _, _, _, h => by cases h
  | k + 1, r, al, q, hal, hr, h => by
    have hsl := zki r false
    unfold tagL at h
    cases hs : skipBl false r with
    | mk c r1 =>
      rw [hs] at h hsl
      cases r1 with
      | nil => cases h
      | cons x r1 =>
        simp only [List.length_cons] at h hsl
        split at h
        · cases h; exact hal
        · cases ha : attrS x r1 with
          | none => rw [ha] at h; cases h
          | some p =>
            rw [ha] at h
            have := zpw ha
            exact tagL_ok k _ _ _ (addA_ok hal (attrS_ok ha (by omega))) (by omega) h
theorem un_len : ∀ (k : Nat) (l : List UInt8), (un k l).length ≤ 4 * l.length
  | 0, _ => by simp [un]
  | _ + 1, [] => by simp [un]
  | k + 1, b :: r => by
    unfold un
    split
    · cases he : ent r with
      | none =>
        have := un_len k r
        simp only [List.length_cons]; omega
      | some q =>
        have := zp1 he
        have := un_len k q.2
        simp only [List.length_append, List.length_cons]; omega
    · have := un_len k r
      simp only [List.length_cons]; omega
theorem ub_size (s : ByteArray) : (ub s).size ≤ 4 * s.size := by
  unfold ub
  rw [zha]
  have := un_len s.size s.data.toList
  rwa [show s.data.toList.length = s.size from by rw [Array.length_toList]; rfl] at this
def TokOK (t : za5) : Prop := (t.Kind = 1 ∧ t.Text ≠ bs [] ∧ t.Text.size ≤ 16000000 ∧ t.Name = bs [] ∧ t.Attrs = [] ∧ t.Closed = false) ∨
  ((t.Kind = 2 ∨ t.Kind = 3) ∧ t.Name ≠ bs [] ∧ nmOK t.Name ∧ t.Text = bs [] ∧ AttrsOK t.Attrs ∧ (t.Kind = 3 → t.Attrs = [] ∧ t.Closed = false))
theorem tagN_pos {r : List Int} (h : letterB (r[0]?.getD 0) = true) : tagN r ≠ bs [] := by
  cases r with
  | nil => exact absurd h (by decide)
  | cons x r =>
    simp only [List.getElem?_cons_zero, Option.getD_some] at h
    have hx : (97 ≤ x ∧ x ≤ 122) ∨ (65 ≤ x ∧ x ≤ 90) := by
      unfold letterB at h
      by_cases h97 : 97 ≤ x
      · rw [dT h97] at h; simp at h; omega
      · rw [dF h97] at h; simp at h; omega
    have ht : tagB x = true := by
      unfold tagB blankB
      simp; omega
    unfold tagN
    exact zp5 (by simp [ht])
theorem zmu : ∀ (k : Nat) (r : List Int), r.length ≤ 1000000 → ∀ t ∈ tokS k r, TokOK t
  | 0, _, _, t, h => by cases h
  | _ + 1, [], _, t, h => by cases h
  | k + 1, x :: r, hr, t, h => by
    simp only [List.length_cons] at hr
    have htl := zr8 tagB r
    have hdl := zil tagB r
    have htl2 := zr8 tagB r.tail
    have htt : r.tail.length ≤ r.length := by simp
    rw [tokS] at h
    cases hbg : beginsB (x :: r) with
    | false =>
      rw [hbg, Bool.not_false, cond_true] at h
      rcases List.mem_cons.1 h with rfl | h
      · refine .inl ⟨rfl, ub_pos (zm3 fun e => ?_), (by
        have u1 := ub_size (textOf (textRun (x :: r)).1)
        have u2 := zi1 (textRun (x :: r)).1
        have u3 := zmv (r := x :: r)
        simp only [List.length_cons] at u3
        show (ub (textOf (textRun (x :: r)).1)).size ≤ _
        omega), rfl, rfl, rfl⟩
        have := zoc hbg
        rw [e] at this; simp at this
      · have := zmv (r := x :: r)
        simp only [List.length_cons] at this
        exact zmu k _ (by omega) t h
    | true =>
      rw [hbg, Bool.not_true, cond_false] at h
      cases hlt : letterB (r[0]?.getD 0) with
      | true =>
        rw [hlt, cond_true] at h
        cases htg : tagS r with
        | none => rw [htg] at h; cases h
        | some q =>
          rw [htg] at h
          rcases List.mem_cons.1 h with rfl | h
          · exact .inr ⟨.inl rfl, tagN_pos hlt, zow (by omega), rfl, tagL_ok _ _ _ _ attrs_nil (by omega) htg, fun e => by cases e⟩
          · cases hraw : isRawB (tagN r) with
            | true =>
              rw [hraw, cond_true] at h
              rcases List.mem_append.1 h with h | h
              · split at h
                · cases h
                · rename_i h0
                  rw [List.mem_singleton] at h
                  subst h
                  refine .inl ⟨rfl, fun e => ?_, (by
                    have u2 := zi1 (q.2.2.take (rawS (tagN r) q.2.2))
                    have u3 := zm4 htg
                    have u4 : (q.2.2.take (rawS (tagN r) q.2.2)).length ≤ q.2.2.length := by rw [List.length_take]; omega
                    show (textOf (q.2.2.take (rawS (tagN r) q.2.2))).size ≤ _
                    omega), rfl, rfl, rfl⟩
                  have hle := zrl (tagN r) q.2.2
                  have := zm3 (xs := q.2.2.take (rawS (tagN r) q.2.2)) (fun e2 => by have := congrArg List.length e2; rw [List.length_take, List.length_nil] at this; omega)
                  rw [show textOf (q.2.2.take (rawS (tagN r) q.2.2)) = bs [] from e, zha] at this
                  simp at this
              · have := zm4 htg
                exact zmu k _ (by simp; omega) t h
            | false =>
              rw [hraw, cond_false] at h
              have := zm4 htg
              exact zmu k _ (by omega) t h
      | false =>
        rw [hlt, cond_false] at h
        cases h47 : decide (r[0]?.getD 0 = 47) && letterB (r.tail[0]?.getD 0) with
        | true =>
          rw [h47, cond_true] at h
          rw [Bool.and_eq_true] at h47
          cases htg : tagS r.tail with
          | none => rw [htg] at h; cases h
          | some q =>
            rw [htg] at h
            rcases List.mem_cons.1 h with rfl | h
            · exact .inr ⟨.inr rfl, tagN_pos h47.2, zow (by omega), rfl, attrs_nil, fun _ => ⟨rfl, rfl⟩⟩
            · have := zm4 htg
              exact zmu k _ (by omega) t h
        | false =>
          rw [h47, cond_false] at h
          cases hc : ([60, 33, 45, 45] : List Int).isPrefixOf (x :: r) with
          | true => rw [hc, cond_true] at h; exact zmu k _ (by have := zlp [45, 45, 62] ((x :: r).drop 4); rw [List.length_drop, List.length_cons] at this; omega) t h
          | false =>
            rw [hc, cond_false] at h
            have hsk := zlp [62] r
            have hx := zpv hbg
            subst hx
            rw [skipS, show ([62] : List Int).isPrefixOf (60 :: r) = false from by simp [List.isPrefixOf], cond_false] at h
            exact zmu k _ (by omega) t h
end Go.Proofs.Ytklcdfnhdljkjaa
namespace Go.Sl
set_option linter.unusedVariables false
set_option linter.unusedSimpArgs false
def byL (s : ByteArray) : List Nat := s.data.toList.map (·.toNat)
theorem zkp (s : ByteArray) : (byL s).length = s.size := by rw [byL, List.length_map]; rfl
def contL (l : List Nat) (k : Nat) : Bool := match l[k]? with
  | some b => b / 64 == 2
  | none => false
def decL (l : List Nat) : Nat × Nat :=
  let b0 := l.getD 0 0
  if b0 < 128 then (b0, 1)
  else if b0 / 32 == 6 && contL l 1 then
    let c := (b0 % 32) * 64 + l.getD 1 0 % 64
    if c ≥ 128 then (c, 2) else (65533, 1)
  else if b0 / 16 == 14 && contL l 1 && contL l 2 then
    let c := (b0 % 16) * 4096 + (l.getD 1 0 % 64) * 64 + l.getD 2 0 % 64
    if c ≥ 2048 && Utf8.valid c then (c, 3) else (65533, 1)
  else if b0 / 8 == 30 && contL l 1 && contL l 2 && contL l 3 then
    let c := (b0 % 8) * 262144 + (l.getD 1 0 % 64) * 4096 + (l.getD 2 0 % 64) * 64 + l.getD 3 0 % 64
    if c ≥ 65536 && Utf8.valid c then (c, 4) else (65533, 1)
  else (65533, 1)
theorem get_byL (s : ByteArray) (i : Nat) : (s.get! i).toNat = (byL s).getD i 0 := by
  obtain ⟨d⟩ := s
  show (d[i]!).toNat = (d.toList.map (·.toNat)).getD i 0
  rw [List.getD_eq_getElem?_getD, List.getElem?_map]
  by_cases h : i < d.size
  · rw [getElem!_pos d i h, Array.getElem?_toList, Array.getElem?_eq_getElem h]; rfl
  · rw [getElem!_neg d i h, Array.getElem?_toList, Array.getElem?_eq_none (by omega)]; rfl
theorem decode_list (s : ByteArray) (i : Nat) : Utf8.decode s i = decL ((byL s).drop i) := by
  have g : ∀ k, (s.get! (i + k)).toNat = ((byL s).drop i).getD k 0 := fun k => by
    rw [get_byL, List.getD_eq_getElem?_getD, List.getD_eq_getElem?_getD, List.getElem?_drop]
  have c : ∀ k, (decide (i + k < s.size) && ((byL s).drop i).getD k 0 / 64 == 2) = contL ((byL s).drop i) k := fun k => by
    rw [contL, List.getD_eq_getElem?_getD, List.getElem?_drop]
    by_cases h : i + k < s.size
    · have h' : i + k < (byL s).length := by rw [zkp]; exact h
      rw [List.getElem?_eq_getElem h']
      simp [h]
    · have h' : (byL s).length ≤ i + k := by rw [zkp]; omega
      rw [List.getElem?_eq_none h']
      simp [h]
  simp only [Utf8.decode, decL, g, Utf8.runeError, c]
def runesL : Nat → List Nat → List Int
  | 0, _ => []
  | _ + 1, [] => []
  | m + 1, b :: l => ((decL (b :: l)).1 : Int) :: runesL m ((b :: l).drop (decL (b :: l)).2)
theorem zof (s : ByteArray) : ∀ (m i : Nat), runesFr s m i = runesL m ((byL s).drop i)
  | 0, i => rfl
  | m + 1, i => by
    simp only [runesFr]
    cases e : (byL s).drop i with
    | nil =>
      have : s.size ≤ i := by rw [← zkp]; exact List.drop_eq_nil_iff.1 e
      rw [if_neg (by omega)]; rfl
    | cons b l =>
      have : i < s.size := by
        rw [← zkp]
        apply Nat.lt_of_not_le
        intro h
        rw [List.drop_eq_nil_iff.2 h] at e; cases e
      rw [if_pos this, zof s m, decode_list, e]
      simp only [runesL]
      rw [← e, List.drop_drop]
def runesS (l : List Nat) : List Int := runesL l.length l
theorem zi7 (s : ByteArray) : runesIn s = runesS (byL s) := by rw [runesIn, zof, runesS, zkp]; rfl
theorem zo9 (l : List Nat) : 1 ≤ (decL l).2 := by
  simp only [decL]
  repeat' split
  all_goals simp
theorem zp8 : ∀ (m k : Nat) (l : List Nat), l.length ≤ m → runesL (m + k) l = runesL m l
  | 0, k, l, h => by
    have : l = [] := List.eq_nil_of_length_eq_zero (by omega)
    subst this
    cases k <;> rfl
  | m + 1, k, [], h => by rw [show m + 1 + k = (m + k) + 1 by omega]; rfl
  | m + 1, k, b :: l, h => by
    rw [show m + 1 + k = (m + k) + 1 by omega]
    simp only [runesL]
    rw [zp8 m k _ (by have := zo9 (b :: l); simp at h ⊢; omega)]
theorem zrd {m : Nat} {l : List Nat} (h : l.length ≤ m) : runesL m l = runesS l := by
  have := zp8 l.length (m - l.length) l (Nat.le_refl _)
  rwa [show l.length + (m - l.length) = m by omega] at this
theorem runesS_nil : runesS [] = [] := rfl
theorem zkt (b : Nat) (l : List Nat) : runesS (b :: l) = ((decL (b :: l)).1 : Int) :: runesS ((b :: l).drop (decL (b :: l)).2) := by
  have := zo9 (b :: l)
  rw [runesS, List.length_cons, runesL, zrd (by simp; omega)]
def fresh (t : List Nat) : Prop := contL t 0 = false
theorem decL_append : ∀ (l t : List Nat), l ≠ [] → fresh t → decL (l ++ t) = decL l ∧ (decL l).2 ≤ l.length := by
  intro l t hl ht
  unfold fresh at ht
  match l, hl with
  | [b0], _ =>
    have h1 : contL ([b0] ++ t) 1 = false := by simpa [contL] using ht
    have h2 : contL [b0] 1 = false := by simp [contL]
    simp only [decL, h1, h2, Bool.and_false, Bool.false_and]
    simp
    split <;> simp
  | [b0, b1], _ =>
    have h1 : contL ([b0, b1] ++ t) 2 = false := by simpa [contL] using ht
    have h2 : contL [b0, b1] 2 = false := by simp [contL]
    have h3 : contL ([b0, b1] ++ t) 1 = contL [b0, b1] 1 := by simp [contL]
    simp only [decL, h1, h2, h3, Bool.and_false, Bool.false_and]
    simp
    repeat' split
    all_goals simp
  | [b0, b1, b2], _ =>
    have h1 : contL ([b0, b1, b2] ++ t) 3 = false := by simpa [contL] using ht
    have h2 : contL [b0, b1, b2] 3 = false := by simp [contL]
    have h3 : contL ([b0, b1, b2] ++ t) 1 = contL [b0, b1, b2] 1 := by simp [contL]
    have h4 : contL ([b0, b1, b2] ++ t) 2 = contL [b0, b1, b2] 2 := by simp [contL]
    simp only [decL, h1, h2, h3, h4, Bool.and_false]
    simp
    repeat' split
    all_goals simp
  | b0 :: b1 :: b2 :: b3 :: l, _ =>
    have h3 : contL ((b0 :: b1 :: b2 :: b3 :: l) ++ t) 1 = contL (b0 :: b1 :: b2 :: b3 :: l) 1 := by simp [contL]
    have h4 : contL ((b0 :: b1 :: b2 :: b3 :: l) ++ t) 2 = contL (b0 :: b1 :: b2 :: b3 :: l) 2 := by simp [contL]
    have h5 : contL ((b0 :: b1 :: b2 :: b3 :: l) ++ t) 3 = contL (b0 :: b1 :: b2 :: b3 :: l) 3 := by simp [contL]
    simp only [decL, h3, h4, h5]
    simp
    repeat' split
    all_goals simp
    all_goals omega
theorem zne {t : List Nat} (ht : fresh t) : ∀ (m : Nat) (l : List Nat), l.length ≤ m → runesS (l ++ t) = runesS l ++ runesS t
  | _, [], _ => by simp [runesS_nil]
  | 0, _ :: _, h => by simp at h
  | m + 1, b :: l, h => by
    obtain ⟨h1, h2⟩ := decL_append (b :: l) t (by simp) ht
    have h3 := zo9 (b :: l)
    rw [List.cons_append, zkt, zkt, ← List.cons_append, h1, List.drop_append_of_le_length h2, zne ht m _ (by simp at h ⊢; omega)]
    rfl
theorem zoe {b : Nat} (h : b < 128) (t : List Nat) : runesS (b :: t) = (b : Int) :: runesS t := by
  have : decL (b :: t) = (b, 1) := by simp [decL, h]
  rw [zkt, this]
  rfl
theorem zq2 {b : Nat} (h : b < 128) (l t : List Nat) : runesS (l ++ b :: t) = runesS l ++ (b : Int) :: runesS t := by
  rw [zne (by simp [fresh, contL]; omega) l.length l (Nat.le_refl _), zoe h]
def encL (c : Nat) : List Nat :=
  if c < 128 then [c]
  else if c < 2048 then [192 + c / 64, 128 + c % 64]
  else if c < 65536 then [224 + c / 4096, 128 + c / 64 % 64, 128 + c % 64]
  else [240 + c / 262144, 128 + c / 4096 % 64, 128 + c / 64 % 64, 128 + c % 64]
theorem byL_encode {c : Nat} (h : Utf8.valid c = true) : byL (Utf8.encode c) = encL c := by
  have hc : c ≤ 1114111 := by simp [Utf8.valid] at h; omega
  have key : ∀ n, n < 256 → (UInt8.ofNat n).toNat = n := fun n hn => by simp; omega
  simp only [Utf8.encode, h, if_true, Int.toNat_natCast, encL]
  split
  · rw [byL]; simp only [List.map_cons, List.map_nil]; rw [key _ (by omega)]
  · split
    · rw [byL]; simp only [List.map_cons, List.map_nil]; rw [key _ (by omega), key _ (by omega)]
    · split
      · rw [byL]; simp only [List.map_cons, List.map_nil]; rw [key _ (by omega), key _ (by omega), key _ (by omega)]
      · rw [byL]; simp only [List.map_cons, List.map_nil]; rw [key _ (by omega), key _ (by omega), key _ (by omega), key _ (by omega)]
theorem decL_encL {c : Nat} (h : Utf8.valid c = true) (t : List Nat) : decL (encL c ++ t) = (c, (encL c).length) := by
  have hc : c ≤ 1114111 := by simp [Utf8.valid] at h; omega
  unfold encL
  split
  · rename_i h1
    simp [decL, h1]
  · split
    · rename_i h1 h2
      simp only [decL, contL, List.cons_append, List.nil_append, List.getD_cons_zero, List.getD_cons_succ, List.getElem?_cons_succ, List.getElem?_cons_zero]
      rw [if_neg (by omega), if_pos (by simp; omega)]
      rw [show (192 + c / 64) % 32 * 64 + (128 + c % 64) % 64 = c by omega, if_pos (by omega)]
      rfl
    · split
      · rename_i h1 h2 h3
        simp only [decL, contL, List.cons_append, List.nil_append, List.getD_cons_zero, List.getD_cons_succ, List.getElem?_cons_succ, List.getElem?_cons_zero]
        rw [if_neg (by omega), if_neg (by simp; omega), if_pos (by simp; omega)]
        rw [show (224 + c / 4096) % 16 * 4096 + (128 + c / 64 % 64) % 64 * 64 + (128 + c % 64) % 64 = c by omega, if_pos (by simp [h]; omega)]
        rfl
      · rename_i h1 h2 h3
        simp only [decL, contL, List.cons_append, List.nil_append, List.getD_cons_zero, List.getD_cons_succ, List.getElem?_cons_succ, List.getElem?_cons_zero]
        rw [if_neg (by omega), if_neg (by simp; omega), if_neg (by simp; omega), if_pos (by simp; omega)]
        rw [show (240 + c / 262144) % 8 * 262144 + (128 + c / 4096 % 64) % 64 * 4096 + (128 + c / 64 % 64) % 64 * 64 + (128 + c % 64) % 64 = c by omega, if_pos (by simp [h]; omega)]
        rfl
theorem byL_append (s t : ByteArray) : byL (s ++ t) = byL s ++ byL t := by simp [byL]
theorem byL_fold : ∀ (xs : List Int) (s : ByteArray), (∀ x ∈ xs, Utf8.valid x = true) → byL (xs.foldl (fun s r => s ++ Utf8.encode r) s) = byL s ++ xs.flatMap fun x => encL x.toNat
  | [], s, _ => by simp
  | x :: xs, s, h => by
    have hx := h x (by simp)
    obtain ⟨c, rfl⟩ : ∃ c : Nat, x = c := ⟨x.toNat, by simp [Utf8.valid] at hx; omega⟩
    rw [List.foldl_cons, byL_fold xs _ (fun y hy => h y (by simp [hy])), byL_append, byL_encode hx]
    simp
theorem encL_ne (c : Nat) : encL c ≠ [] := by unfold encL; repeat' split
                                              all_goals simp
theorem zmm : ∀ (xs : List Int), (∀ x ∈ xs, Utf8.valid x = true) → runesS (xs.flatMap fun x => encL x.toNat) = xs
  | [], _ => rfl
  | x :: xs, h => by
    have hx := h x (by simp)
    obtain ⟨c, rfl⟩ : ∃ c : Nat, x = c := ⟨x.toNat, by simp [Utf8.valid] at hx; omega⟩
    have hd := decL_encL hx (xs.flatMap fun x => encL x.toNat)
    rw [List.flatMap_cons, Int.toNat_natCast]
    obtain ⟨b, l, e⟩ : ∃ b l, encL c = b :: l := by
      cases e : encL c with
      | nil => exact absurd e (encL_ne c)
      | cons b l => exact ⟨b, l, rfl⟩
    rw [e] at hd ⊢
    rw [List.cons_append] at hd ⊢
    rw [zkt, hd, ← List.cons_append, List.drop_left' rfl, zmm xs (fun y hy => h y (by simp [hy]))]
theorem zq3 {xs : List Int} (h : ∀ x ∈ xs, Utf8.valid x = true) : runesIn (textOf xs) = xs := by
  rw [zi7, textOf, byL_fold xs _ h]
  exact zmm xs h
end Go.Sl
namespace Go.Proofs.Ytklcdfnhdljkjaa
set_option linter.unusedVariables false
set_option linter.unusedSimpArgs false
open Go.RowKit Go.Sl
variable {n : Nat}
theorem zp7 {l : List UInt8} (h : l.length ≤ 1000000) : runesM (bs l) = some (runesIn (bs l)) := by
  unfold runesM
  rw [decide_eq_true (by rw [zha]; omega)]; rfl
theorem byL_bs (l : List UInt8) : byL (bs l) = l.map (·.toNat) := by simp [byL]
theorem zd6 {b : UInt8} (h : b.toNat < 128) (l : List UInt8) : runesIn (bs (b :: l)) = (b.toNat : Int) :: runesIn (bs l) := by
  rw [zi7, zi7, byL_bs, byL_bs, List.map_cons, zoe h]
theorem zrc {b : UInt8} (h : b.toNat < 128) (l t : List UInt8) : runesIn (bs (l ++ b :: t)) = runesIn (bs l) ++ (b.toNat : Int) :: runesIn (bs t) := by
  rw [zi7, zi7, zi7, byL_bs, byL_bs, byL_bs, List.map_append, List.map_cons, zq2 h]
theorem begins_ne {x : Int} (h : x ≠ 60) (r : List Int) : beginsB (x :: r) = false := by
  unfold beginsB
  split
  · rename_i e; injection e with e _; exact absurd e h
  · rfl
theorem zna : ∀ (xs r : List Int), (∀ x ∈ xs, x ≠ 60) → textRun (xs ++ r) = (xs ++ (textRun r).1, (textRun r).2)
  | [], r, _ => rfl
  | x :: xs, r, h => by
    rw [List.cons_append, textRun, begins_ne (h x (by simp)), cond_false, zna xs r fun y hy => h y (by simp [hy])]
    rfl
theorem tokS_text {x : Int} {xs r : List Int} (k : Nat) (h : ∀ y ∈ x :: xs, y ≠ 60) (hr : textRun r = ([], r)) : tokS (k + 1) (x :: xs ++ r) = textTok (ub (textOf (x :: xs))) :: tokS k r := by
  rw [List.cons_append, tokS, begins_ne (h x (by simp)), Bool.not_false, cond_true, ← List.cons_append, zna _ _ h, hr, List.append_nil]
end Go.Proofs.Ytklcdfnhdljkjaa
