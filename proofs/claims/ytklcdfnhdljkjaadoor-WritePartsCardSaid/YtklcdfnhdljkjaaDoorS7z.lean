/-
  Walks and laws of this seat; the base is the text Base.
-/
import Derived.Test.YtklcdfnhdljkjaaDoorS7y
import Derived.Test.YtklcdfnhdljkjaaDoorRows
import Derived.Test.YtklcdfnhdljkjaaDoorBasg
namespace Go.Proofs.YtklcdfnhdljkjaaDoor
open Go.RowKit Go.Sl
/-! The texts that Escape hands over. -/
def escT (q : Bool) : Nat := if q then 7 else 6
def escN (q : Bool) : List Int := (numB (escT q) (markL (escL q) ((escL q).length / 2)) 256).1
def escM (q : Bool) (p : Nat) : Nat := (if q then [2, 3, 4, 6, 0, 1] else [1, 2, 3, 5, 0]).getD p 0
set_option maxRecDepth 100000
theorem esc_nu (q : Bool) : ∀ p, p < 6 → 2 * p < (escL q).length → ∃ key c, (escL q)[2 * p]? = some key ∧ key ≠ bs [] ∧ 1 ≤ key.size ∧ getS key 0 = some ((c : Nat) : Int) ∧ c < 256 ∧ (escN q)[c]? = some (escM q p : Int) ∧ escM q p < escT q := by
  intro p hp h
  have h0 : (escN true)[38]? = some 2 ∧ (escN true)[60]? = some 3 ∧ (escN true)[62]? = some 4 ∧ (escN true)[194]? = some 6 ∧ (escN true)[13]? = some 0 ∧ (escN true)[34]? = some 1 := by decide +kernel
  have h1 : (escN false)[38]? = some 1 ∧ (escN false)[60]? = some 2 ∧ (escN false)[62]? = some 3 ∧ (escN false)[194]? = some 5 ∧ (escN false)[13]? = some 0 := by decide +kernel
  cases q with
  | true =>
    match p, hp with
    | 0, _ => exact ⟨bs [38], 38, rfl, by decide, by decide, by decide +kernel, by decide, h0.1, by decide⟩
    | 1, _ => exact ⟨bs [60], 60, rfl, by decide, by decide, by decide +kernel, by decide, h0.2.1, by decide⟩
    | 2, _ => exact ⟨bs [62], 62, rfl, by decide, by decide, by decide +kernel, by decide, h0.2.2.1, by decide⟩
    | 3, _ => exact ⟨bs [194, 160], 194, rfl, by decide, by decide, by decide +kernel, by decide, h0.2.2.2.1, by decide⟩
    | 4, _ => exact ⟨bs [13], 13, rfl, by decide, by decide, by decide +kernel, by decide, h0.2.2.2.2.1, by decide⟩
    | 5, _ => exact ⟨bs [34], 34, rfl, by decide, by decide, by decide +kernel, by decide, h0.2.2.2.2.2, by decide⟩
  | false =>
    match p, hp with
    | 0, _ => exact ⟨bs [38], 38, rfl, by decide, by decide, by decide +kernel, by decide, h1.1, by decide⟩
    | 1, _ => exact ⟨bs [60], 60, rfl, by decide, by decide, by decide +kernel, by decide, h1.2.1, by decide⟩
    | 2, _ => exact ⟨bs [62], 62, rfl, by decide, by decide, by decide +kernel, by decide, h1.2.2.1, by decide⟩
    | 3, _ => exact ⟨bs [194, 160], 194, rfl, by decide, by decide, by decide +kernel, by decide, h1.2.2.2.1, by decide⟩
    | 4, _ => exact ⟨bs [13], 13, rfl, by decide, by decide, by decide +kernel, by decide, h1.2.2.2.2, by decide⟩
    | 5, _ => exact absurd h (by decide)
theorem escL_len (q : Bool) : (escL q).length ≤ 12 := by cases q <;> decide
theorem esc_ok (q : Bool) : TexOK (escL q) (escM q) (escT q) (escN q) where
  len := Nat.le_trans (escL_len q) (by decide)
  len8 := by cases q <;> decide
  sz := by cases q <;> decide
  ev := by cases q <;> decide
  T0 := by cases q <;> decide +kernel
  T1 := by cases q <;> decide
  N0 := rfl
  nu := fun p h => esc_nu q p (by have := escL_len q; omega) h
  inj := by
    intro p r hpr hr
    have hl := escL_len q
    have : ∀ q : Bool, ∀ r, r < 6 → ∀ p, p < r → 2 * r < (escL q).length → escM q p ≠ escM q r := by decide
    exact this q r (by omega) p hpr hr
  k3 := by
    intro k hk
    have : (escL q)[2 * k]? = some (([bs [38], bs [60], bs [62]] : List ByteArray)[k]) := by
      match k, hk with
      | 0, _ => cases q <;> rfl
      | 1, _ => cases q <;> rfl
      | 2, _ => cases q <;> rfl
    refine ⟨_, this, ?_⟩
    match k, hk with
    | 0, _ => rfl
    | 1, _ => rfl
    | 2, _ => rfl
  k6 := ⟨bs [194, 160], by cases q <;> rfl, by decide⟩
end Go.Proofs.YtklcdfnhdljkjaaDoor
namespace Go.Proofs.YtklcdfnhdljkjaaDoor
open Go.RowKit Go.Sl
theorem y_assertM {P : Program} {C : World → Prop} {n : Nat} {E : List (Nat × Value)} {d : Option Tmp} {ty : TypeId} {pos : String} {af : Array Edge} {g : Option (Nat × Bool)} {v : Value} {t t' u : TypeId} {x : Operand} {ms : Array (String × TypeId)} (hx : opv E x = some (.iface u v)) (ht : P.underlying t' = some (.interface ms)) (hm : (P.info? u).map (fun it => Instr.missingMethod ms it.methods) = some none) :
    Y P C n E ⟨d, .typeAssert x t t' true, ty, pos, af, g⟩ (.tuple #[.iface u v, .bool true]) := by
  obtain ⟨it, h1, h2⟩ := Option.map_eq_some_iff.1 hm
  exact y_assert hx ht h1 h2
set_option maxRecDepth 20000 in
set_option maxHeartbeats 8000000 in
theorem gsw_ok {f : Fz} {v : Value} : Gives Tryd.prog 105 [.iface 161 v] f (.iface 161 v) := by
  intro w0 L w hC
  refine enter Tryd.func105 rfl Tryd.ntmps105 (by simp) hC fun a hs => ?_
  refine W_seq fun K1 hK1 => ?_
  refine W_region ?_
  refine sy hs (y_assign rfl) ?_; clear hs; (try clear a w); intro a w hs
  refine RL_nil ?_
  refine hK1 _ _ ?_; clear hK1
  refine W_seq fun K2 hK2 => ?_
  refine W_region ?_
  refine sy hs (y_move rfl) ?_; clear hs; (try clear a w); intro a w hs
  refine sy hs (y_assertM rfl Tryd.underlying165 (by kernel_rfl)) ?_; clear hs; (try clear a w); intro a w hs
  refine sy hs (y_move rfl) ?_; clear hs; (try clear a w); intro a w hs
  refine sy hs (y_extract rfl rfl) ?_; clear hs; (try clear a w); intro a w hs
  refine sy hs (y_extract rfl rfl) ?_; clear hs; (try clear a w); intro a w hs
  refine sy hs (y_assign rfl) ?_; clear hs; (try clear a w); intro a w hs
  refine sy hs (y_assign rfl) ?_; clear hs; (try clear a w); intro a w hs
  refine RL_nil ?_
  refine hK2 _ _ ?_; clear hK2
  refine W_seq fun K3 hK3 => ?_
  refine W_seq fun K4 hK4 => ?_
  refine W_region ?_
  refine sy hs (y_move rfl) ?_; clear hs; (try clear a w); intro a w hs
  refine sy hs (y_not rfl) ?_; clear hs; (try clear a w); intro a w hs
  refine RL_nil ?_
  refine hK4 _ _ ?_; clear hK4
  refine W_condF hs rfl ?_
  refine W_skip ?_
  refine hK3 _ _ ?_; clear hK3
  refine W_seq fun K5 hK5 => ?_
  refine W_region ?_
  refine sy hs (y_move rfl) ?_; clear hs; (try clear a w); intro a w hs
  refine sy hs (y_assign rfl) ?_; clear hs; (try clear a w); intro a w hs
  refine RL_nil ?_
  refine hK5 _ _ ?_; clear hK5
  refine W_ret ?_
  refine Rt_1 hs rfl rfl ?_
  exact ⟨rfl, hs.cw⟩
set_option maxRecDepth 20000 in
set_option maxHeartbeats 8000000 in
theorem aws_ok {f : Fz} {wb : Nat} {v : Value} {rows : List (List Value)} {s : ByteArray} {e : TypeId} (hb : rows.length + s.size ≤ 140737488355328) :
    Does Tryd.prog 116 [.pointer (some ⟨wb, 0, none⟩), .string s] f [.blk wb (.cells #[v] e (0, 0)), .row v 5 1 rows] (fun r f' L' => f' = f ∧ r = .tuple #[.int .i64 s.size, .nilIface] ∧ ∃ v', L' = [.blk wb (.cells #[v'] e (0, 0)), .row v' 5 1 (rows ++ (bytesIn s).map fun x => [Value.int .u8 x])]) := by
  intro w0 L w hC
  replace hC : Cw w0 f (.blk wb (.cells #[v] e (0, 0)) :: .row v 5 1 rows :: L) w := hC
  refine enter Tryd.func116 rfl Tryd.ntmps116 (by simp) hC fun a hs => ?_
  refine W_seq fun K1 hK1 => ?_
  refine W_region ?_
  refine sy hs (y_assign rfl) ?_; clear hs; (try clear a w); intro a w hs
  refine sy hs (y_assign rfl) ?_; clear hs; (try clear a w); intro a w hs
  refine RL_nil ?_
  refine hK1 _ _ ?_; clear hK1
  refine W_seq fun K2 hK2 => ?_
  refine W_region ?_
  refine sy hs (y_move rfl) ?_; clear hs; (try clear a w); intro a w hs
  refine sy hs (y_move rfl) ?_; clear hs; (try clear a w); intro a w hs
  first | (refine sy hs (y_nilCheck rfl) ?_; clear hs; (try clear a w); intro a w hs) | (refine sy hs (y_nilE rfl) ?_; clear hs; (try clear a w); intro a w hs)
  first | (refine sy hs (y_ld rfl Tryd.underlying160 rfl) ?_; clear hs; (try clear a w); intro a w hs) | (refine sy hs (y_ldE rfl Tryd.underlying160 rfl) ?_; clear hs; (try clear a w); intro a w hs)
  refine sy hs (y_move rfl) ?_; clear hs; (try clear a w); intro a w hs
  refine RL_appStr 1 hs rfl rfl rfl Tryd.underlying160 Tryd.underlying9 ti5 rfl ⟨by simp only [maxLen]; omega, by omega⟩ ?_; clear hs; (try clear a w); intro v2 a w hs
  have hv2 := hs.one (i := 1) rfl
  first | (refine sy hs (y_nilCheck rfl) ?_; clear hs; (try clear a w); intro a w hs) | (refine sy hs (y_nilE rfl) ?_; clear hs; (try clear a w); intro a w hs)
  refine RL_storeBlk (i := 0) (o := 0) hs rfl rfl rfl ti160 hv2 (by simp) rfl (.free rfl) ?_; clear hs; (try clear a w); intro a w hs
  refine RL_nil ?_
  refine hK2 _ _ ?_; clear hK2
  refine W_seq fun K3 hK3 => ?_
  refine W_region ?_
  refine sy hs (y_move rfl) ?_; clear hs; (try clear a w); intro a w hs
  refine sy hs (y_lenS rfl Tryd.underlying9) ?_; clear hs; (try clear a w); intro a w hs
  refine sy hs (y_assign rfl) ?_; clear hs; (try clear a w); intro a w hs
  refine sy hs (y_assign rfl) ?_; clear hs; (try clear a w); intro a w hs
  refine RL_nil ?_
  refine hK3 _ _ ?_; clear hK3
  refine W_ret ?_
  refine Rt_2 hs rfl rfl rfl ?_
  exact ⟨_, f, [_, _], rfl, .refl _, hs.cw, rfl, rfl, v2, rfl⟩
end Go.Proofs.YtklcdfnhdljkjaaDoor
namespace Go.Proofs.YtklcdfnhdljkjaaDoor
open Go.RowKit Go.Sl
/-! What Escape makes of bytes. -/
/-- What stands for one byte. -/
def oneB (q : Bool) (c : Int) : List Int :=
  if c = 38 then [38, 97, 109, 112, 59] else if c = 60 then [38, 108, 116, 59] else if c = 62 then [38, 103, 116, 59] else if c = 13 then [38, 35, 49, 51, 59] else if c = 34 ∧ q = true then [38, 113, 117, 111, 116, 59] else [c]
/-- The same of a text; the flag: its first byte is done with. -/
def escA (q : Bool) : Bool → List Int → List Int
  | _, [] => []
  | true, _ :: r => escA q false r
  | false, c :: r => if c = 194 ∧ r.head? = some 160 then [38, 110, 98, 115, 112, 59] ++ escA q true r else oneB q c ++ escA q false r
theorem oneB_len (q : Bool) (c : Int) : (oneB q c).length ≤ 6 := by
  unfold oneB
  repeat' split
  all_goals simp
theorem escA_len (q : Bool) : ∀ (l : List Int) (b : Bool), (escA q b l).length ≤ 6 * l.length
  | [], b => by cases b <;> simp [escA]
  | c :: r, true => by
    have := escA_len q r false
    simp only [escA, List.length_cons]; omega
  | c :: r, false => by
    have h1 := escA_len q r false
    have h2 := escA_len q r true
    have h3 := oneB_len q c
    unfold escA
    split
    · simp only [List.length_append, List.length_cons, List.length_nil]; omega
    · simp only [List.length_append, List.length_cons]; omega
theorem escA_one (q : Bool) {c : Int} {r : List Int} (h : ¬(c = 194 ∧ r.head? = some 160)) : escA q false (c :: r) = oneB q c ++ escA q false r := by
  rw [escA, if_neg h]
theorem escA_two (q : Bool) (r : List Int) : escA q false (194 :: 160 :: r) = [38, 110, 98, 115, 112, 59] ++ escA q false r := by
  rw [escA, if_pos ⟨rfl, rfl⟩, escA]
def specB (q : Bool) : List Nat := [38, 60, 62, 194, 13] ++ (if q then [34] else [])
def fastB (q : Bool) (c : Nat) : Bool := match (escN q)[c]? with
  | some m => m == (escT q : Int) || decide (m < (escT q : Int)) && decide (0 ≤ m) && (List.range ((escL q).length / 2)).all fun p => (escM q p : Int) != m
  | none => false
set_option maxRecDepth 100000 in
theorem fast_all : ∀ q : Bool, ∀ c, c < 256 → c ∈ specB q ∨ fastB q c = true := by decide +kernel
theorem oneB_self {q : Bool} {c : Nat} (h : c ∉ specB q) : oneB q c = [(c : Int)] ∧ c ≠ 194 := by
  unfold specB at h
  simp only [List.mem_append, List.mem_cons, List.not_mem_nil, or_false, not_or] at h
  obtain ⟨⟨h1, h2, h3, h4, h5⟩, h6⟩ := h
  refine ⟨?_, h4⟩
  unfold oneB
  rw [if_neg (by omega), if_neg (by omega), if_neg (by omega), if_neg (by omega), if_neg]
  rintro ⟨e1, e2⟩
  subst e2
  exact h6 (by simp; omega)
/-- The byte c is handed on at once. -/
def FastOK (q : Bool) (c : Nat) : Prop := ∃ m : Nat, (escN q)[c]? = some (m : Int) ∧ (m = escT q ∨ m < escT q ∧ ∀ p, p < (escL q).length / 2 → escM q p ≠ m)
theorem fast_ok {q : Bool} {c : Nat} (h : fastB q c = true) : FastOK q c := by
  unfold fastB at h
  split at h
  · rename_i m hm
    simp only [Bool.or_eq_true, beq_iff_eq, Bool.and_eq_true, decide_eq_true_eq, List.all_eq_true, List.mem_range, bne_iff_ne] at h
    rcases h with h | ⟨⟨h1, h2⟩, h3⟩
    · exact ⟨escT q, by rw [hm, h], .inl rfl⟩
    · refine ⟨m.toNat, by rw [hm, Int.toNat_of_nonneg h2], .inr ⟨by omega, fun p hp e => h3 p hp ?_⟩⟩
      rw [e]; exact Int.toNat_of_nonneg h2
  · cases h
/-- A byte that begins a text: which, and what stands for it. -/
structure HitAt (q : Bool) (c : Nat) (p : Nat) (key val : ByteArray) : Prop where
  lt : 2 * p < (escL q).length
  kat : (escL q)[2 * p]? = some key
  vat : (escL q)[2 * p + 1]? = some val
  num : (escN q)[c]? = some (escM q p : Int)
  mT : escM q p < escT q
  is : (c ≠ 194 ∧ key = bs [UInt8.ofNat c] ∧ bytesIn val = oneB q c) ∨ (c = 194 ∧ key = bs [194, 160] ∧ bytesIn val = [38, 110, 98, 115, 112, 59] ∧ oneB q c = [194])
set_option maxRecDepth 100000 in
theorem hit_of {q : Bool} {c : Nat} (h : c ∈ specB q) : ∃ p key val, HitAt q c p key val := by
  have h0 : (escN true)[38]? = some 2 ∧ (escN true)[60]? = some 3 ∧ (escN true)[62]? = some 4 ∧ (escN true)[194]? = some 6 ∧ (escN true)[13]? = some 0 ∧ (escN true)[34]? = some 1 := by decide +kernel
  have h1 : (escN false)[38]? = some 1 ∧ (escN false)[60]? = some 2 ∧ (escN false)[62]? = some 3 ∧ (escN false)[194]? = some 5 ∧ (escN false)[13]? = some 0 := by decide +kernel
  cases q with
  | true =>
    simp only [specB, if_true, List.mem_append, List.mem_cons, List.not_mem_nil, or_false] at h
    rcases h with (rfl | rfl | rfl | rfl | rfl) | rfl
    · exact ⟨0, _, _, by decide, rfl, rfl, h0.1, by decide, .inl ⟨by decide, rfl, by decide +kernel⟩⟩
    · exact ⟨1, _, _, by decide, rfl, rfl, h0.2.1, by decide, .inl ⟨by decide, rfl, by decide +kernel⟩⟩
    · exact ⟨2, _, _, by decide, rfl, rfl, h0.2.2.1, by decide, .inl ⟨by decide, rfl, by decide +kernel⟩⟩
    · exact ⟨3, _, _, by decide, rfl, rfl, h0.2.2.2.1, by decide, .inr ⟨rfl, rfl, by decide +kernel, by decide⟩⟩
    · exact ⟨4, _, _, by decide, rfl, rfl, h0.2.2.2.2.1, by decide, .inl ⟨by decide, rfl, by decide +kernel⟩⟩
    · exact ⟨5, _, _, by decide, rfl, rfl, h0.2.2.2.2.2, by decide, .inl ⟨by decide, rfl, by decide +kernel⟩⟩
  | false =>
    simp only [specB, List.mem_append, List.mem_cons, List.not_mem_nil, or_false, Bool.false_eq_true, if_false] at h
    rcases h with rfl | rfl | rfl | rfl | rfl
    · exact ⟨0, _, _, by decide, rfl, rfl, h1.1, by decide, .inl ⟨by decide, rfl, by decide +kernel⟩⟩
    · exact ⟨1, _, _, by decide, rfl, rfl, h1.2.1, by decide, .inl ⟨by decide, rfl, by decide +kernel⟩⟩
    · exact ⟨2, _, _, by decide, rfl, rfl, h1.2.2.1, by decide, .inl ⟨by decide, rfl, by decide +kernel⟩⟩
    · exact ⟨3, _, _, by decide, rfl, rfl, h1.2.2.2.1, by decide, .inr ⟨rfl, rfl, by decide +kernel, by decide⟩⟩
    · exact ⟨4, _, _, by decide, rfl, rfl, h1.2.2.2.2, by decide, .inl ⟨by decide, rfl, by decide +kernel⟩⟩
end Go.Proofs.YtklcdfnhdljkjaaDoor
namespace Go.Proofs.YtklcdfnhdljkjaaDoor
open Go.RowKit Go.Sl
theorem Rt_3 {P : Program} {f : Fz} {L : List Ent} {w0 w : World} {n : Nat} {E : List (Nat × Value)} {a : Act} {fn : Func} {R : Ending → World → Prop} {t t2 t3 : Nat} {v v2 v3 : Value} (hs : St n w0 f L E a w) (hr : fn.results = #[.tmp t, .tmp t2, .tmp t3]) (hv : Sl.look E t = some v) (hv2 : Sl.look E t2 = some v2) (hv3 : Sl.look E t3 = some v3) (h : R (.returned (.tuple #[v, v2, v3])) w) : Rt P fn R a w :=
  RtV3 hs hr (rv_t hs hv) (rv_t hs hv2) (rv_t hs hv3) h
/-- Does a text begin so? -/
def pfx (s p : ByteArray) : Bool := decide (p.size ≤ s.size) && decide (s.extract 0 p.size = p)
theorem pfx_true {s p : ByteArray} (h : pfx s p = true) : p.size ≤ s.size ∧ s.extract 0 p.size = p := by simpa [pfx] using h
set_option maxRecDepth 20000 in
theorem spfx_ok {f : Fz} {s p : ByteArray} : Gives Tryd.prog 79 [.string s, .string p] f (.bool (pfx s p)) := by
  intro w0 L w hC
  refine enter Tryd.func79 rfl Tryd.ntmps79 (by simp) hC fun a hs => ?_
  refine W_seq fun K1 hK1 => ?_
  refine W_region ?_
  refine sy hs (y_assign rfl) ?_; clear hs; (try clear a w); intro a w hs
  refine RL_nil ?_
  refine hK1 _ _ ?_; clear hK1
  refine W_seq fun K2 hK2 => ?_
  refine W_region ?_
  refine sy hs (y_move rfl) ?_; clear hs; (try clear a w); intro a w hs
  refine sy hs (y_lenS rfl Tryd.underlying9) ?_; clear hs; (try clear a w); intro a w hs
  refine sy hs (y_move rfl) ?_; clear hs; (try clear a w); intro a w hs
  refine sy hs (y_lenS rfl Tryd.underlying9) ?_; clear hs; (try clear a w); intro a w hs
  refine sy hs (y_geq rfl rfl) ?_; clear hs; (try clear a w); intro a w hs
  refine sy hs (y_move rfl) ?_; clear hs; (try clear a w); intro a w hs
  first | refine St.splitP hs (t := 10) rfl (fun hle hq => ?_) (fun hle hq => ?_) | refine St.split hs (t := 10) rfl (fun hle hq => ?_) (fun hle hq => ?_)
  · clear hs; have hs := hq; clear hq
    have hle' : p.size ≤ s.size := by
      have : ((p.size : Nat) : Int) ≤ ((s.size : Nat) : Int) := by simpa using hle
      omega
    refine syg hs (y_move rfl) ?_; clear hs; (try clear a w); intro a w hs
    refine syg hs (y_move rfl) ?_; clear hs; (try clear a w); intro a w hs
    refine syg hs (y_lenS rfl Tryd.underlying9) ?_; clear hs; (try clear a w); intro a w hs
    refine syg hs (y_sliceSV (lo := 0) (hi := p.size) rfl rfl Tryd.underlying9 (.inl ⟨rfl, rfl⟩) (.inr ⟨_, rfl, rfl⟩) (Nat.zero_le _) hle') ?_; clear hs; (try clear a w); intro a w hs
    refine syg hs (y_move rfl) ?_; clear hs; (try clear a w); intro a w hs
    refine syg hs (y_seql rfl rfl) ?_; clear hs; (try clear a w); intro a w hs
    refine sy hs (y_pick rfl rfl) ?_; clear hs; (try clear a w); intro a w hs
    refine sy hs (y_assign rfl) ?_; clear hs; (try clear a w); intro a w hs
    refine RL_nil ?_
    refine hK2 _ _ ?_; clear hK2
    refine W_ret ?_
    refine Rt_1 hs rfl rfl ?_
    exact ⟨by rw [pfx, decide_eq_true hle', Bool.true_and], hs.cw⟩
  · clear hs; have hs := hq; clear hq
    have hle' : ¬ p.size ≤ s.size := by
      have : ¬ ((p.size : Nat) : Int) ≤ ((s.size : Nat) : Int) := by simpa using hle
      omega
    refine sno hs ?_; clear hs; (try clear a w); intro a w hs
    refine sno hs ?_; clear hs; (try clear a w); intro a w hs
    refine sno hs ?_; clear hs; (try clear a w); intro a w hs
    refine sno hs ?_; clear hs; (try clear a w); intro a w hs
    refine sno hs ?_; clear hs; (try clear a w); intro a w hs
    refine sno hs ?_; clear hs; (try clear a w); intro a w hs
    refine sy hs (y_pick rfl rfl) ?_; clear hs; (try clear a w); intro a w hs
    refine sy hs (y_assign rfl) ?_; clear hs; (try clear a w); intro a w hs
    refine RL_nil ?_
    refine hK2 _ _ ?_; clear hK2
    refine W_ret ?_
    refine Rt_1 hs rfl rfl ?_
    exact ⟨by rw [pfx, decide_eq_false hle', Bool.false_and], hs.cw⟩
set_option maxRecDepth 20000 in
theorem pfx_ok {f : Fz} {s p : ByteArray} : Gives Tryd.prog 70 [.string s, .string p] f (.bool (pfx s p)) := by
  intro w0 L w hC
  refine enter Tryd.func70 rfl Tryd.ntmps70 (by simp) hC fun a hs => ?_
  refine W_seq fun K1 hK1 => ?_
  refine W_region ?_
  refine sy hs (y_assign rfl) ?_; clear hs; (try clear a w); intro a w hs
  refine RL_nil ?_
  refine hK1 _ _ ?_; clear hK1
  refine W_seq fun K2 hK2 => ?_
  refine W_region ?_
  refine sy hs (y_move rfl) ?_; clear hs; (try clear a w); intro a w hs
  refine sy hs (y_move rfl) ?_; clear hs; (try clear a w); intro a w hs
  refine sy hs (y_call rfl has79 rfl spfx_ok) ?_; clear hs; (try clear a w); intro a w hs
  refine sy hs (y_assign rfl) ?_; clear hs; (try clear a w); intro a w hs
  refine RL_nil ?_
  refine hK2 _ _ ?_; clear hK2
  refine W_ret ?_
  refine Rt_1 hs rfl rfl ?_
  exact ⟨rfl, hs.cw⟩
end Go.Proofs.YtklcdfnhdljkjaaDoor
namespace Go.Proofs.YtklcdfnhdljkjaaDoor
open Go.RowKit Go.Sl
theorem pfx_nil {s : ByteArray} : pfx s (bs []) = true := by
  have : s.extract 0 0 = bs [] := by
    simp; rfl
  rw [pfx, show (bs []).size = 0 from rfl, this]; simp
abbrev leafA (val : ByteArray) (pr : Int) : Array Value := node val pr (bs []) (.pointer none) (.slice none 0 0)
/-- What lookup says of a text that begins with a byte of the table. -/
def lkV (s rest val : ByteArray) : Value := if pfx (s.extract 1 s.size) rest = true then .tuple #[.string val, .int .i64 (1 + (rest.size : Int)), .bool true] else .tuple #[.string (bs []), .int .i64 0, .bool false]
/-- Where lookup stands. -/
def Sta (LX : List Ent) (g n1 : Nat) (s rest val : ByteArray) (pr : Int) (k x : Nat) (s' : ByteArray) (nn : Int) : Prop :=
  (k = 0 ∧ x = g ∧ s' = s ∧ nn = 0) ∨
  (k = 1 ∧ x = n1 ∧ s' = s.extract 1 s.size ∧ nn = 1 ∧ rest ≠ bs [] ∧ ∃ n2, Ent.blk n1 (.cells (node (bs []) 0 rest (.pointer (some ⟨n2, 0, none⟩)) (.slice none 0 0)) 125 (0, 0)) ∈ LX ∧ Ent.blk n2 (.cells (leafA val pr) 125 (0, 0)) ∈ LX) ∨
  (k = 2 ∧ nn = 1 + (rest.size : Int) ∧ pfx (s.extract 1 s.size) rest = true ∧ Ent.blk x (.cells (leafA val pr) 125 (0, 0)) ∈ LX)
theorem not_pfx {rest : ByteArray} (h : rest ≠ bs []) : pfx (bs []) rest = false := by
  cases hp : pfx (bs []) rest with
  | false => rfl
  | true =>
    obtain ⟨h1, h2⟩ := pfx_true hp
    exact absurd (ByteArray.ext (Array.eq_empty_of_size_eq_zero (Nat.le_zero.1 h1))) h
set_option maxRecDepth 20000 in
theorem lookup_end {f : Fz} {LX : List Ent} {g : Nat} {tv : Value} {T : Nat} {N : List Int} {ig : Bool} (hg : Ent.blk g (.cells (gcA tv T N) 127 (0, 0)) ∈ LX) :
    GivesL Tryd.prog 106 [.pointer (some ⟨g, 0, none⟩), .string (bs []), .bool ig] f LX (.tuple #[.string (bs []), .int .i64 0, .bool false]) := by
  intro w0 L w hC
  have hgX : Ent.blk g (.cells (gcA tv T N) 127 (0, 0)) ∈ LX ++ L := List.mem_append_left _ hg
  refine enter Tryd.func106 rfl Tryd.ntmps106 (by simp) hC fun a hs => ?_
  refine W_seq fun K1 hK1 => ?_
  refine W_region ?_
  refine sy hs (y_assign rfl) ?_; clear hs; (try clear a w); intro a w hs
  refine sy hs (y_assign rfl) ?_; clear hs; (try clear a w); intro a w hs
  refine sy hs (y_assign rfl) ?_; clear hs; (try clear a w); intro a w hs
  refine RL_nil ?_
  refine hK1 _ _ ?_; clear hK1
  refine W_seq fun K2 hK2 => ?_
  refine W_region ?_
  refine sy hs (y_assign rfl) ?_; clear hs; (try clear a w); intro a w hs
  refine RL_nil ?_
  refine hK2 _ _ ?_; clear hK2
  refine W_seq fun K3 hK3 => ?_
  refine W_region ?_
  refine sy hs (y_move rfl) ?_; clear hs; (try clear a w); intro a w hs
  first | (refine sy hs (y_nilCheck rfl) ?_; clear hs; (try clear a w); intro a w hs) | (refine sy hs (y_nilE rfl) ?_; clear hs; (try clear a w); intro a w hs)
  first | (refine sy hs (y_fieldAddr rfl (FO.of (off := 0) Tryd.underlying127 rfl rfl ti125 (by decide))) ?_; clear hs; (try clear a w); intro a w hs) | (refine sy hs (y_faE rfl (FO.of (off := 0) Tryd.underlying127 rfl rfl ti125 (by decide))) ?_; clear hs; (try clear a w); intro a w hs)
  refine sy hs (y_assign rfl) ?_; clear hs; (try clear a w); intro a w hs
  refine RL_nil ?_
  refine hK3 _ _ ?_; clear hK3
  refine W_seq fun K4 hK4 => ?_
  refine W_region ?_
  refine sy hs (y_assign rfl) ?_; clear hs; (try clear a w); intro a w hs
  refine RL_nil ?_
  refine hK4 _ _ ?_; clear hK4
  refine W_seq fun K5 hK5 => ?_
  refine W_block fun Qe6 hB6 hO6 => ?_
  refine W_loop (fun (_ : Unit) a w => St 107 w0 f (LX ++ L) [(0, .pointer (some ⟨g, 0, none⟩)), (1, .string (bs [])), (6, .string (bs [])), (7, .int .i64 0), (8, .bool false), (9, .int .i64 0), (10, .pointer (some ⟨g, 0, none⟩))] a w) (fun _ => 0) () (hs.sub ⟨rfl, rfl, rfl, rfl, rfl, rfl, rfl, trivial⟩) ?_
  clear hs; rintro - a w hs K -
  refine W_seq fun K7 hK7 => ?_
  refine W_seq fun K8 hK8 => ?_
  refine W_region ?_
  refine sy hs (y_move rfl) ?_; clear hs; (try clear a w); intro a w hs
  refine sy hs (y_pnilN rfl rfl Tryd.underlying122) ?_; clear hs; (try clear a w); intro a w hs
  refine RL_nil ?_
  refine hK8 _ _ ?_; clear hK8
  refine W_condT hs rfl ?_
  refine W_skip ?_
  refine hK7 _ _ ?_; clear hK7
  refine W_block fun Qe9 hB9 hO9 => ?_
  refine W_seq fun K10 hK10 => ?_
  refine W_seq fun K11 hK11 => ?_
  refine W_region ?_
  refine sy hs (y_move rfl) ?_; clear hs; (try clear a w); intro a w hs
  first | (refine sy hs (y_nilCheck rfl) ?_; clear hs; (try clear a w); intro a w hs) | (refine sy hs (y_nilE rfl) ?_; clear hs; (try clear a w); intro a w hs)
  first | (refine sy hs (y_fieldAddr rfl (FO.of (off := 1) Tryd.underlying125 rfl rfl ti3 (by decide))) ?_; clear hs; (try clear a w); intro a w hs) | (refine sy hs (y_faE rfl (FO.of (off := 1) Tryd.underlying125 rfl rfl ti3 (by decide))) ?_; clear hs; (try clear a w); intro a w hs)
  refine sy hs (y_ld rfl Tryd.underlying3 rfl (Cell.blk hgX gcA_1)) ?_; clear hs; (try clear a w); intro a w hs
  refine sy hs (y_move rfl) ?_; clear hs; (try clear a w); intro a w hs
  refine sy hs (y_gtr rfl rfl) ?_; clear hs; (try clear a w); intro a w hs
  rw [show decide ((0 : Int) < 0) = false from rfl] at hs
  refine sy hs (y_move rfl) ?_; clear hs; (try clear a w); intro a w hs
  refine sno hs ?_; clear hs; (try clear a w); intro a w hs
  refine sno hs ?_; clear hs; (try clear a w); intro a w hs
  refine sun hs ?_; clear hs; (try clear a w); intro a w hs
  refine sun hs ?_; clear hs; (try clear a w); intro a w hs
  refine sun hs ?_; clear hs; (try clear a w); intro a w hs
  refine sun hs ?_; clear hs; (try clear a w); intro a w hs
  refine sun hs ?_; clear hs; (try clear a w); intro a w hs
  refine sno hs ?_; clear hs; (try clear a w); intro a w hs
  refine sno hs ?_; clear hs; (try clear a w); intro a w hs
  refine sy hs (y_pick rfl rfl) ?_; clear hs; (try clear a w); intro a w hs
  refine RL_nil ?_
  refine hK11 _ _ ?_; clear hK11
  refine W_condF hs rfl ?_
  refine W_skip ?_
  refine hK10 _ _ ?_; clear hK10
  refine W_seq fun K12 hK12 => ?_
  refine W_seq fun K13 hK13 => ?_
  refine W_region ?_
  refine sy hs (y_move rfl) ?_; clear hs; (try clear a w); intro a w hs
  refine sy hs (y_seql rfl rfl) ?_; clear hs; (try clear a w); intro a w hs
  refine RL_nil ?_
  refine hK13 _ _ ?_; clear hK13
  rw [decide_eq_true (show bs [] = ⟨#[]⟩ from rfl)] at hs
  refine W_condT hs rfl ?_
  refine W_exit ?_
  refine hO9 _ rfl _ _ ?_
  refine hB6 _ _ ?_
  refine hK5 _ _ ?_; clear hK5
  refine W_ret ?_
  refine Rt_3 hs rfl rfl rfl rfl ?_
  exact ⟨rfl, hs.cw⟩
set_option maxRecDepth 20000 in
set_option maxHeartbeats 8000000 in
theorem lookup_ok {f : Fz} {LX : List Ent} {g n1 : Nat} {tv : Value} {T : Nat} {N : List Int} {rows : List (List Value)} {s rest val : ByteArray} {c m : Nat} {pr : Int} (hg : Ent.blk g (.cells (gcA tv T N) 127 (0, 0)) ∈ LX) (hrw : Ent.row tv 122 1 rows ∈ LX) (hc : getS s 0 = some (c : Int)) (hc2 : c < 256) (hN : N[c]? = some (m : Int)) (hmT : m < T) (hT : T ≤ 256)
    (hr : rows[m]? = some [.pointer (some ⟨n1, 0, none⟩)]) (hA : NodeAt LX n1 rest val pr) (hpr : 0 < pr) (hsz : rest.size ≤ 1000000) :
    GivesL Tryd.prog 106 [.pointer (some ⟨g, 0, none⟩), .string s, .bool false] f LX (lkV s rest val) := by
  intro w0 L w hC
  have hgX : Ent.blk g (.cells (gcA tv T N) 127 (0, 0)) ∈ LX ++ L := List.mem_append_left _ hg
  have hrX : Ent.row tv 122 1 rows ∈ LX ++ L := List.mem_append_left _ hrw
  have hmr : m < rows.length := (List.getElem?_eq_some_iff.1 hr).1
  have hs1 : 1 ≤ s.size := by
    have := (getS_some hc).1
    omega
  have hs0 : ¬ s = ⟨#[]⟩ := fun h => by rw [h] at hs1; exact absurd hs1 (by decide)
  obtain ⟨ad, cap, htv⟩ : ∃ ad cap, tv = .slice (some ad) rows.length cap := by
    obtain ⟨ao, cap, h, _, hn, _⟩ := (Rd.ofOwn hrX hC).val
    cases ao with
    | none => rw [hn rfl] at hmr; simp at hmr
    | some ad => exact ⟨ad, cap, h⟩
  refine enter Tryd.func106 rfl Tryd.ntmps106 (by simp) hC fun a hs => ?_
  refine W_seq fun K1 hK1 => ?_
  refine W_region ?_
  refine sy hs (y_assign rfl) ?_; clear hs; (try clear a w); intro a w hs
  refine sy hs (y_assign rfl) ?_; clear hs; (try clear a w); intro a w hs
  refine sy hs (y_assign rfl) ?_; clear hs; (try clear a w); intro a w hs
  refine RL_nil ?_
  refine hK1 _ _ ?_; clear hK1
  refine W_seq fun K2 hK2 => ?_
  refine W_region ?_
  refine sy hs (y_assign rfl) ?_; clear hs; (try clear a w); intro a w hs
  refine RL_nil ?_
  refine hK2 _ _ ?_; clear hK2
  refine W_seq fun K3 hK3 => ?_
  refine W_region ?_
  refine sy hs (y_move rfl) ?_; clear hs; (try clear a w); intro a w hs
  first | (refine sy hs (y_nilCheck rfl) ?_; clear hs; (try clear a w); intro a w hs) | (refine sy hs (y_nilE rfl) ?_; clear hs; (try clear a w); intro a w hs)
  first | (refine sy hs (y_fieldAddr rfl (FO.of (off := 0) Tryd.underlying127 rfl rfl ti125 (by decide))) ?_; clear hs; (try clear a w); intro a w hs) | (refine sy hs (y_faE rfl (FO.of (off := 0) Tryd.underlying127 rfl rfl ti125 (by decide))) ?_; clear hs; (try clear a w); intro a w hs)
  refine sy hs (y_assign rfl) ?_; clear hs; (try clear a w); intro a w hs
  refine RL_nil ?_
  refine hK3 _ _ ?_; clear hK3
  refine W_seq fun K4 hK4 => ?_
  refine W_region ?_
  refine sy hs (y_assign rfl) ?_; clear hs; (try clear a w); intro a w hs
  refine RL_nil ?_
  refine hK4 _ _ ?_; clear hK4
  refine W_seq fun K5 hK5 => ?_
  refine W_block fun Qe6 hB6 hO6 => ?_
  refine W_loop (fun (k : Nat) a w => ∃ x s' nn, Sta LX g n1 s rest val pr k x s' nn ∧ St 107 w0 f (LX ++ L) [(0, .pointer (some ⟨g, 0, none⟩)), (1, .string s'), (2, .bool false), (6, .string (bs [])), (7, .int .i64 0), (8, .bool false), (9, .int .i64 0), (10, .pointer (some ⟨x, 0, none⟩)), (11, .int .i64 nn)] a w) (fun k => 3 - k) 0 ⟨_, _, _, .inl ⟨rfl, rfl, rfl, rfl⟩, hs.sub ⟨rfl, rfl, rfl, rfl, rfl, rfl, rfl, rfl, rfl, trivial⟩⟩ ?_
  clear hs; rintro k a w ⟨x, s', nn, hS, hs⟩ K hK
  by_cases hk0 : k = 0
  · obtain ⟨rfl, rfl, rfl⟩ : x = g ∧ s' = s ∧ nn = 0 := by
      rcases hS with ⟨_, h⟩ | ⟨h, _⟩ | ⟨h, _⟩
      · exact h
      · omega
      · omega
    refine W_seq fun K7 hK7 => ?_
    refine W_seq fun K8 hK8 => ?_
    refine W_region ?_
    refine sy hs (y_move rfl) ?_; clear hs; (try clear a w); intro a w hs
    refine sy hs (y_pnilN rfl rfl Tryd.underlying122) ?_; clear hs; (try clear a w); intro a w hs
    refine RL_nil ?_
    refine hK8 _ _ ?_; clear hK8
    refine W_condT hs rfl ?_
    refine W_skip ?_
    refine hK7 _ _ ?_; clear hK7
    refine W_block fun Qe9 hB9 hO9 => ?_
    refine W_seq fun K10 hK10 => ?_
    refine W_seq fun K11 hK11 => ?_
    refine W_region ?_
    refine sy hs (y_move rfl) ?_; clear hs; (try clear a w); intro a w hs
    first | (refine sy hs (y_nilCheck rfl) ?_; clear hs; (try clear a w); intro a w hs) | (refine sy hs (y_nilE rfl) ?_; clear hs; (try clear a w); intro a w hs)
    first | (refine sy hs (y_fieldAddr rfl (FO.of (off := 1) Tryd.underlying125 rfl rfl ti3 (by decide))) ?_; clear hs; (try clear a w); intro a w hs) | (refine sy hs (y_faE rfl (FO.of (off := 1) Tryd.underlying125 rfl rfl ti3 (by decide))) ?_; clear hs; (try clear a w); intro a w hs)
    refine sy hs (y_ld rfl Tryd.underlying3 rfl (Cell.blk hgX gcA_1)) ?_; clear hs; (try clear a w); intro a w hs
    refine sy hs (y_move rfl) ?_; clear hs; (try clear a w); intro a w hs
    refine sy hs (y_gtr rfl rfl) ?_; clear hs; (try clear a w); intro a w hs
    rw [show decide ((0 : Int) < 0) = false from rfl] at hs
    refine sy hs (y_move rfl) ?_; clear hs; (try clear a w); intro a w hs
    refine sno hs ?_; clear hs; (try clear a w); intro a w hs
    refine sno hs ?_; clear hs; (try clear a w); intro a w hs
    refine sun hs ?_; clear hs; (try clear a w); intro a w hs
    refine sun hs ?_; clear hs; (try clear a w); intro a w hs
    refine sun hs ?_; clear hs; (try clear a w); intro a w hs
    refine sun hs ?_; clear hs; (try clear a w); intro a w hs
    refine sun hs ?_; clear hs; (try clear a w); intro a w hs
    refine sno hs ?_; clear hs; (try clear a w); intro a w hs
    refine sno hs ?_; clear hs; (try clear a w); intro a w hs
    refine sy hs (y_pick rfl rfl) ?_; clear hs; (try clear a w); intro a w hs
    refine RL_nil ?_
    refine hK11 _ _ ?_; clear hK11
    refine W_condF hs rfl ?_
    refine W_skip ?_
    refine hK10 _ _ ?_; clear hK10
    refine W_seq fun K12 hK12 => ?_
    refine W_seq fun K13 hK13 => ?_
    refine W_region ?_
    refine sy hs (y_move rfl) ?_; clear hs; (try clear a w); intro a w hs
    refine sy hs (y_seql rfl rfl) ?_; clear hs; (try clear a w); intro a w hs
    refine RL_nil ?_
    refine hK13 _ _ ?_; clear hK13
    rw [decide_eq_false hs0] at hs
    refine W_condF hs rfl ?_
    refine W_skip ?_
    refine hK12 _ _ ?_; clear hK12
    refine W_seq fun K14 hK14 => ?_
    refine W_region ?_
    refine sy hs (y_move rfl) ?_; clear hs; (try clear a w); intro a w hs
    first | (refine sy hs (y_nilCheck rfl) ?_; clear hs; (try clear a w); intro a w hs) | (refine sy hs (y_nilE rfl) ?_; clear hs; (try clear a w); intro a w hs)
    first | (refine sy hs (y_fieldAddr rfl (FO.of (off := 4) Tryd.underlying125 rfl rfl ti123 (by decide))) ?_; clear hs; (try clear a w); intro a w hs) | (refine sy hs (y_faE rfl (FO.of (off := 4) Tryd.underlying125 rfl rfl ti123 (by decide))) ?_; clear hs; (try clear a w); intro a w hs)
    refine sy hs (y_ld rfl Tryd.underlying123 rfl (Cell.blk hgX (gcA_4.trans (congrArg some htv)))) ?_; clear hs; (try clear a w); intro a w hs
    refine sy hs (y_slNeq rfl Tryd.underlying123) ?_; clear hs; (try clear a w); intro a w hs
    refine RL_nil ?_
    refine hK14 _ _ ?_; clear hK14
    refine W_condT hs rfl ?_
    refine W_seq fun K15 hK15 => ?_
    refine W_draw hs mixed (by kernel_rfl) ?_; intro a he
    refine qy he (y_move rfl) ?_; clear he; (try clear a); intro a he
    refine qy he (y_move rfl) ?_; clear he; (try clear a); intro a he
    refine qy he (y_ixW rfl rfl Tryd.underlying9 hc) ?_; clear he; (try clear a); intro a he
    first | (refine qy he (y_nilCheck rfl) ?_; clear he; (try clear a); intro a he) | (refine qy he (y_nilE rfl) ?_; clear he; (try clear a); intro a he)
    first | (refine qy he (y_fieldAddr rfl (FO.of (off := 6) Tryd.underlying127 rfl rfl ti87 (by decide))) ?_; clear he; (try clear a); intro a he) | (refine qy he (y_faE rfl (FO.of (off := 6) Tryd.underlying127 rfl rfl ti87 (by decide))) ?_; clear he; (try clear a); intro a he)
    refine qy he (y_ixArr (j := c) rfl rfl Tryd.underlying87 ti5 rfl hc2) ?_; clear he; (try clear a); intro a he
    refine qy he (y_ld rfl Tryd.underlying5 rfl (Cell.blk hgX (by rw [show 0 + 6 + c * 1 = 6 + c by omega]; exact gcA_get hN))) ?_; clear he; (try clear a); intro a he
    refine qy he (y_assign rfl) ?_; clear he; (try clear a); intro a he
    refine QL_nil he ?_; clear he hs; intro a w hs
    refine hK15 _ _ ?_; clear hK15
    refine W_seq fun K16 hK16 => ?_
    refine W_seq fun K17 hK17 => ?_
    refine W_region ?_
    refine sy hs (y_move rfl) ?_; clear hs; (try clear a w); intro a w hs
    refine sy hs (y_i2i rfl (by rw [Tryd.underlying5]; rfl) Tryd.underlying3 (wr_i64 (by omega))) ?_; clear hs; (try clear a w); intro a w hs
    refine sy hs (y_move rfl) ?_; clear hs; (try clear a w); intro a w hs
    first | (refine sy hs (y_nilCheck rfl) ?_; clear hs; (try clear a w); intro a w hs) | (refine sy hs (y_nilE rfl) ?_; clear hs; (try clear a w); intro a w hs)
    first | (refine sy hs (y_fieldAddr rfl (FO.of (off := 5) Tryd.underlying127 rfl rfl ti3 (by decide))) ?_; clear hs; (try clear a w); intro a w hs) | (refine sy hs (y_faE rfl (FO.of (off := 5) Tryd.underlying127 rfl rfl ti3 (by decide))) ?_; clear hs; (try clear a w); intro a w hs)
    refine sy hs (y_ld rfl Tryd.underlying3 rfl (Cell.blk hgX gcA_5)) ?_; clear hs; (try clear a w); intro a w hs
    refine sy hs (y_eql rfl rfl) ?_; clear hs; (try clear a w); intro a w hs
    refine RL_nil ?_
    refine hK17 _ _ ?_; clear hK17
    rw [decide_eq_false (show ¬ (m : Int) = (T : Int) by omega)] at hs
    refine W_condF hs rfl ?_
    refine W_skip ?_
    refine hK16 _ _ ?_; clear hK16
    refine W_seq fun K18 hK18 => ?_
    refine W_region ?_
    refine sy hs (y_move rfl) ?_; clear hs; (try clear a w); intro a w hs
    first | (refine sy hs (y_nilCheck rfl) ?_; clear hs; (try clear a w); intro a w hs) | (refine sy hs (y_nilE rfl) ?_; clear hs; (try clear a w); intro a w hs)
    first | (refine sy hs (y_fieldAddr rfl (FO.of (off := 4) Tryd.underlying125 rfl rfl ti123 (by decide))) ?_; clear hs; (try clear a w); intro a w hs) | (refine sy hs (y_faE rfl (FO.of (off := 4) Tryd.underlying125 rfl rfl ti123 (by decide))) ?_; clear hs; (try clear a w); intro a w hs)
    refine sy hs (y_ld rfl Tryd.underlying123 rfl (Cell.blk hgX gcA_4)) ?_; clear hs; (try clear a w); intro a w hs
    refine sy hs (y_move rfl) ?_; clear hs; (try clear a w); intro a w hs
    refine sy hs (y_indexAddr (m := m) (Rd.st hs hrX) rfl rfl rfl hmr Tryd.underlying123 ti122) ?_; clear hs; (try clear a w); intro a w hs
    refine sy hs (y_loadE (i := m) (j := 0) (Rd.st hs hrX) rfl hr rfl Tryd.underlying122 rfl) ?_; clear hs; (try clear a w); intro a w hs
    refine sy hs (y_assign rfl) ?_; clear hs; (try clear a w); intro a w hs
    refine RL_nil ?_
    refine hK18 _ _ ?_; clear hK18
    refine W_seq fun K19 hK19 => ?_
    refine W_region ?_
    refine sy hs (y_move rfl) ?_; clear hs; (try clear a w); intro a w hs
    refine sy hs (y_sliceSV (lo := 1) (hi := s'.size) rfl rfl Tryd.underlying9 (.inr ⟨_, rfl, rfl⟩) (.inl ⟨rfl, rfl⟩) hs1 (Nat.le_refl _)) ?_; clear hs; (try clear a w); intro a w hs
    refine sy hs (y_assign rfl) ?_; clear hs; (try clear a w); intro a w hs
    refine RL_nil ?_
    refine hK19 _ _ ?_; clear hK19
    refine W_region ?_
    refine sy hs (y_move rfl) ?_; clear hs; (try clear a w); intro a w hs
    refine sy hs (y_add rfl rfl (wr_i64 (by omega))) ?_; clear hs; (try clear a w); intro a w hs
    refine sy hs (y_assign rfl) ?_; clear hs; (try clear a w); intro a w hs
    refine RL_nil ?_
    rcases hA with ⟨h1, h2⟩ | ⟨h1, n2, h2, h3⟩
    · subst h1
      exact hK 2 _ _ (by omega) ⟨_, _, _, .inr (.inr ⟨rfl, rfl, pfx_nil, h2⟩), hs.sub ⟨rfl, rfl, rfl, rfl, rfl, rfl, rfl, rfl, rfl, trivial⟩⟩
    · exact hK 1 _ _ (by omega) ⟨_, _, _, .inr (.inl ⟨rfl, rfl, rfl, rfl, h1, n2, h2, h3⟩), hs.sub ⟨rfl, rfl, rfl, rfl, rfl, rfl, rfl, rfl, rfl, trivial⟩⟩
  · by_cases hk1 : k = 1
    · obtain ⟨rfl, rfl, rfl, hrn, n2, h2, h3⟩ : x = n1 ∧ s' = s.extract 1 s.size ∧ nn = 1 ∧ rest ≠ bs [] ∧ ∃ n2, Ent.blk n1 (.cells (node (bs []) 0 rest (.pointer (some ⟨n2, 0, none⟩)) (.slice none 0 0)) 125 (0, 0)) ∈ LX ∧ Ent.blk n2 (.cells (leafA val pr) 125 (0, 0)) ∈ LX := by
        rcases hS with ⟨h, _⟩ | ⟨_, h⟩ | ⟨h, _⟩
        · omega
        · exact h
        · omega
      have h2X := List.mem_append_left L h2
      refine W_seq fun K20 hK20 => ?_
      refine W_seq fun K21 hK21 => ?_
      refine W_region ?_
      refine sy hs (y_move rfl) ?_; clear hs; (try clear a w); intro a w hs
      refine sy hs (y_pnilN rfl rfl Tryd.underlying122) ?_; clear hs; (try clear a w); intro a w hs
      refine RL_nil ?_
      refine hK21 _ _ ?_; clear hK21
      refine W_condT hs rfl ?_
      refine W_skip ?_
      refine hK20 _ _ ?_; clear hK20
      refine W_block fun Qe22 hB22 hO22 => ?_
      refine W_seq fun K23 hK23 => ?_
      refine W_seq fun K24 hK24 => ?_
      refine W_region ?_
      refine sy hs (y_move rfl) ?_; clear hs; (try clear a w); intro a w hs
      first | (refine sy hs (y_nilCheck rfl) ?_; clear hs; (try clear a w); intro a w hs) | (refine sy hs (y_nilE rfl) ?_; clear hs; (try clear a w); intro a w hs)
      first | (refine sy hs (y_fieldAddr rfl (FO.of (off := 1) Tryd.underlying125 rfl rfl ti3 (by decide))) ?_; clear hs; (try clear a w); intro a w hs) | (refine sy hs (y_faE rfl (FO.of (off := 1) Tryd.underlying125 rfl rfl ti3 (by decide))) ?_; clear hs; (try clear a w); intro a w hs)
      refine sy hs (y_ld (u := .int .i64 0) rfl Tryd.underlying3 rfl (Cell.blk h2X rfl)) ?_; clear hs; (try clear a w); intro a w hs
      refine sy hs (y_move rfl) ?_; clear hs; (try clear a w); intro a w hs
      refine sy hs (y_gtr rfl rfl) ?_; clear hs; (try clear a w); intro a w hs
      rw [show decide ((0 : Int) < 0) = false from rfl] at hs
      refine sy hs (y_move rfl) ?_; clear hs; (try clear a w); intro a w hs
      refine sno hs ?_; clear hs; (try clear a w); intro a w hs
      refine sno hs ?_; clear hs; (try clear a w); intro a w hs
      refine sun hs ?_; clear hs; (try clear a w); intro a w hs
      refine sun hs ?_; clear hs; (try clear a w); intro a w hs
      refine sun hs ?_; clear hs; (try clear a w); intro a w hs
      refine sun hs ?_; clear hs; (try clear a w); intro a w hs
      refine sun hs ?_; clear hs; (try clear a w); intro a w hs
      refine sno hs ?_; clear hs; (try clear a w); intro a w hs
      refine sno hs ?_; clear hs; (try clear a w); intro a w hs
      refine sy hs (y_pick rfl rfl) ?_; clear hs; (try clear a w); intro a w hs
      refine RL_nil ?_
      refine hK24 _ _ ?_; clear hK24
      refine W_condF hs rfl ?_
      refine W_skip ?_
      refine hK23 _ _ ?_; clear hK23
      refine W_seq fun K25 hK25 => ?_
      refine W_seq fun K26 hK26 => ?_
      refine W_region ?_
      refine sy hs (y_move rfl) ?_; clear hs; (try clear a w); intro a w hs
      refine sy hs (y_seql rfl rfl) ?_; clear hs; (try clear a w); intro a w hs
      refine RL_nil ?_
      refine hK26 _ _ ?_; clear hK26
      first | refine W_condP hs rfl (fun he => ?_) (fun he => ?_) | refine W_cond hs rfl (fun he => ?_) (fun he => ?_)
      · refine W_exit ?_
        refine hO22 _ rfl _ _ ?_
        refine hB6 _ _ ?_
        refine hK5 _ _ ?_; clear hK5
        refine W_ret ?_
        refine Rt_3 hs rfl rfl rfl rfl ?_
        exact ⟨by rw [lkV, he, show (⟨#[]⟩ : ByteArray) = bs [] from rfl, not_pfx hrn]; rfl, hs.cw⟩
      · refine W_skip ?_
        refine hK25 _ _ ?_; clear hK25
        refine W_seq fun K27 hK27 => ?_
        refine W_region ?_
        refine sy hs (y_move rfl) ?_; clear hs; (try clear a w); intro a w hs
        first | (refine sy hs (y_nilCheck rfl) ?_; clear hs; (try clear a w); intro a w hs) | (refine sy hs (y_nilE rfl) ?_; clear hs; (try clear a w); intro a w hs)
        first | (refine sy hs (y_fieldAddr rfl (FO.of (off := 4) Tryd.underlying125 rfl rfl ti123 (by decide))) ?_; clear hs; (try clear a w); intro a w hs) | (refine sy hs (y_faE rfl (FO.of (off := 4) Tryd.underlying125 rfl rfl ti123 (by decide))) ?_; clear hs; (try clear a w); intro a w hs)
        refine sy hs (y_ld (u := .slice none 0 0) rfl Tryd.underlying123 rfl (Cell.blk h2X rfl)) ?_; clear hs; (try clear a w); intro a w hs
        refine sy hs (y_slNeq rfl Tryd.underlying123) ?_; clear hs; (try clear a w); intro a w hs
        refine RL_nil ?_
        refine hK27 _ _ ?_; clear hK27
        refine W_condF hs rfl ?_
        refine W_seq fun K28 hK28 => ?_
        refine W_region ?_
        refine sy hs (y_move rfl) ?_; clear hs; (try clear a w); intro a w hs
        first | (refine sy hs (y_nilCheck rfl) ?_; clear hs; (try clear a w); intro a w hs) | (refine sy hs (y_nilE rfl) ?_; clear hs; (try clear a w); intro a w hs)
        first | (refine sy hs (y_fieldAddr rfl (FO.of (off := 2) Tryd.underlying125 rfl rfl ti9 (by decide))) ?_; clear hs; (try clear a w); intro a w hs) | (refine sy hs (y_faE rfl (FO.of (off := 2) Tryd.underlying125 rfl rfl ti9 (by decide))) ?_; clear hs; (try clear a w); intro a w hs)
        refine sy hs (y_ld (u := .string rest) rfl Tryd.underlying9 rfl (Cell.blk h2X rfl)) ?_; clear hs; (try clear a w); intro a w hs
        refine sy hs (y_sneq rfl rfl) ?_; clear hs; (try clear a w); intro a w hs
        rw [decide_eq_true (show rest ≠ ⟨#[]⟩ from hrn)] at hs
        refine sy hs (y_move rfl) ?_; clear hs; (try clear a w); intro a w hs
        refine syg hs (y_move rfl) ?_; clear hs; (try clear a w); intro a w hs
        refine syg hs (y_move rfl) ?_; clear hs; (try clear a w); intro a w hs
        first | (refine syg hs (y_nilCheck rfl) ?_; clear hs; (try clear a w); intro a w hs) | (refine syg hs (y_nilE rfl) ?_; clear hs; (try clear a w); intro a w hs)
        first | (refine syg hs (y_fieldAddr rfl (FO.of (off := 2) Tryd.underlying125 rfl rfl ti9 (by decide))) ?_; clear hs; (try clear a w); intro a w hs) | (refine syg hs (y_faE rfl (FO.of (off := 2) Tryd.underlying125 rfl rfl ti9 (by decide))) ?_; clear hs; (try clear a w); intro a w hs)
        refine syg hs (y_ld (u := .string rest) rfl Tryd.underlying9 rfl (Cell.blk h2X rfl)) ?_; clear hs; (try clear a w); intro a w hs
        refine syg hs (y_call rfl has70 rfl pfx_ok) ?_; clear hs; (try clear a w); intro a w hs
        refine sy hs (y_pick rfl rfl) ?_; clear hs; (try clear a w); intro a w hs
        refine RL_nil ?_
        refine hK28 _ _ ?_; clear hK28
        first | refine W_condP hs rfl (fun hp => ?_) (fun hp => ?_) | refine W_cond hs rfl (fun hp => ?_) (fun hp => ?_)
        · refine W_seq fun K29 hK29 => ?_
          refine W_region ?_
          refine sy hs (y_move rfl) ?_; clear hs; (try clear a w); intro a w hs
          refine sy hs (y_move rfl) ?_; clear hs; (try clear a w); intro a w hs
          first | (refine sy hs (y_nilCheck rfl) ?_; clear hs; (try clear a w); intro a w hs) | (refine sy hs (y_nilE rfl) ?_; clear hs; (try clear a w); intro a w hs)
          first | (refine sy hs (y_fieldAddr rfl (FO.of (off := 2) Tryd.underlying125 rfl rfl ti9 (by decide))) ?_; clear hs; (try clear a w); intro a w hs) | (refine sy hs (y_faE rfl (FO.of (off := 2) Tryd.underlying125 rfl rfl ti9 (by decide))) ?_; clear hs; (try clear a w); intro a w hs)
          refine sy hs (y_ld (u := .string rest) rfl Tryd.underlying9 rfl (Cell.blk h2X rfl)) ?_; clear hs; (try clear a w); intro a w hs
          refine sy hs (y_lenS rfl Tryd.underlying9) ?_; clear hs; (try clear a w); intro a w hs
          refine sy hs (y_add rfl rfl (wr_i64 (by omega))) ?_; clear hs; (try clear a w); intro a w hs
          refine sy hs (y_assign rfl) ?_; clear hs; (try clear a w); intro a w hs
          refine RL_nil ?_
          refine hK29 _ _ ?_; clear hK29
          refine W_seq fun K30 hK30 => ?_
          refine W_region ?_
          refine sy hs (y_move rfl) ?_; clear hs; (try clear a w); intro a w hs
          refine sy hs (y_move rfl) ?_; clear hs; (try clear a w); intro a w hs
          first | (refine sy hs (y_nilCheck rfl) ?_; clear hs; (try clear a w); intro a w hs) | (refine sy hs (y_nilE rfl) ?_; clear hs; (try clear a w); intro a w hs)
          first | (refine sy hs (y_fieldAddr rfl (FO.of (off := 2) Tryd.underlying125 rfl rfl ti9 (by decide))) ?_; clear hs; (try clear a w); intro a w hs) | (refine sy hs (y_faE rfl (FO.of (off := 2) Tryd.underlying125 rfl rfl ti9 (by decide))) ?_; clear hs; (try clear a w); intro a w hs)
          refine sy hs (y_ld (u := .string rest) rfl Tryd.underlying9 rfl (Cell.blk h2X rfl)) ?_; clear hs; (try clear a w); intro a w hs
          refine sy hs (y_lenS rfl Tryd.underlying9) ?_; clear hs; (try clear a w); intro a w hs
          refine sy hs (y_sliceSV (lo := rest.size) (hi := (s.extract 1 s.size).size) rfl rfl Tryd.underlying9 (.inr ⟨_, rfl, rfl⟩) (.inl ⟨rfl, rfl⟩) (pfx_true hp).1 (Nat.le_refl _)) ?_; clear hs; (try clear a w); intro a w hs
          refine sy hs (y_assign rfl) ?_; clear hs; (try clear a w); intro a w hs
          refine RL_nil ?_
          refine hK30 _ _ ?_; clear hK30
          refine W_region ?_
          refine sy hs (y_move rfl) ?_; clear hs; (try clear a w); intro a w hs
          first | (refine sy hs (y_nilCheck rfl) ?_; clear hs; (try clear a w); intro a w hs) | (refine sy hs (y_nilE rfl) ?_; clear hs; (try clear a w); intro a w hs)
          first | (refine sy hs (y_fieldAddr rfl (FO.of (off := 3) Tryd.underlying125 rfl rfl ti122 (by decide))) ?_; clear hs; (try clear a w); intro a w hs) | (refine sy hs (y_faE rfl (FO.of (off := 3) Tryd.underlying125 rfl rfl ti122 (by decide))) ?_; clear hs; (try clear a w); intro a w hs)
          refine sy hs (y_ld (u := .pointer (some ⟨n2, 0, none⟩)) rfl Tryd.underlying122 rfl (Cell.blk h2X rfl)) ?_; clear hs; (try clear a w); intro a w hs
          refine sy hs (y_assign rfl) ?_; clear hs; (try clear a w); intro a w hs
          refine RL_nil ?_
          exact hK 2 _ _ (by omega) ⟨_, _, _, .inr (.inr ⟨rfl, rfl, hp, h3⟩), hs.sub ⟨rfl, rfl, rfl, rfl, rfl, rfl, rfl, rfl, rfl, trivial⟩⟩
        · refine W_exit ?_
          refine hO22 _ rfl _ _ ?_
          refine hB6 _ _ ?_
          refine hK5 _ _ ?_; clear hK5
          refine W_ret ?_
          refine Rt_3 hs rfl rfl rfl rfl ?_
          exact ⟨by rw [lkV, hp]; rfl, hs.cw⟩
    · obtain ⟨rfl, hp, h3⟩ : nn = 1 + (rest.size : Int) ∧ pfx (s.extract 1 s.size) rest = true ∧ Ent.blk x (.cells (leafA val pr) 125 (0, 0)) ∈ LX := by
        rcases hS with ⟨h, _⟩ | ⟨h, _⟩ | ⟨_, h⟩
        · omega
        · omega
        · exact h
      have h3X := List.mem_append_left L h3
      refine W_seq fun K31 hK31 => ?_
      refine W_seq fun K32 hK32 => ?_
      refine W_region ?_
      refine sy hs (y_move rfl) ?_; clear hs; (try clear a w); intro a w hs
      refine sy hs (y_pnilN rfl rfl Tryd.underlying122) ?_; clear hs; (try clear a w); intro a w hs
      refine RL_nil ?_
      refine hK32 _ _ ?_; clear hK32
      refine W_condT hs rfl ?_
      refine W_skip ?_
      refine hK31 _ _ ?_; clear hK31
      refine W_block fun Qe33 hB33 hO33 => ?_
      refine W_seq fun K34 hK34 => ?_
      refine W_seq fun K35 hK35 => ?_
      refine W_region ?_
      refine sy hs (y_move rfl) ?_; clear hs; (try clear a w); intro a w hs
      first | (refine sy hs (y_nilCheck rfl) ?_; clear hs; (try clear a w); intro a w hs) | (refine sy hs (y_nilE rfl) ?_; clear hs; (try clear a w); intro a w hs)
      first | (refine sy hs (y_fieldAddr rfl (FO.of (off := 1) Tryd.underlying125 rfl rfl ti3 (by decide))) ?_; clear hs; (try clear a w); intro a w hs) | (refine sy hs (y_faE rfl (FO.of (off := 1) Tryd.underlying125 rfl rfl ti3 (by decide))) ?_; clear hs; (try clear a w); intro a w hs)
      refine sy hs (y_ld (u := .int .i64 pr) rfl Tryd.underlying3 rfl (Cell.blk h3X rfl)) ?_; clear hs; (try clear a w); intro a w hs
      refine sy hs (y_move rfl) ?_; clear hs; (try clear a w); intro a w hs
      refine sy hs (y_gtr rfl rfl) ?_; clear hs; (try clear a w); intro a w hs
      rw [decide_eq_true (show (0 : Int) < pr from hpr)] at hs
      refine sy hs (y_move rfl) ?_; clear hs; (try clear a w); intro a w hs
      refine syg hs (y_move rfl) ?_; clear hs; (try clear a w); intro a w hs
      refine syg hs (y_move rfl) ?_; clear hs; (try clear a w); intro a w hs
      refine sno hs ?_; clear hs; (try clear a w); intro a w hs
      refine sno hs ?_; clear hs; (try clear a w); intro a w hs
      refine sno hs ?_; clear hs; (try clear a w); intro a w hs
      refine sno hs ?_; clear hs; (try clear a w); intro a w hs
      refine sno hs ?_; clear hs; (try clear a w); intro a w hs
      refine syg hs (y_pick rfl rfl) ?_; clear hs; (try clear a w); intro a w hs
      refine syg hs (y_not rfl) ?_; clear hs; (try clear a w); intro a w hs
      refine sy hs (y_pick rfl rfl) ?_; clear hs; (try clear a w); intro a w hs
      refine RL_nil ?_
      refine hK35 _ _ ?_; clear hK35
      refine W_condT hs rfl ?_
      refine W_seq fun K36 hK36 => ?_
      refine W_region ?_
      refine sy hs (y_move rfl) ?_; clear hs; (try clear a w); intro a w hs
      first | (refine sy hs (y_nilCheck rfl) ?_; clear hs; (try clear a w); intro a w hs) | (refine sy hs (y_nilE rfl) ?_; clear hs; (try clear a w); intro a w hs)
      first | (refine sy hs (y_fieldAddr rfl (FO.of (off := 1) Tryd.underlying125 rfl rfl ti3 (by decide))) ?_; clear hs; (try clear a w); intro a w hs) | (refine sy hs (y_faE rfl (FO.of (off := 1) Tryd.underlying125 rfl rfl ti3 (by decide))) ?_; clear hs; (try clear a w); intro a w hs)
      refine sy hs (y_ld (u := .int .i64 pr) rfl Tryd.underlying3 rfl (Cell.blk h3X rfl)) ?_; clear hs; (try clear a w); intro a w hs
      refine sy hs (y_assign rfl) ?_; clear hs; (try clear a w); intro a w hs
      refine RL_nil ?_
      refine hK36 _ _ ?_; clear hK36
      refine W_seq fun K37 hK37 => ?_
      refine W_region ?_
      refine sy hs (y_move rfl) ?_; clear hs; (try clear a w); intro a w hs
      first | (refine sy hs (y_nilCheck rfl) ?_; clear hs; (try clear a w); intro a w hs) | (refine sy hs (y_nilE rfl) ?_; clear hs; (try clear a w); intro a w hs)
      first | (refine sy hs (y_fieldAddr rfl (FO.of (off := 0) Tryd.underlying125 rfl rfl ti9 (by decide))) ?_; clear hs; (try clear a w); intro a w hs) | (refine sy hs (y_faE rfl (FO.of (off := 0) Tryd.underlying125 rfl rfl ti9 (by decide))) ?_; clear hs; (try clear a w); intro a w hs)
      refine sy hs (y_ld (u := .string val) rfl Tryd.underlying9 rfl (Cell.blk h3X rfl)) ?_; clear hs; (try clear a w); intro a w hs
      refine sy hs (y_assign rfl) ?_; clear hs; (try clear a w); intro a w hs
      refine RL_nil ?_
      refine hK37 _ _ ?_; clear hK37
      refine W_seq fun K38 hK38 => ?_
      refine W_region ?_
      refine sy hs (y_move rfl) ?_; clear hs; (try clear a w); intro a w hs
      refine sy hs (y_assign rfl) ?_; clear hs; (try clear a w); intro a w hs
      refine RL_nil ?_
      refine hK38 _ _ ?_; clear hK38
      refine W_region ?_
      refine sy hs (y_assign rfl) ?_; clear hs; (try clear a w); intro a w hs
      refine RL_nil ?_
      refine hK34 _ _ ?_; clear hK34
      refine W_seq fun K39 hK39 => ?_
      refine W_seq fun K40 hK40 => ?_
      refine W_region ?_
      refine sy hs (y_move rfl) ?_; clear hs; (try clear a w); intro a w hs
      refine sy hs (y_seql rfl rfl) ?_; clear hs; (try clear a w); intro a w hs
      refine RL_nil ?_
      refine hK40 _ _ ?_; clear hK40
      first | refine W_condP hs rfl (fun he => ?_) (fun he => ?_) | refine W_cond hs rfl (fun he => ?_) (fun he => ?_)
      · refine W_exit ?_
        refine hO33 _ rfl _ _ ?_
        refine hB6 _ _ ?_
        refine hK5 _ _ ?_; clear hK5
        refine W_ret ?_
        refine Rt_3 hs rfl rfl rfl rfl ?_
        exact ⟨by rw [lkV, if_pos hp], hs.cw⟩
      · refine W_skip ?_
        refine hK39 _ _ ?_; clear hK39
        refine W_seq fun K41 hK41 => ?_
        refine W_region ?_
        refine sy hs (y_move rfl) ?_; clear hs; (try clear a w); intro a w hs
        first | (refine sy hs (y_nilCheck rfl) ?_; clear hs; (try clear a w); intro a w hs) | (refine sy hs (y_nilE rfl) ?_; clear hs; (try clear a w); intro a w hs)
        first | (refine sy hs (y_fieldAddr rfl (FO.of (off := 4) Tryd.underlying125 rfl rfl ti123 (by decide))) ?_; clear hs; (try clear a w); intro a w hs) | (refine sy hs (y_faE rfl (FO.of (off := 4) Tryd.underlying125 rfl rfl ti123 (by decide))) ?_; clear hs; (try clear a w); intro a w hs)
        refine sy hs (y_ld (u := .slice none 0 0) rfl Tryd.underlying123 rfl (Cell.blk h3X rfl)) ?_; clear hs; (try clear a w); intro a w hs
        refine sy hs (y_slNeq rfl Tryd.underlying123) ?_; clear hs; (try clear a w); intro a w hs
        refine RL_nil ?_
        refine hK41 _ _ ?_; clear hK41
        refine W_condF hs rfl ?_
        refine W_seq fun K42 hK42 => ?_
        refine W_region ?_
        refine sy hs (y_move rfl) ?_; clear hs; (try clear a w); intro a w hs
        first | (refine sy hs (y_nilCheck rfl) ?_; clear hs; (try clear a w); intro a w hs) | (refine sy hs (y_nilE rfl) ?_; clear hs; (try clear a w); intro a w hs)
        first | (refine sy hs (y_fieldAddr rfl (FO.of (off := 2) Tryd.underlying125 rfl rfl ti9 (by decide))) ?_; clear hs; (try clear a w); intro a w hs) | (refine sy hs (y_faE rfl (FO.of (off := 2) Tryd.underlying125 rfl rfl ti9 (by decide))) ?_; clear hs; (try clear a w); intro a w hs)
        refine sy hs (y_ld (u := .string (bs [])) rfl Tryd.underlying9 rfl (Cell.blk h3X rfl)) ?_; clear hs; (try clear a w); intro a w hs
        refine sy hs (y_sneq rfl rfl) ?_; clear hs; (try clear a w); intro a w hs
        rw [decide_eq_false (show ¬ bs [] ≠ ⟨#[]⟩ from fun h => h rfl)] at hs
        refine sy hs (y_move rfl) ?_; clear hs; (try clear a w); intro a w hs
        refine sno hs ?_; clear hs; (try clear a w); intro a w hs
        refine sno hs ?_; clear hs; (try clear a w); intro a w hs
        refine sno hs ?_; clear hs; (try clear a w); intro a w hs
        refine sno hs ?_; clear hs; (try clear a w); intro a w hs
        refine sno hs ?_; clear hs; (try clear a w); intro a w hs
        refine sno hs ?_; clear hs; (try clear a w); intro a w hs
        refine sy hs (y_pick rfl rfl) ?_; clear hs; (try clear a w); intro a w hs
        refine RL_nil ?_
        refine hK42 _ _ ?_; clear hK42
        refine W_condF hs rfl ?_
        refine W_exit ?_
        refine hO33 _ rfl _ _ ?_
        refine hB6 _ _ ?_
        refine hK5 _ _ ?_; clear hK5
        refine W_ret ?_
        refine Rt_3 hs rfl rfl rfl rfl ?_
        exact ⟨by rw [lkV, if_pos hp], hs.cw⟩
end Go.Proofs.YtklcdfnhdljkjaaDoor
/-! UTF-8 as a matter of lists: what a text's bytes decode to. -/
namespace Go.Sl
/-- The bytes of a text. -/
def byL (s : ByteArray) : List Nat := s.data.toList.map (·.toNat)
theorem byL_length (s : ByteArray) : (byL s).length = s.size := by rw [byL, List.length_map]; rfl
def contL (l : List Nat) (k : Nat) : Bool := match l[k]? with
  | some b => b / 64 == 2
  | none => false
/-- The first rune of a list of bytes, and its width. -/
def decL (l : List Nat) : Nat × Nat :=
  let b0 := l.getD 0 0
  if b0 < 128 then (b0, 1)
  else if b0 / 32 == 6 && contL l 1 then
    let c := (b0 % 32) * 64 + l.getD 1 0 % 64
    if c ≥ 128 then (c, 2) else (65533, 1)
  else if b0 / 16 == 14 && contL l 1 && contL l 2 then
    let c := (b0 % 16) * 4096 + (l.getD 1 0 % 64) * 64 + l.getD 2 0 % 64
    if c ≥ 2048 && Utf8.valid c then (c, 3) else (65533, 1)
  else if b0 / 8 == 30 && contL l 1 && contL l 2 && contL l 3 then
    let c := (b0 % 8) * 262144 + (l.getD 1 0 % 64) * 4096 + (l.getD 2 0 % 64) * 64 + l.getD 3 0 % 64
    if c ≥ 65536 && Utf8.valid c then (c, 4) else (65533, 1)
  else (65533, 1)
theorem get_byL (s : ByteArray) (i : Nat) : (s.get! i).toNat = (byL s).getD i 0 := by
  obtain ⟨d⟩ := s
  show (d[i]!).toNat = (d.toList.map (·.toNat)).getD i 0
  rw [List.getD_eq_getElem?_getD, List.getElem?_map]
  by_cases h : i < d.size
  · rw [getElem!_pos d i h, Array.getElem?_toList, Array.getElem?_eq_getElem h]; rfl
  · rw [getElem!_neg d i h, Array.getElem?_toList, Array.getElem?_eq_none (by omega)]; rfl
theorem decode_list (s : ByteArray) (i : Nat) : Utf8.decode s i = decL ((byL s).drop i) := by
  have g : ∀ k, (s.get! (i + k)).toNat = ((byL s).drop i).getD k 0 := fun k => by
    rw [get_byL, List.getD_eq_getElem?_getD, List.getD_eq_getElem?_getD, List.getElem?_drop]
  have c : ∀ k, (decide (i + k < s.size) && ((byL s).drop i).getD k 0 / 64 == 2) = contL ((byL s).drop i) k := fun k => by
    rw [contL, List.getD_eq_getElem?_getD, List.getElem?_drop]
    by_cases h : i + k < s.size
    · have h' : i + k < (byL s).length := by rw [byL_length]; exact h
      rw [List.getElem?_eq_getElem h']
      simp [h]
    · have h' : (byL s).length ≤ i + k := by rw [byL_length]; omega
      rw [List.getElem?_eq_none h']
      simp [h]
  simp only [Utf8.decode, decL, g, Utf8.runeError, c]
theorem decL_width (l : List Nat) : 1 ≤ (decL l).2 := by
  simp only [decL]
  repeat' split
  all_goals simp
/-- No byte that goes on stands at the list's head. -/
def fresh (t : List Nat) : Prop := contL t 0 = false
theorem bytesOf_bytesIn (s : ByteArray) : bytesOf (bytesIn s) = s := by
  unfold bytesOf bytesIn
  rw [List.map_map]
  have : (fun n : Int => UInt8.ofNat n.toNat) ∘ (fun b : UInt8 => (b.toNat : Int)) = id := by
    funext b; simp
  rw [this, List.map_id]
end Go.Sl
namespace Go.Proofs.YtklcdfnhdljkjaaDoor
open Go.RowKit Go.Sl
theorem m219 {wb : Nat} (w : World) : (method (Tryd.prog.types.size + Made.depth) 161 (.pointer (some ⟨wb, 0, none⟩)) "WriteString").run Tryd.prog w = .ok (116, .pointer (some ⟨wb, 0, none⟩)) w := by kernel_rfl
theorem n219 {wb : Nat} (w : World) : (nilAhead (Tryd.prog.types.size + Made.depth) 161 (.pointer (some ⟨wb, 0, none⟩)) "WriteString").run Tryd.prog w = .ok (some false) w := by kernel_rfl
theorem m159 {wb : Nat} (w : World) : (method (Tryd.prog.types.size + Made.depth) 105 (.pointer (some ⟨wb, 0, none⟩)) "Replace").run Tryd.prog w = .ok (103, .pointer (some ⟨wb, 0, none⟩)) w := by kernel_rfl
theorem bytesIn_ext (s : ByteArray) (a b : Nat) : bytesIn (s.extract a b) = ((bytesIn s).drop a).take (b - a) := by
  unfold bytesIn
  rw [ByteArray.data_extract, Array.toList_extract, List.extract_eq_take_drop, List.map_take, List.map_drop]
theorem drop_at {s : ByteArray} {i : Nat} {c : Int} (hc : (bytesIn s)[i]? = some c) : (bytesIn s).drop i = c :: (bytesIn s).drop (i + 1) := by
  obtain ⟨h, rfl⟩ := List.getElem?_eq_some_iff.1 hc
  exact List.drop_eq_getElem_cons h
theorem bytes1 (c : UInt8) : bytesIn (bs [c]) = [(c.toNat : Int)] := rfl
/-- Behind the byte i stands what the text asks for, just if the byte 160 stands there. -/
theorem pfx160 {s : ByteArray} {i : Nat} : pfx ((s.extract i s.size).extract 1 (s.extract i s.size).size) (bs [160]) = true ↔ (bytesIn s)[i + 1]? = some 160 := by
  have e : bytesIn ((s.extract i s.size).extract 1 (s.extract i s.size).size) = (bytesIn s).drop (i + 1) := by
    rw [bytesIn_ext, bytesIn_ext, List.take_of_length_le (l := (bytesIn s).drop i) (by rw [List.length_drop, bytesIn_length]; exact Nat.le_refl _), List.drop_drop, List.take_of_length_le]
    rw [List.length_drop, bytesIn_length, ByteArray.size_extract]; omega
  have inj : ∀ {a b : ByteArray}, bytesIn a = bytesIn b → a = b := fun {a b} h => by
    rw [← bytesOf_bytesIn a, h, bytesOf_bytesIn]
  constructor
  · intro h
    obtain ⟨_, h2⟩ := pfx_true h
    have h3 := congrArg bytesIn h2
    rw [bytesIn_ext, e, List.drop_zero, show (bs [160]).size - 0 = 1 from rfl, bytes1] at h3
    have h4 : (((bytesIn s).drop (i + 1)).take 1)[0]? = some 160 := by rw [h3]; rfl
    rw [List.getElem?_take_of_lt (by omega), List.getElem?_drop] at h4
    exact h4
  · intro h
    have hd := drop_at h
    have hl : 1 ≤ ((s.extract i s.size).extract 1 (s.extract i s.size).size).size := by
      rw [← bytesIn_length, e, hd]; simp
    unfold pfx
    rw [decide_eq_true (show (bs [160]).size ≤ _ from hl), Bool.true_and, decide_eq_true]
    apply inj
    rw [bytesIn_ext, e, hd]; rfl
theorem miss_one {q : Bool} {s : ByteArray} {i : Nat} {c : Int} (hc : (bytesIn s)[i]? = some c) (h1 : oneB q c = [c]) (h2 : ¬(c = 194 ∧ (bytesIn s)[i + 1]? = some 160)) : escA q false ((bytesIn s).drop i) = c :: escA q false ((bytesIn s).drop (i + 1)) := by
  rw [drop_at hc, escA_one, h1]; · rfl
  rw [List.head?_drop]; exact h2
theorem fast_step {q : Bool} {s : ByteArray} {i c : Nat} (hc : (bytesIn s)[i]? = some (c : Int)) (h : c ∉ specB q) : escA q false ((bytesIn s).drop i) = (c : Int) :: escA q false ((bytesIn s).drop (i + 1)) :=
  miss_one hc (oneB_self h).1 fun e => (oneB_self h).2 (by have := e.1; omega)
theorem miss_step {q : Bool} {s key val : ByteArray} {i c p : Nat} (hH : HitAt q c p key val) (hc : (bytesIn s)[i]? = some (c : Int)) (hp : pfx ((s.extract i s.size).extract 1 (s.extract i s.size).size) (key.extract 1 key.size) = false) : escA q false ((bytesIn s).drop i) = (c : Int) :: escA q false ((bytesIn s).drop (i + 1)) := by
  rcases hH.is with ⟨_, rfl, _⟩ | ⟨rfl, rfl, _, h1⟩
  · rw [show (bs [UInt8.ofNat c]).extract 1 (bs [UInt8.ofNat c]).size = bs [] from rfl, pfx_nil] at hp
    cases hp
  · refine miss_one hc h1 fun e => ?_
    rw [show (bs [194, 160]).extract 1 (bs [194, 160]).size = bs [160] from rfl, pfx160.2 e.2] at hp
    cases hp
theorem hit_step {q : Bool} {s key val : ByteArray} {i c p : Nat} (hH : HitAt q c p key val) (hc : (bytesIn s)[i]? = some (c : Int)) (hp : pfx ((s.extract i s.size).extract 1 (s.extract i s.size).size) (key.extract 1 key.size) = true) :
    i + (1 + (key.extract 1 key.size).size) ≤ s.size ∧ escA q false ((bytesIn s).drop i) = bytesIn val ++ escA q false ((bytesIn s).drop (i + (1 + (key.extract 1 key.size).size))) := by
  have hi := (List.getElem?_eq_some_iff.1 hc).1
  rw [bytesIn_length] at hi
  rcases hH.is with ⟨h0, rfl, h1⟩ | ⟨rfl, rfl, h1, _⟩
  · rw [show (bs [UInt8.ofNat c]).extract 1 (bs [UInt8.ofNat c]).size = bs [] from rfl, show (bs []).size = 0 from rfl, Nat.add_zero]
    refine ⟨hi, ?_⟩
    rw [drop_at hc, escA_one, h1]
    rintro ⟨e, _⟩
    omega
  · rw [show (bs [194, 160]).extract 1 (bs [194, 160]).size = bs [160] from rfl] at hp ⊢
    have h2 := pfx160.1 hp
    have hi2 := (List.getElem?_eq_some_iff.1 h2).1
    rw [bytesIn_length] at hi2
    rw [show (bs [160]).size = 1 from rfl]
    refine ⟨hi2, ?_⟩
    rw [drop_at hc, drop_at h2, h1]
    exact escA_two q _
/-- Where WriteString stands: before i, handed over up to last, B written. -/
def WInv (q : Bool) (s : ByteArray) (i last : Nat) (B : List Int) : Prop := last ≤ i ∧ i ≤ s.size + 1 ∧ last ≤ s.size ∧ escA q false (bytesIn s) = B ++ (((bytesIn s).drop last).take (i - last) ++ escA q false ((bytesIn s).drop i))
section
variable {q : Bool} {s : ByteArray} {i last k : Nat} {B V : List Int} {c : Int}
theorem WInv.step (h : WInv q s i last B) (hc : (bytesIn s)[i]? = some c) (he : escA q false ((bytesIn s).drop i) = c :: escA q false ((bytesIn s).drop (i + 1))) : WInv q s (i + 1) last B := by
  obtain ⟨h1, h2, h3, h4⟩ := h
  have hi := (List.getElem?_eq_some_iff.1 hc).1
  rw [bytesIn_length] at hi
  refine ⟨by omega, by omega, h3, ?_⟩
  rw [h4, he, show i + 1 - last = (i - last) + 1 by omega, List.take_add_one, List.getElem?_drop, show last + (i - last) = i by omega, hc]
  simp
theorem WInv.hit (h : WInv q s i last B) (hk : i + k ≤ s.size) (he : escA q false ((bytesIn s).drop i) = V ++ escA q false ((bytesIn s).drop (i + k))) : WInv q s (i + k) (i + k) (B ++ bytesIn (s.extract last i) ++ V) := by
  obtain ⟨h1, h2, h3, h4⟩ := h
  refine ⟨Nat.le_refl _, by omega, hk, ?_⟩
  rw [h4, he, bytesIn_ext, Nat.sub_self]
  simp
theorem WInv.fin (h : WInv q s s.size last B) : WInv q s (s.size + 1) last B := by
  obtain ⟨h1, h2, h3, h4⟩ := h
  refine ⟨by omega, by omega, h3, ?_⟩
  rw [h4, List.drop_eq_nil_of_le (i := s.size) (by rw [bytesIn_length]; exact Nat.le_refl _), List.drop_eq_nil_of_le (i := s.size + 1) (by rw [bytesIn_length]; omega), List.take_of_length_le (i := s.size - last), List.take_of_length_le (i := s.size + 1 - last)]
  · rw [List.length_drop, bytesIn_length]; omega
  · rw [List.length_drop, bytesIn_length]; omega
theorem WInv.out (h : WInv q s (s.size + 1) last B) : escA q false (bytesIn s) = B ++ bytesIn (s.extract last s.size) := by
  obtain ⟨h1, h2, h3, h4⟩ := h
  rw [h4, bytesIn_ext, List.drop_eq_nil_of_le (i := s.size + 1) (by rw [bytesIn_length]; omega), List.take_of_length_le (i := s.size - last), List.take_of_length_le (i := s.size + 1 - last)]
  · simp [escA]
  · rw [List.length_drop, bytesIn_length]; omega
  · rw [List.length_drop, bytesIn_length]; omega
theorem WInv.len (h : WInv q s i last B) : B.length ≤ 6 * s.size := by
  have := escA_len q (bytesIn s) false
  rw [h.2.2.2, bytesIn_length, List.length_append] at this
  omega
end
end Go.Proofs.YtklcdfnhdljkjaaDoor
namespace Go.Proofs.YtklcdfnhdljkjaaDoor
open Go.RowKit Go.Sl
def u8R (B : List Int) : List (List Value) := B.map fun x => [Value.int .u8 x]
theorem u8R_app (B : List Int) (s : ByteArray) : u8R B ++ ((bytesIn s).map fun x => [Value.int .u8 x]) = u8R (B ++ bytesIn s) := by
  unfold u8R; rw [List.map_append]
theorem u8R_len (B : List Int) : (u8R B).length = B.length := by unfold u8R; rw [List.length_map]
set_option maxRecDepth 20000 in
set_option maxHeartbeats 16000000 in
theorem ws_ok {f : Fz} {LX : List Ent} {g wb : Nat} {q : Bool} {s : ByteArray} {v : Value} (hT : TrieL (escL q) (escM q) (escT q) (escN q) g LX) (hsz : s.size ≤ 1099511627776) :
    Does Tryd.prog 104 [.pointer (some ⟨g, 0, none⟩), .iface 161 (.pointer (some ⟨wb, 0, none⟩)), .string s] f (.blk wb (.cells #[v] 160 (0, 0)) :: .row v 5 1 (u8R []) :: LX) (fun _ f' L' => f' = f ∧ ∃ v', L' = .blk wb (.cells #[v'] 160 (0, 0)) :: .row v' 5 1 (u8R (escA q false (bytesIn s))) :: LX) := by
  intro w0 L w hC
  replace hC : Cw w0 f (.blk wb (.cells #[v] 160 (0, 0)) :: .row v 5 1 (u8R []) :: (LX ++ L)) w := hC
  obtain ⟨tv, rows, Ls, hTr, hLX⟩ := hT
  have hg : Ent.blk g (.cells (gcA tv (escT q) (escN q)) 127 (0, 0)) ∈ LX := by rw [hLX]; exact .head _
  have hrw : Ent.row tv 122 1 rows ∈ LX := by rw [hLX]; exact .tail _ (.head _)
  have hLs : ∀ e ∈ Ls, e ∈ LX := fun e he => by rw [hLX]; exact .tail _ (.tail _ he)
  clear hLX
  have hTE := esc_ok q
  have hT1 := hTE.T1
  have up : ∀ {e : Ent} {x y : Ent}, e ∈ LX → e ∈ x :: y :: (LX ++ L) := fun h => .tail _ (.tail _ (List.mem_append_left _ h))
  refine enter Tryd.func104 rfl Tryd.ntmps104 (by simp) hC fun a hs => ?_
  refine W_seq fun K1 hK1 => ?_
  refine W_region ?_
  refine sy hs (y_assign rfl) ?_; clear hs; (try clear a w); intro a w hs
  refine sy hs (y_assign rfl) ?_; clear hs; (try clear a w); intro a w hs
  refine RL_nil ?_
  refine hK1 _ _ ?_; clear hK1
  refine W_seq fun K2 hK2 => ?_
  refine W_region ?_
  refine sy hs (y_move rfl) ?_; clear hs; (try clear a w); intro a w hs
  refine sy hs (y_call rfl has105 rfl gsw_ok) ?_; clear hs; (try clear a w); intro a w hs
  refine sy hs (y_assign rfl) ?_; clear hs; (try clear a w); intro a w hs
  refine RL_nil ?_
  refine hK2 _ _ ?_; clear hK2
  refine W_seq fun K3 hK3 => ?_
  refine W_region ?_
  refine sy hs (y_assign rfl) ?_; clear hs; (try clear a w); intro a w hs
  refine sy hs (y_assign rfl) ?_; clear hs; (try clear a w); intro a w hs
  refine RL_nil ?_
  refine hK3 _ _ ?_; clear hK3
  refine W_seq fun K4 hK4 => ?_
  refine W_region ?_
  refine sy hs (y_assign rfl) ?_; clear hs; (try clear a w); intro a w hs
  refine RL_nil ?_
  refine hK4 _ _ ?_; clear hK4
  refine W_seq fun K5 hK5 => ?_
  refine W_seq fun K6 hK6 => ?_
  refine W_region ?_
  refine sy hs (y_assign rfl) ?_; clear hs; (try clear a w); intro a w hs
  refine RL_nil ?_
  refine hK6 _ _ ?_; clear hK6
  refine W_block fun Qe7 hB7 hO7 => ?_
  refine W_loop (fun (i : Nat) a w => ∃ last B v n wn, WInv q s i last B ∧ St 131 w0 f (.blk wb (.cells #[v] 160 (0, 0)) :: .row v 5 1 (u8R B) :: (LX ++ L)) [(0, .pointer (some ⟨g, 0, none⟩)), (2, .string s), (6, .int .i64 n), (7, .nilIface), (8, .iface 161 (.pointer (some ⟨wb, 0, none⟩))), (9, .int .i64 ((last : Nat) : Int)), (10, .int .i64 wn), (11, .bool false), (12, .int .i64 (i : Int))] a w) (fun i => s.size + 1 - i) 0 ⟨0, [], v, 0, 0, ⟨Nat.le_refl _, by omega, by omega, by simp⟩, hs.sub ⟨rfl, rfl, rfl, rfl, rfl, rfl, rfl, rfl, rfl, trivial⟩⟩ ?_
  clear hs; rintro i a w ⟨last, B, v, n, wn, hI, hs⟩ K hK
  have hBl := hI.len
  have hla := hI.1
  have hl2 := hI.2.2.1
  refine W_seq fun K8 hK8 => ?_
  refine W_seq fun K9 hK9 => ?_
  refine W_region ?_
  refine sy hs (y_move rfl) ?_; clear hs; (try clear a w); intro a w hs
  refine sy hs (y_move rfl) ?_; clear hs; (try clear a w); intro a w hs
  refine sy hs (y_lenS rfl Tryd.underlying9) ?_; clear hs; (try clear a w); intro a w hs
  refine sy hs (y_leq rfl rfl) ?_; clear hs; (try clear a w); intro a w hs
  refine RL_nil ?_
  refine hK9 _ _ ?_; clear hK9
  first | refine W_condP hs rfl (fun hil => ?_) (fun hil => ?_) | refine W_cond hs rfl (fun hil => ?_) (fun hil => ?_)
  · have hil' : i ≤ s.size := by
      have : ((i : Nat) : Int) ≤ ((s.size : Nat) : Int) := by simpa using hil
      omega
    by_cases hi : i < s.size
    · obtain ⟨c, hc2, hc, hcb⟩ := byte_at hi
      refine W_skip ?_
      refine hK8 _ _ ?_; clear hK8
      refine W_block fun Qe10 hB10 hO10 => ?_
      refine W_seq fun K11 hK11 => ?_
      refine W_seq fun K12 hK12 => ?_
      refine W_region ?_
      refine sy hs (y_move rfl) ?_; clear hs; (try clear a w); intro a w hs
      refine sy hs (y_move rfl) ?_; clear hs; (try clear a w); intro a w hs
      refine sy hs (y_lenS rfl Tryd.underlying9) ?_; clear hs; (try clear a w); intro a w hs
      refine sy hs (y_neq rfl rfl) ?_; clear hs; (try clear a w); intro a w hs
      rw [decide_eq_true (show ((i : Nat) : Int) ≠ ((s.size : Nat) : Int) by omega)] at hs
      refine sy hs (y_move rfl) ?_; clear hs; (try clear a w); intro a w hs
      refine syg hs (y_move rfl) ?_; clear hs; (try clear a w); intro a w hs
      first | (refine syg hs (y_nilCheck rfl) ?_; clear hs; (try clear a w); intro a w hs) | (refine syg hs (y_nilE rfl) ?_; clear hs; (try clear a w); intro a w hs)
      first | (refine syg hs (y_fieldAddr rfl (FO.of (off := 0) Tryd.underlying127 rfl rfl ti125 (by decide))) ?_; clear hs; (try clear a w); intro a w hs) | (refine syg hs (y_faE rfl (FO.of (off := 0) Tryd.underlying127 rfl rfl ti125 (by decide))) ?_; clear hs; (try clear a w); intro a w hs)
      first | (refine syg hs (y_fieldAddr rfl (FO.of (off := 1) Tryd.underlying125 rfl rfl ti3 (by decide))) ?_; clear hs; (try clear a w); intro a w hs) | (refine syg hs (y_faE rfl (FO.of (off := 1) Tryd.underlying125 rfl rfl ti3 (by decide))) ?_; clear hs; (try clear a w); intro a w hs)
      refine syg hs (y_ld rfl Tryd.underlying3 rfl (Cell.blk (up hg) gcA_1)) ?_; clear hs; (try clear a w); intro a w hs
      refine syg hs (y_eql rfl rfl) ?_; clear hs; (try clear a w); intro a w hs
      rw [show decide ((0 : Int) = 0) = true from rfl] at hs
      refine sy hs (y_pick rfl rfl) ?_; clear hs; (try clear a w); intro a w hs
      refine RL_nil ?_
      refine hK12 _ _ ?_; clear hK12
      refine W_condT hs rfl ?_
      by_cases hsp : c ∈ specB q
      · obtain ⟨p, key, val, hH⟩ := hit_of hsp
        obtain ⟨n1, key', val', e1, e2, hr, hA⟩ := hTr.node p (by have := hH.lt; have := hTE.ev; omega)
        obtain rfl := Option.some.inj (hH.kat.symm.trans e1)
        obtain rfl := Option.some.inj (hH.vat.symm.trans e2)
        have hmT := hH.mT
        have hmr : escM q p < rows.length := (List.getElem?_eq_some_iff.1 hr).1
        have hks := hTE.sz key (List.mem_of_getElem? hH.kat)
        have hvs := hTE.sz val (List.mem_of_getElem? hH.vat)
        have hrs : (key.extract 1 key.size).size ≤ 1000000 := by rw [ByteArray.size_extract]; omega
        refine W_seq fun K13 hK13 => ?_
        refine W_draw hs mixed (by kernel_rfl) ?_; intro a he
        refine qy he (y_move rfl) ?_; clear he; (try clear a); intro a he
        refine qy he (y_move rfl) ?_; clear he; (try clear a); intro a he
        refine qy he (y_move rfl) ?_; clear he; (try clear a); intro a he
        refine qy he (y_ixW rfl rfl Tryd.underlying9 hc) ?_; clear he; (try clear a); intro a he
        first | (refine qy he (y_nilCheck rfl) ?_; clear he; (try clear a); intro a he) | (refine qy he (y_nilE rfl) ?_; clear he; (try clear a); intro a he)
        first | (refine qy he (y_fieldAddr rfl (FO.of (off := 6) Tryd.underlying127 rfl rfl ti87 (by decide))) ?_; clear he; (try clear a); intro a he) | (refine qy he (y_faE rfl (FO.of (off := 6) Tryd.underlying127 rfl rfl ti87 (by decide))) ?_; clear he; (try clear a); intro a he)
        refine qy he (y_ixArr (j := c) rfl rfl Tryd.underlying87 ti5 rfl hc2) ?_; clear he; (try clear a); intro a he
        refine qy he (y_ld rfl Tryd.underlying5 rfl (Cell.blk (up hg) (by rw [show 0 + 6 + c * 1 = 6 + c by omega]; exact gcA_get hH.num))) ?_; clear he; (try clear a); intro a he
        refine qy he (y_i2i rfl (by rw [Tryd.underlying5]; rfl) Tryd.underlying3 (wr_i64 (by omega))) ?_; clear he; (try clear a); intro a he
        refine qy he (y_assign rfl) ?_; clear he; (try clear a); intro a he
        refine QL_nil he ?_; clear he hs; intro a w hs
        refine hK13 _ _ ?_; clear hK13
        refine W_seq fun K14 hK14 => ?_
        refine W_region ?_
        refine sy hs (y_move rfl) ?_; clear hs; (try clear a w); intro a w hs
        refine sy hs (y_move rfl) ?_; clear hs; (try clear a w); intro a w hs
        first | (refine sy hs (y_nilCheck rfl) ?_; clear hs; (try clear a w); intro a w hs) | (refine sy hs (y_nilE rfl) ?_; clear hs; (try clear a w); intro a w hs)
        first | (refine sy hs (y_fieldAddr rfl (FO.of (off := 5) Tryd.underlying127 rfl rfl ti3 (by decide))) ?_; clear hs; (try clear a w); intro a w hs) | (refine sy hs (y_faE rfl (FO.of (off := 5) Tryd.underlying127 rfl rfl ti3 (by decide))) ?_; clear hs; (try clear a w); intro a w hs)
        refine sy hs (y_ld rfl Tryd.underlying3 rfl (Cell.blk (up hg) gcA_5)) ?_; clear hs; (try clear a w); intro a w hs
        refine sy hs (y_eql rfl rfl) ?_; clear hs; (try clear a w); intro a w hs
        rw [decide_eq_false (show ¬ (escM q p : Int) = (escT q : Int) by omega)] at hs
        refine sy hs (y_move rfl) ?_; clear hs; (try clear a w); intro a w hs
        refine syg hs (y_move rfl) ?_; clear hs; (try clear a w); intro a w hs
        first | (refine syg hs (y_nilCheck rfl) ?_; clear hs; (try clear a w); intro a w hs) | (refine syg hs (y_nilE rfl) ?_; clear hs; (try clear a w); intro a w hs)
        first | (refine syg hs (y_fieldAddr rfl (FO.of (off := 0) Tryd.underlying127 rfl rfl ti125 (by decide))) ?_; clear hs; (try clear a w); intro a w hs) | (refine syg hs (y_faE rfl (FO.of (off := 0) Tryd.underlying127 rfl rfl ti125 (by decide))) ?_; clear hs; (try clear a w); intro a w hs)
        first | (refine syg hs (y_fieldAddr rfl (FO.of (off := 4) Tryd.underlying125 rfl rfl ti123 (by decide))) ?_; clear hs; (try clear a w); intro a w hs) | (refine syg hs (y_faE rfl (FO.of (off := 4) Tryd.underlying125 rfl rfl ti123 (by decide))) ?_; clear hs; (try clear a w); intro a w hs)
        refine syg hs (y_ld rfl Tryd.underlying123 rfl (Cell.blk (up hg) gcA_4)) ?_; clear hs; (try clear a w); intro a w hs
        refine syg hs (y_move rfl) ?_; clear hs; (try clear a w); intro a w hs
        refine syg hs (y_indexAddr (m := escM q p) (Rd.st hs (up hrw)) rfl rfl rfl hmr Tryd.underlying123 ti122) ?_; clear hs; (try clear a w); intro a w hs
        refine syg hs (y_loadE (i := escM q p) (j := 0) (Rd.st hs (up hrw)) rfl hr rfl Tryd.underlying122 rfl) ?_; clear hs; (try clear a w); intro a w hs
        refine syg hs (y_pnil rfl rfl Tryd.underlying122) ?_; clear hs; (try clear a w); intro a w hs
        refine sy hs (y_pick rfl rfl) ?_; clear hs; (try clear a w); intro a w hs
        refine RL_nil ?_
        refine hK14 _ _ ?_; clear hK14
        refine W_condF hs rfl ?_
        have hlk := lookup_ok (f := f) (s := s.extract i s.size) (c := c) (m := escM q p) (pr := (escL q).length - (2 * p : Nat)) hg hrw (by
          have : (bytesIn (s.extract i s.size))[0]? = some (c : Int) := by
            rw [bytesIn_ext, List.getElem?_take_of_lt (by omega), List.getElem?_drop]; exact hcb
          exact this) hc2 hH.num hmT hT1 hr (hA.mono hLs) (by have := hH.lt; omega) hrs
        unfold lkV at hlk
        refine W_skip ?_
        refine hK11 _ _ ?_; clear hK11
        refine W_seq fun K15 hK15 => ?_
        refine W_region ?_
        refine sy hs (y_move rfl) ?_; clear hs; (try clear a w); intro a w hs
        refine sy hs (y_move rfl) ?_; clear hs; (try clear a w); intro a w hs
        refine sy hs (y_move rfl) ?_; clear hs; (try clear a w); intro a w hs
        refine sy hs (y_sliceSV (lo := i) (hi := s.size) rfl rfl Tryd.underlying9 (.inr ⟨_, rfl, rfl⟩) (.inl ⟨rfl, rfl⟩) hil' (Nat.le_refl _)) ?_; clear hs; (try clear a w); intro a w hs
        by_cases hp : pfx ((s.extract i s.size).extract 1 (s.extract i s.size).size) (key.extract 1 key.size) = true
        · rw [if_pos hp] at hlk
          obtain ⟨hfit, hesc⟩ := hit_step hH hcb hp
          refine sy hs (y_move rfl) ?_; clear hs; (try clear a w); intro a w hs
          refine sy hs (y_callR (cap := []) (Lr := LX) (Lf := .blk wb (.cells #[v] 160 (0, 0)) :: .row v 5 1 (u8R B) :: L) rfl has106 rfl (permX [_, _] LX L) hlk) ?_; clear hs; (try clear a w); intro a w hs
          refine sy hs (y_move rfl) ?_; clear hs; (try clear a w); intro a w hs
          refine sy hs (y_extract rfl rfl) ?_; clear hs; (try clear a w); intro a w hs
          refine sy hs (y_extract rfl rfl) ?_; clear hs; (try clear a w); intro a w hs
          refine sy hs (y_extract rfl rfl) ?_; clear hs; (try clear a w); intro a w hs
          refine sy hs (y_assign rfl) ?_; clear hs; (try clear a w); intro a w hs
          refine sy hs (y_assign rfl) ?_; clear hs; (try clear a w); intro a w hs
          refine sy hs (y_assign rfl) ?_; clear hs; (try clear a w); intro a w hs
          refine RL_nil ?_
          refine hK15 _ _ ?_; clear hK15
          refine W_seq fun K16 hK16 => ?_
          refine W_region ?_
          refine sy hs (y_move rfl) ?_; clear hs; (try clear a w); intro a w hs
          refine sy hs (y_move rfl) ?_; clear hs; (try clear a w); intro a w hs
          refine syg hs (y_move rfl) ?_; clear hs; (try clear a w); intro a w hs
          refine syg hs (y_eql rfl rfl) ?_; clear hs; (try clear a w); intro a w hs
          rw [decide_eq_false (show ¬ (1 + ((key.extract 1 key.size).size : Int) = 0) by omega)] at hs
          refine sy hs (y_pick rfl rfl) ?_; clear hs; (try clear a w); intro a w hs
          refine sy hs (y_assign rfl) ?_; clear hs; (try clear a w); intro a w hs
          refine RL_nil ?_
          refine hK16 _ _ ?_; clear hK16
          refine W_seq fun K17 hK17 => ?_
          refine W_seq fun K18 hK18 => ?_
          refine W_region ?_
          refine sy hs (y_move rfl) ?_; clear hs; (try clear a w); intro a w hs
          refine RL_nil ?_
          refine hK18 _ _ ?_; clear hK18
          refine W_condT hs rfl ?_
          have hb : (u8R B).length + (s.extract last i).size ≤ 140737488355328 := by rw [u8R_len, ByteArray.size_extract]; omega
          refine W_seq fun K19 hK19 => ?_
          refine D_start hs ([]) [] [(0, true), (1, true), (2, true), (3, true), (4, true), (5, true), (6, true), (7, true), (8, false), (9, true), (10, true), (11, true), (12, true), (13, true)] mixed (by kernel_rfl) ?_; clear hs; (try clear a w); intro a he
          refine dy 0 he rfl (y_move rfl) ?_; clear he; (try clear a); intro a he
          refine dy 1 he rfl (y_move rfl) ?_; clear he; (try clear a); intro a he
          refine dy 2 he rfl (y_move rfl) ?_; clear he; (try clear a); intro a he
          refine dy 3 he rfl (y_move rfl) ?_; clear he; (try clear a); intro a he
          refine dy 4 he rfl (y_sliceSV (lo := last) (hi := i) rfl rfl Tryd.underlying9 (.inr ⟨_, rfl, rfl⟩) (.inr ⟨_, rfl, rfl⟩) hla hil') ?_; clear he; (try clear a); intro a he
          refine dy 5 he rfl (y_mkMeth rfl) ?_; clear he; (try clear a); intro a he
          refine dy 6 he rfl (y_nilMeth rfl n219) ?_; clear he; (try clear a); intro a he
          refine dy 7 he rfl (y_move rfl) ?_; clear he; (try clear a); intro a he
          refine D_eff (i := 8) rfl he ?_; clear he; (try clear a); intro a w hs
          refine RL_invoke (Lr := [.blk wb (.cells #[v] 160 (0, 0)), .row v 5 1 (u8R B)]) (Lf := LX ++ L) hs rfl m219 has116 rfl rfl (aws_ok (e := 160) hb) (.free rfl) (by decide) ?_; clear hs; (try clear a w); rintro _ _ _ a w _ ⟨rfl, rfl, v2, rfl⟩ hs
          replace hs : St _ _ _ (.blk wb (.cells #[v2] 160 (0, 0)) :: .row v2 5 1 (u8R B ++ ((bytesIn (s.extract last i)).map fun x => [Value.int .u8 x])) :: (LX ++ L)) _ _ _ := hs
          rw [u8R_app] at hs
          refine don hs ?_; clear hs; (try clear a w); intro a he
          refine dy 9 he rfl (y_move rfl) ?_; clear he; (try clear a); intro a he
          refine dy 10 he rfl (y_extract rfl rfl) ?_; clear he; (try clear a); intro a he
          refine dy 11 he rfl (y_extract rfl rfl) ?_; clear he; (try clear a); intro a he
          refine dy 12 he rfl (y_assign rfl) ?_; clear he; (try clear a); intro a he
          refine dy 13 he rfl (y_assign rfl) ?_; clear he; (try clear a); intro a he
          refine D_nil he ?_; clear he; (try clear a); intro w hs
          refine hK19 _ _ ?_; clear hK19
          refine W_seq fun K20 hK20 => ?_
          refine W_region ?_
          refine sy hs (y_move rfl) ?_; clear hs; (try clear a w); intro a w hs
          refine sy hs (y_move rfl) ?_; clear hs; (try clear a w); intro a w hs
          refine sy hs (y_add rfl rfl rfl) ?_; clear hs; (try clear a w); intro a w hs
          refine sy hs (y_assign rfl) ?_; clear hs; (try clear a w); intro a w hs
          refine RL_nil ?_
          refine hK20 _ _ ?_; clear hK20
          refine W_seq fun K21 hK21 => ?_
          refine W_seq fun K22 hK22 => ?_
          refine W_region ?_
          refine sy hs (y_move rfl) ?_; clear hs; (try clear a w); intro a w hs
          refine sy hs (y_ifNil rfl Tryd.underlying58) ?_; clear hs; (try clear a w); intro a w hs
          refine RL_nil ?_
          refine hK22 _ _ ?_; clear hK22
          refine W_condF hs rfl ?_
          clear hb
          have hb : (u8R (B ++ bytesIn (s.extract last i))).length + val.size ≤ 140737488355328 := by rw [u8R_len, List.length_append, bytesIn_length, ByteArray.size_extract]; omega
          refine W_skip ?_
          refine hK21 _ _ ?_; clear hK21
          refine W_seq fun K23 hK23 => ?_
          refine W_region ?_
          refine sy hs (y_move rfl) ?_; clear hs; (try clear a w); intro a w hs
          refine sy hs (y_move rfl) ?_; clear hs; (try clear a w); intro a w hs
          refine RL_invoke (Lr := [.blk wb (.cells #[v2] 160 (0, 0)), .row v2 5 1 (u8R (B ++ bytesIn (s.extract last i)))]) (Lf := LX ++ L) hs rfl m219 has116 rfl rfl (aws_ok (e := 160) hb) (.free rfl) (by decide) ?_; clear hs; (try clear a w); rintro _ _ _ a w _ ⟨rfl, rfl, v3, rfl⟩ hs
          replace hs : St _ _ _ (.blk wb (.cells #[v3] 160 (0, 0)) :: .row v3 5 1 (u8R (B ++ bytesIn (s.extract last i)) ++ ((bytesIn (val)).map fun x => [Value.int .u8 x])) :: (LX ++ L)) _ _ _ := hs
          rw [u8R_app] at hs
          refine sy hs (y_move rfl) ?_; clear hs; (try clear a w); intro a w hs
          refine sy hs (y_extract rfl rfl) ?_; clear hs; (try clear a w); intro a w hs
          refine sy hs (y_extract rfl rfl) ?_; clear hs; (try clear a w); intro a w hs
          refine sy hs (y_assign rfl) ?_; clear hs; (try clear a w); intro a w hs
          refine sy hs (y_assign rfl) ?_; clear hs; (try clear a w); intro a w hs
          refine RL_nil ?_
          refine hK23 _ _ ?_; clear hK23
          refine W_seq fun K24 hK24 => ?_
          refine W_region ?_
          refine sy hs (y_move rfl) ?_; clear hs; (try clear a w); intro a w hs
          refine sy hs (y_move rfl) ?_; clear hs; (try clear a w); intro a w hs
          refine sy hs (y_add rfl rfl rfl) ?_; clear hs; (try clear a w); intro a w hs
          refine sy hs (y_assign rfl) ?_; clear hs; (try clear a w); intro a w hs
          refine RL_nil ?_
          refine hK24 _ _ ?_; clear hK24
          refine W_seq fun K25 hK25 => ?_
          refine W_seq fun K26 hK26 => ?_
          refine W_region ?_
          refine sy hs (y_move rfl) ?_; clear hs; (try clear a w); intro a w hs
          refine sy hs (y_ifNil rfl Tryd.underlying58) ?_; clear hs; (try clear a w); intro a w hs
          refine RL_nil ?_
          refine hK26 _ _ ?_; clear hK26
          refine W_condF hs rfl ?_
          refine W_skip ?_
          refine hK25 _ _ ?_; clear hK25
          refine W_seq fun K27 hK27 => ?_
          refine W_region ?_
          refine sy hs (y_move rfl) ?_; clear hs; (try clear a w); intro a w hs
          refine sy hs (y_move rfl) ?_; clear hs; (try clear a w); intro a w hs
          refine sy hs (y_add rfl rfl (wr_i64 (by omega))) ?_; clear hs; (try clear a w); intro a w hs
          refine sy hs (y_assign rfl) ?_; clear hs; (try clear a w); intro a w hs
          refine RL_nil ?_
          refine hK27 _ _ ?_; clear hK27
          refine W_seq fun K28 hK28 => ?_
          refine W_region ?_
          refine sy hs (y_move rfl) ?_; clear hs; (try clear a w); intro a w hs
          refine sy hs (y_assign rfl) ?_; clear hs; (try clear a w); intro a w hs
          refine RL_nil ?_
          refine hK28 _ _ ?_; clear hK28
          refine W_exit ?_
          refine hB10 _ _ ?_
          exact hK (i + (1 + (key.extract 1 key.size).size)) _ _ (by omega) ⟨_, _, v3, _, _, hI.hit hfit hesc, hs.sub ⟨rfl, rfl, rfl, rfl, rfl, rfl, rfl, rfl, rfl, trivial⟩⟩
        · rw [if_neg hp] at hlk
          have hms := miss_step hH hcb (by simpa using hp)
          refine sy hs (y_move rfl) ?_; clear hs; (try clear a w); intro a w hs
          refine sy hs (y_callR (cap := []) (Lr := LX) (Lf := .blk wb (.cells #[v] 160 (0, 0)) :: .row v 5 1 (u8R B) :: L) rfl has106 rfl (permX [_, _] LX L) hlk) ?_; clear hs; (try clear a w); intro a w hs
          refine sy hs (y_move rfl) ?_; clear hs; (try clear a w); intro a w hs
          refine sy hs (y_extract rfl rfl) ?_; clear hs; (try clear a w); intro a w hs
          refine sy hs (y_extract rfl rfl) ?_; clear hs; (try clear a w); intro a w hs
          refine sy hs (y_extract rfl rfl) ?_; clear hs; (try clear a w); intro a w hs
          refine sy hs (y_assign rfl) ?_; clear hs; (try clear a w); intro a w hs
          refine sy hs (y_assign rfl) ?_; clear hs; (try clear a w); intro a w hs
          refine sy hs (y_assign rfl) ?_; clear hs; (try clear a w); intro a w hs
          refine RL_nil ?_
          refine hK15 _ _ ?_; clear hK15
          refine W_seq fun K29 hK29 => ?_
          refine W_region ?_
          refine sy hs (y_move rfl) ?_; clear hs; (try clear a w); intro a w hs
          refine sy hs (y_move rfl) ?_; clear hs; (try clear a w); intro a w hs
          refine sno hs ?_; clear hs; (try clear a w); intro a w hs
          refine sno hs ?_; clear hs; (try clear a w); intro a w hs
          refine sy hs (y_pick rfl rfl) ?_; clear hs; (try clear a w); intro a w hs
          refine sy hs (y_assign rfl) ?_; clear hs; (try clear a w); intro a w hs
          refine RL_nil ?_
          refine hK29 _ _ ?_; clear hK29
          refine W_seq fun K30 hK30 => ?_
          refine W_seq fun K31 hK31 => ?_
          refine W_region ?_
          refine sy hs (y_move rfl) ?_; clear hs; (try clear a w); intro a w hs
          refine RL_nil ?_
          refine hK31 _ _ ?_; clear hK31
          refine W_condF hs rfl ?_
          refine W_skip ?_
          refine hK30 _ _ ?_; clear hK30
          refine W_region ?_
          refine sy hs (y_move rfl) ?_; clear hs; (try clear a w); intro a w hs
          refine sy hs (y_add rfl rfl (wr_i64 (by omega))) ?_; clear hs; (try clear a w); intro a w hs
          refine sy hs (y_assign rfl) ?_; clear hs; (try clear a w); intro a w hs
          refine RL_nil ?_
          exact hK (i + 1) _ _ (by omega) ⟨_, _, v, _, _, hI.step hcb hms, hs.sub ⟨rfl, rfl, rfl, rfl, rfl, rfl, rfl, rfl, rfl, trivial⟩⟩
      · obtain ⟨m, hm, hmo⟩ := fast_ok ((fast_all q c hc2).resolve_left hsp)
        have hmT : m ≤ escT q := by rcases hmo with h | h <;> omega
        refine W_seq fun K32 hK32 => ?_
        refine W_draw hs mixed (by kernel_rfl) ?_; intro a he
        refine qy he (y_move rfl) ?_; clear he; (try clear a); intro a he
        refine qy he (y_move rfl) ?_; clear he; (try clear a); intro a he
        refine qy he (y_move rfl) ?_; clear he; (try clear a); intro a he
        refine qy he (y_ixW rfl rfl Tryd.underlying9 hc) ?_; clear he; (try clear a); intro a he
        first | (refine qy he (y_nilCheck rfl) ?_; clear he; (try clear a); intro a he) | (refine qy he (y_nilE rfl) ?_; clear he; (try clear a); intro a he)
        first | (refine qy he (y_fieldAddr rfl (FO.of (off := 6) Tryd.underlying127 rfl rfl ti87 (by decide))) ?_; clear he; (try clear a); intro a he) | (refine qy he (y_faE rfl (FO.of (off := 6) Tryd.underlying127 rfl rfl ti87 (by decide))) ?_; clear he; (try clear a); intro a he)
        refine qy he (y_ixArr (j := c) rfl rfl Tryd.underlying87 ti5 rfl hc2) ?_; clear he; (try clear a); intro a he
        refine qy he (y_ld rfl Tryd.underlying5 rfl (Cell.blk (up hg) (by rw [show 0 + 6 + c * 1 = 6 + c by omega]; exact gcA_get hm))) ?_; clear he; (try clear a); intro a he
        refine qy he (y_i2i rfl (by rw [Tryd.underlying5]; rfl) Tryd.underlying3 (wr_i64 (by omega))) ?_; clear he; (try clear a); intro a he
        refine qy he (y_assign rfl) ?_; clear he; (try clear a); intro a he
        refine QL_nil he ?_; clear he hs; intro a w hs
        refine hK32 _ _ ?_; clear hK32
        refine W_seq fun K33 hK33 => ?_
        refine W_region ?_
        refine sy hs (y_move rfl) ?_; clear hs; (try clear a w); intro a w hs
        refine sy hs (y_move rfl) ?_; clear hs; (try clear a w); intro a w hs
        first | (refine sy hs (y_nilCheck rfl) ?_; clear hs; (try clear a w); intro a w hs) | (refine sy hs (y_nilE rfl) ?_; clear hs; (try clear a w); intro a w hs)
        first | (refine sy hs (y_fieldAddr rfl (FO.of (off := 5) Tryd.underlying127 rfl rfl ti3 (by decide))) ?_; clear hs; (try clear a w); intro a w hs) | (refine sy hs (y_faE rfl (FO.of (off := 5) Tryd.underlying127 rfl rfl ti3 (by decide))) ?_; clear hs; (try clear a w); intro a w hs)
        refine sy hs (y_ld rfl Tryd.underlying3 rfl (Cell.blk (up hg) gcA_5)) ?_; clear hs; (try clear a w); intro a w hs
        refine sy hs (y_eql rfl rfl) ?_; clear hs; (try clear a w); intro a w hs
        by_cases hmT2 : m = escT q
        · rw [decide_eq_true (show (m : Int) = (escT q : Int) by omega)] at hs
          refine sy hs (y_move rfl) ?_; clear hs; (try clear a w); intro a w hs
          refine sno hs ?_; clear hs; (try clear a w); intro a w hs
          refine sno hs ?_; clear hs; (try clear a w); intro a w hs
          refine sno hs ?_; clear hs; (try clear a w); intro a w hs
          refine sno hs ?_; clear hs; (try clear a w); intro a w hs
          refine sno hs ?_; clear hs; (try clear a w); intro a w hs
          refine sno hs ?_; clear hs; (try clear a w); intro a w hs
          refine sno hs ?_; clear hs; (try clear a w); intro a w hs
          refine sno hs ?_; clear hs; (try clear a w); intro a w hs
          refine sno hs ?_; clear hs; (try clear a w); intro a w hs
          refine sy hs (y_pick rfl rfl) ?_; clear hs; (try clear a w); intro a w hs
          refine RL_nil ?_
          refine hK33 _ _ ?_; clear hK33
          refine W_condT hs rfl ?_
          refine W_seq fun K34 hK34 => ?_
          refine W_region ?_
          refine sy hs (y_move rfl) ?_; clear hs; (try clear a w); intro a w hs
          refine sy hs (y_add rfl rfl (wr_i64 (by omega))) ?_; clear hs; (try clear a w); intro a w hs
          refine sy hs (y_assign rfl) ?_; clear hs; (try clear a w); intro a w hs
          refine RL_nil ?_
          refine hK34 _ _ ?_; clear hK34
          refine W_exit ?_
          refine hB10 _ _ ?_
          exact hK (i + 1) _ _ (by omega) ⟨_, _, v, _, _, hI.step hcb (fast_step hcb hsp), hs.sub ⟨rfl, rfl, rfl, rfl, rfl, rfl, rfl, rfl, rfl, trivial⟩⟩
        · rw [decide_eq_false (show ¬ (m : Int) = (escT q : Int) by omega)] at hs
          have hr : rows[m]? = some [.pointer none] := hTr.free m (by omega) ((hmo.resolve_left hmT2).2)
          have hmr : m < rows.length := (List.getElem?_eq_some_iff.1 hr).1
          refine sy hs (y_move rfl) ?_; clear hs; (try clear a w); intro a w hs
          refine syg hs (y_move rfl) ?_; clear hs; (try clear a w); intro a w hs
          first | (refine syg hs (y_nilCheck rfl) ?_; clear hs; (try clear a w); intro a w hs) | (refine syg hs (y_nilE rfl) ?_; clear hs; (try clear a w); intro a w hs)
          first | (refine syg hs (y_fieldAddr rfl (FO.of (off := 0) Tryd.underlying127 rfl rfl ti125 (by decide))) ?_; clear hs; (try clear a w); intro a w hs) | (refine syg hs (y_faE rfl (FO.of (off := 0) Tryd.underlying127 rfl rfl ti125 (by decide))) ?_; clear hs; (try clear a w); intro a w hs)
          first | (refine syg hs (y_fieldAddr rfl (FO.of (off := 4) Tryd.underlying125 rfl rfl ti123 (by decide))) ?_; clear hs; (try clear a w); intro a w hs) | (refine syg hs (y_faE rfl (FO.of (off := 4) Tryd.underlying125 rfl rfl ti123 (by decide))) ?_; clear hs; (try clear a w); intro a w hs)
          refine syg hs (y_ld rfl Tryd.underlying123 rfl (Cell.blk (up hg) gcA_4)) ?_; clear hs; (try clear a w); intro a w hs
          refine syg hs (y_move rfl) ?_; clear hs; (try clear a w); intro a w hs
          refine syg hs (y_indexAddr (m := m) (Rd.st hs (up hrw)) rfl rfl rfl hmr Tryd.underlying123 ti122) ?_; clear hs; (try clear a w); intro a w hs
          refine syg hs (y_loadE (i := m) (j := 0) (Rd.st hs (up hrw)) rfl hr rfl Tryd.underlying122 rfl) ?_; clear hs; (try clear a w); intro a w hs
          refine syg hs (y_pnn rfl rfl Tryd.underlying122) ?_; clear hs; (try clear a w); intro a w hs
          refine sy hs (y_pick rfl rfl) ?_; clear hs; (try clear a w); intro a w hs
          refine RL_nil ?_
          refine hK33 _ _ ?_; clear hK33
          refine W_condT hs rfl ?_
          refine W_seq fun K35 hK35 => ?_
          refine W_region ?_
          refine sy hs (y_move rfl) ?_; clear hs; (try clear a w); intro a w hs
          refine sy hs (y_add rfl rfl (wr_i64 (by omega))) ?_; clear hs; (try clear a w); intro a w hs
          refine sy hs (y_assign rfl) ?_; clear hs; (try clear a w); intro a w hs
          refine RL_nil ?_
          refine hK35 _ _ ?_; clear hK35
          refine W_exit ?_
          refine hB10 _ _ ?_
          exact hK (i + 1) _ _ (by omega) ⟨_, _, v, _, _, hI.step hcb (fast_step hcb hsp), hs.sub ⟨rfl, rfl, rfl, rfl, rfl, rfl, rfl, rfl, rfl, trivial⟩⟩
    · obtain rfl : i = s.size := by omega
      have hee : s.extract s.size s.size = bs [] := by
        apply ByteArray.ext
        simp
      refine W_skip ?_
      refine hK8 _ _ ?_; clear hK8
      refine W_block fun Qe36 hB36 hO36 => ?_
      refine W_seq fun K37 hK37 => ?_
      refine W_seq fun K38 hK38 => ?_
      refine W_region ?_
      refine sy hs (y_move rfl) ?_; clear hs; (try clear a w); intro a w hs
      refine sy hs (y_move rfl) ?_; clear hs; (try clear a w); intro a w hs
      refine sy hs (y_lenS rfl Tryd.underlying9) ?_; clear hs; (try clear a w); intro a w hs
      refine sy hs (y_neq rfl rfl) ?_; clear hs; (try clear a w); intro a w hs
      rw [decide_eq_false (show ¬ ((s.size : Nat) : Int) ≠ ((s.size : Nat) : Int) from fun h => h rfl)] at hs
      refine sy hs (y_move rfl) ?_; clear hs; (try clear a w); intro a w hs
      refine sno hs ?_; clear hs; (try clear a w); intro a w hs
      refine sno hs ?_; clear hs; (try clear a w); intro a w hs
      refine sno hs ?_; clear hs; (try clear a w); intro a w hs
      refine sno hs ?_; clear hs; (try clear a w); intro a w hs
      refine sno hs ?_; clear hs; (try clear a w); intro a w hs
      refine sno hs ?_; clear hs; (try clear a w); intro a w hs
      refine sy hs (y_pick rfl rfl) ?_; clear hs; (try clear a w); intro a w hs
      refine RL_nil ?_
      refine hK38 _ _ ?_; clear hK38
      refine W_condF hs rfl ?_
      refine W_skip ?_
      refine hK37 _ _ ?_; clear hK37
      refine W_seq fun K39 hK39 => ?_
      refine W_region ?_
      refine sy hs (y_move rfl) ?_; clear hs; (try clear a w); intro a w hs
      refine sy hs (y_move rfl) ?_; clear hs; (try clear a w); intro a w hs
      refine sy hs (y_move rfl) ?_; clear hs; (try clear a w); intro a w hs
      refine sy hs (y_sliceSV (lo := s.size) (hi := s.size) hee rfl Tryd.underlying9 (.inr ⟨_, rfl, rfl⟩) (.inl ⟨rfl, rfl⟩) (Nat.le_refl _) (Nat.le_refl _)) ?_; clear hs; (try clear a w); intro a w hs
      refine sy hs (y_move rfl) ?_; clear hs; (try clear a w); intro a w hs
      refine sy hs (y_callR (cap := []) (Lr := LX) (Lf := .blk wb (.cells #[v] 160 (0, 0)) :: .row v 5 1 (u8R B) :: L) rfl has106 rfl (permX [_, _] LX L) (lookup_end hg)) ?_; clear hs; (try clear a w); intro a w hs
      refine sy hs (y_move rfl) ?_; clear hs; (try clear a w); intro a w hs
      refine sy hs (y_extract rfl rfl) ?_; clear hs; (try clear a w); intro a w hs
      refine sy hs (y_extract rfl rfl) ?_; clear hs; (try clear a w); intro a w hs
      refine sy hs (y_extract rfl rfl) ?_; clear hs; (try clear a w); intro a w hs
      refine sy hs (y_assign rfl) ?_; clear hs; (try clear a w); intro a w hs
      refine sy hs (y_assign rfl) ?_; clear hs; (try clear a w); intro a w hs
      refine sy hs (y_assign rfl) ?_; clear hs; (try clear a w); intro a w hs
      refine RL_nil ?_
      refine hK39 _ _ ?_; clear hK39
      refine W_seq fun K40 hK40 => ?_
      refine W_region ?_
      refine sy hs (y_move rfl) ?_; clear hs; (try clear a w); intro a w hs
      refine sy hs (y_move rfl) ?_; clear hs; (try clear a w); intro a w hs
      refine sno hs ?_; clear hs; (try clear a w); intro a w hs
      refine sno hs ?_; clear hs; (try clear a w); intro a w hs
      refine sy hs (y_pick rfl rfl) ?_; clear hs; (try clear a w); intro a w hs
      refine sy hs (y_assign rfl) ?_; clear hs; (try clear a w); intro a w hs
      refine RL_nil ?_
      refine hK40 _ _ ?_; clear hK40
      refine W_seq fun K41 hK41 => ?_
      refine W_seq fun K42 hK42 => ?_
      refine W_region ?_
      refine sy hs (y_move rfl) ?_; clear hs; (try clear a w); intro a w hs
      refine RL_nil ?_
      refine hK42 _ _ ?_; clear hK42
      refine W_condF hs rfl ?_
      refine W_skip ?_
      refine hK41 _ _ ?_; clear hK41
      refine W_region ?_
      refine sy hs (y_move rfl) ?_; clear hs; (try clear a w); intro a w hs
      refine sy hs (y_add rfl rfl (wr_i64 (by omega))) ?_; clear hs; (try clear a w); intro a w hs
      refine sy hs (y_assign rfl) ?_; clear hs; (try clear a w); intro a w hs
      refine RL_nil ?_
      exact hK (s.size + 1) _ _ (by omega) ⟨_, _, v, _, _, hI.fin, hs.sub ⟨rfl, rfl, rfl, rfl, rfl, rfl, rfl, rfl, rfl, trivial⟩⟩
  · obtain rfl : i = s.size + 1 := by
      have : ¬ ((i : Nat) : Int) ≤ ((s.size : Nat) : Int) := by simpa using hil
      have := hI.2.1
      omega
    have hout := hI.out
    refine W_exit ?_
    refine hB7 _ _ ?_
    refine hK5 _ _ ?_; clear hK5
    refine W_seq fun K43 hK43 => ?_
    refine W_seq fun K44 hK44 => ?_
    refine W_region ?_
    refine sy hs (y_move rfl) ?_; clear hs; (try clear a w); intro a w hs
    refine sy hs (y_move rfl) ?_; clear hs; (try clear a w); intro a w hs
    refine sy hs (y_lenS rfl Tryd.underlying9) ?_; clear hs; (try clear a w); intro a w hs
    refine sy hs (y_neq rfl rfl) ?_; clear hs; (try clear a w); intro a w hs
    refine RL_nil ?_
    refine hK44 _ _ ?_; clear hK44
    first | refine W_condP hs rfl (fun hls => ?_) (fun hls => ?_) | refine W_cond hs rfl (fun hls => ?_) (fun hls => ?_)
    · have hb : (u8R B).length + (s.extract last s.size).size ≤ 140737488355328 := by rw [u8R_len, ByteArray.size_extract]; omega
      refine W_seq fun K45 hK45 => ?_
      refine D_start hs ([]) [] [(0, true), (1, true), (2, true), (3, true), (4, true), (5, true), (6, true), (7, false), (8, true), (9, true), (10, true), (11, true), (12, true)] mixed (by kernel_rfl) ?_; clear hs; (try clear a w); intro a he
      refine dy 0 he rfl (y_move rfl) ?_; clear he; (try clear a); intro a he
      refine dy 1 he rfl (y_move rfl) ?_; clear he; (try clear a); intro a he
      refine dy 2 he rfl (y_move rfl) ?_; clear he; (try clear a); intro a he
      refine dy 3 he rfl (y_sliceSV (lo := last) (hi := s.size) rfl rfl Tryd.underlying9 (.inr ⟨_, rfl, rfl⟩) (.inl ⟨rfl, rfl⟩) hl2 (Nat.le_refl _)) ?_; clear he; (try clear a); intro a he
      refine dy 4 he rfl (y_mkMeth rfl) ?_; clear he; (try clear a); intro a he
      refine dy 5 he rfl (y_nilMeth rfl n219) ?_; clear he; (try clear a); intro a he
      refine dy 6 he rfl (y_move rfl) ?_; clear he; (try clear a); intro a he
      refine D_eff (i := 7) rfl he ?_; clear he; (try clear a); intro a w hs
      refine RL_invoke (Lr := [.blk wb (.cells #[v] 160 (0, 0)), .row v 5 1 (u8R B)]) (Lf := LX ++ L) hs rfl m219 has116 rfl rfl (aws_ok (e := 160) hb) (.free rfl) (by decide) ?_; clear hs; (try clear a w); rintro _ _ _ a w _ ⟨rfl, rfl, v2, rfl⟩ hs
      replace hs : St _ _ _ (.blk wb (.cells #[v2] 160 (0, 0)) :: .row v2 5 1 (u8R B ++ ((bytesIn (s.extract last s.size)).map fun x => [Value.int .u8 x])) :: (LX ++ L)) _ _ _ := hs
      rw [u8R_app, ← hout] at hs
      refine don hs ?_; clear hs; (try clear a w); intro a he
      refine dy 8 he rfl (y_move rfl) ?_; clear he; (try clear a); intro a he
      refine dy 9 he rfl (y_extract rfl rfl) ?_; clear he; (try clear a); intro a he
      refine dy 10 he rfl (y_extract rfl rfl) ?_; clear he; (try clear a); intro a he
      refine dy 11 he rfl (y_assign rfl) ?_; clear he; (try clear a); intro a he
      refine dy 12 he rfl (y_assign rfl) ?_; clear he; (try clear a); intro a he
      refine D_nil he ?_; clear he; (try clear a); intro w hs
      refine hK45 _ _ ?_; clear hK45
      refine W_region ?_
      refine sy hs (y_move rfl) ?_; clear hs; (try clear a w); intro a w hs
      refine sy hs (y_move rfl) ?_; clear hs; (try clear a w); intro a w hs
      refine sy hs (y_add rfl rfl rfl) ?_; clear hs; (try clear a w); intro a w hs
      refine sy hs (y_assign rfl) ?_; clear hs; (try clear a w); intro a w hs
      refine RL_nil ?_
      refine hK43 _ _ ?_; clear hK43
      refine W_ret ?_
      refine Rt_2 hs rfl rfl rfl ?_
      exact ⟨_, _, .blk wb (.cells #[v2] 160 (0, 0)) :: .row v2 5 1 (u8R (escA q false (bytesIn s))) :: LX, rfl, .refl _, hs.cw, rfl, v2, rfl⟩
    · obtain rfl : last = s.size := by
        have : ¬ ((last : Nat) : Int) ≠ ((s.size : Nat) : Int) := by simpa using hls
        omega
      have hee : s.extract s.size s.size = bs [] := by
        apply ByteArray.ext
        simp
      rw [hee, show bytesIn (bs []) = [] from rfl, List.append_nil] at hout
      refine W_skip ?_
      refine hK43 _ _ ?_; clear hK43
      refine W_ret ?_
      refine Rt_2 hs rfl rfl rfl ?_
      exact ⟨_, f, .blk wb (.cells #[v] 160 (0, 0)) :: .row v 5 1 (u8R (escA q false (bytesIn s))) :: LX, rfl, .refl _, by rw [hout]; exact hs.cw, rfl, v, rfl⟩
end Go.Proofs.YtklcdfnhdljkjaaDoor
namespace Go.Proofs.YtklcdfnhdljkjaaDoor
open Go.RowKit Go.Sl
/-- A text, escaped. -/
def escS (q : Bool) (s : ByteArray) : ByteArray := bytesOf (escA q false (bytesIn s))
theorem GivesL.does {P : Program} {fn : FuncId} {args : List Value} {f : Fz} {Lr : List Ent} {v : Value} (h : GivesL P fn args f Lr v) : Does P fn args f Lr (fun v' f' L' => f' = f ∧ v' = v ∧ L' = Lr) :=
  fun w0 L w hC => (h w0 L w hC).mono fun _ _ ⟨h1, h2⟩ => ⟨v, f, Lr, h1, .refl _, h2, rfl, rfl, rfl⟩
theorem y_mkFn1 {P : Program} {C : World → Prop} {n : Nat} {E : List (Nat × Value)} {d : Option Tmp} {ty : TypeId} {pos : String} {af : Array Edge} {g : Option (Nat × Bool)} {v : Value} {x : Operand} {gn : FuncId} (hx : opv E x = some v) : Y P C n E ⟨d, .makeFunc (.func gn) #[x] #[], ty, pos, af, g⟩ (.func (.func gn) #[v] #[]) :=
  .of fun a ha w _ => by simp [execOp, ha.eval hx, Instr.makeFunc]
set_option maxRecDepth 20000 in
set_option maxHeartbeats 4000000 in
theorem grep_ok {f : Fz} {LX : List Ent} {g : Nat} {q : Bool} {s : ByteArray} (hT : TrieL (escL q) (escM q) (escT q) (escN q) g LX) (hsz : s.size ≤ 1099511627776) :
    GivesL Tryd.prog 103 [.pointer (some ⟨g, 0, none⟩), .string s] f LX (.string (escS q s)) := by
  intro w0 L w hC
  refine enter Tryd.func103 rfl Tryd.ntmps103 (by simp) hC fun a hs => ?_
  refine W_seq fun K1 hK1 => ?_
  refine W_region ?_
  refine sy hs (y_assign rfl) ?_; clear hs; (try clear a w); intro a w hs
  refine RL_nil ?_
  refine hK1 _ _ ?_; clear hK1
  refine W_seq fun K2 hK2 => ?_
  refine W_region ?_
  refine sy hs (y_move rfl) ?_; clear hs; (try clear a w); intro a w hs
  refine sy hs (y_lenS rfl Tryd.underlying9) ?_; clear hs; (try clear a w); intro a w hs
  refine RL_make0 (m := s.size) hs rfl rfl Tryd.underlying160 ti5 (by omega) ?_; clear hs; (try clear a w); intro v a w hs
  have hv := hs.one (i := 0) rfl
  refine RL_alloc hs ti160 (.free rfl) (by decide) ?_; clear hs; (try clear a w); intro wb a w hs
  refine RL_storeBlk (i := 0) (o := 0) (u := v) hs rfl rfl rfl ti160 hv (by decide) rfl (.free rfl) ?_; clear hs; (try clear a w); intro a w hs
  replace hs : St _ _ _ ((.blk wb (.cells #[v] 160 (0, 0)) :: .row v 5 1 (u8R []) :: LX) ++ L) _ _ _ := hs
  refine RL_nil ?_
  refine hK2 _ _ ?_; clear hK2
  refine W_seq fun K3 hK3 => ?_
  refine W_region ?_
  refine sy hs (y_move rfl) ?_; clear hs; (try clear a w); intro a w hs
  refine sy hs (y_mkIface rfl Tryd.underlying161 rfl) ?_; clear hs; (try clear a w); intro a w hs
  refine sy hs (y_move rfl) ?_; clear hs; (try clear a w); intro a w hs
  refine RL_call (Lr := .blk wb (.cells #[v] 160 (0, 0)) :: .row v 5 1 (u8R []) :: LX) (Lf := L) hs rfl has104 rfl rfl (ws_ok hT hsz) (.free rfl) (by decide) ?_; clear hs; (try clear a w); rintro _ _ _ a w _ ⟨rfl, v2, rfl⟩ hs
  replace hs : St _ _ _ (.blk wb (.cells #[v2] 160 (0, 0)) :: .row v2 5 1 (u8R (escA q false (bytesIn s))) :: (LX ++ L)) _ _ _ := hs
  refine RL_nil ?_
  refine hK3 _ _ ?_; clear hK3
  refine W_seq fun K4 hK4 => ?_
  refine W_region ?_
  refine sy hs (y_ld (u := v2) rfl Tryd.underlying160 rfl (Cell.blk (.head _) rfl)) ?_; clear hs; (try clear a w); intro a w hs
  refine sy hs (y_b2s (xs := escA q false (bytesIn s)) rfl Tryd.underlying160 Tryd.underlying5 Tryd.underlying9 (Rd.st hs (.tail _ (.head _)))) ?_; clear hs; (try clear a w); intro a w hs
  refine sy hs (y_assign rfl) ?_; clear hs; (try clear a w); intro a w hs
  refine RL_nil ?_
  refine hK4 _ _ ?_; clear hK4
  refine W_ret ?_
  refine Rt_1 hs rfl rfl ?_
  exact ⟨rfl, hs.cw.sub (.cons _ (.cons _ (List.Sublist.refl _)))⟩
set_option maxRecDepth 20000 in
set_option maxHeartbeats 4000000 in
theorem rep_ok {f : Fz} {rb : Nat} {ov : Value} {q : Bool} {s : ByteArray} (h0 : RS tStr f ov (escL q)) (hsz : s.size ≤ 1099511627776) :
    Does Tryd.prog 25 [.pointer (some ⟨rb, 0, none⟩), .string s] f [.blk rb (.cells (rcA 0 0 .nilIface ov) 83 (0, 0))] (fun v f' _ => f' = f ∧ v = .string (escS q s)) := by
  intro w0 L w hC
  replace hC : Cw w0 f (.blk rb (.cells (rcA 0 0 .nilIface ov) 83 (0, 0)) :: L) w := hC
  refine enter Tryd.func25 rfl Tryd.ntmps25 (by simp) hC fun a hs => ?_
  refine W_seq fun K1 hK1 => ?_
  refine W_region ?_
  refine sy hs (y_assign rfl) ?_; clear hs; (try clear a w); intro a w hs
  refine RL_nil ?_
  refine hK1 _ _ ?_; clear hK1
  refine W_seq fun K2 hK2 => ?_
  refine W_region ?_
  refine sy hs (y_move rfl) ?_; clear hs; (try clear a w); intro a w hs
  first | (refine sy hs (y_nilCheck rfl) ?_; clear hs; (try clear a w); intro a w hs) | (refine sy hs (y_nilE rfl) ?_; clear hs; (try clear a w); intro a w hs)
  first | (refine sy hs (y_fieldAddr rfl (FO.of (off := 0) Tryd.underlying83 rfl rfl ti79 (by decide))) ?_; clear hs; (try clear a w); intro a w hs) | (refine sy hs (y_faE rfl (FO.of (off := 0) Tryd.underlying83 rfl rfl ti79 (by decide))) ?_; clear hs; (try clear a w); intro a w hs)
  refine sy hs (y_move rfl) ?_; clear hs; (try clear a w); intro a w hs
  refine sy hs (y_mkFn1 rfl) ?_; clear hs; (try clear a w); intro a w hs
  refine RL_call (Lr := [.blk rb (.cells (rcA 0 0 .nilIface ov) 83 (0, 0))]) (Lf := L) hs rfl has34 rfl rfl (once_ok (esc_ok q) h0) (.free rfl) (by decide) ?_; clear hs; (try clear a w); rintro _ _ _ a w _ ⟨rfl, g, LX, hTr, rfl⟩ hs
  replace hs : St _ _ _ (.blk rb (.cells (rcA 1 0 (.iface 105 (.pointer (some ⟨g, 0, none⟩))) (.slice none 0 0)) 83 (0, 0)) :: (LX ++ L)) _ _ _ := hs
  refine RL_nil ?_
  refine hK2 _ _ ?_; clear hK2
  refine W_seq fun K3 hK3 => ?_
  refine W_region ?_
  refine sy hs (y_move rfl) ?_; clear hs; (try clear a w); intro a w hs
  first | (refine sy hs (y_nilCheck rfl) ?_; clear hs; (try clear a w); intro a w hs) | (refine sy hs (y_nilE rfl) ?_; clear hs; (try clear a w); intro a w hs)
  first | (refine sy hs (y_fieldAddr rfl (FO.of (off := 3) Tryd.underlying83 rfl rfl ti81 (by decide))) ?_; clear hs; (try clear a w); intro a w hs) | (refine sy hs (y_faE rfl (FO.of (off := 3) Tryd.underlying83 rfl rfl ti81 (by decide))) ?_; clear hs; (try clear a w); intro a w hs)
  refine sy hs (y_ld (u := .iface 105 (.pointer (some ⟨g, 0, none⟩))) rfl Tryd.underlying81 rfl (Cell.blk (.head _) rfl)) ?_; clear hs; (try clear a w); intro a w hs
  replace hs : St _ _ _ (LX ++ (.blk rb (.cells (rcA 1 0 (.iface 105 (.pointer (some ⟨g, 0, none⟩))) (.slice none 0 0)) 83 (0, 0)) :: L)) _ _ _ := ⟨hs.ev, hs.cw.perm (permX [_] LX L)⟩
  refine sy hs (y_move rfl) ?_; clear hs; (try clear a w); intro a w hs
  refine RL_invoke (Lr := LX) (Lf := .blk rb (.cells (rcA 1 0 (.iface 105 (.pointer (some ⟨g, 0, none⟩))) (.slice none 0 0)) 83 (0, 0)) :: L) hs rfl m159 has103 rfl rfl (GivesL.does (grep_ok hTr hsz)) (.free rfl) (by decide) ?_; clear hs; (try clear a w); rintro _ _ _ a w _ ⟨rfl, rfl, rfl⟩ hs
  refine sy hs (y_assign rfl) ?_; clear hs; (try clear a w); intro a w hs
  refine RL_nil ?_
  refine hK3 _ _ ?_; clear hK3
  refine W_ret ?_
  refine Rt_1 hs rfl rfl ?_
  exact ⟨_, _, [], rfl, .refl _, hs.cw.sub ((List.sublist_cons_self _ _).trans (List.sublist_append_right _ _)), rfl, rfl⟩
set_option maxRecDepth 20000 in
set_option maxHeartbeats 4000000 in
theorem newr_ok {f : Fz} {sv : Value} {l : List ByteArray} (h0 : RS tStr f sv l) (hl : l.length ≤ 1000) (hev : l.length % 2 = 0) :
    Does Tryd.prog 24 [sv] f [] (fun v f' L' => ∃ b ov, v = .pointer (some ⟨b, 0, none⟩) ∧ RS tStr f' ov l ∧ L' = [.blk b (.cells (rcA 0 0 .nilIface ov) 83 (0, 0))]) := by
  intro w0 L w hC
  replace hC : Cw w0 f L w := hC
  obtain ⟨rw0, hR0, hW0⟩ := h0
  have hlen := hW0.len
  refine enter Tryd.func24 rfl Tryd.ntmps24 (by simp) hC fun a hs => ?_
  refine W_seq fun K1 hK1 => ?_
  refine W_region ?_
  refine sy hs (y_assign rfl) ?_; clear hs; (try clear a w); intro a w hs
  refine RL_nil ?_
  refine hK1 _ _ ?_; clear hK1
  refine W_seq fun K2 hK2 => ?_
  refine W_seq fun K3 hK3 => ?_
  refine W_region ?_
  refine sy hs (y_move rfl) ?_; clear hs; (try clear a w); intro a w hs
  refine sy hs (y_lenR0 hR0 rfl Tryd.underlying47) ?_; clear hs; (try clear a w); intro a w hs
  refine sy hs (y_rem rfl rfl (by omega) (by omega)) ?_; clear hs; (try clear a w); intro a w hs
  refine sy hs (y_eql rfl rfl) ?_; clear hs; (try clear a w); intro a w hs
  refine RL_nil ?_
  refine hK3 _ _ ?_; clear hK3
  rw [decide_eq_false (show ¬ ((rw0.length : Int) % 2 = 1) by omega)] at hs
  refine W_condF hs rfl ?_
  refine W_skip ?_
  refine hK2 _ _ ?_; clear hK2
  refine W_seq fun K4 hK4 => ?_
  refine W_region ?_
  refine sy hs (y_move rfl) ?_; clear hs; (try clear a w); intro a w hs
  refine RL_appNil hs rfl rfl (hR0.up (L := _)) Tryd.underlying47 ti9 (by decide) (by omega) ?_; clear hs; (try clear a w); intro ov a w hs
  have hov := hs.one (i := 0) rfl
  refine sy hs (y_buildS (places := [(0, 3), (3, 1), (4, 1)]) rfl Tryd.underlying83 ti83 (by kernel_rfl) (by decide) rfl) ?_; clear hs; (try clear a w); intro a w hs; simp only [List.set] at hs
  refine sbox hs rfl ?_; clear hs; (try clear a w); intro b a w hs
  refine sy hs (y_assign rfl) ?_; clear hs; (try clear a w); intro a w hs
  refine RL_nil ?_
  refine hK4 _ _ ?_; clear hK4
  refine W_ret ?_
  refine Rt_1 hs rfl rfl ?_
  obtain ⟨f1, hf1, hs2, hR⟩ := hs.frzAt 1 rfl
  exact ⟨_, f1, [.blk b (.cells (rcA 0 0 .nilIface ov) 83 (0, 0))], rfl, hf1, hs2.cw, b, ov, rfl, ⟨rw0, hR, hW0.le hf1⟩, rfl⟩
def strR (l : List ByteArray) : List (List Value) := l.map fun s => [.string s]
theorem strR_W {f : Fz} : ∀ l, RW tStr f (strR l) l
  | [] => trivial
  | _ :: r => ⟨rfl, strR_W r⟩
theorem strR_one {l : List ByteArray} : ∀ r ∈ strR l, OneRow 1 r := by
  intro r hr
  obtain ⟨s, _, rfl⟩ := List.mem_map.1 hr
  exact AllC.row ⟨rfl, trivial⟩ rfl
set_option maxRecDepth 20000 in
set_option maxHeartbeats 4000000 in
theorem Escape_ok {f : Fz} {q : Bool} {s : ByteArray} (hsz : s.size ≤ 1099511627776) : Gives Tryd.prog 8 [.string s, .bool q] f (.string (escS q s)) := by
  intro w0 L w hC
  refine enter Tryd.func8 rfl Tryd.ntmps8 (by simp) hC fun a hs => ?_
  refine W_seq fun K1 hK1 => ?_
  refine W_region ?_
  refine sy hs (y_assign rfl) ?_; clear hs; (try clear a w); intro a w hs
  refine RL_nil ?_
  refine hK1 _ _ ?_; clear hK1
  refine W_seq fun K2 hK2 => ?_
  refine W_region ?_
  refine RL_bsN (parts := [(0, .const (.string (bs [38]))), (1, .const (.string (bs [38, 97, 109, 112, 59]))), (2, .const (.string (bs [60]))), (3, .const (.string (bs [38, 108, 116, 59]))), (4, .const (.string (bs [62]))), (5, .const (.string (bs [38, 103, 116, 59]))), (6, .const (.string (bs [194, 160]))), (7, .const (.string (bs [38, 110, 98, 115, 112, 59]))), (8, .const (.string (bs [13]))), (9, .const (.string (bs [38, 35, 49, 51, 59])))]) (us := (escL false).map .string) (rows := strR (escL false)) hs rfl Tryd.underlying47 ti9 (by decide) rfl rfl strR_one ?_; clear hs; (try clear a w); intro v6 a w hs
  refine sy hs (y_assign rfl) ?_; clear hs; (try clear a w); intro a w hs
  refine RL_nil ?_
  refine hK2 _ _ ?_; clear hK2
  refine W_seq fun K3 hK3 => ?_
  refine W_seq fun K4 hK4 => ?_
  refine W_region ?_
  refine sy hs (y_move rfl) ?_; clear hs; (try clear a w); intro a w hs
  refine RL_nil ?_
  refine hK4 _ _ ?_; clear hK4
  first | refine W_condP hs rfl (fun hq => ?_) (fun hq => ?_) | refine W_cond hs rfl (fun hq => ?_) (fun hq => ?_)
  · subst hq
    refine W_region ?_
    refine sy hs (y_move rfl) ?_; clear hs; (try clear a w); intro a w hs
    refine RL_bsN (parts := [(0, .const (.string (bs [34]))), (1, .const (.string (bs [38, 113, 117, 111, 116, 59])))]) (us := [.string (bs [34]), .string (bs [38, 113, 117, 111, 116, 59])]) (rows := strR [(bs [34]), (bs [38, 113, 117, 111, 116, 59])]) hs rfl Tryd.underlying47 ti9 (by decide) rfl rfl strR_one ?_; clear hs; (try clear a w); intro v9 a w hs
    refine RL_append (i := 1) hs rfl rfl rfl (Rd.st hs (.head _)) Tryd.underlying47 ti9 (by decide) (by decide) (.free rfl) (by decide) ?_; clear hs; (try clear a w); intro v10 a w hs
    replace hs : St _ _ _ (.row v10 9 1 (strR (escL true)) :: L) _ _ _ := hs.tail
    obtain ⟨f1, hf1, hs2, hR⟩ := hs.frzAt 0 rfl
    clear hs; have hs := hs2; clear hs2
    replace hs : St _ _ _ L _ _ _ := hs
    have h0 : RS tStr f1 v10 (escL true) := ⟨_, hR, strR_W _⟩
    refine sy hs (y_assign rfl) ?_; clear hs; (try clear a w); intro a w hs
    refine RL_nil ?_
    refine hK3 _ _ ?_; clear hK3
    refine W_seq fun K5 hK5 => ?_
    refine W_region ?_
    refine sy hs (y_move rfl) ?_; clear hs; (try clear a w); intro a w hs
    refine RL_call (Lr := []) (Lf := L) hs rfl has24 rfl rfl (newr_ok h0 (by decide) (by decide)) (.free rfl) (by decide) ?_; clear hs; (try clear a w); rintro _ f2 _ a w hf2 ⟨b, ov, rfl, h1, rfl⟩ hs
    refine sy hs (y_move rfl) ?_; clear hs; (try clear a w); intro a w hs
    refine RL_call (Lr := [.blk b (.cells (rcA 0 0 .nilIface ov) 83 (0, 0))]) (Lf := L) hs rfl has25 rfl rfl (rep_ok h1 hsz) (.free rfl) (by decide) ?_; clear hs; (try clear a w); rintro _ _ L3 a w _ ⟨rfl, rfl⟩ hs
    refine sy hs (y_assign rfl) ?_; clear hs; (try clear a w); intro a w hs
    refine RL_nil ?_
    refine hK5 _ _ ?_; clear hK5
    refine W_ret ?_
    refine Rt_1 hs rfl rfl ?_
    exact ⟨rfl, (hs.weak (hf1.trans hf2)).cw.sub (List.sublist_append_right _ _)⟩
  · subst hq
    obtain ⟨f1, hf1, hs2, hR⟩ := hs.frzAt 0 rfl
    clear hs; have hs := hs2; clear hs2
    replace hs : St _ _ _ L _ _ _ := hs
    have h0 : RS tStr f1 v6 (escL false) := ⟨_, hR, strR_W _⟩
    refine W_skip ?_
    refine hK3 _ _ ?_; clear hK3
    refine W_seq fun K6 hK6 => ?_
    refine W_region ?_
    refine sy hs (y_move rfl) ?_; clear hs; (try clear a w); intro a w hs
    refine RL_call (Lr := []) (Lf := L) hs rfl has24 rfl rfl (newr_ok h0 (by decide) (by decide)) (.free rfl) (by decide) ?_; clear hs; (try clear a w); rintro _ f2 _ a w hf2 ⟨b, ov, rfl, h1, rfl⟩ hs
    refine sy hs (y_move rfl) ?_; clear hs; (try clear a w); intro a w hs
    refine RL_call (Lr := [.blk b (.cells (rcA 0 0 .nilIface ov) 83 (0, 0))]) (Lf := L) hs rfl has25 rfl rfl (rep_ok h1 hsz) (.free rfl) (by decide) ?_; clear hs; (try clear a w); rintro _ _ L3 a w _ ⟨rfl, rfl⟩ hs
    refine sy hs (y_assign rfl) ?_; clear hs; (try clear a w); intro a w hs
    refine RL_nil ?_
    refine hK6 _ _ ?_; clear hK6
    refine W_ret ?_
    refine Rt_1 hs rfl rfl ?_
    exact ⟨rfl, (hs.weak (hf1.trans hf2)).cw.sub (List.sublist_append_right _ _)⟩
end Go.Proofs.YtklcdfnhdljkjaaDoor
