/-
  Walks and laws of this seat.
-/
import Derived.Test.YtpfdbeafdjnbnaaGreatDoorBash
import Derived.Test.YtpfdbeafdjnbnaaGreatDoorX0
import Derived.Test.YtpfdbeafdjnbnaaGreatDoorRows
import Derived.Shelf.Unicode.ValidAny
namespace Go.Sl
set_option linter.unusedVariables false
set_option linter.unusedSimpArgs false
set_option linter.unusedSectionVars false
def byL (s : ByteArray) : List Nat := s.data.toList.map (·.toNat)
theorem zgo (s : ByteArray) : (byL s).length = s.size := by rw [byL, List.length_map]; rfl
def contL (l : List Nat) (k : Nat) : Bool := match l[k]? with
  | some b => b / 64 == 2
  | none => false
def decL (l : List Nat) : Nat × Nat :=
  let b0 := l.getD 0 0
  if b0 < 128 then (b0,1)
  else if b0 / 32 == 6 && contL l 1 then
    let c := (b0 % 32) * 64 + l.getD 1 0 % 64
    if c ≥ 128 then (c,2) else (65533,1)
  else if b0 / 16 == 14 && contL l 1 && contL l 2 then
    let c := (b0 % 16) * 4096 + (l.getD 1 0 % 64) * 64 + l.getD 2 0 % 64
    if c ≥ 2048 && Utf8.valid c then (c,3) else (65533,1)
  else if b0 / 8 == 30 && contL l 1 && contL l 2 && contL l 3 then
    let c := (b0 % 8) * 262144 + (l.getD 1 0 % 64) * 4096 + (l.getD 2 0 % 64) * 64 + l.getD 3 0 % 64
    if c ≥ 65536 && Utf8.valid c then (c,4) else (65533,1)
  else (65533,1)
theorem get_byL (s : ByteArray) (i : Nat) : (s.get! i).toNat = (byL s).getD i 0 := by
  obtain ⟨d⟩ := s
  show (d[i]!).toNat = (d.toList.map (·.toNat)).getD i 0
  rw [List.getD_eq_getElem?_getD, List.getElem?_map]
  by_cases h : i < d.size
  · rw [getElem!_pos d i h, Array.getElem?_toList, Array.getElem?_eq_getElem h]; rfl
  · rw [getElem!_neg d i h, Array.getElem?_toList, Array.getElem?_eq_none (by omega)]; rfl
theorem ziy (s : ByteArray) (i : Nat) : Utf8.decode s i = decL ((byL s).drop i) := by
  have g : ∀ k,(s.get! (i + k)).toNat = ((byL s).drop i).getD k 0 := fun k => by
    rw [get_byL, List.getD_eq_getElem?_getD, List.getD_eq_getElem?_getD, List.getElem?_drop]
  have c : ∀ k,(decide (i + k < s.size) && ((byL s).drop i).getD k 0 / 64 == 2) = contL ((byL s).drop i) k := fun k => by
    rw [contL, List.getD_eq_getElem?_getD, List.getElem?_drop]
    by_cases h : i + k < s.size
    · have h' : i + k < (byL s).length := by rw [zgo]; exact h
      rw [List.getElem?_eq_getElem h']
      simp [h]
    · have h' : (byL s).length ≤ i + k := by rw [zgo]; omega
      rw [List.getElem?_eq_none h']
      simp [h]
  simp only [Utf8.decode, decL, g, Utf8.runeError, c]
def runesL : Nat → List Nat → List Int
  | 0, _ => []
  | _ + 1,[] => []
  | m + 1, b :: l => ((decL (b :: l)).1 : Int) :: runesL m ((b :: l).drop (decL (b :: l)).2)
theorem zmy (s : ByteArray) : ∀ (m i : Nat), runesFr s m i = runesL m ((byL s).drop i)
  | 0, i => rfl
  | m + 1, i => by
    simp only [runesFr]
    cases e : (byL s).drop i with
    | nil =>
      have : s.size ≤ i := by rw [← zgo]; exact List.drop_eq_nil_iff.1 e
      rw [if_neg (by omega)]; rfl
    | cons b l =>
      have : i < s.size := by
        rw [← zgo]
        apply Nat.lt_of_not_le
        intro h
        rw [List.drop_eq_nil_iff.2 h] at e; cases e
      rw [if_pos this, zmy s m, ziy, e]
      simp only [runesL]
      rw [← e, List.drop_drop]
def runesS (l : List Nat) : List Int := runesL l.length l
theorem zkl (s : ByteArray) : runesIn s = runesS (byL s) := by rw [runesIn, zmy, runesS, zgo]; rfl
theorem zl3 (l : List Nat) : 1 ≤ (decL l).2 := by
  simp only [decL]
  repeat' split
  all_goals simp
theorem znl : ∀ (m k : Nat) (l : List Nat), l.length ≤ m → runesL (m + k) l = runesL m l
  | 0, k, l, h => by
    have : l = [] := List.eq_nil_of_length_eq_zero (by omega)
    subst this
    cases k <;> rfl
  | m + 1, k,[], h => by rw [show m + 1 + k = (m + k) + 1 by omega]; rfl
  | m + 1, k, b :: l, h => by
    rw [show m + 1 + k = (m + k) + 1 by omega]
    simp only [runesL]
    rw [znl m k _ (by have := zl3 (b :: l); simp at h ⊢; omega)]
theorem zpq {m : Nat} {l : List Nat} (h : l.length ≤ m) : runesL m l = runesS l := by
  have := znl l.length (m - l.length) l (Nat.le_refl _)
  rwa [show l.length + (m - l.length) = m by omega] at this
theorem runesS_nil : runesS [] = [] := rfl
theorem znk (b : Nat) (l : List Nat) : runesS (b :: l) = ((decL (b :: l)).1 : Int) :: runesS ((b :: l).drop (decL (b :: l)).2) := by
  have := zl3 (b :: l)
  rw [runesS, List.length_cons, runesL, zpq (by simp; omega)]
theorem zp9 (l : List Nat) (hl : ∀ b ∈ l, b < 256) : Utf8.valid ((decL l).1 : Int) = true := by
  have hb : ∀ k, l.getD k 0 < 256 := fun k => by
    rw [List.getD_eq_getElem?_getD]
    cases e : l[k]? with
    | none => simp
    | some b => simpa using hl b (List.mem_of_getElem? e)
  have h0 := hb 0
  simp only [decL]
  repeat' split
  all_goals simp_all [Utf8.valid]
  all_goals omega
theorem zmx : ∀ (m : Nat) (l : List Nat),(∀ b ∈ l, b < 256) → ∀ r ∈ runesL m l, Utf8.valid r = true
  | 0, _, _ => by simp [runesL]
  | _ + 1,[], _ => by simp [runesL]
  | m + 1, b :: l, h => by
    intro r hr
    simp only [runesL, List.mem_cons] at hr
    rcases hr with rfl | hr
    · exact zp9 _ h
    · exact zmx m _ (fun b hb => h b (List.mem_of_mem_drop hb)) r hr
theorem byL_lt (s : ByteArray) : ∀ b ∈ byL s, b < 256 := by
  intro b hb
  simp only [byL, List.mem_map] at hb
  obtain ⟨u, _, rfl⟩ := hb
  exact u.toNat_lt
theorem zes (s : ByteArray) : ∀ r ∈ runesIn s, Utf8.valid r = true := by
  rw [zkl]; exact zmx _ _ (byL_lt s)
def encL (c : Nat) : List Nat :=
  if c < 128 then [c]
  else if c < 2048 then [192 + c / 64,128 + c % 64]
  else if c < 65536 then [224 + c / 4096,128 + c / 64 % 64,128 + c % 64]
  else [240 + c / 262144,128 + c / 4096 % 64,128 + c / 64 % 64,128 + c % 64]
theorem zty {c : Nat} (h : Utf8.valid c = true) : byL (Utf8.encode c) = encL c := by
  have hc : c ≤ 1114111 := by simp [Utf8.valid] at h; omega
  have key : ∀ n, n < 256 → (UInt8.ofNat n).toNat = n := fun n hn => by simp; omega
  simp only [Utf8.encode, h, if_true, Int.toNat_natCast, encL]
  split
  · rw [byL]; simp only [List.map_cons, List.map_nil]; rw [key _ (by omega)]
  · split
    · rw [byL]; simp only [List.map_cons, List.map_nil]; rw [key _ (by omega), key _ (by omega)]
    · split
      · rw [byL]; simp only [List.map_cons, List.map_nil]; rw [key _ (by omega), key _ (by omega), key _ (by omega)]
      · rw [byL]; simp only [List.map_cons, List.map_nil]; rw [key _ (by omega), key _ (by omega), key _ (by omega), key _ (by omega)]
theorem zrn {c : Nat} (h : Utf8.valid c = true) (t : List Nat) : decL (encL c ++ t) = (c,(encL c).length) := by
  have hc : c ≤ 1114111 := by simp [Utf8.valid] at h; omega
  unfold encL
  split
  · rename_i h1
    simp [decL, h1]
  · split
    · rename_i h1 h2
      simp only [decL, contL, List.cons_append, List.nil_append, List.getD_cons_zero, List.getD_cons_succ, List.getElem?_cons_succ, List.getElem?_cons_zero]
      rw [if_neg (by omega), if_pos (by simp; omega)]
      rw [show (192 + c / 64) % 32 * 64 + (128 + c % 64) % 64 = c by omega, if_pos (by omega)]
      rfl
    · split
      · rename_i h1 h2 h3
        simp only [decL, contL, List.cons_append, List.nil_append, List.getD_cons_zero, List.getD_cons_succ, List.getElem?_cons_succ, List.getElem?_cons_zero]
        rw [if_neg (by omega), if_neg (by simp; omega), if_pos (by simp; omega)]
        rw [show (224 + c / 4096) % 16 * 4096 + (128 + c / 64 % 64) % 64 * 64 + (128 + c % 64) % 64 = c by omega, if_pos (by simp [h]; omega)]
        rfl
      · rename_i h1 h2 h3
        simp only [decL, contL, List.cons_append, List.nil_append, List.getD_cons_zero, List.getD_cons_succ, List.getElem?_cons_succ, List.getElem?_cons_zero]
        rw [if_neg (by omega), if_neg (by simp; omega), if_neg (by simp; omega), if_pos (by simp; omega)]
        rw [show (240 + c / 262144) % 8 * 262144 + (128 + c / 4096 % 64) % 64 * 4096 + (128 + c / 64 % 64) % 64 * 64 + (128 + c % 64) % 64 = c by omega, if_pos (by simp [h]; omega)]
        rfl
theorem ztz (s t : ByteArray) : byL (s ++ t) = byL s ++ byL t := by simp [byL]
theorem zqe : ∀ (xs : List Int) (s : ByteArray),(∀ x ∈ xs, Utf8.valid x = true) → byL (xs.foldl (fun s r => s ++ Utf8.encode r) s) = byL s ++ xs.flatMap fun x => encL x.toNat
  | [], s, _ => by simp
  | x :: xs, s, h => by
    have hx := h x (by simp)
    obtain ⟨c, rfl⟩ : ∃ c : Nat, x = c := ⟨x.toNat, by simp [Utf8.valid] at hx; omega⟩
    rw [List.foldl_cons, zqe xs _ (fun y hy => h y (by simp [hy])), ztz, zty hx]
    simp
theorem zvg     (c : Nat) : encL c ≠ [] := by unfold encL; repeat' split
                                              all_goals simp
theorem zlc : ∀ (xs : List Int),(∀ x ∈ xs, Utf8.valid x = true) → runesS (xs.flatMap fun x => encL x.toNat) = xs
  | [], _ => rfl
  | x :: xs, h => by
    have hx := h x (by simp)
    obtain ⟨c, rfl⟩ : ∃ c : Nat, x = c := ⟨x.toNat, by simp [Utf8.valid] at hx; omega⟩
    have hd := zrn hx (xs.flatMap fun x => encL x.toNat)
    rw [List.flatMap_cons, Int.toNat_natCast]
    obtain ⟨b, l, e⟩ : ∃ b l, encL c = b :: l := by
      cases e : encL c with
      | nil => exact absurd e (zvg c)
      | cons b l => exact ⟨b, l, rfl⟩
    rw [e] at hd ⊢
    rw [List.cons_append] at hd ⊢
    rw [znk, hd, ← List.cons_append, List.drop_left' rfl, zlc xs (fun y hy => h y (by simp [hy]))]
theorem zjb {xs : List Int} (h : ∀ x ∈ xs, Utf8.valid x = true) : runesIn (textOf xs) = xs := by
  rw [zkl, textOf, zqe xs _ h]
  exact zlc xs h
theorem zf9 (s : ByteArray) : bytesOf (bytesIn s) = s := by
  unfold bytesOf bytesIn
  rw [List.map_map]
  have : (fun n : Int => UInt8.ofNat n.toNat) ∘ (fun b : UInt8 => (b.toNat : Int)) = id := by
    funext b; simp
  rw [this, List.map_id]
end Go.Sl
namespace Go.Proofs.YtpfdbeafdjnbnaaGreatDoor
set_option linter.unusedVariables false
set_option linter.unusedSimpArgs false
set_option linter.unusedSectionVars false
open Go.RowKit Go.Sl
def has0 (s : ByteArray) : Bool := decide (bs [0] = s) || decide (0 ≤ Go.Lib.indexByte s.data.toList (0 : Int).toNat.toUInt8)
set_option maxRecDepth 20000 in
set_option maxHeartbeats 4000000 in
theorem zva {f : Fz} {s : ByteArray} : Gives Tryz.prog 99 [.string s, .string (bs [0])] f (.int .i64 (if bs [0] = s then 0 else Go.Lib.indexByte s.data.toList (0 : Int).toNat.toUInt8)) := by
  intro w0 L w hC
  refine enter Tryz.func99 rfl Tryz.ntmps99 (by simp) hC fun a hs => ?_
  refine zai fun K1 hK1 => ?_
  refine za2 ?_
  refine sy hs (za9 rfl) fun _ _ hs => ?_
  refine za0 ?_
  refine hK1 _ _ ?_; clear hK1
  refine zai fun K2 hK2 => ?_
  refine za2 ?_
  refine sy hs (za3 rfl) fun _ _ hs => ?_
  refine sy hs (zg2 rfl U9) fun _ _ hs => ?_
  refine sy hs (za9 rfl) fun _ _ hs => ?_
  refine za0 ?_
  refine hK2 _ _ ?_; clear hK2
  refine zai fun K3 hK3 => ?_
  refine zam fun Qe4 hB4 hO4 => ?_
  refine zai fun K5 hK5 => ?_
  refine za2 ?_
  refine sy hs (za3 rfl) fun _ _ hs => ?_
  refine sy hs (zct rfl rfl) fun _ _ hs => ?_
  rw [show decide (((bs [0]).size : Int) = 0) = false from rfl] at hs
  refine sy hs (za3 rfl) fun _ _ hs => ?_
  refine syg hs (za3 rfl) fun _ _ hs => ?_
  refine syg hs (za3 rfl) fun _ _ hs => ?_
  refine syg hs (zcs rfl rfl) fun _ _ hs => ?_
  refine sy hs (zaz rfl rfl) fun _ _ hs => ?_
  refine sy hs (za9 rfl) fun _ _ hs => ?_
  refine za0 ?_
  refine hK5 _ _ ?_; clear hK5
  first | refine zho hs rfl (fun heq => ?_) (fun heq => ?_) | refine zah hs rfl (fun heq => ?_) (fun heq => ?_)
  · refine zai fun K6 hK6 => ?_
    refine za2 ?_
    refine sy hs (za9 rfl) fun _ _ hs => ?_
    refine za0 ?_
    refine hK6 _ _ ?_; clear hK6
    refine zax ?_
    refine Rt_1 hs rfl rfl ?_
    exact ⟨by rw [if_pos heq], hs.cw⟩
  · refine zai fun K7 hK7 => ?_
    refine za2 ?_
    refine sy hs (za3 rfl) fun _ _ hs => ?_
    refine sy hs (zct rfl rfl) fun _ _ hs => ?_
    rw [show decide (((bs [0]).size : Int) = 1) = true from rfl] at hs
    refine sy hs (za9 rfl) fun _ _ hs => ?_
    refine za0 ?_
    refine hK7 _ _ ?_; clear hK7
    refine zdq hs rfl ?_
    refine zai fun K8 hK8 => ?_
    refine za2 ?_
    refine sy hs (za3 rfl) fun _ _ hs => ?_
    refine sy hs (za3 rfl) fun _ _ hs => ?_
    refine sy hs (zoc (b := 0) rfl rfl U9 rfl) fun _ _ hs => ?_
    refine sy hs (zbi rfl has102 rfl (zlb 0 rfl)) fun _ _ hs => ?_
    refine sy hs (za9 rfl) fun _ _ hs => ?_
    refine za0 ?_
    refine hK8 _ _ ?_; clear hK8
    refine zax ?_
    refine Rt_1 hs rfl rfl ?_
    exact ⟨by rw [if_neg heq], hs.cw⟩
set_option maxRecDepth 20000 in
theorem zv9 {f : Fz} {s : ByteArray} : Gives Tryz.prog 65 [.string s, .string (bs [0])] f (.int .i64 (if bs [0] = s then 0 else Go.Lib.indexByte s.data.toList (0 : Int).toNat.toUInt8)) := by
  intro w0 L w hC
  refine enter Tryz.func65 rfl Tryz.ntmps65 (by simp) hC fun a hs => ?_
  refine zai fun K1 hK1 => ?_
  refine za2 ?_
  refine sy hs (za9 rfl) fun _ _ hs => ?_
  refine za0 ?_
  refine hK1 _ _ ?_; clear hK1
  refine zai fun K2 hK2 => ?_
  refine za2 ?_
  refine sy hs (za3 rfl) fun _ _ hs => ?_
  refine sy hs (za3 rfl) fun _ _ hs => ?_
  refine sy hs (zbi rfl has99 rfl zva) fun _ _ hs => ?_
  refine sy hs (za9 rfl) fun _ _ hs => ?_
  refine za0 ?_
  refine hK2 _ _ ?_; clear hK2
  refine zax ?_
  refine Rt_1 hs rfl rfl ?_
  exact ⟨rfl, hs.cw⟩
set_option maxRecDepth 20000 in
theorem zro {f : Fz} {s : ByteArray} : Gives Tryz.prog 39 [.string s, .string (bs [0])] f (.bool (has0 s)) := by
  intro w0 L w hC
  refine enter Tryz.func39 rfl Tryz.ntmps39 (by simp) hC fun a hs => ?_
  refine zai fun K1 hK1 => ?_
  refine za2 ?_
  refine sy hs (za9 rfl) fun _ _ hs => ?_
  refine za0 ?_
  refine hK1 _ _ ?_; clear hK1
  refine zai fun K2 hK2 => ?_
  refine za2 ?_
  refine sy hs (za3 rfl) fun _ _ hs => ?_
  refine sy hs (za3 rfl) fun _ _ hs => ?_
  refine sy hs (zbi rfl has65 rfl zv9) fun _ _ hs => ?_
  refine sy hs (zkf rfl rfl) fun _ _ hs => ?_
  refine sy hs (za9 rfl) fun _ _ hs => ?_
  refine za0 ?_
  refine hK2 _ _ ?_; clear hK2
  refine zax ?_
  refine Rt_1 hs rfl rfl ?_
  refine ⟨?_, hs.cw⟩
  unfold has0
  by_cases h : bs [0] = s
  · rw [if_pos h, decide_eq_true h]; rfl
  · rw [if_neg h, decide_eq_false h, Bool.false_or]
end Go.Proofs.YtpfdbeafdjnbnaaGreatDoor
namespace Go.Proofs
set_option linter.unusedVariables false
set_option linter.unusedSimpArgs false
set_option linter.unusedSectionVars false
open Go.Shelf
def Tryz.lays196_ren : Go.Shelf.Ren := ⟨fun | 196 => 38 | 259 => 64 | n => n, fun | 0 => 0 | 3 => 3 | 4 => 4 | 5 => 5 | 9 => 9 | 12 => 12 | 46 => 130 | 53 => 168 | 119 => 126 | 138 => 128 | 139 => 129 | n => n, fun | 3 => 0 | 4 => 1 | n => n⟩
theorem Tryz.lays196 : Go.Proofs.Lays.n196 Tryz.prog Tryz.lays196_ren := {
  mixed := by kernel_rfl
  f196 := Tryz.func38.trans (congrArg some (by kernel_rfl))
  f259 := Tryz.func64.trans (congrArg some (by kernel_rfl))
  t0 := Tryz.underlying0
  a0 := Tryz.isAgg0
  z0 := Tryz.sizeOf0
  v0 := Tryz.zeroValue0
  t3 := Tryz.underlying3
  a3 := Tryz.isAgg3
  z3 := Tryz.sizeOf3
  v3 := Tryz.zeroValue3
  t4 := Tryz.underlying4
  a4 := Tryz.isAgg4
  z4 := Tryz.sizeOf4
  v4 := Tryz.zeroValue4
  t5 := Tryz.underlying5
  a5 := Tryz.isAgg5
  z5 := Tryz.sizeOf5
  v5 := Tryz.zeroValue5
  t9 := Tryz.underlying9
  a9 := Tryz.isAgg9
  z9 := Tryz.sizeOf9
  v9 := Tryz.zeroValue9
  t12 := Tryz.underlying12
  a12 := Tryz.isAgg12
  z12 := Tryz.sizeOf12
  v12 := Tryz.zeroValue12
  t46 := Tryz.underlying130
  a46 := Tryz.isAgg130
  z46 := Tryz.sizeOf130
  v46 := Tryz.zeroValue130
  t53 := Tryz.underlying168
  a53 := Tryz.isAgg168
  z53 := Tryz.sizeOf168
  v53 := Tryz.zeroValue168
  t119 := Tryz.underlying126
  a119 := Tryz.isAgg126
  z119 := Tryz.sizeOf126
  t138 := Tryz.underlying128
  a138 := Tryz.isAgg128
  z138 := Tryz.sizeOf128
  v138 := Tryz.zeroValue128
  t139 := Tryz.underlying129
  a139 := Tryz.isAgg129
  z139 := Tryz.sizeOf129
  v139 := Tryz.zeroValue129
  g3 := by kernel_rfl
  g4 := by kernel_rfl }
end Go.Proofs
namespace Go.Proofs.YtpfdbeafdjnbnaaGreatDoor
set_option linter.unusedVariables false
set_option linter.unusedSimpArgs false
set_option linter.unusedSectionVars false
open Go.RowKit Go.Sl
def Tabs (o0 o1 : Obj) : Prop := ∀ w : World, w.heap[0]? = some o0 → w.heap[1]? = some o1 → Lib.Utf8Tabs 0 1 w
theorem zo6 {w w' : World} {b c : Nat} (h : w.heap[b]? = w'.heap[b]?) : w.cell? ⟨b, c, none⟩ = w'.cell? ⟨b, c, none⟩ := by
  unfold World.cell?
  rw [h]
theorem Tabs.of {w : World} {o0 o1 : Obj} (h0 : w.heap[0]? = some o0) (h1 : w.heap[1]? = some o1) (h : Lib.Utf8Tabs 0 1 w) : Tabs o0 o1 := fun w' e0 e1 => by
  obtain ⟨a, b⟩ := h
  refine ⟨fun c hc => ?_, fun i hi => ?_⟩
  · rw [zo6 (w' := w) (e0.trans h0.symm)]; exact a c hc
  · rw [zo6 (w' := w) (e1.trans h1.symm), zo6 (w' := w) (e1.trans h1.symm)]; exact b i hi
theorem zud {f : Fz} {o0 o1 : Obj} {s : ByteArray} (hT0 : f 0 = some o0) (hT1 : f 1 = some o1) (hTT : Tabs o0 o1) (hs : s.size ≤ 9223372036854775807) : Gives Tryz.prog 38 [.string s] f (.bool (Lib.validD s.data.toList)) :=
  .of fun _ _ w hC => Any.utf8_ValidString Tryz.lays196 s w hs (hTT w (hC.frz _ _ hT0) (hC.frz _ _ hT1))
def plainD (s : ByteArray) : Bool := Lib.validD s.data.toList && !has0 s
def zg9 (_n : Nat) (s : ByteArray) : Option Bool := bif decide (s.size ≤ 9223372036854775807) then some (plainD s) else none
set_option maxRecDepth 20000 in
theorem zkg (n : Nat) {f : Fz} {o0 o1 : Obj} {p0 : ByteArray} {res : Bool} (hT0 : f 0 = some o0) (hT1 : f 1 = some o1) (hTT : Tabs o0 o1) (hm : zg9 n p0 = some res) : Gives Tryz.prog 21 [.string p0] f (.bool res) := by
  have hsz : p0.size ≤ 9223372036854775807 := by
    unfold zg9 at hm
    by_cases h : p0.size ≤ 9223372036854775807
    · exact h
    · rw [decide_eq_false h] at hm; cases hm
  unfold zg9 at hm
  rw [decide_eq_true hsz] at hm
  obtain rfl := Option.some.inj hm
  intro w0 L w hC
  refine enter Tryz.func21 rfl Tryz.ntmps21 (by simp) hC fun a hs => ?_
  refine zai fun K1 hK1 => ?_
  refine za2 ?_
  refine sy hs (za9 rfl) fun _ _ hs => ?_
  refine za0 ?_
  refine hK1 _ _ ?_; clear hK1
  refine zai fun K2 hK2 => ?_
  refine za2 ?_
  refine sy hs (za3 rfl) fun _ _ hs => ?_
  refine sy hs (zbi rfl has38 rfl (zud hT0 hT1 hTT hsz)) fun _ _ hs => ?_
  refine sy hs (za3 rfl) fun _ _ hs => ?_
  first | refine St.splitP hs (t := 5) rfl (fun hv hq => ?_) (fun hv hq => ?_) | refine St.split hs (t := 5) rfl (fun hv hq => ?_) (fun hv hq => ?_)
  · clear hs; have hs := hq; clear hq
    refine syg hs (za3 rfl) fun _ _ hs => ?_
    refine syg hs (zbi rfl has39 rfl zro) fun _ _ hs => ?_
    refine syg hs (zfc rfl) fun _ _ hs => ?_
    refine sy hs (zaz rfl rfl) fun _ _ hs => ?_
    refine sy hs (za9 rfl) fun _ _ hs => ?_
    refine za0 ?_
    refine hK2 _ _ ?_; clear hK2
    refine zax ?_
    refine Rt_1 hs rfl rfl ?_
    exact ⟨by rw [plainD, hv, Bool.true_and], hs.cw⟩
  · clear hs; have hs := hq; clear hq
    refine sno hs fun _ _ hs => ?_
    refine sno hs fun _ _ hs => ?_
    refine sno hs fun _ _ hs => ?_
    refine sy hs (zaz rfl rfl) fun _ _ hs => ?_
    refine sy hs (za9 rfl) fun _ _ hs => ?_
    refine za0 ?_
    refine hK2 _ _ ?_; clear hK2
    refine zax ?_
    refine Rt_1 hs rfl rfl ?_
    exact ⟨by rw [plainD, hv, Bool.false_and], hs.cw⟩
end Go.Proofs.YtpfdbeafdjnbnaaGreatDoor
