/-
  Walks and laws of this seat.
-/
import Derived.Test.YtpfdbeafdjnbnaaGreatDoorW6
import Derived.Test.YtpfdbeafdjnbnaaGreatDoorS7k
import Derived.Test.YtpfdbeafdjnbnaaGreatDoorRows
namespace Go.Proofs.YtpfdbeafdjnbnaaGreatDoor
set_option linter.unusedVariables false
set_option linter.unusedSimpArgs false
set_option linter.unusedSectionVars false
section
open Go.RowKit Go.Sl
open Go.V (T)
def Byt (X : List Int) : Prop := ∀ x ∈ X,0 ≤ x ∧ x < 256
theorem zpc {X : List Int} (h : Byt X) : bytesIn (bytesOf X) = X := by
  unfold bytesIn bytesOf
  rw [List.map_map]
  refine (List.map_congr_left fun x hx => ?_).trans (List.map_id X)
  have := h x hx
  show ((UInt8.ofNat x.toNat).toNat : Int) = x
  rw [UInt8.toNat_ofNat', Nat.mod_eq_of_lt (by omega)]; omega
theorem zfb (X : List Int) : (bytesOf X).size = X.length := by simp [bytesOf, ByteArray.size]
theorem getS0 {x : Int} {X : List Int} (h : Byt (x :: X)) : getS (bytesOf (x :: X)) 0 = some x := by
  unfold getS
  rw [zpc h]; rfl
theorem zqc {X : List Int} {a b : Nat} (h1 : a ≤ b) (h2 : b ≤ X.length) : cutS (bytesOf X) (a : Int) (b : Int) = some (bytesOf ((X.take b).drop a)) := by
  unfold cutS
  rw [decide_eq_true (show 0 ≤ (a : Int) by omega), decide_eq_true (show (a : Int) ≤ (b : Int) by omega), decide_eq_true (show (b : Int) ≤ ((bytesOf X).size : Int) by rw [zfb]; omega)]
  show some ((bytesOf X).extract a b) = _
  congr 1
  apply ByteArray.ext
  rw [ByteArray.data_extract]
  unfold bytesOf
  simp [List.drop_take]
theorem idx_of {a b : List Int} (h : ∀ x ∈ a,0 ≤ x ∧ x < 256 ∧ x ≠ 59) : Go.Lib.indexByte (bytesOf (a ++ 59 :: b)).data.toList (59 : Int).toNat.toUInt8 = (a.length : Int) := by
  induction a with
  | nil => simp [bytesOf, Go.Lib.indexByte]
  | cons x a ih =>
    have hx := h x (List.mem_cons_self ..)
    have ih := ih fun y hy => h y (List.mem_cons_of_mem _ hy)
    have e : (bytesOf (x :: a ++ 59 :: b)).data.toList = UInt8.ofNat x.toNat :: (bytesOf (a ++ 59 :: b)).data.toList := by simp [bytesOf]
    rw [e, Go.Lib.indexByte, ih]
    have hne : (UInt8.ofNat x.toNat == (59 : Int).toNat.toUInt8) = false := by
      rw [beq_eq_false_iff_ne]
      intro e
      have := congrArg UInt8.toNat e
      rw [UInt8.toNat_ofNat', Nat.mod_eq_of_lt (by omega)] at this
      have h59 : (59 : Int).toNat.toUInt8.toNat = 59 := by decide
      omega
    rw [hne]
    have : ((a.length : Int) == -1) = false := by rw [beq_eq_false_iff_ne]; omega
    simp [this]
theorem ent_amp (k : Nat) : zex (k + 10) (bs [97,109,112]) = some (bs [38]) := by kernel_rfl
theorem ent_lt (k : Nat) : zex (k + 10) (bs [108,116]) = some (bs [60]) := by kernel_rfl
theorem ent_gt (k : Nat) : zex (k + 10) (bs [103,116]) = some (bs [62]) := by kernel_rfl
theorem ent_cr (k : Nat) : zex (k + 10) (bs [35,49,51]) = some (bs [13]) := by kernel_rfl
theorem ent_quot (k : Nat) : zex (k + 10) (bs [113,117,111,116]) = some (bs [34]) := by kernel_rfl
theorem ent_nbsp (k : Nat) : zex (k + 10) (bs [110,98,115,112]) = some (bs [194,160]) := by kernel_rfl
theorem T.sb {α β : Type} {x : α} {G : Nat → Nat → α → Option β} {Q : β → Prop} (h : T (fun k n => G k n x) Q) : T (fun k n => (some x).bind fun r => G k n r) Q := h
section
variable {buf X : List Int} {ad : Bool} {Q : ByteArray → Prop}
theorem un_byte {c : Int} (hc : c ≠ 38) (hX : Byt (c :: X)) (hl : X.length ≤ 10000000) (hb : buf.length ≤ 10000000) (g : T (fun k n => zav k n (bytesOf X) true (buf ++ [c])) Q) : T (fun k n => zav k n (bytesOf (c :: X)) ad buf) Q := by
  have hne : bytesOf (c :: X) ≠ bs [] := fun e => by have := congrArg ByteArray.size e; rw [zfb] at this; cases this
  refine T.step ?_
  unfold zav zft zen
  refine T.dec (fun _ => ?_) fun h => absurd hne h
  rw [getS0 hX]
  refine T.dec (fun e => absurd e hc) fun _ => ?_
  show T (fun k n => (zfa k { addr := ad, buf := buf } c).bind _) _
  unfold zfa
  refine T.bind (P := (· = (⟨true, buf ++ [c]⟩ : Builder))) (T.all fun k n => by rw [zqg (by simp; omega) (by simp; omega)]; rfl) fun q hq => ?_
  subst hq
  have hs : ((bytesOf (c :: X)).size : Int) = ((X.length + 1 : Nat) : Int) := by rw [zfb]; rfl
  rw [hs, show (1 : Int) = ((1 : Nat) : Int) from rfl, zqc (by omega) (by simp)]
  show T (fun k n => zav k n (bytesOf ((List.take (X.length + 1) (c :: X)).drop 1)) true (buf ++ [c])) Q
  rw [List.take_of_length_le (by simp)]
  exact g
theorem zos {nm val : List Int} (he : ∀ k, zex (k + 10) (bytesOf nm) = some (bytesOf val)) (hnm : ∀ x ∈ nm,0 ≤ x ∧ x < 256 ∧ x ≠ 59) (hn : 1 ≤ nm.length ∧ nm.length ≤ 10) (hv : val ≠ [] ∧ Byt val) (hvl : val.length ≤ 2) (hX : Byt X) (hl : X.length ≤ 10000000) (hb : buf.length ≤ 10000000) (g : T (fun k n => zav k n (bytesOf X) true (buf ++ val)) Q) : T (fun k n => zav k n (bytesOf (38 :: nm ++ 59 :: X)) ad buf) Q := by
  have hne : bytesOf (38 :: nm ++ 59 :: X) ≠ bs [] := fun e => by have := congrArg ByteArray.size e; rw [zfb] at this; cases this
  have hB : Byt (38 :: (nm ++ 59 :: X)) := fun x hx => by
    rcases List.mem_cons.1 hx with rfl | hx
    · decide
    · rcases List.mem_append.1 hx with hx | hx
      · exact ⟨(hnm x hx).1,(hnm x hx).2.1⟩
      · rcases List.mem_cons.1 hx with rfl | hx
        · decide
        · exact hX x hx
  have hs : ((bytesOf (38 :: nm ++ 59 :: X)).size : Int) = ((nm.length + X.length + 2 : Nat) : Int) := by rw [zfb]; simp; omega
  refine T.step ?_
  unfold zav zen
  refine T.dec (fun _ => ?_) fun h => absurd hne h
  rw [show getS (bytesOf (38 :: nm ++ 59 :: X)) 0 = some 38 from getS0 hB]
  simp only [Option.bind_some, eq_self, decide_true, cond_true]
  obtain ⟨m, hm, hm2, hm3⟩ : ∃ m : Nat,(bif decide (12 < ((bytesOf (38 :: nm ++ 59 :: X)).size : Int)) then (12 : Int) else ((bytesOf (38 :: nm ++ 59 :: X)).size : Int)) = (m : Int) ∧ nm.length + 2 ≤ m ∧ m ≤ nm.length + X.length + 2 := by
    rw [hs]
    by_cases h : (12 : Int) < ((nm.length + X.length + 2 : Nat) : Int)
    · exact ⟨12, by rw [decide_eq_true h]; rfl, by omega, by omega⟩
    · exact ⟨_, by rw [decide_eq_false h]; rfl, by omega, by omega⟩
  rw [hm, show (0 : Int) = ((0 : Nat) : Int) from rfl, zqc (by omega) (by simp; omega)]
  have hpre : ((38 :: nm ++ 59 :: X).take m).drop 0 = (38 :: nm) ++ 59 :: (X.take (m - nm.length - 2)) := by
    rw [List.drop_zero, List.take_append, List.take_of_length_le (by simp; omega)]
    congr 1
    obtain ⟨j, hj⟩ : ∃ j, m - (38 :: nm).length = j + 1 := ⟨m - nm.length - 2, by simp; omega⟩
    rw [hj, List.take_succ_cons]
    congr 2
    simp at hj; omega
  refine T.sb ?_
  rw [hpre]
  refine T.bind (P := (· = ((nm.length + 1 : Nat) : Int))) (T.all fun k n => by
    unfold ze8
    rw [idx_of fun x hx => ?_]
    · rfl
    · rcases List.mem_cons.1 hx with rfl | hx
      · decide
      · exact hnm x hx) fun q hq => ?_
  subst hq
  refine T.dec (fun _ => ?_) fun h => absurd (by omega) h
  rw [show (1 : Int) = ((1 : Nat) : Int) from rfl, zqc (by omega) (by simp)]
  refine T.sb ?_
  have e1 : ((38 :: nm ++ 59 :: X).take (nm.length + 1)).drop 1 = nm := by
    rw [List.take_append_of_le_length (by simp), List.take_of_length_le (by simp)]; rfl
  rw [e1]
  refine T.bind (P := (· = bytesOf val)) ⟨_, rfl,10, fun k n hk _ => by obtain ⟨j, rfl⟩ : ∃ j, k = j + 10 := ⟨k - 10, by omega⟩; exact he j⟩ fun q hq => ?_
  subst hq
  have hvne : bytesOf val ≠ bs [] := fun e => by have := congrArg ByteArray.size e; rw [zfb] at this; exact hv.1 (List.eq_nil_of_length_eq_zero this)
  refine T.dec (fun _ => ?_) fun h => absurd hvne h
  have hap : appM 1 buf val = some (buf ++ val) := zqg (by omega) (by omega)
  unfold zb4
  refine T.bind (P := (· = (((bytesOf val).size : Int),(⟨true, buf ++ val⟩ : Builder)))) (T.all fun k n => by
    rw [zpc hv.2]
    show (appM 1 buf val).bind _ = _
    rw [hap]; rfl) fun q hq => ?_
  subst hq
  rw [hs, show w64 (((nm.length + 1 : Nat) : Int) + ((1 : Nat) : Int)) = ((nm.length + 1 + 1 : Nat) : Int) from zfd (by omega), zqc (by omega) (by simp; omega)]
  refine T.sb ?_
  have e2 : ((38 :: nm ++ 59 :: X).take (nm.length + X.length + 2)).drop (nm.length + 1 + 1) = X := by
    rw [List.take_of_length_le (by simp; omega)]
    have : 38 :: nm ++ 59 :: X = (38 :: nm ++ [59]) ++ X := by simp
    rw [this, show nm.length + 1 + 1 = (38 :: nm ++ [59]).length by simp, List.drop_left]
  rw [e2]; exact g
end
end
section
open Go.RowKit Go.Sl
theorem Rt_3 {P : Program} {f : Fz} {L : List Ent} {w0 w : World} {n : Nat} {E : List (Nat × Value)} {a : Act} {fn : Func} {R : Ending → World → Prop} {t t2 t3 : Nat} {v v2 v3 : Value} (hs : St n w0 f L E a w) (hr : fn.results = #[.tmp t, .tmp t2, .tmp t3]) (hv : Sl.look E t = some v) (hv2 : Sl.look E t2 = some v2) (hv3 : Sl.look E t3 = some v3) (h : R (.returned (.tuple #[v, v2, v3])) w) : Rt P fn R a w :=
  RtV3 hs hr (rv_t hs hv) (rv_t hs hv2) (rv_t hs hv3) h
def pfx (s p : ByteArray) : Bool := decide (p.size ≤ s.size) && decide (s.extract 0 p.size = p)
theorem zpt {s p : ByteArray} (h : pfx s p = true) : p.size ≤ s.size ∧ s.extract 0 p.size = p := by simpa [pfx] using h
set_option maxRecDepth 20000 in
theorem spfx_ok {f : Fz} {s p : ByteArray} : Gives Tryz.prog 120 [.string s, .string p] f (.bool (pfx s p)) := by
  intro w0 L w hC
  refine enter Tryz.func120 rfl Tryz.ntmps120 (by simp) hC fun a hs => ?_
  refine zai fun K1 hK1 => ?_
  refine za2 ?_
  refine sy hs (za9 rfl) fun _ _ hs => ?_
  refine za0 ?_
  refine hK1 _ _ ?_; clear hK1
  refine zai fun K2 hK2 => ?_
  refine za2 ?_
  refine sy hs (za3 rfl) fun _ _ hs => ?_
  refine sy hs (zg2 rfl U9) fun _ _ hs => ?_
  refine sy hs (za3 rfl) fun _ _ hs => ?_
  refine sy hs (zg2 rfl U9) fun _ _ hs => ?_
  refine sy hs (zkf rfl rfl) fun _ _ hs => ?_
  refine sy hs (za3 rfl) fun _ _ hs => ?_
  first | refine St.splitP hs (t := 10) rfl (fun hle hq => ?_) (fun hle hq => ?_) | refine St.split hs (t := 10) rfl (fun hle hq => ?_) (fun hle hq => ?_)
  · clear hs; have hs := hq; clear hq
    have hle' : p.size ≤ s.size := by
      have : ((p.size : Nat) : Int) ≤ ((s.size : Nat) : Int) := by simpa using hle
      omega
    refine syg hs (za3 rfl) fun _ _ hs => ?_
    refine syg hs (za3 rfl) fun _ _ hs => ?_
    refine syg hs (zg2 rfl U9) fun _ _ hs => ?_
    refine syg hs (zhb (lo := 0) (hi := p.size) rfl rfl U9 (.inl ⟨rfl, rfl⟩) (.inr ⟨_, rfl, rfl⟩) (Nat.zero_le _) hle') fun _ _ hs => ?_
    refine syg hs (za3 rfl) fun _ _ hs => ?_
    refine syg hs (zcs rfl rfl) fun _ _ hs => ?_
    refine sy hs (zaz rfl rfl) fun _ _ hs => ?_
    refine sy hs (za9 rfl) fun _ _ hs => ?_
    refine za0 ?_
    refine hK2 _ _ ?_; clear hK2
    refine zax ?_
    refine Rt_1 hs rfl rfl ?_
    exact ⟨by rw [pfx, decide_eq_true hle', Bool.true_and], hs.cw⟩
  · clear hs; have hs := hq; clear hq
    have hle' : ¬ p.size ≤ s.size := by
      have : ¬ ((p.size : Nat) : Int) ≤ ((s.size : Nat) : Int) := by simpa using hle
      omega
    refine sno hs fun _ _ hs => ?_
    refine sno hs fun _ _ hs => ?_
    refine sno hs fun _ _ hs => ?_
    refine sno hs fun _ _ hs => ?_
    refine sno hs fun _ _ hs => ?_
    refine sno hs fun _ _ hs => ?_
    refine sy hs (zaz rfl rfl) fun _ _ hs => ?_
    refine sy hs (za9 rfl) fun _ _ hs => ?_
    refine za0 ?_
    refine hK2 _ _ ?_; clear hK2
    refine zax ?_
    refine Rt_1 hs rfl rfl ?_
    exact ⟨by rw [pfx, decide_eq_false hle', Bool.false_and], hs.cw⟩
set_option maxRecDepth 20000 in
theorem pfx_ok {f : Fz} {s p : ByteArray} : Gives Tryz.prog 103 [.string s, .string p] f (.bool (pfx s p)) := by
  intro w0 L w hC
  refine enter Tryz.func103 rfl Tryz.ntmps103 (by simp) hC fun a hs => ?_
  refine zai fun K1 hK1 => ?_
  refine za2 ?_
  refine sy hs (za9 rfl) fun _ _ hs => ?_
  refine za0 ?_
  refine hK1 _ _ ?_; clear hK1
  refine zai fun K2 hK2 => ?_
  refine za2 ?_
  refine sy hs (za3 rfl) fun _ _ hs => ?_
  refine sy hs (za3 rfl) fun _ _ hs => ?_
  refine sy hs (zbi rfl has120 rfl spfx_ok) fun _ _ hs => ?_
  refine sy hs (za9 rfl) fun _ _ hs => ?_
  refine za0 ?_
  refine hK2 _ _ ?_; clear hK2
  refine zax ?_
  refine Rt_1 hs rfl rfl ?_
  exact ⟨rfl, hs.cw⟩
end
end Go.Proofs.YtpfdbeafdjnbnaaGreatDoor
