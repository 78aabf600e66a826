/-
  Walks and laws of this seat.
-/
import Derived.Test.YtpfdbeafdjnbnaaGreatDoorX39
import Derived.Test.YtpfdbeafdjnbnaaGreatDoorX6
import Derived.Test.YtpfdbeafdjnbnaaGreatDoorX30
import Derived.Test.YtpfdbeafdjnbnaaGreatDoorX31
import Derived.Test.YtpfdbeafdjnbnaaGreatDoorBash
import Derived.Test.YtpfdbeafdjnbnaaGreatDoorL7ct
import Derived.Test.YtpfdbeafdjnbnaaGreatDoorL7m
import Derived.Test.YtpfdbeafdjnbnaaGreatDoorX25
import Derived.Test.YtpfdbeafdjnbnaaGreatDoorRows
import Derived.Test.YtpfdbeafdjnbnaaGreatDoorX36
namespace Go.Proofs.YtpfdbeafdjnbnaaGreatDoor
set_option linter.unusedVariables false
set_option linter.unusedSimpArgs false
set_option linter.unusedSectionVars false
section
open Go.RowKit Go.Sl
section
variable {ns : List zae} {n : Nat}
theorem zo5 {P : za8} (hP : P.Name ≠ bs []) (h : cleanP P = P) : P.Text = bs [] ∧ ∀ k ∈ P.Kids, cleanP k = k := by
  rw [zhy hP] at h
  obtain ⟨nm, tx, at_, ks⟩ := P
  simp only [za8.mk.injEq] at h
  refine ⟨h.2.1.symm, fun k hk => ?_⟩
  have e := h.2.2.2
  obtain ⟨i, hi⟩ := List.getElem?_of_mem hk
  have := congrArg (fun l => l[i]?) e
  simp only [List.getElem?_map] at this
  simp only at hi
  rw [hi] at this
  simpa using this
theorem layW (h : RT ns) (hd : ¬ deepP ns) (hn : 2000000 ≤ n) (hnb : ∀ j,1 ≤ j → j < ns.length → NB n ns j = true) (hsz : ∀ j, j < ns.length → szN (nd ns j)) : ∀ m, LayW n ns m
  | 0 => fun P A B q pr nx hc hns hA hrow => by
    obtain ⟨x, rr, a1, _⟩ := zm3 P A.length (q : Int) pr nx
    obtain ⟨hl, _⟩ := nd_at (x := x) hns (by rw [a1]; rfl)
    exact absurd ⟨A.length, hl, by omega⟩ hd
  | m + 1 => fun P A B q pr nx hc hns hA hrow => by
    have ih := layW h hd hn hnb hsz m
    obtain ⟨x, rr, a1, a2, a3, a4, a5, a6, a7⟩ := zm3 P A.length (q : Int) pr nx
    obtain ⟨hl, hx⟩ := nd_at (x := x) hns (by rw [a1]; rfl)
    have hpar : par ns A.length = (q : Int) := by show (nd ns A.length).Parent = _; rw [hx, a2]
    obtain ⟨q', e1, e2, e3, e4⟩ := h.parq hA hl
    obtain rfl : q = q' := by omega
    have hb := hnb A.length hA hl
    unfold NB at hb
    rw [hpar, Int.toNat_natCast] at hb
    have hal := h.alone hl
    have hs := hsz A.length hl
    have hpf := h.pf hA hl hpar
    rw [hx] at hb hal hs hpf
    refine ⟨fun hP => ?_, fun hP => ?_⟩
    · have hlay := zil hP A.length (q : Int) pr nx
      rw [a1] at hlay
      obtain ⟨rfl, rfl⟩ := List.cons.inj hlay
      obtain ⟨b1, b2, _⟩ := zr7 hb rfl
      have hc' := ziz hP
      rw [hc] at hc'
      have ht : P.Text ≠ bs [] := by
        rcases hal with ⟨_, _, h3, _⟩ | ⟨h1, _⟩
        · exact h3
        · exact absurd h1 (by simp [tnode])
      exact ⟨ht, by rw [hc'], by rw [hc'], b1, okT_of hs.2.1 b2⟩
    · have hlay := zg5 hP A.length (q : Int) pr nx
      rw [a1] at hlay
      obtain ⟨rfl, rfl⟩ := List.cons.inj hlay
      obtain ⟨b1, b2, b3, b4, b5, b6⟩ := zuw hb (by simp [enode])
      obtain ⟨c1, c2⟩ := zo5 hP hc
      have hal2 : P.Attrs.length ≤ 64 ∧ ∀ i, attP P.Attrs i := by
        rcases hal with ⟨h1, _⟩ | ⟨_, _, _, h4, h5⟩
        · exact absurd h1 (by simp [enode])
        · exact ⟨h4, h5⟩
      rw [a1, List.cons_append] at hns
      have hA2 : (A ++ [enode P.Name P.Attrs (q : Int) (if P.Kids.length = 0 then -1 else ((A.length + 1 : Nat) : Int)) (lastOf P.Kids (A.length + 1) (-1)) pr nx]).length = A.length + 1 := by simp
      have hk := kidsW h hd hn hnb hsz (q := A.length) ih (by omega) P.Kids (-1) (A ++ [enode P.Name P.Attrs (q : Int) (if P.Kids.length = 0 then -1 else ((A.length + 1 : Nat) : Int)) (lastOf P.Kids (A.length + 1) (-1)) pr nx]) B c2 (by rw [hA2]; rw [List.append_assoc]; exact hns) (by omega)
      rw [hx] at hk
      have hlen : P.Kids.length ≤ 4096 := by
        have := congrArg List.length hns
        have h2 := h.small
        have h3 := zkz P.Kids (A.length + 1) (A.length : Int) (-1) (-1)
        have h4 : P.Kids.length ≤ nszs P.Kids := by
          have : ∀ ks : List za8, ks.length ≤ nszs ks := fun ks => by
            induction ks with
            | nil => simp
            | cons k ks ih => have := zq0 k; simp only [List.length_cons, nszs]; omega
          exact this _
        simp only [List.length_append, List.length_cons] at this
        omega
      refine ⟨c1, b2, fun hv => ?_, b4, b1, b5, hal2.1, att_pw hal2.2, fun a ha => okA_of (hs.2.2 a ha).1 (hs.2.2 a ha).2 hn (b6 a ha), hlen, hk.2.1, fun k hk' => ?_⟩
      · have := b3 hv
        cases e : P.Kids with
        | nil => rfl
        | cons k r =>
          exfalso; apply this
          show 0 ≤ (if P.Kids.length = 0 then (-1 : Int) else ((A.length + 1 : Nat) : Int))
          rw [e, if_neg (by simp)]; omega
      · have := hk.1 k hk'
        rw [hpf] at this
        exact this
end
end
section
open Go.RowKit Go.Sl
open Go.V (T)
theorem zr2 {a : List zab} (hl : a.length ≤ 1000000) : ∀ (d j k : Nat), j + d = a.length → d + 1 ≤ k → zbo a a k (j : Int) = some true
  | 0, j, k, hj, hk => by
    obtain ⟨k, rfl⟩ : ∃ i, k = i + 1 := ⟨k - 1, by omega⟩
    rw [zbo, dF (show ¬ (j : Int) < (a.length : Int) by omega)]; rfl
  | d + 1, j, k, hj, hk => by
    obtain ⟨k, rfl⟩ : ∃ i, k = i + 1 := ⟨k - 1, by omega⟩
    have hlt : j < a.length := by omega
    rw [zbo, dT (show (j : Int) < (a.length : Int) by omega), cond_true, zbr, List.getElem?_eq_getElem hlt, Option.bind_some, Option.bind_some, dT rfl, dT rfl]
    show zbo a a k (w64 ((j : Int) + 1)) = _
    rw [zfd (by omega)]
    exact zr2 hl d (j + 1) k (by omega) (by omega)
theorem zuv {x : zae} {n : Nat} (hl : x.Attrs.length ≤ 64) (hn : 100 ≤ n) : zhj n x x = some true := by
  unfold zhj zg6
  rw [show (0 : Int) = ((0 : Nat) : Int) from rfl, zr2 (by omega) x.Attrs.length 0 n (by omega) (by omega)]
  simp [zbu]
theorem zqy {ns : List zae} {n : Nat} (hl : ns.length ≤ 1000000) (ha : ∀ x ∈ ns, x.Attrs.length ≤ 64) (hn : 100 ≤ n) : ∀ (d j k : Nat), j + d = ns.length → d + 1 ≤ k → zcv n ⟨ns⟩ ⟨ns⟩ k (j : Int) = some true
  | 0, j, k, hj, hk => by
    obtain ⟨k, rfl⟩ : ∃ i, k = i + 1 := ⟨k - 1, by omega⟩
    rw [zcv, dF (show ¬ (j : Int) < (ns.length : Int) by omega)]; rfl
  | d + 1, j, k, hj, hk => by
    obtain ⟨k, rfl⟩ : ∃ i, k = i + 1 := ⟨k - 1, by omega⟩
    have hlt : j < ns.length := by omega
    rw [zcv, dT (show (j : Int) < (ns.length : Int) by omega), cond_true]
    show (geti ns (j : Int)).bind _ = _
    rw [zbr, List.getElem?_eq_getElem hlt, Option.bind_some, Option.bind_some, zuv (ha _ (List.getElem_mem hlt)) hn, Option.bind_some]
    show zcv n ⟨ns⟩ ⟨ns⟩ k (w64 ((j : Int) + 1)) = _
    rw [zfd (by omega)]
    exact zqy hl ha hn d (j + 1) k (by omega) (by omega)
end
section
set_option maxHeartbeats 4000000
set_option maxRecDepth 100000
open Go.RowKit Go.Sl
def zhi (y45 : Bool) : Option Bool :=
  some y45
def zhx (n : Nat) : Option Bool :=
  (zj9 n ({Name := (bs [114,111,111,116]), Text := (bs []), Attrs := ([] : List zab), Kids := [({Name := (bs [112]), Text := (bs []), Attrs := [({Name := (bs [99,108,97,115,115]), Value := (bs [97,34])} : zab)], Kids := [({Name := (bs []), Text := (bs [120,32,60,32,121]), Attrs := ([] : List zab), Kids := ([] : List za8)} : za8)]} : za8)]} : za8)).bind fun x31 =>
  (bif (decide (x31.2 = 0)) then (zh8 n x31.1).bind fun x47 =>
  (bif (decide (x47 = (bs [60,112,32,99,108,97,115,115,61,34,97,38,113,117,111,116,59,34,62,120,32,38,108,116,59,32,121,60,47,112,62]))) then (zcu n x31.1).bind fun x50 =>
  zhi x50 else
  zhi false) else
  zhi false)
theorem zk2 (n : Nat) {f : Fz} {o0 : Obj} {o1 : Obj} {res : Bool} (hT0 : f 0 = some o0) (hT1 : f 1 = some o1) (hTT : Tabs o0 o1) (hm : zhx n = some res) : Gives Tryz.prog 7 [] f (.bool res) := by
 unfold zhx at hm
 intro w0 L w hC
 refine enter Tryz.func7 rfl Tryz.ntmps7 (by simp) hC fun a hs => ?_
 have hle := Fz.le.refl f
 refine Wq fun hK1 => sA hs rfl fun hs => za0 <| hK1 <| Wq fun hK2 => s1 hs (ze4 (places := [(0,1),(1,1)]) (cs := [.string ((bs [99,108,97,115,115])), .string ((bs [97,34]))]) rfl U42 ti42 (by kernel_rfl) (by decide) rfl ⟨rfl, rfl, trivial⟩) fun hs => zka hs rfl U43 ti42 (by decide) (AllC.row ⟨rfl, rfl, trivial⟩ rfl) fun v1 _ _ hs => ?_
 have hW2 : RW zbv f [[.string ((bs [99,108,97,115,115])), .string ((bs [97,34]))]] [({Name := (bs [99,108,97,115,115]), Value := (bs [97,34])} : zab)] := RW.single (rfl)
 generalize hgrw3 : ([[.string ((bs [99,108,97,115,115])), .string ((bs [97,34]))]] : List (List Value)) = rw3 at hs hW2; clear hgrw3
 refine s1 hs (ze4 (places := [(0,1),(1,1),(2,1),(3,1)]) (cs := [.string ((bs [])), .string ((bs [120,32,60,32,121])),(.slice none 0 0),(.slice none 0 0)]) rfl U46 ti46 (by kernel_rfl) (by decide) rfl ⟨rfl, trivial⟩) fun hs => zka hs rfl U44 ti46 (by decide) (AllC.row ⟨rfl, rfl, rfl, rfl, trivial⟩ rfl) fun v8 _ _ hs => ?_
 have hW9 : RW zcy f [[.string ((bs [])), .string ((bs [120,32,60,32,121])),(.slice none 0 0),(.slice none 0 0)]] [({Name := (bs []), Text := (bs [120,32,60,32,121]), Attrs := ([] : List zab), Kids := ([] : List za8)} : za8)] := RW.single (R_dom_Part.of (x := ({Name := (bs []), Text := (bs [120,32,60,32,121]), Attrs := ([] : List zab), Kids := ([] : List za8)} : za8)) RS.nil RS.nil)
 generalize hgrw10 : ([[.string ((bs [])), .string ((bs [120,32,60,32,121])),(.slice none 0 0),(.slice none 0 0)]] : List (List Value)) = rw10 at hs hW9; clear hgrw10
 refine s1 hs (ze4 (places := [(0,1),(1,1),(2,1),(3,1)]) (cs := [.string ((bs [112])), .string ((bs [])), v1, v8]) rfl U46 ti46 (by kernel_rfl) (by decide) rfl ⟨rfl,(hs.one (i := 1) rfl),(hs.one (i := 0) rfl), trivial⟩) fun hs => ?_
 obtain ⟨f17, hf18, hs2, hR19⟩ := hs.frzAt 0 rfl
 clear hs; have hs := hs2; clear hs2
 replace hT0 := hf18 _ _ hT0
 replace hT1 := hf18 _ _ hT1
 replace hW2 := hW2.le hf18
 replace hW9 := hW9.le hf18
 replace hle := hle.trans hf18
 obtain ⟨f20, hf21, hs2, hR22⟩ := hs.frzAt 0 rfl
 clear hs; have hs := hs2; clear hs2
 replace hT0 := hf21 _ _ hT0
 replace hT1 := hf21 _ _ hT1
 replace hW2 := hW2.le hf21
 replace hW9 := hW9.le hf21
 replace hR19 := hR19.le hf21
 replace hle := hle.trans hf21
 refine zka hs rfl U44 ti46 (by decide) (AllC.row ⟨rfl, rfl, hR22.one, hR19.one, trivial⟩ rfl) fun v15 _ _ hs => ?_
 have hW16 : RW zcy f20 [[.string ((bs [112])), .string ((bs [])), v1, v8]] [({Name := (bs [112]), Text := (bs []), Attrs := [({Name := (bs [99,108,97,115,115]), Value := (bs [97,34])} : zab)], Kids := [({Name := (bs []), Text := (bs [120,32,60,32,121]), Attrs := ([] : List zab), Kids := ([] : List za8)} : za8)]} : za8)] := RW.single (R_dom_Part.of (x := ({Name := (bs [112]), Text := (bs []), Attrs := [({Name := (bs [99,108,97,115,115]), Value := (bs [97,34])} : zab)], Kids := [({Name := (bs []), Text := (bs [120,32,60,32,121]), Attrs := ([] : List zab), Kids := ([] : List za8)} : za8)]} : za8)) ⟨rw3, hR22, hW2⟩ ⟨rw10, hR19, hW9⟩)
 generalize hgrw23 : ([[.string ((bs [112])), .string ((bs [])), v1, v8]] : List (List Value)) = rw23 at hs hW16; clear hgrw23
 refine s1 hs (ze4 (places := [(0,1),(1,1),(2,1),(3,1)]) (cs := [.string ((bs [114,111,111,116])), .string ((bs [])),(.slice none 0 0), v15]) rfl U46 ti46 (by kernel_rfl) (by decide) rfl ⟨rfl,(hs.one (i := 0) rfl), trivial⟩) fun hs => ?_
 obtain ⟨f28, hf29, hs2, hR30⟩ := hs.frzAt 0 rfl
 clear hs; have hs := hs2; clear hs2
 replace hT0 := hf29 _ _ hT0
 replace hT1 := hf29 _ _ hT1
 replace hW16 := hW16.le hf29
 replace hle := hle.trans hf29
 obtain ⟨x31, hx32, hm⟩ := ob hm
 refine zhp hs rfl has15 rfl (zo3 n (R_dom_Part.of (x := ({Name := (bs [114,111,111,116]), Text := (bs []), Attrs := ([] : List zab), Kids := [({Name := (bs [112]), Text := (bs []), Attrs := [({Name := (bs [99,108,97,115,115]), Value := (bs [97,34])} : zab)], Kids := [({Name := (bs []), Text := (bs [120,32,60,32,121]), Attrs := ([] : List zab), Kids := ([] : List za8)} : za8)]} : za8)]} : za8)) RS.nil ⟨rw23, hR30, hW16⟩) hx32) ?_; clear hs; (try clear a w)
 rintro _ f33 _ a w hf34 ⟨r35, rfl, rfl, hq36⟩ hs
 replace hT0 := hf34 _ _ hT0
 replace hT1 := hf34 _ _ hT1
 replace hle := hle.trans hf34
 obtain ⟨v37, rfl, ⟨rw38, hR39, hW40⟩⟩ := hq36
 refine sM hs rfl fun hs => s1 (v := .agg #[v37]) hs (zap rfl rfl) fun hs => s1 (v := .int .i64 (x31.2)) hs (zap rfl rfl) fun hs => zbl hs ti30 (.free rfl) (by decide) fun b42 _ _ hs => zb5 (i := 0) hs rfl rfl rfl ti30 ⟨rfl, rfl⟩ (AllC.arr (r := [v37]) ⟨hR39.one, trivial⟩) (.free rfl) fun _ _ hs => sA hs rfl fun hs => za0 <| hK2 <| Ws fun hK3 => ?_
 refine zaq (fun a w => ∃ (y45 : Bool), zhi y45 = some res ∧ St 25 w0 f33 (L) [(0, .bool (y45))] a w) ?_ ?_
 ·clear hs hm
  rintro a w ⟨y45, hm, hs⟩
  unfold zhi at hm
  refine hK3 <| zax ?_
  obtain rfl := Option.some.inj hm
  refine RtV1 hs rfl (rv_t hs rfl) ?_
  exact ⟨rfl,(hs.weak hle).cw⟩
 refine za2 <| sM hs rfl fun hs => s1 hs (zct rfl rfl) fun hs => sM hs rfl fun hs => ?_
 refine St.split hs (t := 16) rfl (fun hg46 hs => ?_) (fun hg46 hs => ?_)
 ·replace hm := oc_t hg46 hm
  refine s2 hs (zj3 rfl U30 rfl ti30 (.head _) rfl) fun hs => ?_
  obtain ⟨x47, hx48, hm⟩ := ob hm
  refine s2 hs (zbi rfl has11 rfl (zkh n ⟨_, rfl, ⟨rw38, hR39, hW40⟩⟩ hx48)) fun hs => s2 hs (zcs rfl rfl) fun hs => sP hs rfl rfl fun hs => sM hs rfl fun hs => ?_
  refine St.split hs (t := 21) rfl (fun hg49 hs => ?_) (fun hg49 hs => ?_)
  ·replace hm := oc_t hg49 hm
   refine s2 hs (zj3 rfl U30 rfl ti30 (.head _) rfl) fun hs => ?_
   obtain ⟨x50, hx51, hm⟩ := ob hm
   refine s2 hs (zbi rfl has10 rfl (zj4 n hT0 hT1 hTT ⟨_, rfl, ⟨rw38, hR39, hW40⟩⟩ hx51)) fun hs => sP hs rfl rfl fun hs => sA hs rfl fun hs => za0 ?_
   exact ⟨x50, hm, hs.subs ⟨rfl, trivial⟩ (.cons _ (.refl _))⟩
  replace hm := oc_f hg49 hm
  refine s3 hs fun hs => s3 hs fun hs => sP hs rfl rfl fun hs => sA hs rfl fun hs => za0 ?_
  exact ⟨false, hm, hs.subs ⟨rfl, trivial⟩ (.cons _ (.refl _))⟩
 replace hm := oc_f hg46 hm
 refine s3 hs fun hs => s3 hs fun hs => s3 hs fun hs => sP hs rfl rfl fun hs => sM hs rfl fun hs => s3 hs fun hs => s3 hs fun hs => sP hs rfl rfl fun hs => sA hs rfl fun hs => za0 ?_
 exact ⟨false, hm, hs.subs ⟨rfl, trivial⟩ (.cons _ (.refl _))⟩
end
section
open Go.RowKit Go.Sl
set_option maxRecDepth 100000 in
theorem known7t (k : Nat) : zhx (k + 60) = some true := by kernel_rfl
end
section
open Go.RowKit Go.Sl
open Go.V (T)
theorem zsc : T (fun k _ => zhx k) (· = true) := ⟨true, rfl,60, fun k n hk _ => by
  obtain ⟨m, rfl⟩ : ∃ m, k = m + 60 := ⟨k - 60, by omega⟩
  exact known7t m⟩
theorem zrt (s : ByteArray) : ∀ (k k' i : Nat), s.size - i < k → s.size - i < k' → zb9 s k i = zb9 s k' i
  | 0, k', i, h, _ => by omega
  | k + 1,0, i, _, h => by omega
  | k + 1, k' + 1, i, h, h' => by
    rw [zb9, zb9]
    by_cases hi : i < s.size
    · have := zrl s i
      rw [zrt s k k' _ (by omega) (by omega)]
    · rw [dF hi]; rfl
theorem zu0 {s : ByteArray} {n n' : Nat} (h : s.size < n) (h' : s.size < n') : attrW n s = attrW n' s := by
  unfold attrW zed
  rw [zrt s n n' 0 (by omega) (by omega)]
theorem NB_same {ns : List zae} {n n' j : Nat} (h : ∀ a ∈ (nd ns j).Attrs, a.Name.size < n ∧ a.Name.size < n') : NB n ns j = NB n' ns j := by
  have e : (nd ns j).Attrs.all (okAt n) = (nd ns j).Attrs.all (okAt n') := by
    rw [Bool.eq_iff_iff, List.all_eq_true, List.all_eq_true]
    have e : ∀ a ∈ (nd ns j).Attrs, okAt n a = okAt n' a := fun a ha => by
      unfold okAt
      rw [zu0 (h a ha).1 (h a ha).2]
    exact ⟨fun g a ha => by rw [← e a ha]; exact g a ha, fun g a ha => by rw [e a ha]; exact g a ha⟩
  unfold NB nodeB bodyB
  rw [e]
end
section
open Go.RowKit Go.Sl
open Go.V (T)
theorem CanT {ns : List zae} (hsz : ∀ x ∈ ns, szN x) : ∃ b, T (fun k _ => zcu k ⟨ns⟩) (· = b) ∧ (b = true → RT ns ∧ ¬ deepP ns ∧ rightR ns 0 ∧ (nd ns 0).Name = bs [114,111,111,116] ∧ (nd ns 0).Attrs.length = 0 ∧ ∀ j,1 ≤ j → j < ns.length → NB 2000000 ns j = true) := by
  obtain ⟨r, _, hr⟩ := zia ns (n := 5000) (by omega)
  by_cases h0 : r = 0
  · subst h0
    obtain ⟨h2, hd⟩ := RT.of hr rfl
    have hok : ∀ n,2000000 ≤ n → okN n ns := fun n hn j hj => by
      have hs := hsz _ (zuz ns hj)
      have ha := h2.alone hj
      refine ⟨?_, fun a ha => ⟨?_, ?_⟩, ?_⟩
      · rcases ha with ⟨_, _, _, h, _⟩ | ⟨_, _, _, h, _⟩ <;> omega
      · have := (hs.2.2 a ha).1; omega
      · have := (hs.2.2 a ha).2; omega
      · have := hs.2.1; omega
    obtain ⟨b, _, hb⟩ := can_eq hr h2 (n := 2000000) (by omega) (hok _ (by omega))
    refine ⟨b, ⟨b, rfl,2000000, fun k n hk _ => ?_⟩, fun e => ?_⟩
    · obtain ⟨b', e1, hb'⟩ := can_eq hr h2 (n := k) (by omega) (hok k hk)
      show zcu k ⟨ns⟩ = some b
      rw [e1]
      congr 1
      rw [Bool.eq_iff_iff, hb', hb]
      have e : ∀ j, j < ns.length → NB k ns j = NB 2000000 ns j := fun j hj => NB_same fun a ha => by
        have := ((hsz _ (zuz ns hj)).2.2 a ha).1
        omega
      exact ⟨fun ⟨a1, a2, a3⟩ => ⟨a1, a2, fun j j1 j2 => by rw [← e j j2]; exact a3 j j1 j2⟩, fun ⟨a1, a2, a3⟩ => ⟨a1, a2, fun j j1 j2 => by rw [e j j2]; exact a3 j j1 j2⟩⟩
    · exact ⟨h2, hd, hr, hb.1 e⟩
  · exact ⟨false, ⟨false, rfl,5000, fun k n hk _ => zvk hr h0 hk⟩, fun e => Bool.noConfusion e⟩
end
section
open Go.RowKit Go.Sl
open Go.V (T)
structure Bst (A : List za4) (o : List Int) (ns : List ByteArray) (c : Nat) (x : za4) (inp : Bool) : Prop where
  path : Path A o ns
  top : o[o.length - 1]? = some (c : Int)
  at_ : A[c]? = some x
  para : nP ∈ ns → inp = true
  kids : ∀ k ∈ x.kids, ∃ (d : Nat) (y : za4), k = d ∧ A[d]? = some y
  klen : x.kids.length ≤ A.length
def lastEl (A : List za4) (x : za4) : Prop := ∀ (k : Int) (d : Nat) (y : za4), x.kids[x.kids.length - 1]? = some k → k = d → A[d]? = some y → y.name ≠ bs []
theorem zs9 {α : Type} {a b l : List α} {i : Nat} (h : (a ++ b) <+: l.drop i) : a <+: l.drop i ∧ b <+: l.drop (i + a.length) := by
  obtain ⟨t, ht⟩ := h
  refine ⟨⟨b ++ t, by rw [← ht]; simp⟩, ⟨t, ?_⟩⟩
  rw [← List.drop_drop, ← ht]; simp
theorem zna {α : Type} {x : α} {b l : List α} {i : Nat} (h : (x :: b) <+: l.drop i) : l[i]? = some x := by
  obtain ⟨t, ht⟩ := h
  have : (l.drop i)[0]? = some x := by rw [← ht]; rfl
  rw [List.getElem?_drop] at this; exact this
theorem Grow.bst {A B : List za4} {o : List Int} {ns : List ByteArray} {c : Nat} {x : za4} {inp : Bool} {ps : List za8} {N : Nat} (h : Bst A o ns c x inp) (g : Grow A B c x ps N) (hN : ps.length ≤ N) : ∃ y, Bst B o ns c y inp ∧ y.name = x.name ∧ ∃ qs : List Nat, qs.length = ps.length ∧ y = { x with kids := x.kids ++ qs.map Int.ofNat } ∧ ∀ (j q : Nat) p, qs[j]? = some q → ps[j]? = some p → Rep B A.length B.length q p := by
  obtain ⟨qs, e1, e2, e3⟩ := g.new
  have hcA := (List.getElem?_eq_some_iff.1 h.at_).1
  have hl := g.len
  have keep : ∀ (d : Nat) y, A[d]? = some y → ∃ y', B[d]? = some y' ∧ y'.name = y.name ∧ y'.above = y.above := fun d y hd => by
    by_cases e : d = c
    · subst e
      have := h.at_
      rw [hd] at this; cases this
      exact ⟨_, e2, rfl, rfl⟩
    · exact ⟨y, by rw [g.old d (List.getElem?_eq_some_iff.1 hd).1 e]; exact hd, rfl, rfl⟩
  refine ⟨_, ⟨⟨h.path.len, h.path.ne, fun j k hj => ?_, fun j k d y hj hk hy => ?_⟩, h.top, e2, h.para, fun k hk => ?_, ?_⟩, rfl, qs, e1, rfl, e3⟩
  · obtain ⟨d, y, h1, h2, h3⟩ := h.path.at_ j k hj
    obtain ⟨y', k1, k2, _⟩ := keep d y h2
    exact ⟨d, y', h1, k1, by rw [k2]; exact h3⟩
  · obtain ⟨d', y0, h1, h2, h3⟩ := h.path.at_ j k hj
    obtain rfl : d = d' := by omega
    obtain ⟨y', k1, _, k3⟩ := keep d y0 h2
    rw [hy] at k1; cases k1
    rw [k3]; exact h.path.up j k d y0 hj hk h2
  · rcases List.mem_append.1 hk with hk | hk
    · obtain ⟨d, y, h1, h2⟩ := h.kids k hk
      obtain ⟨y', k1, _⟩ := keep d y h2
      exact ⟨d, y', h1, k1⟩
    · obtain ⟨q, hq, rfl⟩ := List.mem_map.1 hk
      obtain ⟨j, hj⟩ := List.getElem?_of_mem hq
      have hjl := (List.getElem?_eq_some_iff.1 hj).1
      obtain ⟨p, hp⟩ : ∃ p, ps[j]? = some p := ⟨_, List.getElem?_eq_getElem (show j < ps.length by omega)⟩
      have := e3 j q p hj hp
      cases this with
      | mk h => exact ⟨q, _, rfl, h⟩
  · have := h.klen
    simp; omega
theorem zui {n : Nat} {ks : List za8} (h : ∀ k ∈ ks,1 ≤ szF n k) : ks.length ≤ (ks.map (szF n)).sum := by
  induction ks with
  | nil => simp
  | cons k ks ih =>
    have h1 := h k (List.mem_cons_self ..)
    have h2 := ih fun q hq => h q (List.mem_cons_of_mem _ hq)
    rw [List.map_cons, List.sum_cons, List.length_cons]; omega
def Does1 (l : List za6) (n : Nat) : Prop := ∀ (P : za8) (A : List za4) (o : List Int) (ns : List ByteArray) (c : Nat) (x : za4) (inp : Bool) (i : Nat) (Q : zaa × Int → Prop),
  Bst A o ns c x inp → canF n x.name inp P → (P.Name = bs [] → lastEl A x) → o.length + n ≤ 256 → A.length + szF n P ≤ 4096 → tkF n P <+: l.drop i →
  (∀ B, Grow A B c x [P] (szF n P) → T (fun k m => zay k l m o (B.length : Int) false ((i + (tkF n P).length : Nat) : Int) B) Q) → T (fun k m => zay k l m o (A.length : Int) false (i : Int) A) Q
theorem zsv {n : Nat} {pn : ByteArray} {inp : Bool} {P : za8} (h : canF n pn inp P) : 1 ≤ szF n P := by
  cases n with
  | zero => exact h.elim
  | succ n => show 1 ≤ 1 + _; omega
theorem forest {l : List za6} {n : Nat} (ih : Does1 l n) : ∀ (ks : List za8) (A : List za4) (o : List Int) (ns : List ByteArray) (c : Nat) (x : za4) (inp : Bool) (i : Nat) (Q : zaa × Int → Prop),
    Bst A o ns c x inp → (∀ k ∈ ks, canF n x.name inp k) → noAdj ks → (∀ k, ks[0]? = some k → k.Name = bs [] → lastEl A x) → o.length + n ≤ 256 → A.length + (ks.map (szF n)).sum ≤ 4096 → ks.flatMap (tkF n) <+: l.drop i →
    (∀ B, Grow A B c x ks (ks.map (szF n)).sum → T (fun k m => zay k l m o (B.length : Int) false ((i + (ks.flatMap (tkF n)).length : Nat) : Int) B) Q) → T (fun k m => zay k l m o (A.length : Int) false (i : Int) A) Q := by
  intro ks
  induction ks with
  | nil =>
    intro A o ns c x inp i Q hb _ _ _ _ _ _ g
    exact g A (Grow.nil hb.at_)
  | cons k ks ihk =>
    intro A o ns c x inp i Q hb hc hn h0 hd hs hp g
    rw [List.flatMap_cons] at hp
    obtain ⟨p1, p2⟩ := zs9 hp
    rw [List.map_cons, List.sum_cons] at hs
    have hcA := (List.getElem?_eq_some_iff.1 hb.at_).1
    refine ih k A o ns c x inp i Q hb (hc k (List.mem_cons_self ..)) (h0 k rfl) hd (by omega) p1 fun B gB => ?_
    obtain ⟨y, hb', hyn, qs, e1, e2, e3⟩ := gB.bst hb (by have := zsv (hc k (List.mem_cons_self ..)); simpa using this)
    have hBl := gB.len
    refine ihk B o ns c y inp _ Q hb' (fun q hq => by rw [hyn]; exact hc q (List.mem_cons_of_mem _ hq)) (fun j a b ha hb => hn (j + 1) a b (by simpa using ha) (by simpa using hb)) (fun q hq hqn => ?_) hd (by omega) p2 fun C gC => ?_
    · -- the kid ahead is an element
      have hkn : k.Name ≠ bs [] := fun e => hn 0 k q rfl (by simpa using hq) e hqn
      intro z d w hz hzd hw
      have e1 : qs.length = 1 := e1
      obtain ⟨q0, rfl⟩ : ∃ q0, qs = [q0] := by
        match qs, e1 with
        | [q0], _ => exact ⟨q0, rfl⟩
      subst e2
      simp at hz
      have hd0 : d = q0 := by
        have : z = (q0 : Int) := hz.symm
        omega
      subst hd0
      have := e3 0 d k rfl rfl
      cases this with
      | mk h => rw [h] at hw; cases hw; exact hkn
    · have := g C (by have := Grow.cons hcA gB hb'.at_ gC; rw [List.map_cons, List.sum_cons]; exact this)
      rw [List.flatMap_cons, List.length_append, ← Nat.add_assoc] at this
      exact this
theorem does1 {l : List za6} (hl : l.length ≤ 100000) : ∀ n, Does1 l n
  | 0 => fun P A o ns c x inp i Q hb hc => hc.elim
  | n + 1 => fun P A o ns c x inp i Q hb hc h0 hd hs hp g => by
    obtain ⟨hat, hT, hE⟩ := hc
    have hol : o.length ≤ 1000 := by omega
    have hAl : A.length ≤ 100000 := by omega
    have hkl := hb.klen
    have hcA := (List.getElem?_eq_some_iff.1 hb.at_).1
    have hi : i ≤ 1000000 := by
      have h1 : tkF (n + 1) P ≠ [] := by
        unfold tkF; split <;> simp
      have h2 := hp.length_le
      have h3 : 0 < (tkF (n + 1) P).length := List.length_pos_iff.2 h1
      rw [List.length_drop] at h2; omega
    by_cases hn : P.Name = bs []
    · obtain ⟨t1, t2, t3, t4, t5⟩ := hT hn
      have htk : tkF (n + 1) P = [chT P.Text] := by unfold tkF; rw [if_pos hn]
      have hsz : szF (n + 1) P = 1 := by show 1 + (P.Kids.map (szF n)).sum = 1; rw [t3]; rfl
      have hP : P = ⟨bs [], P.Text,[],[]⟩ := by cases P; simp at hn t2 t3; simp [hn, t2, t3]
      rw [htk] at hp g
      rw [hsz] at g hs
      refine step_ch (o' := o) (B := addN A c x { name := bs [], text := P.Text, attrs := [], above := -1, kids := [] }) hi (zna hp) t1 (by rw [zh4]; omega) ?_ ?_
      · rw [zh4]
        exact chars_E hb.path hol hAl rfl hb.top hb.at_ (by omega) (by omega) t4 t5 (h0 hn) hb.kids
      · refine g _ ?_
        have := Grow.text (s := P.Text) hb.at_
        rw [← hP] at this
        exact this
    · obtain ⟨t1, t2, t3, t4, t5, t6, t7, t8, t9, t10, t11⟩ := hE hn
      have hP : P = ⟨P.Name, bs [], P.Attrs, P.Kids⟩ := by cases P; simp at t1; simp [t1]
      have hsz : szF (n + 1) P = 1 + (P.Kids.map (szF n)).sum := rfl
      have htk : tkF (n + 1) P = opT P.Name P.Attrs :: (bif isVoid P.Name then [] else P.Kids.flatMap (tkF n) ++ [clT P.Name]) := by
        show (if P.Name = bs [] then _ else _) = _
        rw [if_neg hn]
      refine step_op hi (zna (htk ▸ hp)) (P := fun r => (P.Name ∈ voids ∧ r = (⟨o,((A.length + 1 : Nat) : Int), false⟩, addN A c x (elN P.Name P.Attrs))) ∨ (P.Name ∉ voids ∧ r = (⟨o ++ [(A.length : Int)],((A.length + 1 : Nat) : Int), false⟩, addN A c x (elN P.Name P.Attrs)))) ?_ fun r hr => ?_
      · exact opened_E hb.path hol hAl rfl hb.top hb.at_ (by omega) (by omega) hat t2 t3 (fun h hm => by have h1 := t7 h; have h2 := hb.para hm; rw [h1] at h2; cases h2) t4 t5 t6 (fun h => .inl ⟨h, rfl⟩) fun h => .inr ⟨h, rfl⟩
      · rcases hr with ⟨hv, rfl⟩ | ⟨hv, rfl⟩
        · refine ⟨by show ((A.length + 1 : Nat) : Int) ≤ 4096; omega, ?_⟩
          have hk := t9 hv
          rw [htk, zl1.2 hv] at g
          rw [hsz, hk] at g
          have gg : Grow A (addN A c x (elN P.Name P.Attrs)) c x [P] (1 + 0) := by
            have := Grow.elem (at_ := P.Attrs) (s := P.Name) hb.at_ (Nat.zero_le _) (Grow.nil (A := addN A c x (elN P.Name P.Attrs)) (c := A.length) zme)
            rw [show (⟨P.Name, bs [], P.Attrs,[]⟩ : za8) = P by rw [← hk]; exact hP.symm] at this
            exact this
          have := g _ gg
          rw [zh4] at this
          exact this
        · refine ⟨by show ((A.length + 1 : Nat) : Int) ≤ 4096; omega, ?_⟩
          have hnv : isVoid P.Name = false := Bool.eq_false_iff.2 fun h => hv (zl1.1 h)
          rw [htk, hnv, cond_false] at hp g
          obtain ⟨p1, p2⟩ := zs9 (a := [opT P.Name P.Attrs]) hp
          obtain ⟨p3, p4⟩ := zs9 p2
          have hne := hb.path.ne
          have hb2 : Bst (addN A c x (elN P.Name P.Attrs)) (o ++ [(A.length : Int)]) (ns ++ [P.Name]) A.length { elN P.Name P.Attrs with above := (c : Int) } (inp || decide (P.Name = nP)) :=
            ⟨hb.path.push (nd := elN P.Name P.Attrs) hb.at_ hb.top, by simp, zme, fun hm => by
              rcases List.mem_append.1 hm with hm | hm
              · rw [hb.para hm]; rfl
              · rw [decide_eq_true (List.mem_singleton.1 hm).symm, Bool.or_true], fun k hk => (by cases hk), Nat.zero_le _⟩
          show T (fun k m => zay k l m (o ++ [(A.length : Int)]) ((A.length + 1 : Nat) : Int) false ((i + 1 : Nat) : Int) (addN A c x (elN P.Name P.Attrs))) Q
          have := forest (does1 hl n) P.Kids (addN A c x (elN P.Name P.Attrs)) (o ++ [(A.length : Int)]) (ns ++ [P.Name]) A.length { elN P.Name P.Attrs with above := (c : Int) } (inp || decide (P.Name = nP)) (i + 1) Q hb2 t11 t10 (fun k _ _ => fun z d w hz => by simp at hz) (by simp; omega) (by rw [zh4]; omega) p3 fun B gB => ?_
          · rw [zh4] at this; exact this
          · have hps := zui fun k hk => zsv (t11 k hk)
            have gE := Grow.elem hb.at_ (by omega) gB
            rw [← hP] at gE
            have hBl := gB.len
            rw [zh4] at hBl
            obtain ⟨y, hb3, hyn, _⟩ := gB.bst hb2 (zui fun k hk => zsv (t11 k hk))
            have hcl := closed_E hb3.path (by simp; omega) (by omega) rfl hb3.top hb3.at_ (by simp; omega) (by rw [hyn]; exact hv) (by rw [hyn]; exact t8)
            rw [hyn] at hcl
            have ht : (o ++ [(A.length : Int)]).take ((o ++ [(A.length : Int)]).length - 1) = o := by simp
            rw [ht] at hcl
            have hpos := (List.getElem?_eq_some_iff.1 (zna p4)).1
            refine step_cl (by simp only [List.length_cons, List.length_nil] at hpos; omega) (zna p4) (by omega) hcl ?_
            have := g B gE
            have e : i + (opT P.Name P.Attrs :: (P.Kids.flatMap (tkF n) ++ [clT P.Name])).length = i + 1 + (P.Kids.flatMap (tkF n)).length + 1 := by simp; omega
            rw [e] at this
            exact this
end
section
open Go.RowKit Go.Sl
open Go.V (T)
theorem part_E {A : List za4} {lo hi i : Nat} {p : za8} (h : Rep A lo hi i p) : T (fun _ n => ze6 n (i : Int) A) (· = p) := by
  induction h with
  | @mk i x ps h h1 h2 hl hkx hc hk ih =>
    refine T.step ?_
    have loop : ∀ (e j : Nat), j + e = x.kids.length → T (fun k n => zcd A (ze6 k) x n (ps.take j) (j : Int)) (· = (⟨x.name, x.text, x.attrs, ps⟩ : za8)) := by
      intro e
      induction e with
      | zero =>
        intro j hj
        refine T.step ?_
        unfold zcd zf4
        refine T.dec (fun _ => by omega) fun _ => T.some ?_
        rw [List.take_of_length_le (by omega)]
      | succ e ihe =>
        intro j hj
        refine T.step ?_
        unfold zcd zf4
        have hjl : j < x.kids.length := by omega
        have hjp : j < ps.length := by omega
        obtain ⟨c, e1⟩ := hc _ (List.getElem_mem hjl)
        refine T.dec (fun _ => T.getN (List.getElem?_eq_getElem hjl) ?_) fun h => absurd (show (j : Int) < _ by omega) h
        rw [e1]
        refine T.bind (T.fl (ih j c _ (by rw [List.getElem?_eq_getElem hjl, e1]) (List.getElem?_eq_getElem hjp))) fun p hp => ?_
        subst hp
        refine T.app (by simp; omega) (by simp; omega) ?_
        rw [zfd (by omega), show ps.take j ++ [ps[j]] = ps.take (j + 1) by rw [List.take_add_one, List.getElem?_eq_getElem hjp]; rfl]
        exact ihe (j + 1) (by omega)
    show T (fun _ n => zfo (ze6 n) n (i : Int) A) _
    unfold zfo
    exact T.foc h (by simp) (T.dg (F := fun k n => zcd A (ze6 k) x n [] 0) (loop x.kids.length 0 (by omega)))
theorem Build_E {n : Nat} {ks : List za8} (hn : n ≤ 255) (hc : ∀ k ∈ ks, canF n nRoot false k) (ha : noAdj ks) (hs : 1 + (ks.map (szF n)).sum ≤ 4096) (hl : (ks.flatMap (tkF n)).length ≤ 100000) {r : zaa × Int} (hM : T (fun k _ => zj9 k ⟨nRoot, bs [],[], ks⟩) (· = r)) : T (fun k _ => zjm k (ks.flatMap (tkF n))) (· = r) := by
  let rt : za4 := {name := (bs [114,111,111,116]), text := (bs []), attrs := ([] : List zab), above := (-1 : Int), kids := ([] : List Int)}
  have hb : Bst [rt] [0] [nRoot] 0 rt false := by
    refine ⟨⟨rfl, by simp, fun j k hj => ?_, fun j k d y hj hk hy => ?_⟩, rfl, rfl, fun h => ?_, fun k hk => (by cases hk), Nat.zero_le _⟩
    · have := (List.getElem?_eq_some_iff.1 hj).1
      obtain rfl : j = 0 := by simpa using this
      cases hj
      exact ⟨0, rt, rfl, rfl, rfl⟩
    · have := (List.getElem?_eq_some_iff.1 hj).1
      obtain rfl : j = 0 := by simpa using this
      cases hj
      obtain rfl : d = 0 := by omega
      cases hy
      rfl
    · exact absurd (List.mem_singleton.1 h) (by decide)
  unfold zjm
  refine T.diag (F := fun k m => zay k (ks.flatMap (tkF n)) m [0] 1 false 0 [rt]) ?_
  refine forest (does1 hl n) ks [rt] [0] [nRoot] 0 rt false 0 (· = r) hb hc ha (fun k _ _ => fun z d w hz => by simp [rt] at hz) (by simp; omega) (by simpa using hs) (List.prefix_refl _) fun B gB => ?_
  obtain ⟨qs, e1, e2, e3⟩ := gB.new
  have hBl := gB.len
  refine T.step ?_
  unfold zay zik
  refine T.dec (fun h => by simp only [Nat.zero_add] at h; omega) fun _ => T.bif (fun h => by cases h) fun _ => ?_
  have hps := zui fun k hk => zsv (hc k hk)
  · have hr : Rep B 0 B.length 0 ⟨nRoot, bs [],[], ks⟩ := .mk e2 (Nat.le_refl _) (by rw [hBl]; simp; omega) (by simp [rt, e1]) (by simp [rt, e1]; omega) (fun k hk => by
      obtain ⟨q, _, rfl⟩ := List.mem_map.1 (show k ∈ qs.map Int.ofNat by simpa [rt] using hk)
      exact ⟨q, rfl⟩) fun j d p hd hp => by
      have hd : (qs.map Int.ofNat)[j]? = some (d : Int) := by simpa [rt] using hd
      rw [List.getElem?_map] at hd
      obtain ⟨q, h1, h2⟩ := Option.map_eq_some_iff.1 hd
      obtain rfl : q = d := Int.ofNat.inj h2
      exact (e3 j q p h1 hp).to (Nat.zero_le _) (Nat.le_refl _) fun _ _ _ => rfl
    refine T.bind (T.fl (part_E hr)) fun p hp => ?_
    subst hp
    exact T.bind hM fun q hq => T.some (by subst hq; rfl)
end
end Go.Proofs.YtpfdbeafdjnbnaaGreatDoor
namespace Go.Sl
set_option linter.unusedVariables false
set_option linter.unusedSimpArgs false
set_option linter.unusedSectionVars false
open Go.RowKit
section
variable {P : Program} {f f' f0 : Fz} {L L' Lc : List Ent} {w0 w w' : World} {n m i : Nat} {E E' : List (Nat × Value)} {a : Act}
variable {ops : Array Oper} {rest : List Oper} {o : Oper} {K : AP} {C : World → Prop} {op : Op}
variable {d : Option Tmp} {ty : TypeId} {pos : String} {af : Array Edge} {g : Option (Nat × Bool)} {brk : List Nat} {p : PT} {v : Value}
theorem zsi {s : ByteArray} {xs : List Int} (h : bytesM s = some xs) : s.size ≤ 70368744177664 ∧ bytesIn s = xs := by
  unfold bytesM at h
  by_cases hs : s.size ≤ 70368744177664
  · rw [decide_eq_true hs] at h; exact ⟨hs, Option.some.inj h⟩
  · rw [decide_eq_false hs] at h; cases h
theorem RL_s2bW {t u e : TypeId} {x : Operand} {s : ByteArray} {xs : List Int} {dd : Nat} (hm : bytesM s = some xs) (hs : St n w0 f L E a w) (hx : opv E x = some (.string s)) (ht : P.underlying t = some .string) (hu : P.underlying u = some (.slice e)) (he : P.underlying e = some (.int .u8))
    (h : ∀ f' v rows a w, Fz.le f f' → Rd f' [] v 1 rows → RW (tInt .u8) f' rows xs → St n w0 f' L ((dd, v) :: E) a w → RL P ops rest K a w) (hd : dd < n := by decide) :
    RL P ops (⟨some dd, .convert t u x, ty, pos, af, none⟩ :: rest) K a w := by
  obtain ⟨_, rfl⟩ := zsi hm
  exact RL_s2b hs hx ht hu he (fun f' v a w hf hR hs => h f' v _ a w hf hR (RW.ofInts _) hs) hd
end
end Go.Sl
