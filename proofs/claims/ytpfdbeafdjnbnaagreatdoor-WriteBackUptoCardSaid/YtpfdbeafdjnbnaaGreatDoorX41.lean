/-
  Walks and laws of this seat.
-/
import Derived.Test.YtpfdbeafdjnbnaaGreatDoorBash
import Derived.Test.YtpfdbeafdjnbnaaGreatDoorX40
import Derived.Test.YtpfdbeafdjnbnaaGreatDoorX36
import Derived.Test.YtpfdbeafdjnbnaaGreatDoorX30
import Derived.Test.YtpfdbeafdjnbnaaGreatDoorRows
import Derived.Test.YtpfdbeafdjnbnaaGreatDoorX28
import Derived.Test.YtpfdbeafdjnbnaaGreatDoorX0
namespace Go.Proofs.YtpfdbeafdjnbnaaGreatDoor
set_option linter.unusedVariables false
set_option linter.unusedSimpArgs false
set_option linter.unusedSectionVars false
section
set_option maxHeartbeats 4000000
set_option maxRecDepth 100000
open Go.RowKit Go.Sl
def zgj (y33 : Bool) : Option Bool :=
  some y33
def zeb (y51 : Bool) : Option Bool :=
  some y51
def zd0 (n : Nat) (p0 : zaa) (y8 : Bool) : Option Bool :=
  (bif y8 then (zhx n).bind fun x10 =>
  some x10 else
  (zh8 n p0).bind fun x12 =>
  (bytesM x12).bind fun x14 =>
  (zfj n x14).bind fun x23 =>
  (bif (decide (65536 < (x12.size : Int))) then (bif (decide (x23.2 = 3)) then (zhx n).bind fun x35 =>
  zgj x35 else
  zgj false) else
  (zjl n x23.1).bind fun x37 =>
  (bif (decide (x23.2 = 0)) then (bif (decide (x37.2 = 0)) then (zgk n p0 x37.1).bind fun x54 =>
  (bif x54 then (zhx n).bind fun x57 =>
  zeb x57 else
  zeb false) else
  zeb false) else
  zeb false)))
def zgx (n : Nat) (p0 : zaa) : Option Bool :=
  (bif (decide (300 < (p0.Nodes.length : Int))) then zd0 n p0 true else
  (zcu n p0).bind fun x60 =>
  zd0 n p0 (!x60))
theorem zms (n : Nat) {f : Fz} {o0 : Obj} {o1 : Obj} {p0 : zaa} {a0 : List Value} {res : Bool} (hT0 : f 0 = some o0) (hT1 : f 1 = some o1) (hTT : Tabs o0 o1) (h0 : zcz.R f a0 p0) (hm : zgx n p0 = some res) : Gives Tryz.prog 4 [.agg a0.toArray] f (.bool res) := by
 unfold zgx at hm
 intro w0 L w hC
 obtain ⟨v1, rfl, ⟨rw2, hR3, hW4⟩⟩ := h0
 refine enter Tryz.func4 rfl Tryz.ntmps4 (by simp) hC fun a hs => ?_
 have hle := Fz.le.refl f
 refine Wq fun hK1 => sbox hs rfl fun b6 _ _ hs => sA hs rfl fun hs => za0 <| hK1 <| Ws fun hK2 => Ws fun hK3 => ?_
 refine zaq (fun a w => ∃ (y8 : Bool), zd0 n p0 y8 = some res ∧ St 53 w0 f (.blk b6 (.cells #[v1] 30 (0,0)) :: L) [(1, pq b6 0),(16, .bool (y8))] a w) ?_ ?_
 ·clear hs hm
  rintro a w ⟨y8, hm, hs⟩
  unfold zd0 at hm
  refine hK3 ?_
  refine zah hs rfl (fun hg9 => ?_) (fun hg9 => ?_)
  ·replace hm := oc_t hg9 hm
   refine Ws fun hK4 => za2 ?_
   obtain ⟨x10, hx11, hm⟩ := ob hm
   refine s1 hs (zbi rfl has7 rfl (zk2 n  hT0 hT1 hTT hx11)) fun hs => sA hs rfl fun hs => za0 <| hK4 <| zax ?_
   obtain rfl := Option.some.inj hm
   refine RtV1 hs rfl (rv_t hs rfl) ?_
   exact ⟨rfl,((hs.subL (.cons _ (.refl _))).weak hle).cw⟩
  replace hm := oc_f hg9 hm
  refine zaj <| hK2 <| Wq fun hK5 => s1 hs (zj3 rfl U30 rfl ti30 (.head _) rfl) fun hs => ?_
  obtain ⟨x12, hx13, hm⟩ := ob hm
  refine s1 hs (zbi rfl has11 rfl (zkh n ⟨_, rfl, ⟨rw2, hR3, hW4⟩⟩ hx13)) fun hs => sA hs rfl fun hs => za0 <| hK5 <| Wq fun hK6 => sM hs rfl fun hs => ?_
  obtain ⟨x14, hx15, hm⟩ := ob hm
  refine RL_s2bW hx15 hs rfl U9 U36 U5 fun f20 v16 rw17 _ _ hf21 hR18 hW19 hs => ?_
  replace hR3 := hR3.le hf21
  replace hW4 := hW4.le hf21
  replace hT0 := hf21 _ _ hT0
  replace hT1 := hf21 _ _ hT1
  replace hle := hle.trans hf21
  obtain ⟨x23, hx24, hm⟩ := ob hm
  refine zhp hs rfl has12 rfl (zn3 n ⟨rw17, hR18, hW19⟩ hx24) ?_; clear hs; (try clear a w)
  rintro _ f25 _ a w hf26 ⟨v27, rfl, rfl, ⟨rw28, hR29, hW30⟩⟩ hs
  replace hR3 := hR3.le hf26
  replace hW4 := hW4.le hf26
  replace hT0 := hf26 _ _ hT0
  replace hT1 := hf26 _ _ hT1
  replace hle := hle.trans hf26
  refine sM hs rfl fun hs => s1 (v := v27) hs (zap rfl rfl) fun hs => s1 (v := .int .i64 (x23.2)) hs (zap rfl rfl) fun hs => sA hs rfl fun hs => sA hs rfl fun hs => za0 <| hK6 <| Ws fun hK7 => Ws fun hK8 => za2 ?_
  refine sM hs rfl fun hs => s1 hs (zg2 rfl U9) fun hs => s1 hs (zhq rfl rfl) fun hs => za0 <| hK8 ?_
  refine zah hs rfl (fun hg32 => ?_) (fun hg32 => ?_)
  ·replace hm := oc_t hg32 hm
   refine Ws fun hK9 => ?_
   refine zaq (fun a w => ∃ (y33 : Bool), zgj y33 = some res ∧ St 53 w0 f25 (L) [(2, .bool (y33))] a w) ?_ ?_
   ·clear hs hm
    rintro a w ⟨y33, hm, hs⟩
    unfold zgj at hm
    refine hK9 <| zax ?_
    obtain rfl := Option.some.inj hm
    refine RtV1 hs rfl (rv_t hs rfl) ?_
    exact ⟨rfl,(hs.weak hle).cw⟩
   refine za2 <| sM hs rfl fun hs => s1 hs (zct rfl rfl) fun hs => sM hs rfl fun hs => ?_
   refine St.split hs (t := 31) rfl (fun hg34 hs => ?_) (fun hg34 hs => ?_)
   ·replace hm := oc_t hg34 hm
    obtain ⟨x35, hx36, hm⟩ := ob hm
    refine s2 hs (zbi rfl has7 rfl (zk2 n  hT0 hT1 hTT hx36)) fun hs => sP hs rfl rfl fun hs => sA hs rfl fun hs => za0 ?_
    exact ⟨x35, hm, hs.subs ⟨rfl, trivial⟩ (.cons _ (.refl _))⟩
   replace hm := oc_f hg34 hm
   refine s3 hs fun hs => sP hs rfl rfl fun hs => sA hs rfl fun hs => za0 ?_
   exact ⟨false, hm, hs.subs ⟨rfl, trivial⟩ (.cons _ (.refl _))⟩
  replace hm := oc_f hg32 hm
  refine zaj <| hK7 <| Wq fun hK10 => sM hs rfl fun hs => ?_
  obtain ⟨x37, hx38, hm⟩ := ob hm
  refine zhp hs rfl has13 rfl (zpn n ⟨rw28, hR29, hW30⟩ hx38) ?_; clear hs; (try clear a w)
  rintro _ f39 _ a w hf40 ⟨r41, rfl, rfl, hq42⟩ hs
  replace hR3 := hR3.le hf40
  replace hW4 := hW4.le hf40
  replace hT0 := hf40 _ _ hT0
  replace hT1 := hf40 _ _ hT1
  replace hle := hle.trans hf40
  obtain ⟨v43, rfl, ⟨rw44, hR45, hW46⟩⟩ := hq42
  refine sM hs rfl fun hs => s1 (v := .agg #[v43]) hs (zap rfl rfl) fun hs => s1 (v := .int .i64 (x37.2)) hs (zap rfl rfl) fun hs => zbl hs ti30 (.free rfl) (by decide) fun b48 _ _ hs => zb5 (i := 0) hs rfl rfl rfl ti30 ⟨rfl, rfl⟩ (AllC.arr (r := [v43]) ⟨hR45.one, trivial⟩) (.free rfl) fun _ _ hs => sA hs rfl fun hs => za0 <| hK10 <| Ws fun hK11 => ?_
  refine zaq (fun a w => ∃ (y51 : Bool), zeb y51 = some res ∧ St 53 w0 f39 (L) [(2, .bool (y51))] a w) ?_ ?_
  ·clear hs hm
   rintro a w ⟨y51, hm, hs⟩
   unfold zeb at hm
   refine hK11 <| zax ?_
   obtain rfl := Option.some.inj hm
   refine RtV1 hs rfl (rv_t hs rfl) ?_
   exact ⟨rfl,(hs.weak hle).cw⟩
  refine za2 <| sM hs rfl fun hs => s1 hs (zct rfl rfl) fun hs => sM hs rfl fun hs => ?_
  refine St.split hs (t := 41) rfl (fun hg52 hs => ?_) (fun hg52 hs => ?_)
  ·replace hm := oc_t hg52 hm
   refine s2 (v := .int .i64 (x37.2)) hs (za3 rfl) fun hs => s2 hs (zct rfl rfl) fun hs => sP hs rfl rfl fun hs => sM hs rfl fun hs => ?_
   refine St.split hs (t := 45) rfl (fun hg53 hs => ?_) (fun hg53 hs => ?_)
   ·replace hm := oc_t hg53 hm
    refine s2 hs (zj3 rfl U30 rfl ti30 (.tail _ (.head _)) rfl) fun hs => s2 hs (zj3 rfl U30 rfl ti30 (.head _) rfl) fun hs => ?_
    obtain ⟨x54, hx55, hm⟩ := ob hm
    refine s2 hs (zbi rfl has14 rfl (zn7 n ⟨_, rfl, ⟨rw2, hR3, hW4⟩⟩ ⟨_, rfl, ⟨rw44, hR45, hW46⟩⟩ hx55)) fun hs => sP hs rfl rfl fun hs => sM hs rfl fun hs => ?_
    refine St.split hs (t := 50) rfl (fun hg56 hs => ?_) (fun hg56 hs => ?_)
    ·replace hm := oc_t hg56 hm
     obtain ⟨x57, hx58, hm⟩ := ob hm
     refine s2 hs (zbi rfl has7 rfl (zk2 n  hT0 hT1 hTT hx58)) fun hs => sP hs rfl rfl fun hs => sA hs rfl fun hs => za0 ?_
     exact ⟨x57, hm, hs.subs ⟨rfl, trivial⟩ (.cons _ (.cons _ (.refl _)))⟩
    replace hm := oc_f hg56 hm
    refine s3 hs fun hs => sP hs rfl rfl fun hs => sA hs rfl fun hs => za0 ?_
    exact ⟨false, hm, hs.subs ⟨rfl, trivial⟩ (.cons _ (.cons _ (.refl _)))⟩
   replace hm := oc_f hg53 hm
   refine s3 hs fun hs => s3 hs fun hs => s3 hs fun hs => sP hs rfl rfl fun hs => sM hs rfl fun hs => s3 hs fun hs => sP hs rfl rfl fun hs => sA hs rfl fun hs => za0 ?_
   exact ⟨false, hm, hs.subs ⟨rfl, trivial⟩ (.cons _ (.cons _ (.refl _)))⟩
  replace hm := oc_f hg52 hm
  refine s3 hs fun hs => s3 hs fun hs => sP hs rfl rfl fun hs => sM hs rfl fun hs => s3 hs fun hs => s3 hs fun hs => s3 hs fun hs => sP hs rfl rfl fun hs => sM hs rfl fun hs => s3 hs fun hs => ?_
  refine sP hs rfl rfl fun hs => sA hs rfl fun hs => za0 ?_
  exact ⟨false, hm, hs.subs ⟨rfl, trivial⟩ (.cons _ (.cons _ (.refl _)))⟩
 refine za2 <| s1 (v := pq b6 0) hs (za1 rfl (FO.of (off := 0) U30 rfl rfl ti28 (by decide))) fun hs => s1 (v := v1) hs (y_ld rfl U28 rfl (Cell.blk (.head _) rfl)) fun hs => s1 hs (zc3 hR3 hW4 rfl U28) fun hs => s1 hs (zhq rfl rfl) fun hs => sM hs rfl fun hs => ?_
 refine St.split hs (t := 12) rfl (fun hg59 hs => ?_) (fun hg59 hs => ?_)
 ·replace hm := oc_t hg59 hm
  refine s3 hs fun hs => s3 hs fun hs => s3 hs fun hs => sP hs rfl rfl fun hs => za0 ?_
  exact ⟨true, hm, hs.sub ⟨rfl, rfl, trivial⟩⟩
 replace hm := oc_f hg59 hm
 refine s2 hs (zj3 rfl U30 rfl ti30 (.head _) rfl) fun hs => ?_
 obtain ⟨x60, hx61, hm⟩ := ob hm
 refine s2 hs (zbi rfl has10 rfl (zj4 n hT0 hT1 hTT ⟨_, rfl, ⟨rw2, hR3, hW4⟩⟩ hx61)) fun hs => s2 (v := .bool ((!x60))) hs (zfc rfl) fun hs => sP hs rfl rfl fun hs => za0 ?_
 exact ⟨(!x60), hm, hs.sub ⟨rfl, rfl, trivial⟩⟩
end
section
open Go.RowKit Go.Sl
open Go.V (T)
theorem zv7 {t : zaa} : T (fun k _ => zd0 k t true) (· = true) := by
  unfold zd0
  exact T.bif (fun _ => T.bind zsc fun r hr => T.some hr) fun h => Bool.noConfusion h
theorem ztn {p : za8} (h : okP p) : okP (cleanP p) := zr6 (psize p) p (Nat.le_refl _) h
theorem zpa : ∀ (s : Nat) (p : za8), psize p ≤ s → cleanP (cleanP p) = cleanP p
  | 0, p, h => by rw [zek] at h; omega
  | s + 1, p, h => by
    rw [zek] at h
    by_cases hn : p.Name = bs []
    · rw [ziz hn, ziz rfl]
    · rw [zhy hn, zhy (by exact hn)]
      simp only [List.map_map, za8.mk.injEq, true_and]
      apply List.map_congr_left
      intro k hk
      have := zky hk
      exact zpa s k (by omega)
theorem right_T {ns : List zae} (h : rightR ns 0) : T (fun k _ => zib k ⟨ns⟩) (· = 0) := ⟨0, rfl,5000, fun k n hk _ => by
  obtain ⟨r, e, hr⟩ := zia ns hk
  obtain rfl := rightR.uniq ns hr h
  exact e⟩
theorem same_T {ns : List zae} (hl : ns.length ≤ 4096) (ha : ∀ x ∈ ns, x.Attrs.length ≤ 64) : T (fun k _ => zgk k ⟨ns⟩ ⟨ns⟩) (· = true) := ⟨true, rfl,5000, fun k n hk _ => by
  show zgk k ⟨ns⟩ ⟨ns⟩ = some true
  unfold zgk
  rw [dF (show ¬ ((((⟨ns⟩ : zaa).Nodes.length : Nat) : Int) ≠ _) from fun h => h rfl), cond_false]
  exact zqy (by omega) ha (by omega) ns.length 0 k (by omega) (by omega)⟩
theorem make_T {P : za8} (hP : okP P) (hs : psize P ≤ 2000) (hr : rightR (lay P 0 (-1) (-1) (-1)) 0) : T (fun k _ => zj9 k P) (· = (⟨lay P 0 (-1) (-1) (-1)⟩, 0)) := ⟨_, rfl,5000000000000, fun k n hk _ => by
  obtain ⟨r, h1, h2⟩ := make_eq hk hP hs
  obtain rfl := rightR.uniq _ h1 hr
  exact h2⟩
end
section
open Go.RowKit Go.Sl
open Go.V (T)
theorem zuo {ns : List zae} (h : RT ns) (hnm : (nd ns 0).Name = bs [114,111,111,116]) (hat : (nd ns 0).Attrs.length = 0) : ∃ ks, ns = lay ⟨nRoot, bs [],[], ks⟩ 0 (-1) (-1) (-1) ∧ okP ⟨nRoot, bs [],[], ks⟩ ∧ cleanP ⟨nRoot, bs [],[], ks⟩ = ⟨nRoot, bs [],[], ks⟩ ∧ psize ⟨nRoot, bs [],[], ks⟩ ≤ ns.length := by
  obtain ⟨p, e1, e2, e3⟩ := zts ns h.pos h.linked
  obtain ⟨x, rr, a1, a2, a3, a4, a5, a6, a7⟩ := zm3 p 0 (-1) (-1) (-1)
  have hx : nd ns 0 = x := by rw [e1, a1]; rfl
  have hpn : p.Name = nRoot := by rw [← a5, ← hx, hnm]
  have hn : p.Name ≠ bs [] := by rw [hpn]; decide
  have hlay := zg5 hn 0 (-1) (-1) (-1)
  rw [a1] at hlay
  have hxa : x.Attrs = p.Attrs := by rw [(List.cons.inj hlay).1]; rfl
  have hpa : p.Attrs = [] := List.eq_nil_of_length_eq_zero (by rw [← hxa, ← hx]; exact hat)
  have hc : cleanP p = ⟨nRoot, bs [],[], p.Kids.map cleanP⟩ := by rw [zhy hn, hpn, hpa]
  refine ⟨p.Kids.map cleanP, ?_, ?_, ?_, ?_⟩
  · rw [← hc, zra]; exact e1
  · rw [← hc]; exact ztn e3
  · rw [← hc]; exact zpa (psize p) p (Nat.le_refl _)
  · rw [← hc, ← e2]; exact zs8 (psize p) p (Nat.le_refl _)
end
section
open Go.RowKit Go.Sl
open Go.V (T)
theorem zt0 (n : Nat) : ∀ ks : List za8,(∀ k ∈ ks, szW n k) → (ks.flatMap (mkB n)).length ≤ 1000000000 * (ks.map (szF n)).sum
  | [], _ => by simp
  | k :: r, h => by
    have h1 := zv0 n k (h k List.mem_cons_self)
    have h2 := zt0 n r fun x hx => h x (List.mem_cons_of_mem _ hx)
    simp only [List.flatMap_cons, List.length_append, List.map_cons, List.sum_cons]
    omega
theorem zv4 : ∀ ks : List za8, ks.length ≤ pssize ks
  | [] => Nat.zero_le _
  | k :: r => by
    have h1 := zek k
    have h2 := zv4 r
    simp only [List.length_cons, pssize]
    omega
theorem zsu (n : Nat) : ∀ ks : List za8,(ks.flatMap (tkF n)).length ≤ 2 * (ks.map (szF n)).sum
  | [] => by simp
  | k :: r => by
    have h1 := zuf n k
    have h2 := zsu n r
    simp only [List.flatMap_cons, List.length_append, List.map_cons, List.sum_cons]
    omega
theorem law_can {ns : List zae} (hsz : ∀ x ∈ ns, szN x) (hl : ns.length ≤ 300) (h : RT ns) (hd : ¬ deepP ns) (hr : rightR ns 0) (hnm : (nd ns 0).Name = bs [114,111,111,116]) (hat : (nd ns 0).Attrs.length = 0)
    (hnb : ∀ j,1 ≤ j → j < ns.length → NB 2000000 ns j = true) : T (fun k _ => zd0 k ⟨ns⟩ false) (· = true) := by
  obtain ⟨ks, e1, hok, hcl, hps⟩ := zuo h hnm hat
  have hn0 : (⟨nRoot, bs [],[], ks⟩ : za8).Name ≠ bs [] := by show nRoot ≠ _; decide
  have hlay := zg5 hn0 0 (-1) (-1) (-1)
  have e2 := e1
  rw [hlay] at e2
  generalize hx0 : enode nRoot ([] : List zab) (-1) (if ks.length = 0 then (-1 : Int) else ((0 + 1 : Nat) : Int)) (lastOf ks (0 + 1) (-1)) (-1) (-1) = x0 at e2
  have hszj : ∀ j, j < ns.length → szN (nd ns j) := fun j hj => hsz _ (zuz ns hj)
  have hck : ∀ k ∈ ks, cleanP k = k := (zo5 hn0 hcl).2
  have hrow0 : (row ns 0).length = 1 := rfl
  obtain ⟨hw, hna, _⟩ := kidsW h hd (Nat.le_refl _) hnb hszj (layW h hd (Nat.le_refl _) hnb hszj 255) (q := 0) (by omega) ks (-1) [x0] [] hck (by rw [e2]; simp) (by simp)
  rw [hnm, pf_zero] at hw
  have hw : ∀ k ∈ ks, wF 255 nRoot false k := hw
  have hpsz : psize ⟨nRoot, bs [],[], ks⟩ = 1 + pssize ks := by rw [zek]
  have hsF : (ks.map (szF 255)).sum ≤ 300 := by have := szFs_le 255 ks; omega
  have hsW : ∀ k ∈ ks, szW 255 k := fun k hk => wF_sz 255 _ _ k (hw k hk)
  have hBl := zt0 255 ks hsW
  have hTl := zsu 255 ks
  have hbR := zsd (F := mkF 255) (G := mkB 255) fun k hk => wF_bR 255 _ _ k (hw k hk)
  generalize hR : (ks.map (mkF 255)).flatten = R at hbR
  generalize hB : ks.flatMap (mkB 255) = B at hbR hBl
  have hS : textOf R = bytesOf B := by rw [zuh hbR.1, hbR.2]
  have hBs : (bytesOf B).size = B.length := zfb _
  have hkl : ks.length ≤ 300 := by
    have : ks.length ≤ pssize ks := zv4 ks
    omega
  -- Markup
  have hM : T (fun k _ => zh8 k ⟨ns⟩) (· = bytesOf B) := by
    unfold zh8
    refine T.bind (right_T hr) fun r hr => ?_
    subst hr
    refine T.dec (fun q => absurd rfl q) fun _ => ?_
    have := mkT (ns := ns) 255 ⟨nRoot, bs [],[], ks⟩ [] [] (-1) (-1) (-1) [] false hn0 (by rw [List.append_nil, List.nil_append]; exact e1) ⟨by show nRoot.size ≤ _; decide, by show (bs []).size ≤ _; decide, by simp, fun a (ha : a ∈ ([] : List zab)) => (by cases ha), by show ks.length ≤ _; omega, fun _ => ⟨by show nRoot ∉ _; decide, hsW⟩⟩ (by simp only [List.length_nil, Nat.zero_add]; rw [hB]; omega)
    refine T.bind this fun r hr => ?_
    rw [hr]
    simp only [List.nil_append, hB]
    exact T.some rfl
  have hMk := make_T hok (by rw [hpsz]; omega) (by rw [← e1]; exact hr)
  unfold zd0
  refine T.bif (fun q => Bool.noConfusion q) fun _ => ?_
  refine T.bind hM fun r hr => ?_
  subst hr
  refine T.bind (T.of (show bytesM (bytesOf B) = some (bytesIn (bytesOf B)) by unfold bytesM; rw [decide_eq_true (by omega)]; rfl) (P := (· = bytesIn (bytesOf B))) rfl) fun r hr => ?_
  subst hr
  by_cases hlong : 65536 < (bytesOf B).size
  · refine T.bind (zsn hlong) fun r hr => ?_
    subst hr
    refine T.dec (fun _ => ?_) fun q => absurd (by omega) q
    refine T.dec (fun _ => ?_) fun q => absurd rfl q
    exact T.bind zsc fun r hr => T.some hr
  · refine T.bind (Decode_T hS.symm (fun y hy => (hbR.1 y hy).1) (fun y hy => (hbR.1 y hy).2) (by omega)) fun r hr => ?_
    subst hr
    refine T.dec (fun q => by omega) fun _ => ?_
    have hRl : R.length ≤ 100000 := by
      have q1 := zjc (textOf R)
      rw [zjb fun y hy => (hbR.1 y hy).1, hS] at q1
      omega
    have hP : T (fun k _ => zjl k R) (· = (⟨ns⟩, 0)) := by
      unfold zjl
      refine T.bind (Tokens_E (l := R) hRl (n := 255) (ks := ks) (Rs := ks.map (mkF 255)) (by simp) (fun j k r hk hr => ?_) hna hR.symm (by omega)) fun tk htk => ?_
      · rw [List.getElem?_map, hk] at hr
        obtain rfl := Option.some.inj hr
        exact wF_wr 255 _ _ k (hw k (List.mem_of_getElem? hk))
      · subst htk
        refine T.bind (Build_E (n := 255) (by omega) (fun k hk => wF_can 255 _ _ k (hw k hk)) hna (by omega) (by omega) hMk) fun r hr => ?_
        subst hr
        rw [← e1]
        exact T.some rfl
    refine T.bind hP fun r hr => ?_
    subst hr
    refine T.dec (fun _ => ?_) fun q => absurd rfl q
    refine T.dec (fun _ => ?_) fun q => absurd rfl q
    refine T.bind (same_T (by omega) fun x hx => ?_) fun r hr => ?_
    · obtain ⟨i, hi⟩ := List.getElem?_of_mem hx
      have hil := (List.getElem?_eq_some_iff.1 hi).1
      have : x = nd ns i := by rw [zii ns hil] at hi; exact (Option.some.inj hi).symm
      rw [this]
      rcases h.alone hil with ⟨_, _, _, q, _⟩ | ⟨_, _, _, q, _⟩ <;> omega
    · subst hr
      refine T.bif (fun _ => ?_) fun q => Bool.noConfusion q
      exact T.bind zsc fun r hr => T.some hr
theorem law_T {ns : List zae} (hsz : ∀ x ∈ ns, szN x) : T (fun k _ => zgx k ⟨ns⟩) (· = true) := by
  unfold zgx
  refine T.dec (fun _ => zv7) fun hl => ?_
  obtain ⟨b, hb, hc⟩ := CanT hsz
  refine T.bind hb fun r hr => ?_
  subst hr
  cases r with
  | false => exact zv7
  | true =>
    obtain ⟨a1, a2, a3, a4, a5, a6⟩ := hc rfl
    exact law_can hsz (by simp only at hl; omega) a1 a2 a3 a4 a5 a6
end
section
open Go.RowKit Go.Sl Go.ChangeShapes Go.WideShapes Go.ChangeAt
theorem bulk_one {H : Type} (d : DataW H) : 1 ≤ Rows.uptoBulk d := by
  cases d with
  | lit l => cases l <;> simp [Rows.uptoBulk]
  | nil => simp [Rows.uptoBulk]
  | ptr d => simp [Rows.uptoBulk]
  | slice elems spare => simp [Rows.uptoBulk]
  | agg parts => simp [Rows.uptoBulk]
  | iface t d => simp [Rows.uptoBulk]
  | map entries => simp [Rows.uptoBulk]
  | held h => simp [Rows.uptoBulk]
theorem zmc {H : Type} : ∀ {l : List (DataW H)} {d : DataW H}, d ∈ l → Rows.uptoBulk d ≤ Rows.uptoBulkAll l
  | x :: r, d, h => by
    simp only [Rows.uptoBulkAll]
    rcases List.mem_cons.1 h with rfl | e
    · omega
    · have := zmc e; omega
theorem zlq {H : Type} : ∀ l : List (DataW H), l.length ≤ Rows.uptoBulkAll l
  | [] => by simp [Rows.uptoBulkAll]
  | x :: r => by have := bulk_one x; have := zlq r; simp only [Rows.uptoBulkAll, List.length_cons]; omega
section
variable {α : Type} {P : Program}
def OpB (N : Nat) (P : Program) (T : TypeId) (t : Ty α) (S : α → Prop) : Prop :=
  ∀ (H : Type) (enc : TypeId × Value → H) (w : World) (n : Nat) (cs : List Value) (x : DataW H × List MemPlace), n ≤ N →
    DataW.trod enc P w 0 (fun _ => true) true n T cs = some x → Rows.uptoBulk x.1 ≤ 1048576 → ∃ a, t.R (whole w) cs a ∧ S a
theorem OpB.le {N M : Nat} {T : TypeId} {t : Ty α} {S : α → Prop} (h : OpB M P T t S) (hN : N ≤ M) : OpB N P T t S := fun H enc w n cs x hn => h H enc w n cs x (by omega)
def SstrB (s : ByteArray) : Prop := s.size ≤ 1048576
def SslB (S : α → Prop) (xs : List α) : Prop := xs.length ≤ 1048576 ∧ ∀ x ∈ xs, S x
theorem zmo {N : Nat} {T : TypeId} {k : IntKind} (ht : P.underlying T = some (.int k)) : OpB N P T (tInt k) (Sint k) := fun H enc w n cs x _ h _ => by
  obtain ⟨i, rfl, _, hw⟩ := DataW.trod_int ht h
  exact ⟨i, rfl, hw⟩
theorem zpu {N : Nat} {T : TypeId} (ht : P.underlying T = some .string) : OpB N P T tStr SstrB := fun H enc w n cs x _ h hw => by
  obtain ⟨s, rfl, rfl, _⟩ := DataW.trod_string ht h
  refine ⟨s, rfl, ?_⟩
  have h1 : s.data.toList.length + 1 ≤ 1048576 := hw
  have h2 : s.size = s.data.toList.length := rfl
  show s.size ≤ 1048576
  omega
theorem zur {N : Nat} {T e : TypeId} {t : Ty α} {S : α → Prop} (ht : P.underlying T = some (.slice e)) (hk : P.cellsOf e = t.k) (hk0 : 0 < t.k) (h : OpB N P e t S) : OpB (N + 1) P T (tSl t) (SslB S) := fun H enc w n cs x hn hx hw => by
  rcases DataW.trod_slice ht hx with ⟨rfl, rfl⟩ | ⟨a, len, cap, elems, rest, m, rfl, rfl, rfl, _, hl, hm, hlen, hel, _, _⟩
  · exact ⟨[], ⟨_, rfl, RS.nil⟩, by simp [SslB]⟩
  · have hw' : elems.length + rest.length ≤ 1048576 ∧ ∀ d ∈ elems.map (·.1), Rows.uptoBulk d ≤ 1048576 := by
      simp only [Rows.uptoBulk] at hw
      have h1 := zlq (elems.map (·.1))
      have h2 := zlq (rest.map (·.1))
      rw [List.length_map] at h1 h2
      exact ⟨by omega, fun d hd => by have := zmc hd; omega⟩
    obtain ⟨l, l1, l2⟩ := zv3 (Q := fun i (p : List Value × α) => w.cells? 0 (a.add (i * P.cellsOf e)) (P.cellsOf e) = some p.1 ∧ t.R (whole w) p.1 p.2 ∧ S p.2) len (fun i hi => by
      have h1 := hel i hi
      rw [List.getElem?_eq_getElem (by omega)] at h1
      obtain ⟨cs', h2, h3⟩ := Option.bind_eq_some_iff.1 h1
      obtain ⟨y, h4, h5⟩ := h H enc w m cs' _ (by omega) h3 (hw'.2 _ (List.mem_map_of_mem (List.getElem_mem _)))
      exact ⟨(cs', y), h2, h4, h5⟩)
    refine ⟨l.map (·.2), ⟨_, rfl, l.map (·.1), ⟨?_, some a, cap, by rw [List.length_map, l1], by rw [List.length_map, l1]; exact hl, fun hh => (by cases hh), fun a' ha => ?_⟩, ?_⟩, ?_, ?_⟩
    · intro r hr
      obtain ⟨p, hp, rfl⟩ := List.mem_map.1 hr
      obtain ⟨i, hi⟩ := List.getElem?_of_mem hp
      exact t.one (l2 i p hi).2.1
    · cases ha
      obtain ⟨bb, off, sp⟩ := a
      by_cases h0 : len = 0
      · have : l = [] := List.eq_nil_of_length_eq_zero (by omega)
        subst this
        exact ⟨fun h => absurd rfl h, fun i r hr => by simp at hr⟩
      · have hsp : sp = none := by
          obtain ⟨p, hp⟩ : ∃ p, l[0]? = some p := ⟨_, List.getElem?_eq_getElem (by omega)⟩
          obtain ⟨_, hlen', hc⟩ := World.cells?_some (l2 0 p hp).1
          have h1 := hc 0 (by rw [hk]; exact hk0)
          rw [List.getElem?_eq_getElem (by rw [hlen', hk]; exact hk0)] at h1
          simpa [Addr.add] using World.cell?_spot h1
        subst hsp
        refine ⟨fun _ => rfl, fun i r hr j u hu => ?_⟩
        simp only [List.getElem?_map, Option.map_eq_some_iff] at hr
        obtain ⟨p, hp, rfl⟩ := hr
        obtain ⟨_, hlen', hc⟩ := World.cells?_some (l2 i p hp).1
        have hj : j < P.cellsOf e := by rw [← hlen']; exact (List.getElem?_eq_some_iff.1 hu).1
        have h1 := hc j hj
        rw [hu] at h1
        rw [add_lit, add_lit, Nat.add_assoc, hk] at h1
        exact ztw h1 []
    · have : ∀ (l : List (List Value × α)),(∀ p ∈ l, t.R (whole w) p.1 p.2) → RW t (whole w) (l.map (·.1)) (l.map (·.2)) := by
        intro l
        induction l with
        | nil => intro _; exact trivial
        | cons p l ih => intro hh; exact ⟨hh p (by simp), ih fun q hq => hh q (by simp [hq])⟩
      exact this l fun p hp => by
        obtain ⟨i, hi⟩ := List.getElem?_of_mem hp
        exact (l2 i p hi).2.1
    · rw [List.length_map, l1]
      omega
    · intro y hy
      obtain ⟨p, hp, rfl⟩ := List.mem_map.1 hy
      obtain ⟨i, hi⟩ := List.getElem?_of_mem hp
      exact (l2 i p hi).2.2
theorem opb_sl {N : Nat} {T e : TypeId} {t : Ty α} {S : α → Prop} (ht : P.underlying T = some (.slice e)) (hk : P.cellsOf e = t.k) (hk0 : 0 < t.k) (h : OpB N P e t S) : OpB N P T (tSl t) (SslB S) := (zur ht hk hk0 h).le (by omega)
theorem OpB.field {N n i off sz : Nat} {H : Type} {enc : TypeId × Value → H} {w : World} {fd : Field} {t : Ty α} {S : α → Prop} {cs : List Value} {xs : List (DataW H × List MemPlace)} {T : TypeId} {fs : Array Field} (h : OpB N P fd.type t S) (hn : n ≤ N)
    (hf : fs[i]? = some fd) (ho : fd.offset = off) (hz : P.cellsOf fd.type = sz) (hl : xs.length = fs.size) (hx : DataW.trod enc P w 0 (fun _ => true) true n fd.type ((cs.drop fd.offset).take (P.cellsOf fd.type)) = xs[i]?) (_ : P.underlying T = some (.struct fs))
    (hw : Rows.uptoBulk (DataW.agg (xs.map (·.1))) ≤ 1048576) : ∃ a, t.R (whole w) ((cs.drop off).take sz) a ∧ S a := by
  subst ho hz
  have hi : i < xs.length := by rw [hl]; exact (Array.getElem?_eq_some_iff.1 hf).1
  rw [List.getElem?_eq_getElem hi] at hx
  refine h H enc w n _ _ hn hx ?_
  have h1 : xs[i].1 ∈ xs.map (·.1) := List.mem_map_of_mem (List.getElem_mem _)
  have h2 := zmc h1
  simp only [Rows.uptoBulk] at hw
  omega
theorem bulk_arg {H : Type} {ds : List (DataW H)} (h : Rows.uptoSmall H ds = true) {j : Nat} {d : DataW H} (hd : ds[j]? = some d) : Rows.uptoBulk d ≤ 1048576 := by
  have h1 : Rows.uptoBulkAll ds ≤ 1048576 := of_decide_eq_true h
  have h2 := zmc (List.mem_of_getElem? hd)
  omega
end
end
section
open Go.RowKit Go.Sl Go.ChangeShapes Go.WideShapes Go.ChangeAt
def zoa (x : zab) : Prop := SstrB x.Name ∧ SstrB x.Value
set_option maxRecDepth 100000 in
theorem zoj (N : Nat) : OpB N Tryz.prog 42 zbv zoa := by
  intro H enc w n cs x hn h hw
  obtain ⟨xs, m, rfl, rfl, hl, hxl, hf⟩ := DataW.trod_struct U42 h
  have hl : cs.length = 2 := hl.trans (by kernel_rfl)
  match cs, hl with
  | [c0, c1], _ =>
  obtain ⟨a0, r0, s0⟩ := OpB.field (N := N) (i := 0) (off := 0) (sz := 1) (zpu U9) (by omega) rfl rfl (show Tryz.prog.cellsOf 9 = 1 from by kernel_rfl) hxl (hf 0 _ rfl) U42 hw
  obtain ⟨rfl, _⟩ := List.cons.inj (show [c0] = [.string a0] from r0)
  obtain ⟨a1, r1, s1⟩ := OpB.field (N := N) (i := 1) (off := 1) (sz := 1) (zpu U9) (by omega) rfl rfl (show Tryz.prog.cellsOf 9 = 1 from by kernel_rfl) hxl (hf 1 _ rfl) U42 hw
  obtain ⟨rfl, _⟩ := List.cons.inj (show [c1] = [.string a1] from r1)
  exact ⟨({Name := a0, Value := a1} : zab), rfl, ⟨s0, s1⟩⟩
def zlr (x : zae) : Prop := (Sint .i64) x.Kind ∧ SstrB x.Name ∧ SstrB x.Text ∧ (SslB zoa) x.Attrs ∧ (Sint .i64) x.Parent ∧ (Sint .i64) x.First ∧ (Sint .i64) x.Last ∧ (Sint .i64) x.Prev ∧ (Sint .i64) x.Next
set_option maxRecDepth 100000 in
theorem zoi (N : Nat) : OpB N Tryz.prog 53 zcr zlr := by
  intro H enc w n cs x hn h hw
  obtain ⟨xs, m, rfl, rfl, hl, hxl, hf⟩ := DataW.trod_struct U53 h
  have hl : cs.length = 9 := hl.trans (by kernel_rfl)
  match cs, hl with
  | [c0, c1, c2, c3, c4, c5, c6, c7, c8], _ =>
  obtain ⟨a0, r0, s0⟩ := OpB.field (N := N) (i := 0) (off := 0) (sz := 1) (zmo U3) (by omega) rfl rfl (show Tryz.prog.cellsOf 3 = 1 from by kernel_rfl) hxl (hf 0 _ rfl) U53 hw
  obtain ⟨rfl, _⟩ := List.cons.inj (show [c0] = [.int .i64 a0] from r0)
  obtain ⟨a1, r1, s1⟩ := OpB.field (N := N) (i := 1) (off := 1) (sz := 1) (zpu U9) (by omega) rfl rfl (show Tryz.prog.cellsOf 9 = 1 from by kernel_rfl) hxl (hf 1 _ rfl) U53 hw
  obtain ⟨rfl, _⟩ := List.cons.inj (show [c1] = [.string a1] from r1)
  obtain ⟨a2, r2, s2⟩ := OpB.field (N := N) (i := 2) (off := 2) (sz := 1) (zpu U9) (by omega) rfl rfl (show Tryz.prog.cellsOf 9 = 1 from by kernel_rfl) hxl (hf 2 _ rfl) U53 hw
  obtain ⟨rfl, _⟩ := List.cons.inj (show [c2] = [.string a2] from r2)
  obtain ⟨a3, r3, s3⟩ := OpB.field (N := N) (i := 3) (off := 3) (sz := 1) (opb_sl U43 (show Tryz.prog.cellsOf 42 = 2 from by kernel_rfl) (by decide) (zoj _)) (by omega) rfl rfl (show Tryz.prog.cellsOf 43 = 1 from by kernel_rfl) hxl (hf 3 _ rfl) U53 hw
  obtain ⟨v3, r3, q3⟩ : ∃ v,[c3] = [v] ∧ RS zbv (whole w) v a3 := r3
  obtain ⟨rfl, _⟩ := List.cons.inj r3
  obtain ⟨a4, r4, s4⟩ := OpB.field (N := N) (i := 4) (off := 4) (sz := 1) (zmo U3) (by omega) rfl rfl (show Tryz.prog.cellsOf 3 = 1 from by kernel_rfl) hxl (hf 4 _ rfl) U53 hw
  obtain ⟨rfl, _⟩ := List.cons.inj (show [c4] = [.int .i64 a4] from r4)
  obtain ⟨a5, r5, s5⟩ := OpB.field (N := N) (i := 5) (off := 5) (sz := 1) (zmo U3) (by omega) rfl rfl (show Tryz.prog.cellsOf 3 = 1 from by kernel_rfl) hxl (hf 5 _ rfl) U53 hw
  obtain ⟨rfl, _⟩ := List.cons.inj (show [c5] = [.int .i64 a5] from r5)
  obtain ⟨a6, r6, s6⟩ := OpB.field (N := N) (i := 6) (off := 6) (sz := 1) (zmo U3) (by omega) rfl rfl (show Tryz.prog.cellsOf 3 = 1 from by kernel_rfl) hxl (hf 6 _ rfl) U53 hw
  obtain ⟨rfl, _⟩ := List.cons.inj (show [c6] = [.int .i64 a6] from r6)
  obtain ⟨a7, r7, s7⟩ := OpB.field (N := N) (i := 7) (off := 7) (sz := 1) (zmo U3) (by omega) rfl rfl (show Tryz.prog.cellsOf 3 = 1 from by kernel_rfl) hxl (hf 7 _ rfl) U53 hw
  obtain ⟨rfl, _⟩ := List.cons.inj (show [c7] = [.int .i64 a7] from r7)
  obtain ⟨a8, r8, s8⟩ := OpB.field (N := N) (i := 8) (off := 8) (sz := 1) (zmo U3) (by omega) rfl rfl (show Tryz.prog.cellsOf 3 = 1 from by kernel_rfl) hxl (hf 8 _ rfl) U53 hw
  obtain ⟨rfl, _⟩ := List.cons.inj (show [c8] = [.int .i64 a8] from r8)
  exact ⟨({Kind := a0, Name := a1, Text := a2, Attrs := a3, Parent := a4, First := a5, Last := a6, Prev := a7, Next := a8} : zae), ⟨_, rfl, q3⟩, ⟨s0, s1, s2, s3, s4, s5, s6, s7, s8⟩⟩
def zo9 (x : zaa) : Prop := (SslB zlr) x.Nodes
set_option maxRecDepth 100000 in
theorem zoh (N : Nat) : OpB N Tryz.prog 30 zcz zo9 := by
  intro H enc w n cs x hn h hw
  obtain ⟨xs, m, rfl, rfl, hl, hxl, hf⟩ := DataW.trod_struct U30 h
  have hl : cs.length = 1 := hl.trans (by kernel_rfl)
  match cs, hl with
  | [c0], _ =>
  obtain ⟨a0, r0, s0⟩ := OpB.field (N := N) (i := 0) (off := 0) (sz := 1) (opb_sl U28 (show Tryz.prog.cellsOf 53 = 9 from by kernel_rfl) (by decide) (zoi _)) (by omega) rfl rfl (show Tryz.prog.cellsOf 28 = 1 from by kernel_rfl) hxl (hf 0 _ rfl) U30 hw
  obtain ⟨v0, r0, q0⟩ : ∃ v,[c0] = [v] ∧ RS zcr (whole w) v a0 := r0
  obtain ⟨rfl, _⟩ := List.cons.inj r0
  exact ⟨({Nodes := a0} : zaa), ⟨_, rfl, q0⟩, s0⟩
end
section
open Go.RowKit Go.Sl
theorem zln {x : zaa} (h : zo9 x) : ∃ n, zgx n x = some true := by
  obtain ⟨ns⟩ := x
  have hs : ∀ y ∈ ns, szN y := fun y hy => by
    have h1 : SslB zlr ns := h
    obtain ⟨_, h2, h3, h4, _⟩ := h1.2 y hy
    exact ⟨h2, h3, fun a ha => ⟨(h4.2 a ha).1,(h4.2 a ha).2⟩⟩
  obtain ⟨r, rfl, K, hK⟩ := law_T hs
  exact ⟨K, hK K K (Nat.le_refl _) (Nat.le_refl _)⟩
end
end Go.Proofs.YtpfdbeafdjnbnaaGreatDoor
