/-
  Walks and laws of this seat.
-/
import Derived.Test.YtpfdbeafdjnbnaaGreatDoorX20
import Derived.Test.YtpfdbeafdjnbnaaGreatDoorRows
import Derived.Test.YtpfdbeafdjnbnaaGreatDoorX18
import Derived.Test.YtpfdbeafdjnbnaaGreatDoorX0
import Derived.Test.YtpfdbeafdjnbnaaGreatDoorX1
import Derived.Lib.MapLaws
import Derived.Lib.ValidLaws
namespace Go.Proofs.YtpfdbeafdjnbnaaGreatDoor
set_option linter.unusedVariables false
set_option linter.unusedSimpArgs false
set_option linter.unusedSectionVars false
section
open Go.RowKit Go.Sl
def escS (q : Bool) (s : ByteArray) : ByteArray := bytesOf (escA q false (bytesIn s))
theorem GivesL.does {P : Program} {fn : FuncId} {args : List Value} {f : Fz} {Lr : List Ent} {v : Value} (h : GivesL P fn args f Lr v) : Does P fn args f Lr (fun v' f' L' => f' = f ∧ v' = v ∧ L' = Lr) :=
  fun w0 L w hC => (h w0 L w hC).mono fun _ _ ⟨h1, h2⟩ => ⟨v, f, Lr, h1, .refl _, h2, rfl, rfl, rfl⟩
theorem y_mkFn1 {P : Program} {C : World → Prop} {n : Nat} {E : List (Nat × Value)} {d : Option Tmp} {ty : TypeId} {pos : String} {af : Array Edge} {g : Option (Nat × Bool)} {v : Value} {x : Operand} {gn : FuncId} (hx : opv E x = some v) : Y P C n E ⟨d, .makeFunc (.func gn) #[x] #[], ty, pos, af, g⟩ (.func (.func gn) #[v] #[]) :=
  .of fun a ha w _ => by simp [execOp, ha.eval hx, Instr.makeFunc]
set_option maxRecDepth 20000 in
set_option maxHeartbeats 4000000 in
theorem grep_ok {f : Fz} {LX : List Ent} {g : Nat} {q : Bool} {s : ByteArray} (hT : TrieL (escL q) (escM q) (escT q) (escN q) g LX) (hsz : s.size ≤ 1099511627776) :
    GivesL Tryz.prog 164 [pq g 0, .string s] f LX (.string (escS q s)) := by
  intro w0 L w hC
  refine enter Tryz.func164 rfl Tryz.ntmps164 (by simp) hC fun a hs => ?_
  refine zai fun K1 hK1 => ?_
  refine za2 ?_
  refine sy hs (za9 rfl) ?_; clear hs; (try clear a w); intro a w hs
  refine za0 ?_
  refine hK1 _ _ ?_; clear hK1
  refine zai fun K2 hK2 => ?_
  refine za2 ?_
  refine sy hs (za3 rfl) ?_; clear hs; (try clear a w); intro a w hs
  refine sy hs (zg2 rfl U9) ?_; clear hs; (try clear a w); intro a w hs
  refine RL_make0 (m := s.size) hs rfl rfl U218 ti5 (by omega) ?_; clear hs; (try clear a w); intro v a w hs
  have hv := hs.one (i := 0) rfl
  refine zbl hs ti218 (.free rfl) (by decide) ?_; clear hs; (try clear a w); intro wb a w hs
  refine zda (i := 0) (o := 0) (u := v) hs rfl rfl rfl ti218 hv (by decide) rfl (.free rfl) ?_; clear hs; (try clear a w); intro a w hs
  replace hs : St _ _ _ ((.blk wb (.cells #[v] 218 (0,0)) :: .row v 5 1 (u8R []) :: LX) ++ L) _ _ _ := hs
  refine za0 ?_
  refine hK2 _ _ ?_; clear hK2
  refine zai fun K3 hK3 => ?_
  refine za2 ?_
  refine sy hs (za3 rfl) ?_; clear hs; (try clear a w); intro a w hs
  refine sy hs (zqr rfl Tryz.underlying219 rfl) ?_; clear hs; (try clear a w); intro a w hs
  refine sy hs (za3 rfl) ?_; clear hs; (try clear a w); intro a w hs
  refine zbb (Lr := .blk wb (.cells #[v] 218 (0,0)) :: .row v 5 1 (u8R []) :: LX) (Lf := L) hs rfl has165 rfl rfl (ws_ok hT hsz) (.free rfl) (by decide) ?_; clear hs; (try clear a w); rintro _ _ _ a w _ ⟨rfl, v2, rfl⟩ hs
  replace hs : St _ _ _ (.blk wb (.cells #[v2] 218 (0,0)) :: .row v2 5 1 (u8R (escA q false (bytesIn s))) :: (LX ++ L)) _ _ _ := hs
  refine za0 ?_
  refine hK3 _ _ ?_; clear hK3
  refine zai fun K4 hK4 => ?_
  refine za2 ?_
  refine sy hs (y_ld (u := v2) rfl U218 rfl (Cell.blk (.head _) rfl)) ?_; clear hs; (try clear a w); intro a w hs
  refine sy hs (y_b2s (xs := escA q false (bytesIn s)) rfl U218 U5 U9 (Rd.st hs (.tail _ (.head _)))) ?_; clear hs; (try clear a w); intro a w hs
  refine sy hs (za9 rfl) ?_; clear hs; (try clear a w); intro a w hs
  refine za0 ?_
  refine hK4 _ _ ?_; clear hK4
  refine zax ?_
  refine Rt_1 hs rfl rfl ?_
  exact ⟨rfl, hs.cw.sub (.cons _ (.cons _ (List.Sublist.refl _)))⟩
set_option maxRecDepth 20000 in
set_option maxHeartbeats 4000000 in
theorem rep_ok {f : Fz} {rb : Nat} {ov : Value} {q : Bool} {s : ByteArray} (h0 : RS tStr f ov (escL q)) (hsz : s.size ≤ 1099511627776) :
    Does Tryz.prog 17 [pq rb 0, .string s] f [.blk rb (.cells (rcA 0 0 .nilIface ov) 89 (0,0))] (fun v f' _ => f' = f ∧ v = .string (escS q s)) := by
  intro w0 L w hC
  replace hC : Cw w0 f (.blk rb (.cells (rcA 0 0 .nilIface ov) 89 (0,0)) :: L) w := hC
  refine enter Tryz.func17 rfl Tryz.ntmps17 (by simp) hC fun a hs => ?_
  refine zai fun K1 hK1 => ?_
  refine za2 ?_
  refine sy hs (za9 rfl) ?_; clear hs; (try clear a w); intro a w hs
  refine za0 ?_
  refine hK1 _ _ ?_; clear hK1
  refine zai fun K2 hK2 => ?_
  refine za2 ?_
  refine sy hs (za3 rfl) ?_; clear hs; (try clear a w); intro a w hs
  first | (refine sy hs (za5 rfl) ?_; clear hs; (try clear a w); intro a w hs) | (refine sy hs (y_nilE rfl) ?_; clear hs; (try clear a w); intro a w hs)
  first | (refine sy hs (za1 rfl (FO.of (off := 0) U89 rfl rfl ti85 (by decide))) ?_; clear hs; (try clear a w); intro a w hs) | (refine sy hs (y_faE rfl (FO.of (off := 0) U89 rfl rfl ti85 (by decide))) ?_; clear hs; (try clear a w); intro a w hs)
  refine sy hs (za3 rfl) ?_; clear hs; (try clear a w); intro a w hs
  refine sy hs (y_mkFn1 rfl) ?_; clear hs; (try clear a w); intro a w hs
  refine zbb (Lr := [.blk rb (.cells (rcA 0 0 .nilIface ov) 89 (0,0))]) (Lf := L) hs rfl has34 rfl rfl (once_ok (esc_ok q) h0) (.free rfl) (by decide) ?_; clear hs; (try clear a w); rintro _ _ _ a w _ ⟨rfl, g, LX, hTr, rfl⟩ hs
  replace hs : St _ _ _ (.blk rb (.cells (rcA 1 0 (.iface 159 (pq g 0)) (.slice none 0 0)) 89 (0,0)) :: (LX ++ L)) _ _ _ := hs
  refine za0 ?_
  refine hK2 _ _ ?_; clear hK2
  refine zai fun K3 hK3 => ?_
  refine za2 ?_
  refine sy hs (za3 rfl) ?_; clear hs; (try clear a w); intro a w hs
  first | (refine sy hs (za5 rfl) ?_; clear hs; (try clear a w); intro a w hs) | (refine sy hs (y_nilE rfl) ?_; clear hs; (try clear a w); intro a w hs)
  first | (refine sy hs (za1 rfl (FO.of (off := 3) U89 rfl rfl ti87 (by decide))) ?_; clear hs; (try clear a w); intro a w hs) | (refine sy hs (y_faE rfl (FO.of (off := 3) U89 rfl rfl ti87 (by decide))) ?_; clear hs; (try clear a w); intro a w hs)
  refine sy hs (y_ld (u := .iface 159 (pq g 0)) rfl Tryz.underlying87 rfl (Cell.blk (.head _) rfl)) ?_; clear hs; (try clear a w); intro a w hs
  replace hs : St _ _ _ (LX ++ (.blk rb (.cells (rcA 1 0 (.iface 159 (pq g 0)) (.slice none 0 0)) 89 (0,0)) :: L)) _ _ _ := ⟨hs.ev, hs.cw.perm (permX [_] LX L)⟩
  refine sy hs (za3 rfl) ?_; clear hs; (try clear a w); intro a w hs
  refine zmh (Lr := LX) (Lf := .blk rb (.cells (rcA 1 0 (.iface 159 (pq g 0)) (.slice none 0 0)) 89 (0,0)) :: L) hs rfl m159 has164 rfl rfl (GivesL.does (grep_ok hTr hsz)) (.free rfl) (by decide) ?_; clear hs; (try clear a w); rintro _ _ _ a w _ ⟨rfl, rfl, rfl⟩ hs
  refine sy hs (za9 rfl) ?_; clear hs; (try clear a w); intro a w hs
  refine za0 ?_
  refine hK3 _ _ ?_; clear hK3
  refine zax ?_
  refine Rt_1 hs rfl rfl ?_
  exact ⟨_, _,[], rfl, .refl _, hs.cw.sub ((List.sublist_cons_self _ _).trans (List.sublist_append_right _ _)), rfl, rfl⟩
set_option maxRecDepth 20000 in
set_option maxHeartbeats 4000000 in
theorem zuy {f : Fz} {sv : Value} {l : List ByteArray} (h0 : RS tStr f sv l) (hl : l.length ≤ 1000) (hev : l.length % 2 = 0) :
    Does Tryz.prog 16 [sv] f [] (fun v f' L' => ∃ b ov, v = pq b 0 ∧ RS tStr f' ov l ∧ L' = [.blk b (.cells (rcA 0 0 .nilIface ov) 89 (0,0))]) := by
  intro w0 L w hC
  replace hC : Cw w0 f L w := hC
  obtain ⟨rw0, hR0, hW0⟩ := h0
  have hlen := hW0.len
  refine enter Tryz.func16 rfl Tryz.ntmps16 (by simp) hC fun a hs => ?_
  refine zai fun K1 hK1 => ?_
  refine za2 ?_
  refine sy hs (za9 rfl) ?_; clear hs; (try clear a w); intro a w hs
  refine za0 ?_
  refine hK1 _ _ ?_; clear hK1
  refine zai fun K2 hK2 => ?_
  refine zai fun K3 hK3 => ?_
  refine za2 ?_
  refine sy hs (za3 rfl) ?_; clear hs; (try clear a w); intro a w hs
  refine sy hs (zli hR0 rfl U47) ?_; clear hs; (try clear a w); intro a w hs
  refine sy hs (y_rem rfl rfl (by omega) (by omega)) ?_; clear hs; (try clear a w); intro a w hs
  refine sy hs (zct rfl rfl) ?_; clear hs; (try clear a w); intro a w hs
  refine za0 ?_
  refine hK3 _ _ ?_; clear hK3
  rw [decide_eq_false (show ¬ ((rw0.length : Int) % 2 = 1) by omega)] at hs
  refine zdj hs rfl ?_
  refine zaj ?_
  refine hK2 _ _ ?_; clear hK2
  refine zai fun K4 hK4 => ?_
  refine za2 ?_
  refine sy hs (za3 rfl) ?_; clear hs; (try clear a w); intro a w hs
  refine zvy hs rfl rfl (hR0.up (L := _)) U47 ti9 (by decide) (by omega) ?_; clear hs; (try clear a w); intro ov a w hs
  have hov := hs.one (i := 0) rfl
  refine sy hs (ze4 (places := [(0,3),(3,1),(4,1)]) rfl U89 ti89 (by kernel_rfl) (by decide) rfl) ?_; clear hs; (try clear a w); intro a w hs; simp only [List.set] at hs
  refine sbox hs rfl ?_; clear hs; (try clear a w); intro b a w hs
  refine sy hs (za9 rfl) ?_; clear hs; (try clear a w); intro a w hs
  refine za0 ?_
  refine hK4 _ _ ?_; clear hK4
  refine zax ?_
  refine Rt_1 hs rfl rfl ?_
  obtain ⟨f1, hf1, hs2, hR⟩ := hs.frzAt 1 rfl
  exact ⟨_, f1,[.blk b (.cells (rcA 0 0 .nilIface ov) 89 (0,0))], rfl, hf1, hs2.cw, b, ov, rfl, ⟨rw0, hR, hW0.le hf1⟩, rfl⟩
def strR (l : List ByteArray) : List (List Value) := l.map fun s => [.string s]
theorem zuj {f : Fz} : ∀ l, RW tStr f (strR l) l
  | [] => trivial
  | _ :: r => ⟨rfl, zuj r⟩
theorem zsw {l : List ByteArray} : ∀ r ∈ strR l, OneRow 1 r := by
  intro r hr
  obtain ⟨s, _, rfl⟩ := List.mem_map.1 hr
  exact AllC.row ⟨rfl, trivial⟩ rfl
set_option maxRecDepth 20000 in
set_option maxHeartbeats 4000000 in
theorem zw0 {f : Fz} {q : Bool} {s : ByteArray} (hsz : s.size ≤ 1099511627776) : Gives Tryz.prog 8 [.string s, .bool q] f (.string (escS q s)) := by
  intro w0 L w hC
  refine enter Tryz.func8 rfl Tryz.ntmps8 (by simp) hC fun a hs => ?_
  refine zai fun K1 hK1 => ?_
  refine za2 ?_
  refine sy hs (za9 rfl) ?_; clear hs; (try clear a w); intro a w hs
  refine za0 ?_
  refine hK1 _ _ ?_; clear hK1
  refine zai fun K2 hK2 => ?_
  refine za2 ?_
  refine zjv (parts := [(0, .const (.string (bs [38]))),(1, .const (.string (bs [38,97,109,112,59]))),(2, .const (.string (bs [60]))),(3, .const (.string (bs [38,108,116,59]))),(4, .const (.string (bs [62]))),(5, .const (.string (bs [38,103,116,59]))),(6, .const (.string (bs [194,160]))),(7, .const (.string (bs [38,110,98,115,112,59]))),(8, .const (.string (bs [13]))),(9, .const (.string (bs [38,35,49,51,59])))]) (us := (escL false).map .string) (rows := strR (escL false)) hs rfl U47 ti9 (by decide) rfl rfl zsw ?_; clear hs; (try clear a w); intro v6 a w hs
  refine sy hs (za9 rfl) ?_; clear hs; (try clear a w); intro a w hs
  refine za0 ?_
  refine hK2 _ _ ?_; clear hK2
  refine zai fun K3 hK3 => ?_
  refine zai fun K4 hK4 => ?_
  refine za2 ?_
  refine sy hs (za3 rfl) ?_; clear hs; (try clear a w); intro a w hs
  refine za0 ?_
  refine hK4 _ _ ?_; clear hK4
  first | refine zho hs rfl (fun hq => ?_) (fun hq => ?_) | refine zah hs rfl (fun hq => ?_) (fun hq => ?_)
  · subst hq
    refine za2 ?_
    refine sy hs (za3 rfl) ?_; clear hs; (try clear a w); intro a w hs
    refine zjv (parts := [(0, .const (.string (bs [34]))),(1, .const (.string (bs [38,113,117,111,116,59])))]) (us := [.string (bs [34]), .string (bs [38,113,117,111,116,59])]) (rows := strR [(bs [34]),(bs [38,113,117,111,116,59])]) hs rfl U47 ti9 (by decide) rfl rfl zsw ?_; clear hs; (try clear a w); intro v9 a w hs
    refine zc9 (i := 1) hs rfl rfl rfl (Rd.st hs (.head _)) U47 ti9 (by decide) (by decide) (.free rfl) (by decide) ?_; clear hs; (try clear a w); intro v10 a w hs
    replace hs : St _ _ _ (.row v10 9 1 (strR (escL true)) :: L) _ _ _ := hs.tail
    obtain ⟨f1, hf1, hs2, hR⟩ := hs.frzAt 0 rfl
    clear hs; have hs := hs2; clear hs2
    replace hs : St _ _ _ L _ _ _ := hs
    have h0 : RS tStr f1 v10 (escL true) := ⟨_, hR, zuj _⟩
    refine sy hs (za9 rfl) ?_; clear hs; (try clear a w); intro a w hs
    refine za0 ?_
    refine hK3 _ _ ?_; clear hK3
    refine zai fun K5 hK5 => ?_
    refine za2 ?_
    refine sy hs (za3 rfl) ?_; clear hs; (try clear a w); intro a w hs
    refine zbb (Lr := []) (Lf := L) hs rfl has16 rfl rfl (zuy h0 (by decide) (by decide)) (.free rfl) (by decide) ?_; clear hs; (try clear a w); rintro _ f2 _ a w hf2 ⟨b, ov, rfl, h1, rfl⟩ hs
    refine sy hs (za3 rfl) ?_; clear hs; (try clear a w); intro a w hs
    refine zbb (Lr := [.blk b (.cells (rcA 0 0 .nilIface ov) 89 (0,0))]) (Lf := L) hs rfl has17 rfl rfl (rep_ok h1 hsz) (.free rfl) (by decide) ?_; clear hs; (try clear a w); rintro _ _ L3 a w _ ⟨rfl, rfl⟩ hs
    refine sy hs (za9 rfl) ?_; clear hs; (try clear a w); intro a w hs
    refine za0 ?_
    refine hK5 _ _ ?_; clear hK5
    refine zax ?_
    refine Rt_1 hs rfl rfl ?_
    exact ⟨rfl,(hs.weak (hf1.trans hf2)).cw.sub (List.sublist_append_right _ _)⟩
  · subst hq
    obtain ⟨f1, hf1, hs2, hR⟩ := hs.frzAt 0 rfl
    clear hs; have hs := hs2; clear hs2
    replace hs : St _ _ _ L _ _ _ := hs
    have h0 : RS tStr f1 v6 (escL false) := ⟨_, hR, zuj _⟩
    refine zaj ?_
    refine hK3 _ _ ?_; clear hK3
    refine zai fun K6 hK6 => ?_
    refine za2 ?_
    refine sy hs (za3 rfl) ?_; clear hs; (try clear a w); intro a w hs
    refine zbb (Lr := []) (Lf := L) hs rfl has16 rfl rfl (zuy h0 (by decide) (by decide)) (.free rfl) (by decide) ?_; clear hs; (try clear a w); rintro _ f2 _ a w hf2 ⟨b, ov, rfl, h1, rfl⟩ hs
    refine sy hs (za3 rfl) ?_; clear hs; (try clear a w); intro a w hs
    refine zbb (Lr := [.blk b (.cells (rcA 0 0 .nilIface ov) 89 (0,0))]) (Lf := L) hs rfl has17 rfl rfl (rep_ok h1 hsz) (.free rfl) (by decide) ?_; clear hs; (try clear a w); rintro _ _ L3 a w _ ⟨rfl, rfl⟩ hs
    refine sy hs (za9 rfl) ?_; clear hs; (try clear a w); intro a w hs
    refine za0 ?_
    refine hK6 _ _ ?_; clear hK6
    refine zax ?_
    refine Rt_1 hs rfl rfl ?_
    exact ⟨rfl,(hs.weak (hf1.trans hf2)).cw.sub (List.sublist_append_right _ _)⟩
end
section
open Go.RowKit Go.Sl
open Go.V (T)
theorem byt_one {q : Bool} {c : Int} (h : 0 ≤ c ∧ c < 256) : Byt (oneB q c) := by
  unfold oneB
  repeat' split
  all_goals (intro x hx; simp only [List.mem_cons, List.not_mem_nil, or_false] at hx; omega)
theorem zo7 (q : Bool) : ∀ (l : List Int) (b : Bool), Byt l → Byt (escA q b l)
  | [], b, _ => by cases b <;> (intro x hx; simp [escA] at hx)
  | c :: r, true, h => by
    unfold escA
    exact zo7 q r false fun x hx => h x (List.mem_cons_of_mem _ hx)
  | c :: r, false, h => by
    have hr : Byt r := fun x hx => h x (List.mem_cons_of_mem _ hx)
    unfold escA
    split
    · intro x hx
      rcases List.mem_append.1 hx with hx | hx
      · simp only [List.mem_cons, List.not_mem_nil, or_false] at hx; omega
      · exact zo7 q r true hr x hx
    · intro x hx
      rcases List.mem_append.1 hx with hx | hx
      · exact byt_one (h c (List.mem_cons_self ..)) x hx
      · exact zo7 q r false hr x hx
theorem un_esc (q : Bool) : ∀ (m : Nat) (l buf : List Int) (ad : Bool), l.length ≤ m → m ≤ 1048576 → buf.length + l.length ≤ 10000000 → Byt l → T (fun k n => zav k n (bytesOf (escA q false l)) ad buf) (· = bytesOf (buf ++ l)) := by
  have nil : ∀ (buf : List Int) (ad : Bool), T (fun k n => zav k n (bytesOf (escA q false [])) ad buf) (· = bytesOf (buf ++ [])) := fun buf ad => by
    refine T.step ?_
    unfold zav zh2
    rw [List.append_nil]
    exact T.dec (fun h => absurd rfl h) fun _ => T.some rfl
  intro m
  induction m with
  | zero =>
    intro l buf ad h _ _ _
    obtain rfl : l = [] := List.eq_nil_of_length_eq_zero (by omega)
    exact nil buf ad
  | succ m ih =>
    intro l buf ad h hm hb hB
    cases l with
    | nil => exact nil buf ad
    | cons c r =>
      have hr : Byt r := fun x hx => hB x (List.mem_cons_of_mem _ hx)
      have hc := hB c (List.mem_cons_self ..)
      simp only [List.length_cons] at h hb
      have hel := zk5 q r false
      have hEB := zo7 q r false hr
      by_cases h2 : c = 194 ∧ r.head? = some 160
      · obtain ⟨rfl, h2⟩ := h2
        cases r with
        | nil => cases h2
        | cons d r =>
          cases h2
          have hr' : Byt r := fun x hx => hr x (List.mem_cons_of_mem _ hx)
          simp only [List.length_cons] at h hb
          have hel := zk5 q r false
          rw [zq8]
          refine zos (X := escA q false r) (nm := [110,98,115,112]) (val := [194,160]) (fun k => ent_nbsp k) (by decide) (by decide) ⟨by simp, by unfold Byt; decide⟩ (by decide) (zo7 q r false hr') (by omega) (by omega) ?_
          have := ih r (buf ++ [194,160]) true (by omega) (by omega) (by simp; omega) hr'
          simpa using this
      · rw [zl2 q h2]
        have fin : ∀ {ad : Bool}, T (fun k n => zav k n (bytesOf (escA q false r)) ad (buf ++ [c])) (· = bytesOf (buf ++ c :: r)) := fun {ad} => by
          have := ih r (buf ++ [c]) ad (by omega) (by omega) (by simp; omega) hr
          simpa using this
        have hll : (escA q false r).length ≤ 10000000 := by omega
        unfold oneB
        split
        · rename_i e; subst e
          exact zos (X := escA q false r) (nm := [97,109,112]) (val := [38]) (fun k => ent_amp k) (by decide) (by decide) ⟨by simp, by unfold Byt; decide⟩ (by decide) hEB hll (by omega) fin
        · split
          · rename_i e; subst e
            exact zos (X := escA q false r) (nm := [108,116]) (val := [60]) (fun k => ent_lt k) (by decide) (by decide) ⟨by simp, by unfold Byt; decide⟩ (by decide) hEB hll (by omega) fin
          · split
            · rename_i e; subst e
              exact zos (X := escA q false r) (nm := [103,116]) (val := [62]) (fun k => ent_gt k) (by decide) (by decide) ⟨by simp, by unfold Byt; decide⟩ (by decide) hEB hll (by omega) fin
            · split
              · rename_i e; subst e
                exact zos (X := escA q false r) (nm := [35,49,51]) (val := [13]) (fun k => ent_cr k) (by decide) (by decide) ⟨by simp, by unfold Byt; decide⟩ (by decide) hEB hll (by omega) fin
              · split
                · rename_i e
                  obtain ⟨rfl, _⟩ := e
                  exact zos (X := escA q false r) (nm := [113,117,111,116]) (val := [34]) (fun k => ent_quot k) (by decide) (by decide) ⟨by simp, by unfold Byt; decide⟩ (by decide) hEB hll (by omega) fin
                · exact un_byte ‹_› (fun x hx => (List.mem_cons.1 hx).elim (fun e => e ▸ hc) (hEB x)) hll (by omega) fin
theorem byt_in (s : ByteArray) : Byt (bytesIn s) := fun x hx => by
  unfold bytesIn at hx
  obtain ⟨b, _, rfl⟩ := List.mem_map.1 hx
  have := b.toNat_lt
  omega
theorem zto (s : ByteArray) : bytesOf (bytesIn s) = s := by
  apply ByteArray.ext
  unfold bytesOf bytesIn
  simp [List.map_map, Function.comp_def]
theorem zry (q : Bool) {s : ByteArray} (hs : s.size ≤ 1048576) : T (fun k _ => zdl k (escS q s)) (· = s) := by
  unfold zdl escS
  have := un_esc q 1048576 (bytesIn s) [] false (by rw [zak]; exact hs) (Nat.le_refl _) (by rw [zak]; simp; omega) (byt_in s)
  rw [List.nil_append, zto] at this
  exact T.diag (F := fun k n => zav k n (bytesOf (escA q false (bytesIn s))) false []) this
end
section
open Go.RowKit Go.Sl
def zga (_ : Nat) (s : ByteArray) (q : Bool) : Option ByteArray := bif decide (s.size ≤ 1099511627776) then some (escS q s) else none
theorem zki (n : Nat) {f : Fz} {p0 : ByteArray} {p1 : Bool} {res : ByteArray} (hm : zga n p0 p1 = some res) : Gives Tryz.prog 8 [.string p0, .bool p1] f (.string res) := by
  unfold zga at hm
  by_cases h : p0.size ≤ 1099511627776
  · rw [decide_eq_true h] at hm
    obtain rfl := Option.some.inj hm
    exact zw0 h
  · rw [decide_eq_false h] at hm; cases hm
end
section
open Go.RowKit Go.Sl
open Go.V (T)
abbrev toI (l : List Nat) : List Int := l.map fun (n : Nat) => (n : Int)
theorem zhz (s : ByteArray) : bytesIn s = toI (byL s) := by
  unfold bytesIn byL toI
  rw [List.map_map]; rfl
def runE (q : Bool) (c : Nat) : List Int :=
  if c = 38 then [38,97,109,112,59] else if c = 60 then [38,108,116,59] else if c = 62 then [38,103,116,59] else if c = 160 then [38,110,98,115,112,59] else if c = 13 then [38,35,49,51,59] else if c = 34 ∧ q = true then [38,113,117,111,116,59] else toI (encL c)
theorem zr5 (q : Bool) {c : Nat} (h : 128 ≤ c) : oneB q c = [(c : Int)] := by
  unfold oneB
  rw [if_neg (by omega), if_neg (by omega), if_neg (by omega), if_neg (by omega), if_neg (by omega)]
theorem zkq (q : Bool) : ∀ (l t : List Nat),(∀ b ∈ l,128 ≤ b ∧ b ≠ 194) → escA q false (toI (l ++ t)) = toI l ++ escA q false (toI t)
  | [], _, _ => rfl
  | b :: l, t, h => by
    have hb := h b (by simp)
    have ih := zkq q l t fun x hx => h x (by simp [hx])
    show escA q false ((b : Int) :: toI (l ++ t)) = _
    rw [zl2 q (by rintro ⟨e, _⟩; omega), ih, zr5 q hb.1]
    rfl
theorem escA_enc (q : Bool) {c : Nat} (t : List Nat) (hc : c ≤ 1114111) : escA q false (toI (encL c ++ t)) = runE q c ++ escA q false (toI t) := by
  by_cases h1 : c < 128
  · have e : encL c = [c] := by unfold encL; rw [if_pos h1]
    unfold runE
    rw [e]
    show escA q false ((c : Int) :: toI t) = _
    rw [zl2 q (by rintro ⟨e, _⟩; omega)]
    congr 1
    unfold oneB
    by_cases a1 : c = 38
    · subst a1; rfl
    by_cases a2 : c = 60
    · subst a2; rfl
    by_cases a3 : c = 62
    · subst a3; rfl
    by_cases a4 : c = 13
    · subst a4; rfl
    rw [if_neg (by omega), if_neg (by omega), if_neg (by omega), if_neg (by omega), if_neg a1, if_neg a2, if_neg a3, if_neg (show ¬ c = 160 by omega), if_neg a4]
    by_cases a5 : c = 34 ∧ q = true
    · rw [if_pos a5, if_pos ⟨by omega, a5.2⟩]
    · rw [if_neg a5, if_neg (by rintro ⟨x, y⟩; exact a5 ⟨by omega, y⟩)]; rfl
  · have hr : c ≠ 160 → runE q c = toI (encL c) := fun h => by
      unfold runE
      rw [if_neg (by omega), if_neg (by omega), if_neg (by omega), if_neg h, if_neg (by omega), if_neg (by omega)]
    by_cases h160 : c = 160
    · subst h160
      exact zq8 q (toI t)
    rw [hr h160]
    unfold encL
    rw [if_neg h1]
    split
    · rename_i h2
      by_cases ha : 192 + c / 64 = 194
      · show escA q false (((192 + c / 64 : Nat) : Int) :: toI ([128 + c % 64] ++ t)) = _
        rw [zl2 q (by
          rintro ⟨_, e⟩
          have e2 : some (((128 + c % 64 : Nat) : Int)) = some 160 := e
          have := Option.some.inj e2
          omega), zr5 q (by omega), zkq q _ _ (by simp; omega)]
        rfl
      · exact zkq q _ _ (by simp; omega)
    · split
      · exact zkq q _ _ (by simp; omega)
      · exact zkq q _ _ (by simp; omega)
def runR (q : Bool) (c : Int) : List Int :=
  if c = 38 then [38,97,109,112,59] else if c = 60 then [38,108,116,59] else if c = 62 then [38,103,116,59] else if c = 160 then [38,110,98,115,112,59] else if c = 13 then [38,35,49,51,59] else if c = 34 ∧ q = true then [38,113,117,111,116,59] else [c]
def escR (q : Bool) (xs : List Int) : List Int := xs.flatMap (runR q)
def enc8 (xs : List Int) : List Nat := xs.flatMap fun x => encL x.toNat
theorem zo1 (xs ys : List Int) : enc8 (xs ++ ys) = enc8 xs ++ enc8 ys := by simp [enc8]
theorem runR_enc (q : Bool) (c : Nat) : toI (enc8 (runR q c)) = runE q c := by
  unfold runR runE
  by_cases a1 : c = 38
  · subst a1; rfl
  by_cases a2 : c = 60
  · subst a2; rfl
  by_cases a3 : c = 62
  · subst a3; rfl
  by_cases a4 : c = 160
  · subst a4; rfl
  by_cases a5 : c = 13
  · subst a5; rfl
  rw [if_neg (by omega), if_neg (by omega), if_neg (by omega), if_neg (by omega), if_neg (by omega), if_neg a1, if_neg a2, if_neg a3, if_neg a4, if_neg a5]
  by_cases a6 : c = 34 ∧ q = true
  · rw [if_pos a6, if_pos ⟨by omega, a6.2⟩]; rfl
  · rw [if_neg a6, if_neg (by rintro ⟨x, y⟩; exact a6 ⟨by omega, y⟩)]
    simp [enc8]
def Vr (xs : List Int) : Prop := ∀ x ∈ xs, Utf8.valid x = true
theorem Vr.append {xs ys : List Int} (h : Vr xs) (g : Vr ys) : Vr (xs ++ ys) := fun x hx => (List.mem_append.1 hx).elim (h x) (g x)
theorem Vr.tail {x : Int} {xs : List Int} (h : Vr (x :: xs)) : Vr xs := fun y hy => h y (List.mem_cons_of_mem _ hy)
theorem zg0 {xs : List Int} (h : Vr xs) : byL (textOf xs) = enc8 xs := by
  have := zqe xs ByteArray.empty h
  unfold textOf
  rw [this]; rfl
theorem zsj {s t : ByteArray} (h : byL s = byL t) : s = t := by
  rw [← zf9 s, ← zf9 t, zhz, zhz, h]
theorem zlk {x : Int} (h : 0 ≤ x ∧ x < 128) : Utf8.valid x = true := by
  simp [Utf8.valid]; omega
theorem ztk {q : Bool} {c : Int} (h : Utf8.valid c = true) : Vr (runR q c) := by
  unfold runR
  repeat' split
  all_goals (intro x hx; simp only [List.mem_cons, List.not_mem_nil, or_false] at hx; first | (subst hx; exact h) | exact zlk (by omega))
theorem zjq {q : Bool} : ∀ {xs : List Int}, Vr xs → Vr (escR q xs)
  | [], _ => fun x hx => by cases hx
  | c :: xs, h => by
    show Vr (runR q c ++ escR q xs)
    exact (ztk (h c (List.mem_cons_self ..))).append (zjq h.tail)
theorem zt7 (q : Bool) : ∀ {xs : List Int}, Vr xs → toI (enc8 (escR q xs)) = escA q false (toI (enc8 xs))
  | [], _ => rfl
  | c :: xs, h => by
    have hc := h c (List.mem_cons_self ..)
    obtain ⟨n, rfl⟩ : ∃ n : Nat, c = n := ⟨c.toNat, by simp [Utf8.valid] at hc; omega⟩
    show toI (enc8 (runR q n ++ escR q xs)) = escA q false (toI (encL n ++ enc8 xs))
    rw [escA_enc q _ (by simp [Utf8.valid] at hc; omega), zo1, ← zt7 q h.tail, ← runR_enc]
    simp [toI]
theorem zri {q : Bool} {xs : List Int} (h : Vr xs) : textOf (escR q xs) = escS q (textOf xs) := by
  apply zsj
  have e : ∀ l : List Nat,(∀ b ∈ l, b < 256) → byL (bytesOf (toI l)) = l := fun l hl => by
    simp only [byL, bytesOf, toI, List.map_map]
    conv => rhs; rw [← List.map_id l]
    apply List.map_congr_left
    intro b hb
    have := hl b hb
    simp [Function.comp]
    omega
  have e2 : ∀ s : ByteArray, ∀ b ∈ byL s, b < 256 := fun s b hb => by
    unfold byL at hb
    obtain ⟨c, _, rfl⟩ := List.mem_map.1 hb
    exact c.toNat_lt
  rw [zg0 (zjq h), escS, zhz, zg0 h, ← zt7 q h, e]
  rw [← zg0 (zjq h)]
  exact e2 _
theorem runR_no {q : Bool} {c : Int} : ∀ z ∈ runR q c, z ≠ 60 ∧ z ≠ 13 ∧ z ≠ 62 ∧ (q = true → z ≠ 34) ∧ (c ≠ 0 → z ≠ 0) := by
  unfold runR
  repeat' split
  all_goals (intro x hx; simp only [List.mem_cons, List.not_mem_nil, or_false] at hx)
  all_goals first
    | (refine ⟨?_, ?_, ?_, fun _ => ?_, fun _ => ?_⟩ <;> omega)
    | (subst hx; refine ⟨by omega, by omega, by omega, fun hq e => ?_, fun h => h⟩; rename_i h; exact h ⟨e, hq⟩)
theorem zq6 {q : Bool} {xs : List Int} : ∀ z ∈ escR q xs, z ≠ 60 ∧ z ≠ 13 ∧ (q = true → z ≠ 34) ∧ ((∀ x ∈ xs, x ≠ 0) → z ≠ 0) := fun z hz => by
  obtain ⟨c, hc, h⟩ := List.mem_flatMap.1 hz
  obtain ⟨h1, h2, _, h3, h4⟩ := runR_no z h
  exact ⟨h1, h2, h3, fun g => h4 (g c hc)⟩
theorem escR_ne {q : Bool} {xs : List Int} (h : xs ≠ []) : escR q xs ≠ [] := by
  cases xs with
  | nil => exact absurd rfl h
  | cons c xs =>
    intro e
    have e : runR q c ++ escR q xs = [] := e
    have := (List.append_eq_nil_iff.1 e).1
    unfold runR at this
    revert this
    repeat' split
    all_goals (intro e; cases e)
theorem zue {q : Bool} {s : ByteArray} (h : textOf (runesIn s) = s) (hs : s.size ≤ 1048576) : T (fun k _ => zdl k (textOf (escR q (runesIn s)))) (· = s) := by
  rw [zri (zes s), h]
  exact zry q hs
end
section
open Go.RowKit Go.Sl
theorem zrm (l : List UInt8) : Lib.decodeL l = decL (l.map (·.toNat)) := by
  unfold Lib.decodeL
  rw [ziy, List.drop_zero]; rfl
theorem zvf {c : Nat} (h : Utf8.valid c = true) : (Lib.encodeRune c).map (·.toNat) = encL c := by
  have hv : c ≤ 1114111 := by simp [Utf8.valid] at h; omega
  have hv2 : ¬ (55296 ≤ c ∧ c ≤ 57343) := by simp [Utf8.valid] at h; omega
  have key : ∀ z : Int,0 ≤ z → z < 256 → (z.toNat.toUInt8).toNat = z.toNat := fun z h0 h1 => by
    show (UInt8.ofNat z.toNat).toNat = _
    simp
    omega
  unfold Lib.encodeRune Lib.encodeRuneZ encL
  by_cases h1 : c < 128
  · rw [if_pos (by omega), if_pos h1]
    simp only [List.map_cons, List.map_nil]
    rw [key _ (by omega) (by omega)]; rfl
  rw [if_neg (by omega), if_neg h1]
  by_cases h2 : c < 2048
  · rw [if_pos (by omega), if_pos h2]
    simp only [List.map_cons, List.map_nil]
    rw [key _ (by omega) (by omega), key _ (by omega) (by omega)]
    simp only [List.cons.injEq]
    refine ⟨?_, ?_, trivial⟩ <;> omega
  rw [if_neg (by omega), if_neg h2]
  by_cases h3 : c < 65536
  · rw [if_pos (by omega), if_pos h3]
    simp only [List.map_cons, List.map_nil]
    rw [key _ (by omega) (by omega), key _ (by omega) (by omega), key _ (by omega) (by omega)]
    simp only [List.cons.injEq]
    refine ⟨?_, ?_, ?_, trivial⟩ <;> omega
  rw [if_neg (by omega), if_neg h3, if_pos (by omega)]
  simp only [List.map_cons, List.map_nil]
  rw [key _ (by omega) (by omega), key _ (by omega) (by omega), key _ (by omega) (by omega), key _ (by omega) (by omega)]
  simp only [List.cons.injEq]
  refine ⟨?_, ?_, ?_, ?_, trivial⟩ <;> omega
theorem zqw : ∀ (m : Nat) (l : List UInt8), l.length ≤ m → Lib.validD l = true → enc8 (runesS (l.map (·.toNat))) = l.map (·.toNat)
  | _,[], _, _ => rfl
  | 0, b :: l, h, _ => by simp at h
  | m + 1, b :: l, h, hv => by
    have hd := zrm (b :: l)
    rw [Lib.validD_step _ (by simp)] at hv
    by_cases hb : (Lib.decodeL (b :: l)).1 = 65533 ∧ (Lib.decodeL (b :: l)).2 = 1
    · rw [if_pos hb] at hv; cases hv
    rw [if_neg hb] at hv
    have he := Lib.encode_decode (b :: l) (by simp) hb
    have hw := zl3 ((b :: l).map (·.toNat))
    rw [hd] at he hv
    have hvd : Utf8.valid ((decL ((b :: l).map (·.toNat))).1 : Int) = true := zp9 _ fun x hx => by
      obtain ⟨y, _, rfl⟩ := List.mem_map.1 hx
      exact y.toNat_lt
    have ih := zqw m ((b :: l).drop (decL ((b :: l).map (·.toNat))).2) (by rw [List.length_drop]; simp only [List.length_cons] at h ⊢; omega) hv
    rw [List.map_drop] at ih
    have he2 := congrArg (List.map (·.toNat)) he
    rw [zvf hvd, List.map_take] at he2
    rw [List.map_cons] at hw he2 ih hvd ⊢
    rw [znk]
    show encL _ ++ enc8 _ = _
    rw [Int.toNat_natCast, he2, ih, List.take_append_drop]
theorem zug {s : ByteArray} (h : Lib.validD s.data.toList = true) : textOf (runesIn s) = s := by
  apply zsj
  rw [zg0 (zes s), zkl]
  exact zqw _ s.data.toList (Nat.le_refl _) h
end
end Go.Proofs.YtpfdbeafdjnbnaaGreatDoor
