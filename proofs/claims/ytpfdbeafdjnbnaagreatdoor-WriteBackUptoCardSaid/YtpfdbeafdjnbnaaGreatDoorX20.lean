/-
  Walks and laws of this seat.
-/
import Derived.Test.YtpfdbeafdjnbnaaGreatDoorBash
import Derived.Test.YtpfdbeafdjnbnaaGreatDoorS7i
import Derived.Test.YtpfdbeafdjnbnaaGreatDoorRows
import Derived.Test.YtpfdbeafdjnbnaaGreatDoorX19
namespace Go.Proofs.YtpfdbeafdjnbnaaGreatDoor
set_option linter.unusedVariables false
set_option linter.unusedSimpArgs false
set_option linter.unusedSectionVars false
section
set_option maxHeartbeats 4000000
set_option maxRecDepth 100000
open Go.RowKit Go.Sl
theorem zu9 {P : Program} {C : World → Prop} {n : Nat} {E : List (Nat × Value)} {d : Option Tmp} {ty : TypeId} {pos : String} {af : Array Edge} {g : Option (Nat × Bool)} {v : Value} {t t' u : TypeId} {x : Operand} {ms : Array (String × TypeId)} (hx : opv E x = some (.iface u v)) (ht : P.underlying t' = some (.interface ms)) (hm : (P.info? u).map (fun it => Instr.missingMethod ms it.methods) = some none) :
    Y P C n E ⟨d, .typeAssert x t t' true, ty, pos, af, g⟩ (.tuple #[.iface u v, .bool true]) := by
  obtain ⟨it, h1, h2⟩ := Option.map_eq_some_iff.1 hm
  exact y_assert hx ht h1 h2
theorem gsw_ok {f : Fz} {v : Value} : Gives Tryz.prog 166 [.iface 219 v] f (.iface 219 v) := by
  intro w0 L w hC
  refine enter Tryz.func166 rfl Tryz.ntmps166 (by simp) hC fun a hs => Wq fun hK1 => sA hs rfl fun hs => za0 <| hK1 <| Wq fun hK2 => sM hs rfl fun hs => s1 hs (zu9 rfl Tryz.underlying223 (by kernel_rfl)) fun hs => ?_
  refine sM hs rfl fun hs => s1 hs (zap rfl rfl) fun hs => s1 hs (zap rfl rfl) fun hs => sA hs rfl fun hs => sA hs rfl fun hs => za0 <| hK2 <| Ws fun hK3 => Ws fun hK4 => za2 ?_
  refine sM hs rfl fun hs => s1 hs (zfc rfl) fun hs => za0 <| hK4 <| zdj hs rfl <| zaj <| hK3 <| Wq fun hK5 => sM hs rfl fun hs => ?_
  refine sA hs rfl fun hs => za0 <| hK5 <| zax <| Rt_1 hs rfl rfl ?_
  exact ⟨rfl, hs.cw⟩
theorem zvm {f : Fz} {wb : Nat} {v : Value} {rows : List (List Value)} {s : ByteArray} {e : TypeId} (hb : rows.length + s.size ≤ 140737488355328) :
    Does Tryz.prog 177 [pq wb 0, .string s] f [.blk wb (.cells #[v] e (0,0)), .row v 5 1 rows] (fun r f' L' => f' = f ∧ r = .tuple #[.int .i64 s.size, .nilIface] ∧ ∃ v', L' = [.blk wb (.cells #[v'] e (0,0)), .row v' 5 1 (rows ++ (bytesIn s).map fun x => [Value.int .u8 x])]) := by
  intro w0 L w hC
  replace hC : Cw w0 f (.blk wb (.cells #[v] e (0,0)) :: .row v 5 1 rows :: L) w := hC
  refine enter Tryz.func177 rfl Tryz.ntmps177 (by simp) hC fun a hs => Wq fun hK1 => sA hs rfl fun hs => sA hs rfl fun hs => za0 <| hK1 <| Wq fun hK2 => sM hs rfl fun hs => ?_
  refine sM hs rfl fun hs => ?_
  first | (refine sy hs (za5 rfl) ?_; clear hs; (try clear a w); intro a w hs) | (refine sy hs (y_nilE rfl) ?_; clear hs; (try clear a w); intro a w hs)
  first | (refine sy hs (y_ld rfl U218 rfl) ?_; clear hs; (try clear a w); intro a w hs) | (refine sy hs (y_ldE rfl U218 rfl) ?_; clear hs; (try clear a w); intro a w hs)
  refine sM hs rfl fun hs => ?_
  refine zrz 1 hs rfl rfl rfl U218 U9 ti5 rfl ⟨by simp only [maxLen]; omega, by omega⟩ fun v2 _ _ hs => ?_
  have hv2 := hs.one (i := 1) rfl
  first | (refine sy hs (za5 rfl) ?_; clear hs; (try clear a w); intro a w hs) | (refine sy hs (y_nilE rfl) ?_; clear hs; (try clear a w); intro a w hs)
  refine zda (i := 0) (o := 0) hs rfl rfl rfl ti218 hv2 (by simp) rfl (.free rfl) fun _ _ hs => za0 <| hK2 <| Wq fun hK3 => sM hs rfl fun hs => s1 hs (zg2 rfl U9) fun hs => sA hs rfl fun hs => sA hs rfl fun hs => za0 ?_
  refine hK3 <| zax <| Rt_2 hs rfl rfl rfl ?_
  exact ⟨_, f,[_, _], rfl, .refl _, hs.cw, rfl, rfl, v2, rfl⟩
end
section
open Go.RowKit Go.Sl
def u8R (B : List Int) : List (List Value) := B.map fun x => [Value.int .u8 x]
theorem zs2 (B : List Int) (s : ByteArray) : u8R B ++ ((bytesIn s).map fun x => [Value.int .u8 x]) = u8R (B ++ bytesIn s) := by
  unfold u8R; rw [List.map_append]
theorem zs1 (B : List Int) : (u8R B).length = B.length := by unfold u8R; rw [List.length_map]
set_option maxRecDepth 20000 in
set_option maxHeartbeats 16000000 in
theorem ws_ok {f : Fz} {LX : List Ent} {g wb : Nat} {q : Bool} {s : ByteArray} {v : Value} (hT : TrieL (escL q) (escM q) (escT q) (escN q) g LX) (hsz : s.size ≤ 1099511627776) :
    Does Tryz.prog 165 [pq g 0, .iface 219 (pq wb 0), .string s] f (.blk wb (.cells #[v] 218 (0,0)) :: .row v 5 1 (u8R []) :: LX) (fun _ f' L' => f' = f ∧ ∃ v', L' = .blk wb (.cells #[v'] 218 (0,0)) :: .row v' 5 1 (u8R (escA q false (bytesIn s))) :: LX) := by
  intro w0 L w hC
  replace hC : Cw w0 f (.blk wb (.cells #[v] 218 (0,0)) :: .row v 5 1 (u8R []) :: (LX ++ L)) w := hC
  obtain ⟨tv, rows, Ls, hTr, hLX⟩ := hT
  have hg : Ent.blk g (.cells (gcA tv (escT q) (escN q)) 183 (0,0)) ∈ LX := by rw [hLX]; exact .head _
  have hrw : Ent.row tv 178 1 rows ∈ LX := by rw [hLX]; exact .tail _ (.head _)
  have hLs : ∀ e ∈ Ls, e ∈ LX := fun e he => by rw [hLX]; exact .tail _ (.tail _ he)
  clear hLX
  have hTE := esc_ok q
  have hT1 := hTE.T1
  have up : ∀ {e : Ent} {x y : Ent}, e ∈ LX → e ∈ x :: y :: (LX ++ L) := fun h => .tail _ (.tail _ (List.mem_append_left _ h))
  refine enter Tryz.func165 rfl Tryz.ntmps165 (by simp) hC fun a hs => ?_
  refine zai fun K1 hK1 => ?_
  refine za2 ?_
  refine sy hs (za9 rfl) fun _ _ hs => ?_
  refine sy hs (za9 rfl) fun _ _ hs => ?_
  refine za0 ?_
  refine hK1 _ _ ?_; clear hK1
  refine zai fun K2 hK2 => ?_
  refine za2 ?_
  refine sy hs (za3 rfl) fun _ _ hs => ?_
  refine sy hs (zbi rfl has166 rfl gsw_ok) fun _ _ hs => ?_
  refine sy hs (za9 rfl) fun _ _ hs => ?_
  refine za0 ?_
  refine hK2 _ _ ?_; clear hK2
  refine zai fun K3 hK3 => ?_
  refine za2 ?_
  refine sy hs (za9 rfl) fun _ _ hs => ?_
  refine sy hs (za9 rfl) fun _ _ hs => ?_
  refine za0 ?_
  refine hK3 _ _ ?_; clear hK3
  refine zai fun K4 hK4 => ?_
  refine za2 ?_
  refine sy hs (za9 rfl) fun _ _ hs => ?_
  refine za0 ?_
  refine hK4 _ _ ?_; clear hK4
  refine zai fun K5 hK5 => ?_
  refine zai fun K6 hK6 => ?_
  refine za2 ?_
  refine sy hs (za9 rfl) fun _ _ hs => ?_
  refine za0 ?_
  refine hK6 _ _ ?_; clear hK6
  refine zam fun Qe7 hB7 hO7 => ?_
  refine zd1 (fun (i : Nat) a w => ∃ last B v n wn, WInv q s i last B ∧ St 131 w0 f (.blk wb (.cells #[v] 218 (0,0)) :: .row v 5 1 (u8R B) :: (LX ++ L)) [(0, pq g 0),(2, .string s),(6, .int .i64 n),(7, .nilIface),(8, .iface 219 (pq wb 0)),(9, .int .i64 ((last : Nat) : Int)),(10, .int .i64 wn),(11, .bool false),(12, .int .i64 (i : Int))] a w) (fun i => s.size + 1 - i) 0 ⟨0,[], v,0,0, ⟨Nat.le_refl _, by omega, by omega, by simp⟩, hs.sub ⟨rfl, rfl, rfl, rfl, rfl, rfl, rfl, rfl, rfl, trivial⟩⟩ ?_
  clear hs; rintro i a w ⟨last, B, v, n, wn, hI, hs⟩ K hK
  have hBl := hI.len
  have hla := hI.1
  have hl2 := hI.2.2.1
  refine zai fun K8 hK8 => ?_
  refine zai fun K9 hK9 => ?_
  refine za2 ?_
  refine sy hs (za3 rfl) fun _ _ hs => ?_
  refine sy hs (za3 rfl) fun _ _ hs => ?_
  refine sy hs (zg2 rfl U9) fun _ _ hs => ?_
  refine sy hs (zpj rfl rfl) fun _ _ hs => ?_
  refine za0 ?_
  refine hK9 _ _ ?_; clear hK9
  first | refine zho hs rfl (fun hil => ?_) (fun hil => ?_) | refine zah hs rfl (fun hil => ?_) (fun hil => ?_)
  · have hil' : i ≤ s.size := by
      have : ((i : Nat) : Int) ≤ ((s.size : Nat) : Int) := by simpa using hil
      omega
    by_cases hi : i < s.size
    · obtain ⟨c, hc2, hc, hcb⟩ := zvl hi
      refine zaj ?_
      refine hK8 _ _ ?_; clear hK8
      refine zam fun Qe10 hB10 hO10 => ?_
      refine zai fun K11 hK11 => ?_
      refine zai fun K12 hK12 => ?_
      refine za2 ?_
      refine sy hs (za3 rfl) fun _ _ hs => ?_
      refine sy hs (za3 rfl) fun _ _ hs => ?_
      refine sy hs (zg2 rfl U9) fun _ _ hs => ?_
      refine sy hs (zeo rfl rfl) fun _ _ hs => ?_
      rw [decide_eq_true (show ((i : Nat) : Int) ≠ ((s.size : Nat) : Int) by omega)] at hs
      refine sy hs (za3 rfl) fun _ _ hs => ?_
      refine syg hs (za3 rfl) fun _ _ hs => ?_
      first | (refine syg hs (za5 rfl) ?_; clear hs; (try clear a w); intro a w hs) | (refine syg hs (y_nilE rfl) ?_; clear hs; (try clear a w); intro a w hs)
      first | (refine syg hs (za1 rfl (FO.of (off := 0) U183 rfl rfl ti181 (by decide))) ?_; clear hs; (try clear a w); intro a w hs) | (refine syg hs (y_faE rfl (FO.of (off := 0) U183 rfl rfl ti181 (by decide))) ?_; clear hs; (try clear a w); intro a w hs)
      first | (refine syg hs (za1 rfl (FO.of (off := 1) U181 rfl rfl ti3 (by decide))) ?_; clear hs; (try clear a w); intro a w hs) | (refine syg hs (y_faE rfl (FO.of (off := 1) U181 rfl rfl ti3 (by decide))) ?_; clear hs; (try clear a w); intro a w hs)
      refine syg hs (y_ld rfl U3 rfl (Cell.blk (up hg) gcA_1)) fun _ _ hs => ?_
      refine syg hs (zct rfl rfl) fun _ _ hs => ?_
      rw [show decide ((0 : Int) = 0) = true from rfl] at hs
      refine sy hs (zaz rfl rfl) fun _ _ hs => ?_
      refine za0 ?_
      refine hK12 _ _ ?_; clear hK12
      refine zdq hs rfl ?_
      by_cases hsp : c ∈ specB q
      · obtain ⟨p, key, val, hH⟩ := hit_of hsp
        obtain ⟨n1, key', val', e1, e2, hr, hA⟩ := hTr.node p (by have := hH.lt; have := hTE.ev; omega)
        obtain rfl := Option.some.inj (hH.kat.symm.trans e1)
        obtain rfl := Option.some.inj (hH.vat.symm.trans e2)
        have hmT := hH.mT
        have hmr : escM q p < rows.length := (List.getElem?_eq_some_iff.1 hr).1
        have hks := hTE.sz key (List.mem_of_getElem? hH.kat)
        have hvs := hTE.sz val (List.mem_of_getElem? hH.vat)
        have hrs : (key.extract 1 key.size).size ≤ 1000000 := by rw [ByteArray.size_extract]; omega
        refine zai fun K13 hK13 => ?_
        refine zju hs mixed (by kernel_rfl) ?_; intro a he
        refine qy he (za3 rfl) fun _ he => ?_
        refine qy he (za3 rfl) fun _ he => ?_
        refine qy he (za3 rfl) fun _ he => ?_
        refine qy he (zoc rfl rfl U9 hc) fun _ he => ?_
        first | (refine qy he (za5 rfl) ?_; clear he; (try clear a); intro a he) | (refine qy he (y_nilE rfl) ?_; clear he; (try clear a); intro a he)
        first | (refine qy he (za1 rfl (FO.of (off := 6) U183 rfl rfl ti126 (by decide))) ?_; clear he; (try clear a); intro a he) | (refine qy he (y_faE rfl (FO.of (off := 6) U183 rfl rfl ti126 (by decide))) ?_; clear he; (try clear a); intro a he)
        refine qy he (zlj (j := c) rfl rfl U126 ti5 rfl hc2) fun _ he => ?_
        refine qy he (y_ld rfl U5 rfl (Cell.blk (up hg) (by rw [show 0 + 6 + c * 1 = 6 + c by omega]; exact zq4 hH.num))) fun _ he => ?_
        refine qy he (zs0 rfl (by rw [U5]; rfl) U3 (zg4 (by omega))) fun _ he => ?_
        refine qy he (za9 rfl) fun _ he => ?_
        refine zfw he ?_; clear he hs; intro a w hs
        refine hK13 _ _ ?_; clear hK13
        refine zai fun K14 hK14 => ?_
        refine za2 ?_
        refine sy hs (za3 rfl) fun _ _ hs => ?_
        refine sy hs (za3 rfl) fun _ _ hs => ?_
        first | (refine sy hs (za5 rfl) ?_; clear hs; (try clear a w); intro a w hs) | (refine sy hs (y_nilE rfl) ?_; clear hs; (try clear a w); intro a w hs)
        first | (refine sy hs (za1 rfl (FO.of (off := 5) U183 rfl rfl ti3 (by decide))) ?_; clear hs; (try clear a w); intro a w hs) | (refine sy hs (y_faE rfl (FO.of (off := 5) U183 rfl rfl ti3 (by decide))) ?_; clear hs; (try clear a w); intro a w hs)
        refine sy hs (y_ld rfl U3 rfl (Cell.blk (up hg) ztu)) fun _ _ hs => ?_
        refine sy hs (zct rfl rfl) fun _ _ hs => ?_
        rw [decide_eq_false (show ¬ (escM q p : Int) = (escT q : Int) by omega)] at hs
        refine sy hs (za3 rfl) fun _ _ hs => ?_
        refine syg hs (za3 rfl) fun _ _ hs => ?_
        first | (refine syg hs (za5 rfl) ?_; clear hs; (try clear a w); intro a w hs) | (refine syg hs (y_nilE rfl) ?_; clear hs; (try clear a w); intro a w hs)
        first | (refine syg hs (za1 rfl (FO.of (off := 0) U183 rfl rfl ti181 (by decide))) ?_; clear hs; (try clear a w); intro a w hs) | (refine syg hs (y_faE rfl (FO.of (off := 0) U183 rfl rfl ti181 (by decide))) ?_; clear hs; (try clear a w); intro a w hs)
        first | (refine syg hs (za1 rfl (FO.of (off := 4) U181 rfl rfl ti179 (by decide))) ?_; clear hs; (try clear a w); intro a w hs) | (refine syg hs (y_faE rfl (FO.of (off := 4) U181 rfl rfl ti179 (by decide))) ?_; clear hs; (try clear a w); intro a w hs)
        refine syg hs (y_ld rfl U179 rfl (Cell.blk (up hg) zvc)) fun _ _ hs => ?_
        refine syg hs (za3 rfl) fun _ _ hs => ?_
        refine syg hs (zac (m := escM q p) (Rd.st hs (up hrw)) rfl rfl rfl hmr U179 ti178) fun _ _ hs => ?_
        refine syg hs (zbm (i := escM q p) (j := 0) (Rd.st hs (up hrw)) rfl hr rfl U178 rfl) fun _ _ hs => ?_
        refine syg hs (y_pnil rfl rfl U178) fun _ _ hs => ?_
        refine sy hs (zaz rfl rfl) fun _ _ hs => ?_
        refine za0 ?_
        refine hK14 _ _ ?_; clear hK14
        refine zdj hs rfl ?_
        have hlk := zv2 (f := f) (s := s.extract i s.size) (c := c) (m := escM q p) (pr := (escL q).length - (2 * p : Nat)) hg hrw (by
          have : (bytesIn (s.extract i s.size))[0]? = some (c : Int) := by
            rw [zh7, List.getElem?_take_of_lt (by omega), List.getElem?_drop]; exact hcb
          exact this) hc2 hH.num hmT hT1 hr (hA.mono hLs) (by have := hH.lt; omega) hrs
        unfold lkV at hlk
        refine zaj ?_
        refine hK11 _ _ ?_; clear hK11
        refine zai fun K15 hK15 => ?_
        refine za2 ?_
        refine sy hs (za3 rfl) fun _ _ hs => ?_
        refine sy hs (za3 rfl) fun _ _ hs => ?_
        refine sy hs (za3 rfl) fun _ _ hs => ?_
        refine sy hs (zhb (lo := i) (hi := s.size) rfl rfl U9 (.inr ⟨_, rfl, rfl⟩) (.inl ⟨rfl, rfl⟩) hil' (Nat.le_refl _)) fun _ _ hs => ?_
        by_cases hp : pfx ((s.extract i s.size).extract 1 (s.extract i s.size).size) (key.extract 1 key.size) = true
        · rw [if_pos hp] at hlk
          obtain ⟨hfit, hesc⟩ := hit_step hH hcb hp
          refine sy hs (za3 rfl) fun _ _ hs => ?_
          refine sy hs (zec (cap := []) (Lr := LX) (Lf := .blk wb (.cells #[v] 218 (0,0)) :: .row v 5 1 (u8R B) :: L) rfl has167 rfl (permX [_, _] LX L) hlk) fun _ _ hs => ?_
          refine sy hs (za3 rfl) fun _ _ hs => ?_
          refine sy hs (zap rfl rfl) fun _ _ hs => ?_
          refine sy hs (zap rfl rfl) fun _ _ hs => ?_
          refine sy hs (zap rfl rfl) fun _ _ hs => ?_
          refine sy hs (za9 rfl) fun _ _ hs => ?_
          refine sy hs (za9 rfl) fun _ _ hs => ?_
          refine sy hs (za9 rfl) fun _ _ hs => ?_
          refine za0 ?_
          refine hK15 _ _ ?_; clear hK15
          refine zai fun K16 hK16 => ?_
          refine za2 ?_
          refine sy hs (za3 rfl) fun _ _ hs => ?_
          refine sy hs (za3 rfl) fun _ _ hs => ?_
          refine syg hs (za3 rfl) fun _ _ hs => ?_
          refine syg hs (zct rfl rfl) fun _ _ hs => ?_
          rw [decide_eq_false (show ¬ (1 + ((key.extract 1 key.size).size : Int) = 0) by omega)] at hs
          refine sy hs (zaz rfl rfl) fun _ _ hs => ?_
          refine sy hs (za9 rfl) fun _ _ hs => ?_
          refine za0 ?_
          refine hK16 _ _ ?_; clear hK16
          refine zai fun K17 hK17 => ?_
          refine zai fun K18 hK18 => ?_
          refine za2 ?_
          refine sy hs (za3 rfl) fun _ _ hs => ?_
          refine za0 ?_
          refine hK18 _ _ ?_; clear hK18
          refine zdq hs rfl ?_
          have hb : (u8R B).length + (s.extract last i).size ≤ 140737488355328 := by rw [zs1, ByteArray.size_extract]; omega
          refine zai fun K19 hK19 => ?_
          refine zls hs ([]) [] [(0, true),(1, true),(2, true),(3, true),(4, true),(5, true),(6, true),(7, true),(8, false),(9, true),(10, true),(11, true),(12, true),(13, true)] mixed (by kernel_rfl) fun _ he => ?_
          refine dy 0 he rfl (za3 rfl) fun _ he => ?_
          refine dy 1 he rfl (za3 rfl) fun _ he => ?_
          refine dy 2 he rfl (za3 rfl) fun _ he => ?_
          refine dy 3 he rfl (za3 rfl) fun _ he => ?_
          refine dy 4 he rfl (zhb (lo := last) (hi := i) rfl rfl U9 (.inr ⟨_, rfl, rfl⟩) (.inr ⟨_, rfl, rfl⟩) hla hil') fun _ he => ?_
          refine dy 5 he rfl (zsr rfl) fun _ he => ?_
          refine dy 6 he rfl (zqq rfl n219) fun _ he => ?_
          refine dy 7 he rfl (za3 rfl) fun _ he => ?_
          refine zsp (i := 8) rfl he ?_; clear he; (try clear a); intro a w hs
          refine zmh (Lr := [.blk wb (.cells #[v] 218 (0,0)), .row v 5 1 (u8R B)]) (Lf := LX ++ L) hs rfl m219 has177 rfl rfl (zvm (e := 218) hb) (.free rfl) (by decide) ?_; clear hs; (try clear a w); rintro _ _ _ a w _ ⟨rfl, rfl, v2, rfl⟩ hs
          rw [zs2] at hs
          refine don hs fun _ he => ?_
          refine dy 9 he rfl (za3 rfl) fun _ he => ?_
          refine dy 10 he rfl (zap rfl rfl) fun _ he => ?_
          refine dy 11 he rfl (zap rfl rfl) fun _ he => ?_
          refine dy 12 he rfl (za9 rfl) fun _ he => ?_
          refine dy 13 he rfl (za9 rfl) fun _ he => ?_
          refine zso he ?_; clear he; (try clear a); intro w hs
          refine hK19 _ _ ?_; clear hK19
          refine zai fun K20 hK20 => ?_
          refine za2 ?_
          refine sy hs (za3 rfl) fun _ _ hs => ?_
          refine sy hs (za3 rfl) fun _ _ hs => ?_
          refine sy hs (zdz rfl rfl rfl) fun _ _ hs => ?_
          refine sy hs (za9 rfl) fun _ _ hs => ?_
          refine za0 ?_
          refine hK20 _ _ ?_; clear hK20
          refine zai fun K21 hK21 => ?_
          refine zai fun K22 hK22 => ?_
          refine za2 ?_
          refine sy hs (za3 rfl) fun _ _ hs => ?_
          refine sy hs (zu7 rfl Tryz.underlying64) fun _ _ hs => ?_
          refine za0 ?_
          refine hK22 _ _ ?_; clear hK22
          refine zdj hs rfl ?_
          clear hb
          have hb : (u8R (B ++ bytesIn (s.extract last i))).length + val.size ≤ 140737488355328 := by rw [zs1, List.length_append, zak, ByteArray.size_extract]; omega
          refine zaj ?_
          refine hK21 _ _ ?_; clear hK21
          refine zai fun K23 hK23 => ?_
          refine za2 ?_
          refine sy hs (za3 rfl) fun _ _ hs => ?_
          refine sy hs (za3 rfl) fun _ _ hs => ?_
          refine zmh (Lr := [.blk wb (.cells #[v2] 218 (0,0)), .row v2 5 1 (u8R (B ++ bytesIn (s.extract last i)))]) (Lf := LX ++ L) hs rfl m219 has177 rfl rfl (zvm (e := 218) hb) (.free rfl) (by decide) ?_; clear hs; (try clear a w); rintro _ _ _ a w _ ⟨rfl, rfl, v3, rfl⟩ hs
          rw [zs2] at hs
          refine sy hs (za3 rfl) fun _ _ hs => ?_
          refine sy hs (zap rfl rfl) fun _ _ hs => ?_
          refine sy hs (zap rfl rfl) fun _ _ hs => ?_
          refine sy hs (za9 rfl) fun _ _ hs => ?_
          refine sy hs (za9 rfl) fun _ _ hs => ?_
          refine za0 ?_
          refine hK23 _ _ ?_; clear hK23
          refine zai fun K24 hK24 => ?_
          refine za2 ?_
          refine sy hs (za3 rfl) fun _ _ hs => ?_
          refine sy hs (za3 rfl) fun _ _ hs => ?_
          refine sy hs (zdz rfl rfl rfl) fun _ _ hs => ?_
          refine sy hs (za9 rfl) fun _ _ hs => ?_
          refine za0 ?_
          refine hK24 _ _ ?_; clear hK24
          refine zai fun K25 hK25 => ?_
          refine zai fun K26 hK26 => ?_
          refine za2 ?_
          refine sy hs (za3 rfl) fun _ _ hs => ?_
          refine sy hs (zu7 rfl Tryz.underlying64) fun _ _ hs => ?_
          refine za0 ?_
          refine hK26 _ _ ?_; clear hK26
          refine zdj hs rfl ?_
          refine zaj ?_
          refine hK25 _ _ ?_; clear hK25
          refine zai fun K27 hK27 => ?_
          refine za2 ?_
          refine sy hs (za3 rfl) fun _ _ hs => ?_
          refine sy hs (za3 rfl) fun _ _ hs => ?_
          refine sy hs (zdz rfl rfl (zg4 (by omega))) fun _ _ hs => ?_
          refine sy hs (za9 rfl) fun _ _ hs => ?_
          refine za0 ?_
          refine hK27 _ _ ?_; clear hK27
          refine zai fun K28 hK28 => ?_
          refine za2 ?_
          refine sy hs (za3 rfl) fun _ _ hs => ?_
          refine sy hs (za9 rfl) fun _ _ hs => ?_
          refine za0 ?_
          refine hK28 _ _ ?_; clear hK28
          refine zc0 ?_
          refine hB10 _ _ ?_
          exact hK (i + (1 + (key.extract 1 key.size).size)) _ _ (by omega) ⟨_, _, v3, _, _, hI.hit hfit hesc, hs.sub ⟨rfl, rfl, rfl, rfl, rfl, rfl, rfl, rfl, rfl, trivial⟩⟩
        · rw [if_neg hp] at hlk
          have hms := zv1 hH hcb (by simpa using hp)
          refine sy hs (za3 rfl) fun _ _ hs => ?_
          refine sy hs (zec (cap := []) (Lr := LX) (Lf := .blk wb (.cells #[v] 218 (0,0)) :: .row v 5 1 (u8R B) :: L) rfl has167 rfl (permX [_, _] LX L) hlk) fun _ _ hs => ?_
          refine sy hs (za3 rfl) fun _ _ hs => ?_
          refine sy hs (zap rfl rfl) fun _ _ hs => ?_
          refine sy hs (zap rfl rfl) fun _ _ hs => ?_
          refine sy hs (zap rfl rfl) fun _ _ hs => ?_
          refine sy hs (za9 rfl) fun _ _ hs => ?_
          refine sy hs (za9 rfl) fun _ _ hs => ?_
          refine sy hs (za9 rfl) fun _ _ hs => ?_
          refine za0 ?_
          refine hK15 _ _ ?_; clear hK15
          refine zai fun K29 hK29 => ?_
          refine za2 ?_
          refine sy hs (za3 rfl) fun _ _ hs => ?_
          refine sy hs (za3 rfl) fun _ _ hs => ?_
          refine sno hs fun _ _ hs => ?_
          refine sno hs fun _ _ hs => ?_
          refine sy hs (zaz rfl rfl) fun _ _ hs => ?_
          refine sy hs (za9 rfl) fun _ _ hs => ?_
          refine za0 ?_
          refine hK29 _ _ ?_; clear hK29
          refine zai fun K30 hK30 => ?_
          refine zai fun K31 hK31 => ?_
          refine za2 ?_
          refine sy hs (za3 rfl) fun _ _ hs => ?_
          refine za0 ?_
          refine hK31 _ _ ?_; clear hK31
          refine zdj hs rfl ?_
          refine zaj ?_
          refine hK30 _ _ ?_; clear hK30
          refine za2 ?_
          refine sy hs (za3 rfl) fun _ _ hs => ?_
          refine sy hs (zdz rfl rfl (zg4 (by omega))) fun _ _ hs => ?_
          refine sy hs (za9 rfl) fun _ _ hs => ?_
          refine za0 ?_
          exact hK (i + 1) _ _ (by omega) ⟨_, _, v, _, _, hI.step hcb hms, hs.sub ⟨rfl, rfl, rfl, rfl, rfl, rfl, rfl, rfl, rfl, trivial⟩⟩
      · obtain ⟨m, hm, hmo⟩ := fast_ok ((fast_all q c hc2).resolve_left hsp)
        have hmT : m ≤ escT q := by rcases hmo with h | h <;> omega
        refine zai fun K32 hK32 => ?_
        refine zju hs mixed (by kernel_rfl) ?_; intro a he
        refine qy he (za3 rfl) fun _ he => ?_
        refine qy he (za3 rfl) fun _ he => ?_
        refine qy he (za3 rfl) fun _ he => ?_
        refine qy he (zoc rfl rfl U9 hc) fun _ he => ?_
        first | (refine qy he (za5 rfl) ?_; clear he; (try clear a); intro a he) | (refine qy he (y_nilE rfl) ?_; clear he; (try clear a); intro a he)
        first | (refine qy he (za1 rfl (FO.of (off := 6) U183 rfl rfl ti126 (by decide))) ?_; clear he; (try clear a); intro a he) | (refine qy he (y_faE rfl (FO.of (off := 6) U183 rfl rfl ti126 (by decide))) ?_; clear he; (try clear a); intro a he)
        refine qy he (zlj (j := c) rfl rfl U126 ti5 rfl hc2) fun _ he => ?_
        refine qy he (y_ld rfl U5 rfl (Cell.blk (up hg) (by rw [show 0 + 6 + c * 1 = 6 + c by omega]; exact zq4 hm))) fun _ he => ?_
        refine qy he (zs0 rfl (by rw [U5]; rfl) U3 (zg4 (by omega))) fun _ he => ?_
        refine qy he (za9 rfl) fun _ he => ?_
        refine zfw he ?_; clear he hs; intro a w hs
        refine hK32 _ _ ?_; clear hK32
        refine zai fun K33 hK33 => ?_
        refine za2 ?_
        refine sy hs (za3 rfl) fun _ _ hs => ?_
        refine sy hs (za3 rfl) fun _ _ hs => ?_
        first | (refine sy hs (za5 rfl) ?_; clear hs; (try clear a w); intro a w hs) | (refine sy hs (y_nilE rfl) ?_; clear hs; (try clear a w); intro a w hs)
        first | (refine sy hs (za1 rfl (FO.of (off := 5) U183 rfl rfl ti3 (by decide))) ?_; clear hs; (try clear a w); intro a w hs) | (refine sy hs (y_faE rfl (FO.of (off := 5) U183 rfl rfl ti3 (by decide))) ?_; clear hs; (try clear a w); intro a w hs)
        refine sy hs (y_ld rfl U3 rfl (Cell.blk (up hg) ztu)) fun _ _ hs => ?_
        refine sy hs (zct rfl rfl) fun _ _ hs => ?_
        by_cases hmT2 : m = escT q
        · rw [decide_eq_true (show (m : Int) = (escT q : Int) by omega)] at hs
          refine sy hs (za3 rfl) fun _ _ hs => ?_
          refine sno hs fun _ _ hs => ?_
          refine sno hs fun _ _ hs => ?_
          refine sno hs fun _ _ hs => ?_
          refine sno hs fun _ _ hs => ?_
          refine sno hs fun _ _ hs => ?_
          refine sno hs fun _ _ hs => ?_
          refine sno hs fun _ _ hs => ?_
          refine sno hs fun _ _ hs => ?_
          refine sno hs fun _ _ hs => ?_
          refine sy hs (zaz rfl rfl) fun _ _ hs => ?_
          refine za0 ?_
          refine hK33 _ _ ?_; clear hK33
          refine zdq hs rfl ?_
          refine zai fun K34 hK34 => ?_
          refine za2 ?_
          refine sy hs (za3 rfl) fun _ _ hs => ?_
          refine sy hs (zdz rfl rfl (zg4 (by omega))) fun _ _ hs => ?_
          refine sy hs (za9 rfl) fun _ _ hs => ?_
          refine za0 ?_
          refine hK34 _ _ ?_; clear hK34
          refine zc0 ?_
          refine hB10 _ _ ?_
          exact hK (i + 1) _ _ (by omega) ⟨_, _, v, _, _, hI.step hcb (zrh hcb hsp), hs.sub ⟨rfl, rfl, rfl, rfl, rfl, rfl, rfl, rfl, rfl, trivial⟩⟩
        · rw [decide_eq_false (show ¬ (m : Int) = (escT q : Int) by omega)] at hs
          have hr : rows[m]? = some [.pointer none] := hTr.free m (by omega) ((hmo.resolve_left hmT2).2)
          have hmr : m < rows.length := (List.getElem?_eq_some_iff.1 hr).1
          refine sy hs (za3 rfl) fun _ _ hs => ?_
          refine syg hs (za3 rfl) fun _ _ hs => ?_
          first | (refine syg hs (za5 rfl) ?_; clear hs; (try clear a w); intro a w hs) | (refine syg hs (y_nilE rfl) ?_; clear hs; (try clear a w); intro a w hs)
          first | (refine syg hs (za1 rfl (FO.of (off := 0) U183 rfl rfl ti181 (by decide))) ?_; clear hs; (try clear a w); intro a w hs) | (refine syg hs (y_faE rfl (FO.of (off := 0) U183 rfl rfl ti181 (by decide))) ?_; clear hs; (try clear a w); intro a w hs)
          first | (refine syg hs (za1 rfl (FO.of (off := 4) U181 rfl rfl ti179 (by decide))) ?_; clear hs; (try clear a w); intro a w hs) | (refine syg hs (y_faE rfl (FO.of (off := 4) U181 rfl rfl ti179 (by decide))) ?_; clear hs; (try clear a w); intro a w hs)
          refine syg hs (y_ld rfl U179 rfl (Cell.blk (up hg) zvc)) fun _ _ hs => ?_
          refine syg hs (za3 rfl) fun _ _ hs => ?_
          refine syg hs (zac (m := m) (Rd.st hs (up hrw)) rfl rfl rfl hmr U179 ti178) fun _ _ hs => ?_
          refine syg hs (zbm (i := m) (j := 0) (Rd.st hs (up hrw)) rfl hr rfl U178 rfl) fun _ _ hs => ?_
          refine syg hs (y_pnn rfl rfl U178) fun _ _ hs => ?_
          refine sy hs (zaz rfl rfl) fun _ _ hs => ?_
          refine za0 ?_
          refine hK33 _ _ ?_; clear hK33
          refine zdq hs rfl ?_
          refine zai fun K35 hK35 => ?_
          refine za2 ?_
          refine sy hs (za3 rfl) fun _ _ hs => ?_
          refine sy hs (zdz rfl rfl (zg4 (by omega))) fun _ _ hs => ?_
          refine sy hs (za9 rfl) fun _ _ hs => ?_
          refine za0 ?_
          refine hK35 _ _ ?_; clear hK35
          refine zc0 ?_
          refine hB10 _ _ ?_
          exact hK (i + 1) _ _ (by omega) ⟨_, _, v, _, _, hI.step hcb (zrh hcb hsp), hs.sub ⟨rfl, rfl, rfl, rfl, rfl, rfl, rfl, rfl, rfl, trivial⟩⟩
    · obtain rfl : i = s.size := by omega
      have hee : s.extract s.size s.size = bs [] := by
        apply ByteArray.ext
        simp
      refine zaj ?_
      refine hK8 _ _ ?_; clear hK8
      refine zam fun Qe36 hB36 hO36 => ?_
      refine zai fun K37 hK37 => ?_
      refine zai fun K38 hK38 => ?_
      refine za2 ?_
      refine sy hs (za3 rfl) fun _ _ hs => ?_
      refine sy hs (za3 rfl) fun _ _ hs => ?_
      refine sy hs (zg2 rfl U9) fun _ _ hs => ?_
      refine sy hs (zeo rfl rfl) fun _ _ hs => ?_
      rw [decide_eq_false (show ¬ ((s.size : Nat) : Int) ≠ ((s.size : Nat) : Int) from fun h => h rfl)] at hs
      refine sy hs (za3 rfl) fun _ _ hs => ?_
      refine sno hs fun _ _ hs => ?_
      refine sno hs fun _ _ hs => ?_
      refine sno hs fun _ _ hs => ?_
      refine sno hs fun _ _ hs => ?_
      refine sno hs fun _ _ hs => ?_
      refine sno hs fun _ _ hs => ?_
      refine sy hs (zaz rfl rfl) fun _ _ hs => ?_
      refine za0 ?_
      refine hK38 _ _ ?_; clear hK38
      refine zdj hs rfl ?_
      refine zaj ?_
      refine hK37 _ _ ?_; clear hK37
      refine zai fun K39 hK39 => ?_
      refine za2 ?_
      refine sy hs (za3 rfl) fun _ _ hs => ?_
      refine sy hs (za3 rfl) fun _ _ hs => ?_
      refine sy hs (za3 rfl) fun _ _ hs => ?_
      refine sy hs (zhb (lo := s.size) (hi := s.size) hee rfl U9 (.inr ⟨_, rfl, rfl⟩) (.inl ⟨rfl, rfl⟩) (Nat.le_refl _) (Nat.le_refl _)) fun _ _ hs => ?_
      refine sy hs (za3 rfl) fun _ _ hs => ?_
      refine sy hs (zec (cap := []) (Lr := LX) (Lf := .blk wb (.cells #[v] 218 (0,0)) :: .row v 5 1 (u8R B) :: L) rfl has167 rfl (permX [_, _] LX L) (ztr hg)) fun _ _ hs => ?_
      refine sy hs (za3 rfl) fun _ _ hs => ?_
      refine sy hs (zap rfl rfl) fun _ _ hs => ?_
      refine sy hs (zap rfl rfl) fun _ _ hs => ?_
      refine sy hs (zap rfl rfl) fun _ _ hs => ?_
      refine sy hs (za9 rfl) fun _ _ hs => ?_
      refine sy hs (za9 rfl) fun _ _ hs => ?_
      refine sy hs (za9 rfl) fun _ _ hs => ?_
      refine za0 ?_
      refine hK39 _ _ ?_; clear hK39
      refine zai fun K40 hK40 => ?_
      refine za2 ?_
      refine sy hs (za3 rfl) fun _ _ hs => ?_
      refine sy hs (za3 rfl) fun _ _ hs => ?_
      refine sno hs fun _ _ hs => ?_
      refine sno hs fun _ _ hs => ?_
      refine sy hs (zaz rfl rfl) fun _ _ hs => ?_
      refine sy hs (za9 rfl) fun _ _ hs => ?_
      refine za0 ?_
      refine hK40 _ _ ?_; clear hK40
      refine zai fun K41 hK41 => ?_
      refine zai fun K42 hK42 => ?_
      refine za2 ?_
      refine sy hs (za3 rfl) fun _ _ hs => ?_
      refine za0 ?_
      refine hK42 _ _ ?_; clear hK42
      refine zdj hs rfl ?_
      refine zaj ?_
      refine hK41 _ _ ?_; clear hK41
      refine za2 ?_
      refine sy hs (za3 rfl) fun _ _ hs => ?_
      refine sy hs (zdz rfl rfl (zg4 (by omega))) fun _ _ hs => ?_
      refine sy hs (za9 rfl) fun _ _ hs => ?_
      refine za0 ?_
      exact hK (s.size + 1) _ _ (by omega) ⟨_, _, v, _, _, hI.fin, hs.sub ⟨rfl, rfl, rfl, rfl, rfl, rfl, rfl, rfl, rfl, trivial⟩⟩
  · obtain rfl : i = s.size + 1 := by
      have : ¬ ((i : Nat) : Int) ≤ ((s.size : Nat) : Int) := by simpa using hil
      have := hI.2.1
      omega
    have hout := hI.out
    refine zc0 ?_
    refine hB7 _ _ ?_
    refine hK5 _ _ ?_; clear hK5
    refine zai fun K43 hK43 => ?_
    refine zai fun K44 hK44 => ?_
    refine za2 ?_
    refine sy hs (za3 rfl) fun _ _ hs => ?_
    refine sy hs (za3 rfl) fun _ _ hs => ?_
    refine sy hs (zg2 rfl U9) fun _ _ hs => ?_
    refine sy hs (zeo rfl rfl) fun _ _ hs => ?_
    refine za0 ?_
    refine hK44 _ _ ?_; clear hK44
    first | refine zho hs rfl (fun hls => ?_) (fun hls => ?_) | refine zah hs rfl (fun hls => ?_) (fun hls => ?_)
    · have hb : (u8R B).length + (s.extract last s.size).size ≤ 140737488355328 := by rw [zs1, ByteArray.size_extract]; omega
      refine zai fun K45 hK45 => ?_
      refine zls hs ([]) [] [(0, true),(1, true),(2, true),(3, true),(4, true),(5, true),(6, true),(7, false),(8, true),(9, true),(10, true),(11, true),(12, true)] mixed (by kernel_rfl) fun _ he => ?_
      refine dy 0 he rfl (za3 rfl) fun _ he => ?_
      refine dy 1 he rfl (za3 rfl) fun _ he => ?_
      refine dy 2 he rfl (za3 rfl) fun _ he => ?_
      refine dy 3 he rfl (zhb (lo := last) (hi := s.size) rfl rfl U9 (.inr ⟨_, rfl, rfl⟩) (.inl ⟨rfl, rfl⟩) hl2 (Nat.le_refl _)) fun _ he => ?_
      refine dy 4 he rfl (zsr rfl) fun _ he => ?_
      refine dy 5 he rfl (zqq rfl n219) fun _ he => ?_
      refine dy 6 he rfl (za3 rfl) fun _ he => ?_
      refine zsp (i := 7) rfl he ?_; clear he; (try clear a); intro a w hs
      refine zmh (Lr := [.blk wb (.cells #[v] 218 (0,0)), .row v 5 1 (u8R B)]) (Lf := LX ++ L) hs rfl m219 has177 rfl rfl (zvm (e := 218) hb) (.free rfl) (by decide) ?_; clear hs; (try clear a w); rintro _ _ _ a w _ ⟨rfl, rfl, v2, rfl⟩ hs
      rw [zs2, ← hout] at hs
      refine don hs fun _ he => ?_
      refine dy 8 he rfl (za3 rfl) fun _ he => ?_
      refine dy 9 he rfl (zap rfl rfl) fun _ he => ?_
      refine dy 10 he rfl (zap rfl rfl) fun _ he => ?_
      refine dy 11 he rfl (za9 rfl) fun _ he => ?_
      refine dy 12 he rfl (za9 rfl) fun _ he => ?_
      refine zso he ?_; clear he; (try clear a); intro w hs
      refine hK45 _ _ ?_; clear hK45
      refine za2 ?_
      refine sy hs (za3 rfl) fun _ _ hs => ?_
      refine sy hs (za3 rfl) fun _ _ hs => ?_
      refine sy hs (zdz rfl rfl rfl) fun _ _ hs => ?_
      refine sy hs (za9 rfl) fun _ _ hs => ?_
      refine za0 ?_
      refine hK43 _ _ ?_; clear hK43
      refine zax ?_
      refine Rt_2 hs rfl rfl rfl ?_
      exact ⟨_, _, .blk wb (.cells #[v2] 218 (0,0)) :: .row v2 5 1 (u8R (escA q false (bytesIn s))) :: LX, rfl, .refl _, hs.cw, rfl, v2, rfl⟩
    · obtain rfl : last = s.size := by
        have : ¬ ((last : Nat) : Int) ≠ ((s.size : Nat) : Int) := by simpa using hls
        omega
      have hee : s.extract s.size s.size = bs [] := by
        apply ByteArray.ext
        simp
      rw [hee, show bytesIn (bs []) = [] from rfl, List.append_nil] at hout
      refine zaj ?_
      refine hK43 _ _ ?_; clear hK43
      refine zax ?_
      refine Rt_2 hs rfl rfl rfl ?_
      exact ⟨_, f, .blk wb (.cells #[v] 218 (0,0)) :: .row v 5 1 (u8R (escA q false (bytesIn s))) :: LX, rfl, .refl _, by rw [hout]; exact hs.cw, rfl, v, rfl⟩
end
end Go.Proofs.YtpfdbeafdjnbnaaGreatDoor
