/-
  Walks and laws of this seat.
-/
import Derived.Test.YtpfdbeafdjnbnaaGreatDoorX14
import Derived.Test.YtpfdbeafdjnbnaaGreatDoorRows
namespace Go.Proofs.YtpfdbeafdjnbnaaGreatDoor
set_option linter.unusedVariables false
set_option linter.unusedSimpArgs false
set_option linter.unusedSectionVars false
open Go.RowKit Go.Sl
abbrev rcA (d s : Int) (r ov : Value) : Array Value := #[.int .u32 d, .int .i32 s, .int .u32 0, r, ov]
def TrieL (l : List ByteArray) (mf : Nat → Nat) (T : Nat) (N : List Int) (g : Nat) (LX : List Ent) : Prop := ∃ tv rows Ls, Tri l mf T (l.length / 2) rows Ls ∧ LX = .blk g (.cells (gcA tv T N) 183 (0,0)) :: .row tv 178 1 rows :: Ls
set_option maxRecDepth 20000 in
set_option maxHeartbeats 8000000 in
theorem zrr {f : Fz} {b : Nat} {ov : Value} {l : List ByteArray} {mf : Nat → Nat} {T : Nat} {N : List Int} (hT : TexOK l mf T N) (h0 : RS tStr f ov l) :
    Does Tryz.prog 35 [pq b 0] f [.blk b (.cells (rcA 0 1 .nilIface ov) 89 (0,0))] (fun _ f' L' => f' = f ∧ ∃ g LX, TrieL l mf T N g LX ∧ L' = .blk b (.cells (rcA 0 1 (.iface 159 (pq g 0)) (.slice none 0 0)) 89 (0,0)) :: LX) := by
  intro w0 L w hC
  replace hC : Cw w0 f (.blk b (.cells (rcA 0 1 .nilIface ov) 89 (0,0)) :: L) w := hC
  refine enter Tryz.func35 rfl Tryz.ntmps35 (by simp) hC fun a hs => ?_
  refine zai fun K1 hK1 => ?_
  refine za2 ?_
  refine sy hs (za3 rfl) fun _ _ hs => ?_
  refine sy hs (za3 rfl) fun _ _ hs => ?_
  refine zte (R := fun v f' L' => ∃ g LX, v = .iface 159 (pq g 0) ∧ f' = f ∧ TrieL l mf T N g LX ∧ L' = LX ++ .blk b (.cells (rcA 0 1 .nilIface ov) 89 (0,0)) :: L) hs rfl has62 rfl (fun w hw => (build_ok hT h0 (cs := rcA 0 1 .nilIface ov) rfl hw).mono fun e w' ⟨g, tv, rows, Ls, q1, q2, q3⟩ => ⟨_, f, _, q1, .refl _, q3, g, _, rfl, rfl, ⟨tv, rows, Ls, q2, rfl⟩, rfl⟩) ?_; clear hs; (try clear a w); rintro _ _ _ a w _ ⟨g, LX, rfl, rfl, hTr, rfl⟩ hs
  replace hs : St _ _ _ (.blk b (.cells (rcA 0 1 .nilIface ov) 89 (0,0)) :: (LX ++ L)) _ _ _ := ⟨hs.ev, hs.cw.perm (permX LX [_] L)⟩
  first | (refine sy hs (za5 rfl) ?_; clear hs; (try clear a w); intro a w hs) | (refine sy hs (y_nilE rfl) ?_; clear hs; (try clear a w); intro a w hs)
  first | (refine sy hs (za1 rfl (FO.of (off := 3) U89 rfl rfl ti87 (by decide))) ?_; clear hs; (try clear a w); intro a w hs) | (refine sy hs (y_faE rfl (FO.of (off := 3) U89 rfl rfl ti87 (by decide))) ?_; clear hs; (try clear a w); intro a w hs)
  refine zda (i := 0) (o := 3) (u := .iface 159 (pq g 0)) hs rfl rfl rfl ti87 rfl (by simp) rfl (.free rfl) fun _ _ hs => ?_
  refine za0 ?_
  refine hK1 _ _ ?_; clear hK1
  refine za2 ?_
  refine sy hs (za3 rfl) fun _ _ hs => ?_
  first | (refine sy hs (za5 rfl) ?_; clear hs; (try clear a w); intro a w hs) | (refine sy hs (y_nilE rfl) ?_; clear hs; (try clear a w); intro a w hs)
  first | (refine sy hs (za1 rfl (FO.of (off := 4) U89 rfl rfl ti47 (by decide))) ?_; clear hs; (try clear a w); intro a w hs) | (refine sy hs (y_faE rfl (FO.of (off := 4) U89 rfl rfl ti47 (by decide))) ?_; clear hs; (try clear a w); intro a w hs)
  refine zda (i := 0) (o := 4) (u := .slice none 0 0) hs rfl rfl rfl ti47 rfl (by simp) rfl (.free rfl) fun _ _ hs => ?_
  refine za0 ?_
  refine Rt_0 hs rfl ?_
  exact ⟨_, _, .blk b (.cells (rcA 0 1 (.iface 159 (pq g 0)) (.slice none 0 0)) 89 (0,0)) :: LX, rfl, .refl _, hs.cw, rfl, g, LX, hTr, rfl⟩
theorem once_ok {f : Fz} {b : Nat} {ov : Value} {l : List ByteArray} {mf : Nat → Nat} {T : Nat} {N : List Int} (hT : TexOK l mf T N) (h0 : RS tStr f ov l) :
    Does Tryz.prog 34 [pq b 0, .func (.func 35) #[pq b 0] #[]] f [.blk b (.cells (rcA 0 0 .nilIface ov) 89 (0,0))]
      (fun _ f' L' => f' = f ∧ ∃ g LX, TrieL l mf T N g LX ∧ L' = .blk b (.cells (rcA 1 0 (.iface 159 (pq g 0)) (.slice none 0 0)) 89 (0,0)) :: LX) := by
  refine Does.mono (Do_ok (cs := rcA 0 0 .nilIface ov) (Q := fun f' cs2 LX => f' = f ∧ ∃ g, TrieL l mf T N g LX ∧ cs2 = rcA 0 1 (.iface 159 (pq g 0)) (.slice none 0 0)) has35 rfl rfl ?_) ?_
  · refine Does.mono (zrr hT h0) fun _ f' L' ⟨h1, g, LX, h2, h3⟩ => ⟨_, LX, h3, ⟨_, rfl⟩, rfl, h1, g, h2, rfl⟩
  · rintro _ f' L' ⟨cs2, LX, rfl, h1, g, h2, rfl⟩
    exact ⟨h1, g, LX, h2, rfl⟩
end Go.Proofs.YtpfdbeafdjnbnaaGreatDoor
