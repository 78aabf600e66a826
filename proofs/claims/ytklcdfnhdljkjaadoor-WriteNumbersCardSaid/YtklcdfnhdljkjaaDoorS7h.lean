/-
  Walks and laws of this seat; the base is the text Base.
-/
import Derived.Test.YtklcdfnhdljkjaaDoorS7g
import Derived.Test.YtklcdfnhdljkjaaDoorRows
namespace Go.Proofs.YtklcdfnhdljkjaaDoor
open Go.RowKit Go.Sl
/-- A Replacer's block. -/
abbrev rcA (d s : Int) (r ov : Value) : Array Value := #[.int .u32 d, .int .i32 s, .int .u32 0, r, ov]
def TrieL (l : List ByteArray) (mf : Nat → Nat) (T : Nat) (N : List Int) (g : Nat) (LX : List Ent) : Prop := ∃ tv rows Ls, Tri l mf T (l.length / 2) rows Ls ∧ LX = .blk g (.cells (gcA tv T N) 127 (0, 0)) :: .row tv 122 1 rows :: Ls
set_option maxRecDepth 20000 in
set_option maxHeartbeats 8000000 in
theorem buildOnce_ok {f : Fz} {b : Nat} {ov : Value} {l : List ByteArray} {mf : Nat → Nat} {T : Nat} {N : List Int} (hT : TexOK l mf T N) (h0 : RS tStr f ov l) :
    Does Tryd.prog 35 [.pointer (some ⟨b, 0, none⟩)] f [.blk b (.cells (rcA 0 1 .nilIface ov) 83 (0, 0))] (fun _ f' L' => f' = f ∧ ∃ g LX, TrieL l mf T N g LX ∧ L' = .blk b (.cells (rcA 0 1 (.iface 105 (.pointer (some ⟨g, 0, none⟩))) (.slice none 0 0)) 83 (0, 0)) :: LX) := by
  intro w0 L w hC
  replace hC : Cw w0 f (.blk b (.cells (rcA 0 1 .nilIface ov) 83 (0, 0)) :: L) w := hC
  refine enter Tryd.func35 rfl Tryd.ntmps35 (by simp) hC fun a hs => ?_
  refine W_seq fun K1 hK1 => ?_
  refine W_region ?_
  refine sy hs (y_move rfl) ?_; clear hs; (try clear a w); intro a w hs
  refine sy hs (y_move rfl) ?_; clear hs; (try clear a w); intro a w hs
  refine RL_callW (R := fun v f' L' => ∃ g LX, v = .iface 105 (.pointer (some ⟨g, 0, none⟩)) ∧ f' = f ∧ TrieL l mf T N g LX ∧ L' = LX ++ .blk b (.cells (rcA 0 1 .nilIface ov) 83 (0, 0)) :: L) hs rfl has42 rfl (fun w hw => (build_ok hT h0 (cs := rcA 0 1 .nilIface ov) rfl hw).mono fun e w' ⟨g, tv, rows, Ls, q1, q2, q3⟩ => ⟨_, f, _, q1, .refl _, q3, g, _, rfl, rfl, ⟨tv, rows, Ls, q2, rfl⟩, rfl⟩) ?_; clear hs; (try clear a w); rintro _ _ _ a w _ ⟨g, LX, rfl, rfl, hTr, rfl⟩ hs
  replace hs : St _ _ _ (.blk b (.cells (rcA 0 1 .nilIface ov) 83 (0, 0)) :: (LX ++ L)) _ _ _ := ⟨hs.ev, hs.cw.perm (permX LX [_] L)⟩
  first | (refine sy hs (y_nilCheck rfl) ?_; clear hs; (try clear a w); intro a w hs) | (refine sy hs (y_nilE rfl) ?_; clear hs; (try clear a w); intro a w hs)
  first | (refine sy hs (y_fieldAddr rfl (FO.of (off := 3) Tryd.underlying83 rfl rfl ti81 (by decide))) ?_; clear hs; (try clear a w); intro a w hs) | (refine sy hs (y_faE rfl (FO.of (off := 3) Tryd.underlying83 rfl rfl ti81 (by decide))) ?_; clear hs; (try clear a w); intro a w hs)
  refine RL_storeBlk (i := 0) (o := 3) (u := .iface 105 (.pointer (some ⟨g, 0, none⟩))) hs rfl rfl rfl ti81 rfl (by simp) rfl (.free rfl) ?_; clear hs; (try clear a w); intro a w hs
  replace hs : St _ _ _ (.blk b (.cells (rcA 0 1 (.iface 105 (.pointer (some ⟨g, 0, none⟩))) ov) 83 (0, 0)) :: (LX ++ L)) _ _ _ := hs
  refine RL_nil ?_
  refine hK1 _ _ ?_; clear hK1
  refine W_region ?_
  refine sy hs (y_move rfl) ?_; clear hs; (try clear a w); intro a w hs
  first | (refine sy hs (y_nilCheck rfl) ?_; clear hs; (try clear a w); intro a w hs) | (refine sy hs (y_nilE rfl) ?_; clear hs; (try clear a w); intro a w hs)
  first | (refine sy hs (y_fieldAddr rfl (FO.of (off := 4) Tryd.underlying83 rfl rfl ti47 (by decide))) ?_; clear hs; (try clear a w); intro a w hs) | (refine sy hs (y_faE rfl (FO.of (off := 4) Tryd.underlying83 rfl rfl ti47 (by decide))) ?_; clear hs; (try clear a w); intro a w hs)
  refine RL_storeBlk (i := 0) (o := 4) (u := .slice none 0 0) hs rfl rfl rfl ti47 rfl (by simp) rfl (.free rfl) ?_; clear hs; (try clear a w); intro a w hs
  refine RL_nil ?_
  refine Rt_0 hs rfl ?_
  exact ⟨_, _, .blk b (.cells (rcA 0 1 (.iface 105 (.pointer (some ⟨g, 0, none⟩))) (.slice none 0 0)) 83 (0, 0)) :: LX, rfl, .refl _, hs.cw, rfl, g, LX, hTr, rfl⟩
theorem once_ok {f : Fz} {b : Nat} {ov : Value} {l : List ByteArray} {mf : Nat → Nat} {T : Nat} {N : List Int} (hT : TexOK l mf T N) (h0 : RS tStr f ov l) :
    Does Tryd.prog 34 [.pointer (some ⟨b, 0, none⟩), .func (.func 35) #[.pointer (some ⟨b, 0, none⟩)] #[]] f [.blk b (.cells (rcA 0 0 .nilIface ov) 83 (0, 0))]
      (fun _ f' L' => f' = f ∧ ∃ g LX, TrieL l mf T N g LX ∧ L' = .blk b (.cells (rcA 1 0 (.iface 105 (.pointer (some ⟨g, 0, none⟩))) (.slice none 0 0)) 83 (0, 0)) :: LX) := by
  refine Does.mono (Do_ok (cs := rcA 0 0 .nilIface ov) (Q := fun f' cs2 LX => f' = f ∧ ∃ g, TrieL l mf T N g LX ∧ cs2 = rcA 0 1 (.iface 105 (.pointer (some ⟨g, 0, none⟩))) (.slice none 0 0)) has35 rfl rfl ?_) ?_
  · refine Does.mono (buildOnce_ok hT h0) fun _ f' L' ⟨h1, g, LX, h2, h3⟩ => ⟨_, LX, h3, ⟨_, rfl⟩, rfl, h1, g, h2, rfl⟩
  · rintro _ f' L' ⟨cs2, LX, rfl, h1, g, h2, rfl⟩
    exact ⟨h1, g, LX, h2, rfl⟩
end Go.Proofs.YtklcdfnhdljkjaaDoor
