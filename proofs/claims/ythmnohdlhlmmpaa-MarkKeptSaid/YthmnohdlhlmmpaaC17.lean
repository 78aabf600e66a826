/-
  Walks and laws of this seat; the base is the text Base.
-/
import Derived.Test.YthmnohdlhlmmpaaC16
import Derived.Test.YthmnohdlhlmmpaaL4k
import Derived.Test.YthmnohdlhlmmpaaL4f
import Derived.Test.YthmnohdlhlmmpaaL4g
import Derived.Test.YthmnohdlhlmmpaaL4r
import Derived.Test.YthmnohdlhlmmpaaRows
namespace Go.Proofs.Ythmnohdlhlmmpaa
open Go.RowKit Go.Sl
theorem Keep_does {f : Fz} {b : Nat} {lv wv v : Value} {lr wr : List (List Value)} {lo lo' : Nat} {held : Int} {ls ws : List Value} {xs : List api_Attr} (hx : xs.length ≤ 1000000) (hv : RS t_api_Attr f v xs)
    (hB : Book f lr wr lo lo' ls ws) (hl : lr.length ≤ 100000) (hw : wr.length ≤ 100000) (hl4 : ls.length + 1 ≤ 4000) :
    Does Try.prog 28 [.pointer (some ⟨b, 0, none⟩), v] f (BkL b lv wv lr wr lo lo' held) (fun _ f' L' => ∃ lv wv lr' wr' lo lo' held ls' ws',
      L' = BkL b lv wv lr' wr' lo lo' held ∧ Book f' lr' wr' lo lo' ls' ws' ∧ ls' <:+ ls ++ [v] ∧ lr'.length ≤ lr.length + 1 ∧ wr'.length ≤ wr.length + 1) :=
  fun _ _ _ hC => Keep_ok hx hv hB hl hw hl4 hC
/-- What is known of the lists in the book, and of the rows that are not in it yet. -/
def Ap (f0 f : Fz) (ls : List Value) : Prop := (∀ v ∈ ls, OwnV f0 f v 2 29) ∧ ls.Pairwise fun v u => ∀ b, vblk v = some b → vblk u ≠ some b
def Un (ls : List Value) (rw : List (List Value)) (j : Nat) : Prop := ∀ m r, j ≤ m → rw[m]? = some r → ∀ v ∈ ls, ∀ b, vblk v = some b → blkOf r ≠ some b
theorem Ap.le {f0 f f' : Fz} {ls : List Value} (h : Ap f0 f ls) (hf : Fz.le f f') : Ap f0 f' ls := ⟨fun v hv => (h.1 v hv).le hf, h.2⟩
theorem Ap.sub {f0 f : Fz} {ls ls' : List Value} (h : Ap f0 f ls) (hs : ls'.Sublist ls) : Ap f0 f ls' := ⟨fun v hv => h.1 v (hs.subset hv), h.2.sublist hs⟩
theorem Ap.add {f0 f : Fz} {ls : List Value} {rw : List (List Value)} {j : Nat} {v : Value} {r : List Value} (h : Ap f0 f ls) (hu : Un ls rw j) (hr : rw[j]? = some r) (hb : blkOf r = vblk v) (hO : OwnV f0 f v 2 29) : Ap f0 f (ls ++ [v]) := by
  refine ⟨fun u hu => ?_, List.pairwise_append.2 ⟨h.2, List.pairwise_singleton _ _, fun u hm t ht b h1 h2 => ?_⟩⟩
  · rcases List.mem_append.1 hu with hu | hu
    · exact h.1 u hu
    · rw [List.mem_singleton.1 hu]; exact hO
  · rw [List.mem_singleton.1 ht, ← hb] at h2
    exact hu j r (Nat.le_refl _) hr u hm b h1 h2
theorem Un.add {ls : List Value} {rw : List (List Value)} {j : Nat} {v : Value} {r : List Value} (hu : Un ls rw j) (hA : ApartR rw) (hr : rw[j]? = some r) (hb : blkOf r = vblk v) : Un (ls ++ [v]) rw (j + 1) := by
  intro m s hm hs u hu' b h1 h2
  rcases List.mem_append.1 hu' with hu' | hu'
  · exact hu m s (by omega) hs u hu' b h1 h2
  · rw [List.mem_singleton.1 hu', ← hb] at h1
    obtain ⟨lj, ej⟩ := List.getElem?_eq_some_iff.1 hr
    obtain ⟨lm, em⟩ := List.getElem?_eq_some_iff.1 hs
    have := List.pairwise_iff_getElem.1 hA j m lj lm (by omega) b
    rw [ej, em] at this
    exact this h1 h2
theorem Un.sub {ls ls' : List Value} {rw : List (List Value)} {j : Nat} (hu : Un ls rw j) (hs : ls'.Sublist ls) : Un ls' rw j := fun m r h1 h2 v hv => hu m r h1 h2 v (hs.subset hv)
theorem RW.getT {T : Ty mark_Token} {f : Fz} : ∀ {rows : List (List Value)} {xs : List mark_Token}, RW T f rows xs → ∀ {j : Nat} {x : mark_Token}, xs[j]? = some x → ∃ r, rows[j]? = some r ∧ T.R f r x
  | [], [], _, j, x, h => by simp at h
  | r0 :: rows, x0 :: xs, ⟨h1, h2⟩, 0, x, h => by cases h; exact ⟨r0, rfl, h1⟩
  | r0 :: rows, x0 :: xs, ⟨h1, h2⟩, j + 1, x, h => RW.getT h2 (j := j) (by simpa using h)
  | [], _ :: _, h, _, _, _ => h.elim
  | _ :: _, [], h, _, _, _ => h.elim
set_option maxRecDepth 20000 in
set_option maxHeartbeats 8000000 in
theorem MarkKept_ok {n : Nat} {f : Fz} {a0 : Value} {p0 l : List Int} {t : List mark_Token} {bv : Bool} (h0 : RS (tInt .i32) f a0 p0) (hf : keep_FewRunes n p0 500 = some l) (ht : mark_Tokens n l = some t) (hlen : t.length ≤ 1500) (hat : ∀ x ∈ t, x.Attrs.length ≤ 1000000)
    (hkn : law4_known n = some true) (hvl : keep_Valid n l = some bv) (hrt : bv = true → ∃ r, ref4_Tokens n l = some r ∧ law4_tokens n t r = some true) : Gives Try.prog 9 [a0] f (.bool true) := by
  intro w0 L w hC
  refine enter Try.func9 rfl Try.ntmps9 (by simp) hC fun a hs => ?_
  refine W_seq fun K1 hK1 => ?_
  refine W_region ?_
  refine sy hs (y_assign rfl) ?_; clear hs; (try clear a w); intro a w hs
  refine RL_nil ?_
  refine hK1 _ _ ?_; clear hK1
  refine W_seq fun K2 hK2 => ?_
  refine W_region ?_
  refine sy hs (y_move rfl) ?_; clear hs; (try clear a w); intro a w hs
  refine RL_callV hs rfl has18 rfl (keep_FewRunes_ok n h0 hf) ?_; clear hs; (try clear a w); rintro v0 f1 _ a w hf1 ⟨_, rfl, rfl, h1⟩ hs
  replace hs : St _ _ _ L _ _ _ := hs
  refine sy hs (y_assign rfl) ?_; clear hs; (try clear a w); intro a w hs
  refine RL_nil ?_
  refine hK2 _ _ ?_; clear hK2
  refine W_seq fun K3 hK3 => ?_
  refine W_region ?_
  refine RL_alloc hs ti48 (.free rfl) (by decide) ?_; clear hs; (try clear a w); intro b a w hs
  refine RL_nil ?_
  refine hK3 _ _ ?_; clear hK3
  replace hs := ((hs.nilRow 23 1).nilRow 23 1).front 2
  replace hs : St _ _ _ (BkL b (.slice none 0 0) (.slice none 0 0) [] [] 0 0 0 ++ L) _ _ _ := hs
  refine W_seq fun K4 hK4 => ?_
  refine W_seq fun K5 hK5 => ?_
  refine W_region ?_
  refine sy hs (y_assign rfl) ?_; clear hs; (try clear a w); intro a w hs
  refine RL_nil ?_
  refine hK5 _ _ ?_; clear hK5
  refine W_block fun Qe6 hB6 hO6 => ?_
  refine W_loop (fun (k : Nat) a w => k ≤ 2 ∧ ∃ (f2 : Fz) (lv wv : Value) (lr wr : List (List Value)) (lo lo' : Nat) (held : Int) (ls ws : List Value), Fz.le f1 f2 ∧ Book f2 lr wr lo lo' ls ws ∧ Ap f1 f2 ls ∧ (ls.length ≤ k * t.length ∧ lr.length ≤ k * t.length ∧ wr.length ≤ k * t.length) ∧
    St 47 w0 f2 (BkL b lv wv lr wr lo lo' held ++ L) [(0, v0), (3, .pointer (some ⟨b, 0, none⟩)), (4, .int .i64 (k : Int))] a w) (fun k => 2 - k) 0
    ⟨by omega, f1, _, _, [], [], 0, 0, 0, [], [], .refl _, ⟨.inl rfl, .inl rfl, rfl, rfl, rfl, fun i v u h => (by simp at h)⟩, ⟨fun v hv => (by cases hv), List.Pairwise.nil⟩, ⟨by simp, by simp, by simp⟩, hs.sub ⟨rfl, rfl, rfl, trivial⟩⟩ ?_
  clear hs; rintro k a w ⟨hk, f2, lv, wv, lr, wr, lo, lo', held, ls, ws, hf2, hB, hA, ⟨hb1, hb2, hb3⟩, hs⟩ K hK
  refine W_seq fun K7 hK7 => ?_
  refine W_seq fun K8 hK8 => ?_
  refine W_region ?_
  refine sy hs (y_move rfl) ?_; clear hs; (try clear a w); intro a w hs
  refine sy hs (y_lss rfl rfl) ?_; clear hs; (try clear a w); intro a w hs
  refine RL_nil ?_
  refine hK8 _ _ ?_; clear hK8
  first | refine W_condP hs rfl (fun hk2 => ?_) (fun hk2 => ?_) | refine W_cond hs rfl (fun hk2 => ?_) (fun hk2 => ?_)
  · have hk2' : k < 2 := by
      have : ((k : Nat) : Int) < (2 : Int) := by simpa using hk2
      omega
    refine W_skip ?_
    refine hK7 _ _ ?_; clear hK7
    refine W_seq fun K9 hK9 => ?_
    refine W_block fun Qe10 hB10 hO10 => ?_
    refine W_seq fun K11 hK11 => ?_
    refine W_region ?_
    refine sy hs (y_move rfl) ?_; clear hs; (try clear a w); intro a w hs
    refine RL_callV hs rfl has22 rfl (mark_Tokens_own n (h1.le hf2) ht) ?_; clear hs; (try clear a w); rintro tv f3 _ a w hf3 ⟨rw, rfl, hW, hR⟩ hs
    replace hs : St _ _ _ (BkL b lv wv lr wr lo lo' held ++ (.row tv 44 5 rw :: L)) _ _ _ := ⟨hs.ev, hs.cw.perm (permX [_] [_, _, _] L)⟩
    refine sy hs (y_assign rfl) ?_; clear hs; (try clear a w); intro a w hs
    refine RL_nil ?_
    refine hK11 _ _ ?_; clear hK11
    refine W_seq fun K12 hK12 => ?_
    refine W_region ?_
    refine sy hs (y_assign rfl) ?_; clear hs; (try clear a w); intro a w hs
    refine RL_nil ?_
    refine hK12 _ _ ?_; clear hK12
    refine W_block fun Qe13 hB13 hO13 => ?_
    have hrwl := hW.len
    have hU0 : Un ls rw 0 := fun m r _ hr v hv b' h2 h3 => by
      obtain ⟨x, _, hx⟩ := RW.mem hW r (List.mem_of_getElem? hr)
      have hn := (tO.blk hx h3).2
      rcases hA.1 v hv with rfl | ⟨g, _, _, _, rfl, _, _, _, q, _⟩
      · cases h2
      · cases h2; rw [hn] at q; cases q
    refine W_loop (fun (j : Nat) a w => j ≤ t.length ∧ ∃ (f3 : Fz) (rw' : List (List Value)) (lv wv : Value) (lr wr : List (List Value)) (lo lo' : Nat) (held : Int) (ls ws : List Value), Fz.le f2 f3 ∧ RW (tO f2) f3 rw t ∧ rw'.length = rw.length ∧ (∀ m, j ≤ m → rw'[m]? = rw[m]?) ∧ Book f3 lr wr lo lo' ls ws ∧ Ap f1 f3 ls ∧ Un ls rw j ∧ (ls.length ≤ k * t.length + j ∧ lr.length ≤ k * t.length + j ∧ wr.length ≤ k * t.length + j) ∧
      St 47 w0 f3 (BkL b lv wv lr wr lo lo' held ++ (.row tv 44 5 rw' :: L)) [(0, v0), (3, .pointer (some ⟨b, 0, none⟩)), (4, .int .i64 (k : Int)), (5, tv), (6, .int .i64 (j : Int))] a w) (fun j => t.length - j) 0
      ⟨by omega, f3, rw, lv, wv, lr, wr, lo, lo', held, ls, ws, hf3, hW, rfl, fun _ _ => rfl, hB.le hf3, hA.le hf3, hU0, ⟨by omega, by omega, by omega⟩, hs.sub ⟨rfl, rfl, rfl, rfl, rfl, trivial⟩⟩ ?_
    clear hs hU0 hB hA hb1 hb2 hb3 hW hf3 hrwl; clear lv wv lr wr lo lo' held ls ws f3
    rintro j a w ⟨hj, f3, rw', lv, wv, lr, wr, lo, lo', held, ls, ws, hf3, hW, hrl, hsame, hB, hA, hU, ⟨hb1, hb2, hb3⟩, hs⟩ K' hK'
    have hrwl := hW.len
    refine W_seq fun K14 hK14 => ?_
    refine W_seq fun K15 hK15 => ?_
    refine W_region ?_
    refine sy hs (y_move rfl) ?_; clear hs; (try clear a w); intro a w hs
    refine sy hs (y_move rfl) ?_; clear hs; (try clear a w); intro a w hs
    refine sy hs (y_lenR0 (Rd.st hs (.tail _ (.tail _ (.tail _ (.head _))))) rfl Try.underlying37) ?_; clear hs; (try clear a w); intro a w hs
    refine sy hs (y_lss rfl rfl) ?_; clear hs; (try clear a w); intro a w hs
    refine RL_nil ?_
    refine hK15 _ _ ?_; clear hK15
    first | refine W_condP hs rfl (fun hjt => ?_) (fun hjt => ?_) | refine W_cond hs rfl (fun hjt => ?_) (fun hjt => ?_)
    · have hjt' : j < t.length := by
        have : ((j : Nat) : Int) < ((rw'.length : Nat) : Int) := by simpa using hjt
        omega
      have hkt : k * t.length ≤ 1 * t.length := Nat.mul_le_mul_right _ (by omega)
      obtain ⟨r, hr, va, hreq, hva, hOa⟩ := RW.getT hW (List.getElem?_eq_getElem hjt')
      have hr' : rw'[j]? = some r := by rw [hsame j (Nat.le_refl _)]; exact hr
      have hbl : blkOf r = vblk va := by rw [hreq]; rfl
      have hjr : j < rw'.length := by omega
      have hax := hat _ (List.getElem_mem hjt')
      refine W_skip ?_
      refine hK14 _ _ ?_; clear hK14
      refine W_seq fun K16 hK16 => ?_
      refine W_block fun Qe17 hB17 hO17 => ?_
      refine W_seq fun K18 hK18 => ?_
      refine W_region ?_
      refine sy hs (y_move rfl) ?_; clear hs; (try clear a w); intro a w hs
      refine sy hs (y_move rfl) ?_; clear hs; (try clear a w); intro a w hs
      refine sy hs (y_indexAddr (Rd.st hs (.tail _ (.tail _ (.tail _ (.head _))))) rfl rfl rfl hjr Try.underlying37 ti44) ?_; clear hs; (try clear a w); intro a w hs
      refine sy hs (y_fieldAddrE (i := j) (j := 0) (Rd.st hs (.tail _ (.tail _ (.tail _ (.head _))))) rfl hjr (FO.of (off := 3) Try.underlying44 rfl rfl ti23 (by decide))) ?_; clear hs; (try clear a w); intro a w hs
      refine sy hs (y_loadE (i := j) (j := 3) (Rd.st hs (.tail _ (.tail _ (.tail _ (.head _))))) rfl hr' (by rw [hreq]; rfl) Try.underlying23 rfl) ?_; clear hs; (try clear a w); intro a w hs
      refine RL_call (Lr := BkL b lv wv lr wr lo lo' held) (Lf := .row tv 44 5 rw' :: L) hs rfl has28 rfl rfl (Keep_does hax hva hB (by omega) (by omega) (by omega)) (.free rfl) (by decide) ?_; clear hs; (try clear a w); rintro _ f4 _ a w hf4 ⟨lv2, wv2, lr2, wr2, lo2, lo2', held2, ls2, ws2, rfl, hB2, hsf, hl2, hl3⟩ hs
      refine RL_nil ?_
      refine hK18 _ _ ?_; clear hK18
      refine W_region ?_
      refine sy hs (y_move rfl) ?_; clear hs; (try clear a w); intro a w hs
      refine sy hs (y_move rfl) ?_; clear hs; (try clear a w); intro a w hs
      refine sy hs (y_buildS (places := [(0, 1), (1, 1), (2, 1), (3, 1), (4, 1)]) rfl Try.underlying44 ti44 (by kernel_rfl) (by decide) rfl) ?_; clear hs; (try clear a w); intro a w hs; simp only [List.set] at hs
      refine sy hs (y_indexAddr (Rd.st hs (.tail _ (.tail _ (.tail _ (.head _))))) rfl rfl rfl hjr Try.underlying37 ti44) ?_; clear hs; (try clear a w); intro a w hs
      refine RL_storeElem (i := 3) (m := j) (r' := [.int .i64 (-9), .string (bs []), .string (bs []), .slice none 0 0, .bool false]) hs rfl rfl rfl hr' ti44 (AllC.row (r := [.int .i64 (-9), .string (bs []), .string (bs []), .slice none 0 0, .bool false]) ⟨rfl, rfl, rfl, rfl, rfl, trivial⟩ rfl) (.free rfl) ?_; clear hs; (try clear a w); intro a w hs
      refine RL_nil ?_
      refine hK16 _ _ ?_; clear hK16
      replace hs : St _ _ _ (BkL b lv2 wv2 lr2 wr2 lo2 lo2' held2 ++ (.row tv 44 5 (rw'.set j [.int .i64 (-9), .string (bs []), .string (bs []), .slice none 0 0, .bool false]) :: L)) _ _ _ := hs
      have hlen2 := hsf.length_le
      rw [List.length_append, List.length_singleton] at hlen2
      refine W_region ?_
      refine sy hs (y_move rfl) ?_; clear hs; (try clear a w); intro a w hs
      refine sy hs (y_add rfl rfl (wr_i64 (by omega))) ?_; clear hs; (try clear a w); intro a w hs
      refine sy hs (y_assign rfl) ?_; clear hs; (try clear a w); intro a w hs
      refine RL_nil ?_
      refine hK' (j + 1) _ _ (by omega) ⟨by omega, f4, _, lv2, wv2, lr2, wr2, lo2, lo2', held2, ls2, ws2, hf3.trans hf4, hW.le hf4, by rw [List.length_set]; exact hrl, fun m hm => by rw [List.getElem?_set_ne (by omega)]; exact hsame m (by omega), hB2,
        ((hA.add hU hr hbl (hOa.base hf2)).le hf4).sub hsf.sublist, (hU.add hR hr hbl).sub hsf.sublist, ⟨by omega, by omega, by omega⟩, hs.sub ⟨rfl, rfl, rfl, rfl, rfl, trivial⟩⟩
    · have hjt' : ¬ j < t.length := fun h => hjt (by simp; omega)
      replace hs := hs.erase 3
      refine W_exit ?_
      refine hB13 _ _ ?_
      refine hK9 _ _ ?_; clear hK9
      refine W_region ?_
      refine sy hs (y_move rfl) ?_; clear hs; (try clear a w); intro a w hs
      refine sy hs (y_add rfl rfl (wr_i64 (by omega))) ?_; clear hs; (try clear a w); intro a w hs
      refine sy hs (y_assign rfl) ?_; clear hs; (try clear a w); intro a w hs
      refine RL_nil ?_
      exact hK (k + 1) _ _ (by omega) ⟨by omega, f3, lv, wv, lr, wr, lo, lo', held, ls, ws, hf2.trans hf3, hB, hA, ⟨by rw [Nat.succ_mul]; omega, by rw [Nat.succ_mul]; omega, by rw [Nat.succ_mul]; omega⟩, hs.sub ⟨rfl, rfl, rfl, trivial⟩⟩
  · have hk22 : k * t.length ≤ 2 * t.length := Nat.mul_le_mul_right _ (by omega)
    refine W_exit ?_
    refine hB6 _ _ ?_
    refine hK4 _ _ ?_; clear hK4
    refine W_seq fun K19 hK19 => ?_
    refine W_region ?_
    refine RL_callB (f0 := f1) hs rfl has29 rfl (fun w hw => Apart_ok hB (by omega) hf2 hA.1 hA.2 hw) ?_; clear hs; (try clear a w); intro a w hs
    refine sy hs (y_move rfl) ?_; clear hs; (try clear a w); intro a w hs
    refine syg hs (y_move rfl) ?_; clear hs; (try clear a w); intro a w hs
    refine syg hs (y_call rfl has19 rfl (keep_Valid_ok n h1 hvl)) ?_; clear hs; (try clear a w); intro a w hs
    by_cases hb : bv = true
    · subst hb
      obtain ⟨r, hr1, hr2⟩ := hrt rfl
      refine syg hs (y_not rfl) ?_; clear hs; (try clear a w); intro a w hs
      refine syg hs (y_move rfl) ?_; clear hs; (try clear a w); intro a w hs
      refine syg hs (y_move rfl) ?_; clear hs; (try clear a w); intro a w hs
      refine RL_callVg hs rfl has22 rfl (mark_Tokens_ok n h1 ht) ?_; clear hs; (try clear a w); rintro t1 f5 _ a w hf5 ⟨_, rfl, rfl, ht1⟩ hs
      refine syg hs (y_move rfl) ?_; clear hs; (try clear a w); intro a w hs
      refine RL_callVg hs rfl has23 rfl (ref4_Tokens_ok n (h1.le hf5) hr1) ?_; clear hs; (try clear a w); rintro t2 f6 _ a w hf6 ⟨_, rfl, rfl, ht2⟩ hs
      refine syg hs (y_call rfl has21 rfl (law4_tokens_ok n (ht1.le hf6) ht2 hr2)) ?_; clear hs; (try clear a w); intro a w hs
      refine syg hs (y_pick rfl rfl) ?_; clear hs; (try clear a w); intro a w hs
      refine sy hs (y_pick rfl rfl) ?_; clear hs; (try clear a w); intro a w hs
      refine sy hs (y_move rfl) ?_; clear hs; (try clear a w); intro a w hs
      refine syg hs (y_call rfl has17 rfl (law4_known_ok n hkn)) ?_; clear hs; (try clear a w); intro a w hs
      refine sy hs (y_pick rfl rfl) ?_; clear hs; (try clear a w); intro a w hs
      refine sy hs (y_assign rfl) ?_; clear hs; (try clear a w); intro a w hs
      refine RL_nil ?_
      refine hK19 _ _ ?_; clear hK19
      refine W_ret ?_
      refine Rt_1 hs rfl rfl ?_
      exact ⟨rfl, (hs.weak (hf1.trans (hf5.trans hf6))).cw⟩
    · obtain rfl : bv = false := by simpa using hb
      refine syg hs (y_not rfl) ?_; clear hs; (try clear a w); intro a w hs
      refine syg hs (y_move rfl) ?_; clear hs; (try clear a w); intro a w hs
      refine sno hs ?_; clear hs; (try clear a w); intro a w hs
      refine sno hs ?_; clear hs; (try clear a w); intro a w hs
      refine sno hs ?_; clear hs; (try clear a w); intro a w hs
      refine sno hs ?_; clear hs; (try clear a w); intro a w hs
      refine sno hs ?_; clear hs; (try clear a w); intro a w hs
      refine syg hs (y_pick rfl rfl) ?_; clear hs; (try clear a w); intro a w hs
      refine sy hs (y_pick rfl rfl) ?_; clear hs; (try clear a w); intro a w hs
      refine sy hs (y_move rfl) ?_; clear hs; (try clear a w); intro a w hs
      refine syg hs (y_call rfl has17 rfl (law4_known_ok n hkn)) ?_; clear hs; (try clear a w); intro a w hs
      refine sy hs (y_pick rfl rfl) ?_; clear hs; (try clear a w); intro a w hs
      refine sy hs (y_assign rfl) ?_; clear hs; (try clear a w); intro a w hs
      refine RL_nil ?_
      refine hK19 _ _ ?_; clear hK19
      refine W_ret ?_
      refine Rt_1 hs rfl rfl ?_
      exact ⟨rfl, (hs.weak hf1).cw⟩
