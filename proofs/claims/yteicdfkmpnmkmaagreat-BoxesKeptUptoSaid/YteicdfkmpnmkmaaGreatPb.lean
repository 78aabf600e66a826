/-
  Walks and laws of this seat.
-/
import Derived.Test.YteicdfkmpnmkmaaGreatPB
import Derived.Test.YteicdfkmpnmkmaaGreatK1
namespace Go.V
set_option linter.unusedVariables false
set_option linter.unusedSimpArgs false
set_option linter.unusedSectionVars false
set_option maxRecDepth 100000
open Go.RowKit Go.Sl
mutual
def ndT : BoxT → List Int
  | .mk x ks => (if 0 ≤ x.2.1 then [x.2.1] else []) ++ ndL ks
def ndL : List BoxT → List Int
  | [] => []
  | b :: r => ndT b ++ ndL r
end
mutual
/-- A box of no node has kids. -/
def GT : BoxT → Prop
  | .mk x ks => (0 ≤ x.2.1 ∨ ks ≠ []) ∧ GL ks
def GL : List BoxT → Prop
  | [] => True
  | b :: r => GT b ∧ GL r
end
mutual
def szT : BoxT → Nat
  | .mk _ ks => 1 + szL ks
def szL : List BoxT → Nat
  | [] => 0
  | b :: r => szT b + szL r
end
theorem zsu {x} {ks : List BoxT} : ndT (.mk x ks) = (if 0 ≤ x.2.1 then [x.2.1] else []) ++ ndL ks := by rw [ndT]
theorem zjm : ndL [] = [] := by rw [ndL]
theorem zlz {b : BoxT} {r : List BoxT} : ndL (b :: r) = ndT b ++ ndL r := by rw [ndL]
theorem yet {x} {ks : List BoxT} : GT (.mk x ks) ↔ (0 ≤ x.2.1 ∨ ks ≠ []) ∧ GL ks := by rw [GT]
theorem zhx : ∀ {l : List BoxT}, GL l ↔ ∀ b ∈ l, GT b
  | [] => by simp [GL]
  | b :: r => by rw [GL, zhx]; simp
theorem zs2 {x} {ks : List BoxT} : szT (.mk x ks) = 1 + szL ks := by rw [szT]
theorem zm4 : szL [] = 0 := by rw [szL]
theorem zjr {b : BoxT} {r : List BoxT} : szL (b :: r) = szT b + szL r := by rw [szL]
theorem zyy {l : List BoxT} : ∀ {k : List BoxT}, ndL (k ++ l) = ndL k ++ ndL l
  | [] => by simp [zjm]
  | b :: k => by rw [List.cons_append, zlz, zlz, zyy, List.append_assoc]
theorem zte {l : List BoxT} : ∀ {k : List BoxT}, szL (k ++ l) = szL k + szL l
  | [] => by simp [zm4]
  | b :: k => by rw [List.cons_append, zjr, zjr, zte]; omega
theorem ybz {b : BoxT} : ndL [b] = ndT b := by rw [zlz, zjm, List.append_nil]
theorem zy1 {b : BoxT} : szL [b] = szT b := by rw [zjr, zm4]; omega
theorem yhw {l k : List BoxT} : GL (k ++ l) ↔ GL k ∧ GL l := by
  rw [zhx, zhx, zhx]
  simp only [List.mem_append]
  exact ⟨fun h => ⟨fun b hb => h b (.inl hb), fun b hb => h b (.inr hb)⟩, fun h b hb => hb.elim (h.1 b) (h.2 b)⟩
theorem yf6 {b : BoxT} : 1 ≤ szT b := by cases b; rw [zs2]; omega
theorem yf7 : ∀ {l : List BoxT}, l.length ≤ szL l
  | [] => by simp
  | b :: l => by have := yf6 (b := b); have := yf7 (l := l); rw [zjr]; simp; omega
section
variable {p : BoxT → Bool} {plain : Bool} {an : List BoxT → BoxT}
theorem ygr (hA : ∀ run,(ndT (an run)).Sublist (ndL run)) {out run : List BoxT} : (ndL (endP plain an out run)).Sublist (ndL out ++ ndL run) := by
  unfold endP
  split
  · exact List.sublist_append_left _ _
  · rw [zyy, ybz]
    exact List.Sublist.append (List.Sublist.refl _) (hA run)
theorem zrz (hA : ∀ run,(ndT (an run)).Sublist (ndL run)) : ∀ {l out run : List BoxT}, (ndL (wrapP p plain an l out run)).Sublist (ndL out ++ (ndL run ++ ndL l))
  | [], out, run => by
    rw [wrapP, zjm, List.append_nil]
    exact ygr hA
  | x :: xs, out, run => by
    rw [wrapP]
    split
    · refine (zrz hA).trans ?_
      rw [zyy, ybz, zlz]
      simp
    · refine (zrz hA).trans ?_
      rw [zyy, ybz, zlz, zjm, List.nil_append, ← List.append_assoc, ← List.append_assoc]
      exact List.Sublist.append (List.Sublist.append (ygr hA) (List.Sublist.refl _)) (List.Sublist.refl _) |>.trans (by simp)
theorem zkh {run : List BoxT} (h : run.all (blkB plain) = false) : run ≠ [] := fun e => by subst e; cases h
theorem ztb (hA : ∀ run, GL run → run.all (blkB plain) = false → GT (an run)) : ∀ {l out run : List BoxT}, GL l → GL out → GL run → GL (wrapP p plain an l out run) := by
  have hE : ∀ {out run : List BoxT}, GL out → GL run → GL (endP plain an out run) := fun {out run} h1 h2 => by
    unfold endP
    split
    · exact h1
    · rename_i h
      exact yhw.2 ⟨h1, zhx.2 fun b hb => by rw [List.mem_singleton.1 hb]; exact hA run h2 (by simpa using h)⟩
  intro l
  induction l with
  | nil => intro out run _ h1 h2; rw [wrapP]; exact hE h1 h2
  | cons x xs ih =>
    intro out run h h1 h2
    have hx := zhx.1 h x (.head _)
    have hxs : GL xs := zhx.2 fun b hb => zhx.1 h b (.tail _ hb)
    have h1x : GL [x] := zhx.2 fun b hb => by rw [List.mem_singleton.1 hb]; exact hx
    rw [wrapP]
    split
    · exact ih hxs h1 (yhw.2 ⟨h2, h1x⟩)
    · exact ih hxs (yhw.2 ⟨hE h1 h2, h1x⟩) (zhx.2 (by simp))
theorem zy0 (c : Nat) (hA : ∀ run, szT (an run) ≤ szL run + 1 + c * run.length) : ∀ {l out run : List BoxT}, szL (wrapP p plain an l out run) ≤ szL out + szL run + szL l + (c + 1) * (run.length + l.length) := by
  have hE : ∀ {out run : List BoxT}, szL (endP plain an out run) ≤ szL out + szL run + (c + 1) * run.length := fun {out run} => by
    unfold endP
    split
    · omega
    · rename_i h
      have hne := zkh (plain := plain) (run := run) (by simpa using h)
      have := List.length_pos_iff.2 hne
      have := hA run
      rw [zte, zy1, Nat.succ_mul]
      omega
  intro l
  induction l with
  | nil => intro out run; rw [wrapP, zm4]; exact hE
  | cons x xs ih =>
    intro out run
    rw [wrapP]
    split
    · have := ih (out := out) (run := run ++ [x])
      rw [zte, zy1] at this
      rw [zjr]
      simp only [List.length_append, List.length_cons, List.length_nil] at this ⊢
      rw [show run.length + (xs.length + 1) = run.length + (0 + 1) + xs.length by omega]
      omega
    · have := ih (out := endP plain an out run ++ [x]) (run := [])
      have h2 := hE (out := out) (run := run)
      rw [zte, zy1, zm4] at this
      rw [zjr]
      simp only [List.length_cons, List.length_nil] at this ⊢
      have e : (c + 1) * (run.length + (xs.length + 1)) = (c + 1) * run.length + (c + 1) * (0 + xs.length) + (c + 1) := by
        rw [Nat.mul_add, Nat.mul_add, Nat.zero_add, Nat.mul_one, Nat.add_assoc]
      omega
theorem ycl : ∀ {l out run : List BoxT}, (out ≠ [] ∨ (∃ x ∈ run, blkB plain x = false) ∨ ∃ x ∈ l, blkB plain x = false ∨ p x = false) → wrapP p plain an l out run ≠ [] := by
  have hE : ∀ {out run : List BoxT}, (out ≠ [] ∨ ∃ x ∈ run, blkB plain x = false) → endP plain an out run ≠ [] := fun {out run} h => by
    unfold endP
    split
    · rename_i ha
      rcases h with h | ⟨x, hx, h⟩
      · exact h
      · have := List.all_eq_true.1 ha x hx
        rw [h] at this; cases this
    · simp
  intro l
  induction l with
  | nil =>
    intro out run h
    rw [wrapP]
    exact hE (h.imp id fun h => h.resolve_right (by simp))
  | cons x xs ih =>
    intro out run h
    rw [wrapP]
    split
    · rename_i hp
      refine ih ?_
      rcases h with h | ⟨y, hy, h⟩ | ⟨y, hy, h⟩
      · exact .inl h
      · exact .inr (.inl ⟨y, List.mem_append_left _ hy, h⟩)
      · rcases List.mem_cons.1 hy with rfl | hy
        · rcases h with h | h
          · exact .inr (.inl ⟨y, by simp, h⟩)
          · rw [hp] at h; cases h
        · exact .inr (.inr ⟨y, hy, h⟩)
    · exact ih (.inl (by simp))
end
section
variable {pI : BoxT → Bool} (hI : ∀ b, isOut b = true → pI b = false) {s : StyT}
theorem yho {run : List BoxT} : (ndT (an1 s run)).Sublist (ndL run) := by unfold an1; rw [zsu]; simp
theorem yhn {run : List BoxT} : szT (an1 s run) ≤ szL run + 1 + 0 * run.length := by unfold an1; rw [zs2]; omega
theorem an1_G {run : List BoxT} (h : GL run) (hne : run ≠ []) : GT (an1 s run) := by unfold an1; exact yet.2 ⟨.inr hne, h⟩
theorem an5_nd {run : List BoxT} : (ndT (an5 pI s run)).Sublist (ndL run) := by
  unfold an5
  rw [zsu, if_neg (show ¬ (0 : Int) ≤ -1 by decide), List.nil_append]
  split
  · have := zrz (p := pI) (plain := true) (an := an1 (zc2 (firstP s) 6)) (fun _ => yho) (l := run) (out := []) (run := [])
    simpa [zjm] using this
  · simp
theorem an5_sz {run : List BoxT} : szT (an5 pI s run) ≤ szL run + 1 + 1 * run.length := by
  unfold an5
  rw [zs2]
  split
  · have := zy0 (p := pI) (plain := true) (an := an1 (zc2 (firstP s) 6)) 0 (fun _ => yhn) (l := run) (out := []) (run := [])
    rw [zm4] at this
    simp only [List.length_nil] at this
    omega
  · omega
include hI in
theorem an5_G {run : List BoxT} (h : GL run) (hne : run ≠ []) : GT (an5 pI s run) := by
  unfold an5
  refine yet.2 ⟨.inr ?_, ?_⟩
  · split
    · rename_i ho
      obtain ⟨x, hx, hxo⟩ := List.any_eq_true.1 ho
      exact ycl (.inr (.inr ⟨x, hx, .inr (hI x hxo)⟩))
    · exact hne
  · split
    · exact ztb (fun run h1 h2 => an1_G h1 (zkh h2)) h (zhx.2 (by simp)) (zhx.2 (by simp))
    · exact h
theorem an4_nd {run : List BoxT} : (ndT (an4 pI s run)).Sublist (ndL run) := by
  unfold an4
  rw [zsu, if_neg (show ¬ (0 : Int) ≤ -1 by decide), List.nil_append]
  have := zrz (p := fun b => decide (b.x.1 ≠ 5)) (plain := false) (an := an5 pI (zc2 (firstP s) 5)) (fun _ => an5_nd) (l := run) (out := []) (run := [])
  simpa [zjm] using this
theorem an4_sz {run : List BoxT} : szT (an4 pI s run) ≤ szL run + 1 + 2 * run.length := by
  unfold an4
  rw [zs2]
  have := zy0 (p := fun b => decide (b.x.1 ≠ 5)) (plain := false) (an := an5 pI (zc2 (firstP s) 5)) 1 (fun _ => an5_sz) (l := run) (out := []) (run := [])
  rw [zm4] at this
  simp only [List.length_nil] at this
  omega
include hI in
theorem an4_G {run : List BoxT} (h : GL run) (hb : run.all (blkB false) = false) : GT (an4 pI s run) := by
  unfold an4
  refine yet.2 ⟨.inr ?_, ztb (fun run h1 h2 => an5_G hI h1 (zkh h2)) h (zhx.2 (by simp)) (zhx.2 (by simp))⟩
  obtain ⟨x, hx, hxb⟩ := List.all_eq_false.1 hb
  exact ycl (.inr (.inr ⟨x, hx, .inl (by simpa using hxb)⟩))
theorem fitL_nd {k : Int} {l : List BoxT} : (ndL (fitL pI k s l)).Sublist (ndL l) := by
  have w : ∀ {p : BoxT → Bool} {plain : Bool} {an : List BoxT → BoxT}, (∀ run,(ndT (an run)).Sublist (ndL run)) → (ndL (wrapP p plain an l [] [])).Sublist (ndL l) := fun {p plain an} h => by
    have := zrz (p := p) (plain := plain) h (l := l) (out := []) (run := [])
    simpa [zjm] using this
  unfold fitL
  repeat' split
  · exact w fun _ => an4_nd
  · exact w fun _ => an5_nd
  · exact w fun _ => yho
  · exact w fun _ => yho
  · exact List.Sublist.refl _
theorem fitL_sz {k : Int} {l : List BoxT} : szL (fitL pI k s l) ≤ szL l + 3 * l.length := by
  have w : ∀ {p : BoxT → Bool} {plain : Bool} {an : List BoxT → BoxT} (c : Nat), c ≤ 2 → (∀ run, szT (an run) ≤ szL run + 1 + c * run.length) → szL (wrapP p plain an l [] []) ≤ szL l + 3 * l.length := fun {p plain an} c hc h => by
    have := zy0 (p := p) (plain := plain) c h (l := l) (out := []) (run := [])
    rw [zm4] at this
    simp only [List.length_nil, Nat.zero_add] at this
    have h3 : (c + 1) * l.length ≤ 3 * l.length := Nat.mul_le_mul_right _ (by omega)
    exact Nat.le_trans (by assumption) (by omega)
  unfold fitL
  repeat' split
  · exact w 2 (by decide) fun _ => an4_sz
  · exact w 1 (by decide) fun _ => an5_sz
  · exact w 0 (by decide) fun _ => yhn
  · exact w 0 (by decide) fun _ => yhn
  · omega
include hI in
theorem fitL_G {k : Int} {l : List BoxT} (h : GL l) : GL (fitL pI k s l) := by
  have n : GL [] := zhx.2 (by simp)
  unfold fitL
  repeat' split
  · exact ztb (fun run h1 h2 => an4_G hI h1 h2) h n n
  · exact ztb (fun run h1 h2 => an5_G hI h1 (zkh h2)) h n n
  · exact ztb (fun run h1 h2 => an1_G h1 (zkh h2)) h n n
  · exact ztb (fun run h1 h2 => an1_G h1 (zkh h2)) h n n
  · exact h
end
end Go.V
namespace Go.V
set_option linter.unusedVariables false
set_option linter.unusedSimpArgs false
set_option linter.unusedSectionVars false
set_option maxRecDepth 100000
open Go.RowKit Go.Sl
theorem UpR.up {ns : List NodT} {y c : Int} (h : UpR ns y c) {r : NodT} (h0 : 0 < c) (hr : ns[c.toNat]? = some r) : UpR ns y r.2.2.2.2.1 := by
  induction h with
  | one g0 g => exact .more g0 g (.one h0 hr)
  | more g0 g _ ih => exact .more g0 g (ih h0 hr)
theorem UpR.kid {ns : List NodT} {c n : Int} (h : KidOf ns c n) : UpR ns c n := by
  obtain ⟨h0, r, hr, rfl⟩ := h
  exact .one h0 hr
theorem UpR.kid2 {ns : List NodT} {y c n : Int} (h : UpR ns y c) (hk : KidOf ns c n) : UpR ns y n := by
  obtain ⟨h0, r, hr, rfl⟩ := hk
  exact h.up h0 hr
theorem ndL_fm {f : Nat → Option BoxT} {c : Nat} {ks : List Nat} : ndL ((c :: ks).filterMap f) = ((f c).elim [] ndT) ++ ndL (ks.filterMap f) := by
  rw [List.filterMap_cons]
  cases f c with
  | none => rfl
  | some b => rw [zlz]; rfl
theorem szL_fm {f : Nat → Option BoxT} {c : Nat} {ks : List Nat} : szL ((c :: ks).filterMap f) + 3 * ((c :: ks).filterMap f).length = ((f c).elim 0 fun b => szT b + 3) + (szL (ks.filterMap f) + 3 * (ks.filterMap f).length) := by
  rw [List.filterMap_cons]
  cases f c with
  | none => simp
  | some b => simp only [zjr, List.length_cons, Option.elim]; omega
structure In (b : BoxT) (lo e : Int) : Prop where
  rng : ∀ x ∈ ndT b, lo ≤ x ∧ x < e
  srt : (ndT b).Pairwise (· < ·)
  sz : (szT b : Int) + 3 ≤ 4 * (e - lo)
  gd : GT b
theorem yg7 {t : TreT} (ht : TrOK t) (hk : TrK t) {n : Int} {f : Nat → Option BoxT} {e : Int} (he : ∀ y, UpR t.1 y n → y < e) (hf : ∀ (c : Nat) (b : BoxT) (e : Int), KidOf t.1 (c : Nat) n → (∀ y, UpR t.1 y (c : Nat) → y < e) → (c : Int) < e → f c = some b → In b c e) :
    ∀ (m lo : Nat), t.1.length - lo ≤ m → (lo : Int) ≤ e → (∀ x ∈ ndL ((kidsN t.1 n lo).filterMap f),(lo : Int) ≤ x ∧ x < e) ∧ (ndL ((kidsN t.1 n lo).filterMap f)).Pairwise (· < ·) ∧ ((szL ((kidsN t.1 n lo).filterMap f) + 3 * ((kidsN t.1 n lo).filterMap f).length : Nat) : Int) ≤ 4 * (e - lo) ∧ GL ((kidsN t.1 n lo).filterMap f) := by
  intro m
  have nil : ∀ lo : Nat,(lo : Int) ≤ e → kidsN t.1 n lo = [] → (∀ x ∈ ndL ((kidsN t.1 n lo).filterMap f),(lo : Int) ≤ x ∧ x < e) ∧ (ndL ((kidsN t.1 n lo).filterMap f)).Pairwise (· < ·) ∧ ((szL ((kidsN t.1 n lo).filterMap f) + 3 * ((kidsN t.1 n lo).filterMap f).length : Nat) : Int) ≤ 4 * (e - lo) ∧ GL ((kidsN t.1 n lo).filterMap f) := fun lo hle h => by
    rw [h]
    refine ⟨by simp [zjm], by simp [zjm], by simp [zm4]; omega, zhx.2 (by simp)⟩
  induction m with
  | zero =>
    intro lo h1 h2
    refine nil lo h2 (zsw fun c hc hkc => ?_)
    obtain ⟨_, r, hr, _⟩ := hkc
    have := (List.getElem?_eq_some_iff.1 hr).1
    rw [Int.toNat_natCast] at this
    omega
  | succ m ih =>
    intro lo h1 h2
    cases hl : kidsN t.1 n lo with
    | nil => have := nil lo h2 hl; rw [hl] at this; exact this
    | cons x ks =>
      have hx : x ∈ kidsN t.1 n lo := by rw [hl]; exact .head _
      obtain ⟨hlx, hkx⟩ := zla.1 hx
      have hks : ks = kidsN t.1 n (x + 1) := by
        have hmin : ∀ c, lo ≤ c → c < x → ¬ KidOf t.1 (c : Nat) n := fun c hc hcx hkc => by
          have hm : c ∈ kidsN t.1 n lo := zla.2 ⟨hc, hkc⟩
          have hs : (kidsN t.1 n lo).Pairwise (· < ·) := yat
          rw [hl] at hm hs
          rcases List.mem_cons.1 hm with h | h
          · omega
          · have := (List.pairwise_cons.1 hs).1 c h; omega
        have := zkf hlx hkx hmin
        rw [hl] at this
        exact (List.cons.inj this).2
      obtain ⟨hx0, r, hr, hrp⟩ := id hkx
      rw [Int.toNat_natCast] at hr
      have hxl := (List.getElem?_eq_some_iff.1 hr).1
      have hxe : (x : Int) < e := he _ (UpR.kid hkx)
      rw [ndL_fm]
      -- where the next kid stands
      obtain ⟨y, hye, hxy, hks2, hup⟩ : ∃ y : Int, y ≤ e ∧ (x : Int) < y ∧ (∃ yn : Nat,(yn : Int) = y ∧ x < yn ∧ ks = kidsN t.1 n yn ∨ ks = [] ∧ y = e) ∧ ∀ z, UpR t.1 z (x : Nat) → z < y := by
        rcases hk.next hr hkx with ⟨hn, h⟩ | ⟨yn, hn, h3, h4, h5, h6⟩
        · exact ⟨e, Int.le_refl _, hxe, ⟨0, .inr ⟨by rw [hks, h], rfl⟩⟩, fun z hz => he z (hz.kid2 hkx)⟩
        · refine ⟨yn, by have := he _ (UpR.kid h5); omega, by omega, ⟨yn, .inl ⟨rfl, h3, ?_⟩⟩, fun z hz => ?_⟩
          · rw [hks, h6, zkf (Nat.le_refl _) h5 fun c h1 h2 => by omega]
          · rcases ht.doc z x hz r (by simpa using hr) with h | h
            · omega
            · omega
      have hrest : (∀ z ∈ ndL (ks.filterMap f), y ≤ z ∧ z < e) ∧ (ndL (ks.filterMap f)).Pairwise (· < ·) ∧ ((szL (ks.filterMap f) + 3 * (ks.filterMap f).length : Nat) : Int) ≤ 4 * (e - y) ∧ GL (ks.filterMap f) := by
        obtain ⟨yn, ⟨h3, h4, h5⟩ | ⟨h3, h4⟩⟩ := hks2
        · subst h3
          rw [h5]
          exact ih yn (by omega) hye
        · rw [h3]
          exact ⟨by simp [zjm], by simp [zjm], by simp [zm4]; omega, zhx.2 (by simp)⟩
      obtain ⟨g1, g2, g3, g4⟩ := hrest
      rw [szL_fm]
      cases hfx : f x with
      | none =>
        rw [List.filterMap_cons, hfx]
        refine ⟨fun z hz => ?_, by simpa using g2, ?_, g4⟩
        · have := g1 z (by simpa using hz); omega
        · simp only [Option.elim, Nat.zero_add]; omega
      | some b =>
        have hI := hf x b y hkx hup hxy hfx
        rw [List.filterMap_cons, hfx]
        refine ⟨fun z hz => ?_, ?_, ?_, zhx.2 fun c hc => ?_⟩
        · rcases List.mem_append.1 hz with hz | hz
          · have := hI.rng z hz; omega
          · have := g1 z hz; omega
        · refine List.pairwise_append.2 ⟨hI.srt, g2, fun u hu v hv => ?_⟩
          have := hI.rng u hu
          have := g1 v hv
          omega
        · have := hI.sz
          simp only [Option.elim]
          omega
        · rcases List.mem_cons.1 hc with rfl | hc
          · exact hI.gd
          · exact zhx.1 g4 c hc
theorem zph {t : TreT} (ht : TrOK t) (hk : TrK t) {ss : List StyT} {pI : BoxT → Bool} (hI : ∀ b, isOut b = true → pI b = false) {kd : StyT → Int → Int} : ∀ {m n : Nat} {a h : Int} {b : BoxT} {e : Int}, n < t.1.length → (∀ y, UpR t.1 y (n : Nat) → y < e) → (n : Int) < e → buildP pI kd t.1 ss m n a h = some b → In b n e
  | 0, _, _, _, _, _, _, _, _, hb => by cases hb
  | m + 1, n, a, h, b, e, hn, he, hne, hb => by
    have one : ∀ k s txt, In (.mk (k,(n : Int),0, s, txt,()) []) n e := fun k s txt => by
      have hnd : ndT (.mk (k,(n : Int),0, s, txt,()) []) = [(n : Int)] := by
        rw [zsu, if_pos (Int.natCast_nonneg n), zjm]; rfl
      refine ⟨fun x hx => ?_, by rw [hnd]; simp, by rw [zs2, zm4]; omega, yet.2 ⟨.inl (Int.natCast_nonneg n), zhx.2 (by simp)⟩⟩
      rw [hnd, List.mem_singleton] at hx
      omega
    rw [buildP] at hb
    split at hb
    · rename_i x s0 hx hs0
      split at hb
      · cases hb; exact one _ _ _
      · split at hb
        · cases hb
        · split at hb
          · cases hb; exact one _ _ _
          · simp only [Option.some.injEq] at hb
            subst hb
            have key := yg7 ht hk he (f := fun c => buildP pI kd t.1 ss m c (kinP (kd (styP s0 a h) a) h) (heaP (kinP (kd (styP s0 a h) a) h) (styP s0 a h).2.1 h)) (fun c b' e' hkc hup hce hfc => zph ht hk hI (by
              obtain ⟨_, r, hr, _⟩ := hkc
              have := (List.getElem?_eq_some_iff.1 hr).1
              simpa using this) hup hce hfc) _ 0 (Nat.le_refl _) (by omega)
            -- the kids stand behind the node itself
            have h0 : kidsN t.1 (n : Nat) 0 = kidsN t.1 (n : Nat) (n + 1) := by
              have : ∀ c, KidOf t.1 (c : Nat) (n : Nat) → n + 1 ≤ c := fun c hc => by
                obtain ⟨_, r, hr, hp⟩ := hc
                rw [Int.toNat_natCast] at hr
                have := ht.par c r hr
                omega
              cases hl : kidsN t.1 (n : Nat) (n + 1) with
              | nil =>
                refine zsw fun c _ hc => ?_
                have : c ∈ kidsN t.1 (n : Nat) (n + 1) := zla.2 ⟨this c hc, hc⟩
                rw [hl] at this; cases this
              | cons x ks =>
                have hx : x ∈ kidsN t.1 (n : Nat) (n + 1) := by rw [hl]; exact .head _
                obtain ⟨h3, h4⟩ := zla.1 hx
                have hmin : ∀ c, n + 1 ≤ c → c < x → ¬ KidOf t.1 (c : Nat) (n : Nat) := fun c hc hcx hkc => by
                  have hm : c ∈ kidsN t.1 (n : Nat) (n + 1) := zla.2 ⟨hc, hkc⟩
                  have hs : (kidsN t.1 (n : Nat) (n + 1)).Pairwise (· < ·) := yat
                  rw [hl] at hm hs
                  rcases List.mem_cons.1 hm with h | h
                  · omega
                  · have := (List.pairwise_cons.1 hs).1 c h; omega
                have e1 := zkf h3 h4 hmin
                rw [hl] at e1
                rw [zkf (Nat.zero_le x) h4 fun c _ hcx hkc => hmin c (this c hkc) hcx hkc,(List.cons.inj e1).2]
            have key2 := yg7 ht hk he (f := fun c => buildP pI kd t.1 ss m c (kinP (kd (styP s0 a h) a) h) (heaP (kinP (kd (styP s0 a h) a) h) (styP s0 a h).2.1 h)) (fun c b' e' hkc hup hce hfc => zph ht hk hI (by
              obtain ⟨_, r, hr, _⟩ := hkc
              have := (List.getElem?_eq_some_iff.1 hr).1
              simpa using this) hup hce hfc) _ (n + 1) (Nat.le_refl _) (by omega)
            rw [← h0] at key2
            generalize (kidsN t.1 (n : Nat) 0).filterMap (fun c => buildP pI kd t.1 ss m c (kinP (kd (styP s0 a h) a) h) (heaP (kinP (kd (styP s0 a h) a) h) (styP s0 a h).2.1 h)) = l at key2 ⊢
            obtain ⟨g1, g2, g3, g4⟩ := key2
            have hsub := fitL_nd (pI := pI) (s := styP s0 a h) (k := fitK (kinP (kd (styP s0 a h) a) h) l) (l := l)
            have hsz := fitL_sz (pI := pI) (s := styP s0 a h) (k := fitK (kinP (kd (styP s0 a h) a) h) l) (l := l)
            refine ⟨fun x hx => ?_, ?_, ?_, yet.2 ⟨.inl (Int.natCast_nonneg n), fitL_G hI g4⟩⟩
            · rw [zsu, if_pos (Int.natCast_nonneg n)] at hx
              rcases List.mem_append.1 hx with hx | hx
              · rw [List.mem_singleton] at hx
                have hx : x = (n : Int) := hx
                omega
              · have := g1 x (hsub.subset hx); omega
            · rw [zsu, if_pos (Int.natCast_nonneg n)]
              refine List.pairwise_append.2 ⟨by simp, g2.sublist hsub, fun u hu v hv => ?_⟩
              rw [List.mem_singleton] at hu
              have hu : u = (n : Int) := hu
              have := g1 v (hsub.subset hv)
              omega
            · rw [zs2]; omega
    · cases hb
theorem kyT_mk {x} {ks : List BoxT} : kyT (.mk x ks) = bif decide (0 ≤ x.2.1) then (x.2.1,0) else kyL ks := by rw [kyT]
theorem kyL_cons {b : BoxT} {r : List BoxT} : kyL (b :: r) = ((kyT b).1,(kyT b).2 + 1) := by rw [kyL]
theorem fkT_mk {α : Type} {x : α} {ks : List (Tr α)} : fkT (.mk x ks) = ks.take 1 ++ fkL ks := by rw [fkT]
theorem fkL_nil {α : Type} : fkL ([] : List (Tr α)) = [] := by rw [fkL]
theorem fkL_cons {α : Type} {t : Tr α} {ts : List (Tr α)} : fkL (t :: ts) = fkT t ++ fkL ts := by rw [fkL]
mutual
theorem ky_T : ∀ (b : BoxT), GT b → (ndT b).Nodup → ((fkT b).map kyT).Nodup ∧ (∀ q ∈ (fkT b).map kyT, q.1 ∈ ndL b.kids) ∧ (∀ q ∈ (fkT b).map kyT, q.1 = (kyT b).1 → q.2 < (kyT b).2) ∧ (kyT b).1 ∈ ndT b
  | .mk x ks, hg, hn => by
    obtain ⟨hg1, hg2⟩ := yet.1 hg
    rw [zsu] at hn
    have hnk : (ndL ks).Nodup := (List.nodup_append.1 hn).2.1
    obtain ⟨k1, k2, k3⟩ := ky_L ks hg2 hnk
    rw [fkT_mk, zsu, kyT_mk]
    by_cases hx : 0 ≤ x.2.1
    · rw [decide_eq_true hx, if_pos hx] at *
      refine ⟨k1, k2, fun q hq e => ?_, by simp⟩
      have h1 := k2 q hq
      have h2 := (List.nodup_append.1 hn).2.2 x.2.1 (by simp) q.1 h1
      exact absurd e.symm h2
    · rw [decide_eq_false hx, if_neg hx] at *
      have hks := hg1.resolve_left hx
      refine ⟨k1, k2, k3.1, ?_⟩
      exact k3.2 hks
theorem ky_L : ∀ (ks : List BoxT), GL ks → (ndL ks).Nodup → ((ks.take 1 ++ fkL ks).map kyT).Nodup ∧ (∀ q ∈ (ks.take 1 ++ fkL ks).map kyT, q.1 ∈ ndL ks) ∧ (∀ q ∈ (ks.take 1 ++ fkL ks).map kyT, q.1 = (kyL ks).1 → q.2 < (kyL ks).2) ∧ (ks ≠ [] → (kyL ks).1 ∈ ndL ks)
  | [], _, _ => by
    rw [fkL_nil]
    exact ⟨by simp, by simp, by simp, fun h => absurd rfl h⟩
  | b :: r, hg, hn => by
    rw [GL] at hg
    rw [zlz] at hn
    obtain ⟨hn1, hn2, hn3⟩ := List.nodup_append.1 hn
    obtain ⟨a1, a2, a3, a4⟩ := ky_T b hg.1 hn1
    obtain ⟨c1, c2, _⟩ := ky_L r hg.2 hn2
    have c1' : ((fkL r).map kyT).Nodup := (List.nodup_append.1 (by rw [List.map_append] at c1; exact c1)).2.1
    have c2' : ∀ q ∈ (fkL r).map kyT, q.1 ∈ ndL r := fun q hq => c2 q (by rw [List.map_append]; exact List.mem_append_right _ hq)
    have hsub : ∀ z ∈ ndL b.kids, z ∈ ndT b := fun z hz => by
      cases b with
      | mk x ks => rw [zsu]; exact List.mem_append_right _ hz
    rw [fkL_cons, kyL_cons, zlz]
    have e : ((b :: r).take 1 ++ (fkT b ++ fkL r)).map kyT = kyT b :: ((fkT b).map kyT ++ (fkL r).map kyT) := by simp
    rw [e]
    refine ⟨List.nodup_cons.2 ⟨fun hm => ?_, List.nodup_append.2 ⟨a1, c1', fun u hu v hv huv => ?_⟩⟩, fun q hq => ?_, fun q hq he => ?_, fun _ => List.mem_append_left _ a4⟩
    · rcases List.mem_append.1 hm with hm | hm
      · have := a3 _ hm rfl; omega
      · exact hn3 _ a4 _ (c2' _ hm) rfl
    · subst huv
      exact hn3 _ (hsub _ (a2 _ hu)) _ (c2' _ hv) rfl
    · rcases List.mem_cons.1 hq with rfl | hq
      · exact List.mem_append_left _ a4
      · rcases List.mem_append.1 hq with hq | hq
        · exact List.mem_append_left _ (hsub _ (a2 _ hq))
        · exact List.mem_append_right _ (c2' _ hq)
    · rcases List.mem_cons.1 hq with rfl | hq
      · exact Nat.lt_succ_self _
      · rcases List.mem_append.1 hq with hq | hq
        · have := a3 _ hq he; exact Nat.lt_succ_of_lt this
        · exact absurd he.symm (hn3 _ a4 _ (c2' _ hq))
end
end Go.V
