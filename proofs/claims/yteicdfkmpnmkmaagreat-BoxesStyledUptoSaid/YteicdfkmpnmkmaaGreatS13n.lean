/-
  Walks and laws of this seat.
-/
import Derived.Test.YteicdfkmpnmkmaaGreatS13m
import Derived.Test.YteicdfkmpnmkmaaGreatPa
namespace Go.Proofs.YteicdfkmpnmkmaaGreat
set_option linter.unusedVariables false
set_option linter.unusedSimpArgs false
open Go.RowKit Go.Sl
def KOK (l : List BT) : Prop := ∀ b ∈ l, 1 ≤ b.kind ∧ b.kind ≤ 8
theorem tk1 {k : Int} (h : 1 ≤ k ∧ k ≤ 8) : tk 1 false k = innerK k := by
  obtain ⟨h1, h2⟩ := h
  have : k = 1 ∨ k = 2 ∨ k = 3 ∨ k = 4 ∨ k = 5 ∨ k = 6 ∨ k = 7 ∨ k = 8 := by omega
  rcases this with rfl | rfl | rfl | rfl | rfl | rfl | rfl | rfl <;> decide
theorem tk2 {k : Int} (h : 1 ≤ k ∧ k ≤ 8) : tk 1 true k = flexK k := by
  obtain ⟨h1, h2⟩ := h
  have : k = 1 ∨ k = 2 ∨ k = 3 ∨ k = 4 ∨ k = 5 ∨ k = 6 ∨ k = 7 ∨ k = 8 := by omega
  rcases this with rfl | rfl | rfl | rfl | rfl | rfl | rfl | rfl <;> decide
section
variable {s : Sty} {l : List BT}
theorem around1 (hS : StyOK s) (hsz : l.length ≤ 50000) : AroundOK (anonB s) 1 s l := by
  have := around_ok (g := 1) (l := l) hS (.inl rfl) hsz (fun e => by simp at e) (fun e => by simp at e)
  intro f v rows X hO
  have := this f v rows X hO
  simp only [show aroundM 1 s l = anonB s l by simp [aroundM, anonB]] at this
  exact this
theorem runs1 (hS : StyOK s) (hsz : l.length ≤ 50000) (hk : KOK l) : RunsOK 1 s l (wrapB innerK s l) :=
  runs_ok (p := innerK) (an := anonB s) hS hsz (fun b hb => tk1 (hk b hb)) (fun _ _ _ h => around1 hS (by omega))
theorem around5 (hS : StyOK s) (hsz : l.length ≤ 50000) (hk : KOK l) : AroundOK (anonC s) 5 s l := by
  have := around_ok (g := 5) (l := l) hS (.inr (.inr rfl)) hsz (fun e => by simp at e) (fun _ _ => runs1 (anonS_OK hS) hsz hk)
  intro f v rows X hO
  have := this f v rows X hO
  simp only [show aroundM 5 s l = anonC s l by simp [aroundM, anonC]] at this
  exact this
theorem runs5 (hS : StyOK s) (hsz : l.length ≤ 50000) (hk : KOK l) : RunsOK 5 s l (wrapC s l) :=
  runs_ok (p := fun k => decide (k ≠ 5)) (an := anonC s) hS hsz (fun b hb => rfl) (fun _ _ hs h => around5 hS (by omega) fun b hb => hk b (hs b hb))
theorem around4 (hS : StyOK s) (hsz : l.length ≤ 50000) (hk : KOK l) : AroundOK (anonR s) 4 s l := by
  have := around_ok (g := 4) (l := l) hS (.inr (.inl rfl)) hsz (fun _ => runs5 (anonS_OK hS) hsz hk) (fun e => by simp at e)
  intro f v rows X hO
  have := this f v rows X hO
  simp only [show aroundM 4 s l = anonR s l by simp [aroundM, anonR]] at this
  exact this
theorem runs4 (hS : StyOK s) (hsz : l.length ≤ 50000) (hk : KOK l) : RunsOK 4 s l (wrapR s l) :=
  runs_ok (p := fun k => decide (k ≠ 4)) (an := anonR s) hS hsz (fun b hb => rfl) (fun _ _ hs h => around4 hS (by omega) fun b hb => hk b (hs b hb))
end
def sty1 (s : Sty) (heavy : Int) : Sty := if 4 ≤ heavy ∧ liftS s = true then s.set 1 (.int .i64 0) else s
def styM (s : Sty) (above heavy : Int) : Sty := if liftS (sty1 s heavy) = true ∨ above = 2 then (sty1 s heavy).set 2 (.int .i64 0) else sty1 s heavy
def kindM (s : Sty) (above heavy : Int) : Int := if 4 ≤ heavy ∧ (kindS s above = 2 ∨ kindS s above = 3) then 1 else kindS s above
def heavyM (k : Int) (s : Sty) (heavy : Int) : Int := if k = 2 ∨ k = 3 ∨ liftS s = true then heavy + 1 else heavy
def buildM (ns : List api_Node) (ss : List Sty) : Nat → Nat → Int → Int → Option BT
  | 0, _, _, _ => none
  | d + 1, n, above, heavy =>
    if (nd ns n).Kind = 2 then some (.mk 7 n 0 (ss.getD n []) (nd ns n).Text [])
    else if dispS (ss.getD n []) = 2 then none
    else if (nd ns n).Name = bs [98, 114] then some (.mk 8 n 0 (ss.getD n []) ByteArray.empty [])
    else some (fitM (kindM (styM (ss.getD n []) above heavy) above heavy) n 0 (styM (ss.getD n []) above heavy) ByteArray.empty
      ((kd ns n).filterMap fun m => buildM ns ss d m.toNat (kindM (styM (ss.getD n []) above heavy) above heavy) (heavyM (kindM (styM (ss.getD n []) above heavy) above heavy) (styM (ss.getD n []) above heavy) heavy)))
theorem kindS_in {s : Sty} {above : Int} : 1 ≤ kindS s above ∧ kindS s above ≤ 8 := by
  unfold kindS
  repeat' split
  all_goals omega
theorem kindM_in {s : Sty} {above heavy : Int} : 1 ≤ kindM s above heavy ∧ kindM s above heavy ≤ 8 := by
  unfold kindM
  have := kindS_in (s := s) (above := above)
  split <;> omega
theorem fitK_in {k : Int} {l : List BT} (h : 1 ≤ k ∧ k ≤ 8) : 1 ≤ fitK k l ∧ fitK k l ≤ 8 := by
  unfold fitK
  split <;> omega
theorem buildM_in {ns : List api_Node} {ss : List Sty} {d n : Nat} {above heavy : Int} {b : BT} (h : buildM ns ss d n above heavy = some b) : 1 ≤ b.kind ∧ b.kind ≤ 8 := by
  cases d with
  | zero => simp [buildM] at h
  | succ d =>
    rw [buildM] at h
    split at h
    · injection h with h; subst h; exact ⟨show (1 : Int) ≤ 7 by decide, show (7 : Int) ≤ 8 by decide⟩
    · split at h
      · cases h
      · split at h
        · injection h with h; subst h; exact ⟨show (1 : Int) ≤ 8 by decide, show (8 : Int) ≤ 8 by decide⟩
        · injection h with h; subst h; exact fitK_in kindM_in
theorem filterM_in {ns : List api_Node} {ss : List Sty} {d : Nat} {above heavy : Int} (l : List Int) : KOK (l.filterMap fun m => buildM ns ss d m.toNat above heavy) := by
  intro b hb
  obtain ⟨m, _, h⟩ := List.mem_filterMap.1 hb
  exact buildM_in h
theorem sty1_OK {s : Sty} {heavy : Int} (hS : StyOK s) : StyOK (sty1 s heavy) := by
  unfold sty1
  split
  · exact set_OK hS 1 (by decide)
  · exact hS
theorem styM_OK {s : Sty} {above heavy : Int} (hS : StyOK s) : StyOK (styM s above heavy) := by
  unfold styM
  split
  · exact set_OK (sty1_OK hS) 2 (by decide)
  · exact sty1_OK hS
end Go.Proofs.YteicdfkmpnmkmaaGreat
