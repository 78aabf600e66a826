/-
  Walks and laws of this seat; the base is the text Base.
-/
import Derived.Test.YteicdfkmpnmkmaaGreatDE3
namespace Go.D
open Go.RowKit Go.Sl
section
variable {α : Type} {P : Program} {E : Env} {m : Nat} {t : Tr V} {lc : Ls} {h : H} {n : Nat} {k : KO α} {r : α}

theorem beqL_eq : ∀ a b : List Nat, beqL a b = decide (a = b)
  | [], [] => by simp [beqL]
  | [], _ :: _ => by simp [beqL]
  | _ :: _, [] => by simp [beqL]
  | x :: a, y :: b => by
    show (Bool.rec false (beqL a b) (Nat.beq x y) : Bool) = _
    cases q : Nat.beq x y with
    | true =>
      have := beq_iff' q
      subst this
      show beqL a b = _
      rw [beqL_eq a b]
      simp
    | false =>
      have := beq_not q
      show false = _
      simp [this]
theorem byl_inj {s u : ByteArray} (h : byl s = byl u) : s = u := by
  have h : s.data.toList = u.data.toList := by
    unfold byl at h
    exact List.map_inj_right (fun x y e => UInt8.toNat_inj.1 e) |>.1 h
  cases s with | mk a => cases u with | mk b => cases a; cases b; simp at h; subst h; rfl
theorem byl_len (s : ByteArray) : (byl s).length = s.size := by
  unfold byl
  rw [List.length_map, Array.length_toList]
  rfl
theorem byl_append (s u : ByteArray) : byl (s ++ u) = byl s ++ byl u := by
  unfold byl
  rw [← List.map_append]
  congr 1
theorem strOp_inv {o : BinOp} {a b : List Nat} {K : C → Option α} {r : α} (e : strOp o a b K = some r) : ∃ c, K c = some r ∧ ∀ (P : Program) (ty : TypeId) (x y : Operand) (w : World) (σ : Sg) (s u : ByteArray), byl s = a → byl u = b → ∃ v, CC σ c v ∧
    (do eqGuard o ty x y (.string s) (.string u); binOp o ty (.string s) (.string u)).run P w = .ok v w := by
  unfold strOp at e
  split at e
  · rw [lenN_eq, lenN_eq] at e
    obtain ⟨h1, e⟩ := iff_inv e
    rw [appN_eq] at e
    have h1 := ble_iff h1
    refine ⟨_, e, fun P ty x y w σ s u hs hu => ⟨.string (s ++ u), ⟨_, rfl, by rw [byl_append, hs, hu]⟩, ?_⟩⟩
    rw [← hs, ← hu, byl_len, byl_len] at h1
    have hz : s.size + u.size ≤ 65536 := h1
    have hl : ¬ (((s.size + u.size : Nat) : Int) > IntKind.i64.max) := by
      have : IntKind.i64.max = 9223372036854775807 := rfl
      omega
    have hrun : (Op.stringOp .add s u).run P w = .ok (.string (s ++ u)) w := by
      unfold Op.stringOp
      simp only [if_neg hl]
      rfl
    simp [eqGuard, binOp, hrun]
  · rw [fB_eq, beqL_eq] at e
    refine ⟨_, e, fun P ty x y w σ s u hs hu => ⟨_, rfl, ?_⟩⟩
    have : (s.toList == u.toList) = decide (a = b) := by
      rw [← hs, ← hu]
      by_cases q : s = u
      · subst q; simp
      · have : byl s ≠ byl u := fun e => q (byl_inj e)
        have h2 : s.toList ≠ u.toList := fun e => this (by
          unfold byl
          rw [ByteArray.toList_eq, ByteArray.toList_eq] at e
          rw [e])
        simp [this, h2]
    simp [eqGuard, binOp, Op.stringOp, this]
  · rw [fB_eq, beqL_eq] at e
    refine ⟨_, e, fun P ty x y w σ s u hs hu => ⟨_, rfl, ?_⟩⟩
    have : (s.toList == u.toList) = decide (a = b) := by
      rw [← hs, ← hu]
      by_cases q : s = u
      · subst q; simp
      · have : byl s ≠ byl u := fun e => q (byl_inj e)
        have h2 : s.toList ≠ u.toList := fun e => this (by
          unfold byl
          rw [ByteArray.toList_eq, ByteArray.toList_eq] at e
          rw [e])
        simp [this, h2]
    simp [eqGuard, binOp, Op.stringOp, this]
  · exact nn e
end
end Go.D
