/-
  Walks and laws of this seat; the base is the text Base.
-/
import Derived.Test.YtmkcglpeidbblaaDoorBasg
import Derived.Test.YtmkcglpeidbblaaDoorRows
namespace Go.Proofs.YtmkcglpeidbblaaDoor
open Go.RowKit Go.Sl Go.ChangeShapes Go.WideShapes Go.ChangeAt
/-! What comes in, where it is of bulk at most 1048576. -/
theorem bulk_part {H : Type} : ∀ {l : List (DataW H)} {d : DataW H}, d ∈ l → Rows.uptoBulk d ≤ Rows.uptoBulkAll l
  | x :: r, d, h => by
    simp only [Rows.uptoBulkAll]
    rcases List.mem_cons.1 h with rfl | e
    · omega
    · have := bulk_part e; omega
section
variable {α : Type} {P : Program}
/-- What reads as a datum of Go type T, of such a bulk, is, as data of t, some a with S. -/
def OpB (N : Nat) (P : Program) (T : TypeId) (t : Ty α) (S : α → Prop) : Prop :=
  ∀ (H : Type) (enc : TypeId × Value → H) (w : World) (n : Nat) (cs : List Value) (x : DataW H × List MemPlace), n ≤ N →
    DataW.trod enc P w 0 (fun _ => true) true n T cs = some x → Rows.uptoBulk x.1 ≤ 1048576 → ∃ a, t.R (whole w) cs a ∧ S a
theorem OpB.le {N M : Nat} {T : TypeId} {t : Ty α} {S : α → Prop} (h : OpB M P T t S) (hN : N ≤ M) : OpB N P T t S := fun H enc w n cs x hn => h H enc w n cs x (by omega)
/-- A field of a struct. -/
theorem OpB.field {N n i off sz : Nat} {H : Type} {enc : TypeId × Value → H} {w : World} {fd : Field} {t : Ty α} {S : α → Prop} {cs : List Value} {xs : List (DataW H × List MemPlace)} {T : TypeId} {fs : Array Field} (h : OpB N P fd.type t S) (hn : n ≤ N)
    (hf : fs[i]? = some fd) (ho : fd.offset = off) (hz : P.cellsOf fd.type = sz) (hl : xs.length = fs.size) (hx : DataW.trod enc P w 0 (fun _ => true) true n fd.type ((cs.drop fd.offset).take (P.cellsOf fd.type)) = xs[i]?) (_ : P.underlying T = some (.struct fs))
    (hw : Rows.uptoBulk (DataW.agg (xs.map (·.1))) ≤ 1048576) : ∃ a, t.R (whole w) ((cs.drop off).take sz) a ∧ S a := by
  subst ho hz
  have hi : i < xs.length := by rw [hl]; exact (Array.getElem?_eq_some_iff.1 hf).1
  rw [List.getElem?_eq_getElem hi] at hx
  refine h H enc w n _ _ hn hx ?_
  have h1 : xs[i].1 ∈ xs.map (·.1) := List.mem_map_of_mem (List.getElem_mem _)
  have h2 := bulk_part h1
  simp only [Rows.uptoBulk] at hw
  omega
end
end Go.Proofs.YtmkcglpeidbblaaDoor
