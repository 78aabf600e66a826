/-
  Walks and laws of this seat; the base is the text Base.
-/
import Derived.Test.YtklcdfnhdljkjaaDoorBasg
/-! UTF-8 as a matter of lists: what a text's bytes decode to. -/
namespace Go.Sl
def contL (l : List Nat) (k : Nat) : Bool := match l[k]? with
  | some b => b / 64 == 2
  | none => false
/-- No byte that goes on stands at the list's head. -/
def fresh (t : List Nat) : Prop := contL t 0 = false
theorem bytesOf_bytesIn (s : ByteArray) : bytesOf (bytesIn s) = s := by
  unfold bytesOf bytesIn
  rw [List.map_map]
  have : (fun n : Int => UInt8.ofNat n.toNat) ∘ (fun b : UInt8 => (b.toNat : Int)) = id := by
    funext b; simp
  rw [this, List.map_id]
end Go.Sl
