/- Blocks that hold some cells, kept from call to call, for the walks of the laws. -/
import Derived.Test.YtpjnlcdmbkbfcaaDoorLLight
namespace Go.Proofs.YtpjnlcdmbkbfcaaDoor
open Go.ChangeShapes Go.WideShapes Go.ChangeAt Go.RowKit Go.BigFrame

def Bx (w : World) (L : List (Nat × List Value)) : Prop := ∀ p ∈ L, Box w p.1 p.2
theorem Bx.none (w : World) : Bx w [] := fun _ h => by cases h
theorem Bx.below {w w' : World} {L : List (Nat × List Value)} (h : Bx w L) (hb : Below w.heap.size w w') : Bx w' L := fun p hp => (h p hp).below hb
theorem Bx.cons {w : World} {L : List (Nat × List Value)} (h : Bx w L) (A : List Value) (T : TypeId) : Bx (w.alloc (.cells A.toArray T)) ((w.heap.size, A) :: L) := fun p hp => by
  rcases List.mem_cons.1 hp with rfl | h1
  · exact Box.new w A T
  · exact (h p h1).alloc _
def RowC (w : World) (b : Nat) : Nat → List Value → Prop
  | _, [] => True
  | k, v :: A => w.cell? ⟨b, k, none⟩ = some v ∧ RowC w b (k + 1) A
def AllC (w : World) : List (Nat × List Value) → Prop
  | [] => True
  | p :: L => (p.1 < w.heap.size ∧ RowC w p.1 0 p.2) ∧ AllC w L
theorem rowC_of {w : World} {b : Nat} : ∀ (A : List Value) (k : Nat), (∀ j, j < A.length → w.cell? ⟨b, k + j, none⟩ = some (A[j]?.getD undef)) → RowC w b k A
  | [], _, _ => trivial
  | v :: A, k, h => ⟨by simpa using h 0 (by simp), rowC_of A (k + 1) (fun j hj => by
      have := h (j + 1) (by simpa using hj)
      rw [show k + 1 + j = k + (j + 1) by omega, this]
      simp)⟩
theorem Bx.facts {w : World} : ∀ {L : List (Nat × List Value)}, Bx w L → AllC w L
  | [], _ => trivial
  | p :: L, h => ⟨⟨(h p (by simp)).lt, rowC_of p.2 0 (fun j hj => by rw [Nat.zero_add]; exact (h p (by simp)).c j hj)⟩, Bx.facts (L := L) (fun q hq => h q (by simp [hq]))⟩
end Go.Proofs.YtpjnlcdmbkbfcaaDoor
