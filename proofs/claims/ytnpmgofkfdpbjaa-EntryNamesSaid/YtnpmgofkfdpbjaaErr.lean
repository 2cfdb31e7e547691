/- A block that holds an api.Error. -/
import Derived.Test.YtnpmgofkfdpbjaaBs
set_option linter.unusedSimpArgs false
set_option linter.unusedVariables false
namespace Go.Proofs.Ytnpmgofkfdpbjaa.Kit
open Go.RowKit
/-- block b holds an api.Error -/
def ErrB (w : World) (b : Nat) (code off : Int) : Prop := w.heap[b]? = some (.cells #[.int .i64 code, .int .i64 off] 36 (0, 0))
section
variable {w w' : World} {b : Nat} {code off : Int}
theorem ErrB.new (w : World) (code off : Int) : ErrB (w.alloc (.cells #[.int .i64 code, .int .i64 off] 36)) w.heap.size code off := heap_alloc_new w _
theorem ErrB.lt (h : ErrB w b code off) : b < w.heap.size := Blk_lt h
theorem ErrB.cell0 (h : ErrB w b code off) : w.cell? ⟨b, 0, none⟩ = some (.int .i64 code) := by rw [cell_of_row w b 0 _ _ _ h]; rfl
theorem ErrB.cell1 (h : ErrB w b code off) : w.cell? ⟨b, 1, none⟩ = some (.int .i64 off) := by rw [cell_of_row w b 1 _ _ _ h]; rfl
theorem ErrB.frozen (h : ErrB w b code off) (k : Nat) : w.frozen? ⟨b, k, none⟩ = false := frozen_of_row w b k _ _ h
theorem ErrB.below {B : Nat} (h : ErrB w b code off) (hb : Below B w w') (hB : b < B) : ErrB w' b code off := (hb.block b hB).trans h
theorem ErrB.past (h : ErrB w b code off) (hb : Below w.heap.size w w') : ErrB w' b code off := h.below hb h.lt
theorem ErrB.grown {r : Option Nat} (h : ErrB w b code off) (hb : w.grownBy w' r) (hr : some b ≠ r) : ErrB w' b code off := (hb.block b h.lt hr).trans h
theorem ErrB.alloc (h : ErrB w b code off) (o : Obj) : ErrB (w.alloc o) b code off := (Below.heap_alloc w o b h.lt).trans h
theorem ErrB.drew (h : ErrB w b code off) : ErrB w.drew b code off := h
theorem ErrB.drewN (h : ErrB w b code off) (k : Nat) : ErrB (w.drewN k) b code off := h
end
/-- a change of one block, from a bound on -/
theorem below_grown {w w' : World} {B : Nat} {r : Option Nat} (hg : w.grownBy w' r) (hB : B ≤ w.heap.size) (hr : ∀ k, r = some k → B ≤ k) : Below B w w' := (Below.refl _ _).grown hg hB hr
end Go.Proofs.Ytnpmgofkfdpbjaa.Kit
