/- Regions that draw their order, with callees that lay blocks of their own: small laws. -/
import Derived.Test.YtkkgcfllfhkoaaaBs
import Derived.Lib.QuietBelow
set_option linter.unusedSimpArgs false
set_option linter.unusedVariables false
namespace Go.Proofs.Ytkkgcfllfhkoaaa.Kit
open Go.RowKit Go.Sort

theorem of_regrown {w w' : World} (h : ∃ p : Regrown, w' = grow (redrawn w p.d) p.os) : Below w.heap.size w w' := by
  obtain ⟨p, rfl⟩ := h; exact below_regrown _ _ _
/-- a contract that leaves the world alone, met in a world of the class -/
theorem regrown_same {P : Program} {f : FuncId} {args : Array Value} {w : World} {d : Nat} {os : Array Obj} {v : Value}
    (h : Calls P f args (grow (redrawn w d) os) fun e w' => e = .returned v ∧ grow (redrawn w d) os = w') : Calls P f args (grow (redrawn w d) os) fun e w'' => e = .returned v ∧ ∃ p : Regrown, w'' = grow (redrawn w p.d) p.os :=
  h.mono fun _ _ ⟨he, hm⟩ => ⟨he, ⟨d, os⟩, hm.symm⟩
/-- a contract that draws only -/
theorem regrown_drew {P : Program} {f : FuncId} {args : Array Value} {w : World} {d : Nat} {os : Array Obj} {v : Value}
    (h : Calls P f args (grow (redrawn w d) os) fun e w' => e = .returned v ∧ ∃ m, w' = (grow (redrawn w d) os).drewN m) : Calls P f args (grow (redrawn w d) os) fun e w'' => e = .returned v ∧ ∃ p : Regrown, w'' = grow (redrawn w p.d) p.os :=
  Calls.regrown_of (h.mono fun _ _ ⟨he, m, hm⟩ => ⟨he, by rw [hm]; exact ⟨rfl, rfl, rfl, Nat.le_refl _, fun _ _ => rfl⟩⟩)
theorem Rd.regrown {w : World} {A : Option Addr} {n : Nat} {l : List UInt8} (h : Rd w w.heap.size A n l) (d : Nat) (os : Array Obj) : Rd (grow (redrawn w d) os) w.heap.size A n l := h.below (below_regrown w d os)
/-- six cells, in every world of the class -/
theorem six_regrown {w : World} {b : Nat} {x0 x1 x2 x3 x4 x5 : Value} (h : w.cell? ⟨b, 0, none⟩ = some x0 ∧ w.cell? ⟨b, 1, none⟩ = some x1 ∧ w.cell? ⟨b, 2, none⟩ = some x2 ∧ w.cell? ⟨b, 3, none⟩ = some x3 ∧ w.cell? ⟨b, 4, none⟩ = some x4 ∧ w.cell? ⟨b, 5, none⟩ = some x5) :
    (∀ d os, (grow (redrawn w d) os).cell? ⟨b, 0, none⟩ = some x0) ∧ (∀ d os, (grow (redrawn w d) os).cell? ⟨b, 1, none⟩ = some x1) ∧ (∀ d os, (grow (redrawn w d) os).cell? ⟨b, 2, none⟩ = some x2) ∧ (∀ d os, (grow (redrawn w d) os).cell? ⟨b, 3, none⟩ = some x3) ∧
      (∀ d os, (grow (redrawn w d) os).cell? ⟨b, 4, none⟩ = some x4) ∧ (∀ d os, (grow (redrawn w d) os).cell? ⟨b, 5, none⟩ = some x5) :=
  ⟨cell_regrown h.1, cell_regrown h.2.1, cell_regrown h.2.2.1, cell_regrown h.2.2.2.1, cell_regrown h.2.2.2.2.1, cell_regrown h.2.2.2.2.2⟩
end Go.Proofs.Ytkkgcfllfhkoaaa.Kit
