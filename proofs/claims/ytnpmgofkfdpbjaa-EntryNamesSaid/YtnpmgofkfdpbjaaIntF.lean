/- Walks: Unsigned, FromUnsigned, of the package integer. -/
import Derived.Test.YtnpmgofkfdpbjaaIntE
set_option linter.unusedSimpArgs false
set_option linter.unusedVariables false
namespace Go.Proofs.Ytnpmgofkfdpbjaa.Int4
open Go.RowKit Kit Tlv

theorem bkn {w : World} {b : Nat} {o : Obj} (h : b = w.heap.size) : (w.alloc o).heap[b]? = some o := by subst h; exact heap_alloc_new w o
/-- a slice of the call's own comes back -/
def OwnP (w : World) (u : List UInt8) (e : Ending) (w' : World) : Prop := ∃ A c, e = .returned (.slice A u.length c) ∧ Own w' w.heap.size A u.length c u ∧ Below w.heap.size w w'
theorem OwnP.mk {w w' : World} {u l : List UInt8} {n c : Nat} {A : Option Addr} {e : Ending} (hu : u = l) (hn : l.length = n) (he : e = .returned (.slice A n c)) (ho : Own w' w.heap.size A n c l) (hb : Below w.heap.size w w') : OwnP w u e w' := by
  subst hu hn; exact ⟨A, c, he, ho, hb⟩
/-- the slice from a digit on -/
theorem cut_rd {w : World} {B n : Nat} {A : Option Addr} {l : List UInt8} (h : Rd w B A n l) {k : Nat} (hk : k ≤ n) : Rd w B (A.map (fun x => x.add k)) (n - k) (l.drop k) := by
  have := h.cutMap (k := k) (m := n - k) (by omega)
  rwa [List.take_of_length_le (by rw [List.length_drop, h.len]; exact Nat.le_refl _)] at this

theorem uns_long {l : List UInt8} (h : (trimZ l).length = 0 ∨ 128 ≤ bt (trimZ l) 0) : unsL l = 0 :: trimZ l := by unfold unsL; rw [if_pos h]
theorem uns_short {l : List UInt8} (h : ¬ ((trimZ l).length = 0 ∨ 128 ≤ bt (trimZ l) 0)) : unsL l = trimZ l := by unfold unsL; rw [if_neg h]

end Go.Proofs.Ytnpmgofkfdpbjaa.Int4
