/- Walks: FromUnsigned and Unsigned of the reference; FromInt, of both. -/
import Derived.Test.YtnpmgofkfdpbjaaIntF
import Derived.Test.YtnpmgofkfdpbjaaIntC
import Derived.Deep.CutRange
import Derived.WalkMore
set_option linter.unusedSimpArgs false
set_option linter.unusedVariables false
namespace Go.Proofs.Ytnpmgofkfdpbjaa.Int4
open Go.RowKit Kit Tlv

/-- b[1:] -/
theorem tail1 {w : World} {B n c : Nat} {ad : Addr} {l : List UInt8} (h : Rd w B (some ad) n l) (hn : 1 ≤ n) (hc : n ≤ c) (hc1 : ¬ c = 1) : Rd w B (some ⟨ad.block, ad.off + 1, none⟩) (n - 1) (l.drop 1) := by
  have hr := h.cut (k := 1) (m := n) (cap := c) hn (Nat.le_refl _) hc
  rw [List.take_of_length_le (by rw [List.length_drop, h.len]; exact Nat.le_refl _), if_neg hc1] at hr
  rw [← add_one']; exact hr
/-- a slice comes back that can be read -/
def RdP (w : World) (u : List UInt8) (e : Ending) (w' : World) : Prop := ∃ A c, e = .returned (.slice A u.length c) ∧ Rd w' w'.heap.size A u.length u ∧ u.length ≤ c ∧ c ≤ maxLen ∧ Below w.heap.size w w'
theorem RdP.mk {w w' : World} {u l : List UInt8} {B n c : Nat} {A : Option Addr} {e : Ending} (hu : u = l) (he : e = .returned (.slice A n c)) (hr : Rd w' B A n l) (hB : B ≤ w'.heap.size) (hc : n ≤ c) (hm : c ≤ maxLen) (hb : Below w.heap.size w w') : RdP w u e w' := by
  have hl := hr.len
  subst hu hl; exact ⟨A, c, he, hr.more hB, hc, hm, hb⟩
/-- the pieces of a loop that cuts off what is too many -/
def Cut (w : World) (B : Nat) (u : List UInt8) (p : Addr) (m cm : Nat) : Prop := ∃ l, Rd w B (some p) m l ∧ trimI l = u ∧ 1 ≤ m ∧ m ≤ cm ∧ cm ≤ maxLen

/-- what the reference's Unsigned returns: its slice lies in the argument -/
def UnsR (B : Nat) (l : List UInt8) (w : World) (e : Ending) (w' : World) : Prop :=
  ∃ A c, e = .returned (.tuple #[.slice A (unsD l).length c, .int .i64 (unsC l)]) ∧ Rd w B A (unsD l).length (unsD l) ∧ w = w'
theorem sign_lt {l : List UInt8} (hv : validI l = true) : signI l < 0 ↔ 128 ≤ bt l 0 := by
  unfold signI
  rw [if_neg (by simp [hv])]
  by_cases g : l.length = 1 ∧ bt l 0 = 0
  · rw [if_pos g]; omega
  · rw [if_neg g]; split <;> omega

end Go.Proofs.Ytnpmgofkfdpbjaa.Int4
