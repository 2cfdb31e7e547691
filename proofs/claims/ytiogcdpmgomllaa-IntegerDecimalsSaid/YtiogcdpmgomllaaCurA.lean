/- Walks over the package cursor and its reference: byte equality, numbers, comparison. -/
import Derived.Test.YtiogcdpmgomllaaPlCur
import Derived.Test.YtiogcdpmgomllaaBs
set_option linter.unusedSimpArgs false
set_option linter.unusedVariables false
namespace Go.Proofs.Ytiogcdpmgomllaa.Cur
open Go.RowKit Kit

/-- two lists of bytes are the same -/
def eqB (l m : List UInt8) : Bool := decide (l = m)
theorem eqB_self (l : List UInt8) : eqB l l = true := by simp [eqB]

set_option maxHeartbeats 400000 in
theorem bytes_any (A1 A2 : Option Addr) (n1 c1 n2 c2 : Nat) (l1 l2 : List UInt8) (w : World) {B1 B2 : Nat} (h1 : Rd w B1 A1 n1 l1) (h2 : Rd w B2 A2 n2 l2) :
    Calls Try.prog 9 #[.slice A1 n1 c1, .slice A2 n2 c2] w fun e w' => e = .returned (.bool (eqB l1 l2)) ∧ w = w' := by
  have k1 := run_str (P := Try.prog) (c := c1) h1 22 5 9 Try.underlying22 Try.underlying5 Try.underlying9
  have k2 := run_str (P := Try.prog) (c := c2) h2 22 5 9 Try.underlying22 Try.underlying5 Try.underlying9
  clear h1 h2
  go_enter Try.func9, Try.ntmps9
  go_wp2
  go_ret
  exact ⟨ret_bool (by simp [eqB, beq_str]), rfl⟩

theorem bt_nat (l : List UInt8) (k : Nat) : ((l.getD k 0).toNat : Int) = bt l k := rfl
theorem cmp_step {a b : List UInt8} {k : Nat} (ha : k < a.length) (hb : k < b.length) :
    cmpL (a.drop k) (b.drop k) = if bt a k < bt b k then -1 else if bt b k < bt a k then 1 else cmpL (a.drop (k + 1)) (b.drop (k + 1)) := by
  rw [cmpL_drop ha hb]
  unfold bt
  simp only [Int.ofNat_lt]

end Go.Proofs.Ytiogcdpmgomllaa.Cur
