/- Plain laws of identifier octets and length octets. No program in sight. -/
import Derived.Test.YtiogcdpmgomllaaPlCur
import Derived.Test.YtiogcdpmgomllaaBs
set_option linter.unusedSimpArgs false
set_option linter.unusedVariables false
namespace Go.Proofs.Ytiogcdpmgomllaa.Tlv
open Kit Cur

/-- an identifier octet, and its error -/
def idBad (c n : Int) : Prop := c < 0 ∨ 3 < c ∨ n < 0 ∨ 30 < n
instance (c n : Int) : Decidable (idBad c n) := by unfold idBad; infer_instance
def idCode (c n : Int) : Int := if idBad c n then 9 else 0
def idByte (c : Int) (b : Bool) (n : Int) : Int := if idBad c n then 0 else c * 64 + n + (if b = true then 32 else 0)
/-- an identifier octet, read -/
def ridC (x : Int) : Int := if x % 32 = 31 then 0 else x / 64
def ridB (x : Int) : Bool := if x % 32 = 31 then false else decide (x / 32 % 2 = 1)
def ridN (x : Int) : Int := if x % 32 = 31 then 0 else x % 32
def ridE (x : Int) : Int := if x % 32 = 31 then 3 else 0
theorem rid_bad {x : Int} (h : x % 32 = 31) : ridC x = 0 ∧ ridB x = false ∧ ridN x = 0 ∧ ridE x = 3 := by
  unfold ridC ridB ridN ridE; simp [h]
theorem rid_ok {x : Int} (h : ¬ x % 32 = 31) : ridC x = x / 64 ∧ ridB x = decide (x / 32 % 2 = 1) ∧ ridN x = x % 32 ∧ ridE x = 0 := by
  unfold ridC ridB ridN ridE; simp [h]
theorem id_bad {c n : Int} (b : Bool) (h : idBad c n) : idByte c b n = 0 ∧ idCode c n = 9 := by
  unfold idByte idCode; simp [h]
theorem id_ok {c n : Int} (b : Bool) (h : ¬ idBad c n) : idByte c b n = c * 64 + n + (if b = true then 32 else 0) ∧ idCode c n = 0 := by
  unfold idByte idCode; simp [h]
theorem id_bd (c : Int) (b : Bool) (n : Int) : 0 ≤ idByte c b n ∧ idByte c b n ≤ 255 := by
  unfold idByte idBad; repeat' split
  all_goals omega
/-- an identifier octet, read and written again -/
theorem id_back {x : Int} (h0 : 0 ≤ x) (h1 : x ≤ 255) (h : ridE x = 0) : idByte (ridC x) (ridB x) (ridN x) = x ∧ idCode (ridC x) (ridN x) = 0 := by
  have hx : ¬ x % 32 = 31 := by intro hh; rw [(rid_bad hh).2.2.2] at h; omega
  obtain ⟨e1, e2, e3, _⟩ := rid_ok hx
  have hb : ¬ idBad (ridC x) (ridN x) := by unfold idBad; omega
  obtain ⟨f1, f2⟩ := id_ok (ridB x) hb
  refine ⟨?_, f2⟩
  rw [f1, e1, e2, e3]
  by_cases h2 : x / 32 % 2 = 1 <;> simp [h2] <;> omega
/-- written and read again -/
theorem id_read {c n : Int} {b : Bool} (h : idCode c n = 0) : ridC (idByte c b n) = c ∧ ridB (idByte c b n) = b ∧ ridN (idByte c b n) = n ∧ ridE (idByte c b n) = 0 := by
  have hb : ¬ idBad c n := by intro hh; rw [(id_bad b hh).2] at h; omega
  obtain ⟨f1, _⟩ := id_ok b hb
  unfold idBad at hb
  rw [f1]
  cases b
  · simp only [Bool.false_eq_true, if_false]
    obtain ⟨e1, e2, e3, e4⟩ := rid_ok (x := c * 64 + n + 0) (by omega)
    refine ⟨by rw [e1]; omega, by rw [e2]; simp; omega, by rw [e3]; omega, e4⟩
  · simp only [if_true]
    obtain ⟨e1, e2, e3, e4⟩ := rid_ok (x := c * 64 + n + 32) (by omega)
    refine ⟨by rw [e1]; omega, by rw [e2]; simp; omega, by rw [e3]; omega, e4⟩
/-- length octets, and their error -/
def lenBad (n : Int) : Prop := n < 0 ∨ 2147483647 < n
instance (n : Int) : Decidable (lenBad n) := by unfold lenBad; infer_instance
def lenCode (n : Int) : Int := if lenBad n then 9 else 0
def lenL (n : Int) : List UInt8 := if lenBad n then [] else if n < 128 then minL n.toNat else ofI (128 + (minL n.toNat).length) :: minL n.toNat
theorem len_bad {n : Int} (h : lenBad n) : lenL n = [] ∧ lenCode n = 9 := by unfold lenL lenCode; simp [h]
theorem len_short {n : Int} (h0 : 0 ≤ n) (h : n < 128) : lenL n = minL n.toNat ∧ lenCode n = 0 := by
  have hb : ¬ lenBad n := by unfold lenBad; omega
  unfold lenL lenCode; simp [hb, h]
theorem len_long {n : Int} (h0 : 128 ≤ n) (h : n ≤ 2147483647) : lenL n = ofI (128 + (minL n.toNat).length) :: minL n.toNat ∧ lenCode n = 0 := by
  have hb : ¬ lenBad n := by unfold lenBad; omega
  unfold lenL lenCode; simp [hb, show ¬ n < 128 from by omega]
theorem len_bd (n : Int) : (lenL n).length ≤ 9 := by
  have := (minL_len n.toNat).2
  unfold lenL; repeat' split
  all_goals simp
  all_goals omega
end Go.Proofs.Ytiogcdpmgomllaa.Tlv
