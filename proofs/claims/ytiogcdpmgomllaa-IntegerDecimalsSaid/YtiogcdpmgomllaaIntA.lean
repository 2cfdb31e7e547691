/- Walks: booleans, null, validity and sign of integers, of the package integer and of its reference. -/
import Derived.Test.YtiogcdpmgomllaaPlInt
import Derived.Test.YtiogcdpmgomllaaBit
import Derived.Handy
set_option linter.unusedSimpArgs false
set_option linter.unusedVariables false
namespace Go.Proofs.Ytiogcdpmgomllaa.Int4
open Go.RowKit Kit Tlv

theorem and_128 {x : Int} (h0 : 0 ≤ x) (h1 : x ≤ 255) : bits .and .u8 x 128 = if 128 ≤ x then 128 else 0 := by
  have : ∀ a : Fin 256, bits .and .u8 ((a.1 : Nat) : Int) 128 = if (128 : Int) ≤ ((a.1 : Nat) : Int) then 128 else 0 := by decide +kernel
  obtain ⟨a, rfl⟩ := Int.eq_ofNat_of_zero_le h0
  exact this ⟨a, by omega⟩
theorem and_lo {x : Int} (h0 : 0 ≤ x) (h1 : x ≤ 255) (h : ¬ 128 ≤ x) : bits .and .u8 x 128 = 0 := by rw [and_128 h0 h1, if_neg h]
theorem and_hi {x : Int} (h0 : 0 ≤ x) (h1 : x ≤ 255) (h : 128 ≤ x) : bits .and .u8 x 128 = 128 := by rw [and_128 h0 h1, if_pos h]
theorem add_one' (a : Addr) : a.add 1 = ⟨a.block, a.off + 1, none⟩ := by unfold Addr.add; rw [if_neg (by omega)]
theorem add_zero' (a : Addr) : a.add 0 = a := by unfold Addr.add; rw [if_pos rfl]
/-- the first two cells -/
theorem two_at {w : World} {B n : Nat} {A : Option Addr} {l : List UInt8} (h : Rd w B A n l) (hn : 1 ≤ n) :
    ∃ ad : Addr, A = some ad ∧ ad.block < B ∧ w.cell? ad = some (.int .u8 (bt l 0)) ∧ (2 ≤ n → w.cell? ⟨ad.block, ad.off + 1, none⟩ = some (.int .u8 (bt l 1))) := by
  obtain ⟨ad, e, hb, hc⟩ := h.all_ (by omega)
  refine ⟨ad, e, hb, ?_, fun h2 => ?_⟩
  · have := hc 0 (by omega); rwa [add_zero'] at this
  · have := hc 1 (by omega); rwa [add_one'] at this

/-- a boolean, and its error -/
def boolV (l : List UInt8) : Bool := decide (l.length = 1) && decide (bt l 0 = 255)
def boolC (l : List UInt8) : Int := if l.length = 1 ∧ (bt l 0 = 0 ∨ bt l 0 = 255) then 0 else 6

set_option maxHeartbeats 1000000 in
theorem boolean_any {A : Option Addr} {n c B : Nat} {l : List UInt8} (w : World) (hr : Rd w B A n l) (hB : B ≤ w.heap.size) :
    Calls Try.prog 11 #[.slice A n c] w fun e w' => e = .returned (.tuple #[.bool (boolV l), .int .i64 (boolC l)]) ∧ w = w' := by
  have hl := hr.len
  subst hl
  by_cases h1 : l.length = 1
  · obtain ⟨ad, rfl, hb, c0, _⟩ := two_at hr (by omega)
    have F := Lib.hid (show boolV l = decide (bt l 0 = 255) ∧ boolC l = if bt l 0 = 0 ∨ bt l 0 = 255 then 0 else 6 from ⟨by unfold boolV; simp [h1], by unfold boolC; simp [h1]⟩)
    have hb' : ad.block < w.heap.size := by omega
    have h1' : (l.length : Int) = 1 := by omega
    rw [h1]
    rw [h1] at hr
    clear hr h1 h1'
    generalize bt l 0 = x at *
    by_cases g0 : x = 0
    · subst g0
      go_enter Try.func11, Try.ntmps11
      go_wp2
      go_ret2
      exact ⟨ret2 (vbool (by rw [F.out.1]; simp)) (vint (by rw [F.out.2]; simp)), rfl⟩
    · by_cases g1 : x = 255
      · subst g1
        go_enter Try.func11, Try.ntmps11
        go_wp2
        go_ret2
        exact ⟨ret2 (vbool (by rw [F.out.1]; simp)) (vint (by rw [F.out.2]; simp)), rfl⟩
      · have gb0 : (x != 0) = true := by simpa using g0
        have gb1 : (x != 255) = true := by simpa using g1
        go_enter Try.func11, Try.ntmps11
        go_wp2
        go_ret2
        exact ⟨ret2 (vbool (by rw [F.out.1]; simp [g1])) (vint (by rw [F.out.2]; simp [g0, g1])), rfl⟩
  · have F := Lib.hid (show boolV l = false ∧ boolC l = 6 from ⟨by unfold boolV; simp [h1], by unfold boolC; simp [h1]⟩)
    have h1' : ¬ (l.length : Int) = 1 := by omega
    clear hr
    go_enter Try.func11, Try.ntmps11
    go_wp2
    go_ret2
    exact ⟨ret2 (vbool F.out.1.symm) (vint F.out.2.symm), rfl⟩

/-- the octets of a boolean -/
def boolL (b : Bool) : List UInt8 := [if b = true then 255 else 0]

def nullC (n : Nat) : Int := if 0 < n then 6 else 0
set_option maxHeartbeats 2000000 in
theorem valid_any {A : Option Addr} {n c B : Nat} {l : List UInt8} (w : World) (hr : Rd w B A n l) (hB : B ≤ w.heap.size) :
    Calls Try.prog 14 #[.slice A n c] w fun e w' => e = .returned (.bool (validI l)) ∧ w = w' := by
  have hl := hr.len
  subst hl
  rcases (by omega : l.length = 0 ∨ l.length = 1 ∨ 2 ≤ l.length) with h | h | h
  · have F := Lib.hid (valid_nil h)
    clear hr
    rw [h]
    clear h
    go_enter Try.func14, Try.ntmps14
    go_wp2
    go_ret
    exact ⟨ret_bool F.out.symm, rfl⟩
  · have F := Lib.hid (valid_one h)
    clear hr
    rw [h]
    clear h
    go_enter Try.func14, Try.ntmps14
    go_wp2
    go_ret
    exact ⟨ret_bool F.out.symm, rfl⟩
  · obtain ⟨ad, rfl, hb, c0, c1⟩ := two_at hr (by omega)
    replace c1 := c1 h
    have hb' : ad.block < w.heap.size := by omega
    have F := Lib.hid (valid_two h)
    have x0 := bt_lo l 0
    have x1 := bt_hi l 0
    have y0 := bt_lo l 1
    have y1 := bt_hi l 1
    generalize bt l 0 = x at *
    generalize bt l 1 = y at *
    have h2 : ¬ (l.length : Int) < 2 := by omega
    have h3 : (1 : Int) < (l.length : Int) := by omega
    clear hr
    by_cases gy : 128 ≤ y
    · have an := and_hi y0 y1 gy
      by_cases g0 : x = 0
      · subst g0
        go_enter Try.func14, Try.ntmps14
        go_wp2
        go_ret
        exact ⟨ret_bool (by rw [F.out]; simp; omega), rfl⟩
      · by_cases g1 : x = 255
        · subst g1
          go_enter Try.func14, Try.ntmps14
          go_wp2
          go_ret
          exact ⟨ret_bool (by rw [F.out]; simp [gy]), rfl⟩
        · go_enter Try.func14, Try.ntmps14
          go_wp2
          go_ret
          exact ⟨ret_bool (by rw [F.out]; simp [g0, g1]), rfl⟩
    · have an := and_lo y0 y1 gy
      by_cases g0 : x = 0
      · subst g0
        go_enter Try.func14, Try.ntmps14
        go_wp2
        go_ret
        exact ⟨ret_bool (by rw [F.out]; simp; omega), rfl⟩
      · by_cases g1 : x = 255
        · subst g1
          go_enter Try.func14, Try.ntmps14
          go_wp2
          go_ret
          exact ⟨ret_bool (by rw [F.out]; simp; omega), rfl⟩
        · go_enter Try.func14, Try.ntmps14
          go_wp2
          go_ret
          exact ⟨ret_bool (by rw [F.out]; simp [g0, g1]), rfl⟩
/-- the sign -/
def signI (l : List UInt8) : Int := if validI l = false then 0 else if l.length = 1 ∧ bt l 0 = 0 then 0 else if 128 ≤ bt l 0 then -1 else 1


end Go.Proofs.Ytiogcdpmgomllaa.Int4
