/- Walks: identifier octets, of tlv and of its reference. -/
import Derived.Test.YtnpmgofkfdpbjaaPlTlv
import Derived.Test.YtnpmgofkfdpbjaaKit
import Derived.Handy
set_option linter.unusedSimpArgs false
set_option linter.unusedVariables false
namespace Go.Proofs.Ytnpmgofkfdpbjaa.Tlv
open Go.RowKit Kit

theorem or_id {c n : Int} (h0 : 0 ≤ c) (h1 : c ≤ 3) (h2 : 0 ≤ n) (h3 : n ≤ 30) : bits .or .i64 (c * 64) n = c * 64 + n := by
  have : ∀ (a : Fin 4) (b : Fin 31), bits .or .i64 (((a.1 : Nat) : Int) * 64) ((b.1 : Nat) : Int) = ((a.1 : Nat) : Int) * 64 + ((b.1 : Nat) : Int) := by decide +kernel
  obtain ⟨a, rfl⟩ := Int.eq_ofNat_of_zero_le h0
  obtain ⟨b, rfl⟩ := Int.eq_ofNat_of_zero_le h2
  exact this ⟨a, by omega⟩ ⟨b, by omega⟩
theorem or_cons {c n : Int} (h0 : 0 ≤ c) (h1 : c ≤ 3) (h2 : 0 ≤ n) (h3 : n ≤ 30) : bits .or .u8 (c * 64 + n) 32 = c * 64 + n + 32 := by
  have : ∀ (a : Fin 4) (b : Fin 31), bits .or .u8 (((a.1 : Nat) : Int) * 64 + ((b.1 : Nat) : Int)) 32 = ((a.1 : Nat) : Int) * 64 + ((b.1 : Nat) : Int) + 32 := by decide +kernel
  obtain ⟨a, rfl⟩ := Int.eq_ofNat_of_zero_le h0
  obtain ⟨b, rfl⟩ := Int.eq_ofNat_of_zero_le h2
  exact this ⟨a, by omega⟩ ⟨b, by omega⟩
theorem and_31 {x : Int} (h0 : 0 ≤ x) (h1 : x ≤ 255) : bits .and .u8 x 31 = x % 32 := by
  have : ∀ a : Fin 256, bits .and .u8 ((a.1 : Nat) : Int) 31 = ((a.1 : Nat) : Int) % 32 := by decide +kernel
  obtain ⟨a, rfl⟩ := Int.eq_ofNat_of_zero_le h0
  exact this ⟨a, by omega⟩
theorem and_32 {x : Int} (h0 : 0 ≤ x) (h1 : x ≤ 255) : bits .and .u8 x 32 = x / 32 % 2 * 32 := by
  have : ∀ a : Fin 256, bits .and .u8 ((a.1 : Nat) : Int) 32 = ((a.1 : Nat) : Int) / 32 % 2 * 32 := by decide +kernel
  obtain ⟨a, rfl⟩ := Int.eq_ofNat_of_zero_le h0
  exact this ⟨a, by omega⟩

theorem id_cases (c n : Int) : c < 0 ∨ (¬ c < 0 ∧ 3 < c) ∨ (¬ c < 0 ∧ ¬ 3 < c ∧ n < 0) ∨ (¬ c < 0 ∧ ¬ 3 < c ∧ ¬ n < 0 ∧ 30 < n) ∨ (0 ≤ c ∧ c ≤ 3 ∧ 0 ≤ n ∧ n ≤ 30) := by omega

set_option maxHeartbeats 400000 in
theorem ident_any (c n : Int) (b : Bool) (w : World) :
    Calls Try.prog 155 #[.int .i64 c, .bool b, .int .i64 n] w fun e w' => e = .returned (.tuple #[.int .u8 (idByte c b n), .int .i64 (idCode c n)]) ∧ w = w' := by
  rcases id_cases c n with h | h | h | h | ⟨h0, h1, h2, h3⟩
  case inr.inr.inr.inr =>
    have F := Lib.hid (id_ok b (show ¬ idBad c n from by unfold idBad; omega))
    have o1 := or_id h0 h1 h2 h3
    have o2 := or_cons h0 h1 h2 h3
    have h31 : ¬ 31 ≤ n := by omega
    cases b
    all_goals
      go_enter Try.func155, Try.ntmps155
      go_wp2
      go_ret2
      exact ⟨ret2 (vint (by rw [F.out.1]; simp)) (vint F.out.2.symm), rfl⟩
  case inl =>
    have F := Lib.hid (id_bad b (show idBad c n from by unfold idBad; omega))
    go_enter Try.func155, Try.ntmps155
    go_wp2
    go_ret2
    exact ⟨ret2 (vint F.out.1.symm) (vint F.out.2.symm), rfl⟩
  case inr.inl =>
    have F := Lib.hid (id_bad b (show idBad c n from by unfold idBad; omega))
    obtain ⟨g1, g2⟩ := h
    go_enter Try.func155, Try.ntmps155
    go_wp2
    go_ret2
    exact ⟨ret2 (vint F.out.1.symm) (vint F.out.2.symm), rfl⟩
  case inr.inr.inl =>
    have F := Lib.hid (id_bad b (show idBad c n from by unfold idBad; omega))
    obtain ⟨g1, g2, g3⟩ := h
    go_enter Try.func155, Try.ntmps155
    go_wp2
    go_ret2
    exact ⟨ret2 (vint F.out.1.symm) (vint F.out.2.symm), rfl⟩
  case inr.inr.inr.inl =>
    have F := Lib.hid (id_bad b (show idBad c n from by unfold idBad; omega))
    obtain ⟨g1, g2, g3, g4⟩ := h
    have g5 : 31 ≤ n := by omega
    go_enter Try.func155, Try.ntmps155
    go_wp2
    go_ret2
    exact ⟨ret2 (vint F.out.1.symm) (vint F.out.2.symm), rfl⟩

theorem ret4 {a b c d a' b' c' d' : Value} (h1 : a = a') (h2 : b = b') (h3 : c = c') (h4 : d = d') : Ending.returned (.tuple #[a, b, c, d]) = .returned (.tuple #[a', b', c', d']) := by rw [h1, h2, h3, h4]

set_option maxHeartbeats 400000 in
theorem readid_any (x : Int) (w : World) (h0 : 0 ≤ x) (h1 : x ≤ 255) :
    Calls Try.prog 165 #[.int .u8 x] w fun e w' => e = .returned (.tuple #[.int .i64 (ridC x), .bool (ridB x), .int .i64 (ridN x), .int .i64 (ridE x)]) ∧ w = w' := by
  have a1 := and_31 h0 h1
  have a2 := and_32 h0 h1
  by_cases hx : x % 32 = 31
  · have F := Lib.hid (rid_bad hx)
    go_enter Try.func165, Try.ntmps165
    go_wp2
    refine bodyPost_ret (v := .tuple #[.int .i64 0, .bool false, .int .i64 0, .int .i64 3]) (by simp [results, Try.results165, go_sem, *]) rfl ?_
    exact ⟨ret4 (vint F.out.1.symm) (vbool F.out.2.1.symm) (vint F.out.2.2.1.symm) (vint F.out.2.2.2.symm), rfl⟩
  · have F := Lib.hid (rid_ok hx)
    have hb : (x / 32 % 2 * 32 != 0) = decide (x / 32 % 2 = 1) := by
      rcases (by omega : x / 32 % 2 = 0 ∨ x / 32 % 2 = 1) with h | h <;> rw [h] <;> rfl
    go_enter Try.func165, Try.ntmps165
    go_wp2
    refine bodyPost_ret (v := .tuple #[.int .i64 (x / 64), .bool (decide (x / 32 % 2 = 1)), .int .i64 (x % 32), .int .i64 0]) (by simp [results, Try.results165, go_sem, *]) rfl ?_
    exact ⟨ret4 (vint F.out.1.symm) (vbool F.out.2.1.symm) (vint F.out.2.2.1.symm) (vint F.out.2.2.2.symm), rfl⟩

set_option maxHeartbeats 400000 in
theorem refreadid_any (x : Int) (w : World) (h0 : 0 ≤ x) (h1 : x ≤ 255) :
    Calls Try.prog 171 #[.int .u8 x] w fun e w' => e = .returned (.tuple #[.int .i64 (ridC x), .bool (ridB x), .int .i64 (ridN x), .int .i64 (ridE x)]) ∧ w = w' := by
  have d1 : x.tmod 32 = x % 32 := Int.tmod_eq_emod_of_nonneg h0
  have d2 : x.tdiv 64 = x / 64 := Int.tdiv_eq_ediv_of_nonneg h0
  have d3 : x.tdiv 32 = x / 32 := Int.tdiv_eq_ediv_of_nonneg h0
  have d4 : (x / 32).tmod 2 = x / 32 % 2 := Int.tmod_eq_emod_of_nonneg (by omega)
  by_cases hx : x % 32 = 31
  · have F := Lib.hid (rid_bad hx)
    go_enter Try.func171, Try.ntmps171
    go_wp2
    refine bodyPost_ret (v := .tuple #[.int .i64 0, .bool false, .int .i64 0, .int .i64 3]) (by simp [results, Try.results171, go_sem, *]) rfl ?_
    exact ⟨ret4 (vint F.out.1.symm) (vbool F.out.2.1.symm) (vint F.out.2.2.1.symm) (vint F.out.2.2.2.symm), rfl⟩
  · have F := Lib.hid (rid_ok hx)
    have hb : (x / 32 % 2 == 1) = decide (x / 32 % 2 = 1) := by
      rcases (by omega : x / 32 % 2 = 0 ∨ x / 32 % 2 = 1) with h | h <;> rw [h] <;> rfl
    go_enter Try.func171, Try.ntmps171
    go_wp2
    refine bodyPost_ret (v := .tuple #[.int .i64 (x / 64), .bool (decide (x / 32 % 2 = 1)), .int .i64 (x % 32), .int .i64 0]) (by simp [results, Try.results171, go_sem, *]) rfl ?_
    exact ⟨ret4 (vint F.out.1.symm) (vbool F.out.2.1.symm) (vint F.out.2.2.1.symm) (vint F.out.2.2.2.symm), rfl⟩
end Go.Proofs.Ytnpmgofkfdpbjaa.Tlv
