/- Walks: length octets, of tlv and of its reference. -/
import Derived.Test.YtnpmgofkfdpbjaaTlvA
import Derived.Test.YtnpmgofkfdpbjaaRefMin
set_option linter.unusedSimpArgs false
set_option linter.unusedVariables false
namespace Go.Proofs.Ytnpmgofkfdpbjaa.Tlv
open Go.RowKit Kit

theorem lit1 {base : Nat} (w : World) (x : Int) (h0 : 0 ≤ x) (h1 : x ≤ 255) (hb : base ≤ w.heap.size) :
    Own (w.alloc (.cells #[.int .u8 x] 5)) base (some ⟨w.heap.size, 0, none⟩) 1 1 [ofI x] := by
  have h := Own.lit (base := base) w [ofI x] hb (by simp [maxLen])
  rw [show vs [ofI x] = [x].map (Value.int .u8) from vs_ofI [x] (in1 h0 h1)] at h
  exact h

set_option maxRecDepth 100000 in
set_option maxHeartbeats 1000000 in
theorem length_any (n : Int) (w : World) :
    Calls Try.prog 156 #[.int .i64 n] w fun e w' => ∃ A c, e = .returned (.tuple #[.slice A (lenL n).length c, .int .i64 (lenCode n)]) ∧ Own w' w.heap.size A (lenL n).length c (lenL n) ∧ Below w.heap.size w w' := by
  by_cases h0 : n < 0
  · have F := Lib.hid (len_bad (n := n) (.inl h0))
    go_enter Try.func156, Try.ntmps156
    go_wp2
    go_ret2
    rw [F.out.1]
    exact ⟨none, 0, ret2 rfl (vint F.out.2.symm), Own.none_ _ _, (by repeat' (first | (with_reducible exact Below.refl _ _) | (with_reducible assumption) | (with_reducible refine below_drewN ?_ _) | (with_reducible refine Below.drew ?_) | (with_reducible refine Below.alloc ?_ ?_ _) | (with_reducible refine Below.setCell ?_ ?_ _) | go_size))⟩
  by_cases h1 : 2147483647 < n
  · have F := Lib.hid (len_bad (n := n) (.inr h1))
    go_enter Try.func156, Try.ntmps156
    go_wp2
    go_ret2
    rw [F.out.1]
    exact ⟨none, 0, ret2 rfl (vint F.out.2.symm), Own.none_ _ _, (by repeat' (first | (with_reducible exact Below.refl _ _) | (with_reducible assumption) | (with_reducible refine below_drewN ?_ _) | (with_reducible refine Below.drew ?_) | (with_reducible refine Below.alloc ?_ ?_ _) | (with_reducible refine Below.setCell ?_ ?_ _) | go_size))⟩
  have hn0 : 0 ≤ n := by omega
  by_cases h2 : n < 128
  · have F := Lib.hid (len_short hn0 h2)
    obtain ⟨v, rfl⟩ := Int.eq_ofNat_of_zero_le hn0
    have M := Lib.hid (fun w => Cur.minimal_any v w (by unfold Cur.W64; omega))
    have F1 := Lib.hid (show lenL (v : Int) = Cur.minL v from F.out.1)
    have F2 := Lib.hid F.out.2
    clear F
    go_enter Try.func156, Try.ntmps156
    go_wp2_with (go_at_call 164; refine (M.out _).mono ?_; rintro e w1 ⟨A, c, rfl, ho, hb⟩)
    go_ret2
    rw [F1.out]
    exact ⟨A, c, ret2 rfl (vint F2.out.symm), ho, hb⟩
  · have F := Lib.hid (len_long (by omega) (by omega : n ≤ 2147483647))
    obtain ⟨v, rfl⟩ := Int.eq_ofNat_of_zero_le hn0
    have M := Lib.hid (fun w => Cur.minimal_any v w (by unfold Cur.W64; omega))
    have F1 := Lib.hid (show lenL (v : Int) = ofI (128 + (Cur.minL v).length) :: Cur.minL v from F.out.1)
    have F2 := Lib.hid F.out.2
    obtain ⟨k1, k2⟩ := Cur.minL_len v
    obtain ⟨k, hk⟩ : ∃ k, (Cur.minL v).length = k := ⟨_, rfl⟩
    rw [hk] at M F1 k1 k2
    have HK := Lib.hid hk
    clear F hk
    go_enter Try.func156, Try.ntmps156
    go_wp2_with (first | (go_at_call 164; refine (M.out _).mono ?_; rintro e w1 ⟨A, c, rfl, ho, hb⟩) | (at_builtin; refine app rfl (.tmp 21) (.tmp 22) rfl rfl (lit1 (base := w.heap.size) w1 (128 + (k : Int)) (by omega) (by omega) hb.size) rfl (ho.alloc _).rd (by omega) (by simp; have := hb.size; omega) ?_; intro A' c' w2 ho' hg' hb' hs'))
    go_ret2
    have e : (lenL (v : Int)).length = 1 + k := by rw [F1.out, List.length_cons, HK.out]; omega
    rw [e]
    refine ⟨A', c', ret2 rfl (vint F2.out.symm), ?_, (hb.alloc hb.size _).trans hb'⟩
    rw [F1.out]
    exact ho'

set_option maxRecDepth 100000 in
set_option maxHeartbeats 1000000 in
theorem reflength_any (n : Int) (w : World) :
    Calls Try.prog 137 #[.int .i64 n] w fun e w' => ∃ A c, e = .returned (.tuple #[.slice A (lenL n).length c, .int .i64 (lenCode n)]) ∧ Own w' w.heap.size A (lenL n).length c (lenL n) ∧ Below w.heap.size w w' := by
  by_cases h0 : n < 0
  · have F := Lib.hid (len_bad (n := n) (.inl h0))
    go_enter Try.func137, Try.ntmps137
    go_wp2
    go_ret2
    rw [F.out.1]
    exact ⟨none, 0, ret2 rfl (vint F.out.2.symm), Own.none_ _ _, (by repeat' (first | (with_reducible exact Below.refl _ _) | (with_reducible assumption) | (with_reducible refine below_drewN ?_ _) | (with_reducible refine Below.drew ?_) | (with_reducible refine Below.alloc ?_ ?_ _) | (with_reducible refine Below.setCell ?_ ?_ _) | go_size))⟩
  by_cases h1 : 2147483647 < n
  · have F := Lib.hid (len_bad (n := n) (.inr h1))
    go_enter Try.func137, Try.ntmps137
    go_wp2
    go_ret2
    rw [F.out.1]
    exact ⟨none, 0, ret2 rfl (vint F.out.2.symm), Own.none_ _ _, (by repeat' (first | (with_reducible exact Below.refl _ _) | (with_reducible assumption) | (with_reducible refine below_drewN ?_ _) | (with_reducible refine Below.drew ?_) | (with_reducible refine Below.alloc ?_ ?_ _) | (with_reducible refine Below.setCell ?_ ?_ _) | go_size))⟩
  have hn0 : 0 ≤ n := by omega
  by_cases h2 : n < 128
  · have F := Lib.hid (len_short hn0 h2)
    obtain ⟨v, rfl⟩ := Int.eq_ofNat_of_zero_le hn0
    have M := Lib.hid (fun w => Cur.refminimal_any v w (by unfold Cur.W64; omega))
    have F1 := Lib.hid (show lenL (v : Int) = Cur.minL v from F.out.1)
    have F2 := Lib.hid F.out.2
    clear F
    go_enter Try.func137, Try.ntmps137
    go_wp2_with (go_at_call 158; refine (M.out _).mono ?_; rintro e w1 ⟨A, c, rfl, ho, hb⟩)
    go_ret2
    rw [F1.out]
    exact ⟨A, c, ret2 rfl (vint F2.out.symm), ho, hb⟩
  · have F := Lib.hid (len_long (by omega) (by omega : n ≤ 2147483647))
    obtain ⟨v, rfl⟩ := Int.eq_ofNat_of_zero_le hn0
    have M := Lib.hid (fun w => Cur.refminimal_any v w (by unfold Cur.W64; omega))
    have F1 := Lib.hid (show lenL (v : Int) = ofI (128 + (Cur.minL v).length) :: Cur.minL v from F.out.1)
    have F2 := Lib.hid F.out.2
    obtain ⟨k1, k2⟩ := Cur.minL_len v
    obtain ⟨k, hk⟩ : ∃ k, (Cur.minL v).length = k := ⟨_, rfl⟩
    rw [hk] at M F1 k1 k2
    have HK := Lib.hid hk
    clear F hk
    go_enter Try.func137, Try.ntmps137
    go_wp2_with (first | (go_at_call 158; refine (M.out _).mono ?_; rintro e w1 ⟨A, c, rfl, ho, hb⟩) | (at_builtin; refine app rfl (.tmp 21) (.tmp 22) rfl rfl (lit1 (base := w.heap.size) w1 (128 + (k : Int)) (by omega) (by omega) hb.size) rfl (ho.alloc _).rd (by omega) (by simp; have := hb.size; omega) ?_; intro A' c' w2 ho' hg' hb' hs'))
    go_ret2
    have e : (lenL (v : Int)).length = 1 + k := by rw [F1.out, List.length_cons, HK.out]; omega
    rw [e]
    refine ⟨A', c', ret2 rfl (vint F2.out.symm), ?_, (hb.alloc hb.size _).trans hb'⟩
    rw [F1.out]
    exact ho'
end Go.Proofs.Ytnpmgofkfdpbjaa.Tlv
