/- Walks: validity, sign and value of integers, of the package integer and of its reference. -/
import Derived.Test.YtiogcdpmgomllaaIntB
set_option linter.unusedSimpArgs false
set_option linter.unusedVariables false
namespace Go.Proofs.Ytiogcdpmgomllaa.Int4
open Go.RowKit Kit Tlv

set_option maxHeartbeats 2000000 in
theorem refvalid_any {A : Option Addr} {n c B : Nat} {l : List UInt8} (w : World) (hr : Rd w B A n l) (hB : B ≤ w.heap.size) :
    Calls Try.prog 10 #[.slice A n c] w fun e w' => e = .returned (.bool (validI l)) ∧ w = w' := by
  have hl := hr.len
  subst hl
  rcases (by omega : l.length = 0 ∨ l.length = 1 ∨ 2 ≤ l.length) with h | h | h
  · have F := Lib.hid (valid_nil h)
    clear hr
    rw [h]
    clear h
    go_enter Try.func10, Try.ntmps10
    go_wp2
    go_ret
    exact ⟨ret_bool F.out.symm, rfl⟩
  · have F := Lib.hid (valid_one h)
    clear hr
    rw [h]
    clear h
    go_enter Try.func10, Try.ntmps10
    go_wp2
    go_ret
    exact ⟨ret_bool F.out.symm, rfl⟩
  · have F := Lib.hid (bits_valid h)
    have h0 : ((l.length : Int) == 0) = false := by rw [beq_eq_false_iff_ne]; omega
    have h1 : ((l.length : Int) == 1) = false := by rw [beq_eq_false_iff_ne]; omega
    have BI := Lib.hid (fun k (hk : k ≤ 8) => bit_any (c := c) k w hr hB hk (by omega))
    have BS := Lib.hid (fun k => bitS_bd l k)
    have BV := Lib.hid (fun k => bitV_bd l k)
    have SS := Lib.hid (fun k => show bitS l (k + 1) = bitS l k + bitV l k from rfl)
    clear hr
    go_enter Try.func10, Try.ntmps10
    go_wp2
    go_loop [3, 4] (fun s i => ∃ k : Nat, k ≤ 9 ∧ i = .int .i64 (k : Int) ∧ s = .int .i64 (bitS l k)) (fun _ i => 9 - (intOf i).toNat)
    case atStart => exact ⟨0, by omega, rfl, rfl⟩
    case round =>
      obtain ⟨k, hk, rfl, rfl⟩ := hrel
      have b0 := BS.out k
      have v0 := BV.out k
      by_cases hlt : k < 9
      · have ST := Lib.hid (SS.out k)
        have BK := Lib.hid (BI.out k (by omega))
        generalize bitS l k = s at *
        generalize bitV l k = v at *
        go_wp2_with (go_at_call 26; refine BK.out.mono ?_; rintro e w' ⟨rfl, rfl⟩)
        go_round
        case rel => exact ⟨k + 1, by omega, by go_num, by rw [ST.out]⟩
        case measure => simp [intOf]; omega
      · obtain rfl : k = 9 := by omega
        clear v0 BV SS BI BS
        generalize bitS l 9 = s at *
        by_cases g0 : s = 0
        · subst g0
          go_wp2
          go_ret
          exact ⟨ret_bool (by rw [F.out]; simp), rfl⟩
        · by_cases g1 : s = 9
          · subst g1
            go_wp2
            go_ret
            exact ⟨ret_bool (by rw [F.out]; simp), rfl⟩
          · have gb0 : (s != 0) = true := by simpa using g0
            have gb1 : (s != 9) = true := by simpa using g1
            go_wp2
            go_ret
            exact ⟨ret_bool (by rw [F.out]; simp [g0, g1]), rfl⟩
/-- all octets from k on are 0 -/
theorem beI_zeros {l : List UInt8} (h : ∀ k, k < l.length → bt l k = 0) : beI l = 0 := by
  induction l with
  | nil => rfl
  | cons x t ih =>
    have hx : (x.toNat : Int) = 0 := h 0 (by simp)
    have := ih (fun k hk => h (k + 1) (by simpa using hk))
    rw [beI_cons, hx, this]; omega
theorem sign_zeros {l : List UInt8} (hv : validI l = true) (h : ∀ k, k < l.length → bt l k = 0) : signI l = 0 := by
  rcases valid_iff.1 hv with h1 | ⟨h2, v1, _⟩
  · unfold signI; rw [if_neg (by simp [hv]), if_pos ⟨h1, h 0 (by omega)⟩]
  · have := h 0 (by omega); have := h 1 (by omega); omega
theorem sign_some {l : List UInt8} (hv : validI l = true) (hn : ¬ 128 ≤ bt l 0) {k : Nat} (hk : k < l.length) (h : bt l k ≠ 0) : signI l = 1 := by
  unfold signI
  rw [if_neg (by simp [hv])]
  by_cases hz : l.length = 1 ∧ bt l 0 = 0
  · obtain rfl : k = 0 := by omega
    omega
  · rw [if_neg hz, if_neg hn]

set_option maxHeartbeats 2000000 in
theorem refsign_any {A : Option Addr} {n c B : Nat} {l : List UInt8} (w : World) (hr : Rd w B A n l) (hB : B ≤ w.heap.size) (hn : n ≤ maxLen) :
    Calls Try.prog 25 #[.slice A n c] w fun e w' => e = .returned (.int .i64 (signI l)) ∧ w = w' := by
  unfold maxLen at hn
  have V := Lib.hid (refvalid_any (c := c) w hr hB)
  cases hv : validI l with
  | false =>
    have F := Lib.hid (show signI l = 0 from by unfold signI; rw [if_pos hv])
    rw [hv] at V
    clear hr hv
    go_enter Try.func25, Try.ntmps25
    go_wp2_with (go_at_call 10; refine V.out.mono ?_; rintro e w' ⟨rfl, rfl⟩)
    go_ret
    exact ⟨ret_int F.out.symm, rfl⟩
  | true =>
    have hp := valid_pos hv
    have hl := hr.len
    subst hl
    have BI := Lib.hid (bit_any (c := c) 0 w hr hB (by omega) (by simp; omega))
    rw [neg_bit] at BI
    rw [hv] at V
    rw [show ((0 : Nat) : Int) = 0 from rfl] at BI
    by_cases g : 128 ≤ bt l 0
    · rw [if_pos g] at BI
      have F := Lib.hid (show signI l = -1 from by unfold signI; rw [if_neg (by simp [hv]), if_neg (by omega), if_pos g])
      clear hr hv g
      go_enter Try.func25, Try.ntmps25
      go_wp2_with (first | (go_at_call 10; refine V.out.mono ?_; rintro e w' ⟨rfl, rfl⟩) | (go_at_call 26; refine BI.out.mono ?_; rintro e w' ⟨rfl, rfl⟩))
      go_ret
      exact ⟨ret_int F.out.symm, rfl⟩
    · rw [if_neg g] at BI
      have ZZ := Lib.hid (fun h => sign_zeros hv h)
      have ZS := Lib.hid (fun k hk h => sign_some hv g (k := k) hk h)
      obtain ⟨ad, rfl, hb, hcell⟩ := hr.all_ (by omega)
      have hb' : ad.block < w.heap.size := by omega
      have CE := Lib.hid hcell
      clear hr hv hcell
      go_enter Try.func25, Try.ntmps25
      go_wp2_with (first | (go_at_call 10; refine V.out.mono ?_; rintro e w' ⟨rfl, rfl⟩) | (go_at_call 26; refine BI.out.mono ?_; rintro e w' ⟨rfl, rfl⟩))
      clear V BI
      go_loop [3] (fun i => ∃ k : Nat, k ≤ l.length ∧ i = .int .i64 (k : Int) ∧ Hid (∀ j, j < k → bt l j = 0)) (fun i => l.length - (intOf i).toNat)
      case atStart => exact ⟨0, by omega, rfl, Lib.hid (fun j hj => by omega)⟩
      case round =>
        obtain ⟨k, hk, rfl, hz⟩ := hrel
        by_cases hlt : k < l.length
        · have ck := CE.out k hlt
          have hqb : (ad.add k).block < w.heap.size := by rw [block_add]; exact hb'
          by_cases h0 : bt l k = 0
          · rw [h0] at ck
            have hz' := Lib.hid (show ∀ j, j < k + 1 → bt l j = 0 from fun j hj => by
              rcases (by omega : j < k ∨ j = k) with h | rfl
              · exact hz.out j h
              · exact h0)
            clear h0 hz
            go_wp2
            go_round
            case rel => exact ⟨k + 1, by omega, by go_num, hz'⟩
            case measure => simp [intOf]; omega
          · have F := Lib.hid (ZS.out k hlt h0)
            have gb : (bt l k != 0) = true := by simpa using h0
            clear h0 hz ZZ ZS
            generalize bt l k = y at *
            go_wp2
            go_ret
            exact ⟨ret_int F.out.symm, rfl⟩
        · obtain rfl : k = l.length := by omega
          have F := Lib.hid (ZZ.out hz.out)
          clear hz
          go_wp2
          go_ret
          exact ⟨ret_int F.out.symm, rfl⟩
end Go.Proofs.Ytiogcdpmgomllaa.Int4
