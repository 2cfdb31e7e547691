/- Walks: the value of an integer, of the package integer and of its reference. -/
import Derived.Test.YtiogcdpmgomllaaIntC
set_option linter.unusedSimpArgs false
set_option linter.unusedVariables false
namespace Go.Proofs.Ytiogcdpmgomllaa.Int4
open Go.RowKit Kit Tlv

theorem sv_bd {l : List UInt8} (h : 1 ≤ l.length) : -(128 * pw (l.length - 1)) ≤ sv l ∧ sv l < 128 * pw (l.length - 1) := by
  match l, h with
  | x :: t, _ =>
    have hx0 := bt_lo (x :: t) 0
    have hx1 := bt_hi (x :: t) 0
    have e0 : bt (x :: t) 0 = (x.toNat : Int) := rfl
    have hb := beI_bd t
    have hp := pw_pos t.length
    have hl : (x :: t).length - 1 = t.length := by simp
    have p1 : pw (x :: t).length = pw t.length * 256 := pw_succ _
    rw [hl]
    by_cases g : 128 ≤ bt (x :: t) 0
    · rw [sv_neg g, beI_cons, p1]
      rw [e0] at g hx1
      generalize pw t.length = P at *
      generalize (x.toNat : Int) = X at *
      have m1 : X * P ≤ 255 * P := Int.mul_le_mul_of_nonneg_right hx1 (by omega)
      have m2 : 128 * P ≤ X * P := Int.mul_le_mul_of_nonneg_right g (by omega)
      omega
    · rw [sv_pos g, beI_cons]
      rw [e0] at g hx0
      generalize pw t.length = P at *
      generalize (x.toNat : Int) = X at *
      have m1 : X * P ≤ 127 * P := Int.mul_le_mul_of_nonneg_right (by omega) (by omega)
      have m2 : 0 * P ≤ X * P := Int.mul_le_mul_of_nonneg_right hx0 (by omega)
      omega
theorem sv_bd7 {l : List UInt8} (h : 1 ≤ l.length) (h7 : l.length ≤ 7) : -36028797018963968 ≤ sv l ∧ sv l < 36028797018963968 := by
  have := sv_bd h
  have hp := pw_le (show l.length - 1 ≤ 6 from by omega)
  have p : pw 6 = 281474976710656 := by rfl
  omega
theorem sv_bd8 {l : List UInt8} (h : 1 ≤ l.length) (h8 : l.length ≤ 8) : -9223372036854775808 ≤ sv l ∧ sv l ≤ 9223372036854775807 := by
  have := sv_bd h
  have hp := pw_le (show l.length - 1 ≤ 7 from by omega)
  have p : pw 7 = 72057594037927936 := by rfl
  omega
theorem sv_take {l : List UInt8} {k : Nat} (h1 : 1 ≤ k) (h : k < l.length) : sv (l.take (k + 1)) = sv (l.take k) * 256 + bt l k := by
  rw [Cur.take_succ_get h, sv_snoc (by rw [List.length_take]; omega), bt_eq h]
theorem sv_take1 {l : List UInt8} (h : 1 ≤ l.length) : sv (l.take 1) = if 128 ≤ bt l 0 then bt l 0 - 256 else bt l 0 := by
  match l, h with
  | x :: t, _ =>
    rw [show (x :: t).take 1 = [x] from rfl]
    have eb := beI_one (l := [x]) rfl
    have e0 : bt [x] 0 = bt (x :: t) 0 := rfl
    rw [← e0]
    split
    next g => rw [sv_neg g, eb]; rfl
    next g => rw [sv_pos g, eb]
/-- what Int returns -/
def intOk (l : List UInt8) : Bool := validI l && decide (l.length ≤ 8)
def intV (l : List UInt8) : Int := if intOk l = true then sv l else 0
/-- a signed number, shifted, and a byte -/
theorem i64_or_byte (m x : Int) (h0 : 0 ≤ x) (h1 : x ≤ 255) (m0 : -36028797018963968 ≤ m) (m1 : m < 36028797018963968) : bits .or .i64 (m * 256) x = m * 256 + x := by
  obtain ⟨c, rfl⟩ := Int.eq_ofNat_of_zero_le h0
  show IntKind.i64.wrap ((BitVec.ofInt 64 (m * 256) ||| BitVec.ofInt 64 (c : Int)).toNat : Int) = _
  have ec : (BitVec.ofInt 64 (c : Int)).toNat = c := by rw [BitVec.ofInt_natCast, BitVec.toNat_ofNat]; exact Nat.mod_eq_of_lt (by omega)
  have em : (BitVec.ofInt 64 (m * 256)).toNat = (m * 256 % 18446744073709551616).toNat := by rw [BitVec.toNat_ofInt]; rfl
  obtain ⟨k, hk⟩ : ∃ k : Nat, (m * 256 % 18446744073709551616).toNat = k * 256 := ⟨(m % 72057594037927936).toNat, by omega⟩
  rw [BitVec.toNat_or, ec, em, hk, nat_join 8 (k * 256) c (by omega) (by omega), IntKind.wrap_i64]
  omega

set_option maxHeartbeats 2000000 in
theorem int_any {A : Option Addr} {n c B : Nat} {l : List UInt8} (w : World) (hr : Rd w B A n l) (hB : B ≤ w.heap.size) (hc : n ≤ c) :
    Calls Try.prog 12 #[.slice A n c] w fun e w' => e = .returned (.tuple #[.int .i64 (intV l), .bool (intOk l)]) ∧ w = w' := by
  have hl := hr.len
  subst hl
  have V := Lib.hid (valid_any (c := c) w hr hB)
  cases hv : validI l with
  | false =>
    have F := Lib.hid (show intV l = 0 ∧ intOk l = false from by unfold intV intOk; simp [hv])
    rw [hv] at V
    clear hr hv
    go_enter Try.func12, Try.ntmps12
    go_wp2_with (go_at_call 14; refine V.out.mono ?_; rintro e w' ⟨rfl, rfl⟩)
    go_ret2
    exact ⟨ret2 (vint F.out.1.symm) (vbool F.out.2.symm), rfl⟩
  | true =>
    have hp := valid_pos hv
    rw [hv] at V
    by_cases h8 : 8 < l.length
    · have F := Lib.hid (show intV l = 0 ∧ intOk l = false from by unfold intV intOk; simp [hv]; omega)
      have h8' : (8 : Int) < (l.length : Int) := by omega
      clear hr hv
      go_enter Try.func12, Try.ntmps12
      go_wp2_with (go_at_call 14; refine V.out.mono ?_; rintro e w' ⟨rfl, rfl⟩)
      go_ret2
      exact ⟨ret2 (vint F.out.1.symm) (vbool F.out.2.symm), rfl⟩
    · have hok : intOk l = true := by unfold intOk; simp [hv]; omega
      have F := Lib.hid (show intV l = sv l ∧ intOk l = true from ⟨by unfold intV; rw [if_pos hok], hok⟩)
      have h8' : decide ((8 : Int) < (l.length : Int)) = false := by rw [decide_eq_false_iff_not]; omega
      obtain ⟨T1, T2⟩ : _ ∧ _ := ⟨hr.all_ (by omega), trivial⟩
      obtain ⟨ad, rfl, hb, hcell⟩ := T1
      have hb' : ad.block < w.heap.size := by omega
      have c0 := hcell 0 (by omega)
      rw [add_zero'] at c0
      have CE := Lib.hid (fun k (hk : k + 1 < l.length) => show w.cell? ⟨ad.block, ad.off + 1 + k, none⟩ = some (.int .u8 (bt l (k + 1))) from by
        rw [← Kit.add_plain, ← add_one', Kit.add_add, Nat.add_comm 1 k]; exact hcell (k + 1) hk)
      have S1 := Lib.hid (sv_take1 hp)
      have SB := Lib.hid (fun k (h1 : 1 ≤ k) (h7 : k ≤ 7) => sv_bd7 (l := l.take k) (by rw [List.length_take]; omega) (by rw [List.length_take]; omega))
      have ST := Lib.hid (fun k h1 h => sv_take (l := l) (k := k) h1 h)
      have SE := Lib.hid (show sv (l.take l.length) = sv l from by rw [List.take_of_length_le (Nat.le_refl _)])
      have x0 := bt_lo l 0
      have x1 := bt_hi l 0
      have YB := Lib.hid (fun k => And.intro (bt_lo l k) (bt_hi l k))
      have hl1 : (1 : Int) ≤ (l.length : Int) := by omega
      have hlc : (1 : Int) ≤ (c : Int) := by omega
      have hlc' : (l.length : Int) ≤ (c : Int) := by omega
      have W8 : IntKind.i8.wrap (bt l 0) = sv (l.take 1) := by
        rw [S1.out]
        unfold IntKind.wrap
        simp [IntKind.bits, IntKind.signed]
        split <;> omega
      have b8 : -128 ≤ sv (l.take 1) ∧ sv (l.take 1) ≤ 127 := by rw [S1.out]; split <;> omega
      obtain ⟨b80, b81⟩ := b8
      clear hr hv hcell T2 S1
      obtain ⟨v1, hv1⟩ : ∃ v, sv (l.take 1) = v := ⟨_, rfl⟩
      have HV := Lib.hid hv1
      rw [hv1] at W8 b80 b81
      clear hv1
      generalize bt l 0 = x at *
      by_cases hcc : c = 1
      · have hl1' : l.length = 1 := by omega
        have SE' := SE.out
        rw [hl1', HV.out] at SE'
        rw [hl1'] at V hlc' h8' ⊢
        have F' := Lib.hid (show intV l = v1 from by rw [F.out.1, ← SE'])
        have F2 := Lib.hid F.out.2
        subst hcc
        clear SE SE' HV CE SB ST YB hl1 hlc hp h8 hl1' F hok
        go_enter Try.func12, Try.ntmps12
        go_wp2_with (go_at_call 14; refine V.out.mono ?_; rintro e w' ⟨rfl, rfl⟩)
        go_loop [4, 6, 23] (fun n u i => n = .int .i64 v1 ∧ i = .int .i64 0) (fun _ _ _ => 0)
        case atStart => exact ⟨rfl, rfl⟩
        case round =>
          obtain ⟨rfl, rfl⟩ := hrel
          go_wp2
          go_ret2
          exact ⟨ret2 (vint F'.out.symm) (vbool F2.out.symm), rfl⟩
      · obtain ⟨m, hm⟩ : ∃ m, l.length = m + 1 := ⟨l.length - 1, by omega⟩
        have HM := Lib.hid hm
        have hq : (⟨ad.block, ad.off + 1, none⟩ : Addr).block < w.heap.size := hb'
        rw [hm] at V CE ST SE h8' hlc' hl1 ⊢
        have hm7 : m ≤ 7 := by omega
        clear hm hp h8 hok
        go_enter Try.func12, Try.ntmps12
        go_wp2_with (go_at_call 14; refine V.out.mono ?_; rintro e w' ⟨rfl, rfl⟩)
        clear W8
        go_loop [4, 6, 23] (fun n u i => ∃ k : Nat, k ≤ m ∧ i = .int .i64 (k : Int) ∧ n = .int .i64 (sv (l.take (k + 1)))) (fun _ _ i => m - (intOf i).toNat)
        case atStart => exact ⟨0, Nat.zero_le _, rfl, by rw [HV.out]⟩
        case round =>
          obtain ⟨k, hk, rfl, rfl⟩ := hrel
          by_cases hlt : k < m
          · have ck := CE.out k (by omega)
            obtain ⟨s0, s1⟩ := SB.out (k + 1) (by omega) (by omega)
            obtain ⟨y0, y1⟩ := YB.out (k + 1)
            have st := Lib.hid (ST.out (k + 1) (by omega) (by omega))
            obtain ⟨t, ht⟩ : ∃ t, sv (l.take (k + 1)) = t := ⟨_, rfl⟩
            rw [ht] at s0 s1 st ⊢
            clear ht
            generalize bt l (k + 1) = y at *
            have hor := i64_or_byte t y y0 y1 s0 s1
            go_wp2
            go_round
            case rel => exact ⟨k + 1, by omega, by go_num, by rw [st.out]⟩
            case measure => simp [intOf]; omega
          · obtain rfl : k = m := by omega
            rw [SE.out]
            have F' := Lib.hid F.out.1
            have F2 := Lib.hid F.out.2
            clear CE SB ST YB SE F
            generalize sv l = sl at *
            go_wp2
            go_ret2
            exact ⟨ret2 (vint F'.out.symm) (vbool F2.out.symm), rfl⟩
/-- the value of the first k octets, with the sign ahead -/
def svk (l : List UInt8) (k : Nat) : Int := if k = 0 then (if 128 ≤ bt l 0 then -1 else 0) else sv (l.take k)
theorem svk_step {l : List UInt8} {k : Nat} (h : k < l.length) : svk l (k + 1) = svk l k * 256 + bt l k := by
  unfold svk
  rw [if_neg (by omega)]
  by_cases h0 : k = 0
  · subst h0
    rw [if_pos rfl, sv_take1 (by omega)]
    split <;> omega
  · rw [if_neg h0]; exact sv_take (by omega) h
theorem svk_bd {l : List UInt8} {k : Nat} (h : k ≤ l.length) (h7 : k ≤ 7) : -36028797018963968 ≤ svk l k ∧ svk l k < 36028797018963968 := by
  unfold svk
  by_cases h0 : k = 0
  · rw [if_pos h0]; split <;> omega
  · rw [if_neg h0]; exact sv_bd7 (by rw [List.length_take]; omega) (by rw [List.length_take]; omega)


end Go.Proofs.Ytiogcdpmgomllaa.Int4
