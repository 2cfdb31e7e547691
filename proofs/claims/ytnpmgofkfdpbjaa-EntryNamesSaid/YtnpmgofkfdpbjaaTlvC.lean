/- Walks: length octets, read by tlv. -/
import Derived.Test.YtnpmgofkfdpbjaaPlTlvB
import Derived.Test.YtnpmgofkfdpbjaaTlvB
import Derived.Deep.CutRange
import Derived.WalkMore
set_option linter.unusedSimpArgs false
set_option linter.unusedVariables false
namespace Go.Proofs.Ytnpmgofkfdpbjaa.Tlv
open Go.RowKit Kit

abbrev err (code off : Int) : Value := .agg #[.int .i64 code, .int .i64 off]
theorem i64_or_nat (a b : Nat) (ha : a < 9223372036854775808) (hb : b < 9223372036854775808) : bits .or .i64 (a : Int) (b : Int) = ((a ||| b : Nat) : Int) := by
  have hx : a ||| b < 2 ^ 63 := Nat.or_lt_two_pow (by omega) (by omega)
  show IntKind.i64.wrap ((BitVec.ofInt 64 (a : Int) ||| BitVec.ofInt 64 (b : Int)).toNat : Int) = _
  have e : ∀ x : Nat, x < 9223372036854775808 → (BitVec.ofInt 64 (x : Int)).toNat = x := fun x hx => by
    rw [BitVec.ofInt_natCast, BitVec.toNat_ofNat]; exact Nat.mod_eq_of_lt (by omega)
  rw [BitVec.toNat_or, e a ha, e b hb]
  exact IntWalk.i64_in _ (by omega)
theorem i64_shl8_or (v : Nat) (b : Int) (hv : v < 36028797018963968) (h0 : 0 ≤ b) (h1 : b ≤ 255) : bits .or .i64 ((v : Int) * 256) b = (v : Int) * 256 + b := by
  have e : ((v : Int) * 256) = ((v * 256 : Nat) : Int) := by omega
  obtain ⟨c, rfl⟩ := Int.eq_ofNat_of_zero_le h0
  rw [e, i64_or_nat (v * 256) c (by omega) (by omega), nat_join 8 (v * 256) c (by omega) (by omega)]
  omega

theorem add_one (a : Addr) : a.add 1 = ⟨a.block, a.off + 1, none⟩ := by unfold Addr.add; rw [if_neg (by omega)]

theorem fail_any (c o : Int) (w : World) :
    Calls Try.prog 169 #[.int .i64 c, .int .i64 o] w fun e w' => e = .returned (.tuple #[.int .i64 0, .int .i64 0, err c o]) ∧ Below w.heap.size w w' := by
  go_enter Try.func169, Try.ntmps169
  go_wp2
  refine bodyPost_ret (v := .tuple #[.int .i64 0, .int .i64 0, err c o]) (by simp [results, Try.results169, go_sem, *]) rfl ?_
  exact ⟨rfl, (by repeat' (first | (with_reducible exact Below.refl _ _) | (with_reducible assumption) | (with_reducible refine below_drewN ?_ _) | (with_reducible refine Below.drew ?_) | (with_reducible refine Below.alloc ?_ ?_ _) | (with_reducible refine Below.setCell ?_ ?_ _) | go_size))⟩

/-- the tuple that ReadLength returns -/
abbrev rlV (r : Int × Int × Int × Int) : Value := .tuple #[.int .i64 r.1, .int .i64 r.2.1, err r.2.2.1 r.2.2.2]

set_option maxRecDepth 100000 in
set_option maxHeartbeats 2000000 in
theorem readlen_any {A : Option Addr} {n c B : Nat} {l : List UInt8} (w : World) (hr : Rd w B A n l) (hB : B ≤ w.heap.size) (hc : n ≤ c) (hm : c ≤ maxLen) :
    Calls Try.prog 166 #[.slice A n c] w fun e w' => e = .returned (rlV (rl l)) ∧ Below w.heap.size w w' := by
  have hl := hr.len
  unfold maxLen at hm
  have FA := Lib.hid fail_any
  by_cases h0 : n = 0
  · have E := Lib.hid (rl_nil (hl.trans h0))
    rw [E.out]
    subst h0
    clear hr hl
    go_enter Try.func166, Try.ntmps166
    go_wp2
    go_step3
    go_wp2_with (go_at_call 169; refine (FA.out _ _ _).mono ?_; rintro e w1 ⟨rfl, hb⟩; obtain ⟨k0, k1, f0, f1, s1, hb1⟩ := two_new hb)
    try rw [Exit.noGoto_ret]
    refine bodyPost_ret (v := rlV (0, 0, 1, 0)) (by simp [results, Try.results166, go_sem, *]) rfl ?_
    exact ⟨rfl, (by repeat' (first | (with_reducible exact Below.refl _ _) | (with_reducible assumption) | (with_reducible refine below_drewN ?_ _) | (with_reducible refine Below.drew ?_) | (with_reducible refine Below.alloc ?_ ?_ _) | (with_reducible refine Below.setCell ?_ ?_ _) | go_size))⟩
  obtain ⟨ad, rfl, hab, hcell⟩ := hr.all_ (by omega)
  have c0 : w.cell? ad = some (.int .u8 (bt l 0)) := by
    have := hcell 0 (by omega)
    rwa [show ad.add 0 = ad from by unfold Addr.add; rw [if_pos rfl]] at this
  have hab' : ad.block < w.heap.size := by omega
  have b0 := bt_lo l 0
  have b1 := bt_hi l 0
  have h0' : ¬ (n : Int) = 0 := by omega
  by_cases h1 : bt l 0 < 128
  · have E := Lib.hid (rl_short (l := l) (by omega) h1)
    rw [E.out]
    generalize bt l 0 = b at *
    clear hr hl hcell
    go_enter Try.func166, Try.ntmps166
    go_wp2
    go_step3
    go_wp2
    try rw [Exit.noGoto_ret]
    refine bodyPost_ret (v := rlV (b, 1, 0, 0)) (by simp [results, Try.results166, go_sem, *]) rfl ?_
    exact ⟨rfl, (by repeat' (first | (with_reducible exact Below.refl _ _) | (with_reducible assumption) | (with_reducible refine below_drewN ?_ _) | (with_reducible refine Below.drew ?_) | (with_reducible refine Below.alloc ?_ ?_ _) | (with_reducible refine Below.setCell ?_ ?_ _) | go_size))⟩
  by_cases h2 : bt l 0 = 128 ∨ 132 < bt l 0
  · have E := Lib.hid (rl_form (l := l) (by omega) h2)
    rw [E.out]
    clear hr hl hcell
    generalize bt l 0 = b at *
    have h2' : b = 128 ∨ (¬ b - 128 = 0 ∧ 4 < b - 128) := by omega
    clear h2
    rcases h2' with rfl | ⟨h3, h4⟩
    all_goals
      go_enter Try.func166, Try.ntmps166
      go_wp2
      go_step3
      go_wp2_with (go_at_call 169; refine (FA.out _ _ _).mono ?_; rintro e w1 ⟨rfl, hb⟩; obtain ⟨k0, k1, f0, f1, s1, hb1⟩ := two_new hb)
      try rw [Exit.noGoto_ret]
      refine bodyPost_ret (v := rlV (0, 0, 4, 0)) (by simp [results, Try.results166, go_sem, *]) rfl ?_
      exact ⟨rfl, (by repeat' (first | (with_reducible exact Below.refl _ _) | (with_reducible assumption) | (with_reducible refine below_drewN ?_ _) | (with_reducible refine Below.drew ?_) | (with_reducible refine Below.alloc ?_ ?_ _) | (with_reducible refine Below.setCell ?_ ?_ _) | go_size))⟩
  obtain ⟨k, hk⟩ : ∃ k : Nat, bt l 0 = 128 + (k : Int) := ⟨(bt l 0 - 128).toNat, by omega⟩
  have k1 : 1 ≤ k := by omega
  have k4 : k ≤ 4 := by omega
  have h3 : ¬ (k : Int) = 0 := by omega
  have h4 : ¬ (4 : Int) < (k : Int) := by omega
  have h4' : decide ((4 : Int) < (k : Int)) = false := by rw [decide_eq_false_iff_not]; exact h4
  have ek : bt l 0 - 128 = (k : Int) := by omega
  by_cases h5 : n ≤ k
  · have E := Lib.hid (rl_cut (l := l) (by omega) hk k1 k4 (by omega))
    rw [E.out]
    clear hk h2 hr hcell
    subst hl
    generalize bt l 0 = b at *
    have h5' : (l.length : Int) ≤ (k : Int) := by omega
    go_enter Try.func166, Try.ntmps166
    go_wp2
    go_step3
    go_wp2_with (go_at_call 169; refine (FA.out _ _ _).mono ?_; rintro e w1 ⟨rfl, hb⟩; obtain ⟨k0, k1, f0, f1, s1, hb1⟩ := two_new hb)
    try rw [Exit.noGoto_ret]
    refine bodyPost_ret (v := rlV (0, 0, 1, (l.length : Int))) (by simp [results, Try.results166, go_sem, *]) rfl ?_
    exact ⟨rfl, (by repeat' (first | (with_reducible exact Below.refl _ _) | (with_reducible assumption) | (with_reducible refine below_drewN ?_ _) | (with_reducible refine Below.drew ?_) | (with_reducible refine Below.alloc ?_ ?_ _) | (with_reducible refine Below.setCell ?_ ?_ _) | go_size))⟩
  have h5' : ¬ (n : Int) ≤ (k : Int) := by omega
  obtain ⟨d, hd⟩ : ∃ d, (l.drop 1).take k = d := ⟨_, rfl⟩
  have hdl : d.length = k := by rw [← hd, List.length_take, List.length_drop]; omega
  have hdb : ∀ j, j < k → bt d j = bt l (1 + j) := fun j hj => by rw [← hd, bt_take hj, bt_drop]
  have d256 : Cur.be d < 256 ^ 4 := Nat.lt_of_lt_of_le (Cur.be_lt d) (Nat.pow_le_pow_right (by omega) (by omega))
  have HB := Lib.hid (show Cur.be d = 0 ∨ True from .inr trivial)
  have CD := Lib.hid (fun (j : Nat) (hj : j < k) => show w.cell? (ad.add (1 + j)) = some (.int .u8 (bt d j)) from by rw [hdb j hj]; exact hcell _ (by omega))
  have c1 := CD.out 0 (by omega)
  rw [show 1 + 0 = 1 from rfl, add_one] at c1
  have hab1 : (⟨ad.block, ad.off + 1, none⟩ : Addr).block < w.heap.size := hab'
  have EB := Lib.hid (fun h => rl_bad (l := l) hk k1 k4 (by omega) h)
  have EO := Lib.hid (fun h => rl_ok (l := l) hk k1 k4 (by omega) h)
  rw [hd, show bt l 1 = bt d 0 from (hdb 0 (by omega)).symm] at EB EO
  have ST := Lib.hid (fun (j : Nat) (hj : j < k) => Cur.be_cast (l := d) (k := j) (by rw [hdl]; exact hj))
  have HF := Lib.hid (show Cur.be (d.take k) = Cur.be d from by rw [List.take_of_length_le (by omega)])
  have SM := Lib.hid (fun j => Nat.lt_of_le_of_lt (Cur.be_take_le d j) d256)
  clear hk h2 hr hcell hdb hd HB
  generalize bt l 0 = b at *
  go_enter Try.func166, Try.ntmps166
  go_wp2
  go_step3
  go_wp2
  go_step3
  go_wp2
  go_loop [7, 8] (fun nn i => ∃ j : Nat, j ≤ k ∧ i = .int .i64 ((1 + j : Nat) : Int) ∧ nn = .int .i64 ((Cur.be (d.take j) : Nat) : Int)) (fun _ i => k + 2 - (intOf i).toNat)
  case atStart => exact ⟨0, Nat.zero_le _, rfl, rfl⟩
  case round =>
    obtain ⟨j, hj, rfl, rfl⟩ := hrel
    have hv := SM.out j
    by_cases hlt : j < k
    · have ck := CD.out j hlt
      have hst := Lib.hid (ST.out j hlt)
      have y0 := bt_lo d j
      have y1 := bt_hi d j
      have hor := Lib.hid (i64_shl8_or (Cur.be (d.take j)) (bt d j) (by omega) y0 y1)
      obtain ⟨v, hv'⟩ : ∃ v, Cur.be (d.take j) = v := ⟨_, rfl⟩
      rw [hv'] at hor hst hv ⊢
      have hqb : (ad.add (1 + j)).block < w.heap.size := by rw [block_add]; exact hab'
      generalize bt d j = y at *
      have hor' := hor.out
      have hqk : ¬ (k : Int) < ((1 + j : Nat) : Int) := by omega
      have hqn : ((1 + j : Nat) : Int) < (n : Int) := by omega
      generalize hq : 1 + j = q at *
      have hv2 : (v : Int) < 4294967296 := by omega
      clear hv'
      go_wp2
      go_round
      case rel => exact ⟨j + 1, by omega, by rw [show ((1 + (j + 1) : Nat) : Int) = (q : Int) + 1 from by omega], by rw [hst.out]⟩
      case measure => simp [intOf]; omega
    · obtain rfl : j = k := by omega
      rw [HF.out] at hv ⊢
      have hqk : (j : Int) < ((1 + j : Nat) : Int) := by omega
      obtain ⟨v, hv'⟩ : ∃ v, Cur.be d = v := ⟨_, rfl⟩
      rw [hv'] at hv ⊢ EB EO
      have y0 := bt_lo d 0
      have y1 := bt_hi d 0
      generalize bt d 0 = y at *
      clear hv' HF SM ST CD
      by_cases g1 : y = 0
      · have E := Lib.hid (EB.out (.inl g1))
        subst g1
        clear EB EO
        go_wp2_with (go_at_call 169; refine (FA.out _ _ _).mono ?_; rintro e w1 ⟨rfl, hb⟩; obtain ⟨k0, k1, f0, f1, s1, hb1⟩ := two_new hb)
        try rw [Exit.noGoto_ret]
        refine bodyPost_ret (v := rlV (0, 0, 4, 0)) (by simp [results, Try.results166, go_sem, *]) rfl ?_
        exact ⟨by rw [E.out], (by repeat' (first | (with_reducible exact Below.refl _ _) | (with_reducible assumption) | (with_reducible refine below_drewN ?_ _) | (with_reducible refine Below.drew ?_) | (with_reducible refine Below.alloc ?_ ?_ _) | (with_reducible refine Below.setCell ?_ ?_ _) | go_size))⟩
      by_cases g2 : v < 128
      · have E := Lib.hid (EB.out (.inr (.inl g2)))
        have g2' : (v : Int) < 128 := by omega
        clear EB EO
        go_wp2_with (go_at_call 169; refine (FA.out _ _ _).mono ?_; rintro e w1 ⟨rfl, hb⟩; obtain ⟨k0, k1, f0, f1, s1, hb1⟩ := two_new hb)
        try rw [Exit.noGoto_ret]
        refine bodyPost_ret (v := rlV (0, 0, 4, 0)) (by simp [results, Try.results166, go_sem, *]) rfl ?_
        exact ⟨by rw [E.out], (by repeat' (first | (with_reducible exact Below.refl _ _) | (with_reducible assumption) | (with_reducible refine below_drewN ?_ _) | (with_reducible refine Below.drew ?_) | (with_reducible refine Below.alloc ?_ ?_ _) | (with_reducible refine Below.setCell ?_ ?_ _) | go_size))⟩
      by_cases g3 : 2147483647 < v
      · have E := Lib.hid (EB.out (.inr (.inr g3)))
        have g2' : ¬ (v : Int) < 128 := by omega
        have g3' : (2147483647 : Int) < (v : Int) := by omega
        clear EB EO
        go_wp2_with (go_at_call 169; refine (FA.out _ _ _).mono ?_; rintro e w1 ⟨rfl, hb⟩; obtain ⟨k0, k1, f0, f1, s1, hb1⟩ := two_new hb)
        try rw [Exit.noGoto_ret]
        refine bodyPost_ret (v := rlV (0, 0, 4, 0)) (by simp [results, Try.results166, go_sem, *]) rfl ?_
        exact ⟨by rw [E.out], (by repeat' (first | (with_reducible exact Below.refl _ _) | (with_reducible assumption) | (with_reducible refine below_drewN ?_ _) | (with_reducible refine Below.drew ?_) | (with_reducible refine Below.alloc ?_ ?_ _) | (with_reducible refine Below.setCell ?_ ?_ _) | go_size))⟩
      have E := Lib.hid (EO.out (by omega))
      have g2' : ¬ (v : Int) < 128 := by omega
      have g3' : ¬ (2147483647 : Int) < (v : Int) := by omega
      have g3'' : decide ((2147483647 : Int) < (v : Int)) = false := by rw [decide_eq_false_iff_not]; exact g3'
      clear EB EO
      go_wp2
      try rw [Exit.noGoto_ret]
      refine bodyPost_ret (v := rlV ((v : Int), 1 + (j : Int), 0, 0)) (by simp [results, Try.results166, go_sem, *]) rfl ?_
      exact ⟨by rw [E.out], (by repeat' (first | (with_reducible exact Below.refl _ _) | (with_reducible assumption) | (with_reducible refine below_drewN ?_ _) | (with_reducible refine Below.drew ?_) | (with_reducible refine Below.alloc ?_ ?_ _) | (with_reducible refine Below.setCell ?_ ?_ _) | go_size))⟩
end Go.Proofs.Ytnpmgofkfdpbjaa.Tlv
