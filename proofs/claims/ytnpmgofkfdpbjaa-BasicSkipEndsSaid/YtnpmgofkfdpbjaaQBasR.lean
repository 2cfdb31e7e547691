/- The walk of BasicSkipMarshals. -/
import Derived.Test.YtnpmgofkfdpbjaaQBasN
import Derived.Test.YtnpmgofkfdpbjaaQBasQ
set_option linter.unusedSimpArgs false
set_option linter.unusedVariables false
namespace Go.Proofs.Ytnpmgofkfdpbjaa
open Go.RowKit Kit Tlv Bas Go.Sort

theorem Bas.ski_inj {hr hi hr' hi' : Bool} {r i r' i' : Int} (hv : skiB hr r hi i = true) (hv' : skiB hr' r' hi' i' = true) (e : skiL hr r hi i = skiL hr' r' hi' i') : hr = hr' ∧ r = r' ∧ hi = hi' ∧ i = i' := by
  obtain ⟨els, h1, h2⟩ := ski_fwd hv
  obtain ⟨els', h1', h2'⟩ := ski_fwd hv'
  rw [← e, h1] at h1'
  injection h1' with h3 _
  rw [← e, ← h3, h2] at h2'
  obtain ⟨a0, a1, a2, a3, a4⟩ := skiB_iff.1 hv
  obtain ⟨b0, b1, b2, b3, b4⟩ := skiB_iff.1 hv'
  cases hr <;> cases hi <;> cases hr' <;> cases hi' <;> simp [skiS] at h2' a0 b0 a2 a4 b2 b4 ⊢
  · exact ⟨by omega, intL_inj a3 b3 h2'⟩
  · exact ⟨intL_inj a1 b1 h2', by omega⟩
  · exact ⟨intL_inj a1 b1 h2'.1, intL_inj a3 b3 h2'.2⟩
theorem Bas.ski_len (hr : Bool) (r : Int) (hi : Bool) (i : Int) : (skiL hr r hi i).length ≤ 200 := by
  cases hv : skiB hr r hi i with
  | false => rw [(ski_no hv).2]; simp
  | true =>
    obtain ⟨_, h1, _, h2, _⟩ := skiB_iff.1 hv
    have hlen := skiP_len (hr := hr) (hi := hi) h1 h2
    rw [(ski_yes hv).2, enc_len (seq_code (by omega))]
    have := len_bd ((skiP hr r hi i).length : Int)
    omega
theorem Bas.skparse_back {A : Option Addr} {n c B : Nat} {hr hi : Bool} {r i : Int} (hv : skiB hr r hi i = true) (w : World) (hr' : Rd w B A n (skiL hr r hi i)) (hB : B ≤ w.heap.size) (hc : n ≤ c) (hm : c ≤ maxLen) :
    Calls Try.prog 65 #[.slice A n c] w fun e w' => e = .returned (spR hr r hi i 0 0) ∧ Below w.heap.size w w' := by
  have hl := hr'.len
  have hle := ski_len hr r hi i
  rcases skparse_any w hr' hB hc hm (by omega) with ⟨a, b, c', d, hv', e, hC⟩ | ⟨hno, _⟩
  · obtain ⟨rfl, rfl, rfl, rfl⟩ := ski_inj hv hv' e
    exact hC
  · exact absurd rfl (hno _ _ _ _ hv)
/-- four cells, in every world of the class -/
theorem Bas.four_regrown {w : World} {b : Nat} {x0 x1 x2 x3 : Value} (h : w.cell? ⟨b, 0, none⟩ = some x0 ∧ w.cell? ⟨b, 1, none⟩ = some x1 ∧ w.cell? ⟨b, 2, none⟩ = some x2 ∧ w.cell? ⟨b, 3, none⟩ = some x3) :
    (∀ d os, (grow (redrawn w d) os).cell? ⟨b, 0, none⟩ = some x0) ∧ (∀ d os, (grow (redrawn w d) os).cell? ⟨b, 1, none⟩ = some x1) ∧ (∀ d os, (grow (redrawn w d) os).cell? ⟨b, 2, none⟩ = some x2) ∧ (∀ d os, (grow (redrawn w d) os).cell? ⟨b, 3, none⟩ = some x3) :=
  ⟨cell_regrown h.1, cell_regrown h.2.1, cell_regrown h.2.2.1, cell_regrown h.2.2.2⟩
set_option maxHeartbeats 1000000 in
theorem Bas.fews_any (hr : Bool) (r : Int) (hi : Bool) (i : Int) (w : World) : Calls Try.prog 60 #[skV hr r hi i] w fun e w' => e = .returned (.bool true) ∧ Below w.heap.size w w' := by
  go_enter Try.func60, Try.ntmps60
  go_wp2
  go_ret
  exact ⟨rfl, (by repeat' (first | (with_reducible exact Below.refl _ _) | (with_reducible assumption) | (with_reducible refine below_drewN ?_ _) | (with_reducible refine Below.drew ?_) | (with_reducible refine Below.alloc ?_ ?_ _) | (with_reducible refine Below.setCell ?_ ?_ _) | go_size))⟩
set_option maxHeartbeats 1000000 in
theorem Bas.sames_any (hr : Bool) (r : Int) (hi : Bool) (i : Int) (w : World) : Calls Try.prog 66 #[skV hr r hi i, skV hr r hi i] w fun e w' => e = .returned (.bool true) ∧ Below w.heap.size w w' := by
  go_enter Try.func66, Try.ntmps66
  go_wp2
  go_ret
  exact ⟨by first | rfl | exact ret_bool (by simp), (by repeat' (first | (with_reducible exact Below.refl _ _) | (with_reducible assumption) | (with_reducible refine below_drewN ?_ _) | (with_reducible refine Below.drew ?_) | (with_reducible refine Below.alloc ?_ ?_ _) | (with_reducible refine Below.setCell ?_ ?_ _) | go_size))⟩

set_option maxRecDepth 100000 in
set_option maxHeartbeats 3000000 in
theorem BasicSkipMarshals.walk (hr : Bool) (r : Int) (hi : Bool) (i : Int) (w : World) : Calls Try.prog 13 #[skV hr r hi i] w fun e w' => e = .returned (.bool true) ∧ Below w.heap.size w w' := by
  have M1 := Lib.hid (fun w => mars_any hr r hi i w)
  have M2 := Lib.hid (fun w => refmars_any hr r hi i w)
  have V1 := Lib.hid (fun w => valids_any hr r hi i w)
  have V2 := Lib.hid (fun w => refvalids_any hr r hi i w)
  have FW := Lib.hid (fun w => fews_any hr r hi i w)
  have SA := Lib.hid (fun w => sames_any hr r hi i w)
  have PA := Lib.hid (fun (A : Option Addr) (n c B : Nat) (hv : skiB hr r hi i = true) (X : World) (hrd : Rd X B A n (skiL hr r hi i)) hB hc hm => skparse_back (c := c) hv X hrd hB hc hm)
  have HC := Lib.hid (show skiC hr r hi i = 0 ∧ skiB hr r hi i = true ∨ skiC hr r hi i = 8 from by unfold skiC; split <;> simp [*])
  have LL := Lib.hid (ski_len hr r hi i)
  generalize skiL hr r hi i = l at *
  generalize skiC hr r hi i = cd at *
  generalize skiB hr r hi i = vb at *
  go_enter Try.func13, Try.ntmps13
  go_wp2_with fail
  go_must (go_fit (awake16_any _))
  rintro e w0 ⟨rfl, hb0⟩
  have tb := blk1 hb0
  have bel := bel1 hb0
  clear hb0
  obtain ⟨q0, q1, q2, q3⟩ := cells4 tb
  go_wp2_with fail
  go_must (go_fit (FW.out _))
  rintro e w9 ⟨rfl, hb9⟩
  replace tb := stayK tb hb9
  replace bel := two_belowK bel hb9 bel.size
  clear hb9 q0 q1 q2 q3
  obtain ⟨q0, q1, q2, q3⟩ := cells4 tb
  go_wp2_with fail
  go_must (go_fit (M1.out _))
  rintro e w1 ⟨A1, c1, rfl, o1, hb1⟩
  clear q0 q1 q2 q3
  replace tb := stayK tb hb1
  replace bel := two_belowK bel hb1 bel.size
  have hc1 := Lib.hid o1.cap
  have hm1 := Lib.hid o1.capMax
  have r1 := o1.rd
  clear hb1 o1
  obtain ⟨q0, q1, q2, q3⟩ := cells4 tb
  go_wp2_with fail
  go_must (go_fit (M2.out _))
  rintro e w2 ⟨A2, c2, rfl, o2, hb2⟩
  clear q0 q1 q2 q3
  replace tb := stayK tb hb2
  replace bel := two_belowK bel hb2 bel.size
  replace r1 := r1.past hb2
  have r2 := o2.rd
  clear hb2 o2
  have X1 := Lib.hid (fun dd os => Cur.bytes_any A1 A2 l.length c1 l.length c2 _ _ _ (r1.regrown dd os) (r2.regrown dd os))
  rw [Cur.eqB_self] at X1
  obtain ⟨q0, q1, q2, q3⟩ := four_regrown (cells4 tb)
  have R1 := Lib.hid r1
  have R2 := Lib.hid r2
  clear r1 r2
  by_cases hcd : cd = 0
  · have hvb : vb = true := by rcases HC.out with ⟨_, h⟩ | h; exact h; omega
    subst hcd hvb
    go_upto_region 5 with fail
    refine wp_region_quiet_below (by kernel_rfl) (by kernel_rfl) ?_; (repeat (go_big_quiet_step (first | (go_at_call 27; exact regrown_same (X1.out _ _)) | (go_at_call 63; exact Calls.regrown_of (V1.out _)) | (go_at_call 64; exact Calls.regrown_of (V2.out _))))); refine wpQuiet_nil ?_; intro wq hq; replace hq := Kit.of_regrown hq
    clear q0 q1 q2 q3
    replace tb := stayK tb hq
    replace bel := two_belowK bel hq bel.size
    have r1 := R1.out.past hq
    clear hq
    have PP := Lib.hid (PA.out A1 l.length c1 _ (by simp) wq r1 (Nat.le_refl _) hc1.out hm1.out)
    clear r1
    go_wp2_with fail
    go_must (go_fit PP.out)
    rintro e w3 ⟨rfl, hb3⟩
    replace tb := stayK tb hb3
    replace bel := two_belowK bel hb3 bel.size
    have z3 := Blk_lt tb
    obtain ⟨q0, q1, q2, q3⟩ := cells4 tb
    clear tb hb3
    have bel3 := (bel.alloc bel.size (.cells #[.bool hr, .int .i64 r, .bool hi, .int .i64 i] 71)).alloc (by have := bel.size; simp; omega) (.cells #[.int .i64 0, .int .i64 0] 36)
    go_wp2_with fail
    go_must (go_fit (SA.out _))
    rintro e w4 ⟨rfl, hb4⟩
    go_wp2
    go_ret
    exact ⟨by first | rfl | exact ret_bool (by simp), bel3.trans (hb4.mono bel3.size)⟩
  · have hne : ¬ cd = 0 := hcd
    go_upto_region 5 with fail
    refine wp_region_quiet_below (by kernel_rfl) (by kernel_rfl) ?_; (repeat (go_big_quiet_step (first | (go_at_call 27; exact regrown_same (X1.out _ _)) | (go_at_call 63; exact Calls.regrown_of (V1.out _)) | (go_at_call 64; exact Calls.regrown_of (V2.out _))))); refine wpQuiet_nil ?_; intro wq hq; replace hq := Kit.of_regrown hq
    clear q0 q1 q2 q3
    replace tb := stayK tb hq
    replace bel := two_belowK bel hq bel.size
    have r1 := R1.out.past hq
    have r2 := R2.out.past hq
    clear hq X1
    have X1 := Lib.hid (fun dd os => Cur.bytes_any A1 A2 l.length c1 l.length c2 _ _ _ (r1.regrown dd os) (r2.regrown dd os))
    rw [Cur.eqB_self] at X1
    obtain ⟨q0, q1, q2, q3⟩ := four_regrown (cells4 tb)
    clear r1 r2
    go_upto_region 6 with fail
    refine wp_region_quiet_below (by kernel_rfl) (by kernel_rfl) ?_; (repeat (go_big_quiet_step (first | (go_at_call 27; exact regrown_same (X1.out _ _)) | (go_at_call 63; exact Calls.regrown_of (V1.out _)) | (go_at_call 64; exact Calls.regrown_of (V2.out _))))); refine wpQuiet_nil ?_; intro wq hq; replace hq := Kit.of_regrown hq
    clear q0 q1 q2 q3
    go_wp2
    go_ret
    exact ⟨by first | rfl | exact ret_bool (by simp [*]), two_belowK bel hq bel.size⟩
end Go.Proofs.Ytnpmgofkfdpbjaa
