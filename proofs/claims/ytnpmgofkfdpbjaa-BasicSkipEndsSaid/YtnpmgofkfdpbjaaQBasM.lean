/- The walk of BasicMarshals. -/
import Derived.Test.YtnpmgofkfdpbjaaKS
import Derived.Test.YtnpmgofkfdpbjaaKA
set_option linter.unusedSimpArgs false
set_option linter.unusedVariables false
namespace Go.Proofs.Ytnpmgofkfdpbjaa
open Go.RowKit Kit Tlv Bas Go.Sort

theorem Bas.bparse_back {A : Option Addr} {n c B : Nat} {ca hp : Bool} {p : Int} (hv : basB ca hp p = true) (w : World) (hr : Rd w B A n (basL ca hp p)) (hB : B ≤ w.heap.size) (hc : n ≤ c) (hm : c ≤ maxLen) :
    Calls Try.prog 48 #[.slice A n c] w fun e w' => e = .returned (bpR ca hp p 0 0) ∧ Below w.heap.size w w' := by
  have hl := hr.len
  have hlen := basP_len (ca := ca) (hp := hp) (basB_iff.1 hv).1
  have hle : (basL ca hp p).length ≤ 100 := by
    rw [(bas_yes hv).2, enc_len (seq_code (by omega))]
    have := len_bd ((basP ca hp p).length : Int)
    omega
  rcases bparse_any w hr hB hc hm (by omega) with ⟨ca', hp', p', hv', e, hC⟩ | ⟨hno, _⟩
  · obtain ⟨els, h1, h2⟩ := bas_fwd hv
    obtain ⟨els', h1', h2'⟩ := bas_fwd hv'
    rw [← e, h1] at h1'
    injection h1' with h3 _
    rw [← e, ← h3, h2] at h2'
    have : ca = ca' ∧ hp = hp' ∧ p = p' := by
      have b1 := basB_iff.1 hv
      have b2 := basB_iff.1 hv'
      cases ca <;> cases hp <;> cases ca' <;> cases hp' <;> simp [basS] at h2' b1 b2 ⊢ <;> try (obtain ⟨_, rfl⟩ := b1; obtain ⟨_, rfl⟩ := b2; rfl)
      exact intL_inj b1 b2 h2'
    obtain ⟨rfl, rfl, rfl⟩ := this
    exact hC
  · exact absurd rfl (hno _ _ _ hv)
theorem Bas.bas_len (ca hp : Bool) (p : Int) : (basL ca hp p).length ≤ 100 := by
  cases hv : basB ca hp p with
  | false => rw [(bas_no hv).2]; simp
  | true =>
    have hlen := basP_len (ca := ca) (hp := hp) (basB_iff.1 hv).1
    rw [(bas_yes hv).2, enc_len (seq_code (by omega))]
    have := len_bd ((basP ca hp p).length : Int)
    omega
/-- three cells, in every world of the class -/
theorem Bas.three_regrown {w : World} {b : Nat} {x0 x1 x2 : Value} (h : w.cell? ⟨b, 0, none⟩ = some x0 ∧ w.cell? ⟨b, 1, none⟩ = some x1 ∧ w.cell? ⟨b, 2, none⟩ = some x2) :
    (∀ d os, (grow (redrawn w d) os).cell? ⟨b, 0, none⟩ = some x0) ∧ (∀ d os, (grow (redrawn w d) os).cell? ⟨b, 1, none⟩ = some x1) ∧ (∀ d os, (grow (redrawn w d) os).cell? ⟨b, 2, none⟩ = some x2) :=
  ⟨cell_regrown h.1, cell_regrown h.2.1, cell_regrown h.2.2⟩

set_option maxHeartbeats 1000000 in
theorem Bas.few_any (ca hp : Bool) (p : Int) (w : World) : Calls Try.prog 43 #[.agg #[.bool ca, .bool hp, .int .i64 p]] w fun e w' => e = .returned (.bool true) ∧ Below w.heap.size w w' := by
  go_enter Try.func43, Try.ntmps43
  go_wp2
  go_ret
  exact ⟨rfl, (by repeat' (first | (with_reducible exact Below.refl _ _) | (with_reducible assumption) | (with_reducible refine below_drewN ?_ _) | (with_reducible refine Below.drew ?_) | (with_reducible refine Below.alloc ?_ ?_ _) | (with_reducible refine Below.setCell ?_ ?_ _) | go_size))⟩
set_option maxHeartbeats 1000000 in
theorem Bas.same_any (ca hp : Bool) (p : Int) (w : World) : Calls Try.prog 49 #[.agg #[.bool ca, .bool hp, .int .i64 p], .agg #[.bool ca, .bool hp, .int .i64 p]] w fun e w' => e = .returned (.bool true) ∧ Below w.heap.size w w' := by
  go_enter Try.func49, Try.ntmps49
  go_wp2
  go_ret
  exact ⟨by first | rfl | exact ret_bool (by simp), (by repeat' (first | (with_reducible exact Below.refl _ _) | (with_reducible assumption) | (with_reducible refine below_drewN ?_ _) | (with_reducible refine Below.drew ?_) | (with_reducible refine Below.alloc ?_ ?_ _) | (with_reducible refine Below.setCell ?_ ?_ _) | go_size))⟩

set_option maxRecDepth 100000 in
set_option maxHeartbeats 3000000 in
theorem BasicMarshals.walk (ca hp : Bool) (p : Int) (w : World) : Calls Try.prog 7 #[.agg #[.bool ca, .bool hp, .int .i64 p]] w fun e w' => e = .returned (.bool true) ∧ Below w.heap.size w w' := by
  have M1 := Lib.hid (fun w => marb_any ca hp p w)
  have M2 := Lib.hid (fun w => refmarb_any ca hp p w)
  have V1 := Lib.hid (fun w => validb_any ca hp p w)
  have V2 := Lib.hid (fun w => refvalidb_any ca hp p w)
  have FW := Lib.hid (fun w => few_any ca hp p w)
  have SA := Lib.hid (fun w => same_any ca hp p w)
  have PA := Lib.hid (fun (A : Option Addr) (n c B : Nat) (hv : basB ca hp p = true) (X : World) (hr : Rd X B A n (basL ca hp p)) hB hc hm => bparse_back (c := c) hv X hr hB hc hm)
  have HC := Lib.hid (show basC ca hp p = 0 ∧ basB ca hp p = true ∨ basC ca hp p = 8 from by unfold basC; split <;> simp [*])
  have LL := Lib.hid (bas_len ca hp p)
  generalize basL ca hp p = l at *
  generalize basC ca hp p = cd at *
  generalize basB ca hp p = vb at *
  go_enter Try.func7, Try.ntmps7
  go_wp2_with fail
  go_must (go_fit (awake16_any _))
  rintro e w0 ⟨rfl, hb0⟩
  have tb := blk1 hb0
  have bel := bel1 hb0
  clear hb0
  obtain ⟨q0, q1, q2⟩ := cells3 tb
  go_wp2_with fail
  go_must (go_fit (FW.out _))
  rintro e w9 ⟨rfl, hb9⟩
  replace tb := stayK tb hb9
  replace bel := two_belowK bel hb9 bel.size
  clear hb9 q0 q1 q2
  obtain ⟨q0, q1, q2⟩ := cells3 tb
  go_wp2_with fail
  go_must (go_fit (M1.out _))
  rintro e w1 ⟨A1, c1, rfl, o1, hb1⟩
  clear q0 q1 q2
  replace tb := stayK tb hb1
  replace bel := two_belowK bel hb1 bel.size
  have hc1 := Lib.hid o1.cap
  have hm1 := Lib.hid o1.capMax
  have r1 := o1.rd
  clear hb1 o1
  obtain ⟨q0, q1, q2⟩ := cells3 tb
  go_wp2_with fail
  go_must (go_fit (M2.out _))
  rintro e w2 ⟨A2, c2, rfl, o2, hb2⟩
  clear q0 q1 q2
  replace tb := stayK tb hb2
  replace bel := two_belowK bel hb2 bel.size
  replace r1 := r1.past hb2
  have r2 := o2.rd
  clear hb2 o2
  have X1 := Lib.hid (fun dd os => Cur.bytes_any A1 A2 l.length c1 l.length c2 _ _ _ (r1.regrown dd os) (r2.regrown dd os))
  rw [Cur.eqB_self] at X1
  obtain ⟨q0, q1, q2⟩ := three_regrown (cells3 tb)
  have R1 := Lib.hid r1
  have R2 := Lib.hid r2
  clear r1 r2
  by_cases hcd : cd = 0
  · have hvb : vb = true := by rcases HC.out with ⟨_, h⟩ | h; exact h; omega
    subst hcd hvb
    go_upto_region 5 with fail
    refine wp_region_quiet_below (by kernel_rfl) (by kernel_rfl) ?_; (repeat (go_big_quiet_step (first | (go_at_call 27; exact regrown_same (X1.out _ _)) | (go_at_call 46; exact Calls.regrown_of (V1.out _)) | (go_at_call 47; exact Calls.regrown_of (V2.out _))))); refine wpQuiet_nil ?_; intro wq hq; replace hq := Kit.of_regrown hq
    clear q0 q1 q2
    replace tb := stayK tb hq
    replace bel := two_belowK bel hq bel.size
    have r1 := R1.out.past hq
    clear hq
    have PP := Lib.hid (PA.out A1 l.length c1 _ (by simp) wq r1 (Nat.le_refl _) hc1.out hm1.out)
    clear r1
    go_wp2_with fail
    go_must (go_fit PP.out)
    rintro e w3 ⟨rfl, hb3⟩
    replace tb := stayK tb hb3
    replace bel := two_belowK bel hb3 bel.size
    have z3 := Blk_lt tb
    obtain ⟨q0, q1, q2⟩ := cells3 tb
    clear tb hb3
    have bel3 := (bel.alloc bel.size (.cells #[.bool ca, .bool hp, .int .i64 p] 50)).alloc (by have := bel.size; simp; omega) (.cells #[.int .i64 0, .int .i64 0] 36)
    go_wp2_with fail
    go_must (go_fit (SA.out _))
    rintro e w4 ⟨rfl, hb4⟩
    go_wp2
    go_ret
    exact ⟨by first | rfl | exact ret_bool (by simp), bel3.trans (hb4.mono bel3.size)⟩
  · have hne : ¬ cd = 0 := hcd
    go_upto_region 5 with fail
    refine wp_region_quiet_below (by kernel_rfl) (by kernel_rfl) ?_; (repeat (go_big_quiet_step (first | (go_at_call 27; exact regrown_same (X1.out _ _)) | (go_at_call 46; exact Calls.regrown_of (V1.out _)) | (go_at_call 47; exact Calls.regrown_of (V2.out _))))); refine wpQuiet_nil ?_; intro wq hq; replace hq := Kit.of_regrown hq
    clear q0 q1 q2
    replace tb := stayK tb hq
    replace bel := two_belowK bel hq bel.size
    have r1 := R1.out.past hq
    have r2 := R2.out.past hq
    clear hq X1
    have X1 := Lib.hid (fun dd os => Cur.bytes_any A1 A2 l.length c1 l.length c2 _ _ _ (r1.regrown dd os) (r2.regrown dd os))
    rw [Cur.eqB_self] at X1
    obtain ⟨q0, q1, q2⟩ := three_regrown (cells3 tb)
    clear r1 r2
    go_upto_region 6 with fail
    refine wp_region_quiet_below (by kernel_rfl) (by kernel_rfl) ?_; (repeat (go_big_quiet_step (first | (go_at_call 27; exact regrown_same (X1.out _ _)) | (go_at_call 46; exact Calls.regrown_of (V1.out _)) | (go_at_call 47; exact Calls.regrown_of (V2.out _))))); refine wpQuiet_nil ?_; intro wq hq; replace hq := Kit.of_regrown hq
    clear q0 q1 q2
    go_wp2
    go_ret
    exact ⟨by first | rfl | exact ret_bool (by simp [*]), two_belowK bel hq bel.size⟩
end Go.Proofs.Ytnpmgofkfdpbjaa
