/- Walks: Valid, Marshal and MarshalDate of entry; law21.awake. -/
import Derived.Test.YtnpmgofkfdpbjaaEntC
import Derived.Test.YtnpmgofkfdpbjaaElA
import Derived.Test.YtnpmgofkfdpbjaaIntH
import Derived.Test.YtnpmgofkfdpbjaaClkB
import Derived.Test.YtnpmgofkfdpbjaaLit
set_option linter.unusedSimpArgs false
set_option linter.unusedVariables false
namespace Go.Proofs.Ytnpmgofkfdpbjaa.Ent
open Go.RowKit Kit Tlv

theorem nameV_empty (r : Int) : (validR r = true → ¬ nameV r = { data := #[] }) ∧ (validR r = false → nameV r = { data := #[] }) := by
  refine ⟨fun h => ?_, nameV_bad⟩
  unfold validR at h
  rw [decide_eq_true_eq] at h
  obtain ⟨k, rfl⟩ := Int.eq_ofNat_of_zero_le h.1
  rw [nameV_ok (by omega)]
  exact fun h' => by have := (nmS_empty k (by omega)).1 h'; omega

set_option maxHeartbeats 1000000 in
theorem validR_any (r : Int) (w : World) : Calls Try.prog 35 #[.int .i64 r] w fun e w' => e = .returned (.bool (validR r)) ∧ Below w.heap.size w w' := by
  have N := Lib.hid (fun w => name_any r w)
  obtain ⟨h1, h2⟩ := nameV_empty r
  cases hv : validR r with
  | false =>
    rw [h2 hv] at N
    clear h1 h2 hv
    go_enter Try.func35, Try.ntmps35
    go_wp2_with (go_at_call 20; refine (N.out _).mono ?_; rintro e w1 ⟨rfl, hb⟩)
    go_ret
    exact ⟨rfl, hb⟩
  | true =>
    have hs := str_some (h1 hv)
    clear h1 h2 hv
    generalize nameV r = t at *
    go_enter Try.func35, Try.ntmps35
    go_wp2_with (go_at_call 20; refine (N.out _).mono ?_; rintro e w1 ⟨rfl, hb⟩)
    go_ret
    exact ⟨(by first | rfl | exact ret_bool (by simp [hs])), hb⟩
/-- the encoding of a reason -/
def reasL (r : Int) : List UInt8 := if validR r = true then [10, 1, ofI r] else []
def reasC (r : Int) : Int := if validR r = true then 0 else 8
theorem reas_enc {r : Int} (h : validR r = true) : encL 0 false 10 (Int4.intL r) = reasL r ∧ encCode 0 10 (Int4.intL r).length = 0 ∧ (Int4.intL r).length = 1 := by
  have h' := h
  unfold validR at h'
  rw [decide_eq_true_eq] at h'
  have e : Int4.intL r = [ofI (r % 256)] := Int4.intL_small (by omega)
  rw [e, show r % 256 = r from by omega]
  have hc : encCode 0 10 ([ofI r] : List UInt8).length = 0 := by rw [show ([ofI r] : List UInt8).length = 1 from rfl]; decide
  refine ⟨?_, hc, rfl⟩
  unfold reasL
  rw [if_pos h, (enc_ok false [ofI r] (by decide) (by rw [show ([ofI r] : List UInt8).length = 1 from rfl]; decide)).1]
  rw [show ([ofI r] : List UInt8).length = 1 from rfl, show lenL ((1 : Nat) : Int) = [1] from by decide +kernel, show idByte 0 false 10 = 10 from by decide]
  rfl
/-- what Marshal returns -/
def MarP (w : World) (u : List UInt8) (cd : Int) (e : Ending) (w' : World) : Prop :=
  ∃ A' c', e = .returned (.tuple #[.slice A' u.length c', .int .i64 cd]) ∧ Own w' w.heap.size A' u.length c' u ∧ Below w.heap.size w w'

set_option maxHeartbeats 2000000 in
theorem marshalR_any (r : Int) (w : World) : Calls Try.prog 31 #[.int .i64 r] w (MarP w (reasL r) (reasC r)) := by
  have V := Lib.hid (fun w => validR_any r w)
  cases hv : validR r with
  | false =>
    have F := Lib.hid (show reasL r = [] ∧ reasC r = 8 from by unfold reasL reasC; simp [hv])
    rw [hv] at V
    clear hv
    go_enter Try.func31, Try.ntmps31
    go_wp2_with (go_at_call 35; refine (V.out _).mono ?_; rintro e w1 ⟨rfl, hb⟩)
    go_ret2
    unfold MarP
    rw [F.out.1, F.out.2]
    exact ⟨none, 0, rfl, Own.none_ _ _, hb⟩
  | true =>
    obtain ⟨f1, f2, f3⟩ := reas_enc hv
    have F := Lib.hid (show reasC r = 0 from by unfold reasC; rw [if_pos hv])
    have F1 := Lib.hid f1
    have F2 := Lib.hid f2
    have F3 := Lib.hid f3
    rw [hv] at V
    unfold validR at hv
    rw [decide_eq_true_eq] at hv
    have FI := Lib.hid (fun w => Int4.fromint_any r w (by omega) (by omega))
    obtain ⟨u, hu⟩ : ∃ u, Int4.intL r = u := ⟨_, rfl⟩
    rw [hu] at FI F1 F2 F3
    clear hv f1 f2 f3 hu
    go_enter Try.func31, Try.ntmps31
    go_wp2_with fail
    refine (V.out _).mono ?_
    rintro e w1 ⟨rfl, hb1⟩
    go_wp2_with fail
    refine (FI.out _).mono ?_
    rintro e w2 ⟨A2, c2, rfl, r2, _, _, hb2⟩
    have bel := hb1.trans (hb2.mono hb1.size)
    have z := bel.size
    have W := Lib.hid (fun cc => wrap_any 0 10 false _ (cat_one (cc := cc) (t := 29) w2 w2.heap.size (c := c2) r2 (Nat.le_refl _) rfl (by have := F3.out; omega)) (by have := F3.out; omega))
    clear r2 hb1 hb2 V FI
    go_wp2_with fail
    refine (W.out _).mono ?_
    rintro e w3 ⟨A3, c3, rfl, o3, hb3⟩
    go_wp2_with fail
    go_ret2
    unfold MarP
    rw [F.out, ← F1.out]
    refine ⟨A3, c3, by rw [F2.out]; rfl, o3.mono (by simp; omega), (bel.alloc z _).trans (hb3.mono (by simp; omega))⟩
/-- the encoding of a date -/
def dateC (y m d h mi s : Int) : Int := if Clk.genCode y m d h mi s = 0 then 0 else 8
def dateL (y m d h mi s : Int) : List UInt8 := if Clk.genCode y m d h mi s = 0 then encL 0 false 24 (Clk.genBytes y m d h mi s) else []
end Go.Proofs.Ytnpmgofkfdpbjaa.Ent
