/- The walk of cretulalaw04.awake. -/
import Derived.Test.YtiogcdpmgomllaaIntK
import Derived.Test.YtiogcdpmgomllaaIntH
import Derived.Test.YtiogcdpmgomllaaLit
set_option linter.unusedSimpArgs false
set_option linter.unusedVariables false
namespace Go.Proofs.Ytiogcdpmgomllaa.Int4
open Go.RowKit Kit Tlv

theorem dec256 : decI [1, 0] = [50, 53, 54] := by
  have e1 : Cur.be [1, 0] = 256 := by decide +kernel
  unfold decI
  rw [if_neg (by decide +kernel), if_neg (by decide +kernel), e1, decL_big (by omega), decL_big (by omega), decL_small (by omega)]
  decide +kernel

set_option maxRecDepth 100000 in
set_option maxHeartbeats 4000000 in
theorem awake4_any (w : World) : Calls Try.prog 4 #[] w fun e w' => e = .returned (.bool true) ∧ Below w.heap.size w w' := by
  have C1 := Lib.hid (fun (w : World) (A : Option Addr) (h : Rd w w.heap.size A 1 [255]) => boolean_any (c := 1) w h (Nat.le_refl _))
  rw [show boolV [255] = true from by decide +kernel, show boolC [255] = 0 from by decide +kernel] at C1
  have C2 := Lib.hid (fun (w : World) (A : Option Addr) (h : Rd w w.heap.size A 2 [255, 127]) => int_any (c := 2) w h (Nat.le_refl _) (Nat.le_refl _))
  rw [show intV [255, 127] = -129 from by decide +kernel, show intOk [255, 127] = true from by decide +kernel] at C2
  have C3 := Lib.hid (fun (w : World) => fromint_any 128 w (by omega) (by omega))
  rw [show intL 128 = [0, 128] from by decide +kernel] at C3
  have C4 := Lib.hid (fun (w : World) => fromint_any (-128) w (by omega) (by omega))
  rw [show intL (-128) = [128] from by decide +kernel] at C4
  have C5 := Lib.hid (fun (w : World) (A : Option Addr) (h : Rd w w.heap.size A 2 [0, 127]) => valid_any (c := 2) w h (Nat.le_refl _))
  rw [show validI [0, 127] = false from by decide +kernel] at C5
  have C6 := Lib.hid (fun (w : World) (A : Option Addr) (h : Rd w w.heap.size A 2 [255, 128]) => valid_any (c := 2) w h (Nat.le_refl _))
  rw [show validI [255, 128] = false from by decide +kernel] at C6
  have C7 := Lib.hid (fun (w : World) (A : Option Addr) (h : Rd w w.heap.size A 1 [255]) => fromuns_any (c := 1) w h (Nat.le_refl _) (Nat.le_refl _) (by unfold maxLen; omega) (by omega))
  rw [show unsL [255] = [0, 255] from by decide +kernel] at C7
  have C8 := Lib.hid (fun (w : World) (A : Option Addr) (h : Rd w w.heap.size A 2 [1, 0]) => decimal_any (c := 2) w h (Nat.le_refl _) (Nat.le_refl _) (by unfold maxLen; omega) (by omega))
  rw [dec256] at C8
  go_enter Try.func4, Try.ntmps4
  go_wp2_with fail
  refine Calls.mono (C1.out _ _ ?_) ?_
  · (refine litK _ [255] [255] _ _ ?_ ?_ ?_ ?_ <;> first | rfl | decide | (simp; done))
  rintro e w1 ⟨rfl, rfl⟩
  go_wp2_with fail
  refine Calls.mono (C2.out _ _ ?_) ?_
  · (refine litK _ [255, 127] [255, 127] _ _ ?_ ?_ ?_ ?_ <;> first | rfl | decide | (simp; done))
  rintro e w1 ⟨rfl, rfl⟩
  go_wp2_with fail
  refine Calls.mono (C3.out _) ?_
  rintro e w1 ⟨A1, c1, rfl, r1, _, _, hb1⟩
  simp only [List.length_cons, List.length_nil, Nat.zero_add, Nat.reduceAdd] at r1 ⊢
  have bel : Below w.heap.size w w1 := ((((Below.refl _ _).alloc (Nat.le_refl _) _).alloc (by simp) _).trans (hb1.mono (by simp; omega)))
  clear hb1 C1 C2 C3
  go_wp2_with fail
  refine Calls.mono (bytesK _ _ _ _ _ _ [0, 128] [0, 128] _ (r1.allocS _) ?_) ?_
  · (refine litK _ [0, 128] [0, 128] _ _ ?_ ?_ ?_ ?_ <;> first | rfl | decide | (simp; done))
  rw [Cur.eqB_self]
  rintro e w' ⟨rfl, rfl⟩
  have z1 := bel.size
  replace bel := bel.alloc z1 (.cells #[.int .u8 0, .int .u8 128] 5)
  clear r1
  go_wp2_with fail
  refine Calls.mono (C4.out _) ?_
  rintro e w2 ⟨A2, c2, rfl, r2, _, _, hb2⟩
  simp only [List.length_cons, List.length_nil, Nat.zero_add, Nat.reduceAdd] at r2 ⊢
  replace bel := two_belowK bel hb2 bel.size
  clear hb2 C4
  go_wp2_with fail
  refine Calls.mono (bytesK _ _ _ _ _ _ [128] [128] _ (r2.allocS _) ?_) ?_
  · (refine litK _ [128] [128] _ _ ?_ ?_ ?_ ?_ <;> first | rfl | decide | (simp; done))
  rw [Cur.eqB_self]
  rintro e w' ⟨rfl, rfl⟩
  have z2 := bel.size
  replace bel := bel.alloc z2 (.cells #[.int .u8 128] 5)
  clear r2
  go_wp2_with fail
  refine Calls.mono (C5.out _ _ ?_) ?_
  · (refine litK _ [0, 127] [0, 127] _ _ ?_ ?_ ?_ ?_ <;> first | rfl | decide | (simp; done))
  rintro e w' ⟨rfl, rfl⟩
  replace bel := bel.alloc bel.size (.cells #[.int .u8 0, .int .u8 127] 5)
  go_wp2_with fail
  refine Calls.mono (C6.out _ _ ?_) ?_
  · (refine litK _ [255, 128] [255, 128] _ _ ?_ ?_ ?_ ?_ <;> first | rfl | decide | (simp; done))
  rintro e w' ⟨rfl, rfl⟩
  replace bel := bel.alloc bel.size (.cells #[.int .u8 255, .int .u8 128] 5)
  go_wp2_with fail
  refine Calls.mono (C7.out _ _ ?_) ?_
  · (refine litK _ [255] [255] _ _ ?_ ?_ ?_ ?_ <;> first | rfl | decide | (simp; done))
  rintro e w3 ⟨A3, c3, rfl, o3, hb3⟩
  simp only [List.length_cons, List.length_nil, Nat.zero_add, Nat.reduceAdd] at o3 ⊢
  have r3 := o3.rd
  replace bel := two_belowK (bel.alloc bel.size (.cells #[.int .u8 255] 5)) hb3 (bel.alloc bel.size (.cells #[.int .u8 255] 5)).size
  clear hb3 o3 C5 C6 C7
  go_wp2_with fail
  refine Calls.mono (bytesK _ _ _ _ _ _ [0, 255] [0, 255] _ (r3.allocS _) ?_) ?_
  · (refine litK _ [0, 255] [0, 255] _ _ ?_ ?_ ?_ ?_ <;> first | rfl | decide | (simp; done))
  rw [Cur.eqB_self]
  rintro e w' ⟨rfl, rfl⟩
  have z3 := bel.size
  replace bel := bel.alloc z3 (.cells #[.int .u8 0, .int .u8 255] 5)
  clear r3
  go_wp2_with fail
  refine Calls.mono (C8.out _ _ ?_) ?_
  · (refine litK _ [1, 0] [1, 0] _ _ ?_ ?_ ?_ ?_ <;> first | rfl | decide | (simp; done))
  rintro e w4 ⟨rfl, hb4⟩
  replace bel := two_belowK (bel.alloc bel.size (.cells #[.int .u8 1, .int .u8 0] 5)) hb4 (bel.alloc bel.size (.cells #[.int .u8 1, .int .u8 0] 5)).size
  go_wp2_with fail
  go_ret
  exact ⟨(by first | rfl | exact ret_bool (by simp)), bel⟩
end Go.Proofs.Ytiogcdpmgomllaa.Int4
