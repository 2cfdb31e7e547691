/- The walks of law21.awake and of EntryNames. -/
import Derived.Test.YtnpmgofkfdpbjaaEntE
set_option linter.unusedSimpArgs false
set_option linter.unusedVariables false
namespace Go.Proofs.Ytnpmgofkfdpbjaa.Ent
open Go.RowKit Kit Tlv

theorem dl0 : encL 0 false 24 (Clk.genBytes 2000 1 1 0 0 0) = [24, 15, 50, 48, 48, 48, 48, 49, 48, 49, 48, 48, 48, 48, 48, 48, 90] := by decide +kernel

set_option maxRecDepth 100000 in
set_option maxHeartbeats 4000000 in
theorem awake21_any (w : World) : Calls Try.prog 19 #[] w fun e w' => e = .returned (.bool true) ∧ Below w.heap.size w w' := by
  have C1 := Lib.hid (fun (w : World) => marshalR_any 1 w)
  rw [show reasL 1 = [10, 1, 1] from by decide +kernel, show reasC 1 = 0 from by decide +kernel] at C1
  have C2 := Lib.hid (fun (w : World) => mdate_ok 2000 1 1 0 0 0 w (by decide +kernel) (by decide +kernel))
  rw [dl0] at C2
  have C3 := Lib.hid (fun (w : World) => find_any { data := #[114, 101, 109, 111, 118, 101, 70, 114, 111, 109, 67, 82, 76] } w)
  rw [show findV { data := #[114, 101, 109, 111, 118, 101, 70, 114, 111, 109, 67, 82, 76] } = (8, true) from by decide +kernel] at C3
  have C4 := Lib.hid (fun (w : World) => name_any 1 w)
  rw [show nameV 1 = { data := #[107, 101, 121, 67, 111, 109, 112, 114, 111, 109, 105, 115, 101] } from by decide +kernel] at C4
  go_enter Try.func19, Try.ntmps19
  go_wp2_with fail
  refine Calls.mono (C1.out _) ?_
  rintro e w1 ⟨A1, c1, rfl, o1, hb1⟩
  simp only [List.length_cons, List.length_nil, Nat.zero_add, Nat.reduceAdd] at o1 ⊢
  have r1 := o1.rd
  have bel := hb1
  clear o1 hb1 C1
  go_wp2_with fail
  refine Calls.mono (C2.out _) ?_
  rintro e w2 ⟨A2, c2, rfl, o2, hb2⟩
  simp only [List.length_cons, List.length_nil, Nat.zero_add, Nat.reduceAdd] at o2 ⊢
  have r2 := o2.rd
  replace r1 := r1.past hb2
  replace bel := two_belowK bel hb2 bel.size
  clear o2 hb2 C2
  go_wp2_with fail
  refine Calls.mono (C3.out _) ?_
  rintro e w3 ⟨rfl, hb3⟩
  replace r1 := r1.past hb3
  replace r2 := r2.past hb3
  replace bel := two_belowK bel hb3 bel.size
  clear hb3 C3
  go_wp2_with fail
  refine Calls.mono (bytesK _ _ _ _ _ _ [10, 1, 1] [10, 1, 1] _ (r1.allocS _) ?_) ?_
  · (refine litK _ [10, 1, 1] [10, 1, 1] _ _ ?_ ?_ ?_ ?_ <;> first | rfl | decide | (simp; done))
  rw [Cur.eqB_self]
  rintro e w' ⟨rfl, rfl⟩
  replace bel := bel.alloc bel.size (.cells #[.int .u8 10, .int .u8 1, .int .u8 1] 5)
  replace r2 := r2.allocS (.cells #[.int .u8 10, .int .u8 1, .int .u8 1] 5)
  have hst := run_str (P := Try.prog) (c := c2) r2 29 5 9 Try.underlying29 Try.underlying5 Try.underlying9
  clear r1 r2
  go_wp2_with fail
  refine Calls.mono (C4.out _) ?_
  rintro e w4 ⟨rfl, hb4⟩
  replace bel := two_belowK bel hb4 bel.size
  clear hb4 hst
  go_wp2_with fail
  go_ret
  exact ⟨(by first | rfl | exact ret_bool (by simp)), bel⟩
end Go.Proofs.Ytnpmgofkfdpbjaa.Ent
