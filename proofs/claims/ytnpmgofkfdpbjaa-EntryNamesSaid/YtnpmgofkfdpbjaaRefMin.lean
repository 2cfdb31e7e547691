/- The walk of the reference's Minimal. -/
import Derived.Test.YtnpmgofkfdpbjaaCurE
set_option linter.unusedSimpArgs false
set_option linter.unusedVariables false
namespace Go.Proofs.Ytnpmgofkfdpbjaa.Cur
open Go.RowKit Kit

set_option maxHeartbeats 1000000 in
theorem refminimal_any (v : Nat) : ∀ (w : World), v < W64 →
    Calls Try.prog 158 #[.int .u64 (v : Int)] w fun e w' => ∃ A c, e = .returned (.slice A (minL v).length c) ∧ Own w' w.heap.size A (minL v).length c (minL v) ∧ Below w.heap.size w w' := by
  induction v using Nat.strongRecOn with
  | ind v ih =>
    intro w hv
    have HV := Lib.hid hv
    by_cases hs : v < 256
    · have E := Lib.hid (minL_small hs)
      have HS := Lib.hid hs
      have hs' : (v : Int) < 256 := by omega
      clear hv ih hs
      go_enter Try.func158, Try.ntmps158
      go_wp2
      go_ret
      rw [E.out]
      refine ⟨_, _, rfl, ?_, (by repeat' (first | (with_reducible exact Below.refl _ _) | (with_reducible assumption) | (with_reducible refine below_drewN ?_ _) | (with_reducible refine Below.drew ?_) | (with_reducible refine Below.alloc ?_ ?_ _) | (with_reducible refine Below.setCell ?_ ?_ _) | go_size))⟩
      have := Own.lit (base := w.heap.size) w [UInt8.ofNat v] (Nat.le_refl _) (by simp [maxLen])
      have e : vs [UInt8.ofNat v] = [Value.int .u8 ((v : Int) % 256)] := by
        have := vs_ofI [(v : Int) % 256] (in1 (by omega) (by omega))
        rw [← minL_small HS.out, ← ofI_div v HS.out]; exact this
      rw [e] at this
      simpa [Int.emod_eq_of_lt (by omega : (0 : Int) ≤ v) (by omega : (v : Int) < 256)] using this
    · have E := Lib.hid (minL_big (by omega) hv)
      have hd : v / 256 < W64 := by unfold W64 at hv ⊢; omega
      have IH := Lib.hid (fun w => ih (v / 256) (by omega) w hd)
      rw [show (((v / 256 : Nat)) : Int) = (v : Int) / 256 from by omega] at IH
      have hl := (minL_len (v / 256)).2
      have hs' : ¬ (v : Int) < 256 := by omega
      have hv1 : (v : Int) ≤ 18446744073709551615 := by unfold W64 at hv; omega
      clear hv ih hd hs
      go_enter Try.func158, Try.ntmps158
      go_wp2_with (first | (go_at_call 158; refine (IH.out _).mono ?_; rintro e w1 ⟨A, c, rfl, ho, hb⟩) | (at_builtin; refine appL [(v : Int) % 256] rfl (.tmp 10) (.tmp 14) rfl rfl ho rfl (in1 (by omega) (by omega)) (by simp; omega) hb.size ?_; intro A' c' w2 ho' hg' hb' hs'))
      go_ret
      have el : (minL v).length = (minL (v / 256)).length + 1 := by rw [E.out]; simp
      rw [el]
      refine ⟨A', c', rfl, ?_, hb.trans hb'⟩
      rw [E.out, ← ofI_mod]
      exact ho'
end Go.Proofs.Ytnpmgofkfdpbjaa.Cur
