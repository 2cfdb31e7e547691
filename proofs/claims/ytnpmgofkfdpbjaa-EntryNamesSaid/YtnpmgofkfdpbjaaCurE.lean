/- Walks: minimal digits of a number, in the package cursor and in its reference. -/
import Derived.Test.YtnpmgofkfdpbjaaCurD
set_option linter.unusedSimpArgs false
set_option linter.unusedVariables false
namespace Go.Proofs.Ytnpmgofkfdpbjaa.Cur
open Go.RowKit Kit

theorem ofI_mod (x : Nat) : ofI ((x : Int) % 256) = UInt8.ofNat (x % 256) := by
  unfold ofI; congr 1
theorem ofI_div (x : Nat) (h : x < 256) : [ofI ((x : Int) % 256)] = minL x := by
  rw [minL_small h, ofI_mod, Nat.mod_eq_of_lt h]

/-- the loop of Minimal: the digits above, and those gathered below -/
def Gath (v x : Nat) (m : List UInt8) : Prop := if x = 0 then m.reverse = minL v else minL x ++ m.reverse = minL v
theorem gath_start {v : Nat} (hv : v < W64) : Gath v (v / 256) [ofI ((v : Int) % 256)] := by
  unfold Gath
  by_cases h : v < 256
  · rw [if_pos (by omega), List.reverse_singleton, ofI_div v h]
  · rw [if_neg (by omega), List.reverse_singleton, ofI_mod, ← minL_big (by omega) hv]
theorem gath_step {v x : Nat} {m : List UInt8} (h : Gath v x m) (hx : 0 < x) (hv : x < W64) : Gath v (x / 256) (m ++ [ofI ((x : Int) % 256)]) := by
  unfold Gath at h ⊢
  rw [if_neg (by omega)] at h
  rw [List.reverse_append, List.reverse_singleton]
  by_cases hs : x < 256
  · rw [if_pos (by omega), ofI_div x hs, h]
  · rw [if_neg (by omega), ← List.append_assoc, ofI_mod, ← minL_big (by omega) hv, h]
theorem gath_len {v x : Nat} {m : List UInt8} (h : Gath v x m) : m.length ≤ 8 := by
  unfold Gath at h
  have hl := (minL_len v).2
  split at h
  · rw [← h] at hl; simpa using hl
  · rw [← h] at hl; simp at hl; omega
theorem gath_end {v : Nat} {m : List UInt8} (h : Gath v 0 m) : m.reverse = minL v := by unfold Gath at h; simpa using h

set_option maxHeartbeats 1000000 in
theorem minimal_any (v : Nat) (w : World) (hv : v < W64) :
    Calls Try.prog 164 #[.int .u64 (v : Int)] w fun e w' => ∃ A c, e = .returned (.slice A (minL v).length c) ∧ Own w' w.heap.size A (minL v).length c (minL v) ∧ Below w.heap.size w w' := by
  have HV := Lib.hid hv
  have hv1 : v ≤ 18446744073709551615 := by unfold W64 at hv; omega
  clear hv
  go_enter Try.func164, Try.ntmps164
  go_wp2
  go_loopw [0, 3] (fun x o wr => ∃ (x' : Nat) (A : Option Addr) (n c : Nat) (m : List UInt8), x = .int .u64 (x' : Int) ∧ o = .slice A n c ∧ 1 ≤ n ∧ x' ≤ v ∧ Own wr w.heap.size A n c m ∧ Below w.heap.size w wr ∧ Gath v x' m)
     (fun x _ _ => (intOf x).toNat)
  case atStart =>
    refine ⟨v / 256, _, 1, 1, _, by simp, rfl, Nat.le_refl _, Nat.div_le_self _ _, ?_, (by repeat' (first | (with_reducible exact Below.refl _ _) | (with_reducible assumption) | (with_reducible refine below_drewN ?_ _) | (with_reducible refine Below.drew ?_) | (with_reducible refine Below.alloc ?_ ?_ _) | (with_reducible refine Below.setCell ?_ ?_ _) | go_size)), gath_start HV.out⟩
    have := Own.lit (base := w.heap.size) w [ofI ((v : Int) % 256)] (Nat.le_refl _) (by simp [maxLen])
    rw [show vs [ofI ((v : Int) % 256)] = [(v : Int) % 256].map (Value.int .u8) from vs_ofI [(v : Int) % 256] (in1 (by omega) (by omega))] at this
    exact this
  case round =>
    obtain ⟨x, A, n, c, m, rfl, rfl, hn1, hx, ho, hb, HM⟩ := hrel
    have hl := gath_len HM
    rw [ho.len] at hl
    by_cases hlt : 0 < x
    · have HM' := gath_step HM hlt (by have := HV.out; unfold W64 at this ⊢; omega)
      clear HM
      go_wp2_with (first | (at_builtin; refine appL [(x : Int) % 256] rfl (.tmp 13) (.tmp 16) rfl rfl ho rfl (in1 (by omega) (by omega)) (by simp; omega) hb.size ?_; intro A' c' w' ho' hg' hb' hs'))
      go_roundw
      case rel => exact ⟨x / 256, _, _, _, _, by simp, rfl, by omega, by omega, ho', hb.trans hb', HM'⟩
      case measure => simp [intOf]; omega
    · obtain rfl : x = 0 := by omega
      have E := Lib.hid (gath_end HM)
      obtain ⟨g, rfl⟩ := ho.shape (by omega)
      have el : n = (minL v).length := by rw [← E.out, List.length_reverse, ho.len]
      subst el
      have hlt := ho.lt
      clear HM hlt
      go_wp2_with (first | (go_at_call 168; refine (reverse_any _ _ _ _ _ _ ho).mono ?_; rintro e w' ⟨rfl, ho', hg'⟩))
      go_ret
      refine ⟨_, _, rfl, by rw [E.out] at ho'; exact ho', ?_⟩
      exact hb.grown hg' hb.size (fun k hk => by injection hk with hk; rw [← hk]; exact ho.lt.1)
end Go.Proofs.Ytnpmgofkfdpbjaa.Cur
