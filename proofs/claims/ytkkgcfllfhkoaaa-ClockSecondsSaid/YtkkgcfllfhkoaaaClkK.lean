/- Walks: the reference's number and fields. -/
import Derived.Test.YtkkgcfllfhkoaaaPlClkD
import Derived.Test.YtkkgcfllfhkoaaaClkJ
set_option linter.unusedSimpArgs false
set_option linter.unusedVariables false
namespace Go.Proofs.Ytkkgcfllfhkoaaa.Clk
open Go.RowKit Kit

theorem numF_end (l : List UInt8) (p k : Nat) (h : l.length ≤ p + k) : ∀ c, k ≤ c → numF l p c = numF l p k
  | 0, hc => by have : k = 0 := by omega
                subst this; rfl
  | c + 1, hc => by
    rcases Nat.lt_or_ge c k with hlt | hge
    · have : k = c + 1 := by omega
      subst this; rfl
    · rw [numF, if_neg (by omega)]; exact numF_end l p k h c hge

set_option maxHeartbeats 1000000 in
theorem number_any {A : Option Addr} {n cp B : Nat} {l : List UInt8} (p c : Nat) (w : World) (hr : Rd w B A n l) (hc : c ≤ 4) (hp : p ≤ 1000) (hn : n ≤ 1000) :
    Calls Try.prog 57 #[.slice A n cp, .int .i64 (p : Int), .int .i64 (c : Int)] w fun e w' => e = .returned (.int .i64 (numF l p c)) ∧ ∃ m, w' = w.drewN m := by
  have hl := hr.len
  have HR := Lib.hid hr
  have HL := Lib.hid hl
  clear hr hl
  have wpc : IntKind.i64.wrap ((p : Int) + (c : Int)) = (p : Int) + (c : Int) := IntWalk.i64_in _ (by omega)
  go_enter Try.func57, Try.ntmps57
  go_wp2
  go_loopw [7, 8] (fun a i wr => ∃ k m : Nat, k ≤ c ∧ i = .int .i64 ((p + k : Nat) : Int) ∧ a = .int .i64 (numF l p k) ∧ wr = w.drewN m) (fun _ i _ => p + c + 1 - (intOf i).toNat)
  case atStart => exact ⟨0, 0, Nat.zero_le _, rfl, rfl, rfl⟩
  case round =>
    obtain ⟨k, m, hk, rfl, rfl, rfl⟩ := hrel
    obtain ⟨v0, v1, v2, v3, v4, v5⟩ := numF_bd l p k (by omega)
    by_cases hlt : k < c
    · have hlt' : ((p + k : Nat) : Int) < (p : Int) + (c : Int) := by omega
      by_cases hin : p + k < n
      · have hin' : ((p + k : Nat) : Int) < (n : Int) := by omega
        have hin0 : (0 : Int) ≤ ((p + k : Nat) : Int) := by omega
        obtain ⟨ad, rfl, _, ck⟩ := HR.out.at_ hin
        have hbl := bt_lo l (p + k)
        have hbh := bt_hi l (p + k)
        have hst := Lib.hid (show numF l p (k + 1) = numF l p k * 10 + bt l (p + k) % 16 from by rw [numF, if_pos (by rw [HL.out]; omega)])
        generalize hv : numF l p k = v at *
        have HVV := Lib.hid hv
        clear hv
        have hmod : (bt l (p + k)).tmod 16 = bt l (p + k) % 16 := Int.tmod_eq_emod_of_nonneg hbl
        generalize bt l (p + k) = b at *
        have w1 : IntKind.i64.wrap (v * 10) = v * 10 := IntWalk.i64_in _ (by omega)
        have w2 : IntKind.i64.wrap (v * 10 + b % 16) = v * 10 + b % 16 := IntWalk.i64_in _ (by omega)
        have w3 : IntKind.i64.wrap (b % 16) = b % 16 := IntWalk.i64_in _ (by omega)
        have w4 : IntKind.u8.wrap (b % 16) = b % 16 := IntWalk.u8_in _ (by omega)
        generalize hq : p + k = q at *
        go_wp2_with fail
        go_roundw
        case rel => exact ⟨k + 1, m, by omega, by rw [show ((p + (k + 1) : Nat) : Int) = (q : Int) + 1 by omega], by rw [hst.out], rfl⟩
        case measure => simp [intOf]; omega
      · have hin' : ¬ ((p + k : Nat) : Int) < (n : Int) := by omega
        have F := Lib.hid (numF_end l p k (by rw [HL.out]; omega) c hk)
        generalize hv : numF l p k = v at *
        have HVV := Lib.hid hv
        clear hv
        generalize hq : p + k = q at *
        go_wp2
        go_ret
        exact ⟨ret_int F.out.symm, (by first | exact ⟨0, rfl⟩ | exact ⟨_, rfl⟩ | (simp only [World.drewN_drewN]; exact ⟨_, rfl⟩))⟩
    · obtain rfl : k = c := by omega
      have hlt' : ¬ ((p + k : Nat) : Int) < (p : Int) + (k : Int) := by omega
      generalize hv : numF l p k = v at *
      have HVV := Lib.hid hv
      clear hv
      go_wp2
      go_ret
      exact ⟨ret_int HVV.out.symm, (by first | exact ⟨0, rfl⟩ | exact ⟨_, rfl⟩ | (simp only [World.drewN_drewN]; exact ⟨_, rfl⟩))⟩

set_option maxHeartbeats 1000000 in
theorem fields_any {A : Option Addr} {n cp : Nat} {l : List UInt8} (y : Int) (p : Nat) (w : World) (hr : Rd w w.heap.size A n l) (hp : p ≤ 100) (hn : n ≤ 1000) :
    Calls Try.prog 58 #[.int .i64 y, .slice A n cp, .int .i64 (p : Int)] w fun e w' => e = .returned (time y (numF l p 2) (numF l (p + 2) 2) (numF l (p + 4) 2) (numF l (p + 6) 2) (numF l (p + 8) 2)) ∧ Below w.heap.size w w' := by
  have HD := Lib.hid (fun (w' : World) (h : Rd w' w.heap.size A n l) (q : Int) (hq0 : 0 ≤ q) (hq : q ≤ 200) => show Calls Try.prog 57 #[.slice A n cp, .int .i64 q, .int .i64 2] w' fun e w'' => e = .returned (.int .i64 (numF l q.toNat 2)) ∧ ∃ m, w'' = w'.drewN m from by
    obtain ⟨j, rfl⟩ := Int.eq_ofNat_of_zero_le hq0
    exact number_any (cp := cp) j 2 w' h (by omega) (by omega) hn)
  have HR := Lib.hid (fun o => hr.alloc (Nat.le_refl _) o)
  clear hr
  have k0 : ((p : Int)).toNat = p := by omega
  have k2 : ((p : Int) + 2).toNat = p + 2 := by omega
  have k4 : ((p : Int) + 4).toNat = p + 4 := by omega
  have k6 : ((p : Int) + 6).toNat = p + 6 := by omega
  have k8 : ((p : Int) + 8).toNat = p + 8 := by omega
  go_enter Try.func58, Try.ntmps58
  go_wp2_with (first | (go_at_call 57; refine (HD.out _ (by repeat' (first | (with_reducible exact HR.out _) | (with_reducible refine Rd.drewN ?_ _) | (with_reducible refine Rd.drew ?_))) _ (by omega) (by omega)).mono ?_; rintro e w' ⟨rfl, m, rfl⟩))
  refine bodyPost_ret (v := time y (numF l p 2) (numF l (p + 2) 2) (numF l (p + 4) 2) (numF l (p + 6) 2) (numF l (p + 8) 2)) (by simp [results, Try.results58, go_sem, *]) rfl ?_
  exact ⟨rfl, (by repeat' (first | (with_reducible exact Below.refl _ _) | (with_reducible assumption) | (with_reducible refine below_drewN ?_ _) | (with_reducible refine Below.drew ?_) | (with_reducible refine Below.alloc ?_ ?_ _) | (with_reducible refine Below.setCell ?_ ?_ _) | go_size))⟩
end Go.Proofs.Ytkkgcfllfhkoaaa.Clk
