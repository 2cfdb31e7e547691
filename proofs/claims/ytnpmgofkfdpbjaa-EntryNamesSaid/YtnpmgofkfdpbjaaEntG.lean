/- The walk of EntryNames. -/
import Derived.Test.YtnpmgofkfdpbjaaEntF
set_option linter.unusedSimpArgs false
set_option linter.unusedVariables false
namespace Go.Proofs.Ytnpmgofkfdpbjaa.Ent
open Go.RowKit Kit Tlv

theorem find_back {name : ByteArray} : ∀ k, k ≤ 11 → (findF name k).2 = true → nameV (findF name k).1 = name
  | 0, _, h => by simp [findF] at h
  | k + 1, hk, h => by
    rw [findF] at h ⊢
    by_cases g : (findF name k).2 = true
    · rw [if_pos g]; exact find_back k (by omega) g
    · rw [if_neg g] at h ⊢
      by_cases g2 : nmS k = name ∧ k ≠ 7
      · rw [if_pos g2]; exact (nameV_ok (by omega)).trans g2.1
      · rw [if_neg g2] at h; simp at h
set_option maxRecDepth 100000 in
theorem find_name (r : Int) : (validR r = false ∧ nameV r = { data := #[] }) ∨ (¬ nameV r = { data := #[] } ∧ findV (nameV r) = (r, true)) := by
  cases hv : validR r with
  | false => exact .inl ⟨rfl, nameV_bad hv⟩
  | true =>
    refine .inr ⟨(nameV_empty r).1 hv, ?_⟩
    unfold validR at hv
    rw [decide_eq_true_eq] at hv
    rcases (by omega : r = 0 ∨ r = 1 ∨ r = 2 ∨ r = 3 ∨ r = 4 ∨ r = 5 ∨ r = 6 ∨ r = 8 ∨ r = 9 ∨ r = 10) with rfl | rfl | rfl | rfl | rfl | rfl | rfl | rfl | rfl | rfl <;> decide +kernel
end Go.Proofs.Ytnpmgofkfdpbjaa.Ent
namespace Go.Proofs.Ytnpmgofkfdpbjaa
open Go.RowKit Kit Tlv Ent

set_option maxRecDepth 100000 in
set_option maxHeartbeats 4000000 in
theorem EntryNames.walk0 (r : Int) (name : ByteArray) (w : World) (hsz : (name.size : Int) ≤ 200) :
    Calls Try.prog 3 #[.int .i64 r, .string name] w fun e w' => e = .returned (.bool true) ∧ Below w.heap.size w w' := by
  have AW := Lib.hid awake21_any
  have NA := Lib.hid (fun w => name_any r w)
  have RN := Lib.hid (fun w => refname_any r w)
  have FI := Lib.hid (fun w => find_any name w)
  have RF := Lib.hid (fun w => reffind_any name w)
  obtain ⟨n, hn⟩ : ∃ n, findV name = n := ⟨_, rfl⟩
  obtain ⟨n, ok⟩ := n
  have BK := Lib.hid (show ok = true → nameV n = name from fun h => by
    have := find_back (name := name) 11 (by omega) (by rw [show findF name 11 = (n, ok) from hn]; exact h)
    rw [show findF name 11 = (n, ok) from hn] at this; exact this)
  rw [hn] at FI RF
  clear hn
  have NB := Lib.hid (fun w => name_any n w)
  rcases find_name r with ⟨_, he⟩ | ⟨hne, hf⟩
  · rw [he] at NA RN
    have FB := Lib.hid (fun w => find_any { data := #[] } w)
    rw [show findV { data := #[] } = (0, false) from by decide +kernel] at FB
    clear he
    cases ok with
    | false =>
      clear BK NB
      go_enter Try.func3, Try.ntmps3
      go_wp2_with fail
      refine Calls.mono (AW.out _) ?_
      rintro e w1 ⟨rfl, hb1⟩
      have bel := hb1
      clear hb1
      go_wp2_with fail
      refine Calls.mono (NA.out _) ?_
      rintro e w2 ⟨rfl, hb2⟩
      replace bel := two_belowK bel hb2 bel.size
      clear hb2
      go_wp2_with fail
      refine Calls.mono (FI.out _) ?_
      rintro e w3 ⟨rfl, hb3⟩
      replace bel := two_belowK bel hb3 bel.size
      clear hb3
      go_wp2_with fail
      refine Calls.mono (RF.out _) ?_
      rintro e w4 ⟨rfl, hb4⟩
      replace bel := two_belowK bel hb4 bel.size
      clear hb4
      go_wp2_with fail
      refine Calls.mono (RN.out _) ?_
      rintro e w5 ⟨rfl, hb5⟩
      replace bel := two_belowK bel hb5 bel.size
      clear hb5
      go_wp2_with fail
      refine Calls.mono (FB.out _) ?_
      rintro e w6 ⟨rfl, hb6⟩
      replace bel := two_belowK bel hb6 bel.size
      clear hb6
      go_wp2_with fail
      go_ret
      exact ⟨(by first | rfl | exact ret_bool (by simp)), bel⟩
    | true =>
      rw [BK.out rfl] at NB
      clear BK
      go_enter Try.func3, Try.ntmps3
      go_wp2_with fail
      refine Calls.mono (AW.out _) ?_
      rintro e w1 ⟨rfl, hb1⟩
      have bel := hb1
      clear hb1
      go_wp2_with fail
      refine Calls.mono (NA.out _) ?_
      rintro e w2 ⟨rfl, hb2⟩
      replace bel := two_belowK bel hb2 bel.size
      clear hb2
      go_wp2_with fail
      refine Calls.mono (FI.out _) ?_
      rintro e w3 ⟨rfl, hb3⟩
      replace bel := two_belowK bel hb3 bel.size
      clear hb3
      go_wp2_with fail
      refine Calls.mono (RF.out _) ?_
      rintro e w4 ⟨rfl, hb4⟩
      replace bel := two_belowK bel hb4 bel.size
      clear hb4
      go_wp2_with fail
      refine Calls.mono (RN.out _) ?_
      rintro e w5 ⟨rfl, hb5⟩
      replace bel := two_belowK bel hb5 bel.size
      clear hb5
      go_wp2_with fail
      refine Calls.mono (FB.out _) ?_
      rintro e w6 ⟨rfl, hb6⟩
      replace bel := two_belowK bel hb6 bel.size
      clear hb6
      go_wp2_with fail
      refine Calls.mono (NB.out _) ?_
      rintro e w7 ⟨rfl, hb7⟩
      replace bel := two_belowK bel hb7 bel.size
      clear hb7
      go_wp2_with fail
      go_ret
      exact ⟨(by first | rfl | exact ret_bool (by simp)), bel⟩
  · have FB := Lib.hid (fun w => find_any (nameV r) w)
    rw [hf] at FB
    have hs := str_some hne
    clear hf hne
    generalize nameV r = t at *
    cases ok with
    | false =>
      clear BK NB
      go_enter Try.func3, Try.ntmps3
      go_wp2_with fail
      refine Calls.mono (AW.out _) ?_
      rintro e w1 ⟨rfl, hb1⟩
      have bel := hb1
      clear hb1
      go_wp2_with fail
      refine Calls.mono (NA.out _) ?_
      rintro e w2 ⟨rfl, hb2⟩
      replace bel := two_belowK bel hb2 bel.size
      clear hb2
      go_wp2_with fail
      refine Calls.mono (FI.out _) ?_
      rintro e w3 ⟨rfl, hb3⟩
      replace bel := two_belowK bel hb3 bel.size
      clear hb3
      go_wp2_with fail
      refine Calls.mono (RF.out _) ?_
      rintro e w4 ⟨rfl, hb4⟩
      replace bel := two_belowK bel hb4 bel.size
      clear hb4
      go_wp2_with fail
      refine Calls.mono (RN.out _) ?_
      rintro e w5 ⟨rfl, hb5⟩
      replace bel := two_belowK bel hb5 bel.size
      clear hb5
      go_wp2_with fail
      refine Calls.mono (FB.out _) ?_
      rintro e w6 ⟨rfl, hb6⟩
      replace bel := two_belowK bel hb6 bel.size
      clear hb6
      go_wp2_with fail
      go_ret
      exact ⟨(by first | rfl | exact ret_bool (by simp)), bel⟩
    | true =>
      rw [BK.out rfl] at NB
      clear BK
      go_enter Try.func3, Try.ntmps3
      go_wp2_with fail
      refine Calls.mono (AW.out _) ?_
      rintro e w1 ⟨rfl, hb1⟩
      have bel := hb1
      clear hb1
      go_wp2_with fail
      refine Calls.mono (NA.out _) ?_
      rintro e w2 ⟨rfl, hb2⟩
      replace bel := two_belowK bel hb2 bel.size
      clear hb2
      go_wp2_with fail
      refine Calls.mono (FI.out _) ?_
      rintro e w3 ⟨rfl, hb3⟩
      replace bel := two_belowK bel hb3 bel.size
      clear hb3
      go_wp2_with fail
      refine Calls.mono (RF.out _) ?_
      rintro e w4 ⟨rfl, hb4⟩
      replace bel := two_belowK bel hb4 bel.size
      clear hb4
      go_wp2_with fail
      refine Calls.mono (RN.out _) ?_
      rintro e w5 ⟨rfl, hb5⟩
      replace bel := two_belowK bel hb5 bel.size
      clear hb5
      go_wp2_with fail
      refine Calls.mono (FB.out _) ?_
      rintro e w6 ⟨rfl, hb6⟩
      replace bel := two_belowK bel hb6 bel.size
      clear hb6
      go_wp2_with fail
      refine Calls.mono (NB.out _) ?_
      rintro e w7 ⟨rfl, hb7⟩
      replace bel := two_belowK bel hb7 bel.size
      clear hb7
      go_wp2_with fail
      go_ret
      exact ⟨(by first | rfl | exact ret_bool (by simp)), bel⟩

set_option maxRecDepth 100000 in
set_option maxHeartbeats 4000000 in
theorem EntryNames.walk (r : Int) (name : ByteArray) (w : World) (bd : -9223372036854775808 ≤ r ∧ r ≤ 9223372036854775807) (hs : name.size ≤ maxLen) :
    Calls Try.prog 3 #[.int .i64 r, .string name] w fun e w' => e = .returned (.bool true) ∧ Below w.heap.size w w' := by
  by_cases hb : (name.size : Int) ≤ 200
  · exact EntryNames.walk0 r name w hb
  · have hb' : (200 : Int) < (name.size : Int) := by omega
    have AW := Lib.hid awake21_any
    clear hb bd hs
    go_enter Try.func3, Try.ntmps3
    go_wp2_with fail
    refine Calls.mono (AW.out _) ?_
    rintro e w1 ⟨rfl, hb1⟩
    have bel := hb1
    clear hb1
    go_wp2_with fail
    refine Calls.mono (AW.out _) ?_
    rintro e w2 ⟨rfl, hb2⟩
    replace bel := two_belowK bel hb2 bel.size
    clear hb2
    go_wp2_with fail
    go_ret
    exact ⟨(by first | rfl | exact ret_bool (by simp)), bel⟩
end Go.Proofs.Ytnpmgofkfdpbjaa
