/- Walks: the cursor's methods Take, Rest, Byte, Seek. -/
import Derived.Test.YtkkgcfllfhkoaaaCurF
set_option linter.unusedSimpArgs false
set_option linter.unusedVariables false
namespace Go.Proofs.Ytkkgcfllfhkoaaa.Cur
open Go.RowKit Kit

/-- an api.Error as a value -/
abbrev err (code off : Int) : Value := .agg #[.int .i64 code, .int .i64 off]

set_option maxHeartbeats 1000000 in
theorem take_neg {g : Nat} {A : Option Addr} {n c p : Nat} (m : Int) (w : World) (h : Cu w g A n c p) (hm : m < 0) :
    Calls Try.prog 35 #[.pointer (some ⟨g, 0, none⟩), .int .i64 m] w fun e w' => e = .returned (.tuple #[.slice none 0 0, err 9 p]) ∧ Below w.heap.size w w' := by
  go_enter Try.func35, Try.ntmps35
  go_wp2_with (first | (go_at_call 42; refine (pos_any _ h (by repeat' (first | (with_reducible exact Below.refl _ _) | (with_reducible assumption) | (with_reducible refine below_drewN ?_ _) | (with_reducible refine Below.drew ?_) | (with_reducible refine Below.alloc ?_ ?_ _) | (with_reducible refine Below.setCell ?_ ?_ _) | go_size))).mono ?_; rintro e w' ⟨rfl, rfl⟩))
  go_returns
  exact ⟨rfl, (by repeat' (first | (with_reducible exact Below.refl _ _) | (with_reducible assumption) | (with_reducible refine below_drewN ?_ _) | (with_reducible refine Below.drew ?_) | (with_reducible refine Below.alloc ?_ ?_ _) | (with_reducible refine Below.setCell ?_ ?_ _) | go_size))⟩
set_option maxHeartbeats 1000000 in
theorem take_short {g : Nat} {A : Option Addr} {n c p : Nat} (m : Int) (w : World) (h : Cu w g A n c p) (hp : p ≤ n) (hn : n ≤ maxLen) (hm : (n : Int) - p < m) :
    Calls Try.prog 35 #[.pointer (some ⟨g, 0, none⟩), .int .i64 m] w fun e w' => e = .returned (.tuple #[.slice none 0 0, err 1 n]) ∧ Below w.heap.size w w' := by
  have hm0 : ¬ m < 0 := by omega
  have hn' := hn
  unfold maxLen at hn'
  have e1 : (p : Int) + ((n - p : Nat) : Int) = n := by omega
  have hm1 : ((n - p : Nat) : Int) < m := by omega
  go_enter Try.func35, Try.ntmps35
  go_wp2_with (first | (go_at_call 42; refine (pos_any _ h (by repeat' (first | (with_reducible exact Below.refl _ _) | (with_reducible assumption) | (with_reducible refine below_drewN ?_ _) | (with_reducible refine Below.drew ?_) | (with_reducible refine Below.alloc ?_ ?_ _) | (with_reducible refine Below.setCell ?_ ?_ _) | go_size))).mono ?_; rintro e w' ⟨rfl, rfl⟩) | (go_at_call 43; refine (left_any _ h (by repeat' (first | (with_reducible exact Below.refl _ _) | (with_reducible assumption) | (with_reducible refine below_drewN ?_ _) | (with_reducible refine Below.drew ?_) | (with_reducible refine Below.alloc ?_ ?_ _) | (with_reducible refine Below.setCell ?_ ?_ _) | go_size)) hp hn).mono ?_; rintro e w' ⟨rfl, k, rfl⟩))
  go_returns
  exact ⟨rfl, (by repeat' (first | (with_reducible exact Below.refl _ _) | (with_reducible assumption) | (with_reducible refine below_drewN ?_ _) | (with_reducible refine Below.drew ?_) | (with_reducible refine Below.alloc ?_ ?_ _) | (with_reducible refine Below.setCell ?_ ?_ _) | go_size))⟩
set_option maxHeartbeats 1000000 in
theorem take_zero {g : Nat} {A : Option Addr} {n c p : Nat} (w : World) (h : Cu w g A n c p) (hp : p ≤ n) (hn : n ≤ maxLen) :
    Calls Try.prog 35 #[.pointer (some ⟨g, 0, none⟩), .int .i64 0] w fun e w' => e = .returned (.tuple #[.slice none 0 0, err 0 0]) ∧ Below w.heap.size w w' := by
  have hm1 : ¬ ((n - p : Nat) : Int) < 0 := by omega
  go_enter Try.func35, Try.ntmps35
  go_wp2_with (first | (go_at_call 42; refine (pos_any _ h (by repeat' (first | (with_reducible exact Below.refl _ _) | (with_reducible assumption) | (with_reducible refine below_drewN ?_ _) | (with_reducible refine Below.drew ?_) | (with_reducible refine Below.alloc ?_ ?_ _) | (with_reducible refine Below.setCell ?_ ?_ _) | go_size))).mono ?_; rintro e w' ⟨rfl, rfl⟩) | (go_at_call 43; refine (left_any _ h (by repeat' (first | (with_reducible exact Below.refl _ _) | (with_reducible assumption) | (with_reducible refine below_drewN ?_ _) | (with_reducible refine Below.drew ?_) | (with_reducible refine Below.alloc ?_ ?_ _) | (with_reducible refine Below.setCell ?_ ?_ _) | go_size)) hp hn).mono ?_; rintro e w' ⟨rfl, k, rfl⟩))
  go_returns
  exact ⟨rfl, (by repeat' (first | (with_reducible exact Below.refl _ _) | (with_reducible assumption) | (with_reducible refine below_drewN ?_ _) | (with_reducible refine Below.drew ?_) | (with_reducible refine Below.alloc ?_ ?_ _) | (with_reducible refine Below.setCell ?_ ?_ _) | go_size))⟩

set_option maxHeartbeats 1000000 in
theorem take_pos {g : Nat} {A : Option Addr} {n c p m : Nat} {l : List UInt8} (w : World) (h : Cu w g A n c p) (hr : Rd w w.heap.size A n l) (hc : n ≤ c) (hp : p ≤ n) (hn : n ≤ 140737488355328) (hcm : c ≤ maxLen) (hm0 : 0 < m) (hm : m ≤ n - p) :
    Calls Try.prog 35 #[.pointer (some ⟨g, 0, none⟩), .int .i64 (m : Int)] w fun e w' => ∃ A' c', e = .returned (.tuple #[.slice A' m c', err 0 0]) ∧ Own w' w.heap.size A' m c' ((l.drop p).take m) ∧
      w.grownBy w' (some g) ∧ Cu w' g A n c (p + m) := by
  have hm1 : ¬ ((n - p : Nat) : Int) < m := by omega
  have hm2 : ((m : Int) == 0) = false := by simp; omega
  have hn' : n ≤ maxLen := by unfold maxLen; omega
  have hcm' := hcm
  unfold maxLen at hcm'
  have c0 := h.cell0
  have c1 := h.cell1
  have f1 := h.frozen 1
  have hlt := h.lt
  have q1 : (p : Int) ≤ (p : Int) + m := by omega
  have q2 : (p : Int) + (m : Int) ≤ (c : Int) := by omega
  have q3 : (0 : Int) ≤ (p : Int) + m := by omega
  go_enter Try.func35, Try.ntmps35
  go_wp2_with (first | (go_at_call 42; refine (pos_any _ h (by repeat' (first | (with_reducible exact Below.refl _ _) | (with_reducible assumption) | (with_reducible refine below_drewN ?_ _) | (with_reducible refine Below.drew ?_) | (with_reducible refine Below.alloc ?_ ?_ _) | (with_reducible refine Below.setCell ?_ ?_ _) | go_size))).mono ?_; rintro e w' ⟨rfl, rfl⟩) | (go_at_call 43; refine (left_any _ h (by repeat' (first | (with_reducible exact Below.refl _ _) | (with_reducible assumption) | (with_reducible refine below_drewN ?_ _) | (with_reducible refine Below.drew ?_) | (with_reducible refine Below.alloc ?_ ?_ _) | (with_reducible refine Below.setCell ?_ ?_ _) | go_size)) hp hn').mono ?_; rintro e w' ⟨rfl, k, rfl⟩))
  have e1 : ((p : Int) + (m : Int)).toNat = p + m := by omega
  have e2 : ¬ m = 0 := by omega
  refine Kit.wp_tail 11 (by kernel_rfl) (by kernel_rfl) ?_; intro W HW hWc; simp only [List.take_succ_cons, List.take_zero, List.drop_succ_cons, List.drop_zero]; (repeat still_step); refine wpStill_nil ?_; have HW' := HW.out; clear HW hWc; subst HW'
  clear e1 e2
  have hr' := (((hr.cutMap (k := p) (m := m) (by omega)).alloc (Nat.le_refl _) (Obj.cells #[Value.int IntKind.i64 0, Value.int IntKind.i64 0] 46)).drewN (k + 1))
  go_wp2_with (first | (go_at_call 63; go_loud (refine (clone_any _ _ _ _ _ hr' (by omega) (by simp)).mono ?_); rintro e w1 ⟨A', c', rfl, ho, hb⟩; obtain ⟨hcc, hff⟩ := bcell hb; have hz := hb.size))
  have k0 : w1.cell? ⟨w.heap.size, 0, none⟩ = some (.int .i64 0) := by rw [hcc _ _ (by simp)]; go_simp
  have k1 : w1.cell? ⟨w.heap.size, 1, none⟩ = some (.int .i64 0) := by rw [hcc _ _ (by simp)]; go_simp
  have hgz : ¬ g = w.heap.size := by omega
  clear hcc hff
  refine bodyPost_ret (v := .tuple #[.slice A' m c', err 0 0]) (by simp [results, Try.results35, go_sem, *]) rfl ?_
  have hb' : Below w.heap.size w w1 := (below_drewN ((Below.refl _ _).alloc (Nat.le_refl _) _) _).trans (hb.mono (by simp))
  have hC : Cu w1 g A n c p := (hb'.block g hlt).trans h
  have e4 : (p : Int) + (m : Int) = ((p + m : Nat) : Int) := by omega
  refine ⟨A', c', rfl, (((ho.setOld (by simp; omega) _).setOld (by simp) _).setOld (by simp) _).mono (by simp), ?_, ?_⟩
  · exact grown_setNew (grown_setNew (grown_set (grown_of_below hb' _) _ _) (by simp) _) (by simp) _
  · rw [e4]
    exact ((hC.set (p + m)).far (by simp; omega) _).far (by simp; omega) _
end Go.Proofs.Ytkkgcfllfhkoaaa.Cur
