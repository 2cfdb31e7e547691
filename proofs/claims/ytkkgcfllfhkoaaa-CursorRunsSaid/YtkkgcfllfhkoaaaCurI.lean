/- Walks: the cursor's Seek; a nil cursor; the reference's cursor. -/
import Derived.Test.YtkkgcfllfhkoaaaCurH
set_option linter.unusedSimpArgs false
set_option linter.unusedVariables false
namespace Go.Proofs.Ytkkgcfllfhkoaaa.Cur
open Go.RowKit Kit

set_option maxHeartbeats 1000000 in
theorem seek_ok {g : Nat} {A : Option Addr} {n c p q : Nat} (w : World) (h : Cu w g A n c p) (hp : p ≤ n) (hn : n ≤ maxLen) (hq : q ≤ n) :
    Calls Try.prog 40 #[.pointer (some ⟨g, 0, none⟩), .int .i64 (q : Int)] w fun e w' => e = .returned (err 0 0) ∧ w.grownBy w' (some g) ∧ Cu w' g A n c q := by
  have hlt := h.lt
  have f1 := h.frozen 1
  have c1 := h.cell1
  have hn' := hn
  unfold maxLen at hn'
  have hq0 : ¬ (q : Int) < 0 := by omega
  have hq1 : ¬ (p : Int) + ((n - p : Nat) : Int) < (q : Int) := by omega
  go_enter Try.func40, Try.ntmps40
  go_wp2_with (first | (go_at_call 42; refine (pos_any _ h (by repeat' (first | (with_reducible exact Below.refl _ _) | (with_reducible assumption) | (with_reducible refine below_drewN ?_ _) | (with_reducible refine Below.drew ?_) | (with_reducible refine Below.alloc ?_ ?_ _) | (with_reducible refine Below.setCell ?_ ?_ _) | go_size))).mono ?_; rintro e w' ⟨rfl, rfl⟩) | (go_at_call 43; refine (left_any _ h (by repeat' (first | (with_reducible exact Below.refl _ _) | (with_reducible assumption) | (with_reducible refine below_drewN ?_ _) | (with_reducible refine Below.drew ?_) | (with_reducible refine Below.alloc ?_ ?_ _) | (with_reducible refine Below.setCell ?_ ?_ _) | go_size)) hp hn).mono ?_; rintro e w' ⟨rfl, k, rfl⟩))
  have hgz : ¬ g = w.heap.size := by omega
  refine bodyPost_ret (v := err 0 0) (by simp [results, Try.results40, go_sem, *]) rfl ?_
  exact ⟨rfl, (by repeat' (first | (with_reducible assumption) | (with_reducible exact World.grownBy.refl _ _) | (with_reducible refine grown_drewN ?_ _) | (with_reducible refine grown_drew ?_) | (with_reducible refine grown_alloc ?_ _) | (with_reducible refine grown_set ?_ _ _) | (with_reducible refine grown_setNew ?_ ?_ _) | go_size)), (by repeat' (first | (with_reducible assumption) | (with_reducible refine Cu.drewN ?_ _) | (with_reducible refine Cu.drew ?_) | (with_reducible refine Cu.alloc ?_ _) | (with_reducible refine Cu.set (p := p) ?_ _) | (with_reducible refine Cu.far ?_ ?_ _) | (simp; omega) | omega))⟩

set_option maxHeartbeats 1000000 in
theorem seek_no {g : Nat} {A : Option Addr} {n c p : Nat} (q : Int) (w : World) (h : Cu w g A n c p) (hp : p ≤ n) (hn : n ≤ maxLen) (hq : q < 0 ∨ (n : Int) < q) :
    Calls Try.prog 40 #[.pointer (some ⟨g, 0, none⟩), .int .i64 q] w fun e w' => e = .returned (err 9 p) ∧ Below w.heap.size w w' := by
  have hn' := hn
  unfold maxLen at hn'
  by_cases h1 : q < 0
  · clear hq
    go_enter Try.func40, Try.ntmps40
    go_wp2_with (first | (go_at_call 42; refine (pos_any _ h (by repeat' (first | (with_reducible exact Below.refl _ _) | (with_reducible assumption) | (with_reducible refine below_drewN ?_ _) | (with_reducible refine Below.drew ?_) | (with_reducible refine Below.alloc ?_ ?_ _) | (with_reducible refine Below.setCell ?_ ?_ _) | go_size))).mono ?_; rintro e w' ⟨rfl, rfl⟩) | (go_at_call 43; refine (left_any _ h (by repeat' (first | (with_reducible exact Below.refl _ _) | (with_reducible assumption) | (with_reducible refine below_drewN ?_ _) | (with_reducible refine Below.drew ?_) | (with_reducible refine Below.alloc ?_ ?_ _) | (with_reducible refine Below.setCell ?_ ?_ _) | go_size)) hp hn).mono ?_; rintro e w' ⟨rfl, k, rfl⟩))
    refine bodyPost_ret (v := err 9 p) (by simp [results, Try.results40, go_sem, *]) rfl ?_
    exact ⟨rfl, (by repeat' (first | (with_reducible exact Below.refl _ _) | (with_reducible assumption) | (with_reducible refine below_drewN ?_ _) | (with_reducible refine Below.drew ?_) | (with_reducible refine Below.alloc ?_ ?_ _) | (with_reducible refine Below.setCell ?_ ?_ _) | go_size))⟩
  · have h2 : (p : Int) + ((n - p : Nat) : Int) < q := by omega
    have h3 : ¬ q < 0 := h1
    clear hq h1
    go_enter Try.func40, Try.ntmps40
    go_wp2_with (first | (go_at_call 42; refine (pos_any _ h (by repeat' (first | (with_reducible exact Below.refl _ _) | (with_reducible assumption) | (with_reducible refine below_drewN ?_ _) | (with_reducible refine Below.drew ?_) | (with_reducible refine Below.alloc ?_ ?_ _) | (with_reducible refine Below.setCell ?_ ?_ _) | go_size))).mono ?_; rintro e w' ⟨rfl, rfl⟩) | (go_at_call 43; refine (left_any _ h (by repeat' (first | (with_reducible exact Below.refl _ _) | (with_reducible assumption) | (with_reducible refine below_drewN ?_ _) | (with_reducible refine Below.drew ?_) | (with_reducible refine Below.alloc ?_ ?_ _) | (with_reducible refine Below.setCell ?_ ?_ _) | go_size)) hp hn).mono ?_; rintro e w' ⟨rfl, k, rfl⟩))
    refine bodyPost_ret (v := err 9 p) (by simp [results, Try.results40, go_sem, *]) rfl ?_
    exact ⟨rfl, (by repeat' (first | (with_reducible exact Below.refl _ _) | (with_reducible assumption) | (with_reducible refine below_drewN ?_ _) | (with_reducible refine Below.drew ?_) | (with_reducible refine Below.alloc ?_ ?_ _) | (with_reducible refine Below.setCell ?_ ?_ _) | go_size))⟩

set_option maxHeartbeats 1000000 in
theorem take_nil (m : Int) (w : World) (hm : m ≠ 0) :
    Calls Try.prog 35 #[.pointer none, .int .i64 m] w fun e w' => e = .returned (.tuple #[.slice none 0 0, err (if m < 0 then 9 else 1) 0]) ∧ Below w.heap.size w w' := by
  by_cases h : m < 0
  · rw [if_pos h]
    go_enter Try.func35, Try.ntmps35
    go_wp2_with (first | (go_at_call 42; refine (pos_nil _).mono ?_; rintro e w' ⟨rfl, rfl⟩) | (go_at_call 43; refine (left_nil _).mono ?_; rintro e w' ⟨rfl, k, rfl⟩))
    refine bodyPost_ret (v := .tuple #[.slice none 0 0, err 9 0]) (by simp [results, Try.results35, go_sem, *]) rfl ?_
    exact ⟨rfl, (by repeat' (first | (with_reducible exact Below.refl _ _) | (with_reducible assumption) | (with_reducible refine below_drewN ?_ _) | (with_reducible refine Below.drew ?_) | (with_reducible refine Below.alloc ?_ ?_ _) | (with_reducible refine Below.setCell ?_ ?_ _) | go_size))⟩
  · rw [if_neg h]
    have h1 : (0 : Int) < m := by omega
    go_enter Try.func35, Try.ntmps35
    go_wp2_with (first | (go_at_call 42; refine (pos_nil _).mono ?_; rintro e w' ⟨rfl, rfl⟩) | (go_at_call 43; refine (left_nil _).mono ?_; rintro e w' ⟨rfl, k, rfl⟩))
    refine bodyPost_ret (v := .tuple #[.slice none 0 0, err 1 0]) (by simp [results, Try.results35, go_sem, *]) rfl ?_
    exact ⟨rfl, (by repeat' (first | (with_reducible exact Below.refl _ _) | (with_reducible assumption) | (with_reducible refine below_drewN ?_ _) | (with_reducible refine Below.drew ?_) | (with_reducible refine Below.alloc ?_ ?_ _) | (with_reducible refine Below.setCell ?_ ?_ _) | go_size))⟩
set_option maxHeartbeats 1000000 in
theorem byte_nil (w : World) :
    Calls Try.prog 38 #[.pointer none] w fun e w' => e = .returned (.tuple #[.int .u8 0, err 1 0]) ∧ Below w.heap.size w w' := by
  go_enter Try.func38, Try.ntmps38
  go_wp2_with (first | (go_at_call 35; refine (take_nil 1 _ (by omega)).mono ?_; rw [if_neg (by omega)]; rintro e w1 ⟨rfl, hb⟩; obtain ⟨k0, k1, f0, f1, hz, hb'⟩ := two_new hb; clear hb))
  go_region
  go_wp2
  refine bodyPost_ret (v := .tuple #[.int .u8 0, err 1 0]) (by simp [results, Try.results38, go_sem, *]) rfl ?_
  exact ⟨rfl, (by repeat' (first | (with_reducible exact Below.refl _ _) | (with_reducible assumption) | (with_reducible refine below_drewN ?_ _) | (with_reducible refine Below.drew ?_) | (with_reducible refine Below.alloc ?_ ?_ _) | (with_reducible refine Below.setCell ?_ ?_ _) | go_size))⟩
set_option maxHeartbeats 1000000 in
theorem seek_nil (q : Int) (w : World) :
    Calls Try.prog 40 #[.pointer none, .int .i64 q] w fun e w' => e = .returned (err (if q = 0 then 0 else 9) 0) ∧ Below w.heap.size w w' := by
  by_cases h : q = 0
  · rw [if_pos h]
    subst h
    go_enter Try.func40, Try.ntmps40
    go_wp2_with (first | (go_at_call 42; refine (pos_nil _).mono ?_; rintro e w' ⟨rfl, rfl⟩) | (go_at_call 43; refine (left_nil _).mono ?_; rintro e w' ⟨rfl, k, rfl⟩))
    refine bodyPost_ret (v := err 0 0) (by simp [results, Try.results40, go_sem, *]) rfl ?_
    exact ⟨rfl, (by repeat' (first | (with_reducible exact Below.refl _ _) | (with_reducible assumption) | (with_reducible refine below_drewN ?_ _) | (with_reducible refine Below.drew ?_) | (with_reducible refine Below.alloc ?_ ?_ _) | (with_reducible refine Below.setCell ?_ ?_ _) | go_size))⟩
  · rw [if_neg h]
    by_cases h1 : q < 0
    · clear h
      go_enter Try.func40, Try.ntmps40
      go_wp2_with (first | (go_at_call 42; refine (pos_nil _).mono ?_; rintro e w' ⟨rfl, rfl⟩) | (go_at_call 43; refine (left_nil _).mono ?_; rintro e w' ⟨rfl, k, rfl⟩))
      refine bodyPost_ret (v := err 9 0) (by simp [results, Try.results40, go_sem, *]) rfl ?_
      exact ⟨rfl, (by repeat' (first | (with_reducible exact Below.refl _ _) | (with_reducible assumption) | (with_reducible refine below_drewN ?_ _) | (with_reducible refine Below.drew ?_) | (with_reducible refine Below.alloc ?_ ?_ _) | (with_reducible refine Below.setCell ?_ ?_ _) | go_size))⟩
    · have h2 : (0 : Int) < q := by omega
      clear h h1
      go_enter Try.func40, Try.ntmps40
      go_wp2_with (first | (go_at_call 42; refine (pos_nil _).mono ?_; rintro e w' ⟨rfl, rfl⟩) | (go_at_call 43; refine (left_nil _).mono ?_; rintro e w' ⟨rfl, k, rfl⟩))
      refine bodyPost_ret (v := err 9 0) (by simp [results, Try.results40, go_sem, *]) rfl ?_
      exact ⟨rfl, (by repeat' (first | (with_reducible exact Below.refl _ _) | (with_reducible assumption) | (with_reducible refine below_drewN ?_ _) | (with_reducible refine Below.drew ?_) | (with_reducible refine Below.alloc ?_ ?_ _) | (with_reducible refine Below.setCell ?_ ?_ _) | go_size))⟩
end Go.Proofs.Ytkkgcfllfhkoaaa.Cur
