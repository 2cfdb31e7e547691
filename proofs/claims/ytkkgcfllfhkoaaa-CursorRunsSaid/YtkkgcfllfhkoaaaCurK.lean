/- Walks: the reference's cursor, Seek, and Take in one word; the reference's minimal digits. -/
import Derived.Test.YtkkgcfllfhkoaaaCurJ
set_option linter.unusedSimpArgs false
set_option linter.unusedVariables false
namespace Go.Proofs.Ytkkgcfllfhkoaaa.Cur
open Go.RowKit Kit

theorem reftake_any {g : Nat} {A : Option Addr} {n c p : Nat} {l : List UInt8} (m : Int) (w : World) (h : Rc w g A n c p) (hr : Rd w w.heap.size A n l) (hp : p ≤ n) (hn : n ≤ 140737488355328)
    (hA : ∀ ad, A = some ad → ad.block ≠ g) :
    Calls Try.prog 39 #[.pointer (some ⟨g, 0, none⟩), .int .i64 m] w fun e w' => ∃ A' c' k, k = tkN n p m ∧ e = .returned (.tuple #[.slice A' k c', err (tkCode n p m) (tkOff n p m)]) ∧
      Own w' w.heap.size A' k c' ((l.drop p).take k) ∧ w.grownBy w' (some g) ∧ Rc w' g A n c (p + k) := by
  have hn' : n ≤ maxLen := by unfold maxLen; omega
  by_cases h1 : m < 0
  · obtain ⟨e1, e2, e3⟩ := tk_neg (n := n) (p := p) h1
    refine (reftake_neg m w h h1).mono ?_
    rintro e w' ⟨rfl, hb⟩
    exact ⟨none, 0, 0, e1.symm, by rw [e2, e3], by simpa using Own.none_ _ _, grown_of_below hb _, h.below hb h.lt⟩
  · by_cases h2 : (n : Int) - p < m
    · obtain ⟨e1, e2, e3⟩ := tk_short (n := n) (p := p) (by omega) h2
      refine (reftake_short m w h hp hn' h2).mono ?_
      rintro e w' ⟨rfl, hb⟩
      exact ⟨none, 0, 0, e1.symm, by rw [e2, e3], by simpa using Own.none_ _ _, grown_of_below hb _, h.below hb h.lt⟩
    · obtain ⟨e1, e2, e3⟩ := tk_ok (n := n) (p := p) (m := m) (by omega) (by omega)
      obtain ⟨k, rfl⟩ := Int.eq_ofNat_of_zero_le (by omega : 0 ≤ m)
      refine (reftake_ok w h hr hp hn (by omega) hA).mono ?_
      rintro e w' ⟨A', c', rfl, ho, hg, hcu⟩
      exact ⟨A', c', k, by rw [e1]; simp, by rw [e2, e3], ho, hg, hcu⟩

set_option maxHeartbeats 1000000 in
theorem refseek_ok {g : Nat} {A : Option Addr} {n c p q : Nat} (w : World) (h : Rc w g A n c p) (hq : q ≤ n) :
    Calls Try.prog 41 #[.pointer (some ⟨g, 0, none⟩), .int .i64 (q : Int)] w fun e w' => e = .returned (err 0 0) ∧ w.grownBy w' (some g) ∧ Rc w' g A n c q := by
  have hlt := h.lt
  have f1 := h.frozen 1
  have c0 := h.cell0
  have c1 := h.cell1
  have hq0 : ¬ (q : Int) < 0 := by omega
  have hq1 : ¬ (n : Int) < (q : Int) := by omega
  go_enter Try.func41, Try.ntmps41
  go_wp2
  have hgz : ¬ g = w.heap.size := by omega
  refine bodyPost_ret (v := err 0 0) (by simp [results, Try.results41, go_sem, *]) rfl ?_
  exact ⟨rfl, (by repeat' (first | (with_reducible assumption) | (with_reducible exact World.grownBy.refl _ _) | (with_reducible refine grown_drewN ?_ _) | (with_reducible refine grown_drew ?_) | (with_reducible refine grown_alloc ?_ _) | (with_reducible refine grown_set ?_ _ _) | (with_reducible refine grown_setNew ?_ ?_ _) | go_size)), (by repeat' (first | (with_reducible assumption) | (with_reducible refine Rc.drewN ?_ _) | (with_reducible refine Rc.drew ?_) | (with_reducible refine Rc.alloc ?_ _) | (with_reducible refine Rc.set (p := p) ?_ _) | (with_reducible refine Rc.far ?_ ?_ _) | (simp; omega) | omega))⟩
set_option maxHeartbeats 1000000 in
theorem refseek_no {g : Nat} {A : Option Addr} {n c p : Nat} (q : Int) (w : World) (h : Rc w g A n c p) (hq : q < 0 ∨ (n : Int) < q) :
    Calls Try.prog 41 #[.pointer (some ⟨g, 0, none⟩), .int .i64 q] w fun e w' => e = .returned (err 9 p) ∧ Below w.heap.size w w' := by
  have hlt := h.lt
  have c0 := h.cell0
  have c1 := h.cell1
  by_cases h1 : q < 0
  · clear hq
    go_enter Try.func41, Try.ntmps41
    go_wp2
    refine bodyPost_ret (v := err 9 p) (by simp [results, Try.results41, go_sem, *]) rfl ?_
    exact ⟨rfl, (by repeat' (first | (with_reducible exact Below.refl _ _) | (with_reducible assumption) | (with_reducible refine below_drewN ?_ _) | (with_reducible refine Below.drew ?_) | (with_reducible refine Below.alloc ?_ ?_ _) | (with_reducible refine Below.setCell ?_ ?_ _) | go_size))⟩
  · have h2 : (n : Int) < q := by omega
    clear hq
    go_enter Try.func41, Try.ntmps41
    go_wp2
    refine bodyPost_ret (v := err 9 p) (by simp [results, Try.results41, go_sem, *]) rfl ?_
    exact ⟨rfl, (by repeat' (first | (with_reducible exact Below.refl _ _) | (with_reducible assumption) | (with_reducible refine below_drewN ?_ _) | (with_reducible refine Below.drew ?_) | (with_reducible refine Below.alloc ?_ ?_ _) | (with_reducible refine Below.setCell ?_ ?_ _) | go_size))⟩

set_option maxHeartbeats 1000000 in
theorem refminimal_any (v : Nat) : ∀ (w : World), v < W64 →
    Calls Try.prog 31 #[.int .u64 (v : Int)] w fun e w' => ∃ A c, e = .returned (.slice A (minL v).length c) ∧ Own w' w.heap.size A (minL v).length c (minL v) ∧ Below w.heap.size w w' := by
  induction v using Nat.strongRecOn with
  | ind v ih =>
    intro w hv
    have HV := Lib.hid hv
    by_cases hs : v < 256
    · have E := Lib.hid (minL_small hs)
      have HS := Lib.hid hs
      have hs' : (v : Int) < 256 := by omega
      clear hv ih hs
      go_enter Try.func31, Try.ntmps31
      go_wp2
      go_ret
      rw [E.out]
      refine ⟨_, _, rfl, ?_, (by repeat' (first | (with_reducible exact Below.refl _ _) | (with_reducible assumption) | (with_reducible refine below_drewN ?_ _) | (with_reducible refine Below.drew ?_) | (with_reducible refine Below.alloc ?_ ?_ _) | (with_reducible refine Below.setCell ?_ ?_ _) | go_size))⟩
      have := Own.lit (base := w.heap.size) w [UInt8.ofNat v] (Nat.le_refl _) (by simp [maxLen])
      have e : vs [UInt8.ofNat v] = [Value.int .u8 ((v : Int) % 256)] := by
        have := vs_ofI [(v : Int) % 256] (in1 (by omega) (by omega))
        rw [← minL_small HS.out, ← ofI_div v HS.out]; exact this
      rw [e] at this
      simpa [Int.emod_eq_of_lt (by omega : (0 : Int) ≤ v) (by omega : (v : Int) < 256)] using this
    · have E := Lib.hid (minL_big (by omega) hv)
      have hd : v / 256 < W64 := by unfold W64 at hv ⊢; omega
      have IH := Lib.hid (fun w => ih (v / 256) (by omega) w hd)
      rw [show (((v / 256 : Nat)) : Int) = (v : Int) / 256 from by omega] at IH
      have hl := (minL_len (v / 256)).2
      have hs' : ¬ (v : Int) < 256 := by omega
      have hv1 : (v : Int) ≤ 18446744073709551615 := by unfold W64 at hv; omega
      clear hv ih hd hs
      go_enter Try.func31, Try.ntmps31
      go_wp2_with (first | (go_at_call 31; refine (IH.out _).mono ?_; rintro e w1 ⟨A, c, rfl, ho, hb⟩) | (at_builtin; refine appL [(v : Int) % 256] rfl (.tmp 10) (.tmp 14) rfl rfl ho rfl (in1 (by omega) (by omega)) (by simp; omega) hb.size ?_; intro A' c' w2 ho' hg' hb' hs'))
      go_ret
      have el : (minL v).length = (minL (v / 256)).length + 1 := by rw [E.out]; simp
      rw [el]
      refine ⟨A', c', rfl, ?_, hb.trans hb'⟩
      rw [E.out, ← ofI_mod]
      exact ho'
end Go.Proofs.Ytkkgcfllfhkoaaa.Cur
