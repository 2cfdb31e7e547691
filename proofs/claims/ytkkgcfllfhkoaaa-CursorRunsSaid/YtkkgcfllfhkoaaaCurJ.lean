/- Walks: the reference's cursor. -/
import Derived.Test.YtkkgcfllfhkoaaaCurI
set_option linter.unusedSimpArgs false
set_option linter.unusedVariables false
namespace Go.Proofs.Ytkkgcfllfhkoaaa.Cur
open Go.RowKit Kit

/-- a cursor of the reference lies whole in block g -/
def Rc (w : World) (g : Nat) (A : Option Addr) (n c p : Nat) : Prop := w.heap[g]? = some (.cells #[.slice A n c, .int .i64 (p : Int)] 59 (0, 0))
section
variable {w w' : World} {g : Nat} {A : Option Addr} {n c p : Nat}
theorem Rc.lt (h : Rc w g A n c p) : g < w.heap.size := Blk_lt h
theorem Rc.cell0 (h : Rc w g A n c p) : w.cell? ⟨g, 0, none⟩ = some (.slice A n c) := by rw [cell_of_row w g 0 _ _ _ h]; rfl
theorem Rc.cell1 (h : Rc w g A n c p) : w.cell? ⟨g, 1, none⟩ = some (.int .i64 (p : Int)) := by rw [cell_of_row w g 1 _ _ _ h]; rfl
theorem Rc.frozen (h : Rc w g A n c p) (k : Nat) : w.frozen? ⟨g, k, none⟩ = false := frozen_of_row w g k _ _ h
theorem Rc.below {B : Nat} (h : Rc w g A n c p) (hb : Below B w w') (hg : g < B) : Rc w' g A n c p := (hb.block g hg).trans h
theorem Rc.grown {r : Option Nat} (h : Rc w g A n c p) (hb : w.grownBy w' r) (hg : some g ≠ r) : Rc w' g A n c p := (hb.block g h.lt hg).trans h
theorem Rc.drewN (h : Rc w g A n c p) (k : Nat) : Rc (w.drewN k) g A n c p := h
theorem Rc.drew (h : Rc w g A n c p) : Rc w.drew g A n c p := h
theorem Rc.alloc (h : Rc w g A n c p) (o : Obj) : Rc (w.alloc o) g A n c p := (Below.heap_alloc w o g h.lt).trans h
theorem Rc.far (h : Rc w g A n c p) {q : Addr} (hq : g ≠ q.block) (u : Value) : Rc (w.setCell q u) g A n c p := (Below.heap_setCell w q u g hq).trans h
theorem Rc.set (h : Rc w g A n c p) (q : Nat) : Rc (w.setCell ⟨g, 1, none⟩ (.int .i64 (q : Int))) g A n c q := by
  have := heap_setCell_same w g 1 #[.slice A n c, .int .i64 (p : Int)] 59 (.int .i64 (q : Int)) h
  simpa [Rc] using this
end
theorem Cu.grown {w w' : World} {g : Nat} {A : Option Addr} {n c p : Nat} {r : Option Nat} (h : Cu w g A n c p) (hb : w.grownBy w' r) (hg : some g ≠ r) : Cu w' g A n c p := (hb.block g h.lt hg).trans h

set_option maxHeartbeats 1000000 in
theorem refnew_any (A : Option Addr) (n c : Nat) (l : List UInt8) (w : World) {B : Nat} (hr : Rd w B A n l) (hn : n ≤ 140737488355328) (hB : B ≤ w.heap.size) :
    Calls Try.prog 37 #[.slice A n c] w fun e w' => ∃ g A' c', e = .returned (.pointer (some ⟨g, 0, none⟩)) ∧ w.heap.size ≤ g ∧ Rc w' g A' n c' 0 ∧ Own w' w.heap.size A' n c' l ∧ Below w.heap.size w w' := by
  go_enter Try.func37, Try.ntmps37
  have ho := Own.lit (base := w.heap.size) w [] (Nat.le_refl _) (Nat.zero_le _)
  go_wp2_with (first | (at_builtin; refine app rfl (.tmp 3) (.tmp 4) rfl rfl ho rfl (hr.alloc hB _) (by omega) (by simp) ?_; intro A' c' w' ho' hg' hb' hs'))
  go_ret
  simp only [List.length_nil, Nat.zero_add, List.nil_append] at ho'
  exact ⟨_, A', c', rfl, Nat.le_trans (by simp) hb'.size, heap_alloc_new _ _, ho'.alloc _, (((Below.refl _ _).alloc (Nat.le_refl _) _).trans hb').alloc (Nat.le_trans (by simp) hb'.size) _⟩

set_option maxHeartbeats 1000000 in
theorem reftake_neg {g : Nat} {A : Option Addr} {n c p : Nat} (m : Int) (w : World) (h : Rc w g A n c p) (hm : m < 0) :
    Calls Try.prog 39 #[.pointer (some ⟨g, 0, none⟩), .int .i64 m] w fun e w' => e = .returned (.tuple #[.slice none 0 0, err 9 p]) ∧ Below w.heap.size w w' := by
  have hlt := h.lt
  have c1 := h.cell1
  go_enter Try.func39, Try.ntmps39
  go_wp2
  go_region
  go_wp2
  refine bodyPost_ret (v := .tuple #[.slice none 0 0, err 9 p]) (by simp [results, Try.results39, go_sem, *]) rfl ?_
  exact ⟨rfl, (by repeat' (first | (with_reducible exact Below.refl _ _) | (with_reducible assumption) | (with_reducible refine below_drewN ?_ _) | (with_reducible refine Below.drew ?_) | (with_reducible refine Below.alloc ?_ ?_ _) | (with_reducible refine Below.setCell ?_ ?_ _) | go_size))⟩
set_option maxHeartbeats 1000000 in
theorem reftake_short {g : Nat} {A : Option Addr} {n c p : Nat} (m : Int) (w : World) (h : Rc w g A n c p) (hp : p ≤ n) (hn : n ≤ maxLen) (hm : (n : Int) - p < m) :
    Calls Try.prog 39 #[.pointer (some ⟨g, 0, none⟩), .int .i64 m] w fun e w' => e = .returned (.tuple #[.slice none 0 0, err 1 n]) ∧ Below w.heap.size w w' := by
  have hm0 : ¬ m < 0 := by omega
  unfold maxLen at hn
  have hlt := h.lt
  have c0 := h.cell0
  have c1 := h.cell1
  go_enter Try.func39, Try.ntmps39
  go_wp2
  go_quiet (fail)
  go_wp2
  go_region
  go_wp2
  refine bodyPost_ret (v := .tuple #[.slice none 0 0, err 1 n]) (by simp [results, Try.results39, go_sem, *]) rfl ?_
  exact ⟨rfl, (by repeat' (first | (with_reducible exact Below.refl _ _) | (with_reducible assumption) | (with_reducible refine below_drewN ?_ _) | (with_reducible refine Below.drew ?_) | (with_reducible refine Below.alloc ?_ ?_ _) | (with_reducible refine Below.setCell ?_ ?_ _) | go_size))⟩
set_option maxHeartbeats 1000000 in
theorem reftake_ok {g : Nat} {A : Option Addr} {n c p m : Nat} {l : List UInt8} (w : World) (h : Rc w g A n c p) (hr : Rd w w.heap.size A n l) (hp : p ≤ n) (hn : n ≤ 140737488355328) (hm : m ≤ n - p)
    (hA : ∀ ad, A = some ad → ad.block ≠ g) :
    Calls Try.prog 39 #[.pointer (some ⟨g, 0, none⟩), .int .i64 (m : Int)] w fun e w' => ∃ A' c', e = .returned (.tuple #[.slice A' m c', err 0 0]) ∧ Own w' w.heap.size A' m c' ((l.drop p).take m) ∧
      w.grownBy w' (some g) ∧ Rc w' g A n c (p + m) := by
  have hm1 : ¬ (n : Int) - p < m := by omega
  have hm2 : ¬ (m : Int) < 0 := by omega
  have hlt := h.lt
  have c0 := h.cell0
  have c1 := h.cell1
  go_enter Try.func39, Try.ntmps39
  go_wp2
  go_quiet (fail)
  go_wp2
  go_loopw [6, 7] (fun o i wr => ∃ (k : Nat) (A' : Option Addr) (c' : Nat), i = .int .i64 (k : Int) ∧ k ≤ m ∧ o = .slice A' k c' ∧ Own wr (w.heap.size + 1) A' k c' ((l.drop p).take k) ∧ w.grownBy wr (some g) ∧ Rc wr g A n c (p + k) ∧
      wr.heap[w.heap.size]? = some (.cells #[.int .i64 0, .int .i64 0] 46 (0, 0))) (fun _ i _ => m - (intOf i).toNat)
  case atStart =>
    exact ⟨0, none, 0, rfl, Nat.zero_le _, rfl, by simpa using Own.none_ _ _, (by repeat' (first | (with_reducible assumption) | (with_reducible exact World.grownBy.refl _ _) | (with_reducible refine grown_drewN ?_ _) | (with_reducible refine grown_drew ?_) | (with_reducible refine grown_alloc ?_ _) | (with_reducible refine grown_set ?_ _ _) | (with_reducible refine grown_setNew ?_ ?_ _) | go_size)), h.alloc _, heap_alloc_new w _⟩
  case round =>
    obtain ⟨k, A', c', rfl, hk, rfl, ho, hg, hrc, hbk⟩ := hrel
    have hgz : ¬ g = w.heap.size := by omega
    have hsz : w.heap.size < wr.heap.size := Blk_lt hbk
    by_cases hlt2 : k < m
    · obtain ⟨ad, rfl, hbl, hcell⟩ := hr.grownAt hg hA (k := p + k) (by omega)
      have b1 := bt_lo l (p + k)
      have b2 := bt_hi l (p + k)
      have d0 := hrc.cell0
      have d1 := hrc.cell1
      have f1 := hrc.frozen 1
      have ML := Lib.hid (take_more (l := l) (p := p) (k := k) (by rw [hr.len]; omega))
      have hpk : p + k < n := by omega
      have hpk0 : (0 : Int) ≤ (p : Int) + (k : Int) := by omega
      have hpk1 : (p : Int) + (k : Int) < (n : Int) := by omega
      have hpk2 : ((p : Int) + (k : Int)).toNat = p + k := by omega
      go_wp2
      go_region_law (first | (refine step_app rfl (.tmp 38) (.tmp 49) rfl rfl ((ho.alloc _).drew) rfl ((Rd.lits wr [bt l (p + k)] (in1 b1 b2)).drew) (by simp; omega) (by simp; omega) ?_; intro A2 c2 w2 ho2 hg2 hb2 hs2; have hsame : w2.heap[g]? = wr.heap[g]? := (hb2.block g (by omega)).trans (Below.heap_alloc wr _ g hrc.lt); have hsam0 : w2.heap[w.heap.size]? = wr.heap[w.heap.size]? := (hb2.block _ (by omega)).trans (Below.heap_alloc wr _ _ hsz); have e1 := (cell_of_row w2 g 1 _ _ _ (hsame.trans hrc)); have e2 := frozen_of_row w2 g 1 _ _ (hsame.trans hrc); clear hs2))
      all_goals
        go_wp2
        have hb3 : Below (w.heap.size + 1) wr w2 := (((Below.refl _ _).alloc (by omega) _).drew).trans hb2
        have hrc2 : Rc w2 g (some ad) n c (p + k) := hsame.trans hrc
        have e4 : (p : Int) + (k : Int) + 1 = ((p + (k + 1) : Nat) : Int) := by omega
        go_roundw
        case rel =>
          refine ⟨k + 1, A2, c2, by go_num, by omega, rfl, ?_, ?_, ?_, ?_⟩
          · rw [ML.out]; exact Own.setOld ho2 (by simp; omega) _
          · exact grown_set (grown_below hg hb3 (by omega)) _ _
          · rw [e4]; exact hrc2.set _
          · exact (Below.heap_setCell _ _ _ _ (by simp; omega)).trans (hsam0.trans hbk)
        case measure => simp [intOf]; omega
    · obtain rfl : k = m := by omega
      have k0 : wr.cell? ⟨w.heap.size, 0, none⟩ = some (.int .i64 0) := by rw [cell_of_row wr _ 0 _ _ _ hbk]; rfl
      have k1 : wr.cell? ⟨w.heap.size, 1, none⟩ = some (.int .i64 0) := by rw [cell_of_row wr _ 1 _ _ _ hbk]; rfl
      have q0 := frozen_of_row wr w.heap.size 0 _ _ hbk
      have q1 := frozen_of_row wr w.heap.size 1 _ _ hbk
      go_wp2
      refine bodyPost_ret (v := .tuple #[.slice A' k c', err 0 0]) (by simp [results, Try.results39, go_sem, *]) rfl ?_
      refine ⟨A', c', rfl, ?_, (by repeat' (first | (with_reducible assumption) | (with_reducible exact World.grownBy.refl _ _) | (with_reducible refine grown_drewN ?_ _) | (with_reducible refine grown_drew ?_) | (with_reducible refine grown_alloc ?_ _) | (with_reducible refine grown_set ?_ _ _) | (with_reducible refine grown_setNew ?_ ?_ _) | go_size)), ?_⟩
      · exact (Own.setOld (Own.setOld ho (by simp) _) (by simp) _).mono (by omega)
      · exact ((hrc.far (by simp; omega) _).far (by simp; omega) _)
end Go.Proofs.Ytkkgcfllfhkoaaa.Cur
