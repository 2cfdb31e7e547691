/- Walks: slices.Clone; the cursor's methods New, Pos, Left, Take, Rest, Byte, Seek. -/
import Derived.Test.YtkkgcfllfhkoaaaCurE
import Derived.StillTailTactics
set_option linter.unusedSimpArgs false
set_option linter.unusedVariables false
namespace Go.Proofs.Ytkkgcfllfhkoaaa.Cur
open Go.RowKit Kit

set_option maxHeartbeats 1000000 in
theorem clone_any (A : Option Addr) (n c : Nat) (l : List UInt8) (w : World) {B : Nat} (hr : Rd w B A n l) (hn : n ≤ 140737488355328) (hB : B ≤ w.heap.size) :
    Calls Try.prog 63 #[.slice A n c] w fun e w' => ∃ A' c', e = .returned (.slice A' n c') ∧ Own w' w.heap.size A' n c' l ∧ Below w.heap.size w w' := by
  have keq := fun (w : World) => Lib.run_eql_slice_nil (P := Try.prog) w 28 5 A n c 0 0 Try.underlying28
  rcases A with _ | ad
  · have hn0 : n = 0 := by
      rcases Nat.eq_zero_or_pos n with h0 | h0
      · exact h0
      · obtain ⟨_, e, _⟩ := hr.2 h0; cases e
    have hl : l = [] := List.eq_nil_of_length_eq_zero (hr.len.trans hn0)
    subst hn0 hl
    go_enter Try.func63, Try.ntmps63
    go_wp2
    go_ret
    exact ⟨none, 0, rfl, Own.none_ _ _, Below.refl _ _⟩
  · go_enter Try.func63, Try.ntmps63
    have ho := Own.lit (base := w.heap.size) w [] (Nat.le_refl _) (Nat.zero_le _)
    go_wp2_with (first | (at_builtin; refine app rfl (.tmp 5) (.tmp 6) rfl rfl ho rfl (hr.alloc hB _) (by omega) (by simp) ?_; intro A' c' w' ho' hg' hb' hs'))
    go_ret
    simp only [List.length_nil, Nat.zero_add, List.nil_append] at ho'
    exact ⟨A', c', by simp, ho', ((Below.refl _ _).alloc (Nat.le_refl _) _).trans hb'⟩

/-- a cursor lies whole in block g -/
def Cu (w : World) (g : Nat) (A : Option Addr) (n c p : Nat) : Prop := w.heap[g]? = some (.cells #[.slice A n c, .int .i64 (p : Int)] 85 (0, 0))

set_option maxHeartbeats 1000000 in
theorem new_any (A : Option Addr) (n c : Nat) (l : List UInt8) (w : World) {B : Nat} (hr : Rd w B A n l) (hn : n ≤ 140737488355328) (hB : B ≤ w.heap.size) :
    Calls Try.prog 34 #[.slice A n c] w fun e w' => ∃ g A' c', e = .returned (.pointer (some ⟨g, 0, none⟩)) ∧ w.heap.size ≤ g ∧ Cu w' g A' n c' 0 ∧ Own w' w.heap.size A' n c' l ∧ Below w.heap.size w w' := by
  go_enter Try.func34, Try.ntmps34
  go_wp2_with (first | (go_at_call 63; refine (clone_any _ _ _ _ _ hr hn hB).mono ?_; rintro e w1 ⟨A', c', rfl, ho, hb⟩))
  go_ret
  exact ⟨_, A', c', rfl, hb.size, heap_alloc_new _ _, ho.alloc _, hb.alloc hb.size _⟩

theorem Cu.lt {w : World} {g : Nat} {A : Option Addr} {n c p : Nat} (h : Cu w g A n c p) : g < w.heap.size := Blk_lt h
theorem Cu.cell0 {w : World} {g : Nat} {A : Option Addr} {n c p : Nat} (h : Cu w g A n c p) : w.cell? ⟨g, 0, none⟩ = some (.slice A n c) := by rw [cell_of_row w g 0 _ _ _ h]; rfl
theorem Cu.cell1 {w : World} {g : Nat} {A : Option Addr} {n c p : Nat} (h : Cu w g A n c p) : w.cell? ⟨g, 1, none⟩ = some (.int .i64 (p : Int)) := by rw [cell_of_row w g 1 _ _ _ h]; rfl
theorem Cu.frozen {w : World} {g : Nat} {A : Option Addr} {n c p : Nat} (h : Cu w g A n c p) (k : Nat) : w.frozen? ⟨g, k, none⟩ = false := frozen_of_row w g k _ _ h
theorem Cu.below {w w' : World} {g B : Nat} {A : Option Addr} {n c p : Nat} (h : Cu w g A n c p) (hb : Below B w w') (hg : g < B) : Cu w' g A n c p := (hb.block g hg).trans h
theorem Cu.drewN {w : World} {g : Nat} {A : Option Addr} {n c p : Nat} (h : Cu w g A n c p) (k : Nat) : Cu (w.drewN k) g A n c p := h

theorem Cu.alloc {w : World} {g : Nat} {A : Option Addr} {n c p : Nat} (h : Cu w g A n c p) (o : Obj) : Cu (w.alloc o) g A n c p := (Below.heap_alloc w o g h.lt).trans h
theorem Cu.drew {w : World} {g : Nat} {A : Option Addr} {n c p : Nat} (h : Cu w g A n c p) : Cu w.drew g A n c p := h
theorem Cu.far {w : World} {g : Nat} {A : Option Addr} {n c p : Nat} (h : Cu w g A n c p) {q : Addr} (hq : g ≠ q.block) (u : Value) : Cu (w.setCell q u) g A n c p := (Below.heap_setCell w q u g hq).trans h
theorem Cu.set {w : World} {g : Nat} {A : Option Addr} {n c p : Nat} (h : Cu w g A n c p) (q : Nat) : Cu (w.setCell ⟨g, 1, none⟩ (.int .i64 (q : Int))) g A n c q := by
  have := heap_setCell_same w g 1 #[.slice A n c, .int .i64 (p : Int)] 85 (.int .i64 (q : Int)) h
  simpa [Cu] using this
theorem pos_nil (w : World) : Calls Try.prog 42 #[.pointer none] w fun e w' => e = .returned (.int .i64 0) ∧ w = w' := by
  go_enter Try.func42, Try.ntmps42
  go_wp2
  go_ret
  exact ⟨rfl, rfl⟩
theorem pos_any {g : Nat} {A : Option Addr} {n c p : Nat} {w0 : World} (w : World) (h : Cu w0 g A n c p) (hw : Below w0.heap.size w0 w) :
    Calls Try.prog 42 #[.pointer (some ⟨g, 0, none⟩)] w fun e w' => e = .returned (.int .i64 (p : Int)) ∧ w = w' := by
  have h' := h.below hw h.lt
  have c1 := h'.cell1
  go_enter Try.func42, Try.ntmps42
  go_wp2
  go_ret
  exact ⟨rfl, rfl⟩
theorem left_nil (w : World) : Calls Try.prog 43 #[.pointer none] w fun e w' => e = .returned (.int .i64 0) ∧ ∃ m, w' = w.drewN m := by
  go_enter Try.func43, Try.ntmps43
  go_wp2
  go_ret
  exact ⟨rfl, (by first | exact ⟨0, rfl⟩ | exact ⟨_, rfl⟩ | (simp only [World.drewN_drewN]; exact ⟨_, rfl⟩))⟩
theorem left_any {g : Nat} {A : Option Addr} {n c p : Nat} {w0 : World} (w : World) (h : Cu w0 g A n c p) (hw : Below w0.heap.size w0 w) (hp : p ≤ n) (hn : n ≤ maxLen) :
    Calls Try.prog 43 #[.pointer (some ⟨g, 0, none⟩)] w fun e w' => e = .returned (.int .i64 ((n - p : Nat) : Int)) ∧ ∃ m, w' = w.drewN m := by
  have h' := h.below hw h.lt
  have c0 := h'.cell0
  have c1 := h'.cell1
  unfold maxLen at hn
  go_enter Try.func43, Try.ntmps43
  go_wp2
  go_quiet (fail)
  go_wp2
  go_ret
  exact ⟨ret_int (by omega), (by first | exact ⟨0, rfl⟩ | exact ⟨_, rfl⟩ | (simp only [World.drewN_drewN]; exact ⟨_, rfl⟩))⟩
end Go.Proofs.Ytkkgcfllfhkoaaa.Cur
