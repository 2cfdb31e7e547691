/- Walks: the clock's decode: what its blocks hold; the next two digits in these words. -/
import Derived.Test.YtkkgcfllfhkoaaaClkF
import Derived.Deep.CutRange
set_option linter.unusedSimpArgs false
set_option linter.unusedVariables false
namespace Go.Proofs.Ytkkgcfllfhkoaaa.Clk
open Go.RowKit Kit

/-- the blocks of a running decode: the input, the result, the index, the point in time -/
def DS (w wx : World) (b0 b1 b2 b3 : Nat) (A : Option Addr) (n c : Nat) (l : List UInt8) (p : Nat) (cs : Array Value) : Prop :=
  wx.heap[b0]? = some (.cells #[.slice A n c] 28 (0, 0)) ∧ wx.heap[b1]? = some (.cells #[.int .i64 0, .int .i64 0, .int .i64 0, .int .i64 0, .int .i64 0, .int .i64 0] 26 (0, 0)) ∧
  wx.heap[b2]? = some (.cells #[.int .i64 (p : Int)] 3 (0, 0)) ∧ wx.heap[b3]? = some (.cells cs 26 (0, 0)) ∧ (Rd wx w.heap.size A n l ∧ Below w.heap.size w wx) ∧ (w.heap.size ≤ b0 ∧ b0 < b1 ∧ b1 < b2 ∧ b2 < b3)
section
variable {w wx : World} {b0 b1 b2 b3 : Nat} {A : Option Addr} {n c : Nat} {l : List UInt8} {p : Nat} {cs : Array Value}
theorem DS.alloc (h : DS w wx b0 b1 b2 b3 A n c l p cs) (o : Obj) : DS w (wx.alloc o) b0 b1 b2 b3 A n c l p cs := by
  obtain ⟨h0, h1, h2, h3, ⟨h4, h5⟩, h6⟩ := h
  exact ⟨(Below.heap_alloc wx o b0 (Blk_lt h0)).trans h0, (Below.heap_alloc wx o b1 (Blk_lt h1)).trans h1, (Below.heap_alloc wx o b2 (Blk_lt h2)).trans h2, (Below.heap_alloc wx o b3 (Blk_lt h3)).trans h3,
    ⟨h4.alloc h5.size _, h5.alloc h5.size _⟩, h6⟩
theorem DS.drewN (h : DS w wx b0 b1 b2 b3 A n c l p cs) (k : Nat) : DS w (wx.drewN k) b0 b1 b2 b3 A n c l p cs := by
  obtain ⟨h0, h1, h2, h3, ⟨h4, h5⟩, h6⟩ := h
  exact ⟨h0, h1, h2, h3, ⟨h4.drewN k, below_drewN h5 k⟩, h6⟩
theorem DS.drew (h : DS w wx b0 b1 b2 b3 A n c l p cs) : DS w wx.drew b0 b1 b2 b3 A n c l p cs := h.drewN 1
theorem DS.set (h : DS w wx b0 b1 b2 b3 A n c l p cs) (k : Nat) (v : Value) : DS w (wx.setCell ⟨b3, k, none⟩ v) b0 b1 b2 b3 A n c l p (cs.setIfInBounds k v) := by
  obtain ⟨h0, h1, h2, h3, ⟨h4, h5⟩, h6⟩ := h
  exact ⟨(Below.heap_setCell wx _ v b0 (by simp; omega)).trans h0, (Below.heap_setCell wx _ v b1 (by simp; omega)).trans h1, (Below.heap_setCell wx _ v b2 (by simp; omega)).trans h2,
    heap_setCell_same wx b3 k cs _ v h3, ⟨h4.setCell (by simp; omega) _, h5.setCell (by simp; omega) _⟩, h6⟩
theorem DS.cell (h : DS w wx b0 b1 b2 b3 A n c l p cs) (k : Nat) : wx.cell? ⟨b3, k, none⟩ = cs[k]? := by
  rw [cell_of_row wx b3 k _ _ _ h.2.2.2.1]
theorem DS.frozen (h : DS w wx b0 b1 b2 b3 A n c l p cs) (k : Nat) : wx.frozen? ⟨b3, k, none⟩ = false := frozen_of_row wx b3 k _ _ h.2.2.2.1
theorem DS.lt (h : DS w wx b0 b1 b2 b3 A n c l p cs) : b3 < wx.heap.size := Blk_lt h.2.2.2.1
theorem DS.free1 (h : DS w wx b0 b1 b2 b3 A n c l p cs) (k : Nat) : wx.frozen? ⟨b1, k, none⟩ = false := frozen_of_row wx b1 k _ _ h.2.1
theorem DS.cell1 (h : DS w wx b0 b1 b2 b3 A n c l p cs) (k : Nat) (hk : k < 6) : wx.cell? ⟨b1, k, none⟩ = some (.int .i64 0) := by
  rw [cell_of_row wx b1 k _ _ _ h.2.1]
  have hk' : k = 0 ∨ k = 1 ∨ k = 2 ∨ k = 3 ∨ k = 4 ∨ k = 5 := by omega
  rcases hk' with rfl | rfl | rfl | rfl | rfl | rfl <;> rfl
theorem DS.below (h : DS w wx b0 b1 b2 b3 A n c l p cs) : Below w.heap.size w wx := h.2.2.2.2.1.2

theorem DS.past {w' : World} (h : DS w wx b0 b1 b2 b3 A n c l p cs) (hb : Below wx.heap.size wx w') : DS w w' b0 b1 b2 b3 A n c l p cs := by
  obtain ⟨h0, h1, h2, h3, ⟨h4, h5⟩, h6⟩ := h
  exact ⟨(hb.block b0 (Blk_lt h0)).trans h0, (hb.block b1 (Blk_lt h1)).trans h1, (hb.block b2 (Blk_lt h2)).trans h2, (hb.block b3 (Blk_lt h3)).trans h3, ⟨h4.below (hb.mono h5.size), h5.trans (hb.mono h5.size)⟩, h6⟩

theorem bk_new {w : World} {b : Nat} {o : Obj} (h : b = w.heap.size) : (w.alloc o).heap[b]? = some o := by subst h; exact heap_alloc_new w o
theorem bk_old {w : World} {b : Nat} {o o' : Obj} (h : w.heap[b]? = some o) : (w.alloc o').heap[b]? = some o := (Below.heap_alloc w o' b (Blk_lt h)).trans h

/-- the first two digits -/
theorem next_first {dg : Nat} (hr : Rd w w.heap.size A n l) (hok : okC dg l) (hd : dg ≤ 4) :
    Calls Try.prog 67 #[.pointer (some ⟨w.heap.size + 1 + 1, 0, none⟩), .pointer (some ⟨w.heap.size, 0, none⟩)]
      (((w.alloc (.cells #[.slice A n c] 28)).alloc (.cells #[.int .i64 0, .int .i64 0, .int .i64 0, .int .i64 0, .int .i64 0, .int .i64 0] 26)).alloc (.cells #[.int .i64 0] 3))
      fun e w' => e = .returned (.int .i64 (pr l 0)) ∧ ∀ cs, DS w (w'.alloc (.cells cs 26)) w.heap.size (w.heap.size + 1) (w.heap.size + 1 + 1) w'.heap.size A n c l 2 cs := by
  have hn : n = dg + 11 := by rw [← hr.len]; exact hok.1
  have hr3 := ((hr.alloc (Nat.le_refl _) (.cells #[.slice A n c] 28)).alloc (by simp) (.cells #[.int .i64 0, .int .i64 0, .int .i64 0, .int .i64 0, .int .i64 0, .int .i64 0] 26)).alloc (by simp; omega) (.cells #[.int .i64 0] 3)
  have f0 : (((w.alloc (.cells #[.slice A n c] 28)).alloc (.cells #[.int .i64 0, .int .i64 0, .int .i64 0, .int .i64 0, .int .i64 0, .int .i64 0] 26)).alloc (.cells #[.int .i64 0] 3)).heap[w.heap.size]? = _ := bk_old (bk_old (bk_new rfl))
  have f1 : (((w.alloc (.cells #[.slice A n c] 28)).alloc (.cells #[.int .i64 0, .int .i64 0, .int .i64 0, .int .i64 0, .int .i64 0, .int .i64 0] 26)).alloc (.cells #[.int .i64 0] 3)).heap[w.heap.size + 1]? = _ := bk_old (bk_new (by simp))
  have f2 : (((w.alloc (.cells #[.slice A n c] 28)).alloc (.cells #[.int .i64 0, .int .i64 0, .int .i64 0, .int .i64 0, .int .i64 0, .int .i64 0] 26)).alloc (.cells #[.int .i64 0] 3)).heap[w.heap.size + 1 + 1]? = _ := bk_new (by simp)
  have hbl : Below w.heap.size w (((w.alloc (.cells #[.slice A n c] 28)).alloc (.cells #[.int .i64 0, .int .i64 0, .int .i64 0, .int .i64 0, .int .i64 0, .int .i64 0] 26)).alloc (.cells #[.int .i64 0] 3)) := (by repeat' (first | (with_reducible exact Below.refl _ _) | (with_reducible assumption) | (with_reducible refine below_drewN ?_ _) | (with_reducible refine Below.drew ?_) | (with_reducible refine Below.alloc ?_ ?_ _) | (with_reducible refine Below.setCell ?_ ?_ _) | go_size))
  have hz : (((w.alloc (.cells #[.slice A n c] 28)).alloc (.cells #[.int .i64 0, .int .i64 0, .int .i64 0, .int .i64 0, .int .i64 0, .int .i64 0] 26)).alloc (.cells #[.int .i64 0] 3)).heap.size = w.heap.size + 3 := by simp
  generalize (((w.alloc (.cells #[.slice A n c] 28)).alloc (.cells #[.int .i64 0, .int .i64 0, .int .i64 0, .int .i64 0, .int .i64 0, .int .i64 0] 26)).alloc (.cells #[.int .i64 0] 3)) = w3 at *
  refine (next_any (p := 0) w3 hr3 f2 f0 (by omega) (fun ad e hb => ?_) (by omega) (by omega) (hok.2.2 _ (by omega)) (hok.2.2 _ (by omega))).mono ?_
  · obtain ⟨ad', e', hlt, _⟩ := hr.all_ (by omega)
    rw [e] at e'
    injection e' with e'
    subst e'
    omega
  · rintro e w' ⟨rfl, k, rfl⟩
    have g2 := heap_setCell_same w3 (w.heap.size + 1 + 1) 0 _ _ (.int .i64 ((0 + 2 : Nat) : Int)) f2
    refine ⟨rfl, fun cs => ?_⟩
    exact ⟨bk_old ((Below.heap_setCell w3 _ _ _ (by simp; omega)).trans f0), bk_old ((Below.heap_setCell w3 _ _ _ (by simp)).trans f1), bk_old (by simpa using g2), bk_new rfl,
      ⟨((hr3.setCell (by simp; omega) _).drewN k).alloc (by simp; omega) _, (below_drewN (hbl.setCell (by simp; omega) _) k).alloc (by simp; omega) _⟩, by simp; omega⟩

theorem next_ds {dg : Nat} (wx : World) (h : DS w wx b0 b1 b2 b3 A n c l p cs) (hok : okC dg l) (hp : p + 1 < dg + 10) (hd : dg ≤ 4) :
    Calls Try.prog 67 #[.pointer (some ⟨b2, 0, none⟩), .pointer (some ⟨b0, 0, none⟩)] wx fun e w' => e = .returned (.int .i64 (pr l p)) ∧ DS w w' b0 b1 b2 b3 A n c l (p + 2) cs ∧ wx.grownBy w' (some b2) := by
  obtain ⟨h0, h1, h2, h3, ⟨h4, h5⟩, h6⟩ := h
  have hn : n = dg + 11 := by rw [← h4.len]; exact hok.1
  refine (next_any wx h4 h2 h0 (by omega) (fun ad e hb => ?_) (by omega) (by omega) (hok.2.2 _ (by omega)) (hok.2.2 _ (by omega))).mono ?_
  · obtain ⟨ad', e', hlt, _⟩ := h4.all_ (by omega)
    rw [e] at e'
    injection e' with e'
    subst e'
    omega
  · rintro e w' ⟨rfl, k, rfl⟩
    have g2 := heap_setCell_same wx b2 0 _ _ (.int .i64 ((p + 2 : Nat) : Int)) h2
    refine ⟨rfl, DS.drewN ⟨(Below.heap_setCell wx _ _ b0 (by simp; omega)).trans h0, (Below.heap_setCell wx _ _ b1 (by simp; omega)).trans h1, by simpa using g2,
      (Below.heap_setCell wx _ _ b3 (by simp; omega)).trans h3, ⟨h4.setCell (by simp; omega) _, h5.setCell (by simp; omega) _⟩, h6⟩ k, ?_⟩
    exact grown_drewN (grown_set (World.grownBy.refl _ _) _ _) _
end

/-- the point in time, as far as it is read -/
def tcs (y : Int) (dg : Nat) (l : List UInt8) (k : Nat) : Array Value :=
  #[.int .i64 y, .int .i64 (if 0 < k then pr l dg else 0), .int .i64 (if 1 < k then pr l (dg + 2) else 0), .int .i64 (if 2 < k then pr l (dg + 4) else 0), .int .i64 (if 3 < k then pr l (dg + 6) else 0), .int .i64 (if 4 < k then pr l (dg + 8) else 0)]
theorem tcs_at {y : Int} {dg k : Nat} {l : List UInt8} (h : k < 5) : (tcs y dg l k)[k + 1]? = some (.int .i64 0) := by
  have hk' : k = 0 ∨ k = 1 ∨ k = 2 ∨ k = 3 ∨ k = 4 := by omega
  rcases hk' with rfl | rfl | rfl | rfl | rfl <;> rfl
theorem tcs_set {y : Int} {dg k : Nat} {l : List UInt8} (h : k < 5) : (tcs y dg l k).setIfInBounds (k + 1) (.int .i64 (pr l (dg + 2 * k))) = tcs y dg l (k + 1) := by
  have hk' : k = 0 ∨ k = 1 ∨ k = 2 ∨ k = 3 ∨ k = 4 := by omega
  rcases hk' with rfl | rfl | rfl | rfl | rfl <;> rfl
theorem tcs_zero (y : Int) (dg : Nat) (l : List UInt8) : tcs y dg l 0 = #[.int .i64 y, .int .i64 0, .int .i64 0, .int .i64 0, .int .i64 0, .int .i64 0] := rfl
theorem tcs_five (y : Int) (dg : Nat) (l : List UInt8) : tcs y dg l 5 = #[.int .i64 y, .int .i64 (pr l dg), .int .i64 (pr l (dg + 2)), .int .i64 (pr l (dg + 4)), .int .i64 (pr l (dg + 6)), .int .i64 (pr l (dg + 8))] := rfl
/-- the five pointers -/
def pts (b : Nat) : Array Value := #[.pointer (some ⟨b, 1, none⟩), .pointer (some ⟨b, 2, none⟩), .pointer (some ⟨b, 3, none⟩), .pointer (some ⟨b, 4, none⟩), .pointer (some ⟨b, 5, none⟩)]
theorem pts_at {b k : Nat} (h : k < 5) : (pts b)[k]? = some (.pointer (some ⟨b, k + 1, none⟩)) := by
  have hk' : k = 0 ∨ k = 1 ∨ k = 2 ∨ k = 3 ∨ k = 4 := by omega
  rcases hk' with rfl | rfl | rfl | rfl | rfl <;> rfl
end Go.Proofs.Ytkkgcfllfhkoaaa.Clk
