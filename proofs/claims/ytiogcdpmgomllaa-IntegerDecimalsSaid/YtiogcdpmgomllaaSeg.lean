/- A piece of a block of bytes that the call owns, from an offset on: read, stored into, cut. -/
import Derived.Test.YtiogcdpmgomllaaBs
import Derived.Laws.MakeOwn
set_option linter.unusedSimpArgs false
set_option linter.unusedVariables false
namespace Go.Proofs.Ytiogcdpmgomllaa.Kit
open Go.RowKit

/-- the cells of block g from off on hold l; the block lies from base on -/
def Seg (w : World) (base g off n : Nat) (l : List UInt8) : Prop :=
  base ≤ g ∧ l.length = n ∧ ∃ cur : Array Value, w.heap[g]? = some (.cells cur 5 (0, 0)) ∧ off + n ≤ cur.size ∧ ∀ k, k < n → cur[off + k]? = some (.int .u8 (bt l k))
section
variable {w w' : World} {base g off n c : Nat} {l : List UInt8}
theorem Seg.len (h : Seg w base g off n l) : l.length = n := h.2.1
theorem Seg.lt (h : Seg w base g off n l) : base ≤ g ∧ g < w.heap.size := by obtain ⟨h1, _, cur, h2, _⟩ := h; exact ⟨h1, Blk_lt h2⟩
theorem Seg.cellAt (h : Seg w base g off n l) {k : Nat} (hk : k < n) : w.cell? ⟨g, off + k, none⟩ = some (.int .u8 (bt l k)) := by
  obtain ⟨_, _, cur, h2, h3, h4⟩ := h
  rw [cell_of_row w g (off + k) _ _ _ h2]; exact h4 k hk
theorem Seg.frozenAt (h : Seg w base g off n l) (k : Nat) : w.frozen? ⟨g, k, none⟩ = false := by
  obtain ⟨_, _, cur, h2, h3, h4⟩ := h
  exact frozen_of_row w g k _ _ h2
theorem Seg.rd (h : Seg w base g off n l) : Rd w w.heap.size (some ⟨g, off, none⟩) n l :=
  ⟨h.len, fun _ => ⟨_, rfl, h.lt.2, fun k hk => by rw [add_plain]; exact h.cellAt hk⟩⟩
theorem Seg.keep (h : Seg w base g off n l) (hb : w'.heap[g]? = w.heap[g]?) : Seg w' base g off n l := by
  obtain ⟨h0, h1, cur, h2, h3⟩ := h
  exact ⟨h0, h1, cur, hb.trans h2, h3⟩
theorem Seg.below (h : Seg w base g off n l) (hb : Below w.heap.size w w') : Seg w' base g off n l := h.keep (hb.block g h.lt.2)
theorem Seg.alloc (h : Seg w base g off n l) (o : Obj) : Seg (w.alloc o) base g off n l := h.keep (Below.heap_alloc w o g h.lt.2)
theorem Seg.grown {r : Option Nat} (h : Seg w base g off n l) (hb : w.grownBy w' r) (hr : ∀ k, r = some k → k ≠ g) : Seg w' base g off n l := h.keep (hb.block g h.lt.2 (fun e => hr g e.symm rfl))
theorem Seg.drop (h : Seg w base g off n l) {k : Nat} (hk : k ≤ n) : Seg w base g (off + k) (n - k) (l.drop k) := by
  obtain ⟨h0, h1, cur, h2, h3, h4⟩ := h
  refine ⟨h0, by rw [List.length_drop, h1], cur, h2, by omega, fun j hj => ?_⟩
  rw [bt_drop, Nat.add_assoc]; exact h4 _ (by omega)
theorem Seg.stored (h : Seg w base g off n l) (k : Nat) {x : Int} (h0 : 0 ≤ x) (h1 : x ≤ 255) (hk : k < n) : Seg (w.setCell ⟨g, off + k, none⟩ (.int .u8 x)) base g off n (l.set k (ofI x)) := by
  obtain ⟨hb, hl, cur, h2, h3, h4⟩ := h
  refine ⟨hb, by simp [hl], _, heap_setCell_same w g (off + k) cur _ _ h2, by simp; omega, fun j hj => ?_⟩
  rw [bt_set h0 h1 (by omega)]
  by_cases e : k = j
  · subst e
    rw [if_pos rfl]
    simp [Array.getElem?_setIfInBounds, show off + k < cur.size from by omega]
  · rw [if_neg e, Array.getElem?_setIfInBounds_ne (by omega)]; exact h4 j hj
theorem Own.seg (h : Own w base (some ⟨g, 0, none⟩) n c l) : Seg w base g 0 n l := by
  obtain ⟨hb, hlt⟩ := h.lt
  refine ⟨hb, h.len, ?_⟩
  rcases h.2 with ⟨hv, _⟩ | ⟨g', cap', cur, hv, _, hg, hn, _⟩
  · simp at hv
  · simp only [Value.slice.injEq, Option.some.injEq, Addr.mk.injEq, and_true, true_and] at hv
    obtain ⟨rfl, rfl⟩ := hv
    have hc : ∀ k, k < n → cur[0 + k]? = some (.int .u8 (bt l k)) := fun k hk => by
      have := h.cellAt hk
      rw [cell_of_row w g k _ _ _ hg] at this
      rw [Nat.zero_add]; exact this
    refine ⟨cur, hg, ?_, hc⟩
    rcases Nat.eq_zero_or_pos n with h0 | h0
    · omega
    · have := hc (n - 1) (by omega)
      have := (Array.getElem?_eq_some_iff.1 this).1
      omega
end
/-- make([]byte, n), filled with zeros -/
theorem make_full (w : World) (n : Nat) (hn : n ≤ 140737488355328) :
    ∃ w', (Instr.makeSlice 22 (.int .i64 (n : Int)) (.int .i64 (n : Int))).run Try.prog w = .ok (.slice (some ⟨w.heap.size, 0, none⟩) n n) w' ∧ Own w' w.heap.size (some ⟨w.heap.size, 0, none⟩) n n (List.replicate n 0) ∧ Below w.heap.size w w' := by
  obtain ⟨i, hi, hz, hsz, hby⟩ := info_parts info8
  obtain ⟨w', h1, h2, h3⟩ := run_make_full (P := Try.prog) w w.heap.size 22 5 i (.int .u8 0) 1 Try.underlying22 hi hz hsz .i64 .i64 n (by rw [hby]; omega) (by unfold maxLen; omega) (Nat.le_refl _)
  refine ⟨w', h1, ?_, (Below.refl _ _).grown h3 (Nat.le_refl _) (fun k hk => by cases hk)⟩
  have e : (madeCells (Value.int .u8 0).cells (n * 1)).toList = vs (List.replicate n 0) := by
    rw [show (Value.int IntKind.u8 0).cells = #[.int .u8 0] from rfl, toList_madeCells_one, Nat.mul_one]
    simp [vs]
  rw [e] at h2
  exact h2
end Go.Proofs.Ytiogcdpmgomllaa.Kit
