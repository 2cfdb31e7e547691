/- What an argument gives: arrays of two, a tag by value. -/
import Derived.Test.YtjdnjmggpomhcaaFrame
import Derived.Lib.SmallJoins
set_option linter.unusedSimpArgs false
set_option linter.unusedVariables false
namespace Go.Proofs.Ytjdnjmggpomhcaa.Opn
open Go.Joins Go.ChangeShapes Go.WideShapes Go.ChangeAt Go.RowKit Go.Deep Kit

section
variable {H : Type} {enc : TypeId × Value → H} {w : World} {base : Nat} {spare : Nat → Bool} {held : Bool}
theorem numG {P : Program} {n : Nat} {t : TypeId} {v : Value} {y : DataW H × List MemPlace}
    (ht : P.underlying t = some (.int .i64)) (h : DataW.trod enc P w base spare held n t [v] = some y) : ∃ x, v = .int .i64 x ∧ -9223372036854775808 ≤ x ∧ x ≤ 9223372036854775807 := by
  obtain ⟨x, hv, _, hw⟩ := DataW.trod_int ht h
  simp only [List.cons.injEq, and_true] at hv
  exact ⟨x, hv, bounds_i64 hw⟩
theorem boolG {P : Program} {n : Nat} {t : TypeId} {v : Value} {y : DataW H × List MemPlace}
    (ht : P.underlying t = some .bool) (h : DataW.trod enc P w base spare held n t [v] = some y) : ∃ x, v = .bool x := by
  obtain ⟨x, hv, _⟩ := DataW.trod_bool ht h
  simp only [List.cons.injEq, and_true] at hv
  exact ⟨x, hv⟩
theorem bytesG {n : Nat} {v : Value} {y : DataW H × List MemPlace} (h : DataW.trod enc Try.prog w base spare held n 22 [v] = some y) :
    ∃ A len cap, ∃ l : List UInt8, v = .slice A len cap ∧ Rd w w.heap.size A len l ∧ len ≤ cap ∧ cap ≤ maxLen := by
  rcases open_ints Try.underlying22 Try.underlying5 (by kernel_rfl) h with ⟨hcs, _⟩ | ⟨x, l, c, zs, hcs, _, hl, hm, hz, _, hcell, hwz⟩
  · simp only [List.cons.injEq, and_true] at hcs
    subst hcs
    exact ⟨none, 0, 0, [], rfl, Rd.nil_, Nat.le_refl _, Nat.zero_le _⟩
  · simp only [List.cons.injEq, and_true] at hcs
    subst hcs
    exact ⟨some x, l, c, _, rfl, rd_of_cells (by rw [hz]; split <;> omega) hcell hwz, hl, hm⟩
theorem okWide_array {P : Program} {n : Nat} {e t : TypeId} {r : Reach} {b0 : Nat} {v : Value} (ht : P.underlying t = some (.array n e)) (h : Value.okWide P w r b0 t v) : ∃ cs, v = .agg cs ∧ cs.size = P.cellsOf t := by
  simp only [Value.okWide, ht] at h
  obtain ⟨cs, h1, h2, _⟩ := h
  exact ⟨cs, h1, h2⟩
theorem arr2G {P : Program} {e t : TypeId} {r : Reach} {b0 : Nat} {v : Value} {d : DataW H} {p : List MemPlace} (ht : P.underlying t = some (.array 2 e)) (hce : P.cellsOf e = 1) (hC : P.cellsOf t = 2)
    (hv : Value.okWide P w r b0 t v) (h : DataW.Trod enc P w base spare held t v d p) :
    ∃ c0 c1 y0 y1 n, v = .agg #[c0, c1] ∧ DataW.trod enc P w base spare held n e [c0] = some y0 ∧ DataW.trod enc P w base spare held n e [c1] = some y1 := by
  obtain ⟨cs, rfl, hsz⟩ := okWide_array ht hv
  obtain ⟨l⟩ := cs
  match l, hsz.trans hC with
  | [c0, c1], _ =>
    obtain ⟨fuel, hf⟩ := h
    obtain ⟨xs, n, _, hx, _, hlen, hg⟩ := DataW.trod_array ht hf
    match xs, hlen with
    | [y0, y1], _ => exact ⟨c0, c1, y0, y1, n, rfl, by simpa [Value.cells, hce] using hg 0 (by omega), by simpa [Value.cells, hce] using hg 1 (by omega)⟩
theorem nums2_arg {r : Reach} {b0 : Nat} {v : Value} {d : DataW H} {p : List MemPlace} (hv : Value.okWide Try.prog w r b0 41 v) (h : DataW.Trod enc Try.prog w base spare held 41 v d p) :
    ∃ x0 x1, v = .agg #[.int .i64 x0, .int .i64 x1] := by
  obtain ⟨c0, c1, y0, y1, n, rfl, h0, h1⟩ := arr2G Try.underlying41 (by kernel_rfl) (by kernel_rfl) hv h
  obtain ⟨x0, rfl, _⟩ := numG Try.underlying3 h0
  obtain ⟨x1, rfl, _⟩ := numG Try.underlying3 h1
  exact ⟨x0, x1, rfl⟩
theorem bytes2_arg {r : Reach} {b0 : Nat} {v : Value} {d : DataW H} {p : List MemPlace} (hv : Value.okWide Try.prog w r b0 64 v) (h : DataW.Trod enc Try.prog w base spare held 64 v d p) :
    ∃ a1 len1 cap1 l1 a2 len2 cap2 l2, v = .agg #[.slice a1 len1 cap1, .slice a2 len2 cap2] ∧ Rd w w.heap.size a1 len1 l1 ∧ Rd w w.heap.size a2 len2 l2 := by
  obtain ⟨c0, c1, y0, y1, n, rfl, h0, h1⟩ := arr2G Try.underlying64 (by kernel_rfl) (by kernel_rfl) hv h
  obtain ⟨a1, len1, cap1, l1, rfl, r1, _⟩ := bytesG h0
  obtain ⟨a2, len2, cap2, l2, rfl, r2, _⟩ := bytesG h1
  exact ⟨a1, len1, cap1, l1, a2, len2, cap2, l2, rfl, r1, r2⟩
theorem aggG3 {P : Program} {r : Reach} {b0 : Nat} {t : TypeId} {f0 f1 f2 : Field} {v : Value} {d : DataW H} {p : List MemPlace}
    (hs : P.underlying t = some (.struct #[f0, f1, f2])) (hone : oneCellFields P #[f0, f1, f2] = true) (hC : P.cellsOf t = 3)
    (t0 : P.underlying f0.type = some (.int .i64)) (t1 : P.underlying f1.type = some (.int .i64)) (t2 : P.underlying f2.type = some .bool)
    (hv : Value.okWide P w r b0 t v) (h : DataW.Trod enc P w base spare held t v d p) : ∃ x0 x1 x2, v = .agg #[.int .i64 x0, .int .i64 x1, .bool x2] := by
  obtain ⟨cs, rfl, hsz⟩ := okWide_struct hs hv
  obtain ⟨l⟩ := cs
  match l, hsz.trans hC with
  | [c0, c1, c2], _ =>
    obtain ⟨fuel, hf⟩ := h
    obtain ⟨xs, n, _, hx, _, hlen, hg⟩ := DataW.trod_struct hs hf
    obtain ⟨o0, k0⟩ := hone_of hone 0 f0 rfl
    obtain ⟨o1, k1⟩ := hone_of hone 1 f1 rfl
    obtain ⟨o2, k2⟩ := hone_of hone 2 f2 rfl
    match xs, hlen with
    | [y0, y1, y2], _ =>
      obtain ⟨x0, rfl, _⟩ := numG (enc := enc) (w := w) (base := base) (spare := spare) (held := held) (n := n) (v := c0) (y := y0) t0 (by simpa [Value.cells, o0, k0] using hg 0 f0 rfl)
      obtain ⟨x1, rfl, _⟩ := numG (enc := enc) (w := w) (base := base) (spare := spare) (held := held) (n := n) (v := c1) (y := y1) t1 (by simpa [Value.cells, o1, k1] using hg 1 f1 rfl)
      obtain ⟨x2, rfl⟩ := boolG (enc := enc) (w := w) (base := base) (spare := spare) (held := held) (n := n) (v := c2) (y := y2) t2 (by simpa [Value.cells, o2, k2] using hg 2 f2 rfl)
      exact ⟨x0, x1, x2, rfl⟩
theorem tag_arg {r : Reach} {b0 : Nat} {v : Value} {d : DataW H} {p : List MemPlace} (hv : Value.okWide Try.prog w r b0 58 v) (h : DataW.Trod enc Try.prog w base spare held 58 v d p) :
    ∃ x0 x1 x2, v = .agg #[.int .i64 x0, .int .i64 x1, .bool x2] := aggG3 Try.underlying58 (by kernel_rfl) (by kernel_rfl) Try.underlying3 Try.underlying3 Try.underlying4 hv h
end
end Go.Proofs.Ytjdnjmggpomhcaa.Opn
