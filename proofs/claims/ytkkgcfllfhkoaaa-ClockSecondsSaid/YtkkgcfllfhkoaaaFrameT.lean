/- What an argument gives: a struct of six numbers by value. -/
import Derived.Test.YtkkgcfllfhkoaaaFrame
import Derived.Test.YtkkgcfllfhkoaaaClkA
import Derived.Lib.SmallJoins
set_option linter.unusedSimpArgs false
set_option linter.unusedVariables false
namespace Go.Proofs.Ytkkgcfllfhkoaaa.Opn
open Go.Joins Go.ChangeShapes Go.WideShapes Go.ChangeAt Go.RowKit Go.Deep

theorem num_arg {H : Type} {enc : TypeId × Value → H} {P : Program} {w : World} {base : Nat} {spare : Nat → Bool} {held : Bool} {n : Nat} {t : TypeId} {v : Value} {y : DataW H × List MemPlace}
    (ht : P.underlying t = some (.int .i64)) (h : DataW.trod enc P w base spare held n t [v] = some y) : ∃ x, v = .int .i64 x ∧ -9223372036854775808 ≤ x ∧ x ≤ 9223372036854775807 := by
  obtain ⟨x, hv, _, hw⟩ := DataW.trod_int ht h
  simp only [List.cons.injEq, and_true] at hv
  exact ⟨x, hv, bounds_i64 hw⟩

theorem agg6_arg {H : Type} {enc : TypeId × Value → H} {P : Program} {w : World} {base : Nat} {spare : Nat → Bool} {held : Bool} {r : Reach} {b0 : Nat} {t : TypeId} {f0 f1 f2 f3 f4 f5 : Field} {v : Value} {d : DataW H} {p : List MemPlace}
    (hs : P.underlying t = some (.struct #[f0, f1, f2, f3, f4, f5])) (hone : oneCellFields P #[f0, f1, f2, f3, f4, f5] = true) (hC : P.cellsOf t = 6)
    (t0 : P.underlying f0.type = some (.int .i64)) (t1 : P.underlying f1.type = some (.int .i64)) (t2 : P.underlying f2.type = some (.int .i64)) (t3 : P.underlying f3.type = some (.int .i64)) (t4 : P.underlying f4.type = some (.int .i64)) (t5 : P.underlying f5.type = some (.int .i64))
    (hv : Value.okWide P w r b0 t v) (h : DataW.Trod enc P w base spare held t v d p) :
    ∃ x0 x1 x2 x3 x4 x5, v = Clk.time x0 x1 x2 x3 x4 x5 ∧ (-9223372036854775808 ≤ x0 ∧ x0 ≤ 9223372036854775807) ∧ (-9223372036854775808 ≤ x1 ∧ x1 ≤ 9223372036854775807) ∧ (-9223372036854775808 ≤ x2 ∧ x2 ≤ 9223372036854775807) ∧
      (-9223372036854775808 ≤ x3 ∧ x3 ≤ 9223372036854775807) ∧ (-9223372036854775808 ≤ x4 ∧ x4 ≤ 9223372036854775807) ∧ (-9223372036854775808 ≤ x5 ∧ x5 ≤ 9223372036854775807) := by
  obtain ⟨cs, rfl, hsz⟩ := okWide_struct hs hv
  obtain ⟨l⟩ := cs
  match l, hsz.trans hC with
  | [c0, c1, c2, c3, c4, c5], _ =>
    obtain ⟨fuel, hf⟩ := h
    obtain ⟨xs, n, _, hx, _, hlen, hg⟩ := DataW.trod_struct hs hf
    obtain ⟨o0, k0⟩ := hone_of hone 0 f0 rfl
    obtain ⟨o1, k1⟩ := hone_of hone 1 f1 rfl
    obtain ⟨o2, k2⟩ := hone_of hone 2 f2 rfl
    obtain ⟨o3, k3⟩ := hone_of hone 3 f3 rfl
    obtain ⟨o4, k4⟩ := hone_of hone 4 f4 rfl
    obtain ⟨o5, k5⟩ := hone_of hone 5 f5 rfl
    match xs, hlen with
    | [y0, y1, y2, y3, y4, y5], _ =>
      obtain ⟨x0, rfl, h0⟩ := num_arg (enc := enc) (w := w) (base := base) (spare := spare) (held := held) (n := n) (v := c0) (y := y0) t0 (by simpa [Value.cells, o0, k0] using hg 0 f0 rfl)
      obtain ⟨x1, rfl, h1⟩ := num_arg (enc := enc) (w := w) (base := base) (spare := spare) (held := held) (n := n) (v := c1) (y := y1) t1 (by simpa [Value.cells, o1, k1] using hg 1 f1 rfl)
      obtain ⟨x2, rfl, h2⟩ := num_arg (enc := enc) (w := w) (base := base) (spare := spare) (held := held) (n := n) (v := c2) (y := y2) t2 (by simpa [Value.cells, o2, k2] using hg 2 f2 rfl)
      obtain ⟨x3, rfl, h3⟩ := num_arg (enc := enc) (w := w) (base := base) (spare := spare) (held := held) (n := n) (v := c3) (y := y3) t3 (by simpa [Value.cells, o3, k3] using hg 3 f3 rfl)
      obtain ⟨x4, rfl, h4⟩ := num_arg (enc := enc) (w := w) (base := base) (spare := spare) (held := held) (n := n) (v := c4) (y := y4) t4 (by simpa [Value.cells, o4, k4] using hg 4 f4 rfl)
      obtain ⟨x5, rfl, h5⟩ := num_arg (enc := enc) (w := w) (base := base) (spare := spare) (held := held) (n := n) (v := c5) (y := y5) t5 (by simpa [Value.cells, o5, k5] using hg 5 f5 rfl)
      exact ⟨x0, x1, x2, x3, x4, x5, rfl, h0, h1, h2, h3, h4, h5⟩

theorem time_arg {H : Type} {enc : TypeId × Value → H} {w : World} {base : Nat} {spare : Nat → Bool} {held : Bool} {r : Reach} {b0 : Nat} {v : Value} {d : DataW H} {p : List MemPlace}
    (hv : Value.okWide Try.prog w r b0 26 v) (h : DataW.Trod enc Try.prog w base spare held 26 v d p) :
    ∃ x0 x1 x2 x3 x4 x5, v = Clk.time x0 x1 x2 x3 x4 x5 ∧ (-9223372036854775808 ≤ x0 ∧ x0 ≤ 9223372036854775807) ∧ (-9223372036854775808 ≤ x1 ∧ x1 ≤ 9223372036854775807) ∧ (-9223372036854775808 ≤ x2 ∧ x2 ≤ 9223372036854775807) ∧
      (-9223372036854775808 ≤ x3 ∧ x3 ≤ 9223372036854775807) ∧ (-9223372036854775808 ≤ x4 ∧ x4 ≤ 9223372036854775807) ∧ (-9223372036854775808 ≤ x5 ∧ x5 ≤ 9223372036854775807) :=
  agg6_arg Try.underlying26 (by kernel_rfl) (by kernel_rfl) Try.underlying3 Try.underlying3 Try.underlying3 Try.underlying3 Try.underlying3 Try.underlying3 hv h
end Go.Proofs.Ytkkgcfllfhkoaaa.Opn
