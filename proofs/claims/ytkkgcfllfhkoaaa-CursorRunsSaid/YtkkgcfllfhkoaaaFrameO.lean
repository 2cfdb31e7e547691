/- What an argument gives: a slice of structs of a byte and a number. -/
import Derived.Test.YtkkgcfllfhkoaaaFrame
import Derived.Deep.SlicePairs
set_option linter.unusedSimpArgs false
set_option linter.unusedVariables false
namespace Go.Proofs.Ytkkgcfllfhkoaaa.Opn
open Go.Joins Go.ChangeShapes Go.WideShapes Go.ChangeAt Go.RowKit Go.Deep Kit

/-- slot k of the calls -/
def OpAt (w : World) (A : Option Addr) (k : Nat) : Prop :=
  ∃ (ad : Addr) (kd m : Int), A = some ad ∧ ad.block < w.heap.size ∧ w.cell? (ad.add (k * 2)) = some (.int .u8 kd) ∧ w.cell? (ad.add (k * 2 + 1)) = some (.int .i64 m) ∧ 0 ≤ kd ∧ kd ≤ 255 ∧ -9223372036854775808 ≤ m ∧ m ≤ 9223372036854775807
theorem blk_of_cell {w : World} {a : Addr} {v : Value} (h : w.cell? a = some v) : a.block < w.heap.size := by
  rcases Nat.lt_or_ge a.block w.heap.size with h1 | h1
  · exact h1
  · unfold World.cell? at h
    simp [Array.getElem?_eq_none h1] at h
theorem pairs_arg {H : Type} {enc : TypeId × Value → H} {P : Program} {w : World} {base : Nat} {spare : Nat → Bool} {a : Option Addr} {len cap : Nat} {d : DataW H} {p : List MemPlace} {t e : TypeId} {f0 f1 : Field}
    (ht : P.underlying t = some (.slice e)) (he : P.underlying e = some (.struct #[f0, f1])) (ce : P.cellsOf e = 2) (o0 : f0.offset = 0) (o1 : f1.offset = 1) (c0 : P.cellsOf f0.type = 1) (c1 : P.cellsOf f1.type = 1)
    (u0 : P.underlying f0.type = some (.int .u8)) (u1 : P.underlying f1.type = some (.int .i64)) (h : DataW.Trod enc P w base spare true t (.slice a len cap) d p) :
    (∀ k, k < len → OpAt w a k) ∧ len ≤ cap ∧ cap ≤ maxLen := by
  obtain ⟨fuel, hf⟩ := h
  rcases open_slice_pairs ht he ce o0 o1 c0 c1 hf with ⟨hcs, _⟩ | ⟨x, l, c, m, n, V0, V1, D0, D1, P0, P1, hcs, _, hl, hm, hmm, _, hi⟩
  · simp [Value.cells] at hcs
    obtain ⟨rfl, rfl, rfl⟩ := hcs
    exact ⟨fun k hk => absurd hk (by omega), Nat.le_refl _, Nat.zero_le _⟩
  · simp [Value.cells] at hcs
    obtain ⟨rfl, rfl, rfl⟩ := hcs
    refine ⟨fun k hk => ?_, hl, hm⟩
    obtain ⟨q0, q1, r0, r1⟩ := hi k (by rw [hmm]; split <;> omega)
    obtain ⟨x0, e0, _, w0⟩ := DataW.trod_int u0 r0
    obtain ⟨x1, e1, _, w1⟩ := DataW.trod_int u1 r1
    simp only [List.cons.injEq, and_true] at e0 e1
    rw [e0] at q0
    rw [e1] at q1
    have b0 := bounds_u8 w0
    have b1 := bounds_i64 w1
    have hb := blk_of_cell q0
    rw [Kit.block_add] at hb
    exact ⟨x, x0, x1, rfl, hb, q0, q1, b0.1, b0.2, b1.1, b1.2⟩
theorem ops_arg {H : Type} {enc : TypeId × Value → H} {w : World} {base : Nat} {spare : Nat → Bool} {a : Option Addr} {len cap : Nat} {d : DataW H} {p : List MemPlace}
    (h : DataW.Trod enc Try.prog w base spare true 50 (.slice a len cap) d p) : (∀ k, k < len → OpAt w a k) ∧ len ≤ cap ∧ cap ≤ maxLen :=
  pairs_arg Try.underlying50 Try.underlying54 (by kernel_rfl) rfl rfl (by kernel_rfl) (by kernel_rfl) Try.underlying5 Try.underlying3 h
theorem OpAt.below {w w' : World} {A : Option Addr} {k : Nat} (h : OpAt w A k) (hb : Below w.heap.size w w') : OpAt w' A k := by
  obtain ⟨ad, kd, m, e, b, c0, c1, r⟩ := h
  exact ⟨ad, kd, m, e, Nat.lt_of_lt_of_le b hb.size, by rw [hb.cell (by rw [Kit.block_add]; exact b)]; exact c0, by rw [hb.cell (by rw [Kit.block_add]; exact b)]; exact c1, r⟩
end Go.Proofs.Ytkkgcfllfhkoaaa.Opn
