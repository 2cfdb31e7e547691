/- What an argument gives: a slice of numbers. -/
import Derived.Test.YtoomdaljdbennaaKA
import Derived.Test.YtoomdaljdbennaaKND
set_option linter.unusedSimpArgs false
set_option linter.unusedVariables false
namespace Go.Proofs.Ytoomdaljdbennaa.Opn
open Go.ChangeShapes Go.WideShapes Go.ChangeAt Go.RowKit Kit Tree

theorem ints_arg {H : Type} {enc : TypeId × Value → H} {W : World} {base : Nat} {spare : Nat → Bool} {a : Option Addr} {len cap : Nat} {d : DataW H} {p : List MemPlace}
    (h : DataW.Trod enc Try.prog W base spare true 45 (.slice a len cap) d p) : ∃ xs : List Int, RdI W W.heap.size a len xs ∧ len ≤ cap ∧ cap ≤ maxLen := by
  obtain ⟨fuel, hf⟩ := h
  rcases open_ints Try.underlying45 Try.underlying3 (by kernel_rfl) hf with ⟨hcs, _⟩ | ⟨x, l, c, zs, hcs, _, hl, hm, hz, _, hcell, hwz⟩
  · simp [Value.cells] at hcs
    obtain ⟨rfl, rfl, rfl⟩ := hcs
    exact ⟨[], ⟨rfl, fun h => absurd h (by omega)⟩, Nat.le_refl _, Nat.zero_le _⟩
  · simp [Value.cells] at hcs
    obtain ⟨rfl, rfl, rfl⟩ := hcs
    have hzl : len ≤ zs.length := by rw [hz]; split <;> omega
    refine ⟨zs.take len, ⟨by rw [List.length_take]; omega, fun hn => ⟨x, rfl, ?_, fun k hk => ?_⟩⟩, hl, hm⟩
    · have h0 := hcell 0 (by omega)
      have hb : (x.add 0).block < W.heap.size := by
        rcases Nat.lt_or_ge (x.add 0).block W.heap.size with h | h
        · exact h
        · unfold World.cell? at h0
          simp [Array.getElem?_eq_none h] at h0
      rwa [Kit.block_add] at hb
    · rw [hcell k (by omega)]
      congr 2
      rw [List.getD_eq_getElem?_getD, List.getD_eq_getElem?_getD, List.getElem?_take_of_lt hk]
end Go.Proofs.Ytoomdaljdbennaa.Opn
