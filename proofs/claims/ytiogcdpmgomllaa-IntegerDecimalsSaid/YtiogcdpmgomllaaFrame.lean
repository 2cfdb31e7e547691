/- What an argument gives: slices of bytes that came in, opened into what the walks ask. -/
import Derived.Test.YtiogcdpmgomllaaBs
import Derived.ProofKit
import Derived.OpenShut
import Derived.ShutString
import Derived.ChangeOld
set_option linter.unusedSimpArgs false
set_option linter.unusedVariables false
namespace Go.Proofs.Ytiogcdpmgomllaa.Opn
open Go.ChangeShapes Go.WideShapes Go.ChangeAt Go.RowKit Kit
open Go.ChangeMaps (open_string shut_string)

theorem own : ownKnob Try.prog.godebug = none := by kernel_rfl
theorem laidOut : laidOutB Try.prog = true := by kernel_rfl

/-- numbers that fit a byte, as bytes -/
theorem rd_of_cells {w : World} {x : Addr} {len : Nat} {zs : List Int} (hl : len ≤ zs.length) (hcell : ∀ i, i < zs.length → w.cell? (x.add i) = some (.int .u8 (zs.getD i 0))) (hwz : ∀ n ∈ zs, (Lit.int .u8 n).wf = true) :
    Rd w w.heap.size (some x) len ((zs.take len).map ofI) := by
  refine ⟨by simp; omega, fun hn => ⟨x, rfl, ?_, fun k hk => ?_⟩⟩
  · have h0 := hcell 0 (by omega)
    have hb : (x.add 0).block < w.heap.size := by
      rcases Nat.lt_or_ge (x.add 0).block w.heap.size with h | h
      · exact h
      · unfold World.cell? at h0
        simp [Array.getElem?_eq_none h] at h0
    rwa [Kit.block_add] at hb
  · rw [hcell k (by omega)]
    have hm : zs.getD k 0 ∈ zs := by
      rw [List.getD_eq_getElem?_getD, List.getElem?_eq_getElem (by omega)]; exact List.getElem_mem _
    have hb := bounds_u8 (hwz _ hm)
    have e : bt ((zs.take len).map ofI) k = zs.getD k 0 := by
      have hk' : k < ((zs.take len).map ofI).length := by simp; omega
      rw [bt_eq hk']
      simp only [List.getElem_map, List.getElem_take]
      have e2 : zs.getD k 0 = zs[k]'(by omega) := by rw [List.getD_eq_getElem?_getD, List.getElem?_eq_getElem (by omega)]; rfl
      rw [e2] at hb
      rw [ofI_toNat hb.1 hb.2, e2]
    rw [e]
theorem bytes_arg {H : Type} {enc : TypeId × Value → H} {W : World} {base : Nat} {spare : Nat → Bool} {a : Option Addr} {len cap : Nat} {d : DataW H} {p : List MemPlace}
    (h : DataW.Trod enc Try.prog W base spare true 22 (.slice a len cap) d p) : ∃ l : List UInt8, Rd W W.heap.size a len l ∧ len ≤ cap ∧ cap ≤ maxLen := by
  obtain ⟨fuel, hf⟩ := h
  rcases open_ints Try.underlying22 Try.underlying5 (by kernel_rfl) hf with ⟨hcs, _⟩ | ⟨x, l, c, zs, hcs, _, hl, hm, hz, _, hcell, hwz⟩
  · simp [Value.cells] at hcs
    obtain ⟨rfl, rfl, rfl⟩ := hcs
    exact ⟨[], Rd.nil_, Nat.le_refl _, Nat.zero_le _⟩
  · simp [Value.cells] at hcs
    obtain ⟨rfl, rfl, rfl⟩ := hcs
    exact ⟨_, rd_of_cells (by rw [hz]; split <;> omega) hcell hwz, hl, hm⟩
end Go.Proofs.Ytiogcdpmgomllaa.Opn
