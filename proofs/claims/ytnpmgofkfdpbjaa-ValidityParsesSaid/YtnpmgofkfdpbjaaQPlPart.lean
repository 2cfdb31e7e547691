/- Plain: an element's own octets, in a list of elements. -/
import Derived.Test.YtnpmgofkfdpbjaaKQ
set_option linter.unusedSimpArgs false
set_option linter.unusedVariables false
namespace Go.Proofs.Ytnpmgofkfdpbjaa.Tlv
open Kit

theorem cut_two {l : List UInt8} {p s z : Nat} (h : p ≤ s) (h2 : s ≤ z) : (l.drop p).take (z - p) = (l.drop p).take (s - p) ++ (l.drop s).take (z - s) := by
  rw [show z - p = (s - p) + (z - s) from by omega, List.take_add, List.drop_drop, show p + (s - p) = s from by omega]
theorem row_part {l : List UInt8} {z : Nat} (hz : z ≤ l.length) (hl : l.length ≤ 140737488355328) : ∀ (els : List El) (p : Nat), p ≤ z → Row l z p els →
    ∀ x, x ∈ els → x.start ≤ x.stop ∧ (l.drop x.start.toNat).take (x.stop.toNat - x.start.toNat) = encS (shX l x) := by
  intro els
  induction els with
  | nil => intro p hp h x hx; simp at hx
  | cons x xs ih =>
    intro p hp h y hy
    obtain ⟨h1, h2, h3⟩ := h
    have hb := (elV_bd (l := l) (a := p) (z := z) hp hz hl).2 (by rw [h2])
    rw [h2] at hb
    simp only [] at hb
    obtain ⟨_, b1, b2, b3, b4⟩ := hb
    rcases List.mem_cons.1 hy with rfl | hy
    · obtain ⟨c1, c2⟩ := elV_back hp hz h2
      rw [cut_two (s := y.stop.toNat) (by omega) (by omega)] at c2
      have c3 := List.append_cancel_right c2
      refine ⟨by omega, ?_⟩
      rw [show y.start.toNat = p from by omega]
      exact c3
    · exact ih x.stop.toNat (by omega) h3 y hy
theorem parts_part {l : List UInt8} {els : List El} {r2 : Int} (hl : l.length ≤ 1000000) (h : partsV l 0 16 = (els, 0, r2)) :
    ∀ x, x ∈ els → x.start ≤ x.stop ∧ (l.drop x.start.toNat).take (x.stop.toNat - x.start.toNat) = encS (shX l x) := by
  by_cases h1 : (oneV l).2.1 ≠ 0
  · rw [partsV_err h1] at h
    injection h with _ h2
    injection h2 with h2
    exact absurd h2 h1
  · by_cases h2 : ((oneV l).1.cls = 0 ∧ (oneV l).1.cons = true) ∧ (oneV l).1.num = 16
    · rw [partsV_ok h1 h2] at h
      obtain ⟨d1, d2, d3, d4, d5⟩ := one_bd (by omega : (oneV l).2.1 = 0)
      have hbd := (listV_bd (l := l) (a := (oneV l).1.body.toNat) (z := (oneV l).1.stop.toNat) (by omega) (by omega) (by omega)).1 (by rw [h])
      rw [h] at hbd
      simp only [] at hbd
      exact row_part (z := (oneV l).1.stop.toNat) (by omega) (by omega) els _ (by omega) hbd.2
    · rw [partsV_tag h1 h2] at h
      injection h with _ h3
      injection h3 with h3
      cases h3
end Go.Proofs.Ytnpmgofkfdpbjaa.Tlv
