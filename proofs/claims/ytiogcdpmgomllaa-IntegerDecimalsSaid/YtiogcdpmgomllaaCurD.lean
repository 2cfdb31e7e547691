/- Walks: slices.Reverse over a slice that the call owns; minimal digits. -/
import Derived.Test.YtiogcdpmgomllaaCurC
set_option linter.unusedSimpArgs false
set_option linter.unusedVariables false
namespace Go.Proofs.Ytiogcdpmgomllaa.Cur
open Go.RowKit Kit

/-- after k exchanges from both ends -/
def turned (l : List UInt8) (n k : Nat) (m : List UInt8) : Prop :=
  m.length = n ∧ ∀ i, i < n → bt m i = if i < k ∨ n ≤ i + k then bt l (n - 1 - i) else bt l i
theorem turned_zero {l : List UInt8} {n : Nat} (h : l.length = n) : turned l n 0 l := ⟨h, fun i hi => by rw [if_neg (by omega)]⟩
theorem turned_step {l m : List UInt8} {n k : Nat} (h : turned l n k m) (hk : k < n - 1 - k) (h0 : 0 < n) :
    turned l n (k + 1) ((m.set k (ofI (bt m (n - 1 - k)))).set (n - 1 - k) (ofI (bt m k))) := by
  refine ⟨by simpa using h.1, fun i hi => ?_⟩
  have hl := h.1
  rw [bt_set (bt_lo _ _) (bt_hi _ _) (by simp; omega), bt_set (bt_lo _ _) (bt_hi _ _) (by omega)]
  by_cases h1 : n - 1 - k = i
  · rw [if_pos h1, if_pos (by omega), h.2 k (by omega), if_neg (by omega), ← h1]
    congr 1; omega
  · rw [if_neg h1]
    by_cases h2 : k = i
    · rw [if_pos h2, if_pos (by omega), h.2 (n - 1 - k) (by omega), if_neg (by omega), ← h2]
    · rw [if_neg h2, h.2 i hi]
      by_cases h3 : i < k ∨ n ≤ i + k
      · rw [if_pos h3, if_pos (by omega)]
      · rw [if_neg h3, if_neg (by omega)]
theorem turned_end {l m : List UInt8} {n k : Nat} (hl : l.length = n) (h : turned l n k m) (hk : n ≤ 2 * k + 1) : m = l.reverse := by
  refine bt_ext (by rw [h.1, List.length_reverse, hl]) (fun i hi => ?_)
  rw [h.1] at hi
  rw [bt_reverse (by omega), h.2 i hi, hl]
  by_cases h3 : i < k ∨ n ≤ i + k
  · rw [if_pos h3]
  · rw [if_neg h3]; congr 1; omega

set_option maxHeartbeats 1000000 in
theorem reverse_any (g n c : Nat) (l : List UInt8) (w : World) (base : Nat) (h : Own w base (some ⟨g, 0, none⟩) n c l) :
    Calls Try.prog 19 #[.slice (some ⟨g, 0, none⟩) n c] w fun e w' => e = .returned (.tuple #[]) ∧ Own w' base (some ⟨g, 0, none⟩) n c l.reverse ∧ w.grownBy w' (some g) := by
  have hc := h.cap
  have hm := h.capMax
  have hl := Lib.hid h.len
  unfold maxLen at hm
  go_enter Try.func19, Try.ntmps19
  go_wp2
  go_loopw [2, 3] (fun i j wr => ∃ k m, 2 * k ≤ n + 1 ∧ i = .int .i64 (k : Nat) ∧ j = .int .i64 ((n : Int) - 1 - k) ∧ Own wr base (some ⟨g, 0, none⟩) n c m ∧ w.grownBy wr (some g) ∧ turned l n k m) (fun i _ _ => n - (intOf i).toNat)
  case atStart => exact ⟨0, l, by omega, rfl, by simp, h, World.grownBy.refl _ _, turned_zero hl.out⟩
  case round =>
    obtain ⟨k, m, hk, rfl, rfl, ho, hg, ht⟩ := hrel
    by_cases hlt : k < n - 1 - k ∧ 0 < n
    · obtain ⟨hlt, hn⟩ := hlt
      have hlt' : (k : Int) < (n : Int) - 1 - k := by omega
      have c1 := ho.cellAt (k := k) (by omega)
      have c2 := ho.cellAt (k := n - 1 - k) (by omega)
      have f1 := ho.frozenAt k
      have f2 := ho.frozenAt (n - 1 - k)
      have ei : ((n : Int) - 1 - k).toNat = n - 1 - k := by omega
      go_wp2
      go_region
      have o1 := Own.stored ho k (x := bt m (n - 1 - k)) (bt_lo _ _) (bt_hi _ _)
      have o2 := Own.stored o1 (n - 1 - k) (x := bt m k) (bt_lo _ _) (bt_hi _ _)
      have g2 := grown_drew (grown_set (grown_set hg k (.int .u8 (bt m (n - 1 - k)))) (n - 1 - k) (.int .u8 (bt m k)))
      have t2 := turned_step ht hlt hn
      clear c1 c2 f1 f2 ho hg ht o1
      go_wp2
      go_roundw
      case rel => exact ⟨k + 1, _, by omega, by go_num, by go_num, o2, g2, t2⟩
      case measure => simp [intOf]; omega
    · have F := Lib.hid (turned_end hl.out ht (by omega))
      rw [F.out] at ho
      have hge : ¬ ((k : Int) < (n : Int) - 1 - k) := by omega
      clear hlt
      go_wp2
      go_end0
      exact ⟨rfl, ho, hg⟩
end Go.Proofs.Ytiogcdpmgomllaa.Cur
