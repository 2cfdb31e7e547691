/- Walks: digits without zeros; unsigned numbers, of the package integer and of its reference. -/
import Derived.Test.YtiogcdpmgomllaaIntC
import Derived.Test.YtiogcdpmgomllaaPlIntB
import Derived.Test.YtiogcdpmgomllaaConcat2
import Derived.Test.YtiogcdpmgomllaaClone
set_option linter.unusedSimpArgs false
set_option linter.unusedVariables false
namespace Go.Proofs.Ytiogcdpmgomllaa.Int4
open Go.RowKit Kit Tlv

theorem add_next (ad : Addr) (k : Nat) : (⟨(ad.add k).block, (ad.add k).off + 1, none⟩ : Addr) = ad.add (k + 1) := by rw [← add_one', Kit.add_add]

/-- what trim returns: the slice from its digit k on -/
def TrimP (A : Option Addr) (n c : Nat) (l : List UInt8) (w : World) (e : Ending) (w' : World) : Prop :=
  ∃ k, e = .returned (.slice (A.map (fun x => x.add k)) (n - k) (c - k)) ∧ trimZ l = l.drop k ∧ k ≤ n ∧ (k = 0 ∨ k < n) ∧ w = w'
set_option maxHeartbeats 2000000 in
theorem trim_any {A : Option Addr} {n c B : Nat} {l : List UInt8} (w : World) (hr : Rd w B A n l) (hB : B ≤ w.heap.size) (hc : n ≤ c) (hm : c ≤ maxLen) :
    Calls Try.prog 18 #[.slice A n c] w (TrimP A n c l w) := by
  have hl := hr.len
  unfold maxLen at hm
  rcases A with _ | ad
  · have hn0 : n = 0 := by
      rcases Nat.eq_zero_or_pos n with h0 | h0
      · exact h0
      · obtain ⟨_, e, _⟩ := hr.2 h0; cases e
    subst hn0
    have hl' : l = [] := List.eq_nil_of_length_eq_zero hl
    subst hl'
    clear hr hl
    go_enter Try.func18, Try.ntmps18
    go_wp2
    go_loop [0] (fun b => b = .slice none 0 c) (fun _ => 0)
    case atStart => rfl
    case round =>
      subst hrel
      go_wp2
      go_ret
      exact ⟨0, rfl, rfl, by omega, .inl rfl, rfl⟩
  · have CE := Lib.hid (fun k (hk : k < n) => by obtain ⟨ad', e, _, hcell⟩ := hr.all_ (by omega); injection e with e; subst e; exact hcell k hk : ∀ k, k < n → w.cell? (ad.add k) = some (.int .u8 (bt l k)))
    have HL := Lib.hid hl
    clear hr hl
    go_enter Try.func18, Try.ntmps18
    go_wp2
    go_loop [0] (fun b => ∃ (k m cm : Nat) (p : Addr), b = .slice (some p) m cm ∧ Hid (p = ad.add k ∧ k + m = n ∧ k + cm = c ∧ (k = 0 ∨ 1 ≤ m) ∧ trimZ l = trimZ (l.drop k)) ∧ m ≤ cm ∧ cm ≤ c) (fun b => match b with | .slice _ m _ => m | _ => 0)
    case atStart => exact ⟨0, n, c, ad, rfl, Lib.hid ⟨by rw [add_zero'], by omega, by omega, .inl rfl, rfl⟩, hc, Nat.le_refl _⟩
    case round =>
      obtain ⟨k, m, cm, p, rfl, hk, h1, h2⟩ := hrel
      obtain ⟨e1, e2, e3, e4, e5⟩ := hk.out
      have hld : (l.drop k).length = m := by rw [List.length_drop, HL.out]; omega
      by_cases hm1 : 1 < m
      · have ck := CE.out k (by omega)
        rw [← e1] at ck
        have E0 := Lib.hid (show bt (l.drop k) 0 = bt l k from by rw [bt_drop, Nat.add_zero])
        by_cases h0 : bt l k = 0
        · have E5 := Lib.hid (e5.trans (by rw [trimZ_go (by omega) (by rw [E0.out]; exact h0), List.drop_drop] : trimZ (l.drop k) = trimZ (l.drop (k + 1))))
          rw [h0] at ck
          have hcm : ¬ cm = 1 := by omega
          have hcm1 : (1 : Int) ≤ (cm : Int) := by omega
          have hm1' : (1 : Int) ≤ (m : Int) := by omega
          have E2 := Lib.hid (And.intro e2 e3)
          have E1 := Lib.hid e1
          clear h0 e1 e2 e3 e4 e5 hk hld
          go_wp2
          go_round
          case rel => exact ⟨k + 1, m - 1, cm - 1, _, rfl, Lib.hid ⟨by rw [E1.out, add_next], by have := E2.out.1; omega, by have := E2.out.2; omega, .inr (by omega), E5.out⟩, by omega, by omega⟩
          case measure => show m - 1 < m; omega
        · have E5 := Lib.hid (e5.trans (trimZ_stop (by rw [E0.out]; omega)))
          have gb : (bt l k == 0) = false := by rw [beq_eq_false_iff_ne]; exact h0
          have F := Lib.hid (show m = n - k ∧ cm = c - k ∧ k ≤ n ∧ (k = 0 ∨ k < n) from ⟨by omega, by omega, by omega, by omega⟩)
          have E1 := Lib.hid e1
          clear h0 e1 e2 e3 e4 e5 hk hld
          generalize bt l k = y at *
          go_wp2
          go_ret
          refine ⟨k, ?_, E5.out, F.out.2.2.1, F.out.2.2.2, rfl⟩
          rw [F.out.1, F.out.2.1, E1.out]; rfl
      · have E5 := Lib.hid (e5.trans (trimZ_stop (by rw [hld]; omega)))
        have F := Lib.hid (show m = n - k ∧ cm = c - k ∧ k ≤ n ∧ (k = 0 ∨ k < n) from ⟨by omega, by omega, by omega, by omega⟩)
        have E1 := Lib.hid e1
        clear e1 e2 e3 e4 e5 hk hld
        go_wp2
        go_ret
        refine ⟨k, ?_, E5.out, F.out.2.2.1, F.out.2.2.2, rfl⟩
        rw [F.out.1, F.out.2.1, E1.out]; rfl
end Go.Proofs.Ytiogcdpmgomllaa.Int4
