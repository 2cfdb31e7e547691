/- Walks: the clock's decode. -/
import Derived.Test.YtkkgcfllfhkoaaaClkE
import Derived.Test.YtkkgcfllfhkoaaaClkB
set_option linter.unusedSimpArgs false
set_option linter.unusedVariables false
namespace Go.Proofs.Ytkkgcfllfhkoaaa.Clk
open Go.RowKit Kit

/-- bytes that are no digits and a Z, so many for the year, are not decoded -/
theorem notC_cases {dg : Nat} {l : List UInt8} (h : ¬ okC dg l) : l.length ≠ dg + 11 ∨ (l.length = dg + 11 ∧ bt l (dg + 10) ≠ 90) ∨
    (l.length = dg + 11 ∧ bt l (dg + 10) = 90 ∧ ∃ k, k < dg + 10 ∧ ¬ (48 ≤ bt l k ∧ bt l k ≤ 57)) := by
  by_cases h1 : l.length = dg + 11
  · by_cases h2 : bt l (dg + 10) = 90
    · refine .inr (.inr ⟨h1, h2, ?_⟩)
      refine Classical.byContradiction fun hn => h ⟨h1, h2, fun k hk => Classical.byContradiction fun hk' => hn ⟨k, hk, hk'⟩⟩
    · exact .inr (.inl ⟨h1, h2⟩)
  · exact .inl h1

theorem add_pos (ad : Addr) {k : Nat} (h : k ≠ 0) : ad.add k = ⟨ad.block, ad.off + k, none⟩ := by simp [Addr.add, h]

set_option maxHeartbeats 2000000 in
theorem decode_no {A : Option Addr} {n c B dg : Nat} {l : List UInt8} (w : World) (hr : Rd w B A n l) (hB : B ≤ w.heap.size) (hn : n ≤ 1000) (hc : n ≤ c) (hd : dg = 2 ∨ dg = 4) (hno : ¬ okC dg l) :
    Calls Try.prog 56 #[.slice A n c, .int .i64 (dg : Int)] w fun e w' => e = .returned (.tuple #[time 0 0 0 0 0 0, .bool false]) ∧ Below w.heap.size w w' := by
  have hl := hr.len
  rcases notC_cases hno with h1 | ⟨h1, h2⟩ | ⟨h1, h2, k0, hk0, hbad⟩
  · have h1' : ¬ ((n : Int) = (dg : Int) + 11) := by omega
    clear hno h1 hl
    go_enter Try.func56, Try.ntmps56
    go_wp2
    refine bodyPost_ret (v := .tuple #[time 0 0 0 0 0 0, .bool false]) (by simp [results, Try.results56, go_sem, *]) rfl ?_
    exact ⟨ret2 rfl rfl, (by repeat' (first | (with_reducible exact Below.refl _ _) | (with_reducible assumption) | (with_reducible refine below_drewN ?_ _) | (with_reducible refine Below.drew ?_) | (with_reducible refine Below.alloc ?_ ?_ _) | (with_reducible refine Below.setCell ?_ ?_ _) | go_size))⟩
  · have hn' : n = dg + 11 := by omega
    subst hn'
    obtain ⟨ad, rfl, hb, c0⟩ := hr.at_ (k := dg + 10) (by omega)
    have hb0 : ad.block < w.heap.size := by omega
    have hb1 : ad.block < w.heap.size + 1 := by omega
    clear hno h1 hl
    rcases hd with rfl | rfl
    all_goals
      rw [add_pos ad (by omega)] at c0
      simp only [Nat.reduceAdd] at c0 h2
      go_enter Try.func56, Try.ntmps56
      go_wp2
      refine bodyPost_ret (v := .tuple #[time 0 0 0 0 0 0, .bool false]) (by simp [results, Try.results56, go_sem, *]) rfl ?_
      exact ⟨ret2 rfl rfl, (by repeat' (first | (with_reducible exact Below.refl _ _) | (with_reducible assumption) | (with_reducible refine below_drewN ?_ _) | (with_reducible refine Below.drew ?_) | (with_reducible refine Below.alloc ?_ ?_ _) | (with_reducible refine Below.setCell ?_ ?_ _) | go_size))⟩
  · have hn' : n = dg + 11 := by omega
    subst hn'
    obtain ⟨ad, rfl, hb, c1⟩ := hr.all_ (by omega)
    have hb0 : ad.block < w.heap.size := by omega
    have hb1 : ad.block < w.heap.size + 1 := by omega
    have C1 := Lib.hid c1
    have c0 := c1 (dg + 10) (by omega)
    clear hno h1 hl c1
    rcases hd with rfl | rfl
    all_goals
      rw [add_pos ad (by omega)] at c0
      simp only [Nat.reduceAdd] at c0 h2 hk0
      go_enter Try.func56, Try.ntmps56
      go_wp2
      go_loop [34] (fun i => ∃ k : Nat, k ≤ k0 ∧ i = .int .i64 k) (fun i => k0 + 1 - (intOf i).toNat)
      case atStart => exact ⟨0, Nat.zero_le _, rfl⟩
      case round =>
        obtain ⟨k, hk, rfl⟩ := hrel
        have ck := C1.out k (by omega)
        have bk0 : (ad.add k).block < w.heap.size := by rw [block_add]; exact hb0
        have bk1 : (ad.add k).block < w.heap.size + 1 := by rw [block_add]; exact hb1
        by_cases hlo : bt l k < 48
        · go_wp2
          refine bodyPost_ret (v := .tuple #[time 0 0 0 0 0 0, .bool false]) (by simp [results, Try.results56, go_sem, *]) rfl ?_
          exact ⟨ret2 rfl rfl, (by repeat' (first | (with_reducible exact Below.refl _ _) | (with_reducible assumption) | (with_reducible refine below_drewN ?_ _) | (with_reducible refine Below.drew ?_) | (with_reducible refine Below.alloc ?_ ?_ _) | (with_reducible refine Below.setCell ?_ ?_ _) | go_size))⟩
        · by_cases hhi : 57 < bt l k
          · go_wp2
            refine bodyPost_ret (v := .tuple #[time 0 0 0 0 0 0, .bool false]) (by simp [results, Try.results56, go_sem, *]) rfl ?_
            exact ⟨ret2 rfl rfl, (by repeat' (first | (with_reducible exact Below.refl _ _) | (with_reducible assumption) | (with_reducible refine below_drewN ?_ _) | (with_reducible refine Below.drew ?_) | (with_reducible refine Below.alloc ?_ ?_ _) | (with_reducible refine Below.setCell ?_ ?_ _) | go_size))⟩
          · go_wp2
            go_round
            case rel => exact ⟨k + 1, by (have : k ≠ k0 := fun e => hbad (by subst e; omega)); omega, by go_num⟩
            case measure => simp [intOf]; omega
end Go.Proofs.Ytkkgcfllfhkoaaa.Clk
