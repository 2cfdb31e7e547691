/- Walks: slices.Concat of any slices of bytes; slices.Grow by nothing. -/
import Derived.Test.YtnpmgofkfdpbjaaConcat
set_option linter.unusedSimpArgs false
set_option linter.unusedVariables false
namespace Go.Proofs.Ytnpmgofkfdpbjaa.Cur
open Go.RowKit Kit

/-- sums and joins of what a function gives -/
def tot (N : Nat → Nat) : Nat → Nat
  | 0 => 0
  | k + 1 => tot N k + N k
def catF (L : Nat → List UInt8) : Nat → List UInt8
  | 0 => []
  | k + 1 => catF L k ++ L k
theorem tot_le (N : Nat → Nat) {k m : Nat} (h : k ≤ m) : tot N k ≤ tot N m := by
  induction m with
  | zero => obtain rfl : k = 0 := by omega
            exact Nat.le_refl _
  | succ m ih =>
    rcases (by omega : k = m + 1 ∨ k ≤ m) with rfl | h'
    · exact Nat.le_refl _
    · have := ih h'; simp only [tot]; omega
theorem cat_len {N : Nat → Nat} {L : Nat → List UInt8} : ∀ {m : Nat}, (∀ k, k < m → (L k).length = N k) → (catF L m).length = tot N m
  | 0, _ => rfl
  | m + 1, h => by simp only [catF, tot, List.length_append]; rw [cat_len (fun k hk => h k (by omega)), h m (by omega)]

set_option maxHeartbeats 1000000 in
theorem grow_zero (w : World) : Calls Try.prog 157 #[.slice none 0 0, .int .i64 0] w fun e w' => e = .returned (.slice none 0 0) ∧ Below w.heap.size w w' := by
  go_enter Try.func157, Try.ntmps157
  go_wp2
  go_ret
  exact ⟨rfl, (by repeat' (first | (with_reducible exact Below.refl _ _) | (with_reducible assumption) | (with_reducible refine below_drewN ?_ _) | (with_reducible refine Below.drew ?_) | (with_reducible refine Below.alloc ?_ ?_ _) | (with_reducible refine Below.setCell ?_ ?_ _) | go_size))⟩
theorem grow_all (n : Nat) (w : World) (hn : n ≤ 140737488355328) :
    Calls Try.prog 157 #[.slice none 0 0, .int .i64 (n : Int)] w fun e w' => ∃ A c, e = .returned (.slice A 0 c) ∧ Own w' w.heap.size A 0 c [] ∧ Below w.heap.size w w' := by
  rcases Nat.eq_zero_or_pos n with h | h
  · subst h
    refine (grow_zero w).mono ?_
    rintro e w' ⟨rfl, hb⟩
    exact ⟨none, 0, rfl, Own.none_ _ _, hb⟩
  · exact grow_any n w h hn
/-- what Concat returns -/
def CatP (w : World) (n : Nat) (u : List UInt8) (e : Ending) (w' : World) : Prop := ∃ A c, e = .returned (.slice A n c) ∧ Own w' w.heap.size A n c u ∧ Below w.heap.size w w'

set_option maxRecDepth 100000 in
set_option maxHeartbeats 4000000 in
theorem concatN_any {P : Option Addr} {g m cc B : Nat} (A : Nat → Option Addr) (N C : Nat → Nat) (L : Nat → List UInt8) (w : World) (hP : m = 0 ∨ P = some ⟨g, 0, none⟩) (hg : 0 < m → g < w.heap.size)
    (hc : ∀ k, k < m → w.cell? ⟨g, k, none⟩ = some (.slice (A k) (N k) (C k))) (hr : ∀ k, k < m → Rd w B (A k) (N k) (L k)) (hB : B ≤ w.heap.size) (hm : tot N m ≤ 140737488355328) (hmm : m ≤ 1000000) :
    Calls Try.prog 134 #[.slice P m cc] w (CatP w (tot N m) (catF L m)) := by
  have HC := Lib.hid hc
  have HR := Lib.hid hr
  have HG := Lib.hid hg
  have HP := Lib.hid hP
  have TS := Lib.hid (fun k => show tot N (k + 1) = tot N k + N k from rfl)
  have CS := Lib.hid (fun k => show catF L (k + 1) = catF L k ++ L k from rfl)
  have TL := Lib.hid (fun k (h : k ≤ m) => tot_le N h)
  have GR := Lib.hid (fun w => grow_all (tot N m) w hm)
  have T0 := Lib.hid (show tot N 0 = 0 from rfl)
  have C0 := Lib.hid (show catF L 0 = [] from rfl)
  clear hc hr hg hP
  go_enter Try.func134, Try.ntmps134
  go_wp2
  go_loop [3, 11] (fun s i => ∃ k : Nat, k ≤ m ∧ i = .int .i64 (k : Int) ∧ s = .int .i64 ((tot N k : Nat) : Int)) (fun _ i => m - (intOf i).toNat)
  case atStart => exact ⟨0, Nat.zero_le _, rfl, by rw [T0.out]; rfl⟩
  case round =>
    obtain ⟨k, hk, rfl, rfl⟩ := hrel
    by_cases hlt : k < m
    · obtain rfl : P = some ⟨g, 0, none⟩ := by
        rcases HP.out with h | h
        · omega
        · exact h
      have ck := HC.out k hlt
      have hgl := HG.out (by omega)
      have st := Lib.hid (TS.out k)
      have tl := TL.out (k + 1) (by omega)
      rw [TS.out k] at tl
      generalize tot N k = t at *
      generalize N k = nk at *
      generalize A k = ak at *
      generalize C k = cck at *
      go_wp2
      go_round
      case rel => exact ⟨k + 1, by omega, by go_num, by rw [st.out]; go_num⟩
      case measure => simp [intOf]; omega
    · obtain rfl : k = m := by omega
      clear TL
      go_wp2_with (go_at_call 157; refine (GR.out _).mono ?_; rintro e w1 ⟨A1, c1, rfl, ho, hb⟩)
      go_loopw [6, 27] (fun o i wr => ∃ (j : Nat) (A : Option Addr) (c : Nat), j ≤ k ∧ i = .int .i64 (j : Int) ∧ o = .slice A (tot N j) c ∧ Own wr w.heap.size A (tot N j) c (catF L j) ∧ Below w.heap.size w wr) (fun _ i _ => k - (intOf i).toNat)
      case atStart => exact ⟨0, A1, c1, Nat.zero_le _, rfl, by rw [T0.out], by rw [T0.out, C0.out]; exact ho, hb⟩
      case round =>
        clear ho hb GR
        obtain ⟨j, A2, c2, hj, rfl, rfl, ho, hb⟩ := hrel
        have zb := hb.size
        by_cases hlt2 : j < k
        · obtain rfl : P = some ⟨g, 0, none⟩ := by
            rcases HP.out with h | h
            · omega
            · exact h
          have hgl := HG.out (by omega)
          have ck : wr.cell? ⟨g, j, none⟩ = _ := (hb.cell (p := ⟨g, j, none⟩) hgl).trans (HC.out j hlt2)
          have hgl2 : g < wr.heap.size := by omega
          have rj := Lib.hid ((HR.out j hlt2).below (hb.mono hB))
          have st := Lib.hid (TS.out j)
          have sc := Lib.hid (CS.out j)
          have tl : tot N j + N j ≤ 140737488355328 := by have := tot_le N (show j + 1 ≤ k from hlt2); rw [TS.out j] at this; omega
          generalize hT : tot N j = t at *
          generalize catF L j = u at *
          generalize hN : N j = nk at *
          generalize A j = ak at *
          generalize C j = cck at *
          generalize L j = lk at *
          clear hT hN
          go_wp2_with (first | (at_builtin; refine app rfl (.tmp 31) (.tmp 32) rfl rfl ho rfl rj.out tl zb ?_; intro A' c' w' ho' hg' hb' hs'))
          go_roundw
          case rel => exact ⟨j + 1, A', c', by omega, by go_num, by rw [st.out], by rw [st.out, sc.out]; exact ho', hb.trans hb'⟩
          case measure => simp [intOf]; omega
        · obtain rfl : j = k := by omega
          go_wp2
          go_ret
          exact ⟨A2, c2, rfl, ho, hb⟩
end Go.Proofs.Ytnpmgofkfdpbjaa.Cur
