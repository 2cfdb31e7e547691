/- Walks: comparing of points in time. -/
import Derived.Test.YtkkgcfllfhkoaaaClkN
import Derived.Test.YtkkgcfllfhkoaaaClkG
set_option linter.unusedSimpArgs false
set_option linter.unusedVariables false
namespace Go.Proofs.Ytkkgcfllfhkoaaa.Clk
open Go.RowKit Kit

/-- a contract that leaves the world alone, for a still region -/
theorem still_same {P : Program} {f : FuncId} {args : Array Value} {w : World} {v : Value} (h : Calls P f args w fun e w' => e = .returned v ∧ w = w') : Calls P f args w fun e w' => e = .returned v ∧ w' = w :=
  h.mono fun _ _ ⟨he, hm⟩ => ⟨he, hm.symm⟩

theorem nan_any (x : Int) (w : World) : Calls Try.prog 69 #[.int .i64 x] w fun e w' => e = .returned (.bool false) ∧ w = w' := by
  go_enter Try.func69, Try.ntmps69
  go_wp2
  go_ret
  exact ⟨ret_bool (by simp), rfl⟩

set_option maxHeartbeats 400000 in
theorem cmpI_any (a b : Int) (w : World) : Calls Try.prog 66 #[.int .i64 a, .int .i64 b] w fun e w' => e = .returned (.int .i64 (cmpI a b)) ∧ w = w' := by
  rcases cmpI_cases a b with ⟨c, e⟩ | ⟨c, e⟩ | ⟨c, e⟩
  all_goals
    have E := Lib.hid e
    clear e
    try (have c1 : ¬ a < b := by omega)
    go_enter Try.func66, Try.ntmps66
    go_wp2_with (go_at_call 69; refine (nan_any _ _).mono ?_; rintro e w' ⟨rfl, rfl⟩)
    go_ret
    exact ⟨ret_int E.out.symm, rfl⟩

/-- the first number that is not 0 -/
def orL : List Int → Int
  | [] => 0
  | x :: xs => orI x (orL xs)
theorem orL_drop {xs : List Int} {k : Nat} (h : k < xs.length) : orL (xs.drop k) = orI (xs.getD k 0) (orL (xs.drop (k + 1))) := by
  rw [List.drop_eq_getElem_cons h]
  simp [orL, List.getD, List.getElem?_eq_getElem h]

set_option maxHeartbeats 1000000 in
theorem or_any (xs : List Int) (ad : Addr) (n cp : Nat) (w : World) (hn : n = xs.length) (hl : n ≤ 1000) (hc : ∀ k, k < n → w.cell? (ad.add k) = some (.int .i64 (xs.getD k 0))) :
    Calls Try.prog 65 #[.slice (some ad) n cp] w fun e w' => e = .returned (.int .i64 (orL xs)) ∧ ∃ m, w' = w.drewN m := by
  have HC := Lib.hid hc
  have HN := Lib.hid hn
  clear hc hn
  go_enter Try.func65, Try.ntmps65
  go_wp2
  go_loopw [8] (fun i wr => ∃ k m : Nat, k ≤ n ∧ i = .int .i64 (k : Int) ∧ wr = w.drewN m ∧ Hid (orL (xs.drop k) = orL xs)) (fun i _ => n - (intOf i).toNat)
  case atStart => exact ⟨0, 0, Nat.zero_le _, rfl, rfl, Lib.hid rfl⟩
  case round =>
    obtain ⟨k, m, hk, rfl, rfl, hor⟩ := hrel
    by_cases hlt : k < n
    · have hlt' : ((k : Nat) : Int) < (n : Int) := by omega
      have ck := HC.out k hlt
      have hst := Lib.hid ((orL_drop (xs := xs) (k := k) (by rw [← HN.out]; exact hlt)).symm.trans hor.out)
      generalize xs.getD k 0 = v at *
      by_cases hv : v = 0
      · subst hv
        go_wp2
        go_roundw
        case rel => exact ⟨k + 1, m, by omega, by go_num, rfl, Lib.hid (by rw [← hst.out]; rfl)⟩
        case measure => simp [intOf]; omega
      · have hst2 := Lib.hid (show v = orL xs from by rw [← hst.out]; unfold orI; rw [if_pos hv])
        go_wp2
        go_ret
        exact ⟨ret_int hst2.out, (by first | exact ⟨0, rfl⟩ | exact ⟨_, rfl⟩ | (simp only [World.drewN_drewN]; exact ⟨_, rfl⟩))⟩
    · obtain rfl : k = n := by omega
      have hst2 := Lib.hid (show 0 = orL xs from by rw [← hor.out, HN.out, List.drop_length]; rfl)
      go_wp2
      go_ret
      exact ⟨ret_int hst2.out, (by first | exact ⟨0, rfl⟩ | exact ⟨_, rfl⟩ | (simp only [World.drewN_drewN]; exact ⟨_, rfl⟩))⟩

theorem cells6p {w : World} {b : Nat} {x0 x1 x2 x3 x4 x5 : Int} {t : TypeId} (h : w.heap[b]? = some (.cells #[.int .i64 x0, .int .i64 x1, .int .i64 x2, .int .i64 x3, .int .i64 x4, .int .i64 x5] t (0, 0))) :
    ∀ k, k < 6 → w.cell? ((⟨b, 0, none⟩ : Addr).add k) = some (.int .i64 ([x0, x1, x2, x3, x4, x5].getD k 0)) := by
  intro k hk
  rw [add_plain, Nat.zero_add, cell_of_row w b k _ _ _ h]
  have hk' : k = 0 ∨ k = 1 ∨ k = 2 ∨ k = 3 ∨ k = 4 ∨ k = 5 := by omega
  rcases hk' with rfl | rfl | rfl | rfl | rfl | rfl <;> rfl

set_option maxRecDepth 100000 in
set_option maxHeartbeats 4000000 in
theorem cmpT_any (y m d h mi s y' m' d' h' mi' s' : Int) (w : World) :
    Calls Try.prog 46 #[time y m d h mi s, time y' m' d' h' mi' s'] w fun e w' => e = .returned (.int .i64 (cmpT y m d h mi s y' m' d' h' mi' s')) ∧ Below w.heap.size w w' := by
  have HO := Lib.hid (fun (X : World) (b : Nat) x0 x1 x2 x3 x4 x5 t (h : X.heap.size = b) => show Calls Try.prog 65 #[.slice (some ⟨b, 0, none⟩) 6 6] (X.alloc (.cells #[.int .i64 x0, .int .i64 x1, .int .i64 x2, .int .i64 x3, .int .i64 x4, .int .i64 x5] t)).drew fun e w' => e = .returned (.int .i64 (orL [x0, x1, x2, x3, x4, x5])) ∧ ∃ m, w' = (X.alloc (.cells #[.int .i64 x0, .int .i64 x1, .int .i64 x2, .int .i64 x3, .int .i64 x4, .int .i64 x5] t)).drew.drewN m from
    or_any [x0, x1, x2, x3, x4, x5] ⟨b, 0, none⟩ 6 6 _ rfl (by omega) (cells6p (t := t) (by subst h; exact heap_alloc_new _ _)))
  have HE := Lib.hid (show orL [cmpI y y', cmpI m m', cmpI d d', cmpI h h', cmpI mi mi', cmpI s s'] = cmpT y m d h mi s y' m' d' h' mi' s' from by
    unfold cmpT orL orL orL orL orL orL orL
    have : orI (cmpI s s') 0 = cmpI s s' := by unfold orI; split <;> simp_all
    rw [this])
  generalize hr : cmpT y m d h mi s y' m' d' h' mi' s' = r at *
  clear hr
  go_enter Try.func46, Try.ntmps46
  go_wp2
  refine Kit.wp_tail 30 (by kernel_rfl) (by kernel_rfl) ?_
  intro W HW hWc
  simp only [List.take_succ_cons, List.take_zero, List.drop_succ_cons, List.drop_zero]
  repeat (first | still_step | still_call (still_same (cmpI_any _ _ _)))
  refine wpStill_nil ?_
  have HW' := HW.out
  clear HW hWc
  subst HW'
  go_wp2_with (first | (go_at_call 65; refine (HO.out _ _ _ _ _ _ _ _ _ ?_).mono ?_; (focus (simp)); rintro e w1 ⟨rfl, n, rfl⟩))
  go_ret
  exact ⟨ret_int HE.out, (by repeat' (first | (with_reducible exact Below.refl _ _) | (with_reducible assumption) | (with_reducible refine below_drewN ?_ _) | (with_reducible refine Below.drew ?_) | (with_reducible refine Below.alloc ?_ ?_ _) | (with_reducible refine Below.setCell ?_ ?_ _) | go_size))⟩

/-- the cell of a block of six numbers -/
theorem cell6n {w : World} {b : Nat} {x0 x1 x2 x3 x4 x5 : Int} {t : TypeId} (h : w.heap[b]? = some (.cells #[.int .i64 x0, .int .i64 x1, .int .i64 x2, .int .i64 x3, .int .i64 x4, .int .i64 x5] t (0, 0))) {k : Nat} (hk : k < 6) :
    w.cell? ⟨b, k, none⟩ = some (.int .i64 ([x0, x1, x2, x3, x4, x5].getD k 0)) := by
  have := cells6p h k hk
  rwa [add_plain, Nat.zero_add] at this
theorem orL_step {xs ys : List Int} {k : Nat} (hl : xs.length = ys.length) (h : k < xs.length) : orL ((List.zipWith cmpI xs ys).drop k) = orI (cmpI (xs.getD k 0) (ys.getD k 0)) (orL ((List.zipWith cmpI xs ys).drop (k + 1))) := by
  rw [orL_drop (by simp; omega)]
  have h2 : k < ys.length := by omega
  simp [List.getD, List.getElem?_eq_getElem h, List.getElem?_eq_getElem h2, List.getElem?_zipWith]

set_option maxHeartbeats 2000000 in
theorem refcmpT_any (y m d h mi s y' m' d' h' mi' s' : Int) (w : World) :
    Calls Try.prog 47 #[time y m d h mi s, time y' m' d' h' mi' s'] w fun e w' => e = .returned (.int .i64 (cmpT y m d h mi s y' m' d' h' mi' s')) ∧ Below w.heap.size w w' := by
  obtain ⟨xs, hxs⟩ : ∃ xs, xs = [y, m, d, h, mi, s] := ⟨_, rfl⟩
  obtain ⟨ys, hys⟩ : ∃ ys, ys = [y', m', d', h', mi', s'] := ⟨_, rfl⟩
  have HS := Lib.hid (fun k (hk : k < 6) => orL_step (xs := xs) (ys := ys) (k := k) (by subst hxs hys; rfl) (by subst hxs; exact hk))
  have HE := Lib.hid (show orL ((List.zipWith cmpI xs ys).drop 0) = cmpT y m d h mi s y' m' d' h' mi' s' from by
    subst hxs hys
    show orL [cmpI y y', cmpI m m', cmpI d d', cmpI h h', cmpI mi mi', cmpI s s'] = _
    unfold cmpT orL orL orL orL orL orL orL
    have : orI (cmpI s s') 0 = cmpI s s' := by unfold orI; split <;> simp_all
    rw [this])
  have HZ := Lib.hid (show orL ((List.zipWith cmpI xs ys).drop 6) = 0 from by subst hxs hys; rfl)
  have CX := Lib.hid (fun (X : World) (b : Nat) t (hb : X.heap[b]? = some (.cells #[.int .i64 y, .int .i64 m, .int .i64 d, .int .i64 h, .int .i64 mi, .int .i64 s] t (0, 0))) (k : Nat) (hk : k < 6) => show X.cell? ⟨b, k, none⟩ = some (.int .i64 (xs.getD k 0)) from by subst hxs; exact cell6n hb hk)
  have CY := Lib.hid (fun (X : World) (b : Nat) t (hb : X.heap[b]? = some (.cells #[.int .i64 y', .int .i64 m', .int .i64 d', .int .i64 h', .int .i64 mi', .int .i64 s'] t (0, 0))) (k : Nat) (hk : k < 6) => show X.cell? ⟨b, k, none⟩ = some (.int .i64 (ys.getD k 0)) from by subst hys; exact cell6n hb hk)
  generalize hr : cmpT y m d h mi s y' m' d' h' mi' s' = r at *
  clear hr hxs hys
  go_enter Try.func47, Try.ntmps47
  go_wp2
  go_loopw [7] (fun i wr => ∃ k : Nat, k ≤ 6 ∧ i = .int .i64 (k : Int) ∧ Below w.heap.size w wr ∧ Hid (orL ((List.zipWith cmpI xs ys).drop k) = r) ∧
      wr.heap[w.heap.size + 1 + 1]? = some (.cells #[.int .i64 y, .int .i64 m, .int .i64 d, .int .i64 h, .int .i64 mi, .int .i64 s] 3 (0, 0)) ∧
      wr.heap[w.heap.size + 1 + 1 + 1]? = some (.cells #[.int .i64 y', .int .i64 m', .int .i64 d', .int .i64 h', .int .i64 mi', .int .i64 s'] 3 (0, 0))) (fun i _ => 6 - (intOf i).toNat)
  case atStart =>
    refine ⟨0, by omega, rfl, (by repeat' (first | (with_reducible exact Below.refl _ _) | (with_reducible assumption) | (with_reducible refine below_drewN ?_ _) | (with_reducible refine Below.drew ?_) | (with_reducible refine Below.alloc ?_ ?_ _) | (with_reducible refine Below.setCell ?_ ?_ _) | go_size)), HE, ?_, ?_⟩
    · exact bk_old (bk_new (by simp))
    · exact bk_new (by simp)
  case round =>
    obtain ⟨k, hk, rfl, hbr, hor, b1, b2⟩ := hrel
    by_cases hlt : k < 6
    · have hlt' : ((k : Nat) : Int) < 6 := by omega
      have c1 := CX.out _ _ _ b1 k hlt
      have c2 := CY.out _ _ _ b2 k hlt
      have hst := Lib.hid ((HS.out k hlt).symm.trans hor.out)
      have B1 := Lib.hid b1
      have B2 := Lib.hid b2
      have zr := hbr.size
      clear b1 b2
      generalize xs.getD k 0 = a at *
      generalize ys.getD k 0 = b at *
      rcases cmpI_cases a b with ⟨c, e⟩ | ⟨c, e⟩ | ⟨c, e⟩
      · rw [e] at hst
        have E := Lib.hid (show -1 = r from hst.out)
        clear e hst
        go_wp2
        go_quiet (fail)
        go_wp2
        go_ret
        exact ⟨ret_int E.out, (by repeat' (first | (with_reducible exact Below.refl _ _) | (with_reducible assumption) | (with_reducible refine below_drewN ?_ _) | (with_reducible refine Below.drew ?_) | (with_reducible refine Below.alloc ?_ ?_ _) | (with_reducible refine Below.setCell ?_ ?_ _) | go_size))⟩
      · rw [e] at hst
        have E := Lib.hid (show orL ((List.zipWith cmpI xs ys).drop (k + 1)) = r from hst.out)
        clear e hst
        have d1 : ¬ a < b := by omega
        have d2 : ¬ b < a := by omega
        go_wp2
        go_quiet (fail)
        go_wp2
        go_quiet (fail)
        go_wp2
        go_roundw
        case rel => exact ⟨k + 1, by omega, by go_num, (by repeat' (first | (with_reducible exact Below.refl _ _) | (with_reducible assumption) | (with_reducible refine below_drewN ?_ _) | (with_reducible refine Below.drew ?_) | (with_reducible refine Below.alloc ?_ ?_ _) | (with_reducible refine Below.setCell ?_ ?_ _) | go_size)), E, B1.out, B2.out⟩
        case measure => simp [intOf]; omega
      · rw [e] at hst
        have E := Lib.hid (show 1 = r from hst.out)
        clear e hst
        have d1 : ¬ a < b := by omega
        go_wp2
        go_quiet (fail)
        go_wp2
        go_quiet (fail)
        go_wp2
        go_ret
        exact ⟨ret_int E.out, (by repeat' (first | (with_reducible exact Below.refl _ _) | (with_reducible assumption) | (with_reducible refine below_drewN ?_ _) | (with_reducible refine Below.drew ?_) | (with_reducible refine Below.alloc ?_ ?_ _) | (with_reducible refine Below.setCell ?_ ?_ _) | go_size))⟩
    · obtain rfl : k = 6 := by omega
      have E := Lib.hid (show 0 = r from by rw [← hor.out]; exact HZ.out.symm)
      have zr := hbr.size
      go_wp2
      go_ret
      exact ⟨ret_int E.out, (by repeat' (first | (with_reducible exact Below.refl _ _) | (with_reducible assumption) | (with_reducible refine below_drewN ?_ _) | (with_reducible refine Below.drew ?_) | (with_reducible refine Below.alloc ?_ ?_ _) | (with_reducible refine Below.setCell ?_ ?_ _) | go_size))⟩
end Go.Proofs.Ytkkgcfllfhkoaaa.Clk
