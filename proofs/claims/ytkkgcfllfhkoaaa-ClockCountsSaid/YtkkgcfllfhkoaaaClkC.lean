/- Walks: the reference's encodings of points in time. -/
import Derived.Test.YtkkgcfllfhkoaaaPlClkB
import Derived.Test.YtkkgcfllfhkoaaaClkA
import Derived.Test.YtkkgcfllfhkoaaaErr
set_option linter.unusedSimpArgs false
set_option linter.unusedVariables false
namespace Go.Proofs.Ytkkgcfllfhkoaaa.Clk
open Go.RowKit Kit

/-- a list of bytes as a string -/
def sb (l : List UInt8) : ByteArray := ⟨l.toArray⟩
theorem sb_append (l m : List UInt8) : sb l ++ sb m = sb (l ++ m) := by
  apply ByteArray.ext
  simp [sb, ByteArray.data_append]
theorem sb_size (l : List UInt8) : (sb l).size = l.length := by simp [sb, ByteArray.size]
/-- the reference's table of digits, cut -/
theorem tab_cut {r : Nat} (h : r < 10) : (ByteArray.mk #[48, 49, 50, 51, 52, 53, 54, 55, 56, 57]).extract r (r + 1) = sb [ofI (48 + (r : Int))] := by
  have hr : r = 0 ∨ r = 1 ∨ r = 2 ∨ r = 3 ∨ r = 4 ∨ r = 5 ∨ r = 6 ∨ r = 7 ∨ r = 8 ∨ r = 9 := by omega
  rcases hr with rfl | rfl | rfl | rfl | rfl | rfl | rfl | rfl | rfl | rfl <;> decide

theorem TimeB_lt {w : World} {b : Nat} {o : Obj} (h : w.heap[b]? = some o) : b < w.heap.size := Blk_lt h
/-- the cells of a block of six -/
theorem cells6 {w : World} {b : Nat} {x0 x1 x2 x3 x4 x5 : Value} {t : TypeId} (h : w.heap[b]? = some (.cells #[x0, x1, x2, x3, x4, x5] t (0, 0))) :
    w.cell? ⟨b, 0, none⟩ = some x0 ∧ w.cell? ⟨b, 1, none⟩ = some x1 ∧ w.cell? ⟨b, 2, none⟩ = some x2 ∧ w.cell? ⟨b, 3, none⟩ = some x3 ∧ w.cell? ⟨b, 4, none⟩ = some x4 ∧ w.cell? ⟨b, 5, none⟩ = some x5 := by
  refine ⟨?_, ?_, ?_, ?_, ?_, ?_⟩ <;> (rw [cell_of_row w b _ _ _ _ h]; rfl)

set_option maxHeartbeats 1000000 in
theorem digits_any (c : Nat) : ∀ (n : Int) (w : World), 0 ≤ n → n ≤ 1000000 → c ≤ 10 →
    Calls Try.prog 53 #[.int .i64 n, .int .i64 (c : Int)] w fun e w' => e = .returned (.string (sb (digL n c))) ∧ ∃ m, w' = w.drewN m := by
  induction c with
  | zero =>
    intro n w h0 h1 hc
    go_enter Try.func53, Try.ntmps53
    go_wp2_with fail
    go_ret
    exact ⟨rfl, (by first | exact ⟨0, rfl⟩ | exact ⟨_, rfl⟩ | (simp only [World.drewN_drewN]; exact ⟨_, rfl⟩))⟩
  | succ c ih =>
    intro n w h0 h1 hc
    have IH := Lib.hid (fun w => ih (n / 10) w (by omega) (by omega) (by omega))
    have hm : n.tmod 10 = n % 10 := Int.tmod_eq_emod_of_nonneg h0
    have hd : n.tdiv 10 = n / 10 := Int.tdiv_eq_ediv_of_nonneg h0
    have hc1 : ((c + 1 : Nat) : Int) - 1 = (c : Int) := by omega
    obtain ⟨r, hr⟩ : ∃ r : Nat, n % 10 = (r : Int) := ⟨(n % 10).toNat, by omega⟩
    have hr10 : r < 10 := by omega
    have HR := Lib.hid hr
    clear ih
    go_enter Try.func53, Try.ntmps53
    go_wp2_with fail
    have hw1 : IntKind.i64.wrap (n / 10) = n / 10 := IntWalk.i64_in _ (by omega)
    have hw2 : IntKind.i64.wrap (c : Int) = (c : Int) := IntWalk.i64_in _ (by omega)
    have hw3 : IntKind.i64.wrap ((r : Int) + 1) = (r : Int) + 1 := IntWalk.i64_in _ (by omega)
    have hn3 : ((r : Int) + 1).toNat = r + 1 := by omega
    have hr0 : (0 : Int) ≤ (r : Int) + 1 := by omega
    have hr1 : (r : Int) ≤ (r : Int) + 1 := by omega
    have hr2 : (r : Int) + 1 ≤ 10 := by omega
    have hcut := tab_cut hr10
    have hs1 : (sb (digL (n / 10) c)).size = c := by rw [sb_size, digL_len]
    have hs2 : (sb [ofI (48 + (r : Int))]).size = 1 := by rw [sb_size]; rfl
    have hcc : c ≤ 10 := by omega
    go_quiet ((go_at_call 53; exact Calls.quiet_of (IH.out _)))
    go_wp2
    go_ret
    refine ⟨?_, (by first | exact ⟨0, rfl⟩ | exact ⟨_, rfl⟩ | (simp only [World.drewN_drewN]; exact ⟨_, rfl⟩))⟩
    rw [sb_append]
    show _ = Ending.returned (.string (sb (digL (n / 10) c ++ [ofI (48 + n % 10)])))
    rw [HR.out]
    rfl

set_option maxHeartbeats 1000000 in
theorem reftail_any (y m d h mi s : Int) (w : World) (hv : 0 ≤ m ∧ m ≤ 99 ∧ 0 ≤ d ∧ d ≤ 99 ∧ 0 ≤ h ∧ h ≤ 99 ∧ 0 ≤ mi ∧ mi ≤ 99 ∧ 0 ≤ s ∧ s ≤ 99) :
    Calls Try.prog 54 #[time y m d h mi s] w fun e w' => e = .returned (.string (sb (tailL m d h mi s))) ∧ Below w.heap.size w w' := by
  have HT := Lib.hid (show digL m 2 ++ (digL d 2 ++ (digL h 2 ++ (digL mi 2 ++ (digL s 2 ++ [90])))) = tailL m d h mi s from by
    rw [digL_two (by omega) (by omega), digL_two (by omega) (by omega), digL_two (by omega) (by omega), digL_two (by omega) (by omega), digL_two (by omega) (by omega)]
    simp [tailL])
  have HD := Lib.hid (fun (n : Int) (w : World) (h0 : 0 ≤ n) (h1 : n ≤ 99) => digits_any 2 n w h0 (by omega) (by omega))
  have h9 : (ByteArray.mk #[90]) = sb [90] := rfl
  have hsa := sb_append
  have hss := sb_size
  have hdl := digL_len
  obtain ⟨v0, v1, v2, v3, v4, v5, v6, v7, v8, v9⟩ := hv
  go_enter Try.func54, Try.ntmps54
  go_wp2_with fail
  go_quiet ((go_at_call 53; exact Calls.quiet_of (HD.out _ _ (by omega) (by omega))))
  go_wp2
  go_ret
  refine ⟨?_, (by repeat' (first | (with_reducible exact Below.refl _ _) | (with_reducible assumption) | (with_reducible refine below_drewN ?_ _) | (with_reducible refine Below.drew ?_) | (with_reducible refine Below.alloc ?_ ?_ _) | (with_reducible refine Below.setCell ?_ ?_ _) | go_size))⟩
  rw [← HT.out]
  simp [sb_append, List.append_assoc]

/-- the bytes of a string, just converted, read as the string's list -/
theorem conv_rd (X : World) (l : List UInt8) (cap : Nat) (fr : Nat × Nat) : Rd (X.alloc (.cells (bytesRow (sb l) cap) 5 fr)) (X.heap.size + 1) (some ⟨X.heap.size, 0, none⟩) l.length l := by
  refine ⟨rfl, fun _ => ⟨_, rfl, Nat.lt_succ_self _, fun k hk => ?_⟩⟩
  rw [add_plain, Nat.zero_add, cell_of_row _ X.heap.size k _ _ _ (heap_alloc_new X _), bt_eq hk]
  unfold bytesRow sb
  rw [Array.getElem?_append_left (by simpa using hk)]
  simp [List.getElem?_eq_getElem hk]

set_option maxHeartbeats 2000000 in
theorem refencUTC_any (y m d h mi s : Int) (w : World) :
    Calls Try.prog 18 #[time y m d h mi s] w fun e w' => ∃ A n c, e = .returned (.tuple #[.slice A n c, .int .i64 (utcCode y m d h mi s)]) ∧ Rd w' w'.heap.size A n (utcBytes y m d h mi s) ∧ Below w.heap.size w w' := by
  cases hv : validB y m d h mi s
  · have C := Lib.hid (show utcCode y m d h mi s = 8 from by unfold utcCode; rw [hv]; simp)
    have B := Lib.hid (show utcBytes y m d h mi s = [] from by unfold utcBytes; rw [C.out]; simp)
    have HV := Lib.hid hv
    clear hv
    go_enter Try.func18, Try.ntmps18
    go_wp2_with (first | (go_at_call 22; refine (refvalid_any _ _ _ _ _ _ _).mono ?_; rw [HV.out]; rintro e w1 ⟨rfl, hb1⟩))
    go_ret2
    exact ⟨none, 0, 0, ret2 rfl (vint C.out.symm), by rw [B.out]; exact Rd.nil_, bel1 hb1⟩
  · have bd := valid_bd hv
    have HV := Lib.hid hv
    by_cases hy : y < 1950 ∨ 2049 < y
    · have C := Lib.hid (show utcCode y m d h mi s = 9 from by unfold utcCode; rw [if_pos hv, if_pos hy])
      have B := Lib.hid (show utcBytes y m d h mi s = [] from by unfold utcBytes; rw [C.out]; simp)
      clear hv
      by_cases hy1 : y < 1950
      · clear hy
        go_enter Try.func18, Try.ntmps18
        go_wp2_with (first | (go_at_call 22; refine (refvalid_any _ _ _ _ _ _ _).mono ?_; rw [HV.out]; rintro e w1 ⟨rfl, hb1⟩; obtain ⟨q0, q1, q2, q3, q4, q5⟩ := cells6 (blk1 hb1)))
        go_ret2
        exact ⟨none, 0, 0, ret2 rfl (vint C.out.symm), by rw [B.out]; exact Rd.nil_, bel1 hb1⟩
      · have hy2 : 2049 < y := by omega
        clear hy
        go_enter Try.func18, Try.ntmps18
        go_wp2_with (first | (go_at_call 22; refine (refvalid_any _ _ _ _ _ _ _).mono ?_; rw [HV.out]; rintro e w1 ⟨rfl, hb1⟩; obtain ⟨q0, q1, q2, q3, q4, q5⟩ := cells6 (blk1 hb1)))
        go_ret2
        exact ⟨none, 0, 0, ret2 rfl (vint C.out.symm), by rw [B.out]; exact Rd.nil_, bel1 hb1⟩
    · have C := Lib.hid (show utcCode y m d h mi s = 0 from by unfold utcCode; rw [if_pos hv, if_neg hy])
      have B := Lib.hid (show utcBytes y m d h mi s = utcL y m d h mi s from by unfold utcBytes; rw [if_pos C.out])
      have hy1 : ¬ y < 1950 := by omega
      have hy2 : ¬ 2049 < y := by omega
      clear hv hy
      go_enter Try.func18, Try.ntmps18
      go_wp2_with (first | (go_at_call 22; refine (refvalid_any _ _ _ _ _ _ _).mono ?_; rw [HV.out]; rintro e w1 ⟨rfl, hb1⟩; have tb := blk1 hb1; obtain ⟨q0, q1, q2, q3, q4, q5⟩ := cells6 tb))
      have HU := Lib.hid (show digL y 2 ++ tailL m d h mi s = utcBytes y m d h mi s from by rw [B.out, digL_year2 bd.1]; rfl)
      have kc := fun (w : World) (s : ByteArray) => run_bytes_of_string (P := Try.prog) w 9 28 5 s Try.underlying9 Try.underlying28 Try.underlying5
      have hsa := sb_append
      have hss := sb_size
      have HD := Lib.hid (fun (w : World) => digits_any 2 y w (by omega) (by omega) (by omega))
      have hl1 : (digL y 2).length = 2 := digL_len _ _
      have hl2 : (tailL m d h mi s).length = 11 := rfl
      go_region_with (first | (go_at_call 53; refine (HD.out _).mono ?_; rintro e w2 ⟨rfl, m2, rfl⟩) | (go_at_call 54; refine (reftail_any _ _ _ _ _ _ _ (by omega)).mono ?_; rintro e w3 ⟨rfl, hb3⟩; obtain ⟨p0, p1, p2, p3, p4, p5⟩ := cells6 ((hb3.block _ (TimeB_lt tb)).trans tb)))
      all_goals
        go_wp2
        go_ret2
        have hz1 : w.heap.size ≤ w1.heap.size := (bel1 hb1).size
        have hz3 : w1.heap.size ≤ w3.heap.size := hb3.size
        refine ⟨_, _, _, ret2 rfl (vint C.out.symm), ?_, ?_⟩
        · exact (((conv_rd w3 (digL y 2 ++ tailL m d h mi s) (grownCap w3 13 0 5) _).drew).more (by simp)).cast (by simp [hl1, hl2]) HU.out
        · exact (((below_drewN (bel1 hb1) (1 + m2)).trans (hb3.mono hz1)).alloc (by omega) _).drew
end Go.Proofs.Ytkkgcfllfhkoaaa.Clk
