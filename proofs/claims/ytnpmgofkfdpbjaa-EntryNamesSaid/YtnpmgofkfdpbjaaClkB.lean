/- Walks: the clock's encodings, in the package and in the reference. -/
import Derived.Test.YtnpmgofkfdpbjaaPlClkB
import Derived.Test.YtnpmgofkfdpbjaaClkA
import Derived.Test.YtnpmgofkfdpbjaaErr
import Derived.Deep.RegionWith
set_option linter.unusedSimpArgs false
set_option linter.unusedVariables false
namespace Go.Proofs.Ytnpmgofkfdpbjaa.Clk
open Go.RowKit Kit

set_option maxHeartbeats 1000000 in
theorem two_any {A : Option Addr} {n c : Nat} {l : List UInt8} (v : Int) (w : World) {base : Nat} (h0 : 0 ≤ v) (h1 : v ≤ 99) (ho : Own w base A n c l) (hb : base ≤ w.heap.size) (hn : n ≤ 1000000) :
    Calls Try.prog 132 #[.slice A n c, .int .i64 v] w fun e w' => ∃ A' c', e = .returned (.slice A' (n + 2) c') ∧ Own w' base A' (n + 2) c' (l ++ dig v) ∧ w.grownBy w' (Value.slice A n c).ownBlock ∧ Below base w w' := by
  go_enter Try.func132, Try.ntmps132
  go_wp2_with (first | (at_builtin; refine appL [48 + v / 10, 48 + v % 10] rfl (.tmp 5) (.tmp 14) rfl rfl ho rfl (in2 (by omega) (by omega) (by omega) (by omega)) (by simp; omega) hb ?_; intro A' c' w2 ho' hg' hb' hs'))
  go_ret
  exact ⟨A', c', rfl, ho', grown_trans (grown_alloc (World.grownBy.refl _ _) _) hg', hb'⟩

set_option maxHeartbeats 1000000 in
theorem tail_any {A : Option Addr} {n c : Nat} {l : List UInt8} (y m d h mi s : Int) (w : World) {base : Nat} (hv : 0 ≤ m ∧ m ≤ 99 ∧ 0 ≤ d ∧ d ≤ 99 ∧ 0 ≤ h ∧ h ≤ 99 ∧ 0 ≤ mi ∧ mi ≤ 99 ∧ 0 ≤ s ∧ s ≤ 99) (ho : Own w base A n c l) (hb : base ≤ w.heap.size) (hn : n ≤ 1000) :
    Calls Try.prog 131 #[.slice A n c, time y m d h mi s] w fun e w' => ∃ A' c', e = .returned (.slice A' (n + 11) c') ∧ Own w' base A' (n + 11) c' (l ++ tailL m d h mi s) ∧ Below base w w' := by
  have hf : ∀ k, k < 5 → 0 ≤ [m, d, h, mi, s].getD k 0 ∧ [m, d, h, mi, s].getD k 0 ≤ 99 := by
    intro k hk
    have hk' : k = 0 ∨ k = 1 ∨ k = 2 ∨ k = 3 ∨ k = 4 := by omega
    rcases hk' with rfl | rfl | rfl | rfl | rfl <;> simp <;> omega
  have HF := Lib.hid hf
  clear hf hv
  go_enter Try.func131, Try.ntmps131
  go_wp2
  go_loopw [0, 19] (fun o i wr => ∃ (k : Nat) (A' : Option Addr) (c' : Nat), i = .int .i64 (k : Int) ∧ k ≤ 5 ∧ o = .slice A' (n + 2 * k) c' ∧ Own wr base A' (n + 2 * k) c' (l ++ digs ([m, d, h, mi, s].take k)) ∧ Below base w wr ∧
      wr.heap[w.heap.size + 1]? = some (.cells #[.int .i64 m, .int .i64 d, .int .i64 h, .int .i64 mi, .int .i64 s] 3 (0, 0))) (fun _ i _ => 5 - (intOf i).toNat)
  case atStart =>
    refine ⟨0, A, c, rfl, by omega, rfl, ?_, (by repeat' (first | (with_reducible exact Below.refl _ _) | (with_reducible assumption) | (with_reducible refine below_drewN ?_ _) | (with_reducible refine Below.drew ?_) | (with_reducible refine Below.alloc ?_ ?_ _) | (with_reducible refine Below.setCell ?_ ?_ _) | go_size)), ?_⟩
    · simpa [digs] using (ho.alloc _).alloc _
    · have := heap_alloc_new (w.alloc (Obj.cells #[Value.int IntKind.i64 y, Value.int IntKind.i64 m, Value.int IntKind.i64 d, Value.int IntKind.i64 h, Value.int IntKind.i64 mi, Value.int IntKind.i64 s] 28)) (Obj.cells #[.int .i64 m, .int .i64 d, .int .i64 h, .int .i64 mi, .int .i64 s] 3)
      simpa using this
  case round =>
    obtain ⟨k, A', c', rfl, hk, rfl, hor, hbr, hbk⟩ := hrel
    by_cases hlt : k < 5
    · obtain ⟨v, hvk⟩ : ∃ v, [m, d, h, mi, s].getD k 0 = v := ⟨_, rfl⟩
      have hcell : wr.cell? ⟨w.heap.size + 1, k, none⟩ = some (.int .i64 v) := by
        rw [cell_of_row wr _ k _ _ _ hbk, ← hvk]
        have hk' : k = 0 ∨ k = 1 ∨ k = 2 ∨ k = 3 ∨ k = 4 := by omega
        rcases hk' with rfl | rfl | rfl | rfl | rfl <;> rfl
      have hv := HF.out k hlt
      rw [hvk] at hv
      obtain ⟨v0, v1⟩ := hv
      have DM := Lib.hid (digs_more (fs := [m, d, h, mi, s]) (k := k) hlt)
      have HV := Lib.hid hvk
      have zr := hbr.size
      clear hvk
      go_wp2_with (first | (go_at_call 132; refine (two_any v _ v0 v1 hor (by omega) (by omega)).mono ?_; rintro e w2 ⟨A2, c2, rfl, ho2, hg2, hb2⟩))
      go_roundw
      case rel =>
        refine ⟨k + 1, A2, c2, by go_num, by omega, by rw [show n + 2 * (k + 1) = n + 2 * k + 2 from by omega], ?_, hbr.trans hb2, ?_⟩
        · rw [show n + 2 * (k + 1) = n + 2 * k + 2 from by omega, DM.out, HV.out, ← List.append_assoc]; exact ho2
        · exact (hg2.block _ (Blk_lt hbk) (fun e => own_ne hor hbk (by decide) e.symm)).trans hbk
      case measure => simp [intOf]; omega
    · obtain rfl : k = 5 := by omega
      have zr := hbr.size
      go_wp2_with (first | (at_builtin; refine appL [90] rfl (.tmp 27) (.tmp 28) rfl rfl hor rfl (in1 (by omega) (by omega)) (by simp; omega) (by omega) ?_; intro A2 c2 w2 ho' hg' hb' hs'))
      go_ret
      have e : l ++ digs (List.take 5 [m, d, h, mi, s]) ++ List.map ofI [90] = l ++ tailL m d h mi s := by rw [tail_digs, ← List.append_assoc]; rfl
      rw [e] at ho'
      exact ⟨A2, c2, rfl, ho', hbr.trans hb'⟩

/-- block b holds a point in time -/
def TimeB (w : World) (b : Nat) (y m d h mi s : Int) : Prop := w.heap[b]? = some (.cells #[.int .i64 y, .int .i64 m, .int .i64 d, .int .i64 h, .int .i64 mi, .int .i64 s] 28 (0, 0))
section
variable {w w' : World} {b : Nat} {y m d h mi s : Int}
theorem TimeB.lt (t : TimeB w b y m d h mi s) : b < w.heap.size := Blk_lt t
theorem TimeB.cells (t : TimeB w b y m d h mi s) : w.cell? ⟨b, 0, none⟩ = some (.int .i64 y) ∧ w.cell? ⟨b, 1, none⟩ = some (.int .i64 m) ∧ w.cell? ⟨b, 2, none⟩ = some (.int .i64 d) ∧ w.cell? ⟨b, 3, none⟩ = some (.int .i64 h) ∧
    w.cell? ⟨b, 4, none⟩ = some (.int .i64 mi) ∧ w.cell? ⟨b, 5, none⟩ = some (.int .i64 s) := by
  refine ⟨?_, ?_, ?_, ?_, ?_, ?_⟩ <;> (rw [cell_of_row w b _ _ _ _ t]; rfl)
theorem TimeB.frozen (t : TimeB w b y m d h mi s) (k : Nat) : w.frozen? ⟨b, k, none⟩ = false := frozen_of_row w b k _ _ t
theorem TimeB.past (t : TimeB w b y m d h mi s) (hb : Below w.heap.size w w') : TimeB w' b y m d h mi s := (hb.block b t.lt).trans t
theorem TimeB.below {B : Nat} (t : TimeB w b y m d h mi s) (hb : Below B w w') (hB : b < B) : TimeB w' b y m d h mi s := (hb.block b hB).trans t
theorem TimeB.alloc (t : TimeB w b y m d h mi s) (o : Obj) : TimeB (w.alloc o) b y m d h mi s := (Below.heap_alloc w o b t.lt).trans t
theorem TimeB.drewN (t : TimeB w b y m d h mi s) (k : Nat) : TimeB (w.drewN k) b y m d h mi s := t
theorem TimeB.drew (t : TimeB w b y m d h mi s) : TimeB w.drew b y m d h mi s := t
end

set_option maxHeartbeats 2000000 in
theorem encUTC_any (y m d h mi s : Int) (w : World) :
    Calls Try.prog 80 #[time y m d h mi s] w fun e w' => ∃ A n c, e = .returned (.tuple #[.slice A n c, .int .i64 (utcCode y m d h mi s)]) ∧ Own w' w.heap.size A n c (utcBytes y m d h mi s) ∧ Below w.heap.size w w' := by
  cases hv : validB y m d h mi s
  · have C := Lib.hid (show utcCode y m d h mi s = 8 from by unfold utcCode; rw [hv]; simp)
    have B := Lib.hid (show utcBytes y m d h mi s = [] from by unfold utcBytes; rw [C.out]; simp)
    have HV := Lib.hid hv
    clear hv
    go_enter Try.func80, Try.ntmps80
    go_wp2_with (first | (go_at_call 86; refine (valid_any _ _ _ _ _ _ _).mono ?_; rw [HV.out]; rintro e w1 ⟨rfl, hb1⟩))
    go_ret2
    exact ⟨none, 0, 0, ret2 rfl (vint C.out.symm), by rw [B.out]; exact Own.none_ _ _, bel1 hb1⟩
  · have bd := valid_bd hv
    have HV := Lib.hid hv
    by_cases hy : y < 1950 ∨ 2049 < y
    · have C := Lib.hid (show utcCode y m d h mi s = 9 from by unfold utcCode; rw [if_pos hv, if_pos hy])
      have B := Lib.hid (show utcBytes y m d h mi s = [] from by unfold utcBytes; rw [C.out]; simp)
      clear hv
      have HY := Lib.hid hy
      by_cases hy1 : y < 1950
      · clear hy
        go_enter Try.func80, Try.ntmps80
        go_wp2_with (first | (go_at_call 86; refine (valid_any _ _ _ _ _ _ _).mono ?_; rw [HV.out]; rintro e w1 ⟨rfl, hb1⟩; obtain ⟨q0, q1, q2, q3, q4, q5⟩ := TimeB.cells (blk1 hb1)))
        go_ret2
        exact ⟨none, 0, 0, ret2 rfl (vint C.out.symm), by rw [B.out]; exact Own.none_ _ _, bel1 hb1⟩
      · have hy2 : 2049 < y := by omega
        clear hy
        go_enter Try.func80, Try.ntmps80
        go_wp2_with (first | (go_at_call 86; refine (valid_any _ _ _ _ _ _ _).mono ?_; rw [HV.out]; rintro e w1 ⟨rfl, hb1⟩; obtain ⟨q0, q1, q2, q3, q4, q5⟩ := TimeB.cells (blk1 hb1)))
        go_ret2
        exact ⟨none, 0, 0, ret2 rfl (vint C.out.symm), by rw [B.out]; exact Own.none_ _ _, bel1 hb1⟩
    · have C := Lib.hid (show utcCode y m d h mi s = 0 from by unfold utcCode; rw [if_pos hv, if_neg hy])
      have B := Lib.hid (show utcBytes y m d h mi s = utcL y m d h mi s from by unfold utcBytes; rw [if_pos C.out])
      have hy1 : ¬ y < 1950 := by omega
      have hy2 : ¬ 2049 < y := by omega
      clear hv hy
      go_enter Try.func80, Try.ntmps80
      go_wp2_with (first | (go_at_call 86; refine (valid_any _ _ _ _ _ _ _).mono ?_; rw [HV.out]; rintro e w1 ⟨rfl, hb1⟩; have tb := blk1 hb1; obtain ⟨q0, q1, q2, q3, q4, q5⟩ := TimeB.cells tb))
      have hm : y.tmod 100 = y % 100 := Int.tmod_eq_emod_of_nonneg bd.1
      go_region_with (first | (go_at_call 132; refine (two_any (base := w1.heap.size) (l := []) (y % 100) _ (by omega) (by omega) (Own.none_ _ _) (by simp) (by omega)).mono ?_; rintro e w2 ⟨A2, c2, rfl, ho2, hg2, hb2⟩; have tb2 := TimeB.below (TimeB.drew tb) hb2 (TimeB.lt tb); obtain ⟨p0, p1, p2, p3, p4, p5⟩ := TimeB.cells tb2) | (go_at_call 131; refine (tail_any _ _ _ _ _ _ _ (by omega) ho2 hb2.size (by omega)).mono ?_; rintro e w3 ⟨A3, c3, rfl, ho3, hb3⟩))
      all_goals
        go_wp2
        go_ret2
        have hz1 := (bel1 hb1).size
        refine ⟨A3, _, c3, ret2 rfl (vint C.out.symm), by rw [B.out]; exact ho3.mono (by omega), ?_⟩
        exact ((bel1 hb1).drew).trans ((hb2.mono hz1).trans (hb3.mono hz1))

set_option maxHeartbeats 2000000 in
theorem encGen_any (y m d h mi s : Int) (w : World) :
    Calls Try.prog 81 #[time y m d h mi s] w fun e w' => ∃ A n c, e = .returned (.tuple #[.slice A n c, .int .i64 (genCode y m d h mi s)]) ∧ Own w' w.heap.size A n c (genBytes y m d h mi s) ∧ Below w.heap.size w w' := by
  cases hv : validB y m d h mi s
  · have C := Lib.hid (show genCode y m d h mi s = 8 from by unfold genCode; rw [hv]; simp)
    have B := Lib.hid (show genBytes y m d h mi s = [] from by unfold genBytes; rw [C.out]; simp)
    have HV := Lib.hid hv
    clear hv
    go_enter Try.func81, Try.ntmps81
    go_wp2_with (first | (go_at_call 86; refine (valid_any _ _ _ _ _ _ _).mono ?_; rw [HV.out]; rintro e w1 ⟨rfl, hb1⟩))
    go_ret2
    exact ⟨none, 0, 0, ret2 rfl (vint C.out.symm), by rw [B.out]; exact Own.none_ _ _, bel1 hb1⟩
  · have bd := valid_bd hv
    have HV := Lib.hid hv
    have C := Lib.hid (show genCode y m d h mi s = 0 from by unfold genCode; rw [if_pos hv])
    have B := Lib.hid (show genBytes y m d h mi s = genL y m d h mi s from by unfold genBytes; rw [if_pos C.out])
    clear hv
    go_enter Try.func81, Try.ntmps81
    go_wp2_with (first | (go_at_call 86; refine (valid_any _ _ _ _ _ _ _).mono ?_; rw [HV.out]; rintro e w1 ⟨rfl, hb1⟩; have tb := blk1 hb1; obtain ⟨q0, q1, q2, q3, q4, q5⟩ := TimeB.cells tb))
    have hm : y.tmod 100 = y % 100 := Int.tmod_eq_emod_of_nonneg bd.1
    have hd : IntKind.i64.wrap (y.tdiv 100) = y / 100 := by rw [Int.tdiv_eq_ediv_of_nonneg bd.1]; exact IntWalk.i64_in _ (by omega)
    go_region_with (first | (go_at_call 132; ((with_reducible refine (two_any (base := w1.heap.size) (l := []) (y / 100) _ (by omega) (by omega) (Own.none_ _ _) (by simp) (by omega)).mono ?_); rintro e w2 ⟨A2, c2, rfl, ho2, hg2, hb2⟩); have ho2' : Own w2 w1.heap.size A2 2 c2 (dig (y / 100)) := ho2; have hz2 : w1.heap.size ≤ w2.heap.size := hb2.size; have tb2 := TimeB.below (TimeB.drew tb) hb2 (TimeB.lt tb); obtain ⟨p0, p1, p2, p3, p4, p5⟩ := TimeB.cells tb2) | (go_at_call 132; ((with_reducible refine (two_any (base := w1.heap.size) (y % 100) _ (by omega) (by omega) ho2' hz2 (by omega)).mono ?_); rintro e w3 ⟨A3, c3, rfl, ho3, hg3, hb3⟩); have tb3 := TimeB.below tb2 hb3 (TimeB.lt tb); have hz3 : w1.heap.size ≤ w3.heap.size := Nat.le_trans hz2 hb3.size; obtain ⟨r0, r1, r2, r3, r4, r5⟩ := TimeB.cells tb3) | (go_at_call 131; refine (tail_any _ _ _ _ _ _ _ (by omega) ho3 hz3 (by omega)).mono ?_; rintro e w4 ⟨A4, c4, rfl, ho4, hb4⟩))
    all_goals
      go_wp2
      go_ret2
      have hz1 := (bel1 hb1).size
      refine ⟨A4, _, c4, ret2 rfl (vint C.out.symm), by rw [B.out]; exact ho4.mono (by omega), ?_⟩
      exact ((bel1 hb1).drew).trans ((hb2.mono hz1).trans ((hb3.mono hz1).trans (hb4.mono hz1)))
end Go.Proofs.Ytnpmgofkfdpbjaa.Clk
