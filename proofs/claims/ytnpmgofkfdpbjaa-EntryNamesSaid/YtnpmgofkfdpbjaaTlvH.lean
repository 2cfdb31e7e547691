/- Walks: the element at the beginning, read by the reference. -/
import Derived.Test.YtnpmgofkfdpbjaaTlvG
import Derived.BigRegion
import Derived.Deep.RegionHeld3
set_option linter.unusedSimpArgs false
set_option linter.unusedVariables false
namespace Go.Proofs.Ytnpmgofkfdpbjaa.Tlv
open Go.RowKit Kit

theorem rh_bd (l : List UInt8) (hl : l.length ≤ 140737488355328) : 0 ≤ (rh l).1.len ∧ (rh l).1.len ≤ 2147483647 ∧ 0 ≤ (rh l).1.size ∧ (rh l).1.size ≤ 6 ∧ 0 ≤ (rh l).2.1 ∧ (rh l).2.1 ≤ 4 ∧ 0 ≤ (rh l).2.2 ∧ (rh l).2.2 ≤ l.length := by
  have hb := rl_bd (l.drop 1) (by rw [List.length_drop]; omega)
  rw [List.length_drop] at hb
  unfold rh
  repeat' split
  all_goals simp only [Hd.zero]
  all_goals omega
/-- the element at the beginning: header, contents, rest, an error's code and offset -/
structure Nx where
  hd : Hd
  con : List UInt8
  rest : List UInt8
  code : Int
  off : Int
def nx (l : List UInt8) : Nx :=
  if (rh l).2.1 ≠ 0 then ⟨Hd.zero, [], [], (rh l).2.1, (rh l).2.2⟩
  else if (l.length : Int) - (rh l).1.size < (rh l).1.len then ⟨Hd.zero, [], [], 1, l.length⟩
  else ⟨(rh l).1, (l.drop (rh l).1.size.toNat).take (rh l).1.len.toNat, l.drop ((rh l).1.size.toNat + (rh l).1.len.toNat), 0, 0⟩
theorem ret4' {a b c d a' b' c' d' : Value} (h1 : a = a') (h2 : b = b') (h3 : c = c') (h4 : d = d') : Value.tuple #[a, b, c, d] = .tuple #[a', b', c', d'] := by rw [h1, h2, h3, h4]

/-- what the reference's Next returns: its slices lie in the argument -/
def NxR (B : Nat) (w : World) (l : List UInt8) (e : Ending) (w' : World) : Prop :=
  ∃ A1 c1 A2 c2, e = .returned (.tuple #[hdV (nx l).hd, .slice A1 (nx l).con.length c1, .slice A2 (nx l).rest.length c2, err (nx l).code (nx l).off]) ∧
    Rd w' B A1 (nx l).con.length (nx l).con ∧ Rd w' B A2 (nx l).rest.length (nx l).rest ∧ Below w.heap.size w w'

set_option maxRecDepth 100000 in
set_option maxHeartbeats 4000000 in
theorem refnext_any {A : Option Addr} {n c B : Nat} {l : List UInt8} (w : World) (hr : Rd w B A n l) (hB : B ≤ w.heap.size) (hc : n ≤ c) (hm : c ≤ maxLen) (hn : n ≤ 140737488355328) :
    Calls Try.prog 167 #[.slice A n c] w (NxR B w l) := by
  have hl := hr.len
  obtain ⟨d1, d2, d3, d4, d5, d6, d7, d8⟩ := rh_bd l (by omega)
  have RH := Lib.hid (fun (w' : World) (h : Rd w' B A n l) (hB : B ≤ w'.heap.size) => refreadhead_any (c := c) w' h hB hc hm hn)
  have hm' := hm
  unfold maxLen at hm'
  have HR := Lib.hid hr
  have N1 := Lib.hid (fun (h : (rh l).2.1 ≠ 0) => show nx l = ⟨Hd.zero, [], [], (rh l).2.1, (rh l).2.2⟩ from by unfold nx; rw [if_pos h])
  have N2 := Lib.hid (fun (h : ¬ (rh l).2.1 ≠ 0) (h2 : (l.length : Int) - (rh l).1.size < (rh l).1.len) => show nx l = ⟨Hd.zero, [], [], 1, l.length⟩ from by unfold nx; rw [if_neg h, if_pos h2])
  have N3 := Lib.hid (fun (h : ¬ (rh l).2.1 ≠ 0) (h2 : ¬ (l.length : Int) - (rh l).1.size < (rh l).1.len) => show nx l = ⟨(rh l).1, (l.drop (rh l).1.size.toNat).take (rh l).1.len.toNat, l.drop ((rh l).1.size.toNat + (rh l).1.len.toNat), 0, 0⟩ from by unfold nx; rw [if_neg h, if_neg h2])
  generalize rh l = r at *
  obtain ⟨⟨k1, k2, k3, k4, k5⟩, r1, r2⟩ := r
  simp only [rhV, hdV] at RH N1 N2 N3 d1 d2 d3 d4 d5 d6 d7 d8
  clear hr
  go_enter Try.func167, Try.ntmps167
  go_upto_region 2 with (first | (go_at_call 170; refine (RH.out _ ((HR.out.alloc hB _).alloc (by simp; omega) _) (by simp; omega)).mono ?_; rintro e w1 ⟨rfl, hb⟩))
  obtain ⟨t2, t5, bel⟩ := box2 hb
  have hs := hb.size
  simp only [World.size_alloc] at hs
  replace t2 := bk_old (o' := .cells #[.int .i64 r1, .int .i64 r2] 36) (bk_old (o' := .cells #[.int .i64 k1, .int .i64 k2, .bool k3, .int .i64 k4, .int .i64 k5] 164) t2)
  replace t5 := bk_old (o' := .cells #[.int .i64 r1, .int .i64 r2] 36) (bk_old (o' := .cells #[.int .i64 k1, .int .i64 k2, .bool k3, .int .i64 k4, .int .i64 k5] 164) t5)
  have t6 : ((w1.alloc (.cells #[.int .i64 k1, .int .i64 k2, .bool k3, .int .i64 k4, .int .i64 k5] 164)).alloc (.cells #[.int .i64 r1, .int .i64 r2] 36)).heap[w1.heap.size]? = _ := bk_old (bk_new rfl)
  have t7 : ((w1.alloc (.cells #[.int .i64 k1, .int .i64 k2, .bool k3, .int .i64 k4, .int .i64 k5] 164)).alloc (.cells #[.int .i64 r1, .int .i64 r2] 36)).heap[w1.heap.size + 1]? = _ := bk_new (by simp)
  replace bel := (bel.alloc bel.size (.cells #[.int .i64 k1, .int .i64 k2, .bool k3, .int .i64 k4, .int .i64 k5] 164)).alloc (by simp; have := bel.size; omega) (.cells #[.int .i64 r1, .int .i64 r2] 36)
  have n1 : ¬ w1.heap.size = w.heap.size := by omega
  have n2 : ¬ w1.heap.size = w.heap.size + 1 := by omega
  have n3 : ¬ w.heap.size = w1.heap.size := by omega
  have n4 : ¬ w.heap.size + 1 = w1.heap.size := by omega
  have m1 : ¬ w1.heap.size + 1 = w.heap.size := by omega
  have m2 : ¬ w1.heap.size + 1 = w.heap.size + 1 := by omega
  have m3 : ¬ w.heap.size = w1.heap.size + 1 := by omega
  have m4 : ¬ w.heap.size + 1 = w1.heap.size + 1 := by omega
  clear hb hs RH
  generalize hg7 : w1.heap.size + 1 = b7 at *
  generalize hg6 : w1.heap.size = b6 at *
  clear hg6 hg7
  generalize (w1.alloc (.cells #[.int .i64 k1, .int .i64 k2, .bool k3, .int .i64 k4, .int .i64 k5] 164)).alloc (.cells #[.int .i64 r1, .int .i64 r2] 36) = w2 at *
  clear w1
  have RW := Lib.hid (HR.out.below (bel.mono hB))
  have T2 := Lib.hid t2
  have T5 := Lib.hid t5
  obtain ⟨q0, q1, q2, q3, q4⟩ := cells5 t2
  obtain ⟨f0, f1, f2, f3, f4⟩ := free5 t2
  obtain ⟨s0, s1⟩ := cells2 t5
  obtain ⟨g0, g1, _, _, _⟩ := free5 t5
  obtain ⟨u0, u1, u2, u3, u4⟩ := cells5 t6
  obtain ⟨v0, v1⟩ := cells2 t7
  clear t2 t5 t6 t7
  by_cases hz : r1 = 0
  · subst hz
    obtain ⟨sz, rfl⟩ := Int.eq_ofNat_of_zero_le d3
    obtain ⟨m, rfl⟩ := Int.eq_ofNat_of_zero_le d1
    by_cases hcut : (n : Int) - (sz : Int) < (m : Int)
    · have E := Lib.hid (N2.out (by decide) (by rw [hl]; exact hcut))
      clear N1 N2 N3 HR RW
      go_wp2
      clear q0 q1 q2 q3 q4 f0 f1 f2 f3 f4 s0 s1 g0 g1 u0 u1 u2 u3 u4 v0 v1
      have tc := cells5 (far2 (c := w.heap.size + 1) (set5 (.int .i64 0) (.int .i64 0) (.bool false) (.int .i64 0) (.int .i64 0) T2.out) (by omega) (.int .i64 1) (.int .i64 (n : Int)))
      have td := cells2 (set2 (.int .i64 1) (.int .i64 (n : Int)) (far5 (c := w.heap.size) T5.out (by omega) (.int .i64 0) (.int .i64 0) (.bool false) (.int .i64 0) (.int .i64 0)))
      refine bodyPost_ret (v := .tuple #[.agg #[.int .i64 0, .int .i64 0, .bool false, .int .i64 0, .int .i64 0], .slice none 0 0, .slice none 0 0, err 1 (n : Int)]) (by simp [results, Try.results167, go_sem, *]) rfl ?_
      unfold NxR
      rw [E.out, hl]
      exact ⟨none, 0, none, 0, rfl, Rd.nil_, Rd.nil_, (by repeat' (first | (with_reducible exact Below.refl _ _) | (with_reducible assumption) | (with_reducible refine below_drewN ?_ _) | (with_reducible refine Below.drew ?_) | (with_reducible refine Below.alloc ?_ ?_ _) | (with_reducible refine Below.setCell ?_ ?_ _) | go_size))⟩
    · have E := Lib.hid (N3.out (by decide) (by rw [hl]; omega))
      simp only [Int.toNat_natCast] at E
      clear N1 N2 N3 HR
      have x1 : (sz : Int) ≤ (sz : Int) + (m : Int) := by omega
      have x2 : (sz : Int) + (m : Int) ≤ (n : Int) := by omega
      have x3 : (sz : Int) + (m : Int) ≤ (c : Int) := by omega
      go_upto_region 6 with fail
      have hnn : (0:Int) ≤ (sz : Int) + (m : Int) := by omega
      have wr6 : IntKind.i64.wrap ((sz : Int) + (m : Int)) = (sz : Int) + (m : Int) := IntWalk.i64_in _ (by omega)
      go_region_held3 (fun w' => w'.cell? ⟨b6, 0, none⟩ = some (.int .i64 k1) ∧ w'.cell? ⟨b6, 1, none⟩ = some (.int .i64 k2) ∧ w'.cell? ⟨b6, 2, none⟩ = some (.bool k3) ∧ w'.cell? ⟨b6, 3, none⟩ = some (.int .i64 (m : Int)) ∧ w'.cell? ⟨b6, 4, none⟩ = some (.int .i64 (sz : Int))) (go_keep) (fail)
      rename_i hheld
      clear wr6 hnn hheld
      rw [show ((sz : Int) + (m : Int)).toNat = sz + m from by omega]
      have R1 := RW.out.cut (k := sz) (m := sz + m) (cap := c) (by omega) (by omega) (by omega)
      have R2 := RW.out.cut (k := sz + m) (m := n) (cap := c) (by omega) (Nat.le_refl _) hc
      simp only [Nat.mul_one, Nat.add_sub_cancel_left] at R1 R2 ⊢
      rw [List.take_of_length_le (by rw [List.length_drop, hl]; exact Nat.le_refl _)] at R2
      generalize (if c = sz then A else Option.map (fun x => x.add sz) A) = A1 at *
      generalize (if c = sz + m then A else Option.map (fun x => x.add (sz + m)) A) = A2 at *
      have L1 := R1.len
      have L2 := R2.len
      have R1' := Lib.hid R1
      have R2' := Lib.hid R2
      clear R1 R2
      go_wp2
      clear q0 q1 q2 q3 q4 f0 f1 f2 f3 f4 s0 s1 g0 g1 u0 u1 u2 u3 u4 v0 v1
      have tc := cells5 (far2 (c := w.heap.size + 1) (set5 (.int .i64 k1) (.int .i64 k2) (.bool k3) (.int .i64 (m : Int)) (.int .i64 (sz : Int)) T2.out) (by omega) (.int .i64 0) (.int .i64 0))
      have td := cells2 (set2 (.int .i64 0) (.int .i64 0) (far5 (c := w.heap.size) T5.out (by omega) (.int .i64 k1) (.int .i64 k2) (.bool k3) (.int .i64 (m : Int)) (.int .i64 (sz : Int))))
      refine bodyPost_ret (v := .tuple #[.agg #[.int .i64 k1, .int .i64 k2, .bool k3, .int .i64 (m : Int), .int .i64 (sz : Int)], .slice A1 m (c - sz), .slice A2 (n - (sz + m)) (c - (sz + m)), err 0 0]) (by simp [results, Try.results167, go_sem, *]) rfl ?_
      unfold NxR
      rw [E.out]
      refine ⟨A1, c - sz, A2, c - (sz + m), ?_, ?_, ?_, (by repeat' (first | (with_reducible exact Below.refl _ _) | (with_reducible assumption) | (with_reducible refine below_drewN ?_ _) | (with_reducible refine Below.drew ?_) | (with_reducible refine Below.alloc ?_ ?_ _) | (with_reducible refine Below.setCell ?_ ?_ _) | go_size))⟩
      · simp only [L1, L2]
      · simp only [L1]
        exact ((((((((R1'.out).setCell (by simp; omega) _).setCell (by simp; omega) _).setCell (by simp; omega) _).setCell (by simp; omega) _).setCell (by simp; omega) _).setCell (by simp; omega) _).setCell (by simp; omega) _).drew
      · simp only [L2]
        exact ((((((((R2'.out).setCell (by simp; omega) _).setCell (by simp; omega) _).setCell (by simp; omega) _).setCell (by simp; omega) _).setCell (by simp; omega) _).setCell (by simp; omega) _).setCell (by simp; omega) _).drew
  · have E := Lib.hid (N1.out hz)
    clear N1 N2 N3 HR RW
    go_upto_region 3 with fail
    go_region
    all_goals
      go_wp2
      clear q0 q1 q2 q3 q4 f0 f1 f2 f3 f4 s0 s1 g0 g1 u0 u1 u2 u3 u4 v0 v1
      have tc := cells5 (far2 (c := w.heap.size + 1) (set5 (.int .i64 0) (.int .i64 0) (.bool false) (.int .i64 0) (.int .i64 0) T2.out) (by omega) (.int .i64 r1) (.int .i64 r2))
      have td := cells2 (set2 (.int .i64 r1) (.int .i64 r2) (far5 (c := w.heap.size) T5.out (by omega) (.int .i64 0) (.int .i64 0) (.bool false) (.int .i64 0) (.int .i64 0)))
      refine bodyPost_ret (v := .tuple #[.agg #[.int .i64 0, .int .i64 0, .bool false, .int .i64 0, .int .i64 0], .slice none 0 0, .slice none 0 0, err r1 r2]) (by simp [results, Try.results167, go_sem, *]) rfl ?_
      unfold NxR
      rw [E.out]
      exact ⟨none, 0, none, 0, rfl, Rd.nil_, Rd.nil_, (by repeat' (first | (with_reducible exact Below.refl _ _) | (with_reducible assumption) | (with_reducible refine below_drewN ?_ _) | (with_reducible refine Below.drew ?_) | (with_reducible refine Below.alloc ?_ ?_ _) | (with_reducible refine Below.setCell ?_ ?_ _) | go_size))⟩
end Go.Proofs.Ytnpmgofkfdpbjaa.Tlv
