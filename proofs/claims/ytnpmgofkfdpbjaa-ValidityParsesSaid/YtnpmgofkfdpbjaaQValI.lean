/- Walks: the reference's MarshalPair of validity. -/
import Derived.Test.YtnpmgofkfdpbjaaQValH
import Derived.Test.YtnpmgofkfdpbjaaKR
set_option linter.unusedSimpArgs false
set_option linter.unusedVariables false
namespace Go.Proofs.Ytnpmgofkfdpbjaa.Val
open Go.RowKit Kit Tlv Bas

set_option maxRecDepth 100000 in
set_option maxHeartbeats 2000000 in
theorem refmarpair_any (y m d h mi s y' m' d' h' mi' s' : Int) (w : World) :
    Calls Try.prog 55 #[Clk.time y m d h mi s, Clk.time y' m' d' h' mi' s'] w (Ent.MarP w (pairL y m d h mi s y' m' d' h' mi' s') (pairC y m d h mi s y' m' d' h' mi' s')) := by
  have M1 := Lib.hid (fun X => refmarshalV_any y m d h mi s X)
  have M2 := Lib.hid (fun X => refmarshalV_any y' m' d' h' mi' s' X)
  have ln1 := val_len (y := y) (m := m) (d := d) (h := h) (mi := mi) (s := s)
  have ln2 := val_len (y := y') (m := m') (d := d') (h := h') (mi := mi') (s := s')
  have F := Lib.hid (show pairL y m d h mi s y' m' d' h' mi' s' = if valB y m d h mi s = true ∧ valB y' m' d' h' mi' s' = true then encL 0 true 16 (valL y m d h mi s ++ valL y' m' d' h' mi' s') else [] from by unfold pairL pairB; simp [Bool.and_eq_true])
  have G := Lib.hid (show pairC y m d h mi s y' m' d' h' mi' s' = if valB y m d h mi s = true ∧ valB y' m' d' h' mi' s' = true then 0 else 8 from by unfold pairC pairB; simp [Bool.and_eq_true])
  have C1 := Lib.hid (show valB y m d h mi s = true ∧ valC y m d h mi s = 0 ∨ valB y m d h mi s = false ∧ valC y m d h mi s = 8 from by unfold valC; cases valB y m d h mi s <;> simp)
  have C2 := Lib.hid (show valB y' m' d' h' mi' s' = true ∧ valC y' m' d' h' mi' s' = 0 ∨ valB y' m' d' h' mi' s' = false ∧ valC y' m' d' h' mi' s' = 8 from by unfold valC; cases valB y' m' d' h' mi' s' <;> simp)
  generalize pairL y m d h mi s y' m' d' h' mi' s' = PL at *
  generalize pairC y m d h mi s y' m' d' h' mi' s' = PC at *
  generalize valL y m d h mi s = L1 at *
  generalize valL y' m' d' h' mi' s' = L2 at *
  generalize valC y m d h mi s = cd1 at *
  generalize valC y' m' d' h' mi' s' = cd2 at *
  generalize valB y m d h mi s = v1 at *
  generalize valB y' m' d' h' mi' s' = v2 at *
  have t2 : ((w.alloc (.cells #[.int .i64 y, .int .i64 m, .int .i64 d, .int .i64 h, .int .i64 mi, .int .i64 s] 28)).alloc (.cells #[.int .i64 y', .int .i64 m', .int .i64 d', .int .i64 h', .int .i64 mi', .int .i64 s'] 28)).heap[w.heap.size]? = _ := bk_old (bk_new rfl)
  have t3 : ((w.alloc (.cells #[.int .i64 y, .int .i64 m, .int .i64 d, .int .i64 h, .int .i64 mi, .int .i64 s] 28)).alloc (.cells #[.int .i64 y', .int .i64 m', .int .i64 d', .int .i64 h', .int .i64 mi', .int .i64 s'] 28)).heap[w.heap.size + 1]? = _ := bk_new (by simp)
  have BE0 := Lib.hid (show Below w.heap.size w ((w.alloc (.cells #[.int .i64 y, .int .i64 m, .int .i64 d, .int .i64 h, .int .i64 mi, .int .i64 s] 28)).alloc (.cells #[.int .i64 y', .int .i64 m', .int .i64 d', .int .i64 h', .int .i64 mi', .int .i64 s'] 28)) from (by repeat' (first | (with_reducible exact Below.refl _ _) | (with_reducible assumption) | (with_reducible refine below_drewN ?_ _) | (with_reducible refine Below.drew ?_) | (with_reducible refine Below.alloc ?_ ?_ _) | (with_reducible refine Below.setCell ?_ ?_ _) | go_size)))
  go_enter Try.func55, Try.ntmps55
  go_upto_region 1 with fail
  generalize (w.alloc (.cells #[.int .i64 y, .int .i64 m, .int .i64 d, .int .i64 h, .int .i64 mi, .int .i64 s] 28)).alloc (.cells #[.int .i64 y', .int .i64 m', .int .i64 d', .int .i64 h', .int .i64 mi', .int .i64 s'] 28) = w0 at *
  obtain ⟨q0, q1, q2, q3, q4, q5⟩ := cells6 t2
  have T3 := Lib.hid t3
  clear t2 t3
  go_wp2_with fail
  go_must (go_fit (M1.out _))
  rintro e w1 ⟨A1, c1, rfl, o1, hb1⟩
  have BE1 := Lib.hid (two_belowK BE0.out hb1 BE0.out.size)
  have r1 := o1.rd
  have t3 := stayK T3.out hb1
  clear hb1 o1 q0 q1 q2 q3 q4 q5 BE0 M1 T3
  obtain ⟨q0, q1, q2, q3, q4, q5⟩ := cells6 t3
  clear t3
  go_wp2_with fail
  go_must (go_fit (M2.out _))
  rintro e w2 ⟨A2, c2, rfl, o2, hb2⟩
  have BE2 := Lib.hid (two_belowK BE1.out hb2 BE1.out.size)
  have R1 := Lib.hid (r1.past hb2)
  have R2 := Lib.hid o2.rd
  clear hb2 o2 q0 q1 q2 q3 q4 q5 BE1 M2 r1
  rcases C1.out with ⟨rfl, rfl⟩ | ⟨rfl, rfl⟩
  · rcases C2.out with ⟨rfl, rfl⟩ | ⟨rfl, rfl⟩
    · have F' := Lib.hid (F.out.trans (if_pos ⟨rfl, rfl⟩))
      have G' := Lib.hid (G.out.trans (if_pos ⟨rfl, rfl⟩))
      clear F G C1 C2
      have ow := World.ownsRow_lit (base := w2.heap.size) (e := 29) (size := 1) w2 #[.slice A1 L1.length c1, .slice A2 L2.length c2] 2 (Nat.le_refl _) (by unfold maxLen; omega) (by simp)
      have PU := Lib.hid (put2 _ ow (R1.out.allocS _) (R2.out.allocS _) (by omega) (by omega))
      have BE3 := Lib.hid (BE2.out.alloc BE2.out.size (.cells #[.slice A1 L1.length c1, .slice A2 L2.length c2] 29))
      clear ow
      go_wp2_with fail
      go_must (go_fit PU.out)
      rintro e w3 ⟨A3, c3, rfl, o3, hb3⟩
      go_wp2
      go_ret2
      rw [F'.out, G'.out]
      exact ⟨A3, c3, rfl, o3.mono BE3.out.size, two_belowK BE3.out hb3 BE3.out.size⟩
    · have F' := Lib.hid (F.out.trans (if_neg (by simp)))
      have G' := Lib.hid (G.out.trans (if_neg (by simp)))
      clear F G C1 C2
      go_wp2
      go_ret2
      rw [F'.out, G'.out]
      exact ⟨none, 0, rfl, Own.none_ _ _, BE2.out⟩
  · have F' := Lib.hid (F.out.trans (if_neg (by simp)))
    have G' := Lib.hid (G.out.trans (if_neg (by simp)))
    clear F G C1 C2
    go_wp2
    go_ret2
    rw [F'.out, G'.out]
    exact ⟨none, 0, rfl, Own.none_ _ _, BE2.out⟩
end Go.Proofs.Ytnpmgofkfdpbjaa.Val
