/- The walk of ValidityPairs. -/
import Derived.Test.YtnpmgofkfdpbjaaQValK
set_option linter.unusedSimpArgs false
set_option linter.unusedVariables false
namespace Go.Proofs.Ytnpmgofkfdpbjaa
open Go.RowKit Kit Tlv Bas Val

theorem Val.pair_len (y m d h mi s y' m' d' h' mi' s' : Int) : (pairL y m d h mi s y' m' d' h' mi' s').length ≤ 100 := by
  unfold pairL
  split
  · have l1 := val_len (y := y) (m := m) (d := d) (h := h) (mi := mi) (s := s)
    have l2 := val_len (y := y') (m := m') (d := d') (h := h') (mi := mi') (s := s')
    rw [enc_len (seq_code (by rw [List.length_append]; omega))]
    have := len_bd ((valL y m d h mi s ++ valL y' m' d' h' mi' s').length : Int)
    rw [List.length_append] at this ⊢
    omega
  · simp
theorem Val.ppair_back {A : Option Addr} {n c B : Nat} {y m d h mi s y' m' d' h' mi' s' : Int} (hv : pairB y m d h mi s y' m' d' h' mi' s' = true) (w : World) (hr : Rd w B A n (pairL y m d h mi s y' m' d' h' mi' s')) (hB : B ≤ w.heap.size) (hc : n ≤ c) (hm : c ≤ maxLen) :
    Calls Try.prog 52 #[.slice A n c] w fun e w' => e = .returned (ppR y m d h mi s y' m' d' h' mi' s' 0 0) ∧ Below w.heap.size w w' := by
  have hl := hr.len
  have := pair_len y m d h mi s y' m' d' h' mi' s'
  rcases ppair_any w hr hB hc hm (by omega) with ⟨a, b, c, e, f, g, a', b', c', e', f', g', g1, g2, g3⟩ | ⟨hno, _⟩
  · obtain ⟨⟨rfl, rfl, rfl, rfl, rfl, rfl⟩, ⟨rfl, rfl, rfl, rfl, rfl, rfl⟩⟩ := pair_inj hv g1 g2
    exact g3
  · exact absurd rfl (hno _ _ _ _ _ _ _ _ _ _ _ _ hv)

set_option maxRecDepth 100000 in
set_option maxHeartbeats 4000000 in
theorem ValidityPairs.walk (y m d h mi s y' m' d' h' mi' s' : Int) (w : World) :
    Calls Try.prog 11 #[Clk.time y m d h mi s, Clk.time y' m' d' h' mi' s'] w fun e w' => e = .returned (.bool true) ∧ Below w.heap.size w w' := by
  have M1 := Lib.hid (fun X => marpair_any y m d h mi s y' m' d' h' mi' s' X)
  have M2 := Lib.hid (fun X => refmarpair_any y m d h mi s y' m' d' h' mi' s' X)
  have PP := Lib.hid (fun (A : Option Addr) (n c B : Nat) (hv : pairB y m d h mi s y' m' d' h' mi' s' = true) (X : World) (hr : Rd X B A n (pairL y m d h mi s y' m' d' h' mi' s')) hB hc hm => ppair_back (c := c) hv X hr hB hc hm)
  have HC := Lib.hid (show pairC y m d h mi s y' m' d' h' mi' s' = 0 ∧ pairB y m d h mi s y' m' d' h' mi' s' = true ∨ pairC y m d h mi s y' m' d' h' mi' s' = 8 from by unfold pairC; split <;> simp [*])
  generalize pairL y m d h mi s y' m' d' h' mi' s' = L at *
  generalize pairC y m d h mi s y' m' d' h' mi' s' = cd at *
  generalize pairB y m d h mi s y' m' d' h' mi' s' = vb at *
  have t2 : ((w.alloc (.cells #[.int .i64 y, .int .i64 m, .int .i64 d, .int .i64 h, .int .i64 mi, .int .i64 s] 28)).alloc (.cells #[.int .i64 y', .int .i64 m', .int .i64 d', .int .i64 h', .int .i64 mi', .int .i64 s'] 28)).heap[w.heap.size]? = _ := bk_old (bk_new rfl)
  have t3 : ((w.alloc (.cells #[.int .i64 y, .int .i64 m, .int .i64 d, .int .i64 h, .int .i64 mi, .int .i64 s] 28)).alloc (.cells #[.int .i64 y', .int .i64 m', .int .i64 d', .int .i64 h', .int .i64 mi', .int .i64 s'] 28)).heap[w.heap.size + 1]? = _ := bk_new (by simp)
  have BE := Lib.hid (show Below w.heap.size w ((w.alloc (.cells #[.int .i64 y, .int .i64 m, .int .i64 d, .int .i64 h, .int .i64 mi, .int .i64 s] 28)).alloc (.cells #[.int .i64 y', .int .i64 m', .int .i64 d', .int .i64 h', .int .i64 mi', .int .i64 s'] 28)) from (by repeat' (first | (with_reducible exact Below.refl _ _) | (with_reducible assumption) | (with_reducible refine below_drewN ?_ _) | (with_reducible refine Below.drew ?_) | (with_reducible refine Below.alloc ?_ ?_ _) | (with_reducible refine Below.setCell ?_ ?_ _) | go_size)))
  go_enter Try.func11, Try.ntmps11
  go_upto_region 1 with fail
  generalize ((w.alloc (.cells #[.int .i64 y, .int .i64 m, .int .i64 d, .int .i64 h, .int .i64 mi, .int .i64 s] 28)).alloc (.cells #[.int .i64 y', .int .i64 m', .int .i64 d', .int .i64 h', .int .i64 mi', .int .i64 s'] 28)) = w0 at *
  have T2 := Lib.hid t2
  have T3 := Lib.hid t3
  clear t2 t3
  go_wp2_with fail
  go_must (go_fit (awake24_any _))
  rintro e w1 ⟨rfl, hb1⟩
  have BE1 := Lib.hid (two_belowK BE.out hb1 BE.out.size)
  have T21 := Lib.hid (stayK T2.out hb1)
  have T31 := Lib.hid (stayK T3.out hb1)
  clear hb1 BE T2 T3
  obtain ⟨q0, q1, q2, q3, q4, q5⟩ := cells6 T21.out
  obtain ⟨u0, u1, u2, u3, u4, u5⟩ := cells6 T31.out
  go_wp2_with fail
  go_must (go_fit (M1.out _))
  rintro e w2 ⟨A1, c1, rfl, o1, hb2⟩
  have BE2 := Lib.hid (two_belowK BE1.out hb2 BE1.out.size)
  have T22 := Lib.hid (stayK T21.out hb2)
  have T32 := Lib.hid (stayK T31.out hb2)
  have hc1 := Lib.hid o1.cap
  have hm1 := Lib.hid o1.capMax
  have R1 := Lib.hid o1.rd
  clear hb2 o1 BE1 T21 T31 M1 q0 q1 q2 q3 q4 q5 u0 u1 u2 u3 u4 u5
  obtain ⟨q0, q1, q2, q3, q4, q5⟩ := cells6 T22.out
  obtain ⟨u0, u1, u2, u3, u4, u5⟩ := cells6 T32.out
  go_wp2_with fail
  go_must (go_fit (M2.out _))
  rintro e w3 ⟨A2, c2, rfl, o2, hb3⟩
  have BE3 := Lib.hid (two_belowK BE2.out hb3 BE2.out.size)
  have T23 := Lib.hid (stayK T22.out hb3)
  have T33 := Lib.hid (stayK T32.out hb3)
  have R13 := Lib.hid (R1.out.past hb3)
  have R23 := Lib.hid o2.rd
  clear hb3 o2 BE2 T22 T32 M2 R1 q0 q1 q2 q3 q4 q5 u0 u1 u2 u3 u4 u5
  have BY := Lib.hid (Cur.bytes_any A1 A2 L.length c1 L.length c2 _ _ w3 R13.out R23.out)
  rw [Cur.eqB_self] at BY
  go_wp2_with fail
  go_must (go_fit BY.out)
  rintro e w4 ⟨rfl, rfl⟩
  by_cases hcd : cd = 0
  · have hvb : vb = true := by rcases HC.out with ⟨_, h⟩ | h; exact h; omega
    subst hcd
    have PX := Lib.hid (PP.out A1 L.length c1 _ hvb w3 R13.out (Nat.le_refl _) hc1.out hm1.out)
    clear PP R13 R23 HC hvb BY
    go_wp2_with fail
    go_must (go_fit PX.out)
    rintro e w5 ⟨rfl, hb5⟩
    have BE5 := Lib.hid (two_belowK BE3.out hb5 BE3.out.size)
    have k2 := bk_old (o' := (.cells #[.int .i64 0, .int .i64 0] 36)) (bk_old (o' := (.cells #[.int .i64 y', .int .i64 m', .int .i64 d', .int .i64 h', .int .i64 mi', .int .i64 s'] 28)) (bk_old (o' := (.cells #[.int .i64 y, .int .i64 m, .int .i64 d, .int .i64 h, .int .i64 mi, .int .i64 s] 28)) (stayK T23.out hb5)))
    have k3 := bk_old (o' := (.cells #[.int .i64 0, .int .i64 0] 36)) (bk_old (o' := (.cells #[.int .i64 y', .int .i64 m', .int .i64 d', .int .i64 h', .int .i64 mi', .int .i64 s'] 28)) (bk_old (o' := (.cells #[.int .i64 y, .int .i64 m, .int .i64 d, .int .i64 h, .int .i64 mi, .int .i64 s] 28)) (stayK T33.out hb5)))
    have k9 : (((w5.alloc (.cells #[.int .i64 y, .int .i64 m, .int .i64 d, .int .i64 h, .int .i64 mi, .int .i64 s] 28)).alloc (.cells #[.int .i64 y', .int .i64 m', .int .i64 d', .int .i64 h', .int .i64 mi', .int .i64 s'] 28)).alloc (.cells #[.int .i64 0, .int .i64 0] 36)).heap[w5.heap.size]? = _ := bk_old (bk_old (bk_new rfl))
    have k10 : (((w5.alloc (.cells #[.int .i64 y, .int .i64 m, .int .i64 d, .int .i64 h, .int .i64 mi, .int .i64 s] 28)).alloc (.cells #[.int .i64 y', .int .i64 m', .int .i64 d', .int .i64 h', .int .i64 mi', .int .i64 s'] 28)).alloc (.cells #[.int .i64 0, .int .i64 0] 36)).heap[w5.heap.size + 1]? = _ := bk_old (bk_new (by simp))
    have k11 : (((w5.alloc (.cells #[.int .i64 y, .int .i64 m, .int .i64 d, .int .i64 h, .int .i64 mi, .int .i64 s] 28)).alloc (.cells #[.int .i64 y', .int .i64 m', .int .i64 d', .int .i64 h', .int .i64 mi', .int .i64 s'] 28)).alloc (.cells #[.int .i64 0, .int .i64 0] 36)).heap[w5.heap.size + 1 + 1]? = _ := bk_new (by simp)
    have bel := BE5.out
    have zz5 := BE5.out.size
    have bel2 : Below w.heap.size w (((w5.alloc (.cells #[.int .i64 y, .int .i64 m, .int .i64 d, .int .i64 h, .int .i64 mi, .int .i64 s] 28)).alloc (.cells #[.int .i64 y', .int .i64 m', .int .i64 d', .int .i64 h', .int .i64 mi', .int .i64 s'] 28)).alloc (.cells #[.int .i64 0, .int .i64 0] 36)) := (by repeat' (first | (with_reducible exact Below.refl _ _) | (with_reducible assumption) | (with_reducible refine below_drewN ?_ _) | (with_reducible refine Below.drew ?_) | (with_reducible refine Below.alloc ?_ ?_ _) | (with_reducible refine Below.setCell ?_ ?_ _) | go_size))
    clear hb5 PX BE3 T23 T33 BE5 bel zz5
    go_upto_region 8 with fail
    generalize w5.heap.size = b9 at *
    generalize (((w5.alloc (.cells #[.int .i64 y, .int .i64 m, .int .i64 d, .int .i64 h, .int .i64 mi, .int .i64 s] 28)).alloc (.cells #[.int .i64 y', .int .i64 m', .int .i64 d', .int .i64 h', .int .i64 mi', .int .i64 s'] 28)).alloc (.cells #[.int .i64 0, .int .i64 0] 36)) = w6 at *
    clear w5
    obtain ⟨q0, q1, q2, q3, q4, q5⟩ := cells6 k2
    obtain ⟨u0, u1, u2, u3, u4, u5⟩ := cells6 k3
    obtain ⟨x0, x1, x2, x3, x4, x5⟩ := cells6 k9
    obtain ⟨y0, y1, y2, y3, y4, y5⟩ := cells6 k10
    obtain ⟨z0, z1⟩ := cells2 k11
    clear k2 k3 k9 k10 k11
    go_wp2
    go_ret
    exact ⟨by first | rfl | exact ret_bool (by simp), bel2⟩
  · have hne : ¬ cd = 0 := hcd
    go_wp2_with fail
    go_must (go_fit BY.out)
    rintro e w4 ⟨rfl, rfl⟩
    go_wp2
    go_ret
    exact ⟨by first | rfl | exact ret_bool (by simp [*]), BE3.out⟩
end Go.Proofs.Ytnpmgofkfdpbjaa
