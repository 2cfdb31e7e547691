/- The walk of BasicSkipParses. Printed by gen_basx.py. -/
import Derived.Test.YtnpmgofkfdpbjaaQBasZ
import Derived.Test.YtnpmgofkfdpbjaaKS
import Derived.Test.YtnpmgofkfdpbjaaQBasQ
set_option linter.unusedSimpArgs false
set_option linter.unusedVariables false
namespace Go.Proofs.Ytnpmgofkfdpbjaa
open Go.RowKit Kit Tlv Bas

set_option maxHeartbeats 1000000 in
theorem Bas.same4_any (ca : Bool) (p : Int) (hp : Bool) (q : Int) (w : World) : Calls Try.prog 66 #[.agg #[.bool ca, .int .i64 p, .bool hp, .int .i64 q], .agg #[.bool ca, .int .i64 p, .bool hp, .int .i64 q]] w fun e w' => e = .returned (.bool true) ∧ Below w.heap.size w w' := by
  go_enter Try.func66, Try.ntmps66
  go_wp2
  go_ret
  exact ⟨by first | rfl | exact ret_bool (by simp), (by repeat' (first | (with_reducible exact Below.refl _ _) | (with_reducible assumption) | (with_reducible refine below_drewN ?_ _) | (with_reducible refine Below.drew ?_) | (with_reducible refine Below.alloc ?_ ?_ _) | (with_reducible refine Below.setCell ?_ ?_ _) | go_size))⟩

set_option maxRecDepth 100000 in
set_option maxHeartbeats 4000000 in
theorem BasicSkipParses.walk (A : Option Addr) (n c : Nat) (l : List UInt8) (W : World) (hr : Rd W W.heap.size A n l) (hc : n ≤ c) (hm : c ≤ maxLen) :
    Calls Try.prog 14 #[.slice A n c] W fun e w' => e = .returned (.bool true) ∧ Below W.heap.size W w' := by
  have hl := hr.len
  have HR := Lib.hid hr
  clear hr
  by_cases hn : 3000 < n
  · have hn' : (3000 : Int) < (n : Int) := by omega
    go_enter Try.func14, Try.ntmps14
    go_wp2_with fail
    go_must (go_fit (awake16_any _))
    rintro e w1 ⟨rfl, hb1⟩
    go_wp2_with fail
    go_must (go_fit (awake16_any _))
    rintro e w2 ⟨rfl, hb2⟩
    go_wp2
    go_ret
    exact ⟨rfl, two_belowK hb1 hb2 hb1.size⟩
  have hn' : ¬ (3000 : Int) < (n : Int) := by omega
  have PA := Lib.hid (fun (X : World) (hb : Below W.heap.size W X) => skparse_any X (HR.out.below hb) hb.size hc hm (by omega))
  have PB := Lib.hid (fun (X : World) (hb : Below W.heap.size W X) => refsparse_any (c := c) X (HR.out.below hb) hb.size hc hm (by omega))
  go_enter Try.func14, Try.ntmps14
  go_wp2_with fail
  go_must (go_fit (awake16_any _))
  rintro e w1 ⟨rfl, hb1⟩
  obtain ⟨ca, p, hp, q, k, o, PP, hno⟩ : ∃ ca p hp q k o, Hid (Calls Try.prog 65 #[.slice A n c] w1 fun e w' => e = .returned (spR ca p hp q k o) ∧ Below w1.heap.size w1 w') ∧
      ((k = 0 ∧ o = 0 ∧ skiB ca p hp q = true ∧ l = skiL ca p hp q) ∨ (¬ k = 0 ∧ 0 < k ∧ 0 ≤ o ∧ o ≤ (n : Int) ∧ (ca = false ∧ p = 0 ∧ hp = false ∧ q = 0) ∧ ∀ ca p hp q, skiB ca p hp q = true → l ≠ skiL ca p hp q)) := by
    rcases PA.out w1 hb1 with ⟨ca, p, hp, q, h1, h2, h3⟩ | ⟨h1, k, o, h2, h3, h4, h5⟩
    · exact ⟨ca, p, hp, q, 0, 0, Lib.hid h3, .inl ⟨rfl, rfl, h1, h2⟩⟩
    · exact ⟨false, 0, false, 0, k, o, Lib.hid h5, .inr ⟨by omega, h2, h3, by omega, ⟨rfl, rfl, rfl, rfl⟩, h1⟩⟩
  have HNO := Lib.hid hno
  have BE1 := Lib.hid hb1
  clear hno PA hb1
  go_upto_region 4 with (first | (go_at_call 65; go_must (go_fit PP.out); rintro e w2 ⟨rfl, hb2⟩))
  have t3 : ((w2.alloc (.cells #[.bool ca, .int .i64 p, .bool hp, .int .i64 q] 71)).alloc (.cells #[.int .i64 k, .int .i64 o] 36)).heap[w2.heap.size]? = _ := bk_old (bk_new rfl)
  have t4 : ((w2.alloc (.cells #[.bool ca, .int .i64 p, .bool hp, .int .i64 q] 71)).alloc (.cells #[.int .i64 k, .int .i64 o] 36)).heap[w2.heap.size + 1]? = _ := bk_new (by simp)
  have b2 := two_belowK BE1.out hb2 BE1.out.size
  have BE2 := Lib.hid ((b2.alloc b2.size (.cells #[.bool ca, .int .i64 p, .bool hp, .int .i64 q] 71)).alloc (by have := b2.size; simp; omega) (.cells #[.int .i64 k, .int .i64 o] 36))
  clear hb2 PP BE1 b2
  generalize w2.heap.size + 1 = b4 at *
  generalize w2.heap.size = b3 at *
  generalize ((w2.alloc (.cells #[.bool ca, .int .i64 p, .bool hp, .int .i64 q] 71)).alloc (.cells #[.int .i64 k, .int .i64 o] 36)) = w3 at *
  clear w2
  have T3 := Lib.hid t3
  have T4 := Lib.hid t4
  have QQ := Lib.hid (PB.out w3 BE2.out)
  clear PB t3 t4
  go_upto_region 5 with (first | (go_at_call 67; go_must (go_fit QQ.out); rintro e w4 ⟨ca', p', hp', q', b, rfl, q1, q2, hb4⟩))
  have hm' : (ca' = ca ∧ p' = p ∧ hp' = hp ∧ q' = q) ∧ (b = true ↔ k = 0) := by
    rcases HNO.out with ⟨h1, h2, h3, h4⟩ | ⟨h1, h2, h3, h4, h5, h6⟩
    · cases b with
      | true => exact ⟨ski_inj2 (q1 rfl).1 h3 ((q1 rfl).2.symm.trans h4), by simp [h1]⟩
      | false => exact absurd h4 ((q2 rfl).2 _ _ _ _ h3)
    · cases b with
      | true => exact absurd (q1 rfl).2 (h6 _ _ _ _ (q1 rfl).1)
      | false =>
        obtain ⟨a0, a1, a2, a3⟩ := (q2 rfl).1
        obtain ⟨c0, c1, c2, c3⟩ := h5
        exact ⟨⟨a0.trans c0.symm, a1.trans c1.symm, a2.trans c2.symm, a3.trans c3.symm⟩, by simp [h1]⟩
  obtain ⟨⟨rfl, rfl, rfl, rfl⟩, hbk⟩ := hm'
  clear q1 q2
  have HB : b = decide (k = 0) := by
    cases b with
    | true => simp [hbk.1 rfl]
    | false => simp; exact fun h => absurd (hbk.2 h) (by simp)
  clear hbk
  subst HB
  have WI : Hid (∀ (X : World), Calls Try.prog 37 #[.agg #[.int .i64 k, .int .i64 o], .int .i64 (n : Int)] X fun e w' => e = .returned (.bool true) ∧ Below X.heap.size X w') := Lib.hid (by
    intro X
    rcases HNO.out with ⟨h1, h2, -⟩ | ⟨-, h2, h3, h4, -⟩
    · subst h1 h2; exact within_ok _ X
    · exact within_err k o n X h2 h3 h4)
  have OK : Hid (k = 0 → skiB ca' p' hp' q' = true ∧ skiL ca' p' hp' q' = l ∧ skiC ca' p' hp' q' = 0) := Lib.hid (by
    intro hk
    rcases HNO.out with ⟨h1, h2, h3, h4⟩ | ⟨h1, -⟩
    · exact ⟨h3, h4.symm, (ski_yes h3).1⟩
    · exact absurd hk h1)
  clear HNO
  have SA := Lib.hid (fun X => same4_any ca' p' hp' q' X)
  have MB := Lib.hid (fun X => mars_any ca' p' hp' q' X)
  have VB := Lib.hid (fun X => valids_any ca' p' hp' q' X)
  have t5 : (w4.alloc (.cells #[.bool ca', .int .i64 p', .bool hp', .int .i64 q'] 71)).heap[w4.heap.size]? = _ := bk_new rfl
  have b5 := two_belowK BE2.out hb4 BE2.out.size
  have BE4 := Lib.hid (b5.alloc b5.size (.cells #[.bool ca', .int .i64 p', .bool hp', .int .i64 q'] 71))
  have T34 := Lib.hid (bk_old (o' := (.cells #[.bool ca', .int .i64 p', .bool hp', .int .i64 q'] 71)) (stayK T3.out hb4))
  have T44 := Lib.hid (bk_old (o' := (.cells #[.bool ca', .int .i64 p', .bool hp', .int .i64 q'] 71)) (stayK T4.out hb4))
  clear hb4 QQ BE2 T3 T4 b5
  generalize w4.heap.size = b5 at *
  generalize w4.alloc (.cells #[.bool ca', .int .i64 p', .bool hp', .int .i64 q'] 71) = w5 at *
  clear w4
  have T55 := Lib.hid t5
  clear t5
  obtain ⟨x0, x1, x2, x3⟩ := cells4 T34.out
  obtain ⟨y0, y1, y2, y3⟩ := cells4 T55.out
  obtain ⟨z0, z1⟩ := cells2 T44.out
  by_cases hk : k = 0
  · subst hk
    go_wp2_with fail
    go_must (go_fit (SA.out _))
    rintro e w6 ⟨rfl, hb6⟩
    have BE6 := Lib.hid (two_belowK BE4.out hb6 BE4.out.size)
    have T36 := Lib.hid (stayK T34.out hb6)
    have T46 := Lib.hid (stayK T44.out hb6)
    have T56 := Lib.hid (stayK T55.out hb6)
    clear hb6 x0 x1 x2 x3 y0 y1 y2 y3 z0 z1
    obtain ⟨x0, x1, x2, x3⟩ := cells4 T36.out
    obtain ⟨y0, y1, y2, y3⟩ := cells4 T56.out
    obtain ⟨z0, z1⟩ := cells2 T46.out
    go_wp2_with fail
    go_must (go_fit (WI.out _))
    rintro e w7 ⟨rfl, hb7⟩
    have BE7 := Lib.hid (two_belowK BE6.out hb7 BE6.out.size)
    have T34a := Lib.hid (stayK T36.out hb7)
    have T44a := Lib.hid (stayK T46.out hb7)
    have T55a := Lib.hid (stayK T56.out hb7)
    clear hb7 x0 x1 x2 x3 y0 y1 y2 y3 z0 z1
    obtain ⟨x0, x1, x2, x3⟩ := cells4 T34a.out
    obtain ⟨y0, y1, y2, y3⟩ := cells4 T55a.out
    obtain ⟨z0, z1⟩ := cells2 T44a.out
    obtain ⟨k1, k2, k3⟩ := OK.out (by simp)
    rw [k1] at VB
    rw [k2, k3] at MB
    clear k1 k2 k3 OK
    go_wp2_with fail
    go_must (go_fit (MB.out _))
    rintro e w8 ⟨A8, c8, rfl, o8, hb8⟩
    have BE8 := Lib.hid (two_belowK BE7.out hb8 BE7.out.size)
    have R8 := Lib.hid o8.rd
    have T38 := Lib.hid (stayK T34a.out hb8)
    clear hb8 o8 x0 x1 x2 x3 y0 y1 y2 y3 z0 z1
    obtain ⟨x0, x1, x2, x3⟩ := cells4 T38.out
    go_wp2_with fail
    go_must (go_fit (VB.out _))
    rintro e w9 ⟨rfl, hb9⟩
    have BE9 := Lib.hid (two_belowK BE8.out hb9 BE8.out.size)
    have R9 := Lib.hid (R8.out.past hb9)
    have RB := Lib.hid (HR.out.below BE9.out)
    clear hb9 x0 x1 x2 x3
    have BY := Lib.hid (Cur.bytes_any A8 A n c8 n c _ _ w9 (R9.out.cast (m := n) (by first | exact hl | rfl) rfl) RB.out)
    rw [Cur.eqB_self] at BY
    go_wp2_with fail
    go_must (go_fit BY.out)
    rintro e w10 ⟨rfl, rfl⟩
    go_wp2
    go_ret
    exact ⟨by first | rfl | exact ret_bool (by simp), BE9.out⟩
  · have hkd : decide (k = 0) = false := by simp [hk]
    have hkb : (k == 0) = false := beq_eq_false_iff_ne.2 hk
    go_wp2_with fail
    go_must (go_fit (SA.out _))
    rintro e w6 ⟨rfl, hb6⟩
    have BE6 := Lib.hid (two_belowK BE4.out hb6 BE4.out.size)
    have T36 := Lib.hid (stayK T34.out hb6)
    have T46 := Lib.hid (stayK T44.out hb6)
    have T56 := Lib.hid (stayK T55.out hb6)
    clear hb6 x0 x1 x2 x3 y0 y1 y2 y3 z0 z1
    obtain ⟨x0, x1, x2, x3⟩ := cells4 T36.out
    obtain ⟨y0, y1, y2, y3⟩ := cells4 T56.out
    obtain ⟨z0, z1⟩ := cells2 T46.out
    go_wp2_with fail
    go_must (go_fit (WI.out _))
    rintro e w7 ⟨rfl, hb7⟩
    have BE7 := Lib.hid (two_belowK BE6.out hb7 BE6.out.size)
    have T34a := Lib.hid (stayK T36.out hb7)
    have T44a := Lib.hid (stayK T46.out hb7)
    have T55a := Lib.hid (stayK T56.out hb7)
    clear hb7 x0 x1 x2 x3 y0 y1 y2 y3 z0 z1
    obtain ⟨x0, x1, x2, x3⟩ := cells4 T34a.out
    obtain ⟨y0, y1, y2, y3⟩ := cells4 T55a.out
    obtain ⟨z0, z1⟩ := cells2 T44a.out
    have T34b := T34a
    have T44b := T44a
    have T55b := T55a
    have BE4b := BE7
    go_wp2_with fail
    go_must (go_fit (SA.out _))
    rintro e w8 ⟨rfl, hb6⟩
    have BE8 := Lib.hid (two_belowK BE4b.out hb6 BE4b.out.size)
    have T38 := Lib.hid (stayK T34b.out hb6)
    have T48 := Lib.hid (stayK T44b.out hb6)
    have T58 := Lib.hid (stayK T55b.out hb6)
    clear hb6 x0 x1 x2 x3 y0 y1 y2 y3 z0 z1
    obtain ⟨x0, x1, x2, x3⟩ := cells4 T38.out
    obtain ⟨y0, y1, y2, y3⟩ := cells4 T58.out
    obtain ⟨z0, z1⟩ := cells2 T48.out
    go_wp2_with fail
    go_must (go_fit (WI.out _))
    rintro e w9 ⟨rfl, hb7⟩
    have BE9 := Lib.hid (two_belowK BE8.out hb7 BE8.out.size)
    have T39 := Lib.hid (stayK T38.out hb7)
    have T49 := Lib.hid (stayK T48.out hb7)
    have T59 := Lib.hid (stayK T58.out hb7)
    clear hb7 x0 x1 x2 x3 y0 y1 y2 y3 z0 z1
    obtain ⟨x0, x1, x2, x3⟩ := cells4 T39.out
    obtain ⟨y0, y1, y2, y3⟩ := cells4 T59.out
    obtain ⟨z0, z1⟩ := cells2 T49.out
    go_wp2
    go_ret
    exact ⟨by first | rfl | exact ret_bool (by simp), BE9.out⟩
end Go.Proofs.Ytnpmgofkfdpbjaa
