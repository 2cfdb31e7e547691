/- The walk of BasicIntegers. Printed by gen_basv.py. -/
import Derived.Test.YtnpmgofkfdpbjaaQBasU
import Derived.Test.YtnpmgofkfdpbjaaKS
set_option linter.unusedSimpArgs false
set_option linter.unusedVariables false
namespace Go.Proofs.Ytnpmgofkfdpbjaa
open Go.RowKit Kit Tlv Bas

set_option maxRecDepth 100000 in
set_option maxHeartbeats 8000000 in
theorem BasicIntegers.walk (A : Option Addr) (n c : Nat) (l : List UInt8) (W : World) (hr : Rd W W.heap.size A n l) (hc : n ≤ c) (hm : c ≤ maxLen) :
    Calls Try.prog 18 #[.slice A n c] W fun e w' => e = .returned (.bool true) ∧ Below W.heap.size W w' := by
  have hl := hr.len
  have HR := Lib.hid hr
  clear hr
  by_cases hn : 2000 < n
  · have hn' : (2000 : Int) < (n : Int) := by omega
    go_enter Try.func18, Try.ntmps18
    go_wp2_with fail
    go_must (go_fit (awake16_any _))
    rintro e w1 ⟨rfl, hb1⟩
    go_wp2_with fail
    go_must (go_fit (awake16_any _))
    rintro e w2 ⟨rfl, hb2⟩
    go_wp2
    go_ret
    exact ⟨rfl, two_belowK hb1 hb2 hb1.size⟩
  have hn' : ¬ (2000 : Int) < (n : Int) := by omega
  have PA := Lib.hid (fun (X : World) (hb : Below W.heap.size W X) => parcount_any X (HR.out.below hb) hb.size hc hm (by omega))
  have PB := Lib.hid (fun (X : World) (hb : Below W.heap.size W X) => refparcount_any (c := c) X (HR.out.below hb) hb.size hc hm (by omega))
  have NA := Lib.hid (fun (X : World) (hb : Below W.heap.size W X) => parnum_any X (HR.out.below hb) hb.size hc hm (by omega))
  have NB := Lib.hid (fun (X : World) (hb : Below W.heap.size W X) => refparnum_any (c := c) X (HR.out.below hb) hb.size hc hm (by omega))
  go_enter Try.func18, Try.ntmps18
  go_wp2_with fail
  go_must (go_fit (awake16_any _))
  rintro e w1 ⟨rfl, hb1⟩
  obtain ⟨v, k, o, PP, hno⟩ : ∃ v k o, Hid (Calls Try.prog 74 #[.slice A n c] w1 fun e w' => e = .returned (.tuple #[.int .i64 v, err k o]) ∧ Below w1.heap.size w1 w') ∧
      ((k = 0 ∧ o = 0 ∧ cntB v = true ∧ l = cntL v) ∨ (¬ k = 0 ∧ 0 < k ∧ 0 ≤ o ∧ o ≤ (n : Int) ∧ v = 0 ∧ ∀ v, cntB v = true → l ≠ cntL v)) := by
    rcases PA.out w1 hb1 with ⟨v, h1, h2, h3⟩ | ⟨h1, k, o, h2, h3, h4, h5⟩
    · exact ⟨v, 0, 0, Lib.hid h3, .inl ⟨rfl, rfl, h1, h2⟩⟩
    · exact ⟨0, k, o, Lib.hid h5, .inr ⟨by omega, h2, h3, by omega, rfl, h1⟩⟩
  have HNO := Lib.hid hno
  have BE1 := Lib.hid hb1
  clear hno PA hb1
  go_upto_region 4 with (first | (go_at_call 74; go_must (go_fit PP.out); rintro e w2 ⟨rfl, hb2⟩))
  have t2 : (w2.alloc (.cells #[.int .i64 k, .int .i64 o] 36)).heap[w2.heap.size]? = _ := bk_new rfl
  have b2 := two_belowK BE1.out hb2 BE1.out.size
  have BE2 := Lib.hid (b2.alloc b2.size (.cells #[.int .i64 k, .int .i64 o] 36))
  clear hb2 PP BE1 b2
  generalize w2.heap.size = b4 at *
  generalize w2.alloc (.cells #[.int .i64 k, .int .i64 o] 36) = w3 at *
  clear w2
  have T3 := Lib.hid t2
  have QQ := Lib.hid (PB.out w3 BE2.out)
  clear PB t2
  go_wp2_with fail
  go_must (go_fit QQ.out)
  rintro e w4 ⟨u, b, rfl, q1, q2, hb4⟩
  have BE4 := Lib.hid (two_belowK BE2.out hb4 BE2.out.size)
  have T4 := Lib.hid (stayK T3.out hb4)
  clear hb4 QQ BE2 T3
  have hm' : u = v ∧ (b = true ↔ k = 0) := by
    rcases HNO.out with ⟨h1, h2, h3, h4⟩ | ⟨h1, h2, h3, h4, h5, h6⟩
    · cases b with
      | true =>
        have e := (q1 rfl).2.symm.trans h4
        rw [(cnt_yes (q1 rfl).1).2, (cnt_yes h3).2] at e
        exact ⟨(nm_inj (by omega) (by omega) (by omega) (by omega) (q1 rfl).1 h3 e).2.2, by simp [h1]⟩
      | false => exact absurd h4 ((q2 rfl).2 v h3)
    · cases b with
      | true => exact absurd (q1 rfl).2 (h6 _ (q1 rfl).1)
      | false => exact ⟨(q2 rfl).1.trans h5.symm, by simp [h1]⟩
  obtain ⟨rfl, hbk⟩ := hm'
  clear q1 q2
  have HB : b = decide (k = 0) := by
    cases b with
    | true => simp [hbk.1 rfl]
    | false => simp; exact fun h => absurd (hbk.2 h) (by simp)
  clear hbk
  subst HB
  have WI : Hid (∀ (X : World), Calls Try.prog 37 #[.agg #[.int .i64 k, .int .i64 o], .int .i64 (n : Int)] X fun e w' => e = .returned (.bool true) ∧ Below X.heap.size X w') := Lib.hid (by
    intro X
    rcases HNO.out with ⟨h1, h2, -⟩ | ⟨-, h2, h3, h4, -⟩
    · subst h1 h2; exact within_ok _ X
    · exact within_err k o n X h2 h3 h4)
  have MC : Hid (∀ X : World, ∃ L cd, (k = 0 → L = l ∧ cd = 0) ∧ Calls Try.prog 68 #[.int .i64 u] X (Ent.MarP X L cd)) := Lib.hid (by
    intro X
    refine ⟨_, _, ?_, marcount_any u X⟩
    intro hk
    rcases HNO.out with ⟨h1, h2, h3, h4⟩ | ⟨h1, -⟩
    · exact ⟨h4.symm, (cnt_yes h3).1⟩
    · exact absurd hk h1)
  clear HNO
  obtain ⟨q, k2, o2, PP, hno⟩ : ∃ q k2 o2, Hid (Calls Try.prog 75 #[.slice A n c] w4 fun e w' => ∃ A' c', e = .returned (.tuple #[.slice A' q.length c', err k2 o2]) ∧ Own w' w4.heap.size A' q.length c' q ∧ Below w4.heap.size w4 w') ∧
      ((k2 = 0 ∧ o2 = 0 ∧ numB q = true ∧ l = numL q) ∨ (¬ k2 = 0 ∧ 0 < k2 ∧ 0 ≤ o2 ∧ o2 ≤ (n : Int) ∧ q = [] ∧ ∀ v, numB v = true → l ≠ numL v)) := by
    rcases NA.out w4 BE4.out with ⟨q, h1, h2, h3⟩ | ⟨h1, k, o, h2, h3, h4, h5⟩
    · exact ⟨q, 0, 0, Lib.hid h3, .inl ⟨rfl, rfl, h1, h2⟩⟩
    · exact ⟨[], k, o, Lib.hid h5, .inr ⟨by omega, h2, h3, by omega, rfl, h1⟩⟩
  have HNO := Lib.hid hno
  clear hno NA
  go_upto_region 6 with (first | (go_at_call 75; go_must (go_fit PP.out); rintro e w5 ⟨A5, c5, rfl, o5, hb5⟩))
  have t5 : (w5.alloc (.cells #[.int .i64 k2, .int .i64 o2] 36)).heap[w5.heap.size]? = _ := bk_new rfl
  have b5 := two_belowK BE4.out hb5 BE4.out.size
  have BE5 := Lib.hid (b5.alloc b5.size (.cells #[.int .i64 k2, .int .i64 o2] 36))
  have R5 := Lib.hid (o5.rd.allocS (.cells #[.int .i64 k2, .int .i64 o2] 36))
  have T45 := Lib.hid (bk_old (o' := (.cells #[.int .i64 k2, .int .i64 o2] 36)) (stayK T4.out hb5))
  clear hb5 PP BE4 b5 o5 T4
  generalize w5.heap.size = b8 at *
  generalize w5.alloc (.cells #[.int .i64 k2, .int .i64 o2] 36) = w6 at *
  clear w5
  have T6 := Lib.hid t5
  have QQ := Lib.hid (NB.out w6 BE5.out)
  clear NB t5
  go_wp2_with fail
  go_must (go_fit QQ.out)
  rintro e w7 ⟨A7, c7, q7, b, rfl, r7, q1, q2, hb7⟩
  have BE7 := Lib.hid (two_belowK BE5.out hb7 BE5.out.size)
  have T47 := Lib.hid (stayK T45.out hb7)
  have T67 := Lib.hid (stayK T6.out hb7)
  have R57 := Lib.hid (R5.out.past hb7)
  have R7 := Lib.hid r7
  clear hb7 QQ BE5 T45 T6 R5 r7
  have hm' : q7 = q ∧ (b = true ↔ k2 = 0) := by
    rcases HNO.out with ⟨h1, h2, h3, h4⟩ | ⟨h1, h2, h3, h4, h5, h6⟩
    · cases b with
      | true =>
        have e := (q1 rfl).2.symm.trans h4
        rw [(num_yes (q1 rfl).1).2, (num_yes h3).2] at e
        exact ⟨((Val.enc_inj (num_code h3).1 (num_code (q1 rfl).1).1 e).2.2.2).symm, by simp [h1]⟩
      | false => exact absurd h4 ((q2 rfl).2 q h3)
    · cases b with
      | true => exact absurd (q1 rfl).2 (h6 _ (q1 rfl).1)
      | false => exact ⟨(q2 rfl).1.trans h5.symm, by simp [h1]⟩
  obtain ⟨rfl, hbk⟩ := hm'
  clear q1 q2
  have HB : b = decide (k2 = 0) := by
    cases b with
    | true => simp [hbk.1 rfl]
    | false => simp; exact fun h => absurd (hbk.2 h) (by simp)
  clear hbk
  subst HB
  have WJ : Hid (∀ (X : World), Calls Try.prog 37 #[.agg #[.int .i64 k2, .int .i64 o2], .int .i64 (n : Int)] X fun e w' => e = .returned (.bool true) ∧ Below X.heap.size X w') := Lib.hid (by
    intro X
    rcases HNO.out with ⟨h1, h2, -⟩ | ⟨-, h2, h3, h4, -⟩
    · subst h1 h2; exact within_ok _ X
    · exact within_err k2 o2 n X h2 h3 h4)
  have MN : Hid (∀ X : World, Rd X X.heap.size A5 q7.length q7 → ∃ L cd, (k2 = 0 → L = l ∧ cd = 0) ∧ Calls Try.prog 70 #[.slice A5 q7.length c5] X (Ent.MarP X L cd)) := Lib.hid (by
    intro X hX
    refine ⟨_, _, ?_, marnum_any X hX (Nat.le_refl _)⟩
    intro hk
    rcases HNO.out with ⟨h1, h2, h3, h4⟩ | ⟨h1, -⟩
    · exact ⟨h4.symm, (num_yes h3).1⟩
    · exact absurd hk h1)
  clear HNO
  have BY := Lib.hid (Cur.bytes_any A5 A7 q7.length c5 q7.length c7 _ _ w7 R57.out R7.out)
  rw [Cur.eqB_self] at BY
  obtain ⟨x0, x1⟩ := cells2 T47.out
  obtain ⟨y0, y1⟩ := cells2 T67.out
  clear R7
  by_cases hk : k = 0
  · subst hk
    by_cases hk2 : k2 = 0
    · subst hk2
      go_wp2_with fail
      go_must (go_fit BY.out)
      rintro e w8 ⟨rfl, rfl⟩
      go_wp2_with fail
      go_must (go_fit (WI.out _))
      rintro e w8 ⟨rfl, hb8⟩
      have BE8 := Lib.hid (two_belowK BE7.out hb8 BE7.out.size)
      have R58 := Lib.hid (R57.out.past hb8)
      clear y0 y1
      obtain ⟨y0, y1⟩ := cells2 (stayK T67.out hb8)
      clear hb8 BE7 R57 x0 x1
      go_wp2_with fail
      go_must (go_fit (WJ.out _))
      rintro e w9 ⟨rfl, hb9⟩
      have BE9 := Lib.hid (two_belowK BE8.out hb9 BE8.out.size)
      have R59 := Lib.hid (R58.out.past hb9)
      clear hb9 BE8 R58 y0 y1 T47 T67
      obtain ⟨L1, d1, hL1, M1⟩ := MC.out w9
      have M1 := Lib.hid M1
      have HL1 := Lib.hid hL1
      clear hL1
      go_wp2_with fail
      go_must (go_fit M1.out)
      rintro e w10 ⟨A10, c10, rfl, o10, hb10⟩
      have BE10 := Lib.hid (two_belowK BE9.out hb10 BE9.out.size)
      have R510 := Lib.hid (R59.out.past hb10)
      have R10 := Lib.hid o10.rd
      clear hb10 BE9 R59 o10 M1
      obtain ⟨L2, d2, hL2, M2⟩ := MN.out w10 R510.out
      have M2 := Lib.hid M2
      have HL2 := Lib.hid hL2
      clear hL2
      go_wp2_with fail
      go_must (go_fit M2.out)
      rintro e w11 ⟨A11, c11, rfl, o11, hb11⟩
      have BE11 := Lib.hid (two_belowK BE10.out hb11 BE10.out.size)
      have R1011 := Lib.hid (R10.out.past hb11)
      have R11 := Lib.hid o11.rd
      clear hb11 BE10 R10 R510 o11 M2
      have RB := Lib.hid (HR.out.below BE11.out)
      obtain ⟨rfl, rfl⟩ := HL1.out (by simp)
      have BY1 := Lib.hid (Cur.bytes_any A10 A n c10 n c _ _ w11 (R1011.out.cast (m := n) (by first | exact hl | rfl) rfl) RB.out)
      rw [Cur.eqB_self] at BY1
      obtain ⟨e2, rfl⟩ := HL2.out (by simp)
      subst e2
      have BY2 := Lib.hid (Cur.bytes_any A11 A n c11 n c _ _ w11 (R11.out.cast (m := n) (by first | exact hl | rfl) rfl) RB.out)
      rw [Cur.eqB_self] at BY2
      go_wp2_with fail
      go_must (go_fit BY1.out)
      rintro e w12 ⟨rfl, rfl⟩
      go_wp2_with fail
      go_must (go_fit BY2.out)
      rintro e w12 ⟨rfl, rfl⟩
      go_wp2
      go_ret
      exact ⟨by first | rfl | exact ret_bool (by simp), BE11.out⟩
    · have hkd2 : decide (k2 = 0) = false := by simp [hk2]
      go_wp2_with fail
      go_must (go_fit BY.out)
      rintro e w8 ⟨rfl, rfl⟩
      go_wp2_with fail
      go_must (go_fit (WI.out _))
      rintro e w8 ⟨rfl, hb8⟩
      have BE8 := Lib.hid (two_belowK BE7.out hb8 BE7.out.size)
      have R58 := Lib.hid (R57.out.past hb8)
      clear y0 y1
      obtain ⟨y0, y1⟩ := cells2 (stayK T67.out hb8)
      clear hb8 BE7 R57 x0 x1
      go_wp2_with fail
      go_must (go_fit (WJ.out _))
      rintro e w9 ⟨rfl, hb9⟩
      have BE9 := Lib.hid (two_belowK BE8.out hb9 BE8.out.size)
      have R59 := Lib.hid (R58.out.past hb9)
      clear hb9 BE8 R58 y0 y1 T47 T67
      obtain ⟨L1, d1, hL1, M1⟩ := MC.out w9
      have M1 := Lib.hid M1
      have HL1 := Lib.hid hL1
      clear hL1
      go_wp2_with fail
      go_must (go_fit M1.out)
      rintro e w10 ⟨A10, c10, rfl, o10, hb10⟩
      have BE10 := Lib.hid (two_belowK BE9.out hb10 BE9.out.size)
      have R510 := Lib.hid (R59.out.past hb10)
      have R10 := Lib.hid o10.rd
      clear hb10 BE9 R59 o10 M1
      obtain ⟨L2, d2, hL2, M2⟩ := MN.out w10 R510.out
      have M2 := Lib.hid M2
      have HL2 := Lib.hid hL2
      clear hL2
      go_wp2_with fail
      go_must (go_fit M2.out)
      rintro e w11 ⟨A11, c11, rfl, o11, hb11⟩
      have BE11 := Lib.hid (two_belowK BE10.out hb11 BE10.out.size)
      have R1011 := Lib.hid (R10.out.past hb11)
      have R11 := Lib.hid o11.rd
      clear hb11 BE10 R10 R510 o11 M2
      have RB := Lib.hid (HR.out.below BE11.out)
      obtain ⟨rfl, rfl⟩ := HL1.out (by simp)
      have BY1 := Lib.hid (Cur.bytes_any A10 A n c10 n c _ _ w11 (R1011.out.cast (m := n) (by first | exact hl | rfl) rfl) RB.out)
      rw [Cur.eqB_self] at BY1
      go_wp2_with fail
      go_must (go_fit BY1.out)
      rintro e w12 ⟨rfl, rfl⟩
      go_wp2
      go_ret
      exact ⟨by first | rfl | exact ret_bool (by simp), BE11.out⟩
  · have hkd : decide (k = 0) = false := by simp [hk]
    by_cases hk2 : k2 = 0
    · subst hk2
      go_wp2_with fail
      go_must (go_fit BY.out)
      rintro e w8 ⟨rfl, rfl⟩
      go_wp2_with fail
      go_must (go_fit (WI.out _))
      rintro e w8 ⟨rfl, hb8⟩
      have BE8 := Lib.hid (two_belowK BE7.out hb8 BE7.out.size)
      have R58 := Lib.hid (R57.out.past hb8)
      clear y0 y1
      obtain ⟨y0, y1⟩ := cells2 (stayK T67.out hb8)
      clear hb8 BE7 R57 x0 x1
      go_wp2_with fail
      go_must (go_fit (WJ.out _))
      rintro e w9 ⟨rfl, hb9⟩
      have BE9 := Lib.hid (two_belowK BE8.out hb9 BE8.out.size)
      have R59 := Lib.hid (R58.out.past hb9)
      clear hb9 BE8 R58 y0 y1 T47 T67
      obtain ⟨L1, d1, hL1, M1⟩ := MC.out w9
      have M1 := Lib.hid M1
      have HL1 := Lib.hid hL1
      clear hL1
      go_wp2_with fail
      go_must (go_fit M1.out)
      rintro e w10 ⟨A10, c10, rfl, o10, hb10⟩
      have BE10 := Lib.hid (two_belowK BE9.out hb10 BE9.out.size)
      have R510 := Lib.hid (R59.out.past hb10)
      have R10 := Lib.hid o10.rd
      clear hb10 BE9 R59 o10 M1
      obtain ⟨L2, d2, hL2, M2⟩ := MN.out w10 R510.out
      have M2 := Lib.hid M2
      have HL2 := Lib.hid hL2
      clear hL2
      go_wp2_with fail
      go_must (go_fit M2.out)
      rintro e w11 ⟨A11, c11, rfl, o11, hb11⟩
      have BE11 := Lib.hid (two_belowK BE10.out hb11 BE10.out.size)
      have R1011 := Lib.hid (R10.out.past hb11)
      have R11 := Lib.hid o11.rd
      clear hb11 BE10 R10 R510 o11 M2
      have RB := Lib.hid (HR.out.below BE11.out)
      obtain ⟨rfl, rfl⟩ := HL2.out (by simp)
      have BY2 := Lib.hid (Cur.bytes_any A11 A n c11 n c _ _ w11 (R11.out.cast (m := n) (by first | exact hl | rfl) rfl) RB.out)
      rw [Cur.eqB_self] at BY2
      go_wp2_with fail
      go_must (go_fit BY2.out)
      rintro e w12 ⟨rfl, rfl⟩
      go_wp2
      go_ret
      exact ⟨by first | rfl | exact ret_bool (by simp), BE11.out⟩
    · have hkd2 : decide (k2 = 0) = false := by simp [hk2]
      have hkb : (k == 0) = false := beq_eq_false_iff_ne.2 hk
      have hkb2 : (k2 == 0) = false := beq_eq_false_iff_ne.2 hk2
      go_wp2_with fail
      go_must (go_fit BY.out)
      rintro e w8 ⟨rfl, rfl⟩
      go_wp2_with fail
      go_must (go_fit (WI.out _))
      rintro e w8 ⟨rfl, hb8⟩
      have BE8 := Lib.hid (two_belowK BE7.out hb8 BE7.out.size)
      have R58 := Lib.hid (R57.out.past hb8)
      clear y0 y1
      obtain ⟨y0, y1⟩ := cells2 (stayK T67.out hb8)
      clear hb8 BE7 R57 x0 x1
      go_wp2_with fail
      go_must (go_fit (WJ.out _))
      rintro e w9 ⟨rfl, hb9⟩
      have BE9 := Lib.hid (two_belowK BE8.out hb9 BE8.out.size)
      have R59 := Lib.hid (R58.out.past hb9)
      clear hb9 BE8 R58 y0 y1 T47 T67
      obtain ⟨L1, d1, hL1, M1⟩ := MC.out w9
      have M1 := Lib.hid M1
      have HL1 := Lib.hid hL1
      clear hL1
      go_wp2_with fail
      go_must (go_fit M1.out)
      rintro e w10 ⟨A10, c10, rfl, o10, hb10⟩
      have BE10 := Lib.hid (two_belowK BE9.out hb10 BE9.out.size)
      have R510 := Lib.hid (R59.out.past hb10)
      have R10 := Lib.hid o10.rd
      clear hb10 BE9 R59 o10 M1
      obtain ⟨L2, d2, hL2, M2⟩ := MN.out w10 R510.out
      have M2 := Lib.hid M2
      have HL2 := Lib.hid hL2
      clear hL2
      go_wp2_with fail
      go_must (go_fit M2.out)
      rintro e w11 ⟨A11, c11, rfl, o11, hb11⟩
      have BE11 := Lib.hid (two_belowK BE10.out hb11 BE10.out.size)
      have R1011 := Lib.hid (R10.out.past hb11)
      have R11 := Lib.hid o11.rd
      clear hb11 BE10 R10 R510 o11 M2
      have RB := Lib.hid (HR.out.below BE11.out)
      go_wp2
      go_ret
      exact ⟨by first | rfl | exact ret_bool (by simp), BE11.out⟩
end Go.Proofs.Ytnpmgofkfdpbjaa
