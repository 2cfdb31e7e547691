/- The walk of EntryReasons. -/
import Derived.Test.YtnpmgofkfdpbjaaKP
set_option linter.unusedSimpArgs false
set_option linter.unusedVariables false
namespace Go.Proofs.Ytnpmgofkfdpbjaa
open Go.RowKit Kit Tlv Ent

set_option maxRecDepth 100000 in
set_option maxHeartbeats 4000000 in
theorem EntryReasons.walk (r : Int) (A : Option Addr) (n c : Nat) (l : List UInt8) (W : World) (bd : -9223372036854775808 ≤ r ∧ r ≤ 9223372036854775807) (hr : Rd W W.heap.size A n l) (hc : n ≤ c) (hm : c ≤ maxLen) :
    Calls Try.prog 5 #[.int .i64 r, .slice A n c] W fun e w' => e = .returned (.bool true) ∧ Below W.heap.size W w' := by
  have hl := hr.len
  have HR := Lib.hid hr
  clear hr
  by_cases hn : 2000 < n
  · have hn' : (2000 : Int) < (n : Int) := by omega
    go_enter Try.func5, Try.ntmps5
    go_wp2_with fail
    go_must (go_fit (awake21_any _))
    rintro e w1 ⟨rfl, hb1⟩
    go_wp2_with fail
    go_must (go_fit (awake21_any _))
    rintro e w2 ⟨rfl, hb2⟩
    go_wp2
    go_ret
    exact ⟨rfl, two_belowK hb1 hb2 hb1.size⟩
  have hn' : ¬ (2000 : Int) < (n : Int) := by omega
  have M1 := Lib.hid (fun w => marshalR_any r w)
  have M2 := Lib.hid (fun w => refmarshalR_any r w)
  have V1 := Lib.hid (fun w => validR_any r w)
  have V2 := Lib.hid (fun w => refvalidR_any r w)
  have PA := Lib.hid (fun (X : World) (hb : Below W.heap.size W X) => entparse_any X (HR.out.below hb) hb.size hc hm (by omega))
  have PB := Lib.hid (fun (X : World) (hb : Below W.heap.size W X) => refparseR_any (c := c) X (HR.out.below hb) hb.size)
  have PC := Lib.hid (fun (X : World) (A : Option Addr) (c : Nat) (hr : Rd X X.heap.size A (reasL r).length (reasL r)) (hc : (reasL r).length ≤ c) (hm : c ≤ maxLen) => entparse_any X hr (Nat.le_refl _) hc hm (by unfold reasL; split <;> simp))
  have RI := Lib.hid (fun (s : Int) (h : validR r = true) (h' : validR s = true) e => reas_inj h h' e)
  have HC := Lib.hid (show reasC r = 0 ∧ validR r = true ∨ reasC r = 8 from by unfold reasC; split <;> simp [*])
  generalize hL : reasL r = L at *
  generalize reasC r = cd at *
  have HL := Lib.hid hL
  clear hL
  generalize hV : validR r = vb at *
  have HVB := Lib.hid hV
  clear hV
  go_enter Try.func5, Try.ntmps5
  go_wp2_with fail
  go_must (go_fit (awake21_any _))
  rintro e w1 ⟨rfl, hb1⟩
  have bel := hb1
  clear hb1
  go_wp2_with fail
  go_must (go_fit (M1.out _))
  rintro e w2 ⟨A1, c1, rfl, o1, hb2⟩
  have r1 := o1.rd
  have hc1 := Lib.hid o1.cap
  have hm1 := Lib.hid o1.capMax
  replace bel := two_belowK bel hb2 bel.size
  clear o1 hb2
  go_wp2_with fail
  go_must (go_fit (M2.out _))
  rintro e w3 ⟨A2, c2, rfl, o2, hb3⟩
  replace r1 := r1.past hb3
  have r2 := o2.rd
  replace bel := two_belowK bel hb3 bel.size
  clear o2 hb3
  have R1 := Lib.hid r1
  have R2 := Lib.hid r2
  have BE := Lib.hid bel
  clear r1 r2 bel
  obtain ⟨s, k, o, PP, hno⟩ : ∃ s k o, Hid (Calls Try.prog 33 #[.slice A n c] w3 fun e w' => e = .returned (entR s k o) ∧ Below w3.heap.size w3 w') ∧
      ((k = 0 ∧ o = 0 ∧ validR s = true ∧ l = reasL s) ∨ (¬ k = 0 ∧ 0 < k ∧ 0 ≤ o ∧ o ≤ (n : Int) ∧ s = 0 ∧ ∀ q, validR q = true → l ≠ reasL q)) := by
    rcases PA.out w3 BE.out with ⟨s, h1, h2, h3⟩ | ⟨h1, k, o, h2, h3, h4, h5⟩
    · exact ⟨s, 0, 0, Lib.hid h3, .inl ⟨rfl, rfl, h1, h2⟩⟩
    · exact ⟨0, k, o, Lib.hid h5, .inr ⟨by omega, h2, h3, by omega, rfl, h1⟩⟩
  have HNO := Lib.hid hno
  clear hno PA
  go_wp2_with fail
  go_must (go_fit PP.out)
  rintro e w4 ⟨rfl, hb4⟩
  have t4 : (w4.alloc (.cells #[.int .i64 k, .int .i64 o] 36)).heap[w4.heap.size]? = _ := bk_new rfl
  have BE4 := Lib.hid ((two_belowK BE.out hb4 BE.out.size).alloc (two_belowK BE.out hb4 BE.out.size).size (.cells #[.int .i64 k, .int .i64 o] 36))
  have R14 := Lib.hid ((R1.out.past hb4).allocS (.cells #[.int .i64 k, .int .i64 o] 36))
  have R24 := Lib.hid ((R2.out.past hb4).allocS (.cells #[.int .i64 k, .int .i64 o] 36))
  clear hb4 PP R1 R2 BE
  go_upto_region 6 with fail
  generalize w4.heap.size = b4 at *
  generalize w4.alloc (.cells #[.int .i64 k, .int .i64 o] 36) = w5 at *
  clear w4
  have QQ := Lib.hid (PB.out w5 BE4.out)
  clear PB
  go_wp2_with fail
  go_must (go_fit QQ.out)
  rintro e w6 ⟨m, b, rfl, q1, q2, hb6⟩
  have BE6 := Lib.hid (two_belowK BE4.out hb6 BE4.out.size)
  have R16 := Lib.hid (R14.out.past hb6)
  have R26 := Lib.hid (R24.out.past hb6)
  have T6 := Lib.hid (stayK t4 hb6)
  clear hb6 t4 QQ BE4 R14 R24
  have BY := Lib.hid (Cur.bytes_any A1 A2 L.length c1 L.length c2 _ _ w6 R16.out R26.out)
  rw [Cur.eqB_self] at BY
  have hm' : m = s ∧ (b = true ↔ k = 0) := by
    rcases HNO.out with ⟨h1, h2, h3, h4⟩ | ⟨h1, h2, h3, h4, h5, h6⟩
    · cases b with
      | true => exact ⟨(reas_inj h3 (q1 rfl).1 (h4.symm.trans (q1 rfl).2)).symm, by simp [h1]⟩
      | false => exact absurd h4 ((q2 rfl).2 s h3)
    · cases b with
      | true => exact absurd (q1 rfl).2 (h6 m (q1 rfl).1)
      | false => exact ⟨(q2 rfl).1.trans h5.symm, by simp [h1]⟩
  obtain ⟨rfl, hbk⟩ := hm'
  clear q1 q2
  have WI : Hid (∀ (X : World), Calls Try.prog 37 #[.agg #[.int .i64 k, .int .i64 o], .int .i64 (n : Int)] X fun e w' => e = .returned (.bool true) ∧ Below X.heap.size X w') := Lib.hid (by
    intro X
    rcases HNO.out with ⟨h1, h2, -⟩ | ⟨-, h2, h3, h4, -⟩
    · subst h1 h2; exact within_ok _ X
    · exact within_err k o n X h2 h3 h4)
  have HB : b = decide (k = 0) := by
    cases b with
    | true => simp [hbk.1 rfl]
    | false => simp; exact fun h => absurd (hbk.2 h) (by simp)
  clear hbk HNO
  subst HB
  go_wp2_with fail
  go_must (go_fit BY.out)
  rintro e w7 ⟨rfl, rfl⟩
  go_wp2_with fail
  go_must (go_fit (V1.out _))
  rintro e w7 ⟨rfl, hb7⟩
  have BE7 := Lib.hid (two_belowK BE6.out hb7 BE6.out.size)
  have R17 := Lib.hid (R16.out.past hb7)
  have T7 := Lib.hid (stayK T6.out hb7)
  clear hb7 R16 R26 BE6 T6 BY
  go_wp2_with fail
  go_must (go_fit (V2.out _))
  rintro e w8 ⟨rfl, rfl⟩
  obtain ⟨v0, v1⟩ := cells2 T7.out
  by_cases hk : k = 0
  · subst hk
    go_wp2_with fail
    go_must (go_fit (WI.out _))
    rintro e w8 ⟨rfl, hb8⟩
    clear v0 v1
    have BE8 := Lib.hid (two_belowK BE7.out hb8 BE7.out.size)
    have R18 := Lib.hid (R17.out.past hb8)
    clear hb8 R17 T7 BE7
    by_cases hcd : cd = 0
    · subst hcd
      have hvb : vb = true := by rcases HC.out with ⟨_, h⟩ | h; exact h; omega
      have PP := PC.out w8 A1 c1 R18.out hc1.out hm1.out
      have hP : Hid (Calls Try.prog 33 #[.slice A1 L.length c1] w8 fun e w' => e = .returned (entR r 0 0) ∧ Below w8.heap.size w8 w') := Lib.hid (by
        rcases PP with ⟨s, h1, h2, h3⟩ | ⟨h1, -⟩
        · obtain rfl : r = s := RI.out s hvb h1 h2
          exact h3
        · exact absurd HL.out.symm (h1 r (HVB.out.trans hvb)))
      clear PP PC hvb RI
      go_wp2_with fail
      go_must (go_fit hP.out)
      rintro e w9 ⟨rfl, hb9⟩
      have bel := two_belowK BE8.out hb9 BE8.out.size
      go_wp2
      go_ret
      exact ⟨by first | rfl | exact ret_bool (by simp), (by first | exact bel | exact bel.alloc bel.size _)⟩
    · go_wp2
      go_ret
      exact ⟨by first | rfl | exact ret_bool (by simp [hcd]), BE8.out⟩
  · have hkd : decide (k = 0) = false := by simp [hk]
    go_wp2_with fail
    go_must (go_fit (WI.out _))
    rintro e w8 ⟨rfl, hb8⟩
    clear v0 v1
    have BE8 := Lib.hid (two_belowK BE7.out hb8 BE7.out.size)
    have R18 := Lib.hid (R17.out.past hb8)
    clear hb8 R17 T7 BE7
    by_cases hcd : cd = 0
    · subst hcd
      have hvb : vb = true := by rcases HC.out with ⟨_, h⟩ | h; exact h; omega
      have PP := PC.out w8 A1 c1 R18.out hc1.out hm1.out
      have hP : Hid (Calls Try.prog 33 #[.slice A1 L.length c1] w8 fun e w' => e = .returned (entR r 0 0) ∧ Below w8.heap.size w8 w') := Lib.hid (by
        rcases PP with ⟨s, h1, h2, h3⟩ | ⟨h1, -⟩
        · obtain rfl : r = s := RI.out s hvb h1 h2
          exact h3
        · exact absurd HL.out.symm (h1 r (HVB.out.trans hvb)))
      clear PP PC hvb RI
      go_wp2_with fail
      go_must (go_fit hP.out)
      rintro e w9 ⟨rfl, hb9⟩
      have bel := two_belowK BE8.out hb9 BE8.out.size
      go_wp2
      go_ret
      exact ⟨by first | rfl | exact ret_bool (by simp), (by first | exact bel | exact bel.alloc bel.size _)⟩
    · go_wp2
      go_ret
      exact ⟨by first | rfl | exact ret_bool (by simp [hcd]), BE8.out⟩
end Go.Proofs.Ytnpmgofkfdpbjaa
