/- The walk of EntryDates. -/
import Derived.Test.YtnpmgofkfdpbjaaKZ
import Derived.Test.YtnpmgofkfdpbjaaKN
import Derived.Test.YtnpmgofkfdpbjaaKA
set_option linter.unusedSimpArgs false
set_option linter.unusedVariables false
namespace Go.Proofs.Ytnpmgofkfdpbjaa
open Go.RowKit Kit Tlv Ent

set_option maxRecDepth 100000 in
set_option maxHeartbeats 4000000 in
theorem EntryDates.walk (y m d h mi s : Int) (A : Option Addr) (n c : Nat) (l : List UInt8) (W : World) (hr : Rd W W.heap.size A n l) (hc : n ≤ c) (hm : c ≤ maxLen) :
    Calls Try.prog 6 #[Clk.time y m d h mi s, .slice A n c] W fun e w' => e = .returned (.bool true) ∧ Below W.heap.size W w' := by
  have hl := hr.len
  have HR := Lib.hid hr
  clear hr
  by_cases hn : 2000 < n
  · have hn' : (2000 : Int) < (n : Int) := by omega
    go_enter Try.func6, Try.ntmps6
    go_wp2_with fail
    go_must (go_fit (awake21_any _))
    rintro e w1 ⟨rfl, hb1⟩
    have bel := bel1 hb1
    clear hb1
    go_wp2_with fail
    go_must (go_fit (awake21_any _))
    rintro e w2 ⟨rfl, hb2⟩
    go_wp2
    go_ret
    exact ⟨rfl, two_belowK bel hb2 bel.size⟩
  have hn' : ¬ (2000 : Int) < (n : Int) := by omega
  have M1 := Lib.hid (fun w => mdate_any y m d h mi s w)
  have M2 := Lib.hid (fun w => refmdate_any y m d h mi s w)
  have PA := Lib.hid (fun (X : World) (hb : Below W.heap.size W X) => pdate_any X (HR.out.below hb) hb.size hc hm (by omega))
  have PB := Lib.hid (fun (X : World) (hb : Below W.heap.size W X) => refpdate_any (c := c) X (HR.out.below hb) hb.size hc hm (by omega))
  have PC := Lib.hid (fun (X : World) (A : Option Addr) (c : Nat) (hr : Rd X X.heap.size A (dateL y m d h mi s).length (dateL y m d h mi s)) (hc : (dateL y m d h mi s).length ≤ c) (hm : c ≤ maxLen) => pdate_any X hr (Nat.le_refl _) hc hm (by have := date_len y m d h mi s; omega))
  have HC := Lib.hid (show dateC y m d h mi s = 0 ∧ Clk.genCode y m d h mi s = 0 ∨ dateC y m d h mi s = 8 from by unfold dateC; split <;> simp [*])
  generalize hL : dateL y m d h mi s = L at *
  generalize dateC y m d h mi s = cd at *
  have HL := Lib.hid hL
  clear hL
  go_enter Try.func6, Try.ntmps6
  go_wp2_with fail
  go_must (go_fit (awake21_any _))
  rintro e w1 ⟨rfl, hb1⟩
  have tb := blk1 hb1
  have bel := bel1 hb1
  clear hb1
  obtain ⟨q0, q1, q2, q3, q4, q5⟩ := cells6 tb
  go_wp2_with fail
  go_must (go_fit (M1.out _))
  rintro e w2 ⟨A1, c1, rfl, o1, hb2⟩
  clear q0 q1 q2 q3 q4 q5
  have r1 := o1.rd
  have hc1 := Lib.hid o1.cap
  have hm1 := Lib.hid o1.capMax
  replace tb := stayK tb hb2
  replace bel := two_belowK bel hb2 bel.size
  clear o1 hb2
  obtain ⟨q0, q1, q2, q3, q4, q5⟩ := cells6 tb
  go_wp2_with fail
  go_must (go_fit (M2.out _))
  rintro e w3 ⟨A2, c2, rfl, o2, hb3⟩
  clear q0 q1 q2 q3 q4 q5
  replace r1 := r1.past hb3
  have r2 := o2.rd
  replace tb := stayK tb hb3
  replace bel := two_belowK bel hb3 bel.size
  clear o2 hb3
  have R1 := Lib.hid r1
  have R2 := Lib.hid r2
  have TB := Lib.hid tb
  have BE := Lib.hid bel
  clear r1 r2 bel tb
  obtain ⟨y', m', d', h', mi', s', k, o, PP, hno⟩ : ∃ y' m' d' h' mi' s' k o, Hid (Calls Try.prog 40 #[.slice A n c] w3 fun e w' => e = .returned (datR y' m' d' h' mi' s' k o) ∧ Below w3.heap.size w3 w') ∧
      ((k = 0 ∧ o = 0 ∧ Clk.genCode y' m' d' h' mi' s' = 0 ∧ l = dateL y' m' d' h' mi' s') ∨ (¬ k = 0 ∧ 0 < k ∧ 0 ≤ o ∧ o ≤ (n : Int) ∧ (y' = 0 ∧ m' = 0 ∧ d' = 0 ∧ h' = 0 ∧ mi' = 0 ∧ s' = 0) ∧ ∀ y m d h mi s, Clk.genCode y m d h mi s = 0 → l ≠ dateL y m d h mi s)) := by
    rcases PA.out w3 BE.out with ⟨y', m', d', h', mi', s', h1, h2, h3⟩ | ⟨h1, k, o, h2, h3, h4, h5⟩
    · exact ⟨y', m', d', h', mi', s', 0, 0, Lib.hid h3, .inl ⟨rfl, rfl, h1, h2⟩⟩
    · exact ⟨0, 0, 0, 0, 0, 0, k, o, Lib.hid h5, .inr ⟨by omega, h2, h3, by omega, ⟨rfl, rfl, rfl, rfl, rfl, rfl⟩, h1⟩⟩
  have HNO := Lib.hid hno
  clear hno PA
  go_upto_region 6 with (first | (go_at_call 40; go_must (go_fit PP.out); rintro e w4 ⟨rfl, hb4⟩))
  have hs4 := hb4.size
  have t4 : ((w4.alloc (.cells #[.int .i64 y', .int .i64 m', .int .i64 d', .int .i64 h', .int .i64 mi', .int .i64 s'] 28)).alloc (.cells #[.int .i64 k, .int .i64 o] 36)).heap[w4.heap.size]? = _ := bk_old (bk_new rfl)
  have t5 : ((w4.alloc (.cells #[.int .i64 y', .int .i64 m', .int .i64 d', .int .i64 h', .int .i64 mi', .int .i64 s'] 28)).alloc (.cells #[.int .i64 k, .int .i64 o] 36)).heap[w4.heap.size + 1]? = _ := bk_new (by simp)
  have b4 := two_belowK BE.out hb4 BE.out.size
  have BE4 := Lib.hid ((b4.alloc b4.size (.cells #[.int .i64 y', .int .i64 m', .int .i64 d', .int .i64 h', .int .i64 mi', .int .i64 s'] 28)).alloc (by have := b4.size; simp; omega) (.cells #[.int .i64 k, .int .i64 o] 36))
  have R14 := Lib.hid (((R1.out.past hb4).allocS (.cells #[.int .i64 y', .int .i64 m', .int .i64 d', .int .i64 h', .int .i64 mi', .int .i64 s'] 28)).allocS (.cells #[.int .i64 k, .int .i64 o] 36))
  have R24 := Lib.hid (((R2.out.past hb4).allocS (.cells #[.int .i64 y', .int .i64 m', .int .i64 d', .int .i64 h', .int .i64 mi', .int .i64 s'] 28)).allocS (.cells #[.int .i64 k, .int .i64 o] 36))
  have TB4 := Lib.hid (bk_old (o' := .cells #[.int .i64 k, .int .i64 o] 36) (bk_old (o' := .cells #[.int .i64 y', .int .i64 m', .int .i64 d', .int .i64 h', .int .i64 mi', .int .i64 s'] 28) (stayK TB.out hb4)))
  have T4 := Lib.hid t4
  have T5 := Lib.hid t5
  clear hb4 PP R1 R2 BE TB t4 t5 b4 hs4
  generalize w4.heap.size + 1 = b5 at *
  generalize w4.heap.size = b4 at *
  generalize (w4.alloc (.cells #[.int .i64 y', .int .i64 m', .int .i64 d', .int .i64 h', .int .i64 mi', .int .i64 s'] 28)).alloc (.cells #[.int .i64 k, .int .i64 o] 36) = w5 at *
  clear w4
  have QQ := Lib.hid (PB.out w5 BE4.out)
  clear PB
  go_wp2_with fail
  go_must (go_fit QQ.out)
  rintro e w6 ⟨y2, m2, d2, h2, mi2, s2, b, rfl, q1, q2, hb6⟩
  have BE6 := Lib.hid (two_belowK BE4.out hb6 BE4.out.size)
  have R16 := Lib.hid (R14.out.past hb6)
  have R26 := Lib.hid (R24.out.past hb6)
  have TB6 := Lib.hid (stayK TB4.out hb6)
  have T46 := Lib.hid (stayK T4.out hb6)
  have T56 := Lib.hid (stayK T5.out hb6)
  clear hb6 QQ BE4 R14 R24 TB4 T4 T5
  have hm' : (y2 = y' ∧ m2 = m' ∧ d2 = d' ∧ h2 = h' ∧ mi2 = mi' ∧ s2 = s') ∧ (b = true ↔ k = 0) := by
    rcases HNO.out with ⟨h1, h2, h3, h4⟩ | ⟨h1, h2, h3, h4, h5, h6⟩
    · cases b with
      | true => exact ⟨date_inj (q1 rfl).1 h3 ((q1 rfl).2.symm.trans h4), by simp [h1]⟩
      | false => exact absurd h4 ((q2 rfl).2 _ _ _ _ _ _ h3)
    · cases b with
      | true => exact absurd (q1 rfl).2 (h6 _ _ _ _ _ _ (q1 rfl).1)
      | false =>
        obtain ⟨a1, a2, a3, a4, a5, a6⟩ := (q2 rfl).1
        obtain ⟨c1, c2, c3, c4, c5, c6⟩ := h5
        exact ⟨⟨a1.trans c1.symm, a2.trans c2.symm, a3.trans c3.symm, a4.trans c4.symm, a5.trans c5.symm, a6.trans c6.symm⟩, by simp [h1]⟩
  obtain ⟨⟨rfl, rfl, rfl, rfl, rfl, rfl⟩, hbk⟩ := hm'
  clear q1 q2
  have WI : Hid (∀ (X : World), Calls Try.prog 37 #[.agg #[.int .i64 k, .int .i64 o], .int .i64 (n : Int)] X fun e w' => e = .returned (.bool true) ∧ Below X.heap.size X w') := Lib.hid (by
    intro X
    rcases HNO.out with ⟨h1, h2, -⟩ | ⟨-, h2, h3, h4, -⟩
    · subst h1 h2; exact within_ok _ X
    · exact within_err k o n X h2 h3 h4)
  have HB : b = decide (k = 0) := by
    cases b with
    | true => simp [hbk.1 rfl]
    | false => simp; exact fun h => absurd (hbk.2 h) (by simp)
  clear hbk HNO
  subst HB
  have TIM : (w6.alloc (.cells #[.int .i64 y2, .int .i64 m2, .int .i64 d2, .int .i64 h2, .int .i64 mi2, .int .i64 s2] 28)).heap[w6.heap.size]? = _ := bk_new rfl
  have BE7 := Lib.hid (BE6.out.alloc BE6.out.size (.cells #[.int .i64 y2, .int .i64 m2, .int .i64 d2, .int .i64 h2, .int .i64 mi2, .int .i64 s2] 28))
  have R17 := Lib.hid (R16.out.allocS (.cells #[.int .i64 y2, .int .i64 m2, .int .i64 d2, .int .i64 h2, .int .i64 mi2, .int .i64 s2] 28))
  have R27 := Lib.hid (R26.out.allocS (.cells #[.int .i64 y2, .int .i64 m2, .int .i64 d2, .int .i64 h2, .int .i64 mi2, .int .i64 s2] 28))
  have TB7 := Lib.hid (bk_old (o' := .cells #[.int .i64 y2, .int .i64 m2, .int .i64 d2, .int .i64 h2, .int .i64 mi2, .int .i64 s2] 28) TB6.out)
  have T47 := Lib.hid (bk_old (o' := .cells #[.int .i64 y2, .int .i64 m2, .int .i64 d2, .int .i64 h2, .int .i64 mi2, .int .i64 s2] 28) T46.out)
  have T57 := Lib.hid (bk_old (o' := .cells #[.int .i64 y2, .int .i64 m2, .int .i64 d2, .int .i64 h2, .int .i64 mi2, .int .i64 s2] 28) T56.out)
  clear BE6 R16 R26 TB6 T46 T56
  go_upto_region 7 with fail
  generalize w6.heap.size = b6 at *
  generalize w6.alloc (.cells #[.int .i64 y2, .int .i64 m2, .int .i64 d2, .int .i64 h2, .int .i64 mi2, .int .i64 s2] 28) = w7 at *
  clear w6
  have BY := Lib.hid (Cur.bytes_any A1 A2 L.length c1 L.length c2 _ _ w7 R17.out R27.out)
  rw [Cur.eqB_self] at BY
  obtain ⟨x0, x1, x2, x3, x4, x5⟩ := cells6 TIM
  obtain ⟨u0, u1, u2, u3, u4, u5⟩ := cells6 T47.out
  obtain ⟨v0, v1⟩ := cells2 T57.out
  clear TIM R27
  go_wp2_with fail
  go_must (go_fit BY.out)
  rintro e w8 ⟨rfl, rfl⟩
  by_cases hk : k = 0
  · subst hk
    go_wp2_with fail
    go_must (go_fit (WI.out _))
    rintro e w8 ⟨rfl, hb8⟩
    clear v0 v1 x0 x1 x2 x3 x4 x5 u0 u1 u2 u3 u4 u5
    have BE8 := Lib.hid (two_belowK BE7.out hb8 BE7.out.size)
    have R18 := Lib.hid (R17.out.past hb8)
    have TB8 := Lib.hid (stayK TB7.out hb8)
    clear hb8 R17 T47 T57 TB7 BE7
    by_cases hcd : cd = 0
    · subst hcd
      have hvb : Clk.genCode y m d h mi s = 0 := by rcases HC.out with ⟨_, h⟩ | h; exact h; omega
      have PP := PC.out w8 A1 c1 R18.out hc1.out hm1.out
      have hP : Hid (Calls Try.prog 40 #[.slice A1 L.length c1] w8 fun e w' => e = .returned (datR y m d h mi s 0 0) ∧ Below w8.heap.size w8 w') := Lib.hid (by
        rcases PP with ⟨y3, m3, d3, h3, mi3, s3, g1, g2, g3⟩ | ⟨g1, -⟩
        · obtain ⟨rfl, rfl, rfl, rfl, rfl, rfl⟩ := date_inj hvb g1 (HL.out.trans g2)
          exact g3
        · exact absurd HL.out.symm (g1 _ _ _ _ _ _ hvb))
      clear PP PC hvb
      go_wp2_with fail
      go_must (go_fit hP.out)
      rintro e w9 ⟨rfl, hb9⟩
      have bel := two_belowK BE8.out hb9 BE8.out.size
      have tb9 := stayK TB8.out hb9
      have z9 := Blk_lt tb9
      obtain ⟨q0, q1, q2, q3, q4, q5⟩ := cells6 tb9
      clear hb9 tb9 TB8
      go_wp2
      go_ret
      exact ⟨by first | rfl | exact ret_bool (by simp), (by repeat' (first | (with_reducible exact Below.refl _ _) | (with_reducible assumption) | (with_reducible refine below_drewN ?_ _) | (with_reducible refine Below.drew ?_) | (with_reducible refine Below.alloc ?_ ?_ _) | (with_reducible refine Below.setCell ?_ ?_ _) | go_size))⟩
    · go_wp2
      go_ret
      exact ⟨by first | rfl | exact ret_bool (by simp [hcd]), BE8.out⟩
  · have hkd : decide (k = 0) = false := by simp [hk]
    go_wp2_with fail
    go_must (go_fit (WI.out _))
    rintro e w8 ⟨rfl, hb8⟩
    clear v0 v1 x0 x1 x2 x3 x4 x5 u0 u1 u2 u3 u4 u5
    have BE8 := Lib.hid (two_belowK BE7.out hb8 BE7.out.size)
    have R18 := Lib.hid (R17.out.past hb8)
    have TB8 := Lib.hid (stayK TB7.out hb8)
    clear hb8 R17 T47 T57 TB7 BE7
    by_cases hcd : cd = 0
    · subst hcd
      have hvb : Clk.genCode y m d h mi s = 0 := by rcases HC.out with ⟨_, h⟩ | h; exact h; omega
      have PP := PC.out w8 A1 c1 R18.out hc1.out hm1.out
      have hP : Hid (Calls Try.prog 40 #[.slice A1 L.length c1] w8 fun e w' => e = .returned (datR y m d h mi s 0 0) ∧ Below w8.heap.size w8 w') := Lib.hid (by
        rcases PP with ⟨y3, m3, d3, h3, mi3, s3, g1, g2, g3⟩ | ⟨g1, -⟩
        · obtain ⟨rfl, rfl, rfl, rfl, rfl, rfl⟩ := date_inj hvb g1 (HL.out.trans g2)
          exact g3
        · exact absurd HL.out.symm (g1 _ _ _ _ _ _ hvb))
      clear PP PC hvb
      go_wp2_with fail
      go_must (go_fit hP.out)
      rintro e w9 ⟨rfl, hb9⟩
      have bel := two_belowK BE8.out hb9 BE8.out.size
      have tb9 := stayK TB8.out hb9
      have z9 := Blk_lt tb9
      obtain ⟨q0, q1, q2, q3, q4, q5⟩ := cells6 tb9
      clear hb9 tb9 TB8
      go_wp2
      go_ret
      exact ⟨by first | rfl | exact ret_bool (by simp), (by repeat' (first | (with_reducible exact Below.refl _ _) | (with_reducible assumption) | (with_reducible refine below_drewN ?_ _) | (with_reducible refine Below.drew ?_) | (with_reducible refine Below.alloc ?_ ?_ _) | (with_reducible refine Below.setCell ?_ ?_ _) | go_size))⟩
    · go_wp2
      go_ret
      exact ⟨by first | rfl | exact ret_bool (by simp [hcd]), BE8.out⟩
end Go.Proofs.Ytnpmgofkfdpbjaa
