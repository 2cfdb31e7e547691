/- The walk of ValidityParses. Printed by gen_valq.py. -/
import Derived.Test.YtnpmgofkfdpbjaaQValP
import Derived.Test.YtnpmgofkfdpbjaaKA
set_option linter.unusedSimpArgs false
set_option linter.unusedVariables false
namespace Go.Proofs.Ytnpmgofkfdpbjaa
open Go.RowKit Kit Tlv Bas Val

set_option maxRecDepth 100000 in
set_option maxHeartbeats 8000000 in
theorem ValidityParses.walk (A : Option Addr) (n c : Nat) (l : List UInt8) (W : World) (hr : Rd W W.heap.size A n l) (hc : n ≤ c) (hm : c ≤ maxLen) :
    Calls Try.prog 10 #[.slice A n c] W fun e w' => e = .returned (.bool true) ∧ Below W.heap.size W w' := by
  have hl := hr.len
  have HR := Lib.hid hr
  clear hr
  by_cases hn : 2000 < n
  · have hn' : (2000 : Int) < (n : Int) := by omega
    go_enter Try.func10, Try.ntmps10
    go_wp2_with fail
    go_must (go_fit (awake24_any _))
    rintro e w1 ⟨rfl, hb1⟩
    go_wp2_with fail
    go_must (go_fit (awake24_any _))
    rintro e w2 ⟨rfl, hb2⟩
    go_wp2
    go_ret
    exact ⟨rfl, two_belowK hb1 hb2 hb1.size⟩
  have hn' : ¬ (2000 : Int) < (n : Int) := by omega
  have PA := Lib.hid (fun (X : World) (hb : Below W.heap.size W X) => parseV_any X (HR.out.below hb) hb.size hc hm (by omega))
  have PB := Lib.hid (fun (X : World) (hb : Below W.heap.size W X) => refparseV_any (c := c) X (HR.out.below hb) hb.size hc hm (by omega))
  have NA := Lib.hid (fun (X : World) (hb : Below W.heap.size W X) => ppair_any X (HR.out.below hb) hb.size hc hm (by omega))
  have NB := Lib.hid (fun (X : World) (hb : Below W.heap.size W X) => refppair_any (c := c) X (HR.out.below hb) hb.size hc hm (by omega))
  go_enter Try.func10, Try.ntmps10
  go_wp2_with fail
  go_must (go_fit (awake24_any _))
  rintro e w1 ⟨rfl, hb1⟩
  obtain ⟨y, m, d, h, mi, s, k, o, PP, hno⟩ : ∃ y m d h mi s k o, Hid (Calls Try.prog 30 #[.slice A n c] w1 fun e w' => e = .returned (parR y m d h mi s k o) ∧ Below w1.heap.size w1 w') ∧
      ((k = 0 ∧ o = 0 ∧ valB y m d h mi s = true ∧ l = valL y m d h mi s) ∨ (¬ k = 0 ∧ 0 < k ∧ 0 ≤ o ∧ o ≤ (n : Int) ∧ (y = 0 ∧ m = 0 ∧ d = 0 ∧ h = 0 ∧ mi = 0 ∧ s = 0) ∧ ∀ y m d h mi s, valB y m d h mi s = true → l ≠ valL y m d h mi s)) := by
    rcases PA.out w1 hb1 with ⟨y, m, d, h, mi, s, h1, h2, h3⟩ | ⟨h1, k, o, h2, h3, h4, h5⟩
    · exact ⟨y, m, d, h, mi, s, 0, 0, Lib.hid h3, .inl ⟨rfl, rfl, h1, h2⟩⟩
    · exact ⟨0, 0, 0, 0, 0, 0, k, o, Lib.hid h5, .inr ⟨by omega, h2, h3, by omega, ⟨rfl, rfl, rfl, rfl, rfl, rfl⟩, h1⟩⟩
  have HNO := Lib.hid hno
  have BE1 := Lib.hid hb1
  clear hno PA hb1
  go_upto_region 4 with (first | (go_at_call 30; go_must (go_fit PP.out); rintro e w2 ⟨rfl, hb2⟩))
  have t3 : ((w2.alloc (.cells #[.int .i64 y, .int .i64 m, .int .i64 d, .int .i64 h, .int .i64 mi, .int .i64 s] 28)).alloc (.cells #[.int .i64 k, .int .i64 o] 36)).heap[w2.heap.size]? = _ := bk_old (bk_new rfl)
  have t4 : ((w2.alloc (.cells #[.int .i64 y, .int .i64 m, .int .i64 d, .int .i64 h, .int .i64 mi, .int .i64 s] 28)).alloc (.cells #[.int .i64 k, .int .i64 o] 36)).heap[w2.heap.size + 1]? = _ := bk_new (by simp)
  have b2 := two_belowK BE1.out hb2 BE1.out.size
  have BE2 := Lib.hid ((b2.alloc b2.size (.cells #[.int .i64 y, .int .i64 m, .int .i64 d, .int .i64 h, .int .i64 mi, .int .i64 s] 28)).alloc (by have := b2.size; simp; omega) (.cells #[.int .i64 k, .int .i64 o] 36))
  clear hb2 PP BE1 b2
  generalize w2.heap.size + 1 = b4 at *
  generalize w2.heap.size = b3 at *
  generalize ((w2.alloc (.cells #[.int .i64 y, .int .i64 m, .int .i64 d, .int .i64 h, .int .i64 mi, .int .i64 s] 28)).alloc (.cells #[.int .i64 k, .int .i64 o] 36)) = w3 at *
  clear w2
  have T3 := Lib.hid t3
  have T4 := Lib.hid t4
  have QQ := Lib.hid (PB.out w3 BE2.out)
  clear PB t3 t4
  go_upto_region 5 with (first | (go_at_call 51; go_must (go_fit QQ.out); rintro e w4 ⟨y2, m2, d2, h2, mi2, s2, b, rfl, q1, q2, hb4⟩))
  have hm' : (y2 = y ∧ m2 = m ∧ d2 = d ∧ h2 = h ∧ mi2 = mi ∧ s2 = s) ∧ (b = true ↔ k = 0) := by
    rcases HNO.out with ⟨h1, h2, h3, h4⟩ | ⟨h1, h2, h3, h4, h5, h6⟩
    · cases b with
      | true => exact ⟨val_inj (q1 rfl).1 h3 ((q1 rfl).2.symm.trans h4), by simp [h1]⟩
      | false => exact absurd h4 ((q2 rfl).2 _ _ _ _ _ _ h3)
    · cases b with
      | true => exact absurd (q1 rfl).2 (h6 _ _ _ _ _ _ (q1 rfl).1)
      | false =>
        obtain ⟨a0, a1, a2, a3, a4, a5⟩ := (q2 rfl).1
        obtain ⟨c0, c1, c2, c3, c4, c5⟩ := h5
        exact ⟨⟨a0.trans c0.symm, a1.trans c1.symm, a2.trans c2.symm, a3.trans c3.symm, a4.trans c4.symm, a5.trans c5.symm⟩, by simp [h1]⟩
  obtain ⟨⟨hy2, hm2, hd2, hh2, hmi2, hs2⟩, hbk⟩ := hm'
  subst hy2 hm2 hd2 hh2 hmi2 hs2
  clear q1 q2
  have HB : b = decide (k = 0) := by
    cases b with
    | true => simp [hbk.1 rfl]
    | false => simp; exact fun h => absurd (hbk.2 h) (by simp)
  clear hbk
  subst HB
  have WI : Hid (∀ (X : World), Calls Try.prog 37 #[.agg #[.int .i64 k, .int .i64 o], .int .i64 (n : Int)] X fun e w' => e = .returned (.bool true) ∧ Below X.heap.size X w') := Lib.hid (by
    intro X
    rcases HNO.out with ⟨h1, h2, -⟩ | ⟨-, h2, h3, h4, -⟩
    · subst h1 h2; exact within_ok _ X
    · exact within_err k o n X h2 h3 h4)
  have MC : Hid (∀ X : World, ∃ L cd, (k = 0 → L = l ∧ cd = 0) ∧ Calls Try.prog 25 #[Clk.time y2 m2 d2 h2 mi2 s2] X (Ent.MarP X L cd)) := Lib.hid (by
    intro X
    refine ⟨_, _, ?_, marshalV_any y2 m2 d2 h2 mi2 s2 X⟩
    intro hk
    rcases HNO.out with ⟨h1, h2, h3, h4⟩ | ⟨h1, -⟩
    · exact ⟨h4.symm, by unfold valC; rw [h3]; rfl⟩
    · exact absurd hk h1)
  clear HNO
  have t5 : (w4.alloc (.cells #[.int .i64 y2, .int .i64 m2, .int .i64 d2, .int .i64 h2, .int .i64 mi2, .int .i64 s2] 28)).heap[w4.heap.size]? = _ := bk_new rfl
  have b4' := two_belowK BE2.out hb4 BE2.out.size
  have BE4 := Lib.hid (b4'.alloc b4'.size (.cells #[.int .i64 y2, .int .i64 m2, .int .i64 d2, .int .i64 h2, .int .i64 mi2, .int .i64 s2] 28))
  have T34 := Lib.hid (bk_old (o' := (.cells #[.int .i64 y2, .int .i64 m2, .int .i64 d2, .int .i64 h2, .int .i64 mi2, .int .i64 s2] 28)) (stayK T3.out hb4))
  have T44 := Lib.hid (bk_old (o' := (.cells #[.int .i64 y2, .int .i64 m2, .int .i64 d2, .int .i64 h2, .int .i64 mi2, .int .i64 s2] 28)) (stayK T4.out hb4))
  clear hb4 QQ BE2 T3 T4 b4'
  generalize w4.heap.size = b5 at *
  generalize w4.alloc (.cells #[.int .i64 y2, .int .i64 m2, .int .i64 d2, .int .i64 h2, .int .i64 mi2, .int .i64 s2] 28) = w5 at *
  clear w4
  have T54 := Lib.hid t5
  clear t5
  obtain ⟨ya, ma, da, ha, mia, sa, yb, mb, db, hb, mib, sb, k2, o2, PP, hno⟩ : ∃ ya ma da ha mia sa yb mb db hb mib sb k2 o2, Hid (Calls Try.prog 52 #[.slice A n c] w5 fun e w' => e = .returned (ppR ya ma da ha mia sa yb mb db hb mib sb k2 o2) ∧ Below w5.heap.size w5 w') ∧
      ((k2 = 0 ∧ o2 = 0 ∧ pairB ya ma da ha mia sa yb mb db hb mib sb = true ∧ l = pairL ya ma da ha mia sa yb mb db hb mib sb) ∨ (¬ k2 = 0 ∧ 0 < k2 ∧ 0 ≤ o2 ∧ o2 ≤ (n : Int) ∧ (ya = 0 ∧ ma = 0 ∧ da = 0 ∧ ha = 0 ∧ mia = 0 ∧ sa = 0 ∧ yb = 0 ∧ mb = 0 ∧ db = 0 ∧ hb = 0 ∧ mib = 0 ∧ sb = 0) ∧ ∀ ya ma da ha mia sa yb mb db hb mib sb, pairB ya ma da ha mia sa yb mb db hb mib sb = true → l ≠ pairL ya ma da ha mia sa yb mb db hb mib sb)) := by
    rcases NA.out w5 BE4.out with ⟨ya, ma, da, ha, mia, sa, yb, mb, db, hb, mib, sb, h1, h2, h3⟩ | ⟨h1, k, o, h2, h3, h4, h5⟩
    · exact ⟨ya, ma, da, ha, mia, sa, yb, mb, db, hb, mib, sb, 0, 0, Lib.hid h3, .inl ⟨rfl, rfl, h1, h2⟩⟩
    · exact ⟨0, 0, 0, 0, 0, 0, 0, 0, 0, 0, 0, 0, k, o, Lib.hid h5, .inr ⟨by omega, h2, h3, by omega, ⟨rfl, rfl, rfl, rfl, rfl, rfl, rfl, rfl, rfl, rfl, rfl, rfl⟩, h1⟩⟩
  have HNO := Lib.hid hno
  clear hno NA
  go_upto_region 6 with (first | (go_at_call 52; go_must (go_fit PP.out); rintro e w6 ⟨rfl, hb6⟩))
  have t7 : (((w6.alloc (.cells #[.int .i64 ya, .int .i64 ma, .int .i64 da, .int .i64 ha, .int .i64 mia, .int .i64 sa] 28)).alloc (.cells #[.int .i64 yb, .int .i64 mb, .int .i64 db, .int .i64 hb, .int .i64 mib, .int .i64 sb] 28)).alloc (.cells #[.int .i64 k2, .int .i64 o2] 36)).heap[w6.heap.size]? = _ := bk_old (bk_old (bk_new rfl))
  have t8 : (((w6.alloc (.cells #[.int .i64 ya, .int .i64 ma, .int .i64 da, .int .i64 ha, .int .i64 mia, .int .i64 sa] 28)).alloc (.cells #[.int .i64 yb, .int .i64 mb, .int .i64 db, .int .i64 hb, .int .i64 mib, .int .i64 sb] 28)).alloc (.cells #[.int .i64 k2, .int .i64 o2] 36)).heap[w6.heap.size + 1]? = _ := bk_old (bk_new (by simp))
  have t9 : (((w6.alloc (.cells #[.int .i64 ya, .int .i64 ma, .int .i64 da, .int .i64 ha, .int .i64 mia, .int .i64 sa] 28)).alloc (.cells #[.int .i64 yb, .int .i64 mb, .int .i64 db, .int .i64 hb, .int .i64 mib, .int .i64 sb] 28)).alloc (.cells #[.int .i64 k2, .int .i64 o2] 36)).heap[w6.heap.size + 1 + 1]? = _ := bk_new (by simp)
  have b6' := two_belowK BE4.out hb6 BE4.out.size
  have BE6 := Lib.hid (((b6'.alloc b6'.size (.cells #[.int .i64 ya, .int .i64 ma, .int .i64 da, .int .i64 ha, .int .i64 mia, .int .i64 sa] 28)).alloc (by have := b6'.size; simp; omega) (.cells #[.int .i64 yb, .int .i64 mb, .int .i64 db, .int .i64 hb, .int .i64 mib, .int .i64 sb] 28)).alloc (by have := b6'.size; simp; omega) (.cells #[.int .i64 k2, .int .i64 o2] 36))
  have T36 := Lib.hid (bk_old (o' := (.cells #[.int .i64 k2, .int .i64 o2] 36)) (bk_old (o' := (.cells #[.int .i64 yb, .int .i64 mb, .int .i64 db, .int .i64 hb, .int .i64 mib, .int .i64 sb] 28)) (bk_old (o' := (.cells #[.int .i64 ya, .int .i64 ma, .int .i64 da, .int .i64 ha, .int .i64 mia, .int .i64 sa] 28)) (stayK T34.out hb6))))
  have T46 := Lib.hid (bk_old (o' := (.cells #[.int .i64 k2, .int .i64 o2] 36)) (bk_old (o' := (.cells #[.int .i64 yb, .int .i64 mb, .int .i64 db, .int .i64 hb, .int .i64 mib, .int .i64 sb] 28)) (bk_old (o' := (.cells #[.int .i64 ya, .int .i64 ma, .int .i64 da, .int .i64 ha, .int .i64 mia, .int .i64 sa] 28)) (stayK T44.out hb6))))
  have T56 := Lib.hid (bk_old (o' := (.cells #[.int .i64 k2, .int .i64 o2] 36)) (bk_old (o' := (.cells #[.int .i64 yb, .int .i64 mb, .int .i64 db, .int .i64 hb, .int .i64 mib, .int .i64 sb] 28)) (bk_old (o' := (.cells #[.int .i64 ya, .int .i64 ma, .int .i64 da, .int .i64 ha, .int .i64 mia, .int .i64 sa] 28)) (stayK T54.out hb6))))
  clear hb6 PP BE4 T34 T44 T54 b6'
  generalize w6.heap.size + 1 + 1 = b9 at *
  generalize w6.heap.size + 1 = b8 at *
  generalize w6.heap.size = b7 at *
  generalize (((w6.alloc (.cells #[.int .i64 ya, .int .i64 ma, .int .i64 da, .int .i64 ha, .int .i64 mia, .int .i64 sa] 28)).alloc (.cells #[.int .i64 yb, .int .i64 mb, .int .i64 db, .int .i64 hb, .int .i64 mib, .int .i64 sb] 28)).alloc (.cells #[.int .i64 k2, .int .i64 o2] 36)) = w7 at *
  clear w6
  have T76 := Lib.hid t7
  have T86 := Lib.hid t8
  have T96 := Lib.hid t9
  have QQ := Lib.hid (NB.out w7 BE6.out)
  clear NB t7 t8 t9
  go_upto_region 7 with (first | (go_at_call 53; go_must (go_fit QQ.out); rintro e w8 ⟨ya2, ma2, da2, ha2, mia2, sa2, yb2, mb2, db2, hb2, mib2, sb2, b, rfl, q1, q2, hb8⟩))
  have hm' : ((ya2 = ya ∧ ma2 = ma ∧ da2 = da ∧ ha2 = ha ∧ mia2 = mia ∧ sa2 = sa) ∧ (yb2 = yb ∧ mb2 = mb ∧ db2 = db ∧ hb2 = hb ∧ mib2 = mib ∧ sb2 = sb)) ∧ (b = true ↔ k2 = 0) := by
    rcases HNO.out with ⟨h1, h2, h3, h4⟩ | ⟨h1, h2, h3, h4, h5, h6⟩
    · cases b with
      | true => exact ⟨pair_inj (q1 rfl).1 h3 ((q1 rfl).2.symm.trans h4), by simp [h1]⟩
      | false => exact absurd h4 ((q2 rfl).2 _ _ _ _ _ _ _ _ _ _ _ _ h3)
    · cases b with
      | true => exact absurd (q1 rfl).2 (h6 _ _ _ _ _ _ _ _ _ _ _ _ (q1 rfl).1)
      | false =>
        obtain ⟨a0, a1, a2, a3, a4, a5, a6, a7, a8, a9, a10, a11⟩ := (q2 rfl).1
        obtain ⟨c0, c1, c2, c3, c4, c5, c6, c7, c8, c9, c10, c11⟩ := h5
        exact ⟨⟨⟨a0.trans c0.symm, a1.trans c1.symm, a2.trans c2.symm, a3.trans c3.symm, a4.trans c4.symm, a5.trans c5.symm⟩, ⟨a6.trans c6.symm, a7.trans c7.symm, a8.trans c8.symm, a9.trans c9.symm, a10.trans c10.symm, a11.trans c11.symm⟩⟩, by simp [h1]⟩
  obtain ⟨⟨⟨hya2, hma2, hda2, hha2, hmia2, hsa2⟩, ⟨hyb2, hmb2, hdb2, hhb2, hmib2, hsb2⟩⟩, hbk⟩ := hm'
  subst hya2 hma2 hda2 hha2 hmia2 hsa2 hyb2 hmb2 hdb2 hhb2 hmib2 hsb2
  clear q1 q2
  have HB : b = decide (k2 = 0) := by
    cases b with
    | true => simp [hbk.1 rfl]
    | false => simp; exact fun h => absurd (hbk.2 h) (by simp)
  clear hbk
  subst HB
  have WJ : Hid (∀ (X : World), Calls Try.prog 37 #[.agg #[.int .i64 k2, .int .i64 o2], .int .i64 (n : Int)] X fun e w' => e = .returned (.bool true) ∧ Below X.heap.size X w') := Lib.hid (by
    intro X
    rcases HNO.out with ⟨h1, h2, -⟩ | ⟨-, h2, h3, h4, -⟩
    · subst h1 h2; exact within_ok _ X
    · exact within_err k2 o2 n X h2 h3 h4)
  have MN : Hid (∀ X : World, ∃ L cd, (k2 = 0 → L = l ∧ cd = 0) ∧ Calls Try.prog 54 #[Clk.time ya2 ma2 da2 ha2 mia2 sa2, Clk.time yb2 mb2 db2 hb2 mib2 sb2] X (Ent.MarP X L cd)) := Lib.hid (by
    intro X
    refine ⟨_, _, ?_, marpair_any ya2 ma2 da2 ha2 mia2 sa2 yb2 mb2 db2 hb2 mib2 sb2 X⟩
    intro hk
    rcases HNO.out with ⟨h1, h2, h3, h4⟩ | ⟨h1, -⟩
    · exact ⟨h4.symm, (pair_yes h3).2.2.1⟩
    · exact absurd hk h1)
  clear HNO
  have t10 : ((w8.alloc (.cells #[.int .i64 ya2, .int .i64 ma2, .int .i64 da2, .int .i64 ha2, .int .i64 mia2, .int .i64 sa2] 28)).alloc (.cells #[.int .i64 yb2, .int .i64 mb2, .int .i64 db2, .int .i64 hb2, .int .i64 mib2, .int .i64 sb2] 28)).heap[w8.heap.size]? = _ := bk_old (bk_new rfl)
  have t11 : ((w8.alloc (.cells #[.int .i64 ya2, .int .i64 ma2, .int .i64 da2, .int .i64 ha2, .int .i64 mia2, .int .i64 sa2] 28)).alloc (.cells #[.int .i64 yb2, .int .i64 mb2, .int .i64 db2, .int .i64 hb2, .int .i64 mib2, .int .i64 sb2] 28)).heap[w8.heap.size + 1]? = _ := bk_new (by simp)
  have b8' := two_belowK BE6.out hb8 BE6.out.size
  have BE8 := Lib.hid ((b8'.alloc b8'.size (.cells #[.int .i64 ya2, .int .i64 ma2, .int .i64 da2, .int .i64 ha2, .int .i64 mia2, .int .i64 sa2] 28)).alloc (by have := b8'.size; simp; omega) (.cells #[.int .i64 yb2, .int .i64 mb2, .int .i64 db2, .int .i64 hb2, .int .i64 mib2, .int .i64 sb2] 28))
  have T38 := Lib.hid (bk_old (o' := (.cells #[.int .i64 yb2, .int .i64 mb2, .int .i64 db2, .int .i64 hb2, .int .i64 mib2, .int .i64 sb2] 28)) (bk_old (o' := (.cells #[.int .i64 ya2, .int .i64 ma2, .int .i64 da2, .int .i64 ha2, .int .i64 mia2, .int .i64 sa2] 28)) (stayK T36.out hb8)))
  have T48 := Lib.hid (bk_old (o' := (.cells #[.int .i64 yb2, .int .i64 mb2, .int .i64 db2, .int .i64 hb2, .int .i64 mib2, .int .i64 sb2] 28)) (bk_old (o' := (.cells #[.int .i64 ya2, .int .i64 ma2, .int .i64 da2, .int .i64 ha2, .int .i64 mia2, .int .i64 sa2] 28)) (stayK T46.out hb8)))
  have T58 := Lib.hid (bk_old (o' := (.cells #[.int .i64 yb2, .int .i64 mb2, .int .i64 db2, .int .i64 hb2, .int .i64 mib2, .int .i64 sb2] 28)) (bk_old (o' := (.cells #[.int .i64 ya2, .int .i64 ma2, .int .i64 da2, .int .i64 ha2, .int .i64 mia2, .int .i64 sa2] 28)) (stayK T56.out hb8)))
  have T78 := Lib.hid (bk_old (o' := (.cells #[.int .i64 yb2, .int .i64 mb2, .int .i64 db2, .int .i64 hb2, .int .i64 mib2, .int .i64 sb2] 28)) (bk_old (o' := (.cells #[.int .i64 ya2, .int .i64 ma2, .int .i64 da2, .int .i64 ha2, .int .i64 mia2, .int .i64 sa2] 28)) (stayK T76.out hb8)))
  have T88 := Lib.hid (bk_old (o' := (.cells #[.int .i64 yb2, .int .i64 mb2, .int .i64 db2, .int .i64 hb2, .int .i64 mib2, .int .i64 sb2] 28)) (bk_old (o' := (.cells #[.int .i64 ya2, .int .i64 ma2, .int .i64 da2, .int .i64 ha2, .int .i64 mia2, .int .i64 sa2] 28)) (stayK T86.out hb8)))
  have T98 := Lib.hid (bk_old (o' := (.cells #[.int .i64 yb2, .int .i64 mb2, .int .i64 db2, .int .i64 hb2, .int .i64 mib2, .int .i64 sb2] 28)) (bk_old (o' := (.cells #[.int .i64 ya2, .int .i64 ma2, .int .i64 da2, .int .i64 ha2, .int .i64 mia2, .int .i64 sa2] 28)) (stayK T96.out hb8)))
  clear hb8 QQ BE6 T36 T46 T56 T76 T86 T96 b8'
  generalize w8.heap.size + 1 = b11 at *
  generalize w8.heap.size = b10 at *
  generalize ((w8.alloc (.cells #[.int .i64 ya2, .int .i64 ma2, .int .i64 da2, .int .i64 ha2, .int .i64 mia2, .int .i64 sa2] 28)).alloc (.cells #[.int .i64 yb2, .int .i64 mb2, .int .i64 db2, .int .i64 hb2, .int .i64 mib2, .int .i64 sb2] 28)) = w9 at *
  clear w8
  obtain ⟨p0, p1, p2, p3, p4, p5⟩ := cells6 T38.out
  obtain ⟨x0, x1⟩ := cells2 T48.out
  obtain ⟨q0, q1, q2, q3, q4, q5⟩ := cells6 T58.out
  obtain ⟨r0, r1, r2, r3, r4, r5⟩ := cells6 T78.out
  obtain ⟨s0, s1, s2, s3, s4, s5⟩ := cells6 T88.out
  obtain ⟨z0, z1⟩ := cells2 T98.out
  obtain ⟨u0, u1, u2, u3, u4, u5⟩ := cells6 t10
  obtain ⟨v0, v1, v2, v3, v4, v5⟩ := cells6 t11
  clear t10 t11
  by_cases hk : k = 0
  · subst hk
    by_cases hk2 : k2 = 0
    · subst hk2
      go_wp2_with fail
      go_must (go_fit (WI.out _))
      rintro e w10 ⟨rfl, hb10⟩
      have BE10 := Lib.hid (two_belowK BE8.out hb10 BE8.out.size)
      have T3x := Lib.hid (stayK T38.out hb10)
      have T7x := Lib.hid (stayK T78.out hb10)
      have T8x := Lib.hid (stayK T88.out hb10)
      have T9x := Lib.hid (stayK T98.out hb10)
      clear hb10 BE8 T38 T48 T58 T78 T88 T98 p0 p1 p2 p3 p4 p5 x0 x1 q0 q1 q2 q3 q4 q5 r0 r1 r2 r3 r4 r5 s0 s1 s2 s3 s4 s5 z0 z1 u0 u1 u2 u3 u4 u5 v0 v1 v2 v3 v4 v5
      obtain ⟨z0, z1⟩ := cells2 T9x.out
      go_wp2_with fail
      go_must (go_fit (WJ.out _))
      rintro e w11 ⟨rfl, hb11⟩
      have BE11 := Lib.hid (two_belowK BE10.out hb11 BE10.out.size)
      have T3y := Lib.hid (stayK T3x.out hb11)
      have T7y := Lib.hid (stayK T7x.out hb11)
      have T8y := Lib.hid (stayK T8x.out hb11)
      clear hb11 BE10 T3x T7x T8x T9x z0 z1
      obtain ⟨p0, p1, p2, p3, p4, p5⟩ := cells6 T3y.out
      obtain ⟨L1, d1, hL1, M1⟩ := MC.out w11
      have M1 := Lib.hid M1
      have HL1 := Lib.hid hL1
      clear hL1
      go_wp2_with fail
      go_must (go_fit M1.out)
      rintro e w12 ⟨A12, c12, rfl, o12, hb12⟩
      have BE12 := Lib.hid (two_belowK BE11.out hb12 BE11.out.size)
      have R12 := Lib.hid o12.rd
      have T7z := Lib.hid (stayK T7y.out hb12)
      have T8z := Lib.hid (stayK T8y.out hb12)
      clear hb12 BE11 o12 M1 T3y T7y T8y p0 p1 p2 p3 p4 p5
      obtain ⟨r0, r1, r2, r3, r4, r5⟩ := cells6 T7z.out
      obtain ⟨s0, s1, s2, s3, s4, s5⟩ := cells6 T8z.out
      obtain ⟨L2, d2, hL2, M2⟩ := MN.out w12
      have M2 := Lib.hid M2
      have HL2 := Lib.hid hL2
      clear hL2
      go_wp2_with fail
      go_must (go_fit M2.out)
      rintro e w13 ⟨A13, c13, rfl, o13, hb13⟩
      have BE13 := Lib.hid (two_belowK BE12.out hb13 BE12.out.size)
      have R1213 := Lib.hid (R12.out.past hb13)
      have R13 := Lib.hid o13.rd
      clear hb13 BE12 R12 o13 M2 T7z T8z r0 r1 r2 r3 r4 r5 s0 s1 s2 s3 s4 s5
      have RB := Lib.hid (HR.out.below BE13.out)
      obtain ⟨rfl, rfl⟩ := HL1.out (by simp)
      have BY1 := Lib.hid (Cur.bytes_any A12 A n c12 n c _ _ w13 (R1213.out.cast (m := n) (by first | exact hl | rfl) rfl) RB.out)
      rw [Cur.eqB_self] at BY1
      obtain ⟨e2, rfl⟩ := HL2.out (by simp)
      subst e2
      have BY2 := Lib.hid (Cur.bytes_any A13 A n c13 n c _ _ w13 (R13.out.cast (m := n) (by first | exact hl | rfl) rfl) RB.out)
      rw [Cur.eqB_self] at BY2
      go_wp2_with fail
      go_must (go_fit BY1.out)
      rintro e w14 ⟨rfl, rfl⟩
      go_wp2_with fail
      go_must (go_fit BY2.out)
      rintro e w14 ⟨rfl, rfl⟩
      go_wp2
      go_ret
      exact ⟨by first | rfl | exact ret_bool (by simp), BE13.out⟩
    · have hkd2 : decide (k2 = 0) = false := by simp [hk2]
      have hkb2 : (k2 == 0) = false := beq_eq_false_iff_ne.2 hk2
      go_wp2_with fail
      go_must (go_fit (WI.out _))
      rintro e w10 ⟨rfl, hb10⟩
      have BE10 := Lib.hid (two_belowK BE8.out hb10 BE8.out.size)
      have T3x := Lib.hid (stayK T38.out hb10)
      have T7x := Lib.hid (stayK T78.out hb10)
      have T8x := Lib.hid (stayK T88.out hb10)
      have T9x := Lib.hid (stayK T98.out hb10)
      clear hb10 BE8 T38 T48 T58 T78 T88 T98 p0 p1 p2 p3 p4 p5 x0 x1 q0 q1 q2 q3 q4 q5 r0 r1 r2 r3 r4 r5 s0 s1 s2 s3 s4 s5 z0 z1 u0 u1 u2 u3 u4 u5 v0 v1 v2 v3 v4 v5
      obtain ⟨z0, z1⟩ := cells2 T9x.out
      go_wp2_with fail
      go_must (go_fit (WJ.out _))
      rintro e w11 ⟨rfl, hb11⟩
      have BE11 := Lib.hid (two_belowK BE10.out hb11 BE10.out.size)
      have T3y := Lib.hid (stayK T3x.out hb11)
      have T7y := Lib.hid (stayK T7x.out hb11)
      have T8y := Lib.hid (stayK T8x.out hb11)
      clear hb11 BE10 T3x T7x T8x T9x z0 z1
      obtain ⟨p0, p1, p2, p3, p4, p5⟩ := cells6 T3y.out
      obtain ⟨L1, d1, hL1, M1⟩ := MC.out w11
      have M1 := Lib.hid M1
      have HL1 := Lib.hid hL1
      clear hL1
      go_wp2_with fail
      go_must (go_fit M1.out)
      rintro e w12 ⟨A12, c12, rfl, o12, hb12⟩
      have BE12 := Lib.hid (two_belowK BE11.out hb12 BE11.out.size)
      have R12 := Lib.hid o12.rd
      have T7z := Lib.hid (stayK T7y.out hb12)
      have T8z := Lib.hid (stayK T8y.out hb12)
      clear hb12 BE11 o12 M1 T3y T7y T8y p0 p1 p2 p3 p4 p5
      obtain ⟨r0, r1, r2, r3, r4, r5⟩ := cells6 T7z.out
      obtain ⟨s0, s1, s2, s3, s4, s5⟩ := cells6 T8z.out
      obtain ⟨L2, d2, hL2, M2⟩ := MN.out w12
      have M2 := Lib.hid M2
      have HL2 := Lib.hid hL2
      clear hL2
      go_wp2_with fail
      go_must (go_fit M2.out)
      rintro e w13 ⟨A13, c13, rfl, o13, hb13⟩
      have BE13 := Lib.hid (two_belowK BE12.out hb13 BE12.out.size)
      have R1213 := Lib.hid (R12.out.past hb13)
      have R13 := Lib.hid o13.rd
      clear hb13 BE12 R12 o13 M2 T7z T8z r0 r1 r2 r3 r4 r5 s0 s1 s2 s3 s4 s5
      have RB := Lib.hid (HR.out.below BE13.out)
      obtain ⟨rfl, rfl⟩ := HL1.out (by simp)
      have BY1 := Lib.hid (Cur.bytes_any A12 A n c12 n c _ _ w13 (R1213.out.cast (m := n) (by first | exact hl | rfl) rfl) RB.out)
      rw [Cur.eqB_self] at BY1
      go_wp2_with fail
      go_must (go_fit BY1.out)
      rintro e w14 ⟨rfl, rfl⟩
      go_wp2
      go_ret
      exact ⟨by first | rfl | exact ret_bool (by simp), BE13.out⟩
  · have hkd : decide (k = 0) = false := by simp [hk]
    have hkb : (k == 0) = false := beq_eq_false_iff_ne.2 hk
    by_cases hk2 : k2 = 0
    · subst hk2
      go_wp2_with fail
      go_must (go_fit (WI.out _))
      rintro e w10 ⟨rfl, hb10⟩
      have BE10 := Lib.hid (two_belowK BE8.out hb10 BE8.out.size)
      have T3x := Lib.hid (stayK T38.out hb10)
      have T7x := Lib.hid (stayK T78.out hb10)
      have T8x := Lib.hid (stayK T88.out hb10)
      have T9x := Lib.hid (stayK T98.out hb10)
      clear hb10 BE8 T38 T48 T58 T78 T88 T98 p0 p1 p2 p3 p4 p5 x0 x1 q0 q1 q2 q3 q4 q5 r0 r1 r2 r3 r4 r5 s0 s1 s2 s3 s4 s5 z0 z1 u0 u1 u2 u3 u4 u5 v0 v1 v2 v3 v4 v5
      obtain ⟨z0, z1⟩ := cells2 T9x.out
      go_wp2_with fail
      go_must (go_fit (WJ.out _))
      rintro e w11 ⟨rfl, hb11⟩
      have BE11 := Lib.hid (two_belowK BE10.out hb11 BE10.out.size)
      have T3y := Lib.hid (stayK T3x.out hb11)
      have T7y := Lib.hid (stayK T7x.out hb11)
      have T8y := Lib.hid (stayK T8x.out hb11)
      clear hb11 BE10 T3x T7x T8x T9x z0 z1
      obtain ⟨p0, p1, p2, p3, p4, p5⟩ := cells6 T3y.out
      obtain ⟨L1, d1, hL1, M1⟩ := MC.out w11
      have M1 := Lib.hid M1
      have HL1 := Lib.hid hL1
      clear hL1
      go_wp2_with fail
      go_must (go_fit M1.out)
      rintro e w12 ⟨A12, c12, rfl, o12, hb12⟩
      have BE12 := Lib.hid (two_belowK BE11.out hb12 BE11.out.size)
      have R12 := Lib.hid o12.rd
      have T7z := Lib.hid (stayK T7y.out hb12)
      have T8z := Lib.hid (stayK T8y.out hb12)
      clear hb12 BE11 o12 M1 T3y T7y T8y p0 p1 p2 p3 p4 p5
      obtain ⟨r0, r1, r2, r3, r4, r5⟩ := cells6 T7z.out
      obtain ⟨s0, s1, s2, s3, s4, s5⟩ := cells6 T8z.out
      obtain ⟨L2, d2, hL2, M2⟩ := MN.out w12
      have M2 := Lib.hid M2
      have HL2 := Lib.hid hL2
      clear hL2
      go_wp2_with fail
      go_must (go_fit M2.out)
      rintro e w13 ⟨A13, c13, rfl, o13, hb13⟩
      have BE13 := Lib.hid (two_belowK BE12.out hb13 BE12.out.size)
      have R1213 := Lib.hid (R12.out.past hb13)
      have R13 := Lib.hid o13.rd
      clear hb13 BE12 R12 o13 M2 T7z T8z r0 r1 r2 r3 r4 r5 s0 s1 s2 s3 s4 s5
      have RB := Lib.hid (HR.out.below BE13.out)
      obtain ⟨rfl, rfl⟩ := HL2.out (by simp)
      have BY2 := Lib.hid (Cur.bytes_any A13 A n c13 n c _ _ w13 (R13.out.cast (m := n) (by first | exact hl | rfl) rfl) RB.out)
      rw [Cur.eqB_self] at BY2
      go_wp2_with fail
      go_must (go_fit BY2.out)
      rintro e w14 ⟨rfl, rfl⟩
      go_wp2
      go_ret
      exact ⟨by first | rfl | exact ret_bool (by simp), BE13.out⟩
    · have hkd2 : decide (k2 = 0) = false := by simp [hk2]
      have hkb2 : (k2 == 0) = false := beq_eq_false_iff_ne.2 hk2
      go_wp2_with fail
      go_must (go_fit (WI.out _))
      rintro e w10 ⟨rfl, hb10⟩
      have BE10 := Lib.hid (two_belowK BE8.out hb10 BE8.out.size)
      have T3x := Lib.hid (stayK T38.out hb10)
      have T7x := Lib.hid (stayK T78.out hb10)
      have T8x := Lib.hid (stayK T88.out hb10)
      have T9x := Lib.hid (stayK T98.out hb10)
      clear hb10 BE8 T38 T48 T58 T78 T88 T98 p0 p1 p2 p3 p4 p5 x0 x1 q0 q1 q2 q3 q4 q5 r0 r1 r2 r3 r4 r5 s0 s1 s2 s3 s4 s5 z0 z1 u0 u1 u2 u3 u4 u5 v0 v1 v2 v3 v4 v5
      obtain ⟨z0, z1⟩ := cells2 T9x.out
      go_wp2_with fail
      go_must (go_fit (WJ.out _))
      rintro e w11 ⟨rfl, hb11⟩
      have BE11 := Lib.hid (two_belowK BE10.out hb11 BE10.out.size)
      have T3y := Lib.hid (stayK T3x.out hb11)
      have T7y := Lib.hid (stayK T7x.out hb11)
      have T8y := Lib.hid (stayK T8x.out hb11)
      clear hb11 BE10 T3x T7x T8x T9x z0 z1
      obtain ⟨p0, p1, p2, p3, p4, p5⟩ := cells6 T3y.out
      obtain ⟨L1, d1, hL1, M1⟩ := MC.out w11
      have M1 := Lib.hid M1
      have HL1 := Lib.hid hL1
      clear hL1
      go_wp2_with fail
      go_must (go_fit M1.out)
      rintro e w12 ⟨A12, c12, rfl, o12, hb12⟩
      have BE12 := Lib.hid (two_belowK BE11.out hb12 BE11.out.size)
      have R12 := Lib.hid o12.rd
      have T7z := Lib.hid (stayK T7y.out hb12)
      have T8z := Lib.hid (stayK T8y.out hb12)
      clear hb12 BE11 o12 M1 T3y T7y T8y p0 p1 p2 p3 p4 p5
      obtain ⟨r0, r1, r2, r3, r4, r5⟩ := cells6 T7z.out
      obtain ⟨s0, s1, s2, s3, s4, s5⟩ := cells6 T8z.out
      obtain ⟨L2, d2, hL2, M2⟩ := MN.out w12
      have M2 := Lib.hid M2
      have HL2 := Lib.hid hL2
      clear hL2
      go_wp2_with fail
      go_must (go_fit M2.out)
      rintro e w13 ⟨A13, c13, rfl, o13, hb13⟩
      have BE13 := Lib.hid (two_belowK BE12.out hb13 BE12.out.size)
      have R1213 := Lib.hid (R12.out.past hb13)
      have R13 := Lib.hid o13.rd
      clear hb13 BE12 R12 o13 M2 T7z T8z r0 r1 r2 r3 r4 r5 s0 s1 s2 s3 s4 s5
      have RB := Lib.hid (HR.out.below BE13.out)
      go_wp2
      go_ret
      exact ⟨by first | rfl | exact ret_bool (by simp), BE13.out⟩
end Go.Proofs.Ytnpmgofkfdpbjaa
