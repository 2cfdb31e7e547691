/- The walk of BasicSkipChanges. -/
import Derived.Test.YtnpmgofkfdpbjaaQBasR
set_option linter.unusedSimpArgs false
set_option linter.unusedVariables false
namespace Go.Proofs.Ytnpmgofkfdpbjaa
open Go.RowKit Kit Tlv Bas Go.Sort

set_option maxHeartbeats 1000000 in
theorem Bas.cmps_any (sa : Bool) (r : Int) (sb : Bool) (q : Int) (sa' : Bool) (r' : Int) (sb' : Bool) (q' : Int) (w : World) : Calls Try.prog 66 #[skV sa r sb q, skV sa' r' sb' q'] w fun e w' => e = .returned (.bool (decide (sa = sa' ∧ r = r' ∧ sb = sb' ∧ q = q'))) ∧ Below w.heap.size w w' := by
  by_cases h : sa = sa' ∧ r = r' ∧ sb = sb' ∧ q = q'
  · have hd : decide (sa = sa' ∧ r = r' ∧ sb = sb' ∧ q = q') = true := by simpa using h
    rw [hd]
    obtain ⟨rfl, rfl, rfl, rfl⟩ := h
    exact sames_any sa r sb q w
  · have hd : decide (sa = sa' ∧ r = r' ∧ sb = sb' ∧ q = q') = false := by simpa using h
    rw [hd]
    have H := Lib.hid h
    clear h hd
    go_enter Try.func66, Try.ntmps66
    go_wp2
    all_goals
      go_ret
      first | exact ⟨rfl, (by repeat' (first | (with_reducible exact Below.refl _ _) | (with_reducible assumption) | (with_reducible refine below_drewN ?_ _) | (with_reducible refine Below.drew ?_) | (with_reducible refine Below.alloc ?_ ?_ _) | (with_reducible refine Below.setCell ?_ ?_ _) | go_size))⟩ | exact absurd ⟨‹sa = sa'›, ‹r = r'›, ‹sb = sb'›, ‹q = q'›⟩ H.out

set_option maxRecDepth 100000 in
set_option maxHeartbeats 4000000 in
theorem BasicSkipChanges.walk (sa : Bool) (r : Int) (sb : Bool) (q : Int) (at_ x : Int) (w : World) (ba : 0 ≤ at_ ∧ at_ ≤ 65535) (bx : 0 ≤ x ∧ x ≤ 255) :
    Calls Try.prog 15 #[skV sa r sb q, .int .u16 at_, .int .u8 x] w fun e w' => e = .returned (.bool true) ∧ Below w.heap.size w w' := by
  have M1 := Lib.hid (fun w => mars_any sa r sb q w)
  have FW := Lib.hid (fun w => fews_any sa r sb q w)
  have HC := Lib.hid (show skiC sa r sb q = 0 ∧ skiB sa r sb q = true ∨ skiC sa r sb q = 8 from by unfold skiC; split <;> simp [*])
  have LL := Lib.hid (ski_len sa r sb q)
  have LP := Lib.hid (fun (h : skiB sa r sb q = true) => show 2 ≤ (skiL sa r sb q).length from by
    have hlen := skiP_len (hr := sa) (hi := sb) (skiB_iff.1 h).2.1 (skiB_iff.1 h).2.2.2.1
    rw [(ski_yes h).2, enc_len (seq_code (by omega))]
    have := (rl_len (encCode_ok (seq_code (k := skiP sa r sb q) (by omega))).2 []).2.1
    omega)
  obtain ⟨a0, a1⟩ := ba
  obtain ⟨b0, b1⟩ := bx
  have IJ := Lib.hid (fun (hv : skiB sa r sb q = true) (sa' : Bool) (r' : Int) (sb' : Bool) (q' : Int) (hv' : skiB sa' r' sb' q' = true) => ski_inj hv hv')
  obtain ⟨L, hL⟩ : ∃ L, skiL sa r sb q = L := ⟨_, rfl⟩
  have HL := Lib.hid hL
  rw [hL] at M1 LL LP IJ
  clear hL
  generalize skiC sa r sb q = cd at *
  go_enter Try.func15, Try.ntmps15
  go_wp2_with fail
  go_must (go_fit (awake16_any _))
  rintro e w0 ⟨rfl, hb0⟩
  have tb := blk1 hb0
  have bel := bel1 hb0
  clear hb0
  obtain ⟨q0, q1, q2, q3⟩ := cells4 tb
  go_wp2_with fail
  go_must (go_fit (FW.out _))
  rintro e w9 ⟨rfl, hb9⟩
  replace tb := stayK tb hb9
  replace bel := two_belowK bel hb9 bel.size
  clear hb9 q0 q1 q2 q3
  obtain ⟨q0, q1, q2, q3⟩ := cells4 tb
  have z9 := Blk_lt tb
  go_wp2_with fail
  go_must (go_fit (M1.out _))
  rintro e w1 ⟨A1, c1, rfl, o1, hb1⟩
  clear q0 q1 q2 q3
  replace tb := stayK tb hb1
  have bz := Blk_lt (stayK tb (Below.refl _ _))
  replace bel := two_belowK bel hb1 bel.size
  clear hb1
  by_cases hcd : cd = 0
  · have hvb : skiB sa r sb q = true := by rcases HC.out with ⟨_, h⟩ | h; exact h; omega
    subst hcd
    have hl2 := LP.out hvb
    have hl3 := LL.out
    obtain ⟨g, rfl⟩ := o1.shape (by omega)
    obtain ⟨i, hi⟩ : ∃ i : Nat, at_ % (L.length : Int) = (i : Int) := ⟨(at_ % (L.length : Int)).toNat, by have := Int.emod_nonneg at_ (show (L.length : Int) ≠ 0 by omega); omega⟩
    have hil : i < L.length := by have := Int.emod_lt_of_pos at_ (show 0 < (L.length : Int) by omega); omega
    have hil' : (i : Int) < (L.length : Int) := by omega
    have ck := o1.cellAt (k := i) hil
    have fk := o1.frozenAt i
    have hge := Own.lt o1
    have o2 := o1.stored i b0 b1
    have tb2 := set_far (c := g) (k := i) tb (by omega) (.int .u8 x)
    have bel2 := Below.setCell bel (p := ⟨g, i, none⟩) (by simp; omega) (.int .u8 x)
    have SS := Lib.hid (set_same (x := x) hil b0 b1)
    have hll : (L.set i (ofI x)).length = L.length := by simp
    have O2 := Lib.hid o2
    have T2 := Lib.hid tb2
    have B2 := Lib.hid bel2
    have hcap := o1.cap
    have hcm := o1.capMax
    have HVB := Lib.hid hvb
    have hbt := bt_lo L i
    have hbt2 := bt_hi L i
    have PA := skparse_any (w1.setCell ⟨g, i, none⟩ (.int .u8 x)) o2.rd (Nat.le_refl _) hcap hcm (by omega)
    clear o1 tb bel o2 tb2 bel2 hvb M1 FW HC LL LP hge
    generalize hold : bt L i = old at *
    go_upto_region 9 with fail
    clear ck fk hi
    generalize w1.setCell ⟨g, i, none⟩ (.int .u8 x) = w2 at *
    rcases PA with ⟨sa', r', sb', q', hv', he, hC⟩ | ⟨hno, code, off, hk1, hk2, hk3, hC⟩
    · have CC := Lib.hid hC
      have EQ : (sa' = sa ∧ r' = r ∧ sb' = sb ∧ q' = q) ↔ x = old := by
        rw [← SS.out]
        constructor
        · rintro ⟨rfl, rfl, rfl, rfl⟩; rw [he]; exact HL.out
        · intro h
          obtain ⟨h1, h2, h3, h4⟩ := IJ.out HVB.out sa' r' sb' q' hv' (h.symm.trans he)
          exact ⟨h1.symm, h2.symm, h3.symm, h4.symm⟩
      have E2 := Lib.hid EQ
      have hmr := mars_any sa' r' sb' q'
      rw [← he, (ski_yes hv').1] at hmr
      have MR := Lib.hid hmr
      have CB := Lib.hid (fun X => cmps_any sa' r' sb' q' sa r sb q X)
      clear EQ hC hmr he hold
      go_wp2_with fail
      go_must (go_fit CC.out)
      rintro e w3 ⟨rfl, hb3⟩
      have T3 := Lib.hid (bk_old (o' := .cells #[.int .i64 0, .int .i64 0] 36) (bk_old (o' := .cells #[.bool sa', .int .i64 r', .bool sb', .int .i64 q'] 71) (stayK T2.out hb3)))
      have U3 : Hid (((w3.alloc (.cells #[.bool sa', .int .i64 r', .bool sb', .int .i64 q'] 71)).alloc (.cells #[.int .i64 0, .int .i64 0] 36)).heap[w3.heap.size]? = _) := Lib.hid (bk_old (bk_new rfl))
      have V3 : Hid (((w3.alloc (.cells #[.bool sa', .int .i64 r', .bool sb', .int .i64 q'] 71)).alloc (.cells #[.int .i64 0, .int .i64 0] 36)).heap[w3.heap.size + 1]? = _) := Lib.hid (bk_new (by simp))
      have RB := Lib.hid (((O2.out.rd.past hb3).allocS (.cells #[.bool sa', .int .i64 r', .bool sb', .int .i64 q'] 71)).allocS (.cells #[.int .i64 0, .int .i64 0] 36))
      have B3 := Lib.hid ((((two_belowK B2.out hb3 B2.out.size)).alloc (two_belowK B2.out hb3 B2.out.size).size (.cells #[.bool sa', .int .i64 r', .bool sb', .int .i64 q'] 71)).alloc (by have := (two_belowK B2.out hb3 B2.out.size).size; simp; omega) (.cells #[.int .i64 0, .int .i64 0] 36))
      clear hb3 CC
      go_upto_region 10 with fail
      generalize (w3.alloc (.cells #[.bool sa', .int .i64 r', .bool sb', .int .i64 q'] 71)).alloc (.cells #[.int .i64 0, .int .i64 0] 36) = w4 at *
      obtain ⟨u0, u1, u2, u3⟩ := cells4 U3.out
      obtain ⟨v0, v1⟩ := cells2 V3.out
      go_wp2_with fail
      go_must (go_fit (MR.out _))
      rintro e w5 ⟨A5, c5, rfl, o5, hb5⟩
      clear u0 u1 u2 u3 v0 v1
      have T5 := Lib.hid (stayK T3.out hb5)
      have U5 := Lib.hid (stayK U3.out hb5)
      have R5 := Lib.hid o5.rd
      have RB5 := Lib.hid (RB.out.past hb5)
      have B5 := Lib.hid (two_belowK B3.out hb5 B3.out.size)
      clear o5 hb5 T3 U3 V3 RB B3
      have BY := Lib.hid (Cur.bytes_any A5 (some ⟨g, 0, none⟩) (L.set i (ofI x)).length c5 L.length c1 _ _ w5 R5.out RB5.out)
      rw [Cur.eqB_self] at BY
      obtain ⟨q0, q1, q2, q3⟩ := cells4 T5.out
      obtain ⟨u0, u1, u2, u3⟩ := cells4 U5.out
      rw [hll] at BY ⊢
      go_wp2_with fail
      go_must (go_fit BY.out)
      rintro e w6 ⟨rfl, rfl⟩
      go_wp2_with fail
      go_must (go_fit (CB.out _))
      rintro e w7 ⟨rfl, hb7⟩
      by_cases hx : x = old
      · have hd := Lib.hid (decide_eq_true (E2.out.2 hx))
        rw [hd.out]
        subst hx
        go_wp2
        go_ret
        exact ⟨by first | rfl | exact ret_bool (by simp), two_belowK B5.out hb7 B5.out.size⟩
      · have hd := Lib.hid (decide_eq_false (fun h => hx (E2.out.1 h)))
        rw [hd.out]
        go_wp2
        go_ret
        exact ⟨by first | rfl | exact ret_bool (by simp [hx]), two_belowK B5.out hb7 B5.out.size⟩
    · have CC := Lib.hid hC
      have hx : ¬ x = old := by
        intro h
        exact hno sa r sb q HVB.out ((SS.out.2 h).trans HL.out.symm)
      have WI := Lib.hid (fun X => within_err code off (L.length : Int) X hk1 hk2 (by rw [hll] at hk3; exact hk3))
      have CB := Lib.hid (fun X => sames_any false 0 false 0 X)
      have hkn : ¬ code = 0 := by omega
      clear hC hno hold
      go_wp2_with fail
      go_must (go_fit CC.out)
      rintro e w3 ⟨rfl, hb3⟩
      have U3 : Hid (((w3.alloc (.cells #[.bool false, .int .i64 0, .bool false, .int .i64 0] 71)).alloc (.cells #[.int .i64 code, .int .i64 off] 36)).heap[w3.heap.size]? = _) := Lib.hid (bk_old (bk_new rfl))
      have V3 : Hid (((w3.alloc (.cells #[.bool false, .int .i64 0, .bool false, .int .i64 0] 71)).alloc (.cells #[.int .i64 code, .int .i64 off] 36)).heap[w3.heap.size + 1]? = _) := Lib.hid (bk_new (by simp))
      have B3 := Lib.hid ((((two_belowK B2.out hb3 B2.out.size)).alloc (two_belowK B2.out hb3 B2.out.size).size (.cells #[.bool false, .int .i64 0, .bool false, .int .i64 0] 71)).alloc (by have := (two_belowK B2.out hb3 B2.out.size).size; simp; omega) (.cells #[.int .i64 code, .int .i64 off] 36))
      clear hb3 CC
      go_upto_region 10 with fail
      generalize (w3.alloc (.cells #[.bool false, .int .i64 0, .bool false, .int .i64 0] 71)).alloc (.cells #[.int .i64 code, .int .i64 off] 36) = w4 at *
      obtain ⟨u0, u1, u2, u3⟩ := cells4 U3.out
      obtain ⟨v0, v1⟩ := cells2 V3.out
      go_wp2_with fail
      go_must (go_fit (CB.out _))
      rintro e w5 ⟨rfl, hb5⟩
      clear u0 u1 u2 u3 v0 v1
      have V5 := Lib.hid (stayK V3.out hb5)
      have B5 := Lib.hid (two_belowK B3.out hb5 B3.out.size)
      obtain ⟨v0, v1⟩ := cells2 V5.out
      clear hb5
      go_wp2_with fail
      go_must (go_fit (WI.out _))
      rintro e w6 ⟨rfl, hb6⟩
      go_wp2
      go_ret
      exact ⟨by first | rfl | exact ret_bool (by simp [hx]), two_belowK B5.out hb6 B5.out.size⟩
  · obtain rfl : cd = 8 := by rcases HC.out with ⟨h, _⟩ | h; exact absurd h hcd; exact h
    go_wp2
    go_ret
    exact ⟨by first | rfl | exact ret_bool (by simp), bel⟩
end Go.Proofs.Ytnpmgofkfdpbjaa
