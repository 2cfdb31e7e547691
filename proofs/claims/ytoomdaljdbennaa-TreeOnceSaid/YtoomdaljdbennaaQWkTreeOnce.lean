/- The walk of TreeOnce. Printed by gen_lawt.py. -/
import Derived.Test.YtoomdaljdbennaaKNE
import Derived.Test.YtoomdaljdbennaaKA
set_option linter.unusedSimpArgs false
set_option linter.unusedVariables false
namespace Go.Proofs.Ytoomdaljdbennaa
open Go.RowKit Kit Cur Tlv Tree

set_option maxRecDepth 100000 in
set_option maxHeartbeats 8000000 in
theorem TreeOnce.walk (A : Option Addr) (n c : Nat) (l : List UInt8) (at_ x : Int) (W : World) (hr : Rd W W.heap.size A n l) (hc : n ≤ c) (hm : c ≤ maxLen) (ba : 0 ≤ at_ ∧ at_ ≤ 65535) (bx : 0 ≤ x ∧ x ≤ 255) :
    Calls Try.prog 5 #[.slice A n c, .int .u16 at_, .int .u8 x] W fun e w' => e = .returned (.bool true) ∧ Below W.heap.size W w' := by
  have hl := hr.len
  obtain ⟨a0, a1⟩ := ba
  obtain ⟨b0, b1⟩ := bx
  by_cases h0 : n = 0
  · subst h0
    go_enter Try.func5, Try.ntmps5
    go_wp2_with fail
    go_must (go_fit (awake3_any _))
    rintro e w1 ⟨rfl, hb1⟩
    go_wp2_with fail
    go_must (go_fit (awake3_any _))
    rintro e w2 ⟨rfl, hb2⟩
    go_wp2
    go_ret
    exact ⟨rfl, two_belowK hb1 hb2 hb1.size⟩
  have h0' : ¬ (n : Int) = 0 := by omega
  have h0b : ((n : Int) == 0) = false := beq_eq_false_iff_ne.2 h0'
  by_cases hn : 1500 < n
  · have hn' : (1500 : Int) < (n : Int) := by omega
    go_enter Try.func5, Try.ntmps5
    go_wp2_with fail
    go_must (go_fit (awake3_any _))
    rintro e w1 ⟨rfl, hb1⟩
    go_wp2_with fail
    go_must (go_fit (awake3_any _))
    rintro e w2 ⟨rfl, hb2⟩
    go_wp2
    go_ret
    exact ⟨rfl, two_belowK hb1 hb2 hb1.size⟩
  have hn' : ¬ (1500 : Int) < (n : Int) := by omega
  have PAR := Lib.hid (par_of (l := l) (by omega))
  have PSD := Lib.hid (fun h => (parse_ok (l := l) (by omega) h).1)
  rw [hl] at PAR
  have RD1 := Lib.hid (fun (X : World) (hb : Below W.heap.size W X) => treeparse_any X (hr.below hb) hb.size hc hm (by omega))
  have HRB := Lib.hid (fun (X : World) (hb : Below W.heap.size W X) => hr.below hb)
  generalize withinT l 16 = q at *
  obtain ⟨t, qc, qo⟩ := q
  simp only [] at PAR PSD
  clear hr
  obtain ⟨i, hi⟩ : ∃ i : Nat, at_ % (n : Int) = (i : Int) := ⟨(at_ % (n : Int)).toNat, by have := Int.emod_nonneg at_ (show (n : Int) ≠ 0 by omega); omega⟩
  have hil : i < n := by have := Int.emod_lt_of_pos at_ (show 0 < (n : Int) by omega); omega
  have hil' : (i : Int) < (n : Int) := by omega
  go_enter Try.func5, Try.ntmps5
  go_wp2_with fail
  go_must (go_fit (awake3_any _))
  rintro e w1 ⟨rfl, hb1⟩
  have BE := Lib.hid hb1
  clear hb1
  have P1 := Lib.hid (RD1.out w1 BE.out)
  clear RD1
  go_wp2_with fail
  go_must (go_fit P1.out)
  rintro e w2 ⟨v2, rfl, hn2, hb2⟩
  replace hn2 := hn2.fresh
  replace BE := Lib.hid (two_belowK BE.out hb2 BE.out.size)
  clear hb2
  obtain ⟨A2, c2, K2, ck2, rfl⟩ := hn2.formV
  have Na := Lib.hid hn2
  clear hn2
  replace Na := Lib.hid (Na.out.allocS (.cells #[.int .i64 t.cls, .int .i64 t.num, .bool t.cons, .slice A2 t.con.length c2, .slice K2 t.kids.length ck2] 26))
  replace BE := Lib.hid (BE.out.alloc BE.out.size (.cells #[.int .i64 t.cls, .int .i64 t.num, .bool t.cons, .slice A2 t.con.length c2, .slice K2 t.kids.length ck2] 26))
  replace Na := Lib.hid (Na.out.allocS (.cells #[.int .i64 qc, .int .i64 qo] 29))
  replace BE := Lib.hid (BE.out.alloc BE.out.size (.cells #[.int .i64 qc, .int .i64 qo] 29))
  have Tan : Hid (((w2.alloc (.cells #[.int .i64 t.cls, .int .i64 t.num, .bool t.cons, .slice A2 t.con.length c2, .slice K2 t.kids.length ck2] 26)).alloc (.cells #[.int .i64 qc, .int .i64 qo] 29)).heap[w2.heap.size]? = some (.cells #[.int .i64 t.cls, .int .i64 t.num, .bool t.cons, .slice A2 t.con.length c2, .slice K2 t.kids.length ck2] 26 (0, 0))) := Lib.hid (bk_old (bk_new rfl))
  have Tae : Hid (((w2.alloc (.cells #[.int .i64 t.cls, .int .i64 t.num, .bool t.cons, .slice A2 t.con.length c2, .slice K2 t.kids.length ck2] 26)).alloc (.cells #[.int .i64 qc, .int .i64 qo] 29)).heap[w2.heap.size + 1]? = some (.cells #[.int .i64 qc, .int .i64 qo] 29 (0, 0))) := Lib.hid (bk_new (by simp))
  clear P1
  by_cases hz : qc = 0
  · subst hz
    have hqo : qo = 0 := by rcases PAR.out.err with h | h <;> omega
    subst hqo
    have PS := Lib.hid (PSD.out rfl)
    clear PSD
    have P3 := Lib.hid (treeencode_any 16 _ _ _ t Na.out InB.lt PAR.out.count PS.out.lens (by rw [PS.out.bytes]; omega))
    rw [show encB 16 t = l from by unfold encB; rw [if_pos PS.out.valid, PS.out.bytes], show encC t = 0 from by unfold encC; rw [if_pos PS.out.valid]] at P3
    obtain ⟨x0, x1⟩ := cells2 Tae.out
    obtain ⟨u0, u1, u2, u3, u4⟩ := cells5 Tan.out
    go_wp2_with fail
    go_must (go_fit P3.out)
    rintro e w3 ⟨A3, c3, rfl, ho3, hb3⟩
    clear x0 x1
    clear u0 u1 u2 u3 u4
    clear P3
    replace Tan := Lib.hid (stayK Tan.out hb3)
    replace Tae := Lib.hid (stayK Tae.out hb3)
    replace Na := Lib.hid (Na.out.past hb3)
    replace BE := Lib.hid (two_belowK BE.out hb3 BE.out.size)
    clear hb3
    have Rg := Lib.hid (show Rd w3 w3.heap.size A3 n l from by have h := ho3.rd; rw [hl] at h; exact h)
    clear ho3
    have ow0 : Own (w3.alloc (.cells #[] 5)) w3.heap.size (some ⟨w3.heap.size, 0, none⟩) 0 0 [] := by
      have h := Own.lit (base := w3.heap.size) w3 [] (Nat.le_refl _) (Nat.zero_le _)
      simpa [vs] using h
    have rc0 := ((HRB.out _ BE.out).more BE.out.size).alloc (Nat.le_refl _) (.cells #[] 5)
    go_upto_region 8 with (first | (at_builtin; go_must (refine app rfl (.tmp 43) (.tmp 44) rfl rfl ow0 rfl rc0 (by simp; omega) (by simp) ?_); intro A4 c4 w4 ho4 hg4 hb4 hs4))
    simp only [List.length_nil, Nat.zero_add, List.nil_append] at ho4
    obtain ⟨g, rfl⟩ := ho4.shape (by omega)
    have hil2 : i < l.length := by omega
    have hge := Own.lt ho4
    have hcap := ho4.cap
    have hcm := ho4.capMax
    have ck := ho4.cellAt (k := i) hil
    have fk := ho4.frozenAt i
    have o2 := ho4.stored i b0 b1
    have hx : Below w3.heap.size w3 w4 := ((Below.refl _ _).alloc (Nat.le_refl _) (.cells #[] 5)).trans hb4
    have hx2 := Below.setCell hx (p := ⟨g, i, none⟩) (by simp; omega) (.int .u8 x)
    clear hx ow0 rc0 hb4 hg4 hs4 ho4
    have O2 := Lib.hid o2
    have HX := Lib.hid hx2
    clear o2 hx2
    go_upto_region 9 with fail
    clear ck fk hi
    have hx2 := HX.out
    generalize w4.setCell ⟨g, i, none⟩ (.int .u8 x) = w5 at *
    clear HX
    replace Tan := Lib.hid (stayK Tan.out hx2)
    replace Tae := Lib.hid (stayK Tae.out hx2)
    replace Na := Lib.hid (Na.out.past hx2)
    replace Rg := Lib.hid (Rg.out.past hx2)
    replace BE := Lib.hid (two_belowK BE.out hx2 BE.out.size)
    clear hx2
    have Ro := Lib.hid O2.out.rd
    clear O2
    obtain ⟨l', hl'⟩ : ∃ l', l.set i (ofI x) = l' := ⟨_, rfl⟩
    have hl2 : l'.length = n := by rw [← hl', List.length_set]; exact hl
    rw [hl'] at Ro
    have PAR2 := Lib.hid (par_of (l := l') (by omega))
    have PSD2 := Lib.hid (fun h => (parse_ok (l := l') (by omega) h).1)
    rw [hl2] at PAR2
    have P4 := Lib.hid (treeparse_any w5 Ro.out (Nat.le_refl _) hcap hcm (by omega))
    generalize withinT l' 16 = q2 at *
    obtain ⟨t', qc', qo'⟩ := q2
    simp only [] at PAR2 PSD2
    clear hl'
    go_wp2_with fail
    go_must (go_fit P4.out)
    rintro e w6 ⟨v6, rfl, hn6, hb6⟩
    replace hn6 := hn6.fresh
    replace Tan := Lib.hid (stayK Tan.out hb6)
    replace Tae := Lib.hid (stayK Tae.out hb6)
    replace Na := Lib.hid (Na.out.past hb6)
    replace Rg := Lib.hid (Rg.out.past hb6)
    replace Ro := Lib.hid (Ro.out.past hb6)
    replace BE := Lib.hid (two_belowK BE.out hb6 BE.out.size)
    clear hb6
    obtain ⟨A6, c6, K6, ck6, rfl⟩ := hn6.formV
    have Nb := Lib.hid hn6
    clear hn6
    replace Tan := Lib.hid (bk_old (o' := (.cells #[.int .i64 t'.cls, .int .i64 t'.num, .bool t'.cons, .slice A6 t'.con.length c6, .slice K6 t'.kids.length ck6] 26)) Tan.out)
    replace Tae := Lib.hid (bk_old (o' := (.cells #[.int .i64 t'.cls, .int .i64 t'.num, .bool t'.cons, .slice A6 t'.con.length c6, .slice K6 t'.kids.length ck6] 26)) Tae.out)
    replace Na := Lib.hid (Na.out.allocS (.cells #[.int .i64 t'.cls, .int .i64 t'.num, .bool t'.cons, .slice A6 t'.con.length c6, .slice K6 t'.kids.length ck6] 26))
    replace Nb := Lib.hid (Nb.out.allocS (.cells #[.int .i64 t'.cls, .int .i64 t'.num, .bool t'.cons, .slice A6 t'.con.length c6, .slice K6 t'.kids.length ck6] 26))
    replace Rg := Lib.hid (Rg.out.allocS (.cells #[.int .i64 t'.cls, .int .i64 t'.num, .bool t'.cons, .slice A6 t'.con.length c6, .slice K6 t'.kids.length ck6] 26))
    replace Ro := Lib.hid (Ro.out.allocS (.cells #[.int .i64 t'.cls, .int .i64 t'.num, .bool t'.cons, .slice A6 t'.con.length c6, .slice K6 t'.kids.length ck6] 26))
    replace BE := Lib.hid (BE.out.alloc BE.out.size (.cells #[.int .i64 t'.cls, .int .i64 t'.num, .bool t'.cons, .slice A6 t'.con.length c6, .slice K6 t'.kids.length ck6] 26))
    replace Tan := Lib.hid (bk_old (o' := (.cells #[.int .i64 qc', .int .i64 qo'] 29)) Tan.out)
    replace Tae := Lib.hid (bk_old (o' := (.cells #[.int .i64 qc', .int .i64 qo'] 29)) Tae.out)
    replace Na := Lib.hid (Na.out.allocS (.cells #[.int .i64 qc', .int .i64 qo'] 29))
    replace Nb := Lib.hid (Nb.out.allocS (.cells #[.int .i64 qc', .int .i64 qo'] 29))
    replace Rg := Lib.hid (Rg.out.allocS (.cells #[.int .i64 qc', .int .i64 qo'] 29))
    replace Ro := Lib.hid (Ro.out.allocS (.cells #[.int .i64 qc', .int .i64 qo'] 29))
    replace BE := Lib.hid (BE.out.alloc BE.out.size (.cells #[.int .i64 qc', .int .i64 qo'] 29))
    have Tbn : Hid (((w6.alloc (.cells #[.int .i64 t'.cls, .int .i64 t'.num, .bool t'.cons, .slice A6 t'.con.length c6, .slice K6 t'.kids.length ck6] 26)).alloc (.cells #[.int .i64 qc', .int .i64 qo'] 29)).heap[w6.heap.size]? = some (.cells #[.int .i64 t'.cls, .int .i64 t'.num, .bool t'.cons, .slice A6 t'.con.length c6, .slice K6 t'.kids.length ck6] 26 (0, 0))) := Lib.hid (bk_old (bk_new rfl))
    have Tbe : Hid (((w6.alloc (.cells #[.int .i64 t'.cls, .int .i64 t'.num, .bool t'.cons, .slice A6 t'.con.length c6, .slice K6 t'.kids.length ck6] 26)).alloc (.cells #[.int .i64 qc', .int .i64 qo'] 29)).heap[w6.heap.size + 1]? = some (.cells #[.int .i64 qc', .int .i64 qo'] 29 (0, 0))) := Lib.hid (bk_new (by simp))
    clear P4
    have RB := HRB.out _ BE.out
    have P5 := Lib.hid (bytesK _ _ n c3 n c l l _ Rg.out (RB.more BE.out.size))
    rw [Cur.eqB_self] at P5
    clear RB
    go_wp2_with fail
    go_must (go_fit P5.out)
    rintro e w7 ⟨rfl, rfl⟩
    clear P5
    by_cases hz2 : qc' = 0
    · have PS2 := Lib.hid (PSD2.out hz2)
      subst hz2
      have EQ : eqT 16 t t' = Cur.eqB l' l := by
        rw [Bool.eq_iff_iff, eqT_iff PAR.out.fits]
        unfold Cur.eqB
        rw [decide_eq_true_eq]
        constructor
        · rintro rfl; rw [← PS2.out.bytes, PS.out.bytes]
        · intro h
          subst h
          have h1 := PS.out.lens
          have e1 := read_back 16 17 t (fits_le PS.out.fits (by decide)) PS.out.shaped PS.out.lens (depthT_le 16 t) []
          have e2 := read_back 16 17 t' (fits_le PS2.out.fits (by decide)) PS2.out.shaped PS2.out.lens (depthT_le 16 t') []
          rw [PS.out.bytes] at e1
          rw [PS2.out.bytes, e1] at e2
          injection e2
      have P6 := Lib.hid (nodeS Na.out Nb.out PAR.out.count)
      rw [EQ] at P6
      clear EQ PS PS2 PSD2
      obtain ⟨x0, x1⟩ := cells2 Tbe.out
      obtain ⟨u0, u1, u2, u3, u4⟩ := cells5 Tan.out
      obtain ⟨v0, v1, v2, v3, v4⟩ := cells5 Tbn.out
      go_wp2_with fail
      go_must (go_fit P6.out)
      rintro e w8 ⟨rfl, hb8⟩
      clear x0 x1
      clear u0 u1 u2 u3 u4 v0 v1 v2 v3 v4
      clear P6
      replace Tan := Lib.hid (stayK Tan.out hb8)
      replace Tae := Lib.hid (stayK Tae.out hb8)
      replace Tbn := Lib.hid (stayK Tbn.out hb8)
      replace Tbe := Lib.hid (stayK Tbe.out hb8)
      replace Na := Lib.hid (Na.out.past hb8)
      replace Nb := Lib.hid (Nb.out.past hb8)
      replace Rg := Lib.hid (Rg.out.past hb8)
      replace Ro := Lib.hid (Ro.out.past hb8)
      replace BE := Lib.hid (two_belowK BE.out hb8 BE.out.size)
      clear hb8
      have RB := HRB.out _ BE.out
      have P7 := Lib.hid (bytesK _ _ n c4 n c l' l _ Ro.out (RB.more BE.out.size))
      clear RB
      generalize Cur.eqB l' l = eb at *
      go_wp2_with fail
      go_must (go_fit P7.out)
      rintro e w9 ⟨rfl, rfl⟩
      go_wp2
      go_ret
      exact ⟨by first | rfl | exact ret_bool (by simp), BE.out⟩
    · obtain ⟨x0, x1⟩ := cells2 Tbe.out
      go_wp2
      go_ret
      exact ⟨rfl, BE.out⟩
  · have hzt := PAR.out.zero hz
    have hpos : 0 < qc := by rcases PAR.out.err with h | h <;> omega
    clear PSD
    subst hzt
    have P3 := Lib.hid (nodeS (M := 0) (e := 16) Na.out (NodeR.zero 16 _ _) PAR.out.count)
    rw [eqT_self PAR.out.fits] at P3
    simp only [nodeV, T.zero, T.cls, T.num, T.cons, T.con, T.kids, List.length_nil] at P3 Tan Tae Na BE
    obtain ⟨x0, x1⟩ := cells2 Tae.out
    obtain ⟨u0, u1, u2, u3, u4⟩ := cells5 Tan.out
    go_wp2_with fail
    go_must (go_fit P3.out)
    rintro e w3 ⟨rfl, hb3⟩
    clear x0 x1
    clear u0 u1 u2 u3 u4
    clear P3
    replace Tan := Lib.hid (stayK Tan.out hb3)
    replace Tae := Lib.hid (stayK Tae.out hb3)
    replace Na := Lib.hid (Na.out.past hb3)
    replace BE := Lib.hid (two_belowK BE.out hb3 BE.out.size)
    clear hb3
    go_wp2
    go_ret
    exact ⟨rfl, BE.out⟩
end Go.Proofs.Ytoomdaljdbennaa
