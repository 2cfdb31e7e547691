/- The walk of TlvLengths. -/
import Derived.Test.YtjdnjmggpomhcaaTlvL
set_option linter.unusedSimpArgs false
set_option linter.unusedVariables false
namespace Go.Proofs.Ytjdnjmggpomhcaa
open Go.RowKit Kit Tlv

set_option maxRecDepth 100000 in
set_option maxHeartbeats 4000000 in
theorem TlvLengths.walk (n : Int) (a0 : Option Addr) (len0 cap0 : Nat) (l0 : List UInt8) (w : World) (bd : -9223372036854775808 ≤ n ∧ n ≤ 9223372036854775807) (rd0 : Rd w w.heap.size a0 len0 l0) (hc0 : len0 ≤ cap0) (hm0 : cap0 ≤ maxLen) :
    Calls Try.prog 8 #[.int .i64 n, .slice a0 len0 cap0] w fun e w' => e = .returned (.bool true) ∧ Below w.heap.size w w' := by
  clear hc0 hm0
  by_cases hbig : 2000 < len0
  · go_enter Try.func8, Try.ntmps8
    go_wp2_with fail
    refine (awake2_any _).mono ?_
    rintro e w1 ⟨rfl, hb1⟩
    go_wp2_with fail
    refine (awake2_any _).mono ?_
    rintro e w2 ⟨rfl, hb2⟩
    go_wp2_with fail
    go_ret
    exact ⟨rfl, hb1.trans (hb2.mono hb1.size)⟩
  have LN := Lib.hid (fun w => length_any n w)
  have SN := Lib.hid (fun w => reflength_any n w)
  have P := Lib.hid (fun h => rl_len (n := n) h l0)
  have hl := Lib.hid rd0.len
  have hb9 := len_bd n
  have lc := lenCode_01 n
  generalize lenL n = L at *
  obtain ⟨k, hk⟩ : ∃ k, L.length = k := ⟨_, rfl⟩
  have HK := Lib.hid hk
  rw [hk] at LN SN P hb9
  clear hk
  rcases lc with lc | lc
  · obtain ⟨p1, p2, p3⟩ := P.out lc
    rw [lc] at LN SN
    have P1 := Lib.hid p1
    clear p1 P lc
    go_enter Try.func8, Try.ntmps8
    go_upto_region 3 with (first | (go_at_call 35; refine (awake2_any _).mono ?_; rintro e w1 ⟨rfl, bel⟩))
    have q := rd0.past bel
    clear rd0
    go_upto_region 4 with (first | (go_at_call 40; refine (LN.out _).mono ?_; rintro e w2 ⟨A2, c2, rfl, o2, hb⟩))
    have r2 := o2.rd
    replace q := q.past hb
    replace bel := two_below bel hb bel.size
    clear hb o2 LN
    go_upto_region 5 with (first | (go_at_call 41; refine (SN.out _).mono ?_; rintro e w3 ⟨A3, c3, rfl, o3, hb⟩))
    have r3 := o3.rd
    replace r2 := r2.past hb
    replace q := q.past hb
    replace bel := two_below bel hb bel.size
    clear hb o3 SN
    go_upto_region 7 with (first | (go_at_call 21; (refine Calls.mono (bytesS _ _ _ _ _ _ L L _ r2 r3) ?_); rw [Cur.eqB_self]; rintro e w' ⟨rfl, rfl⟩))
    clear r3
    have z := bel.size
    have ow := Own.lit (base := w3.heap.size) w3 [] (Nat.le_refl _) (Nat.zero_le _)
    have r2' := r2.alloc (Nat.le_refl _) (.cells (vs []).toArray 5)
    have q' := q.alloc (Nat.le_refl _) (.cells (vs []).toArray 5)
    have hba : Below w3.heap.size w3 (w3.alloc (.cells (vs []).toArray 5)) := (Below.refl _ _).alloc (Nat.le_refl _) _
    clear q r2
    go_upto_region 8 with (first
      | (at_builtin; refine app rfl (.tmp 52) (.tmp 53) rfl rfl ow rfl r2' (by simp; omega) (by simp) ?_; intro A4 c4 w4 ho4 hg4 hb4 hs4; simp only [List.length_nil, Nat.zero_add, List.nil_append] at ho4)
      | (at_builtin; refine app rfl (.tmp 54) (.tmp 55) rfl rfl ho4 rfl (q'.below hb4) (by omega) (hba.trans hb4).size ?_; intro A5 c5 w5 ho5 hg5 hb5 hs5)
      | (go_at_call 42; refine (readlen_any _ ho5.rd (Nat.le_refl _) ho5.cap ho5.capMax).mono ?_; rw [P1.out]; rintro e w6 ⟨rfl, hb6⟩))
    have hbz := ((hba.trans hb4).trans hb5).trans (hb6.mono (hba.trans (hb4.trans hb5)).size)
    have eb := ErrB.new w6 0 0
    have e0 := eb.cell0
    have e1 := eb.cell1
    replace bel := (two_below bel hbz z).alloc (two_below bel hbz z).size (.cells #[.int .i64 0, .int .i64 0] 49)
    clear ho4 hg4 hb4 hs4 ho5 hg5 hb5 hs5 hb6 ow r2' q' hba hbz eb
    go_wp2
    go_ret
    exact ⟨(by first | rfl | exact ret_bool (by simp)), bel⟩
  · rw [lc] at LN SN
    clear P lc
    go_enter Try.func8, Try.ntmps8
    go_upto_region 3 with (first | (go_at_call 35; refine (awake2_any _).mono ?_; rintro e w1 ⟨rfl, bel⟩))
    clear rd0
    go_upto_region 4 with (first | (go_at_call 40; refine (LN.out _).mono ?_; rintro e w2 ⟨A2, c2, rfl, o2, hb⟩))
    have r2 := o2.rd
    replace bel := two_below bel hb bel.size
    clear hb o2 LN
    go_upto_region 5 with (first | (go_at_call 41; refine (SN.out _).mono ?_; rintro e w3 ⟨A3, c3, rfl, o3, hb⟩))
    have r3 := o3.rd
    replace r2 := r2.past hb
    replace bel := two_below bel hb bel.size
    clear hb o3 SN
    go_wp2_with (first | (go_at_call 21; (refine Calls.mono (bytesS _ _ _ _ _ _ L L _ r2 r3) ?_); rw [Cur.eqB_self]; rintro e w' ⟨rfl, rfl⟩))
    go_ret
    exact ⟨(by first | rfl | exact ret_bool (by simp)), bel⟩
end Go.Proofs.Ytjdnjmggpomhcaa
