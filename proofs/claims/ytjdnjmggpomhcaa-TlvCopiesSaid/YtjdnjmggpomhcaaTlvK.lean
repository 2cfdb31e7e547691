/- The walk of TlvReads. -/
import Derived.Test.YtjdnjmggpomhcaaTlvJ
import Derived.Test.YtjdnjmggpomhcaaPlTlvC
set_option linter.unusedSimpArgs false
set_option linter.unusedVariables false
namespace Go.Proofs.Ytjdnjmggpomhcaa
open Go.RowKit Kit Tlv

/-- behind a call and new blocks: what stood stands -/
theorem Tlv.stay {w v : World} {b : Nat} {o : Obj} (h : w.heap[b]? = some o) (hb : Below w.heap.size w v) : v.heap[b]? = some o := (hb.block _ (Blk_lt h)).trans h

set_option maxRecDepth 100000 in
set_option maxHeartbeats 4000000 in
theorem TlvReads.walk (a0 : Option Addr) (len0 cap0 : Nat) (l0 : List UInt8) (w : World) (rd0 : Rd w w.heap.size a0 len0 l0) (hc0 : len0 ≤ cap0) (hm0 : cap0 ≤ maxLen) :
    Calls Try.prog 9 #[.slice a0 len0 cap0] w fun e w' => e = .returned (.bool true) ∧ Below w.heap.size w w' := by
  by_cases hbig : 2000 < len0
  · clear hc0 hm0
    go_enter Try.func9, Try.ntmps9
    go_wp2_with fail
    refine (awake2_any _).mono ?_
    rintro e w1 ⟨rfl, hb1⟩
    go_wp2_with fail
    refine (awake2_any _).mono ?_
    rintro e w2 ⟨rfl, hb2⟩
    go_wp2_with fail
    go_ret
    exact ⟨rfl, hb1.trans (hb2.mono hb1.size)⟩
  have hl := rd0.len
  have RL := Lib.hid (fun (w : World) (h : Rd w w.heap.size a0 len0 l0) => readlen_any (c := cap0) w h (Nat.le_refl _) hc0 hm0)
  have SL := Lib.hid (fun (w : World) (h : Rd w w.heap.size a0 len0 l0) => refreadlen_any (c := cap0) w h (Nat.le_refl _) hc0 hm0)
  have RH := Lib.hid (fun (w : World) (h : Rd w w.heap.size a0 len0 l0) => readhead_any (c := cap0) w h (Nat.le_refl _) hc0 hm0 (by omega))
  have SH := Lib.hid (fun (w : World) (h : Rd w w.heap.size a0 len0 l0) => refreadhead_any (c := cap0) w h (Nat.le_refl _) hc0 hm0 (by omega))
  have P := Lib.hid (fun h => rl_read (l := l0) h)
  rw [hl] at P
  generalize rl l0 = r at *
  obtain ⟨r1, r2, r3, r4⟩ := r
  generalize rh l0 = s at *
  obtain ⟨⟨k1, k2, k3, k4, k5⟩, s1, s2⟩ := s
  simp only [rlV, rhV, hdV] at RL SL RH SH P
  clear hl
  go_enter Try.func9, Try.ntmps9
  go_upto_region 3 with (first | (go_at_call 35; refine (awake2_any _).mono ?_; rintro e w1 ⟨rfl, bel⟩))
  have q := rd0.past bel
  clear rd0
  go_upto_region 4 with (first | (go_at_call 42; refine (RL.out _ q).mono ?_; rintro e w2 ⟨rfl, hb⟩))
  have hb' := hb.alloc hb.size (.cells #[.int .i64 r3, .int .i64 r4] 49)
  have e5 := ErrB.new w2 r3 r4
  replace q := q.past hb'
  replace bel := two_below bel hb' bel.size
  clear hb hb' RL
  generalize w2.heap.size = b5 at *
  generalize w2.alloc (.cells #[.int .i64 r3, .int .i64 r4] 49) = v2 at *
  clear w2
  go_upto_region 5 with (first | (go_at_call 43; refine (SL.out _ q).mono ?_; rintro e w2 ⟨rfl, hb⟩))
  have hb' := hb.alloc hb.size (.cells #[.int .i64 r3, .int .i64 r4] 49)
  have e8 := ErrB.new w2 r3 r4
  replace e5 := e5.past hb'
  replace q := q.past hb'
  replace bel := two_below bel hb' bel.size
  clear hb hb' SL
  generalize w2.heap.size = b8 at *
  generalize w2.alloc (.cells #[.int .i64 r3, .int .i64 r4] 49) = v3 at *
  clear w2 v2
  go_upto_region 6 with (first | (go_at_call 44; refine (RH.out _ q).mono ?_; rintro e w2 ⟨rfl, hb⟩))
  have hb' := (hb.alloc hb.size (.cells #[.int .i64 k1, .int .i64 k2, .bool k3, .int .i64 k4, .int .i64 k5] 54)).alloc (by simp; have := hb.size; omega) (.cells #[.int .i64 s1, .int .i64 s2] 49)
  have h9 : ((w2.alloc (.cells #[.int .i64 k1, .int .i64 k2, .bool k3, .int .i64 k4, .int .i64 k5] 54)).alloc (.cells #[.int .i64 s1, .int .i64 s2] 49)).heap[w2.heap.size]? = _ := bk_old (bk_new rfl)
  have e10 := ErrB.new (w2.alloc (.cells #[.int .i64 k1, .int .i64 k2, .bool k3, .int .i64 k4, .int .i64 k5] 54)) s1 s2
  rw [World.size_alloc] at e10
  replace e5 := e5.past hb'
  replace e8 := e8.past hb'
  replace q := q.past hb'
  replace bel := two_below bel hb' bel.size
  clear hb hb' RH
  generalize hg10 : w2.heap.size + 1 = b10 at *
  generalize hg9 : w2.heap.size = b9 at *
  generalize (w2.alloc (.cells #[.int .i64 k1, .int .i64 k2, .bool k3, .int .i64 k4, .int .i64 k5] 54)).alloc (.cells #[.int .i64 s1, .int .i64 s2] 49) = v4 at *
  clear hg9 hg10 w2 v3
  go_upto_region 7 with (first | (go_at_call 45; refine (SH.out _ q).mono ?_; rintro e w2 ⟨rfl, hb⟩))
  have hb' := (hb.alloc hb.size (.cells #[.int .i64 k1, .int .i64 k2, .bool k3, .int .i64 k4, .int .i64 k5] 54)).alloc (by simp; have := hb.size; omega) (.cells #[.int .i64 s1, .int .i64 s2] 49)
  have h11 : ((w2.alloc (.cells #[.int .i64 k1, .int .i64 k2, .bool k3, .int .i64 k4, .int .i64 k5] 54)).alloc (.cells #[.int .i64 s1, .int .i64 s2] 49)).heap[w2.heap.size]? = _ := bk_old (bk_new rfl)
  have e12 := ErrB.new (w2.alloc (.cells #[.int .i64 k1, .int .i64 k2, .bool k3, .int .i64 k4, .int .i64 k5] 54)) s1 s2
  rw [World.size_alloc] at e12
  replace e5 := e5.past hb'
  replace e8 := e8.past hb'
  replace e10 := e10.past hb'
  replace h9 := stay h9 hb'
  replace q := q.past hb'
  replace bel := two_below bel hb' bel.size
  clear hb hb' SH
  generalize hg10 : w2.heap.size + 1 = b12 at *
  generalize hg9 : w2.heap.size = b11 at *
  generalize (w2.alloc (.cells #[.int .i64 k1, .int .i64 k2, .bool k3, .int .i64 k4, .int .i64 k5] 54)).alloc (.cells #[.int .i64 s1, .int .i64 s2] 49) = v5 at *
  clear hg9 hg10 w2 v4
  have c50 := e5.cell0
  have c51 := e5.cell1
  have c80 := e8.cell0
  have c81 := e8.cell1
  have cA0 := e10.cell0
  have cA1 := e10.cell1
  have cC0 := e12.cell0
  have cC1 := e12.cell1
  obtain ⟨x0, x1, x2, x3, x4⟩ := cells5 h9
  obtain ⟨y0, y1, y2, y3, y4⟩ := cells5 h11
  clear e5 e8 e10 e12 h9 h11
  by_cases hz : r3 = 0
  · obtain ⟨p1, p2, p3, p4, p5⟩ := P.out hz
    subst hz
    have P1 := Lib.hid p1
    have P4 := Lib.hid p4
    clear p1 p4 p5 P
    obtain ⟨sz, rfl⟩ := Int.eq_ofNat_of_zero_le (show 0 ≤ r2 from by omega)
    go_upto_region 9 with fail
    clear c50 c51 c80 c81 cA0 cA1 cC0 cC1 x0 x1 x2 x3 x4 y0 y1 y2 y3 y4
    have LN := Lib.hid (fun w => length_any r1 w)
    rw [P1.out, P4.out] at LN
    rw [Int.toNat_natCast] at LN
    obtain ⟨L, hL⟩ : ∃ L, l0.take sz = L := ⟨_, rfl⟩
    have HT := Lib.hid (q.take (m := sz) (by omega))
    rw [hL] at LN HT
    obtain ⟨m, hm⟩ : ∃ m, L.length = m := ⟨_, rfl⟩
    rw [hm] at LN
    clear hL hm P4 P1
    have x1 : (sz : Int) ≤ (len0 : Int) := by omega
    have x2 : (sz : Int) ≤ (cap0 : Int) := by omega
    go_wp2_with (first
      | (go_at_call 40; refine (LN.out _).mono ?_; rintro e w6 ⟨A6, c6, rfl, ho6, hb6⟩)
      | (go_at_call 21; (refine Calls.mono (bytesS _ _ _ _ _ _ L L _ ho6.rd (HT.out.past hb6)) ?_); rw [Cur.eqB_self]; rintro e w' ⟨rfl, rfl⟩))
    go_ret
    exact ⟨rfl, two_below bel hb6 bel.size⟩
  · go_wp2
    go_ret
    exact ⟨(by first | rfl | exact ret_bool (by simp)), bel⟩
end Go.Proofs.Ytjdnjmggpomhcaa
