/- The walk of TlvNext. -/
import Derived.Test.YtjdnjmggpomhcaaTlvK
import Derived.Test.YtjdnjmggpomhcaaWithin
import Derived.Test.YtjdnjmggpomhcaaGuard
set_option linter.unusedSimpArgs false
set_option linter.unusedVariables false
namespace Go.Proofs.Ytjdnjmggpomhcaa
open Go.RowKit Kit Tlv

/-- behind a call and two new blocks -/
theorem Tlv.two_stay {w1 w2 : World} (hb : Below w1.heap.size w1 w2) (o o' : Obj) : Below w1.heap.size w1 ((w2.alloc o).alloc o') ∧ ((w2.alloc o).alloc o').heap[w2.heap.size]? = some o ∧ ((w2.alloc o).alloc o').heap[w2.heap.size + 1]? = some o' := by
  refine ⟨(hb.alloc hb.size o).alloc (by simp; have := hb.size; omega) o', bk_old (bk_new rfl), ?_⟩
  have := heap_alloc_new (w2.alloc o) o'
  rwa [World.size_alloc] at this

set_option maxRecDepth 100000 in
set_option maxHeartbeats 4000000 in
theorem TlvNext.walk (a0 : Option Addr) (len0 cap0 : Nat) (l0 : List UInt8) (w : World) (rd0 : Rd w w.heap.size a0 len0 l0) (hc0 : len0 ≤ cap0) (hm0 : cap0 ≤ maxLen) :
    Calls Try.prog 11 #[.slice a0 len0 cap0] w fun e w' => e = .returned (.bool true) ∧ Below w.heap.size w w' := by
  by_cases hbig : 2000 < len0
  · clear hc0 hm0
    go_enter Try.func11, Try.ntmps11
    go_wp2_with fail
    refine (awake2_any _).mono ?_
    rintro e w1 ⟨rfl, hb1⟩
    go_wp2_with fail
    refine (awake2_any _).mono ?_
    rintro e w2 ⟨rfl, hb2⟩
    go_wp2_with fail
    go_ret
    exact ⟨rfl, hb1.trans (hb2.mono hb1.size)⟩
  have hl := rd0.len
  have NX := Lib.hid (fun (w : World) (h : Rd w w.heap.size a0 len0 l0) => next_any (c := cap0) w h (Nat.le_refl _) hc0 hm0 (by omega))
  have SX := Lib.hid (fun (w : World) (h : Rd w w.heap.size a0 len0 l0) => refnext_any (c := cap0) w h (Nat.le_refl _) hc0 hm0 (by omega))
  have PE := Lib.hid (fun h => nx_err (l := l0) (by omega) h)
  have PB := Lib.hid (fun h => nx_back (l := l0) h)
  unfold NxO at NX
  unfold NxR at SX
  rw [hl] at PE
  generalize nx l0 = r at *
  obtain ⟨⟨k1, k2, k3, k4, k5⟩, lc, lr, s1, s2⟩ := r
  simp only [hdV] at NX SX PE PB
  obtain ⟨nc, hnc⟩ : ∃ nc, lc.length = nc := ⟨_, rfl⟩
  obtain ⟨nr, hnr⟩ : ∃ nr, lr.length = nr := ⟨_, rfl⟩
  have LR : s1 = 0 → nc + nr ≤ 3000 := by
    intro h
    have := (PB.out h).2.1
    have := congrArg List.length this
    rw [List.length_append, enc_len (PB.out h).1, hnr, hnc, hl] at this
    omega
  have LRH := Lib.hid LR
  rw [hnc] at NX SX PB
  rw [hnr] at NX SX
  have HL := Lib.hid hl
  clear hl hnc hnr LR
  go_enter Try.func11, Try.ntmps11
  go_upto_region 3 with (first | (go_at_call 35; refine (awake2_any _).mono ?_; rintro e w1 ⟨rfl, bel⟩))
  have q := rd0.past bel
  clear rd0
  go_upto_region 4 with (first | (go_at_call 48; refine (NX.out _ q).mono ?_; rintro e w2 ⟨A1, c1, A2, c2, _, rfl, oc, or_, _, _, hb⟩))
  obtain ⟨hb', h3, h6⟩ := two_stay hb (.cells #[.int .i64 k1, .int .i64 k2, .bool k3, .int .i64 k4, .int .i64 k5] 54) (.cells #[.int .i64 s1, .int .i64 s2] 49)
  have rc := (oc.rd.alloc (Nat.le_refl _) (.cells #[.int .i64 k1, .int .i64 k2, .bool k3, .int .i64 k4, .int .i64 k5] 54)).alloc (by simp) (.cells #[.int .i64 s1, .int .i64 s2] 49)
  have rr := (or_.rd.alloc (Nat.le_refl _) (.cells #[.int .i64 k1, .int .i64 k2, .bool k3, .int .i64 k4, .int .i64 k5] 54)).alloc (by simp) (.cells #[.int .i64 s1, .int .i64 s2] 49)
  replace rc := rc.more (show w2.heap.size ≤ ((w2.alloc (.cells #[.int .i64 k1, .int .i64 k2, .bool k3, .int .i64 k4, .int .i64 k5] 54)).alloc (.cells #[.int .i64 s1, .int .i64 s2] 49)).heap.size from by simp; omega)
  replace rr := rr.more (show w2.heap.size ≤ ((w2.alloc (.cells #[.int .i64 k1, .int .i64 k2, .bool k3, .int .i64 k4, .int .i64 k5] 54)).alloc (.cells #[.int .i64 s1, .int .i64 s2] 49)).heap.size from by simp; omega)
  replace q := q.past hb'
  replace bel := two_below bel hb' bel.size
  clear hb hb' NX oc or_
  generalize hg10 : w2.heap.size + 1 = b6 at *
  generalize hg9 : w2.heap.size = b3 at *
  generalize (w2.alloc (.cells #[.int .i64 k1, .int .i64 k2, .bool k3, .int .i64 k4, .int .i64 k5] 54)).alloc (.cells #[.int .i64 s1, .int .i64 s2] 49) = v2 at *
  clear hg9 hg10 w2
  go_upto_region 5 with (first | (go_at_call 49; refine (SX.out _ q).mono ?_; rintro e w2 ⟨A3, c3, A4, c4, rfl, sc, sr, hb⟩))
  obtain ⟨hb', h7, h10⟩ := two_stay hb (.cells #[.int .i64 k1, .int .i64 k2, .bool k3, .int .i64 k4, .int .i64 k5] 54) (.cells #[.int .i64 s1, .int .i64 s2] 49)
  have hbz := hb.size
  replace sc := (sc.alloc hbz (.cells #[.int .i64 k1, .int .i64 k2, .bool k3, .int .i64 k4, .int .i64 k5] 54)).alloc (by simp; omega) (.cells #[.int .i64 s1, .int .i64 s2] 49)
  replace sr := (sr.alloc hbz (.cells #[.int .i64 k1, .int .i64 k2, .bool k3, .int .i64 k4, .int .i64 k5] 54)).alloc (by simp; omega) (.cells #[.int .i64 s1, .int .i64 s2] 49)
  replace h3 := stay h3 hb'
  replace h6 := stay h6 hb'
  replace rc := rc.past hb'
  replace rr := rr.past hb'
  replace q := q.past hb'
  replace bel := two_below bel hb' bel.size
  clear hb hb' SX hbz
  generalize hg10 : w2.heap.size + 1 = b10 at *
  generalize hg9 : w2.heap.size = b7 at *
  generalize (w2.alloc (.cells #[.int .i64 k1, .int .i64 k2, .bool k3, .int .i64 k4, .int .i64 k5] 54)).alloc (.cells #[.int .i64 s1, .int .i64 s2] 49) = v3 at *
  clear hg9 hg10 w2
  obtain ⟨x0, x1, x2, x3, x4⟩ := cells5 h3
  obtain ⟨y0, y1, y2, y3, y4⟩ := cells5 h7
  obtain ⟨u0, u1⟩ := cells2 h6
  obtain ⟨v0, v1⟩ := cells2 h10
  clear h3 h7 h6 h10
  have BC := Lib.hid (fun c c' => Cur.bytes_any A1 A3 nc c nc c' lc lc v3 rc sc)
  have BR := Lib.hid (fun c c' => Cur.bytes_any A2 A4 nr c nr c' lr lr v3 rr sr)
  rw [Cur.eqB_self] at BC BR
  clear sc sr
  by_cases hz : s1 = 0
  · obtain ⟨p1, p2, p3, p4, p5⟩ := PB.out hz
    have hlr := LRH.out hz
    subst hz
    subst p3
    have P1 := Lib.hid p1
    have P2 := Lib.hid p2
    clear p1 p2 p4 p5 PB PE
    have EN := Lib.hid (fun w (h : Rd w w.heap.size A1 nc lc) => encode_any (cp := c1) k1 k2 k3 w h (Nat.le_refl _) (by omega))
    have LE : lc.length = nc := rc.len
    rw [LE, P1.out] at EN
    have EL := Lib.hid (enc_len (b := k3) (l := lc) (show encCode k1 k2 lc.length = 0 from by rw [LE]; exact P1.out))
    have ELB := len_bd (lc.length : Int)
    generalize encL k1 k3 k2 lc = el at *
    obtain ⟨ne, hne⟩ : ∃ ne, el.length = ne := ⟨_, rfl⟩
    rw [hne] at EN
    have hne' : ne ≤ 3010 := by have := EL.out; omega
    clear LE EL ELB hne P1
    go_upto_region 7 with (first | (go_at_call 21; (with_reducible refine Calls.mono (BC.out _ _) ?_); rintro e w' ⟨rfl, rfl⟩) | (go_at_call 21; (with_reducible refine Calls.mono (BR.out _ _) ?_); rintro e w' ⟨rfl, rfl⟩))
    go_upto_region 9 with fail
    clear y0 y1 y2 y3 y4 u0 u1 v0 v1 BC BR
    go_upto_region 10 with (first | (go_at_call 46; refine (EN.out _ rc).mono ?_; rintro e w6 ⟨A6, c6, rfl, ho6, hb6⟩))
    have r6 := rr.past hb6
    have q6 := q.below hb6
    have z6 := hb6.size
    have z7 := bel.size
    clear x0 x1 x2 x3 x4 EN rc rr q
    go_wp2_with (first
      | (at_builtin; refine appG rfl (.tmp 76) (.tmp 77) rfl rfl ho6 rfl r6 (by omega) z6 ?_; intro A7 c7 w7 ho7 hg7 hb7 hs7; rw [P2.out] at ho7)
      | (go_at_call 21; (refine Calls.mono (Cur.bytes_any _ _ _ _ _ _ l0 l0 _ ho7.rd (q6.below hb7)) ?_); rw [Cur.eqB_self]; rintro e w' ⟨rfl, rfl⟩))
    go_ret
    exact ⟨rfl, bel.trans (((hb6.mono (by omega)).trans (hb7.mono (by omega))).mono (by omega))⟩
  · obtain ⟨p1, p2, p3, p4, p5, p6⟩ := PE.out hz
    subst p2 p3
    clear PB PE p1
    go_upto_region 7 with (first | (go_at_call 21; (with_reducible refine Calls.mono (BC.out _ _) ?_); rintro e w' ⟨rfl, rfl⟩) | (go_at_call 21; (with_reducible refine Calls.mono (BR.out _ _) ?_); rintro e w' ⟨rfl, rfl⟩))
    go_wp2_with (first | (go_at_call 50; refine (within_err _ _ _ _ p4 p5 p6).mono ?_; rintro e w4 ⟨rfl, hb4⟩))
    go_ret
    exact ⟨rfl, two_below bel hb4 bel.size⟩
end Go.Proofs.Ytjdnjmggpomhcaa
