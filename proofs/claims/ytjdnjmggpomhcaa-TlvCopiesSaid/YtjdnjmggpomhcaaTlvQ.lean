/- The walk of TlvCopies. -/
import Derived.Test.YtjdnjmggpomhcaaTlvN
set_option linter.unusedSimpArgs false
set_option linter.unusedVariables false
namespace Go.Proofs.Ytjdnjmggpomhcaa
open Go.RowKit Kit Tlv

set_option maxRecDepth 100000 in
set_option maxHeartbeats 4000000 in
theorem TlvCopies.walk (a0 : Option Addr) (len0 cap0 : Nat) (l0 : List UInt8) (w : World) (rd0 : Rd w w.heap.size a0 len0 l0) (hc0 : len0 ≤ cap0) (hm0 : cap0 ≤ maxLen) :
    Calls Try.prog 13 #[.slice a0 len0 cap0] w fun e w' => e = .returned (.bool true) ∧ Below w.heap.size w w' := by
  by_cases hbig : 2000 < len0
  · clear hc0 hm0
    go_enter Try.func13, Try.ntmps13
    go_wp2_with fail
    refine (awake2_any _).mono ?_
    rintro e w1 ⟨rfl, hb1⟩
    go_wp2_with fail
    refine (awake2_any _).mono ?_
    rintro e w2 ⟨rfl, hb2⟩
    go_wp2_with fail
    go_ret
    exact ⟨rfl, hb1.trans (hb2.mono hb1.size)⟩
  have hl := rd0.len
  have SX := Lib.hid (fun (B : Nat) (w : World) (h : Rd w B a0 len0 l0) (hB : B ≤ w.heap.size) => refnext_any (c := cap0) w h hB hc0 hm0 (by omega))
  have NX := Lib.hid (fun (A : Option Addr) (c : Nat) (w : World) (h : Rd w w.heap.size A len0 l0) (hc : len0 ≤ c) (hm : c ≤ maxLen) => next_any (c := c) w h (Nat.le_refl _) hc hm (by omega))
  unfold NxO at NX
  unfold NxR at SX
  generalize nx l0 = r at *
  obtain ⟨⟨k1, k2, k3, k4, k5⟩, lc, lr, s1, s2⟩ := r
  simp only [hdV] at NX SX
  obtain ⟨nc, hnc⟩ : ∃ nc, lc.length = nc := ⟨_, rfl⟩
  obtain ⟨nr, hnr⟩ : ∃ nr, lr.length = nr := ⟨_, rfl⟩
  rw [hnc, hnr] at NX SX
  have HNR := Lib.hid hnr
  have HNC := Lib.hid hnc
  clear hl hnc hnr hc0 hm0
  go_enter Try.func13, Try.ntmps13
  go_upto_region 3 with (first | (go_at_call 35; refine (awake2_any _).mono ?_; rintro e w1 ⟨rfl, bel⟩))
  have q := rd0.past bel
  have ow := Own.lit (base := w1.heap.size) w1 [] (Nat.le_refl _) (Nat.zero_le _)
  have q' := q.alloc (Nat.le_refl _) (.cells (vs []).toArray 5)
  have hba : Below w1.heap.size w1 (w1.alloc (.cells (vs []).toArray 5)) := (Below.refl _ _).alloc (Nat.le_refl _) _
  clear rd0
  go_upto_region 4 with (first
    | (at_builtin; refine app rfl (.tmp 22) (.tmp 23) rfl rfl ow rfl q' (by simp; omega) (by simp) ?_; intro A3 c3 w3 o3 hg3 hb3 hs3; simp only [List.length_nil, Nat.zero_add, List.nil_append] at o3))
  have hb13 := hba.trans hb3
  have z13 := hb13.size
  have z01 := bel.size
  clear ow q' hba hg3 hb3 hs3
  go_upto_region 5 with (first | (go_at_call 48; refine (NX.out _ _ _ o3.rd o3.cap o3.capMax).mono ?_; rintro e w4 ⟨A4, c4, A5, c5, bk, rfl, o4, o5, hbk, hk4, hb4⟩))
  obtain ⟨hb', h4, h7⟩ := two_stay hb4 (.cells #[.int .i64 k1, .int .i64 k2, .bool k3, .int .i64 k4, .int .i64 k5] 54) (.cells #[.int .i64 s1, .int .i64 s2] 49)
  have z34 := hb4.size
  have bk4 := fun k hk => (o4.blk (k := k) hk)
  have bk5 := fun k hk => (o5.blk (k := k) hk)
  have bk3 := fun k hk => (o3.blk (k := k) hk)
  replace o4 := (o4.alloc (.cells #[.int .i64 k1, .int .i64 k2, .bool k3, .int .i64 k4, .int .i64 k5] 54)).alloc (.cells #[.int .i64 s1, .int .i64 s2] 49)
  replace o5 := (o5.alloc (.cells #[.int .i64 k1, .int .i64 k2, .bool k3, .int .i64 k4, .int .i64 k5] 54)).alloc (.cells #[.int .i64 s1, .int .i64 s2] 49)
  replace o3 := o3.below hb'
  have hb14 := hb13.trans (hb'.mono z13)
  have z14 := hb14.size
  have zv : w4.heap.size + 1 < ((w4.alloc (.cells #[.int .i64 k1, .int .i64 k2, .bool k3, .int .i64 k4, .int .i64 k5] 54)).alloc (.cells #[.int .i64 s1, .int .i64 s2] 49)).heap.size := by simp
  have q4 := q.below hb14
  clear hb4 hb13 hb' NX h4
  generalize hg9 : w4.heap.size = b4 at *
  generalize (w4.alloc (.cells #[.int .i64 k1, .int .i64 k2, .bool k3, .int .i64 k4, .int .i64 k5] 54)).alloc (.cells #[.int .i64 s1, .int .i64 s2] 49) = v4 at *
  clear hg9 w4
  go_upto_region 7 with (first | (go_at_call 21; (refine Calls.mono (Cur.bytes_any _ _ _ _ _ _ l0 l0 _ o3.rd q4) ?_); rw [Cur.eqB_self]; rintro e w' ⟨rfl, rfl⟩))
  go_wp2
  go_loopw [8] (fun i wr => ∃ (k : Nat) (m : List UInt8), i = .int .i64 (k : Int) ∧ k ≤ len0 ∧ Own wr w1.heap.size A3 len0 c3 m ∧ v4.grownBy wr (Value.slice A3 len0 c3).ownBlock) (fun i _ => len0 - (intOf i).toNat)
  case atStart => exact ⟨0, _, rfl, Nat.zero_le _, o3, World.grownBy.refl _ _⟩
  case round =>
    obtain ⟨k, m, rfl, hk, ho, hg⟩ := hrel
    by_cases hlt : k < len0
    · obtain ⟨go, rfl⟩ := ho.shape (by omega)
      have cc := ho.cellAt hlt
      have ff := ho.frozenAt k
      have b1 := bt_lo m k
      have b2 := bt_hi m k
      go_wp2
      go_roundw
      case rel => exact ⟨k + 1, _, by go_num, by omega, ho.stored k (by omega) (by omega), grown_set hg _ _⟩
      case measure => simp [intOf]; omega
    · obtain ⟨w5, rfl⟩ : ∃ w5 : World, w5 = wr := ⟨_, rfl⟩
      have z45 := hg.size
      have hb5 : Below w1.heap.size v4 w5 := (Below.refl _ _).grown hg (by omega) (fun j e => (bk3 j e).1)
      have q5 := q4.below hb5
      have o4' := o4.grown hg (fun j e e' => by have := (bk3 j e).2; have := (bk4 j e').1; omega)
      have o5' := o5.grown hg (fun j e e' => by have := (bk3 j e).2; have := (bk5 j e').1; omega)
      have h7' : w5.heap[b4 + 1]? = some (.cells #[.int .i64 s1, .int .i64 s2] 49) := by rw [hg.block _ (by omega) (fun e => by have := (bk3 _ e.symm).2; omega)]; exact h7
      have hb15 := hb14.trans hb5
      have z15 := hb15.size
      clear ho hg o3 q4 h7 hb5 o4 o5
      go_upto_region 12 with (first | (go_at_call 49; refine (SX.out _ _ q5 z15).mono ?_; rintro e w6 ⟨A6, c6, A7, c7, rfl, sc, sr, hb⟩))
      obtain ⟨hb', h9, h12⟩ := two_stay hb (.cells #[.int .i64 k1, .int .i64 k2, .bool k3, .int .i64 k4, .int .i64 k5] 54) (.cells #[.int .i64 s1, .int .i64 s2] 49)
      have hbz := hb.size
      have z56 := hb'.size
      replace sc := (sc.alloc (by omega) (.cells #[.int .i64 k1, .int .i64 k2, .bool k3, .int .i64 k4, .int .i64 k5] 54)).alloc (by simp; omega) (.cells #[.int .i64 s1, .int .i64 s2] 49)
      replace sr := (sr.alloc (by omega) (.cells #[.int .i64 k1, .int .i64 k2, .bool k3, .int .i64 k4, .int .i64 k5] 54)).alloc (by simp; omega) (.cells #[.int .i64 s1, .int .i64 s2] 49)
      replace h7' := stay h7' hb'
      replace o4' := o4'.below hb'
      replace o5' := o5'.below hb'
      replace hb15 := hb15.trans (hb'.mono (by omega))
      clear hb hb' SX h9 q5
      generalize hg10 : w6.heap.size + 1 = b12 at *
      generalize (w6.alloc (.cells #[.int .i64 k1, .int .i64 k2, .bool k3, .int .i64 k4, .int .i64 k5] 54)).alloc (.cells #[.int .i64 s1, .int .i64 s2] 49) = v6 at *
      clear hg10
      obtain ⟨u0, u1⟩ := cells2 h7'
      obtain ⟨v0, v1⟩ := cells2 h12
      clear h7' h12
      have BC := Lib.hid (fun c c' => Cur.bytes_any A4 A6 nc c nc c' lc lc v6 o4'.rd sc)
      have BR := Lib.hid (fun c c' => Cur.bytes_any A5 A7 nr c nr c' lr lr v6 o5'.rd sr)
      rw [Cur.eqB_self] at BC BR
      go_upto_region 14 with (first | (go_at_call 21; (with_reducible refine Calls.mono (BC.out _ _) ?_); rintro e w' ⟨rfl, rfl⟩) | (go_at_call 21; (with_reducible refine Calls.mono (BR.out _ _) ?_); rintro e w' ⟨rfl, rfl⟩))
      clear BC BR u0 u1 v0 v1 sc
      have z6 := hb15.size
      go_wp2
      go_loopw [13] (fun i wr => ∃ (k : Nat) (m : List UInt8), i = .int .i64 (k : Int) ∧ k ≤ nc ∧ Own wr w3.heap.size A4 nc c4 m ∧ v6.grownBy wr (Value.slice A4 nc c4).ownBlock) (fun i _ => nc - (intOf i).toNat)
      case atStart => exact ⟨0, _, rfl, Nat.zero_le _, o4', World.grownBy.refl _ _⟩
      case round =>
        obtain ⟨k, m, rfl, hk, ho, hg⟩ := hrel
        by_cases hlt : k < nc
        · obtain ⟨go, rfl⟩ := ho.shape (by omega)
          have cc := ho.cellAt hlt
          have ff := ho.frozenAt k
          have b1 := bt_lo m k
          have b2 := bt_hi m k
          have hncm : nc ≤ maxLen := Nat.le_trans ho.cap ho.capMax
          unfold maxLen at hncm
          go_wp2
          go_roundw
          case rel => exact ⟨k + 1, _, by go_num, by omega, ho.stored k (by omega) (by omega), grown_set hg _ _⟩
          case measure => simp [intOf]; omega
        · obtain ⟨w7, rfl⟩ : ∃ w7 : World, w7 = wr := ⟨_, rfl⟩
          have o5'' := o5'.grown hg (fun j e e' => by have := hk4 j e; have := (bk5 j e').1; omega)
          have hb7 : Below w3.heap.size v6 w7 := (Below.refl _ _).grown hg (by omega) (fun j e => (bk4 j e).1)
          have sr7 := sr.below (hb7.mono z13)
          have hb17 := hb15.trans (hb7.mono z13)
          clear ho hg
          go_wp2_with (first | (go_at_call 21; (refine Calls.mono (Cur.bytes_any _ _ _ _ _ _ lr lr _ o5''.rd sr7) ?_); rw [Cur.eqB_self]; rintro e w' ⟨rfl, rfl⟩))
          go_ret
          exact ⟨rfl, bel.trans (hb17.mono z01)⟩
end Go.Proofs.Ytjdnjmggpomhcaa
