/- The walks of IntegerInverse, IntegerKeeps. -/
import Derived.Test.YtjdnjmggpomhcaaIntM
set_option linter.unusedSimpArgs false
set_option linter.unusedVariables false
namespace Go.Proofs.Ytjdnjmggpomhcaa
open Go.RowKit Kit Tlv Int4

theorem Int4.int_of {n : Int} (h0 : -9223372036854775808 ≤ n) (h1 : n ≤ 9223372036854775807) : intOk (intL n) = true ∧ intV (intL n) = n := by
  obtain ⟨a, b, c⟩ := intL_ok h0 h1
  have e : intOk (intL n) = true := by unfold intOk; simp [a, c]
  exact ⟨e, by unfold intV; rw [if_pos e, b]⟩
theorem Int4.int_back {l : List UInt8} (h : intOk l = true) : intL (intV l) = l ∧ -9223372036854775808 ≤ intV l ∧ intV l ≤ 9223372036854775807 := by
  have e : intV l = sv l := by unfold intV; rw [if_pos h]
  unfold intOk at h
  simp only [Bool.and_eq_true, decide_eq_true_eq] at h
  obtain ⟨b0, b1⟩ := sv_bd8 (valid_pos h.1) h.2
  rw [e]
  exact ⟨(intL_of b0 b1 h.1 rfl).symm, b0, b1⟩

set_option maxRecDepth 100000 in
set_option maxHeartbeats 8000000 in
theorem IntegerInverse.walk (n : Int) (a0 : Option Addr) (len0 cap0 : Nat) (l0 : List UInt8) (w : World) (bd : -9223372036854775808 ≤ n ∧ n ≤ 9223372036854775807) (rd0 : Rd w w.heap.size a0 len0 l0) (hc0 : len0 ≤ cap0) (hm0 : cap0 ≤ maxLen) :
    Calls Try.prog 3 #[.int .i64 n, .slice a0 len0 cap0] w fun e w' => e = .returned (.bool true) ∧ Below w.heap.size w w' := by
  by_cases hbig : 2000 < len0
  · clear hc0 hm0
    go_enter Try.func3, Try.ntmps3
    go_wp2_with fail
    refine (awake4_any _).mono ?_
    rintro e w1 ⟨rfl, hb1⟩
    go_wp2_with fail
    refine (awake4_any _).mono ?_
    rintro e w2 ⟨rfl, hb2⟩
    go_wp2_with fail
    go_ret
    exact ⟨rfl, hb1.trans (hb2.mono hb1.size)⟩
  have hl := rd0.len
  obtain ⟨n0, n1⟩ := bd
  have FN := Lib.hid (fun (w : World) => fromint_any n w n0 n1)
  have RN := Lib.hid (fun (w : World) => reffromint_any n w n0 n1)
  have IN := Lib.hid (fun (A : Option Addr) (c : Nat) (w : World) (h : Rd w w.heap.size A (intL n).length (intL n)) (hc : (intL n).length ≤ c) => int_any (c := c) w h (Nat.le_refl _) hc)
  rw [(int_of n0 n1).1, (int_of n0 n1).2] at IN
  have FU := Lib.hid (fun (w : World) (h : Rd w w.heap.size a0 len0 l0) => fromuns_any (c := cap0) w h (Nat.le_refl _) hc0 hm0 (by omega))
  have RU := Lib.hid (fun (w : World) (h : Rd w w.heap.size a0 len0 l0) => reffromuns_any (c := cap0) w h (Nat.le_refl _) (by omega))
  have ub := (uns_ok l0).2.2.1
  have UU := Lib.hid (fun (A : Option Addr) (c : Nat) (w : World) (h : Rd w w.heap.size A (unsL l0).length (unsL l0)) (hc : (unsL l0).length ≤ c) (hm : c ≤ maxLen) => unsigned_any (c := c) w h (Nat.le_refl _) hc hm (by omega))
  rw [(uns_back l0).1] at UU
  have db : (unsD (unsL l0)).length ≤ 3000 := by
    unfold unsD
    split
    · have := (trimZ_ok (unsL l0)).2.1; omega
    · simp
  have FD := Lib.hid (fun (A : Option Addr) (c : Nat) (w : World) (h : Rd w w.heap.size A (unsD (unsL l0)).length (unsD (unsL l0))) (hc : (unsD (unsL l0)).length ≤ c) (hm : c ≤ maxLen) => fromuns_any (c := c) w h (Nat.le_refl _) hc hm (by omega))
  rw [(uns_back l0).2] at FD
  have IB := Lib.hid (fun (w : World) (h : Rd w w.heap.size a0 len0 l0) => int_any (c := cap0) w h (Nat.le_refl _) hc0)
  have BB := Lib.hid (fun h => int_back (l := l0) h)
  generalize intL n = L at *
  generalize unsD (unsL l0) = D at *
  generalize unsL l0 = U at *
  generalize intOk l0 = ok at *
  generalize intV l0 = k at *
  clear hl hc0 hm0 ub
  cases ok
  · go_enter Try.func3, Try.ntmps3
    go_upto_region 3 with (first | (go_at_call 16; refine (awake4_any _).mono ?_; rintro e w1 ⟨rfl, bel⟩))
    have q := rd0.past bel
    clear rd0
    go_wp2_with fail
    refine (FN.out _).mono ?_
    rintro e w2 ⟨A2, c2, rfl, r2, hc2, hm2, hb⟩
    replace q := q.past hb
    replace bel := two_belowK bel hb bel.size
    clear hb FN
    go_wp2_with fail
    refine (IN.out _ _ _ r2 hc2).mono ?_
    rintro e w' ⟨rfl, rfl⟩
    go_wp2_with fail
    refine (FU.out _ q).mono ?_
    rintro e w3 ⟨A3, c3, rfl, o3, hb⟩
    have hc3 := o3.cap
    have hm3 := o3.capMax
    have r3 := o3.rd
    replace q := q.past hb
    replace r2 := r2.past hb
    replace bel := two_belowK bel hb bel.size
    clear hb IN FU o3
    go_wp2_with fail
    refine (UU.out _ _ _ r3 hc3 hm3).mono ?_
    rintro e w4 ⟨A4, c4, rfl, o4, hb⟩
    have hc4 := o4.cap
    have hm4 := o4.capMax
    have r4 := o4.rd
    replace q := q.past hb
    replace r2 := r2.past hb
    replace r3 := r3.past hb
    replace bel := two_belowK bel hb bel.size
    clear hb UU o4
    go_wp2_with fail
    refine (RN.out _).mono ?_
    rintro e w5 ⟨A5, c5, rfl, o5, hb⟩
    have r5 := o5.rd
    replace q := q.past hb
    replace r2 := r2.past hb
    replace r3 := r3.past hb
    replace r4 := r4.past hb
    replace bel := two_belowK bel hb bel.size
    clear hb RN o5
    go_wp2_with fail
    refine Calls.mono (bytesK _ _ _ _ _ _ L L _ r2 r5) ?_
    rw [Cur.eqB_self]
    rintro e w' ⟨rfl, rfl⟩
    clear r2 r5
    go_wp2_with fail
    refine (RU.out _ q).mono ?_
    rintro e w6 ⟨A6, c6, rfl, r6, _, _, hb⟩
    replace q := q.past hb
    replace r3 := r3.past hb
    replace r4 := r4.past hb
    replace bel := two_belowK bel hb bel.size
    clear hb RU
    go_wp2_with fail
    refine Calls.mono (bytesK _ _ _ _ _ _ U U _ r3 r6) ?_
    rw [Cur.eqB_self]
    rintro e w' ⟨rfl, rfl⟩
    clear r6
    go_wp2_with fail
    refine (FD.out _ _ _ r4 hc4 hm4).mono ?_
    rintro e w7 ⟨A7, c7, rfl, o7, hb⟩
    have r7 := o7.rd
    replace q := q.past hb
    replace r3 := r3.past hb
    replace bel := two_belowK bel hb bel.size
    clear hb FD o7 r4
    go_wp2_with fail
    refine Calls.mono (bytesK _ _ _ _ _ _ U U _ r7 r3) ?_
    rw [Cur.eqB_self]
    rintro e w' ⟨rfl, rfl⟩
    clear r7 r3
    go_wp2_with (first | (go_at_call 18; refine (IB.out _ q).mono ?_; rintro e w' ⟨rfl, rfl⟩))
    go_ret
    exact ⟨(by first | rfl | exact ret_bool (by simp)), bel⟩
  · obtain ⟨b1, b2, b3⟩ := BB.out rfl
    have FK := Lib.hid (fun (w : World) => fromint_any k w b2 b3)
    rw [b1] at FK
    clear b1 BB
    go_enter Try.func3, Try.ntmps3
    go_upto_region 3 with (first | (go_at_call 16; refine (awake4_any _).mono ?_; rintro e w1 ⟨rfl, bel⟩))
    have q := rd0.past bel
    clear rd0
    go_wp2_with fail
    refine (FN.out _).mono ?_
    rintro e w2 ⟨A2, c2, rfl, r2, hc2, hm2, hb⟩
    replace q := q.past hb
    replace bel := two_belowK bel hb bel.size
    clear hb FN
    go_wp2_with fail
    refine (IN.out _ _ _ r2 hc2).mono ?_
    rintro e w' ⟨rfl, rfl⟩
    go_wp2_with fail
    refine (FU.out _ q).mono ?_
    rintro e w3 ⟨A3, c3, rfl, o3, hb⟩
    have hc3 := o3.cap
    have hm3 := o3.capMax
    have r3 := o3.rd
    replace q := q.past hb
    replace r2 := r2.past hb
    replace bel := two_belowK bel hb bel.size
    clear hb IN FU o3
    go_wp2_with fail
    refine (UU.out _ _ _ r3 hc3 hm3).mono ?_
    rintro e w4 ⟨A4, c4, rfl, o4, hb⟩
    have hc4 := o4.cap
    have hm4 := o4.capMax
    have r4 := o4.rd
    replace q := q.past hb
    replace r2 := r2.past hb
    replace r3 := r3.past hb
    replace bel := two_belowK bel hb bel.size
    clear hb UU o4
    go_wp2_with fail
    refine (RN.out _).mono ?_
    rintro e w5 ⟨A5, c5, rfl, o5, hb⟩
    have r5 := o5.rd
    replace q := q.past hb
    replace r2 := r2.past hb
    replace r3 := r3.past hb
    replace r4 := r4.past hb
    replace bel := two_belowK bel hb bel.size
    clear hb RN o5
    go_wp2_with fail
    refine Calls.mono (bytesK _ _ _ _ _ _ L L _ r2 r5) ?_
    rw [Cur.eqB_self]
    rintro e w' ⟨rfl, rfl⟩
    clear r2 r5
    go_wp2_with fail
    refine (RU.out _ q).mono ?_
    rintro e w6 ⟨A6, c6, rfl, r6, _, _, hb⟩
    replace q := q.past hb
    replace r3 := r3.past hb
    replace r4 := r4.past hb
    replace bel := two_belowK bel hb bel.size
    clear hb RU
    go_wp2_with fail
    refine Calls.mono (bytesK _ _ _ _ _ _ U U _ r3 r6) ?_
    rw [Cur.eqB_self]
    rintro e w' ⟨rfl, rfl⟩
    clear r6
    go_wp2_with fail
    refine (FD.out _ _ _ r4 hc4 hm4).mono ?_
    rintro e w7 ⟨A7, c7, rfl, o7, hb⟩
    have r7 := o7.rd
    replace q := q.past hb
    replace r3 := r3.past hb
    replace bel := two_belowK bel hb bel.size
    clear hb FD o7 r4
    go_wp2_with fail
    refine Calls.mono (bytesK _ _ _ _ _ _ U U _ r7 r3) ?_
    rw [Cur.eqB_self]
    rintro e w' ⟨rfl, rfl⟩
    clear r7 r3
    go_wp2_with (first | (go_at_call 18; refine (IB.out _ q).mono ?_; rintro e w' ⟨rfl, rfl⟩) | (go_at_call 17; refine (FK.out _).mono ?_; rintro e w9 ⟨A9, c9, rfl, r9, _, _, hb9⟩) | (go_at_call 21; (refine Calls.mono (bytesK _ _ _ _ _ _ l0 l0 _ r9 (q.past hb9)) ?_); rw [Cur.eqB_self]; rintro e w' ⟨rfl, rfl⟩))
    go_ret
    exact ⟨(by first | rfl | exact ret_bool (by simp)), two_belowK bel hb9 bel.size⟩

set_option maxRecDepth 100000 in
set_option maxHeartbeats 8000000 in
theorem IntegerKeeps.walk (a0 : Option Addr) (len0 cap0 : Nat) (l0 : List UInt8) (w : World) (rd0 : Rd w w.heap.size a0 len0 l0) (hc0 : len0 ≤ cap0) (hm0 : cap0 ≤ maxLen) :
    Calls Try.prog 4 #[.slice a0 len0 cap0] w fun e w' => e = .returned (.bool true) ∧ Below w.heap.size w w' := by
  clear hc0 hm0
  by_cases hbig : 60 < len0
  · go_enter Try.func4, Try.ntmps4
    go_wp2_with fail
    refine (awake4_any _).mono ?_
    rintro e w1 ⟨rfl, hb1⟩
    go_wp2_with fail
    refine (awake4_any _).mono ?_
    rintro e w2 ⟨rfl, hb2⟩
    go_wp2_with fail
    go_ret
    exact ⟨rfl, hb1.trans (hb2.mono hb1.size)⟩
  have ub := (uns_ok l0).2.2.1
  have hl := rd0.len
  rw [hl] at ub
  have FU := Lib.hid (fun (A : Option Addr) (c : Nat) (w : World) (h : Rd w w.heap.size A len0 l0) (hc : len0 ≤ c) (hm : c ≤ maxLen) => fromuns_any (c := c) w h (Nat.le_refl _) hc hm (by omega))
  have UU := Lib.hid (fun (A : Option Addr) (c : Nat) (w : World) (h : Rd w w.heap.size A len0 l0) (hc : len0 ≤ c) (hm : c ≤ maxLen) => unsigned_any (c := c) w h (Nat.le_refl _) hc hm (by omega))
  have DE := Lib.hid (fun (A : Option Addr) (c : Nat) (w : World) (h : Rd w w.heap.size A len0 l0) (hc : len0 ≤ c) (hm : c ≤ maxLen) => decimal_any (c := c) w h (Nat.le_refl _) hc hm (by omega))
  have db : (unsD l0).length ≤ 3000 := by
    unfold unsD
    split
    · have := (trimZ_ok l0).2.1; omega
    · simp
  generalize unsC l0 = uc at *
  obtain ⟨nu, hnu⟩ : ∃ k, (unsL l0).length = k := ⟨_, rfl⟩
  obtain ⟨nd, hnd⟩ : ∃ k, (unsD l0).length = k := ⟨_, rfl⟩
  unfold OwnP at FU
  rw [hnu] at FU ub
  rw [hnd] at UU db
  generalize unsL l0 = U at *
  generalize unsD l0 = D at *
  generalize decI l0 = S at *
  clear hl hnu hnd
  go_enter Try.func4, Try.ntmps4
  go_upto_region 3 with (first | (go_at_call 16; refine (awake4_any _).mono ?_; rintro e w1 ⟨rfl, bel⟩))
  have q := rd0.past bel
  have ow := Own.lit (base := w1.heap.size) w1 [] (Nat.le_refl _) (Nat.zero_le _)
  have q' := q.alloc (Nat.le_refl _) (.cells (vs []).toArray 5)
  have hba : Below w1.heap.size w1 (w1.alloc (.cells (vs []).toArray 5)) := (Below.refl _ _).alloc (Nat.le_refl _) _
  clear rd0
  go_upto_region 4 with (first
    | (at_builtin; refine app rfl (.tmp 17) (.tmp 18) rfl rfl ow rfl q' (by simp; omega) (by simp) ?_; intro A3 c3 w3 o3 hg3 hb3 hs3; simp only [List.length_nil, Nat.zero_add, List.nil_append] at o3))
  have hb13 := hba.trans hb3
  have z13 := hb13.size
  have z01 := bel.size
  have bk3 := fun k hk => (o3.blk (k := k) hk)
  clear ow q' hba hg3 hb3 hs3
  go_upto_region 5 with (first | (go_at_call 19; refine (FU.out _ _ _ o3.rd o3.cap o3.capMax).mono ?_; rintro e w4 ⟨A4, c4, rfl, o4, hb4⟩))
  have z34 := hb4.size
  have bk4 := fun k hk => (o4.blk (k := k) hk)
  replace o3 := o3.below hb4
  have hb14 := hb13.trans (hb4.mono z13)
  clear hb4 FU hb13
  go_upto_region 6 with (first | (go_at_call 20; refine (UU.out _ _ _ o3.rd o3.cap o3.capMax).mono ?_; rintro e w5 ⟨A5, c5, rfl, o5, hb5⟩))
  have z45 := hb5.size
  have bk5 := fun k hk => (o5.blk (k := k) hk)
  replace o3 := o3.below hb5
  replace o4 := o4.below hb5
  have hb15 := hb14.trans (hb5.mono (by omega))
  clear hb5 UU hb14
  go_upto_region 7 with (first | (go_at_call 24; refine (DE.out _ _ _ o3.rd o3.cap o3.capMax).mono ?_; rintro e w6 ⟨rfl, hb6⟩))
  have z56 := hb6.size
  replace o3 := o3.below hb6
  replace o4 := o4.below hb6
  replace o5 := o5.below hb6
  have hb16 := hb15.trans (hb6.mono (by omega))
  have z16 := hb16.size
  clear hb6 DE hb15
  go_wp2
  go_loopw [7] (fun i wr => ∃ (k : Nat) (m : List UInt8), i = .int .i64 (k : Int) ∧ k ≤ nu ∧ Own wr w3.heap.size A4 nu c4 m ∧ w6.grownBy wr (Value.slice A4 nu c4).ownBlock) (fun i _ => nu - (intOf i).toNat)
  case atStart => exact ⟨0, _, rfl, Nat.zero_le _, o4, World.grownBy.refl _ _⟩
  case round =>
    obtain ⟨k, m, rfl, hk, ho, hg⟩ := hrel
    by_cases hlt : k < nu
    · obtain ⟨go, rfl⟩ := ho.shape (by omega)
      have cc := ho.cellAt hlt
      have ff := ho.frozenAt k
      have b1 := bt_lo m k
      have b2 := bt_hi m k
      go_wp2
      go_roundw
      case rel => exact ⟨k + 1, _, by go_num, by omega, ho.stored k (by omega) (by omega), grown_set hg _ _⟩
      case measure => simp [intOf]; omega
    · obtain ⟨w7, rfl⟩ : ∃ w7 : World, w7 = wr := ⟨_, rfl⟩
      have z67 := hg.size
      have o3' := o3.grown hg (fun j e e' => by have := (bk4 j e).1; have := (bk3 j e').2; omega)
      have o5' := o5.grown hg (fun j e e' => by have := (bk4 j e).2; have := (bk5 j e').1; omega)
      have hb17 := hb16.grown hg z16 (fun j e => by have := (bk4 j e).1; omega)
      clear ho hg o3 o4 o5 hb16
      go_wp2
      go_loopw [8] (fun i wr => ∃ (k : Nat) (m : List UInt8), i = .int .i64 (k : Int) ∧ k ≤ nd ∧ Own wr w4.heap.size A5 nd c5 m ∧ w7.grownBy wr (Value.slice A5 nd c5).ownBlock) (fun i _ => nd - (intOf i).toNat)
      case atStart => exact ⟨0, _, rfl, Nat.zero_le _, o5', World.grownBy.refl _ _⟩
      case round =>
        obtain ⟨k2, m2, rfl, hk2, ho, hg⟩ := hrel
        by_cases hlt2 : k2 < nd
        · obtain ⟨go, rfl⟩ := ho.shape (by omega)
          have cc := ho.cellAt hlt2
          have ff := ho.frozenAt k2
          have b1 := bt_lo m2 k2
          have b2 := bt_hi m2 k2
          go_wp2
          go_roundw
          case rel => exact ⟨k2 + 1, _, by go_num, by omega, ho.stored k2 (by omega) (by omega), grown_set hg _ _⟩
          case measure => simp [intOf]; omega
        · obtain ⟨w8, rfl⟩ : ∃ w8 : World, w8 = wr := ⟨_, rfl⟩
          have o3'' := o3'.grown hg (fun j e e' => by have := (bk5 j e).1; have := (bk3 j e').2; omega)
          have hb18 := hb17.grown hg hb17.size (fun j e => by have := (bk5 j e).1; omega)
          have q8 := q.below hb18
          clear ho hg
          go_wp2_with (first | (go_at_call 21; (refine Calls.mono (Cur.bytes_any _ _ _ _ _ _ l0 l0 _ o3''.rd q8) ?_); rw [Cur.eqB_self]; rintro e w' ⟨rfl, rfl⟩))
          go_ret
          exact ⟨rfl, bel.trans (hb18.mono z01)⟩
end Go.Proofs.Ytjdnjmggpomhcaa
