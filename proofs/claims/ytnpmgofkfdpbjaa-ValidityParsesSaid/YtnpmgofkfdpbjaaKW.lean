/- Joined texts: ValD, ValE. -/
import Derived.Lib.SlBytesConst
import Derived.Test.YtnpmgofkfdpbjaaKV
import Derived.Test.YtnpmgofkfdpbjaaKH
import Derived.Test.YtnpmgofkfdpbjaaKA
set_option linter.unusedSimpArgs false
set_option linter.unusedVariables false
/- Walks: Contains and Left of validity and of the reference. -/
namespace Go.Proofs.Ytnpmgofkfdpbjaa.Val
open Go.RowKit Kit Tlv

/-- a point in time -/
structure T6 where
  y : Int
  m : Int
  d : Int
  h : Int
  mi : Int
  s : Int
abbrev tv (t : T6) : Value := Clk.time t.y t.m t.d t.h t.mi t.s
abbrev tcs (t : T6) : Array Value := #[.int .i64 t.y, .int .i64 t.m, .int .i64 t.d, .int .i64 t.h, .int .i64 t.mi, .int .i64 t.s]
def vB (t : T6) : Bool := Clk.validB t.y t.m t.d t.h t.mi t.s
def cT (a b : T6) : Int := Clk.cmpT a.y a.m a.d a.h a.mi a.s b.y b.m b.d b.h b.mi b.s
def sc (a : T6) : Int := Clk.secs a.y a.m a.d a.h a.mi a.s
/-- does a point in time lie between two others? -/
def cts (f t a : T6) : Bool := vB f && (vB t && (vB a && (decide (cT f a ≤ 0) && decide (cT a t ≤ 0))))
theorem sc_bd {a : T6} (h : vB a = true) : -62167219200 ≤ sc a ∧ sc a < 253402300800 := Clk.secs_bd h
theorem sc_cmp {a b : T6} (h : vB a = true) (h2 : vB b = true) : cT a b = Clk.cmpI (sc a) (sc b) := Clk.secs_cmp h h2
/-- three boxes -/
def T3 (w : World) (f t a : T6) (X : World) : Prop :=
  X.heap[w.heap.size]? = some (.cells (tcs f) 28 (0, 0)) ∧ X.heap[w.heap.size + 1]? = some (.cells (tcs t) 28 (0, 0)) ∧ X.heap[w.heap.size + 1 + 1]? = some (.cells (tcs a) 28 (0, 0)) ∧ Below w.heap.size w X
theorem T3.new (w : World) (f t a : T6) : T3 w f t a (((w.alloc (.cells (tcs f) 28)).alloc (.cells (tcs t) 28)).alloc (.cells (tcs a) 28)) :=
  ⟨bk_old (bk_old (bk_new rfl)), bk_old (bk_new (by simp)), bk_new (by simp), (by repeat' (first | (with_reducible exact Below.refl _ _) | (with_reducible assumption) | (with_reducible refine below_drewN ?_ _) | (with_reducible refine Below.drew ?_) | (with_reducible refine Below.alloc ?_ ?_ _) | (with_reducible refine Below.setCell ?_ ?_ _) | go_size))⟩
theorem T3.past {w X Y : World} {f t a : T6} (h : T3 w f t a X) (hb : Below X.heap.size X Y) : T3 w f t a Y :=
  ⟨stayK h.1 hb, stayK h.2.1 hb, stayK h.2.2.1 hb, h.2.2.2.trans (hb.mono h.2.2.2.size)⟩
/-- two boxes -/
def T2 (w : World) (f t : T6) (X : World) : Prop :=
  X.heap[w.heap.size]? = some (.cells (tcs f) 28 (0, 0)) ∧ X.heap[w.heap.size + 1]? = some (.cells (tcs t) 28 (0, 0)) ∧ Below w.heap.size w X
theorem T2.new (w : World) (f t : T6) : T2 w f t ((w.alloc (.cells (tcs f) 28)).alloc (.cells (tcs t) 28)) :=
  ⟨bk_old (bk_new rfl), bk_new (by simp), (by repeat' (first | (with_reducible exact Below.refl _ _) | (with_reducible assumption) | (with_reducible refine below_drewN ?_ _) | (with_reducible refine Below.drew ?_) | (with_reducible refine Below.alloc ?_ ?_ _) | (with_reducible refine Below.setCell ?_ ?_ _) | go_size))⟩
theorem T2.past {w X Y : World} {f t : T6} (h : T2 w f t X) (hb : Below X.heap.size X Y) : T2 w f t Y :=
  ⟨stayK h.1 hb, stayK h.2.1 hb, h.2.2.trans (hb.mono h.2.2.size)⟩
/-- what Left returns -/
def lfC (t a : T6) : Int := if vB t = true ∧ vB a = true then 0 else 8
def lfV (t a : T6) : Int := if vB t = true ∧ vB a = true then sc t - sc a else 0

set_option maxHeartbeats 2000000 in
theorem contains_any (f t a : T6) (w : World) : Calls Try.prog 56 #[tv f, tv t, tv a] w fun e w' => e = .returned (.bool (cts f t a)) ∧ Below w.heap.size w w' := by
  have V := Lib.hid (fun (x : T6) (X : World) => Clk.valid_any x.y x.m x.d x.h x.mi x.s X)
  have C := Lib.hid (fun (x y : T6) (X : World) => Clk.cmpT_any x.y x.m x.d x.h x.mi x.s y.y y.m y.d y.h y.mi y.s X)
  have VF := Lib.hid (V.out f)
  have VT := Lib.hid (V.out t)
  have VA := Lib.hid (V.out a)
  have CF := Lib.hid (C.out f a)
  have CT := Lib.hid (C.out a t)
  have F := Lib.hid (show cts f t a = (vB f && (vB t && (vB a && (decide (cT f a ≤ 0) && decide (cT a t ≤ 0))))) from rfl)
  change Hid (∀ X : World, Calls Try.prog 86 #[tv f] X fun e w' => e = .returned (.bool (vB f)) ∧ Below X.heap.size X w') at VF
  change Hid (∀ X : World, Calls Try.prog 86 #[tv t] X fun e w' => e = .returned (.bool (vB t)) ∧ Below X.heap.size X w') at VT
  change Hid (∀ X : World, Calls Try.prog 86 #[tv a] X fun e w' => e = .returned (.bool (vB a)) ∧ Below X.heap.size X w') at VA
  change Hid (∀ X : World, Calls Try.prog 116 #[tv f, tv a] X fun e w' => e = .returned (.int .i64 (cT f a)) ∧ Below X.heap.size X w') at CF
  change Hid (∀ X : World, Calls Try.prog 116 #[tv a, tv t] X fun e w' => e = .returned (.int .i64 (cT a t)) ∧ Below X.heap.size X w') at CT
  clear V C
  generalize cT f a = k1 at *
  generalize cT a t = k2 at *
  cases hf : vB f with
  | false =>
    rw [hf] at VF F
    clear hf CF CT VT VA
    go_enter Try.func56, Try.ntmps56
    go_wp2_with fail
    go_must (go_fit (VF.out _))
    rintro e w1 ⟨rfl, hb1⟩
    have hp1 := T3.past (T3.new w f t a) hb1
    have HP1 := Lib.hid hp1
    obtain ⟨p1, p2, p3, -⟩ := hp1
    obtain ⟨q0, q1, q2, q3, q4, q5⟩ := cells6 p1
    obtain ⟨r0, r1, r2, r3, r4, r5⟩ := cells6 p2
    obtain ⟨s0, s1, s2, s3, s4, s5⟩ := cells6 p3
    clear p1 p2 p3 hb1
    go_wp2
    go_ret
    exact ⟨ret_bool (by rw [F.out]; try (first | rfl | simp [*])), HP1.out.2.2.2⟩
  | true =>
    rw [hf] at VF F
    clear hf
    cases ht : vB t with
    | false =>
      rw [ht] at VT F
      clear ht CF CT VA
      go_enter Try.func56, Try.ntmps56
      go_wp2_with fail
      go_must (go_fit (VF.out _))
      rintro e w1 ⟨rfl, hb1⟩
      have hp1 := T3.past (T3.new w f t a) hb1
      have HP1 := Lib.hid hp1
      obtain ⟨p1, p2, p3, -⟩ := hp1
      obtain ⟨q0, q1, q2, q3, q4, q5⟩ := cells6 p1
      obtain ⟨r0, r1, r2, r3, r4, r5⟩ := cells6 p2
      obtain ⟨s0, s1, s2, s3, s4, s5⟩ := cells6 p3
      clear p1 p2 p3 hb1
      go_wp2_with fail
      go_must (go_fit (VT.out _))
      rintro e w2 ⟨rfl, hb2⟩
      have hp2 := T3.past HP1.out hb2
      clear q0 q1 q2 q3 q4 q5 r0 r1 r2 r3 r4 r5 s0 s1 s2 s3 s4 s5
      have HP2 := Lib.hid hp2
      obtain ⟨p1, p2, p3, -⟩ := hp2
      obtain ⟨q0, q1, q2, q3, q4, q5⟩ := cells6 p1
      obtain ⟨r0, r1, r2, r3, r4, r5⟩ := cells6 p2
      obtain ⟨s0, s1, s2, s3, s4, s5⟩ := cells6 p3
      clear p1 p2 p3 hb2
      go_wp2
      go_ret
      exact ⟨ret_bool (by rw [F.out]; try (first | rfl | simp [*])), HP2.out.2.2.2⟩
    | true =>
      rw [ht] at VT F
      clear ht
      cases ha : vB a with
      | false =>
        rw [ha] at VA F
        clear ha CF CT
        go_enter Try.func56, Try.ntmps56
        go_wp2_with fail
        go_must (go_fit (VF.out _))
        rintro e w1 ⟨rfl, hb1⟩
        have hp1 := T3.past (T3.new w f t a) hb1
        have HP1 := Lib.hid hp1
        obtain ⟨p1, p2, p3, -⟩ := hp1
        obtain ⟨q0, q1, q2, q3, q4, q5⟩ := cells6 p1
        obtain ⟨r0, r1, r2, r3, r4, r5⟩ := cells6 p2
        obtain ⟨s0, s1, s2, s3, s4, s5⟩ := cells6 p3
        clear p1 p2 p3 hb1
        go_wp2_with fail
        go_must (go_fit (VT.out _))
        rintro e w2 ⟨rfl, hb2⟩
        have hp2 := T3.past HP1.out hb2
        clear q0 q1 q2 q3 q4 q5 r0 r1 r2 r3 r4 r5 s0 s1 s2 s3 s4 s5
        have HP2 := Lib.hid hp2
        obtain ⟨p1, p2, p3, -⟩ := hp2
        obtain ⟨q0, q1, q2, q3, q4, q5⟩ := cells6 p1
        obtain ⟨r0, r1, r2, r3, r4, r5⟩ := cells6 p2
        obtain ⟨s0, s1, s2, s3, s4, s5⟩ := cells6 p3
        clear p1 p2 p3 hb2
        go_wp2_with fail
        go_must (go_fit (VA.out _))
        rintro e w3 ⟨rfl, hb3⟩
        have hp3 := T3.past HP2.out hb3
        clear q0 q1 q2 q3 q4 q5 r0 r1 r2 r3 r4 r5 s0 s1 s2 s3 s4 s5
        have HP3 := Lib.hid hp3
        obtain ⟨p1, p2, p3, -⟩ := hp3
        obtain ⟨q0, q1, q2, q3, q4, q5⟩ := cells6 p1
        obtain ⟨r0, r1, r2, r3, r4, r5⟩ := cells6 p2
        obtain ⟨s0, s1, s2, s3, s4, s5⟩ := cells6 p3
        clear p1 p2 p3 hb3
        go_wp2
        go_ret
        exact ⟨ret_bool (by rw [F.out]; try (first | rfl | simp [*])), HP3.out.2.2.2⟩
      | true =>
        rw [ha] at VA F
        clear ha
        by_cases h1 : k1 ≤ 0
        · by_cases h2 : k2 ≤ 0
          · have F := Lib.hid (show cts f t a = true from by rw [F.out]; simp [h1, h2])
            go_enter Try.func56, Try.ntmps56
            go_wp2_with fail
            go_must (go_fit (VF.out _))
            rintro e w1 ⟨rfl, hb1⟩
            have hp1 := T3.past (T3.new w f t a) hb1
            have HP1 := Lib.hid hp1
            obtain ⟨p1, p2, p3, -⟩ := hp1
            obtain ⟨q0, q1, q2, q3, q4, q5⟩ := cells6 p1
            obtain ⟨r0, r1, r2, r3, r4, r5⟩ := cells6 p2
            obtain ⟨s0, s1, s2, s3, s4, s5⟩ := cells6 p3
            clear p1 p2 p3 hb1
            go_wp2_with fail
            go_must (go_fit (VT.out _))
            rintro e w2 ⟨rfl, hb2⟩
            have hp2 := T3.past HP1.out hb2
            clear q0 q1 q2 q3 q4 q5 r0 r1 r2 r3 r4 r5 s0 s1 s2 s3 s4 s5
            have HP2 := Lib.hid hp2
            obtain ⟨p1, p2, p3, -⟩ := hp2
            obtain ⟨q0, q1, q2, q3, q4, q5⟩ := cells6 p1
            obtain ⟨r0, r1, r2, r3, r4, r5⟩ := cells6 p2
            obtain ⟨s0, s1, s2, s3, s4, s5⟩ := cells6 p3
            clear p1 p2 p3 hb2
            go_wp2_with fail
            go_must (go_fit (VA.out _))
            rintro e w3 ⟨rfl, hb3⟩
            have hp3 := T3.past HP2.out hb3
            clear q0 q1 q2 q3 q4 q5 r0 r1 r2 r3 r4 r5 s0 s1 s2 s3 s4 s5
            have HP3 := Lib.hid hp3
            obtain ⟨p1, p2, p3, -⟩ := hp3
            obtain ⟨q0, q1, q2, q3, q4, q5⟩ := cells6 p1
            obtain ⟨r0, r1, r2, r3, r4, r5⟩ := cells6 p2
            obtain ⟨s0, s1, s2, s3, s4, s5⟩ := cells6 p3
            clear p1 p2 p3 hb3
            go_wp2_with fail
            go_must (go_fit (CF.out _))
            rintro e w4 ⟨rfl, hb4⟩
            have hp4 := T3.past HP3.out hb4
            clear q0 q1 q2 q3 q4 q5 r0 r1 r2 r3 r4 r5 s0 s1 s2 s3 s4 s5
            have HP4 := Lib.hid hp4
            obtain ⟨p1, p2, p3, -⟩ := hp4
            obtain ⟨q0, q1, q2, q3, q4, q5⟩ := cells6 p1
            obtain ⟨r0, r1, r2, r3, r4, r5⟩ := cells6 p2
            obtain ⟨s0, s1, s2, s3, s4, s5⟩ := cells6 p3
            clear p1 p2 p3 hb4
            go_wp2_with fail
            go_must (go_fit (CT.out _))
            rintro e w5 ⟨rfl, hb5⟩
            have hp5 := T3.past HP4.out hb5
            clear q0 q1 q2 q3 q4 q5 r0 r1 r2 r3 r4 r5 s0 s1 s2 s3 s4 s5
            have HP5 := Lib.hid hp5
            obtain ⟨p1, p2, p3, -⟩ := hp5
            obtain ⟨q0, q1, q2, q3, q4, q5⟩ := cells6 p1
            obtain ⟨r0, r1, r2, r3, r4, r5⟩ := cells6 p2
            obtain ⟨s0, s1, s2, s3, s4, s5⟩ := cells6 p3
            clear p1 p2 p3 hb5
            go_wp2
            go_ret
            exact ⟨ret_bool (by rw [F.out]; try (first | rfl | simp [*])), HP5.out.2.2.2⟩
          · have F := Lib.hid (show cts f t a = false from by rw [F.out]; simp [h1, h2])
            go_enter Try.func56, Try.ntmps56
            go_wp2_with fail
            go_must (go_fit (VF.out _))
            rintro e w1 ⟨rfl, hb1⟩
            have hp1 := T3.past (T3.new w f t a) hb1
            have HP1 := Lib.hid hp1
            obtain ⟨p1, p2, p3, -⟩ := hp1
            obtain ⟨q0, q1, q2, q3, q4, q5⟩ := cells6 p1
            obtain ⟨r0, r1, r2, r3, r4, r5⟩ := cells6 p2
            obtain ⟨s0, s1, s2, s3, s4, s5⟩ := cells6 p3
            clear p1 p2 p3 hb1
            go_wp2_with fail
            go_must (go_fit (VT.out _))
            rintro e w2 ⟨rfl, hb2⟩
            have hp2 := T3.past HP1.out hb2
            clear q0 q1 q2 q3 q4 q5 r0 r1 r2 r3 r4 r5 s0 s1 s2 s3 s4 s5
            have HP2 := Lib.hid hp2
            obtain ⟨p1, p2, p3, -⟩ := hp2
            obtain ⟨q0, q1, q2, q3, q4, q5⟩ := cells6 p1
            obtain ⟨r0, r1, r2, r3, r4, r5⟩ := cells6 p2
            obtain ⟨s0, s1, s2, s3, s4, s5⟩ := cells6 p3
            clear p1 p2 p3 hb2
            go_wp2_with fail
            go_must (go_fit (VA.out _))
            rintro e w3 ⟨rfl, hb3⟩
            have hp3 := T3.past HP2.out hb3
            clear q0 q1 q2 q3 q4 q5 r0 r1 r2 r3 r4 r5 s0 s1 s2 s3 s4 s5
            have HP3 := Lib.hid hp3
            obtain ⟨p1, p2, p3, -⟩ := hp3
            obtain ⟨q0, q1, q2, q3, q4, q5⟩ := cells6 p1
            obtain ⟨r0, r1, r2, r3, r4, r5⟩ := cells6 p2
            obtain ⟨s0, s1, s2, s3, s4, s5⟩ := cells6 p3
            clear p1 p2 p3 hb3
            go_wp2_with fail
            go_must (go_fit (CF.out _))
            rintro e w4 ⟨rfl, hb4⟩
            have hp4 := T3.past HP3.out hb4
            clear q0 q1 q2 q3 q4 q5 r0 r1 r2 r3 r4 r5 s0 s1 s2 s3 s4 s5
            have HP4 := Lib.hid hp4
            obtain ⟨p1, p2, p3, -⟩ := hp4
            obtain ⟨q0, q1, q2, q3, q4, q5⟩ := cells6 p1
            obtain ⟨r0, r1, r2, r3, r4, r5⟩ := cells6 p2
            obtain ⟨s0, s1, s2, s3, s4, s5⟩ := cells6 p3
            clear p1 p2 p3 hb4
            go_wp2_with fail
            go_must (go_fit (CT.out _))
            rintro e w5 ⟨rfl, hb5⟩
            have hp5 := T3.past HP4.out hb5
            clear q0 q1 q2 q3 q4 q5 r0 r1 r2 r3 r4 r5 s0 s1 s2 s3 s4 s5
            have HP5 := Lib.hid hp5
            obtain ⟨p1, p2, p3, -⟩ := hp5
            obtain ⟨q0, q1, q2, q3, q4, q5⟩ := cells6 p1
            obtain ⟨r0, r1, r2, r3, r4, r5⟩ := cells6 p2
            obtain ⟨s0, s1, s2, s3, s4, s5⟩ := cells6 p3
            clear p1 p2 p3 hb5
            go_wp2
            go_ret
            exact ⟨ret_bool (by rw [F.out]; try (first | rfl | simp [*])), HP5.out.2.2.2⟩
        · have F := Lib.hid (show cts f t a = false from by rw [F.out]; simp [h1])
          go_enter Try.func56, Try.ntmps56
          go_wp2_with fail
          go_must (go_fit (VF.out _))
          rintro e w1 ⟨rfl, hb1⟩
          have hp1 := T3.past (T3.new w f t a) hb1
          have HP1 := Lib.hid hp1
          obtain ⟨p1, p2, p3, -⟩ := hp1
          obtain ⟨q0, q1, q2, q3, q4, q5⟩ := cells6 p1
          obtain ⟨r0, r1, r2, r3, r4, r5⟩ := cells6 p2
          obtain ⟨s0, s1, s2, s3, s4, s5⟩ := cells6 p3
          clear p1 p2 p3 hb1
          go_wp2_with fail
          go_must (go_fit (VT.out _))
          rintro e w2 ⟨rfl, hb2⟩
          have hp2 := T3.past HP1.out hb2
          clear q0 q1 q2 q3 q4 q5 r0 r1 r2 r3 r4 r5 s0 s1 s2 s3 s4 s5
          have HP2 := Lib.hid hp2
          obtain ⟨p1, p2, p3, -⟩ := hp2
          obtain ⟨q0, q1, q2, q3, q4, q5⟩ := cells6 p1
          obtain ⟨r0, r1, r2, r3, r4, r5⟩ := cells6 p2
          obtain ⟨s0, s1, s2, s3, s4, s5⟩ := cells6 p3
          clear p1 p2 p3 hb2
          go_wp2_with fail
          go_must (go_fit (VA.out _))
          rintro e w3 ⟨rfl, hb3⟩
          have hp3 := T3.past HP2.out hb3
          clear q0 q1 q2 q3 q4 q5 r0 r1 r2 r3 r4 r5 s0 s1 s2 s3 s4 s5
          have HP3 := Lib.hid hp3
          obtain ⟨p1, p2, p3, -⟩ := hp3
          obtain ⟨q0, q1, q2, q3, q4, q5⟩ := cells6 p1
          obtain ⟨r0, r1, r2, r3, r4, r5⟩ := cells6 p2
          obtain ⟨s0, s1, s2, s3, s4, s5⟩ := cells6 p3
          clear p1 p2 p3 hb3
          go_wp2_with fail
          go_must (go_fit (CF.out _))
          rintro e w4 ⟨rfl, hb4⟩
          have hp4 := T3.past HP3.out hb4
          clear q0 q1 q2 q3 q4 q5 r0 r1 r2 r3 r4 r5 s0 s1 s2 s3 s4 s5
          have HP4 := Lib.hid hp4
          obtain ⟨p1, p2, p3, -⟩ := hp4
          obtain ⟨q0, q1, q2, q3, q4, q5⟩ := cells6 p1
          obtain ⟨r0, r1, r2, r3, r4, r5⟩ := cells6 p2
          obtain ⟨s0, s1, s2, s3, s4, s5⟩ := cells6 p3
          clear p1 p2 p3 hb4
          go_wp2
          go_ret
          exact ⟨ret_bool (by rw [F.out]; try (first | rfl | simp [*])), HP4.out.2.2.2⟩

set_option maxHeartbeats 2000000 in
theorem refcontains_any (f t a : T6) (w : World) : Calls Try.prog 59 #[tv f, tv t, tv a] w fun e w' => e = .returned (.bool (cts f t a)) ∧ Below w.heap.size w w' := by
  have V := Lib.hid (fun (x : T6) (X : World) => Clk.refvalid_any x.y x.m x.d x.h x.mi x.s X)
  have C := Lib.hid (fun (x y : T6) (X : World) => Clk.refcmpT_any x.y x.m x.d x.h x.mi x.s y.y y.m y.d y.h y.mi y.s X)
  have VF := Lib.hid (V.out f)
  have VT := Lib.hid (V.out t)
  have VA := Lib.hid (V.out a)
  have CF := Lib.hid (C.out f a)
  have CT := Lib.hid (C.out a t)
  have F := Lib.hid (show cts f t a = (vB f && (vB t && (vB a && (decide (cT f a ≤ 0) && decide (cT a t ≤ 0))))) from rfl)
  change Hid (∀ X : World, Calls Try.prog 87 #[tv f] X fun e w' => e = .returned (.bool (vB f)) ∧ Below X.heap.size X w') at VF
  change Hid (∀ X : World, Calls Try.prog 87 #[tv t] X fun e w' => e = .returned (.bool (vB t)) ∧ Below X.heap.size X w') at VT
  change Hid (∀ X : World, Calls Try.prog 87 #[tv a] X fun e w' => e = .returned (.bool (vB a)) ∧ Below X.heap.size X w') at VA
  change Hid (∀ X : World, Calls Try.prog 119 #[tv f, tv a] X fun e w' => e = .returned (.int .i64 (cT f a)) ∧ Below X.heap.size X w') at CF
  change Hid (∀ X : World, Calls Try.prog 119 #[tv a, tv t] X fun e w' => e = .returned (.int .i64 (cT a t)) ∧ Below X.heap.size X w') at CT
  clear V C
  generalize cT f a = k1 at *
  generalize cT a t = k2 at *
  cases hf : vB f with
  | false =>
    rw [hf] at VF F
    clear hf CF CT VT VA
    go_enter Try.func59, Try.ntmps59
    go_wp2_with fail
    go_must (go_fit (VF.out _))
    rintro e w1 ⟨rfl, hb1⟩
    have hp1 := T3.past (T3.new w f t a) hb1
    have HP1 := Lib.hid hp1
    obtain ⟨p1, p2, p3, -⟩ := hp1
    obtain ⟨q0, q1, q2, q3, q4, q5⟩ := cells6 p1
    obtain ⟨r0, r1, r2, r3, r4, r5⟩ := cells6 p2
    obtain ⟨s0, s1, s2, s3, s4, s5⟩ := cells6 p3
    clear p1 p2 p3 hb1
    go_wp2
    go_ret
    exact ⟨ret_bool (by rw [F.out]; try (first | rfl | simp [*])), HP1.out.2.2.2⟩
  | true =>
    rw [hf] at VF F
    clear hf
    cases ht : vB t with
    | false =>
      rw [ht] at VT F
      clear ht CF CT VA
      go_enter Try.func59, Try.ntmps59
      go_wp2_with fail
      go_must (go_fit (VF.out _))
      rintro e w1 ⟨rfl, hb1⟩
      have hp1 := T3.past (T3.new w f t a) hb1
      have HP1 := Lib.hid hp1
      obtain ⟨p1, p2, p3, -⟩ := hp1
      obtain ⟨q0, q1, q2, q3, q4, q5⟩ := cells6 p1
      obtain ⟨r0, r1, r2, r3, r4, r5⟩ := cells6 p2
      obtain ⟨s0, s1, s2, s3, s4, s5⟩ := cells6 p3
      clear p1 p2 p3 hb1
      go_wp2_with fail
      go_must (go_fit (VT.out _))
      rintro e w2 ⟨rfl, hb2⟩
      have hp2 := T3.past HP1.out hb2
      clear q0 q1 q2 q3 q4 q5 r0 r1 r2 r3 r4 r5 s0 s1 s2 s3 s4 s5
      have HP2 := Lib.hid hp2
      obtain ⟨p1, p2, p3, -⟩ := hp2
      obtain ⟨q0, q1, q2, q3, q4, q5⟩ := cells6 p1
      obtain ⟨r0, r1, r2, r3, r4, r5⟩ := cells6 p2
      obtain ⟨s0, s1, s2, s3, s4, s5⟩ := cells6 p3
      clear p1 p2 p3 hb2
      go_wp2
      go_ret
      exact ⟨ret_bool (by rw [F.out]; try (first | rfl | simp [*])), HP2.out.2.2.2⟩
    | true =>
      rw [ht] at VT F
      clear ht
      cases ha : vB a with
      | false =>
        rw [ha] at VA F
        clear ha CF CT
        go_enter Try.func59, Try.ntmps59
        go_wp2_with fail
        go_must (go_fit (VF.out _))
        rintro e w1 ⟨rfl, hb1⟩
        have hp1 := T3.past (T3.new w f t a) hb1
        have HP1 := Lib.hid hp1
        obtain ⟨p1, p2, p3, -⟩ := hp1
        obtain ⟨q0, q1, q2, q3, q4, q5⟩ := cells6 p1
        obtain ⟨r0, r1, r2, r3, r4, r5⟩ := cells6 p2
        obtain ⟨s0, s1, s2, s3, s4, s5⟩ := cells6 p3
        clear p1 p2 p3 hb1
        go_wp2_with fail
        go_must (go_fit (VT.out _))
        rintro e w2 ⟨rfl, hb2⟩
        have hp2 := T3.past HP1.out hb2
        clear q0 q1 q2 q3 q4 q5 r0 r1 r2 r3 r4 r5 s0 s1 s2 s3 s4 s5
        have HP2 := Lib.hid hp2
        obtain ⟨p1, p2, p3, -⟩ := hp2
        obtain ⟨q0, q1, q2, q3, q4, q5⟩ := cells6 p1
        obtain ⟨r0, r1, r2, r3, r4, r5⟩ := cells6 p2
        obtain ⟨s0, s1, s2, s3, s4, s5⟩ := cells6 p3
        clear p1 p2 p3 hb2
        go_wp2_with fail
        go_must (go_fit (VA.out _))
        rintro e w3 ⟨rfl, hb3⟩
        have hp3 := T3.past HP2.out hb3
        clear q0 q1 q2 q3 q4 q5 r0 r1 r2 r3 r4 r5 s0 s1 s2 s3 s4 s5
        have HP3 := Lib.hid hp3
        obtain ⟨p1, p2, p3, -⟩ := hp3
        obtain ⟨q0, q1, q2, q3, q4, q5⟩ := cells6 p1
        obtain ⟨r0, r1, r2, r3, r4, r5⟩ := cells6 p2
        obtain ⟨s0, s1, s2, s3, s4, s5⟩ := cells6 p3
        clear p1 p2 p3 hb3
        go_wp2
        go_ret
        exact ⟨ret_bool (by rw [F.out]; try (first | rfl | simp [*])), HP3.out.2.2.2⟩
      | true =>
        rw [ha] at VA F
        clear ha
        by_cases h1 : k1 ≤ 0
        · by_cases h2 : k2 ≤ 0
          · have F := Lib.hid (show cts f t a = true from by rw [F.out]; simp [h1, h2])
            go_enter Try.func59, Try.ntmps59
            go_wp2_with fail
            go_must (go_fit (VF.out _))
            rintro e w1 ⟨rfl, hb1⟩
            have hp1 := T3.past (T3.new w f t a) hb1
            have HP1 := Lib.hid hp1
            obtain ⟨p1, p2, p3, -⟩ := hp1
            obtain ⟨q0, q1, q2, q3, q4, q5⟩ := cells6 p1
            obtain ⟨r0, r1, r2, r3, r4, r5⟩ := cells6 p2
            obtain ⟨s0, s1, s2, s3, s4, s5⟩ := cells6 p3
            clear p1 p2 p3 hb1
            go_wp2_with fail
            go_must (go_fit (VT.out _))
            rintro e w2 ⟨rfl, hb2⟩
            have hp2 := T3.past HP1.out hb2
            clear q0 q1 q2 q3 q4 q5 r0 r1 r2 r3 r4 r5 s0 s1 s2 s3 s4 s5
            have HP2 := Lib.hid hp2
            obtain ⟨p1, p2, p3, -⟩ := hp2
            obtain ⟨q0, q1, q2, q3, q4, q5⟩ := cells6 p1
            obtain ⟨r0, r1, r2, r3, r4, r5⟩ := cells6 p2
            obtain ⟨s0, s1, s2, s3, s4, s5⟩ := cells6 p3
            clear p1 p2 p3 hb2
            go_wp2_with fail
            go_must (go_fit (VA.out _))
            rintro e w3 ⟨rfl, hb3⟩
            have hp3 := T3.past HP2.out hb3
            clear q0 q1 q2 q3 q4 q5 r0 r1 r2 r3 r4 r5 s0 s1 s2 s3 s4 s5
            have HP3 := Lib.hid hp3
            obtain ⟨p1, p2, p3, -⟩ := hp3
            obtain ⟨q0, q1, q2, q3, q4, q5⟩ := cells6 p1
            obtain ⟨r0, r1, r2, r3, r4, r5⟩ := cells6 p2
            obtain ⟨s0, s1, s2, s3, s4, s5⟩ := cells6 p3
            clear p1 p2 p3 hb3
            go_wp2_with fail
            go_must (go_fit (CF.out _))
            rintro e w4 ⟨rfl, hb4⟩
            have hp4 := T3.past HP3.out hb4
            clear q0 q1 q2 q3 q4 q5 r0 r1 r2 r3 r4 r5 s0 s1 s2 s3 s4 s5
            have HP4 := Lib.hid hp4
            obtain ⟨p1, p2, p3, -⟩ := hp4
            obtain ⟨q0, q1, q2, q3, q4, q5⟩ := cells6 p1
            obtain ⟨r0, r1, r2, r3, r4, r5⟩ := cells6 p2
            obtain ⟨s0, s1, s2, s3, s4, s5⟩ := cells6 p3
            clear p1 p2 p3 hb4
            go_wp2_with fail
            go_must (go_fit (CT.out _))
            rintro e w5 ⟨rfl, hb5⟩
            have hp5 := T3.past HP4.out hb5
            clear q0 q1 q2 q3 q4 q5 r0 r1 r2 r3 r4 r5 s0 s1 s2 s3 s4 s5
            have HP5 := Lib.hid hp5
            obtain ⟨p1, p2, p3, -⟩ := hp5
            obtain ⟨q0, q1, q2, q3, q4, q5⟩ := cells6 p1
            obtain ⟨r0, r1, r2, r3, r4, r5⟩ := cells6 p2
            obtain ⟨s0, s1, s2, s3, s4, s5⟩ := cells6 p3
            clear p1 p2 p3 hb5
            go_wp2
            go_ret
            exact ⟨ret_bool (by rw [F.out]; try (first | rfl | simp [*])), HP5.out.2.2.2⟩
          · have F := Lib.hid (show cts f t a = false from by rw [F.out]; simp [h1, h2])
            go_enter Try.func59, Try.ntmps59
            go_wp2_with fail
            go_must (go_fit (VF.out _))
            rintro e w1 ⟨rfl, hb1⟩
            have hp1 := T3.past (T3.new w f t a) hb1
            have HP1 := Lib.hid hp1
            obtain ⟨p1, p2, p3, -⟩ := hp1
            obtain ⟨q0, q1, q2, q3, q4, q5⟩ := cells6 p1
            obtain ⟨r0, r1, r2, r3, r4, r5⟩ := cells6 p2
            obtain ⟨s0, s1, s2, s3, s4, s5⟩ := cells6 p3
            clear p1 p2 p3 hb1
            go_wp2_with fail
            go_must (go_fit (VT.out _))
            rintro e w2 ⟨rfl, hb2⟩
            have hp2 := T3.past HP1.out hb2
            clear q0 q1 q2 q3 q4 q5 r0 r1 r2 r3 r4 r5 s0 s1 s2 s3 s4 s5
            have HP2 := Lib.hid hp2
            obtain ⟨p1, p2, p3, -⟩ := hp2
            obtain ⟨q0, q1, q2, q3, q4, q5⟩ := cells6 p1
            obtain ⟨r0, r1, r2, r3, r4, r5⟩ := cells6 p2
            obtain ⟨s0, s1, s2, s3, s4, s5⟩ := cells6 p3
            clear p1 p2 p3 hb2
            go_wp2_with fail
            go_must (go_fit (VA.out _))
            rintro e w3 ⟨rfl, hb3⟩
            have hp3 := T3.past HP2.out hb3
            clear q0 q1 q2 q3 q4 q5 r0 r1 r2 r3 r4 r5 s0 s1 s2 s3 s4 s5
            have HP3 := Lib.hid hp3
            obtain ⟨p1, p2, p3, -⟩ := hp3
            obtain ⟨q0, q1, q2, q3, q4, q5⟩ := cells6 p1
            obtain ⟨r0, r1, r2, r3, r4, r5⟩ := cells6 p2
            obtain ⟨s0, s1, s2, s3, s4, s5⟩ := cells6 p3
            clear p1 p2 p3 hb3
            go_wp2_with fail
            go_must (go_fit (CF.out _))
            rintro e w4 ⟨rfl, hb4⟩
            have hp4 := T3.past HP3.out hb4
            clear q0 q1 q2 q3 q4 q5 r0 r1 r2 r3 r4 r5 s0 s1 s2 s3 s4 s5
            have HP4 := Lib.hid hp4
            obtain ⟨p1, p2, p3, -⟩ := hp4
            obtain ⟨q0, q1, q2, q3, q4, q5⟩ := cells6 p1
            obtain ⟨r0, r1, r2, r3, r4, r5⟩ := cells6 p2
            obtain ⟨s0, s1, s2, s3, s4, s5⟩ := cells6 p3
            clear p1 p2 p3 hb4
            go_wp2_with fail
            go_must (go_fit (CT.out _))
            rintro e w5 ⟨rfl, hb5⟩
            have hp5 := T3.past HP4.out hb5
            clear q0 q1 q2 q3 q4 q5 r0 r1 r2 r3 r4 r5 s0 s1 s2 s3 s4 s5
            have HP5 := Lib.hid hp5
            obtain ⟨p1, p2, p3, -⟩ := hp5
            obtain ⟨q0, q1, q2, q3, q4, q5⟩ := cells6 p1
            obtain ⟨r0, r1, r2, r3, r4, r5⟩ := cells6 p2
            obtain ⟨s0, s1, s2, s3, s4, s5⟩ := cells6 p3
            clear p1 p2 p3 hb5
            go_wp2
            go_ret
            exact ⟨ret_bool (by rw [F.out]; try (first | rfl | simp [*])), HP5.out.2.2.2⟩
        · have F := Lib.hid (show cts f t a = false from by rw [F.out]; simp [h1])
          go_enter Try.func59, Try.ntmps59
          go_wp2_with fail
          go_must (go_fit (VF.out _))
          rintro e w1 ⟨rfl, hb1⟩
          have hp1 := T3.past (T3.new w f t a) hb1
          have HP1 := Lib.hid hp1
          obtain ⟨p1, p2, p3, -⟩ := hp1
          obtain ⟨q0, q1, q2, q3, q4, q5⟩ := cells6 p1
          obtain ⟨r0, r1, r2, r3, r4, r5⟩ := cells6 p2
          obtain ⟨s0, s1, s2, s3, s4, s5⟩ := cells6 p3
          clear p1 p2 p3 hb1
          go_wp2_with fail
          go_must (go_fit (VT.out _))
          rintro e w2 ⟨rfl, hb2⟩
          have hp2 := T3.past HP1.out hb2
          clear q0 q1 q2 q3 q4 q5 r0 r1 r2 r3 r4 r5 s0 s1 s2 s3 s4 s5
          have HP2 := Lib.hid hp2
          obtain ⟨p1, p2, p3, -⟩ := hp2
          obtain ⟨q0, q1, q2, q3, q4, q5⟩ := cells6 p1
          obtain ⟨r0, r1, r2, r3, r4, r5⟩ := cells6 p2
          obtain ⟨s0, s1, s2, s3, s4, s5⟩ := cells6 p3
          clear p1 p2 p3 hb2
          go_wp2_with fail
          go_must (go_fit (VA.out _))
          rintro e w3 ⟨rfl, hb3⟩
          have hp3 := T3.past HP2.out hb3
          clear q0 q1 q2 q3 q4 q5 r0 r1 r2 r3 r4 r5 s0 s1 s2 s3 s4 s5
          have HP3 := Lib.hid hp3
          obtain ⟨p1, p2, p3, -⟩ := hp3
          obtain ⟨q0, q1, q2, q3, q4, q5⟩ := cells6 p1
          obtain ⟨r0, r1, r2, r3, r4, r5⟩ := cells6 p2
          obtain ⟨s0, s1, s2, s3, s4, s5⟩ := cells6 p3
          clear p1 p2 p3 hb3
          go_wp2_with fail
          go_must (go_fit (CF.out _))
          rintro e w4 ⟨rfl, hb4⟩
          have hp4 := T3.past HP3.out hb4
          clear q0 q1 q2 q3 q4 q5 r0 r1 r2 r3 r4 r5 s0 s1 s2 s3 s4 s5
          have HP4 := Lib.hid hp4
          obtain ⟨p1, p2, p3, -⟩ := hp4
          obtain ⟨q0, q1, q2, q3, q4, q5⟩ := cells6 p1
          obtain ⟨r0, r1, r2, r3, r4, r5⟩ := cells6 p2
          obtain ⟨s0, s1, s2, s3, s4, s5⟩ := cells6 p3
          clear p1 p2 p3 hb4
          go_wp2
          go_ret
          exact ⟨ret_bool (by rw [F.out]; try (first | rfl | simp [*])), HP4.out.2.2.2⟩

set_option maxHeartbeats 2000000 in
theorem left_any (t a : T6) (w : World) : Calls Try.prog 57 #[tv t, tv a] w fun e w' => e = .returned (.tuple #[.int .i64 (lfV t a), .int .i64 (lfC t a)]) ∧ Below w.heap.size w w' := by
  have B := Lib.hid (fun (x : T6) (h : vB x = false) (X : World) => show Calls Try.prog 117 #[tv x] X fun e w' => e = .returned (.tuple #[.int .i64 0, .int .i64 8]) ∧ Below X.heap.size X w' from Clk.secs_bad X h)
  have K := Lib.hid (fun (x : T6) (h : vB x = true) (X : World) => show Calls Try.prog 117 #[tv x] X fun e w' => e = .returned (.tuple #[.int .i64 (sc x), .int .i64 0]) ∧ Below X.heap.size X w' from Clk.secs_ok X h)
  cases ht : vB t with
  | false =>
    have HT := Lib.hid ht
    cases ha : vB a with
    | false =>
      have HA := Lib.hid ha
      have F := Lib.hid (show lfV t a = 0 ∧ lfC t a = 8 from by unfold lfV lfC; simp [ht, ha])
      have CT := Lib.hid (B.out t HT.out)
      have CA := Lib.hid (B.out a HA.out)
      clear ht ha B K
      go_enter Try.func57, Try.ntmps57
      go_wp2_with fail
      go_must (go_fit (CT.out _))
      rintro e w1 ⟨rfl, hb1⟩
      have hp1 := T2.past (T2.new w t a) hb1
      have HP1 := Lib.hid hp1
      obtain ⟨p1, p2, -⟩ := hp1
      obtain ⟨q0, q1, q2, q3, q4, q5⟩ := cells6 p1
      obtain ⟨r0, r1, r2, r3, r4, r5⟩ := cells6 p2
      clear p1 p2 hb1
      go_wp2_with fail
      go_must (go_fit (CA.out _))
      rintro e w2 ⟨rfl, hb2⟩
      have hp2 := T2.past HP1.out hb2
      clear q0 q1 q2 q3 q4 q5 r0 r1 r2 r3 r4 r5
      have HP2 := Lib.hid hp2
      obtain ⟨p1, p2, -⟩ := hp2
      obtain ⟨q0, q1, q2, q3, q4, q5⟩ := cells6 p1
      obtain ⟨r0, r1, r2, r3, r4, r5⟩ := cells6 p2
      clear p1 p2 hb2
      go_wp2
      go_ret2
      exact ⟨ret2 (vint F.out.1.symm) (vint F.out.2.symm), HP2.out.2.2⟩
    | true =>
      have HA := Lib.hid ha
      have F := Lib.hid (show lfV t a = 0 ∧ lfC t a = 8 from by unfold lfV lfC; simp [ht, ha])
      have CT := Lib.hid (B.out t HT.out)
      have CA := Lib.hid (K.out a HA.out)
      clear ht ha B K
      go_enter Try.func57, Try.ntmps57
      go_wp2_with fail
      go_must (go_fit (CT.out _))
      rintro e w1 ⟨rfl, hb1⟩
      have hp1 := T2.past (T2.new w t a) hb1
      have HP1 := Lib.hid hp1
      obtain ⟨p1, p2, -⟩ := hp1
      obtain ⟨q0, q1, q2, q3, q4, q5⟩ := cells6 p1
      obtain ⟨r0, r1, r2, r3, r4, r5⟩ := cells6 p2
      clear p1 p2 hb1
      go_wp2_with fail
      go_must (go_fit (CA.out _))
      rintro e w2 ⟨rfl, hb2⟩
      have hp2 := T2.past HP1.out hb2
      clear q0 q1 q2 q3 q4 q5 r0 r1 r2 r3 r4 r5
      have HP2 := Lib.hid hp2
      obtain ⟨p1, p2, -⟩ := hp2
      obtain ⟨q0, q1, q2, q3, q4, q5⟩ := cells6 p1
      obtain ⟨r0, r1, r2, r3, r4, r5⟩ := cells6 p2
      clear p1 p2 hb2
      go_wp2
      go_ret2
      exact ⟨ret2 (vint F.out.1.symm) (vint F.out.2.symm), HP2.out.2.2⟩
  | true =>
    have HT := Lib.hid ht
    cases ha : vB a with
    | false =>
      have HA := Lib.hid ha
      have F := Lib.hid (show lfV t a = 0 ∧ lfC t a = 8 from by unfold lfV lfC; simp [ht, ha])
      have CT := Lib.hid (K.out t HT.out)
      have CA := Lib.hid (B.out a HA.out)
      clear ht ha B K
      go_enter Try.func57, Try.ntmps57
      go_wp2_with fail
      go_must (go_fit (CT.out _))
      rintro e w1 ⟨rfl, hb1⟩
      have hp1 := T2.past (T2.new w t a) hb1
      have HP1 := Lib.hid hp1
      obtain ⟨p1, p2, -⟩ := hp1
      obtain ⟨q0, q1, q2, q3, q4, q5⟩ := cells6 p1
      obtain ⟨r0, r1, r2, r3, r4, r5⟩ := cells6 p2
      clear p1 p2 hb1
      go_wp2_with fail
      go_must (go_fit (CA.out _))
      rintro e w2 ⟨rfl, hb2⟩
      have hp2 := T2.past HP1.out hb2
      clear q0 q1 q2 q3 q4 q5 r0 r1 r2 r3 r4 r5
      have HP2 := Lib.hid hp2
      obtain ⟨p1, p2, -⟩ := hp2
      obtain ⟨q0, q1, q2, q3, q4, q5⟩ := cells6 p1
      obtain ⟨r0, r1, r2, r3, r4, r5⟩ := cells6 p2
      clear p1 p2 hb2
      go_wp2
      go_ret2
      exact ⟨ret2 (vint F.out.1.symm) (vint F.out.2.symm), HP2.out.2.2⟩
    | true =>
      have HA := Lib.hid ha
      have F := Lib.hid (show lfV t a = sc t - sc a ∧ lfC t a = 0 from by unfold lfV lfC; simp [ht, ha])
      have b1 := sc_bd ht
      have b2 := sc_bd ha
      have CT := Lib.hid (K.out t HT.out)
      have CA := Lib.hid (K.out a HA.out)
      clear ht ha B K
      generalize sc t = x1 at *
      generalize sc a = x2 at *
      go_enter Try.func57, Try.ntmps57
      go_wp2_with fail
      go_must (go_fit (CT.out _))
      rintro e w1 ⟨rfl, hb1⟩
      have hp1 := T2.past (T2.new w t a) hb1
      have HP1 := Lib.hid hp1
      obtain ⟨p1, p2, -⟩ := hp1
      obtain ⟨q0, q1, q2, q3, q4, q5⟩ := cells6 p1
      obtain ⟨r0, r1, r2, r3, r4, r5⟩ := cells6 p2
      clear p1 p2 hb1
      go_wp2_with fail
      go_must (go_fit (CA.out _))
      rintro e w2 ⟨rfl, hb2⟩
      have hp2 := T2.past HP1.out hb2
      clear q0 q1 q2 q3 q4 q5 r0 r1 r2 r3 r4 r5
      have HP2 := Lib.hid hp2
      obtain ⟨p1, p2, -⟩ := hp2
      obtain ⟨q0, q1, q2, q3, q4, q5⟩ := cells6 p1
      obtain ⟨r0, r1, r2, r3, r4, r5⟩ := cells6 p2
      clear p1 p2 hb2
      go_wp2
      go_ret2
      exact ⟨ret2 (vint F.out.1.symm) (vint F.out.2.symm), HP2.out.2.2⟩

set_option maxHeartbeats 2000000 in
theorem refleft_any (t a : T6) (w : World) : Calls Try.prog 58 #[tv t, tv a] w fun e w' => e = .returned (.tuple #[.int .i64 (lfV t a), .int .i64 (lfC t a)]) ∧ Below w.heap.size w w' := by
  have B := Lib.hid (fun (x : T6) (h : vB x = false) (X : World) => show Calls Try.prog 118 #[tv x] X fun e w' => e = .returned (.tuple #[.int .i64 0, .int .i64 8]) ∧ Below X.heap.size X w' from Clk.refsecs_bad X h)
  have K := Lib.hid (fun (x : T6) (h : vB x = true) (X : World) => show Calls Try.prog 118 #[tv x] X fun e w' => e = .returned (.tuple #[.int .i64 (sc x), .int .i64 0]) ∧ Below X.heap.size X w' from Clk.refsecs_ok X h)
  cases ht : vB t with
  | false =>
    have HT := Lib.hid ht
    cases ha : vB a with
    | false =>
      have HA := Lib.hid ha
      have F := Lib.hid (show lfV t a = 0 ∧ lfC t a = 8 from by unfold lfV lfC; simp [ht, ha])
      have CT := Lib.hid (B.out t HT.out)
      have CA := Lib.hid (B.out a HA.out)
      clear ht ha B K
      go_enter Try.func58, Try.ntmps58
      go_wp2_with fail
      go_must (go_fit (CT.out _))
      rintro e w1 ⟨rfl, hb1⟩
      have hp1 := T2.past (T2.new w t a) hb1
      have HP1 := Lib.hid hp1
      obtain ⟨p1, p2, -⟩ := hp1
      obtain ⟨q0, q1, q2, q3, q4, q5⟩ := cells6 p1
      obtain ⟨r0, r1, r2, r3, r4, r5⟩ := cells6 p2
      clear p1 p2 hb1
      go_wp2_with fail
      go_must (go_fit (CA.out _))
      rintro e w2 ⟨rfl, hb2⟩
      have hp2 := T2.past HP1.out hb2
      clear q0 q1 q2 q3 q4 q5 r0 r1 r2 r3 r4 r5
      have HP2 := Lib.hid hp2
      obtain ⟨p1, p2, -⟩ := hp2
      obtain ⟨q0, q1, q2, q3, q4, q5⟩ := cells6 p1
      obtain ⟨r0, r1, r2, r3, r4, r5⟩ := cells6 p2
      clear p1 p2 hb2
      go_wp2
      go_ret2
      exact ⟨ret2 (vint F.out.1.symm) (vint F.out.2.symm), HP2.out.2.2⟩
    | true =>
      have HA := Lib.hid ha
      have F := Lib.hid (show lfV t a = 0 ∧ lfC t a = 8 from by unfold lfV lfC; simp [ht, ha])
      have CT := Lib.hid (B.out t HT.out)
      have CA := Lib.hid (K.out a HA.out)
      clear ht ha B K
      go_enter Try.func58, Try.ntmps58
      go_wp2_with fail
      go_must (go_fit (CT.out _))
      rintro e w1 ⟨rfl, hb1⟩
      have hp1 := T2.past (T2.new w t a) hb1
      have HP1 := Lib.hid hp1
      obtain ⟨p1, p2, -⟩ := hp1
      obtain ⟨q0, q1, q2, q3, q4, q5⟩ := cells6 p1
      obtain ⟨r0, r1, r2, r3, r4, r5⟩ := cells6 p2
      clear p1 p2 hb1
      go_wp2_with fail
      go_must (go_fit (CA.out _))
      rintro e w2 ⟨rfl, hb2⟩
      have hp2 := T2.past HP1.out hb2
      clear q0 q1 q2 q3 q4 q5 r0 r1 r2 r3 r4 r5
      have HP2 := Lib.hid hp2
      obtain ⟨p1, p2, -⟩ := hp2
      obtain ⟨q0, q1, q2, q3, q4, q5⟩ := cells6 p1
      obtain ⟨r0, r1, r2, r3, r4, r5⟩ := cells6 p2
      clear p1 p2 hb2
      go_wp2
      go_ret2
      exact ⟨ret2 (vint F.out.1.symm) (vint F.out.2.symm), HP2.out.2.2⟩
  | true =>
    have HT := Lib.hid ht
    cases ha : vB a with
    | false =>
      have HA := Lib.hid ha
      have F := Lib.hid (show lfV t a = 0 ∧ lfC t a = 8 from by unfold lfV lfC; simp [ht, ha])
      have CT := Lib.hid (K.out t HT.out)
      have CA := Lib.hid (B.out a HA.out)
      clear ht ha B K
      go_enter Try.func58, Try.ntmps58
      go_wp2_with fail
      go_must (go_fit (CT.out _))
      rintro e w1 ⟨rfl, hb1⟩
      have hp1 := T2.past (T2.new w t a) hb1
      have HP1 := Lib.hid hp1
      obtain ⟨p1, p2, -⟩ := hp1
      obtain ⟨q0, q1, q2, q3, q4, q5⟩ := cells6 p1
      obtain ⟨r0, r1, r2, r3, r4, r5⟩ := cells6 p2
      clear p1 p2 hb1
      go_wp2_with fail
      go_must (go_fit (CA.out _))
      rintro e w2 ⟨rfl, hb2⟩
      have hp2 := T2.past HP1.out hb2
      clear q0 q1 q2 q3 q4 q5 r0 r1 r2 r3 r4 r5
      have HP2 := Lib.hid hp2
      obtain ⟨p1, p2, -⟩ := hp2
      obtain ⟨q0, q1, q2, q3, q4, q5⟩ := cells6 p1
      obtain ⟨r0, r1, r2, r3, r4, r5⟩ := cells6 p2
      clear p1 p2 hb2
      go_wp2
      go_ret2
      exact ⟨ret2 (vint F.out.1.symm) (vint F.out.2.symm), HP2.out.2.2⟩
    | true =>
      have HA := Lib.hid ha
      have F := Lib.hid (show lfV t a = sc t - sc a ∧ lfC t a = 0 from by unfold lfV lfC; simp [ht, ha])
      have b1 := sc_bd ht
      have b2 := sc_bd ha
      have CT := Lib.hid (K.out t HT.out)
      have CA := Lib.hid (K.out a HA.out)
      clear ht ha B K
      generalize sc t = x1 at *
      generalize sc a = x2 at *
      go_enter Try.func58, Try.ntmps58
      go_wp2_with fail
      go_must (go_fit (CT.out _))
      rintro e w1 ⟨rfl, hb1⟩
      have hp1 := T2.past (T2.new w t a) hb1
      have HP1 := Lib.hid hp1
      obtain ⟨p1, p2, -⟩ := hp1
      obtain ⟨q0, q1, q2, q3, q4, q5⟩ := cells6 p1
      obtain ⟨r0, r1, r2, r3, r4, r5⟩ := cells6 p2
      clear p1 p2 hb1
      go_wp2_with fail
      go_must (go_fit (CA.out _))
      rintro e w2 ⟨rfl, hb2⟩
      have hp2 := T2.past HP1.out hb2
      clear q0 q1 q2 q3 q4 q5 r0 r1 r2 r3 r4 r5
      have HP2 := Lib.hid hp2
      obtain ⟨p1, p2, -⟩ := hp2
      obtain ⟨q0, q1, q2, q3, q4, q5⟩ := cells6 p1
      obtain ⟨r0, r1, r2, r3, r4, r5⟩ := cells6 p2
      clear p1 p2 hb2
      go_wp2
      go_ret2
      exact ⟨ret2 (vint F.out.1.symm) (vint F.out.2.symm), HP2.out.2.2⟩
end Go.Proofs.Ytnpmgofkfdpbjaa.Val
/- Walks: law24.awake; the laws ValidityContains and ValidityTimes. -/
namespace Go.Proofs.Ytnpmgofkfdpbjaa.Val
open Go.RowKit Kit Tlv

/-- the bytes of a constant, just laid and marked -/
theorem litM (X : World) (xs : List Int) (l : List UInt8) (S n : Nat) (fr : Nat × Nat) (hS : X.heap.size = S) (hxs : ∀ x ∈ xs, 0 ≤ x ∧ x ≤ 255) (hl : xs.map ofI = l) (hn : xs.length = n) :
    Rd (X.alloc (.cells (xs.map (Value.int .u8)).toArray 5 fr)) (X.alloc (.cells (xs.map (Value.int .u8)).toArray 5 fr)).heap.size (some ⟨S, 0, none⟩) n l := by
  subst hS hl hn
  refine ⟨by simp, fun _ => ⟨_, rfl, by simp, fun k hk => ?_⟩⟩
  rw [add_plain, Nat.zero_add]
  have hx : (vs (xs.map ofI))[k]? = some (.int .u8 (bt (xs.map ofI) k)) := vs_get (by simpa using hk)
  rw [vs_ofI xs hxs] at hx
  rw [cell_of_row _ X.heap.size k _ _ _ (heap_alloc_new X _)]
  simpa using hx
theorem av1 : valL 2000 1 1 0 0 0 = [23, 13, 48, 48, 48, 49, 48, 49, 48, 48, 48, 48, 48, 48, 90] := by decide +kernel
theorem av2 : valL 2050 1 1 0 0 0 = [24, 15, 50, 48, 53, 48, 48, 49, 48, 49, 48, 48, 48, 48, 48, 48, 90] := by decide +kernel
theorem av3 : encL 0 false 24 (Clk.genL 2000 1 1 0 0 0) = [24, 15, 50, 48, 48, 48, 48, 49, 48, 49, 48, 48, 48, 48, 48, 48, 90] := by decide +kernel
theorem av4 {y m d h mi s : Int} (hv : valB y m d h mi s = true) : [24, 15, 50, 48, 48, 48, 48, 49, 48, 49, 48, 48, 48, 48, 48, 48, 90] ≠ valL y m d h mi s := by
  intro e
  rw [← av3] at e
  have c0 : encCode 0 24 (Clk.genL 2000 1 1 0 0 0).length = 0 := enc24
  rcases val_enc hv with ⟨a1, a2, a3, a4⟩ | ⟨a1, a2, a3, a4, a5⟩
  · rw [a2] at e
    have := (enc_inj a3 c0 e).2.1
    omega
  · rw [a2] at e
    rw [(enc_inj a3 c0 e).2.2.2] at a5
    have : Clk.yr4 (Clk.genL 2000 1 1 0 0 0) = 2000 := by decide +kernel
    omega

set_option maxRecDepth 100000 in
set_option maxHeartbeats 2000000 in
theorem awake24_any (w : World) : Calls Try.prog 24 #[] w fun e w' => e = .returned (.bool true) ∧ Below w.heap.size w w' := by
  have C1 := Lib.hid (fun (w : World) => marshalV_any 2000 1 1 0 0 0 w)
  rw [av1, show valC 2000 1 1 0 0 0 = 0 from by decide +kernel] at C1
  have C2 := Lib.hid (fun (w : World) => marshalV_any 2050 1 1 0 0 0 w)
  rw [av2, show valC 2050 1 1 0 0 0 = 0 from by decide +kernel] at C2
  have C4 := Lib.hid (fun (w : World) => validV_any 2000 1 1 0 0 0 w)
  rw [show valB 2000 1 1 0 0 0 = true from by decide +kernel] at C4
  have C3 := Lib.hid (fun (X : World) {A : Option Addr} (hr : Rd X X.heap.size A 17 [24, 15, 50, 48, 48, 48, 48, 49, 48, 49, 48, 48, 48, 48, 48, 48, 90]) =>
    show ∃ code off, 0 < code ∧ Calls Try.prog 30 #[.slice A 17 17] X fun e w' => e = .returned (parR 0 0 0 0 0 0 code off) ∧ Below X.heap.size X w' from by
      rcases parseV_any X hr (Nat.le_refl _) (Nat.le_refl _) (by unfold maxLen; omega) (by omega) with ⟨y, m, d, h, mi, s, hv, e, _⟩ | ⟨_, code, off, h1, _, _, h2⟩
      · exact absurd e (av4 hv)
      · exact ⟨code, off, h1, h2⟩)
  have kc := fun (w : World) (C : Array Value) (n c : Nat) => Lib.run_convert_bytes_const (P := Try.prog) w 29 5 C n c Try.underlying29 Try.underlying5
  go_enter Try.func24, Try.ntmps24
  go_wp2_with fail
  go_must (go_fit (C1.out _))
  rintro e w1 ⟨A1, c1, rfl, o1, hb1⟩
  simp only [List.length_cons, List.length_nil, Nat.zero_add, Nat.reduceAdd] at o1 ⊢
  have r1 := o1.rd
  have tb := blk1 hb1
  have bel := bel1 hb1
  obtain ⟨q0, q1, q2, q3, q4, q5⟩ := cells6 tb
  clear o1 hb1 C1
  go_wp2_with fail
  go_must (go_fit (C2.out _))
  rintro e w2 ⟨A2, c2, rfl, o2, hb2⟩
  simp only [List.length_cons, List.length_nil, Nat.zero_add, Nat.reduceAdd] at o2 ⊢
  have r2 := o2.rd
  replace r1 := r1.past hb2
  replace tb := stayK tb hb2
  replace bel := two_belowK bel hb2 bel.size
  clear o2 hb2 C2 q0 q1 q2 q3 q4 q5
  have r3 := litM w2 [24, 15, 50, 48, 48, 48, 48, 49, 48, 49, 48, 48, 48, 48, 48, 48, 90] [24, 15, 50, 48, 48, 48, 48, 49, 48, 49, 48, 48, 48, 48, 48, 48, 90] w2.heap.size 17 (17, 18) rfl (by decide) (by decide +kernel) rfl
  obtain ⟨code, off, hpos, PC⟩ := C3.out _ r3
  have PC' := Lib.hid PC
  clear PC C3 r3
  obtain ⟨q0, q1, q2, q3, q4, q5⟩ := cells6 tb
  go_wp2_with fail
  go_must (go_fit PC'.out)
  rintro e w3 ⟨rfl, hb3⟩
  replace r1 := ((r1.allocS _).past hb3)
  replace r2 := ((r2.allocS _).past hb3)
  replace tb := stayK (bk_old tb) hb3
  replace bel := (bel.alloc bel.size _).trans (hb3.mono (by have := bel.size; simp; omega))
  clear hb3 PC' q0 q1 q2 q3 q4 q5
  have hs1 := run_str (P := Try.prog) (c := c1) ((r1.allocS (.cells #[.int .i64 0, .int .i64 0, .int .i64 0, .int .i64 0, .int .i64 0, .int .i64 0] 28)).allocS (.cells #[.int .i64 code, .int .i64 off] 36)) 29 5 9 Try.underlying29 Try.underlying5 Try.underlying9
  have hs2 := run_str (P := Try.prog) (c := c2) ((r2.allocS (.cells #[.int .i64 0, .int .i64 0, .int .i64 0, .int .i64 0, .int .i64 0, .int .i64 0] 28)).allocS (.cells #[.int .i64 code, .int .i64 off] 36)) 29 5 9 Try.underlying29 Try.underlying5 Try.underlying9
  have hne : ¬ code = 0 := by omega
  have z3 := Blk_lt tb
  have bel3 := (bel.alloc bel.size (.cells #[.int .i64 0, .int .i64 0, .int .i64 0, .int .i64 0, .int .i64 0, .int .i64 0] 28)).alloc (by have := bel.size; simp; omega) (.cells #[.int .i64 code, .int .i64 off] 36)
  obtain ⟨q0, q1, q2, q3, q4, q5⟩ := cells6 tb
  clear r1 r2 tb bel
  go_wp2_with fail
  go_must (go_fit (C4.out _))
  rintro e w4 ⟨rfl, hb4⟩
  go_wp2
  go_ret
  exact ⟨(by first | rfl | exact ret_bool (by simp [hne])), bel3.trans (hb4.mono bel3.size)⟩
end Go.Proofs.Ytnpmgofkfdpbjaa.Val
