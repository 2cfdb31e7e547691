/- The walk of the law CursorRuns. -/
import Derived.Test.YtkkgcfllfhkoaaaCurQ
import Derived.Test.YtkkgcfllfhkoaaaFrameO
import Derived.Test.YtkkgcfllfhkoaaaErr
import Derived.Deep.RegionHeld3
import Derived.Deep.CutRange
set_option linter.unusedSimpArgs false
set_option linter.unusedVariables false
namespace Go.Proofs.Ytkkgcfllfhkoaaa
open Go.RowKit Kit Cur Opn

theorem Cur.add_one (a : Addr) : a.add 1 = ⟨a.block, a.off + 1, none⟩ := by unfold Addr.add; rw [if_neg (by omega)]
theorem Cur.RS.rest {w0 wr : World} {hi g1 g2 c2 p1 p2 : Nat} {A2 : Option Addr} {l : List UInt8} (h : RS w0 wr hi g1 g2 A2 c2 l p1 p2) (hp : p2 ≤ l.length) :
    Rd wr wr.heap.size (if c2 = p2 then A2 else A2.map (·.add p2)) (l.length - p2) (l.drop p2) := by
  have hr := h.2.2.1.rd.cut (k := p2) (m := l.length) (cap := c2) hp (Nat.le_refl _) h.2.2.1.cap
  rw [List.take_of_length_le (by rw [List.length_drop]; exact Nat.le_refl _)] at hr
  simpa only [Nat.mul_one] using hr
theorem Cur.eqB_id (l : List UInt8) : eqB l l = true := by simp [eqB]

set_option maxRecDepth 100000 in
set_option maxHeartbeats 4000000 in
theorem CursorRuns.walk (a0 : Option Addr) (len0 cap0 : Nat) (l0 : List UInt8) (a1 : Option Addr) (len1 cap1 : Nat) (w : World)
    (rd0 : Rd w w.heap.size a0 len0 l0) (hc0 : len0 ≤ cap0) (hm0 : cap0 ≤ maxLen) (ops1 : ∀ k, k < len1 → OpAt w a1 k) (hc1 : len1 ≤ cap1) (hm1 : cap1 ≤ maxLen) :
    Calls Try.prog 9 #[.slice a0 len0 cap0, .slice a1 len1 cap1] w fun e w' => e = .returned (.bool true) ∧ Below w.heap.size w w' := by
  clear hc0 hc1 hm0 hm1
  by_cases hbig : 2000 < len0 ∨ 60 < len1
  · clear ops1
    by_cases g0 : 2000 < len0 <;> by_cases g1 : 60 < len1
    all_goals first
      | (exfalso; omega)
      | (clear hbig
         go_enter Try.func9, Try.ntmps9
         go_wp2_with fail
         refine (awake_any _).mono ?_
         rintro e w1 ⟨rfl, hb1⟩
         go_wp2_with fail
         refine (awake_any _).mono ?_
         rintro e w2 ⟨rfl, hb2⟩
         go_wp2_with fail
         go_ret
         exact ⟨rfl, hb1.trans (hb2.mono hb1.size)⟩)
  · have g0 : ¬ 2000 < len0 := by omega
    have g1 : ¬ 60 < len1 := by omega
    clear hbig
    have L0 := rd0.len
    subst L0
    have O0 := Lib.hid ops1
    clear ops1
    go_enter Try.func9, Try.ntmps9
    go_wp2_with fail
    refine (awake_any _).mono ?_
    rintro e w1 ⟨rfl, hb1⟩
    have q0 := rd0.past hb1
    have O1 := Lib.hid (fun k hk => (O0.out k hk).below hb1)
    clear rd0 O0
    go_wp2_with fail
    refine (newL _ q0 (by omega) (Nat.le_refl _)).mono ?_
    rintro e w2 ⟨g, rfl, hcu, hb2⟩
    have q1 := q0.past hb2
    have O2 := Lib.hid (fun k hk => (O1.out k hk).below hb2)
    clear q0
    go_wp2_with fail
    refine (refnew_any _ _ _ _ _ q1 (by omega) (Nat.le_refl _)).mono ?_
    rintro e w3 ⟨g2, A2, c2, rfl, hg2, hrc, how, hb3⟩
    have hrs : RS w1 w3 w2.heap.size g g2 A2 c2 l0 0 0 := ⟨hcu.keep hb3, hrc, how, hg2, hb2.trans (hb3.mono hb2.size)⟩
    have z12 := hb2.size
    clear q1 hcu hrc how hg2 O2 hb2 hb3
    generalize w2.heap.size = hi at *
    clear w2
    go_wp2_with fail
    go_loopw [7] (fun i wr => ∃ k p : Nat, i = .int .i64 (k : Int) ∧ k ≤ len1 ∧ RS w1 wr hi g g2 A2 c2 l0 p p) (fun i _ => len1 - (intOf i).toNat)
    case atStart => exact ⟨0, 0, rfl, Nat.zero_le _, hrs⟩
    case round =>
      clear hrs
      obtain ⟨k, p, rfl, hk, hrs⟩ := hrel
      have hpl := hrs.pos
      by_cases hlt : k < len1
      · obtain ⟨ad, kd, m, rfl, hadb, ck, cm, kd0, kd1, m0, m1⟩ := O1.out k hlt
        have hbel := hrs.2.2.2.2
        have ck' : wr.cell? (ad.add (k * 2)) = some (.int .u8 kd) := by rw [hbel.cell (by rw [Kit.block_add]; exact hadb)]; exact ck
        rw [← Kit.add_add, Cur.add_one] at cm
        have cm' : wr.cell? ⟨(ad.add (k * 2)).block, (ad.add (k * 2)).off + 1, none⟩ = some (.int .i64 m) := by rw [hbel.cell (by show (ad.add (k * 2)).block < _; rw [Kit.block_add]; exact hadb)]; exact cm
        clear ck hbel
        obtain ⟨ng1, ng2, ng3⟩ := hrs.ne
        by_cases h0 : kd = 0
        · subst h0
          clear cm'
          by_cases hp : p < l0.length
          · skip
            obtain ⟨e1, e2, e3⟩ := tk_ok (n := l0.length) (p := p) (m := 1) (by omega) (by omega)
            have e1' : tkN l0.length p 1 = 1 := e1
            have BY := Lib.hid hrs.byte
            rw [e1', e2, e3, show byteV l0.length p l0 = bt l0 p from by unfold byteV; rw [if_pos hp]] at BY
            have hb0 := bt_lo l0 p
            have hb1 := bt_hi l0 p
            go_upto_region 14 with (first | (go_at_call 38; refine BY.out.mono ?_; rintro e w4 ⟨rfl, hg4, hrs4⟩))
            have hgb : g2 < w4.heap.size := hrs4.ne.2.1
            have hrs5 := hrs4.alloc (.cells #[.int .i64 (0), .int .i64 (0)] 46)
            have t9 : ErrB (w4.alloc (.cells #[.int .i64 (0), .int .i64 (0)] 46)) w4.heap.size (0) (0) := ErrB.new _ _ _
            skip
            clear hg4 hrs4
            generalize hg : w4.heap.size = b9 at *
            clear hg
            generalize w4.alloc (.cells #[.int .i64 (0), .int .i64 (0)] 46) = w5 at *
            clear w4
            have RT := Lib.hid (hrs5.reftake hpl 1)
            rw [e1', e2, e3] at RT
            clear BY
            go_upto_region 15 with (first | (go_at_call 39; refine RT.out.mono ?_; rintro e w6 ⟨A6, c6, rfl, ho6, hg6, hrs6⟩))
            replace t9 := (t9.grown hg6 (by intro e; injection e with e; omega)).alloc (.cells #[.int .i64 (0), .int .i64 (0)] 46)
            have t11 : ErrB (w6.alloc (.cells #[.int .i64 (0), .int .i64 (0)] 46)) w6.heap.size (0) (0) := ErrB.new _ _ _
            skip
            replace ho6 := ho6.alloc (.cells #[.int .i64 (0), .int .i64 (0)] 46)
            have hrs7 := hrs6.alloc (.cells #[.int .i64 (0), .int .i64 (0)] 46)
            clear hg6 hrs6 hrs5
            generalize hg : w6.heap.size = b11 at *
            clear hg
            generalize w6.alloc (.cells #[.int .i64 (0), .int .i64 (0)] 46) = w7 at *
            clear w6
            have k1 := t9.cell0
            have k2 := t9.cell1
            have k3 := t11.cell0
            have k4 := t11.cell1
            clear t9 t11
            obtain ⟨gA, rfl⟩ := ho6.shape (by omega)
            have ka := ho6.cellAt (k := 0) (by omega)
            rw [bt_take (by omega), bt_drop, Nat.add_zero] at ka
            clear ho6 RT
            replace hrs7 : ∃ q, RS w1 w7 hi g g2 A2 c2 l0 q q := ⟨p + 1, hrs7⟩
            go_upto_region 25 with fail
            clear ka k1 k2 k3 k4
            obtain ⟨q, hrs7⟩ := hrs7
            have hql := hrs7.pos
            have PP := Lib.hid (fun n => posL _ (hrs7.drewN n).1)
            have LL := Lib.hid (fun n => leftL _ (hrs7.drewN n).1)
            rw [show ((l0.length - q : Nat) : Int) = (l0.length : Int) - (q : Int) from by omega] at LL
            have ws : IntKind.i64.wrap ((l0.length : Int) - (q : Int)) = (l0.length : Int) - (q : Int) := IntWalk.i64_in _ (by omega)
            have x0 := hrs7.2.1.cell0
            have x1 := hrs7.2.1.cell1
            go_quiet (first | (go_at_call 42; exact Kit.quiet_same (PP.out _)) | (go_at_call 43; exact Calls.quiet_of (LL.out _)))
            go_wp2_with fail
            go_roundw
            case rel => exact ⟨k + 1, q, by go_num, by omega, hrs7.drewN _⟩
            case measure => simp [intOf]; omega
          · skip
            obtain ⟨e1, e2, e3⟩ := tk_short (n := l0.length) (p := p) (m := 1) (by omega) (by omega)
            have BY := Lib.hid hrs.byte
            rw [e1, e2, e3, show byteV l0.length p l0 = 0 from by unfold byteV; rw [if_neg hp]] at BY
            go_upto_region 14 with (first | (go_at_call 38; refine BY.out.mono ?_; rintro e w4 ⟨rfl, hg4, hrs4⟩))
            have hgb : g2 < w4.heap.size := hrs4.ne.2.1
            have hrs5 := hrs4.alloc (.cells #[.int .i64 (1), .int .i64 ((l0.length : Int))] 46)
            have t9 : ErrB (w4.alloc (.cells #[.int .i64 (1), .int .i64 ((l0.length : Int))] 46)) w4.heap.size (1) ((l0.length : Int)) := ErrB.new _ _ _
            skip
            clear hg4 hrs4
            generalize hg : w4.heap.size = b9 at *
            clear hg
            generalize w4.alloc (.cells #[.int .i64 (1), .int .i64 ((l0.length : Int))] 46) = w5 at *
            clear w4
            have RT := Lib.hid (hrs5.reftake hpl 1)
            rw [e1, e2, e3] at RT
            clear BY
            go_upto_region 15 with (first | (go_at_call 39; refine RT.out.mono ?_; rintro e w6 ⟨A6, c6, rfl, ho6, hg6, hrs6⟩))
            replace t9 := (t9.grown hg6 (by intro e; injection e with e; omega)).alloc (.cells #[.int .i64 (1), .int .i64 ((l0.length : Int))] 46)
            have t11 : ErrB (w6.alloc (.cells #[.int .i64 (1), .int .i64 ((l0.length : Int))] 46)) w6.heap.size (1) ((l0.length : Int)) := ErrB.new _ _ _
            skip
            replace ho6 := ho6.alloc (.cells #[.int .i64 (1), .int .i64 ((l0.length : Int))] 46)
            have hrs7 := hrs6.alloc (.cells #[.int .i64 (1), .int .i64 ((l0.length : Int))] 46)
            clear hg6 hrs6 hrs5
            generalize hg : w6.heap.size = b11 at *
            clear hg
            generalize w6.alloc (.cells #[.int .i64 (1), .int .i64 ((l0.length : Int))] 46) = w7 at *
            clear w6
            have k1 := t9.cell0
            have k2 := t9.cell1
            have k3 := t11.cell0
            have k4 := t11.cell1
            clear t9 t11
            clear ho6 RT
            replace hrs7 : ∃ q, RS w1 w7 hi g g2 A2 c2 l0 q q := ⟨p, hrs7⟩
            go_upto_region 25 with fail
            clear k1 k2 k3 k4
            obtain ⟨q, hrs7⟩ := hrs7
            have hql := hrs7.pos
            have PP := Lib.hid (fun n => posL _ (hrs7.drewN n).1)
            have LL := Lib.hid (fun n => leftL _ (hrs7.drewN n).1)
            rw [show ((l0.length - q : Nat) : Int) = (l0.length : Int) - (q : Int) from by omega] at LL
            have ws : IntKind.i64.wrap ((l0.length : Int) - (q : Int)) = (l0.length : Int) - (q : Int) := IntWalk.i64_in _ (by omega)
            have x0 := hrs7.2.1.cell0
            have x1 := hrs7.2.1.cell1
            go_quiet (first | (go_at_call 42; exact Kit.quiet_same (PP.out _)) | (go_at_call 43; exact Calls.quiet_of (LL.out _)))
            go_wp2_with fail
            go_roundw
            case rel => exact ⟨k + 1, q, by go_num, by omega, hrs7.drewN _⟩
            case measure => simp [intOf]; omega
        · by_cases h1 : kd = 1
          · subst h1
            have BY := Lib.hid (hrs.take m)
            have hq := tk_pos_le m hpl
            obtain ⟨kt, hkt⟩ : ∃ kt, tkN l0.length p m = kt := ⟨_, rfl⟩
            obtain ⟨cd, hcd⟩ : ∃ cd, tkCode l0.length p m = cd := ⟨_, rfl⟩
            obtain ⟨off, hoff⟩ : ∃ off, tkOff l0.length p m = off := ⟨_, rfl⟩
            rw [hkt, hcd, hoff] at BY
            go_upto_region 19 with (first | (go_at_call 35; refine BY.out.mono ?_; rintro e w4 ⟨A4, c4, rfl, ho4, hg4, hrs4⟩))
            have hgb : g2 < w4.heap.size := hrs4.ne.2.1
            have hrs5 := hrs4.alloc (.cells #[.int .i64 (cd), .int .i64 (off)] 46)
            have t9 : ErrB (w4.alloc (.cells #[.int .i64 (cd), .int .i64 (off)] 46)) w4.heap.size (cd) (off) := ErrB.new _ _ _
            replace ho4 := ho4.alloc (.cells #[.int .i64 (cd), .int .i64 (off)] 46)
            clear hg4 hrs4
            generalize hg : w4.heap.size = b9 at *
            clear hg
            generalize w4.alloc (.cells #[.int .i64 (cd), .int .i64 (off)] 46) = w5 at *
            clear w4
            have cm5 : w5.cell? ⟨(ad.add (k * 2)).block, (ad.add (k * 2)).off + 1, none⟩ = some (.int .i64 m) := by rw [hrs5.2.2.2.2.cell (by show (ad.add (k * 2)).block < _; rw [Kit.block_add]; exact hadb)]; exact cm
            have RT := Lib.hid (hrs5.reftake hpl m)
            rw [hkt, hcd, hoff] at RT
            clear BY cm'
            go_upto_region 20 with (first | (go_at_call 39; refine RT.out.mono ?_; rintro e w6 ⟨A6, c6, rfl, ho6, hg6, hrs6⟩))
            replace t9 := (t9.grown hg6 (by intro e; injection e with e; omega)).alloc (.cells #[.int .i64 (cd), .int .i64 (off)] 46)
            have t11 : ErrB (w6.alloc (.cells #[.int .i64 (cd), .int .i64 (off)] 46)) w6.heap.size (cd) (off) := ErrB.new _ _ _
            replace ho4 := (ho4.grown hg6 (fun k e e' => by have := (ho4.blk e').1; injection e with e; omega)).alloc (.cells #[.int .i64 (cd), .int .i64 (off)] 46)
            replace ho6 := ho6.alloc (.cells #[.int .i64 (cd), .int .i64 (off)] 46)
            have hrs7 := hrs6.alloc (.cells #[.int .i64 (cd), .int .i64 (off)] 46)
            clear hg6 hrs6 hrs5
            generalize hg : w6.heap.size = b11 at *
            clear hg
            generalize w6.alloc (.cells #[.int .i64 (cd), .int .i64 (off)] 46) = w7 at *
            clear w6
            have k1 := t9.cell0
            have k2 := t9.cell1
            have k3 := t11.cell0
            have k4 := t11.cell1
            clear t9 t11
            clear RT cm5
            have X1 := Lib.hid (bytes_any _ _ _ c4 _ c6 _ _ _ ho4.rd ho6.rd)
            rw [eqB_id] at X1
            clear ho4 ho6
            replace hrs7 : ∃ q, RS w1 w7 hi g g2 A2 c2 l0 q q := ⟨p + kt, hrs7⟩
            go_upto_region 25 with (first | (go_at_call 21; refine X1.out.mono ?_; rintro e w' ⟨rfl, rfl⟩))
            clear k1 k2 k3 k4 X1
            obtain ⟨q, hrs7⟩ := hrs7
            have hql := hrs7.pos
            have PP := Lib.hid (fun n => posL _ (hrs7.drewN n).1)
            have LL := Lib.hid (fun n => leftL _ (hrs7.drewN n).1)
            rw [show ((l0.length - q : Nat) : Int) = (l0.length : Int) - (q : Int) from by omega] at LL
            have ws : IntKind.i64.wrap ((l0.length : Int) - (q : Int)) = (l0.length : Int) - (q : Int) := IntWalk.i64_in _ (by omega)
            have x0 := hrs7.2.1.cell0
            have x1 := hrs7.2.1.cell1
            go_quiet (first | (go_at_call 42; exact Kit.quiet_same (PP.out _)) | (go_at_call 43; exact Calls.quiet_of (LL.out _)))
            go_wp2_with fail
            go_roundw
            case rel => exact ⟨k + 1, q, by go_num, by omega, hrs7.drewN _⟩
            case measure => simp [intOf]; omega
          · by_cases h2 : kd = 2
            · subst h2
              have hq := sk_pos_le m hpl
              have S1 := Lib.hid (hrs.drew.seek m)
              have S2 := Lib.hid (fun w' (h : RS w1 w' hi g g2 A2 c2 l0 (skPos l0.length p m) p) => h.refseek m)
              obtain ⟨q, hq⟩ : ∃ q, skPos l0.length p m = q := ⟨_, rfl⟩
              obtain ⟨cd, hcd⟩ : ∃ cd, skCode l0.length m = cd := ⟨_, rfl⟩
              obtain ⟨off, hoff⟩ : ∃ off, skOff l0.length p m = off := ⟨_, rfl⟩
              rw [hq, hcd, hoff] at S1
              rw [hq, hcd, hoff] at S2
              have CB := Lib.hid (fun w' (h : Below w1.heap.size w1 w') => show w'.cell? ⟨(ad.add (k * 2)).block, (ad.add (k * 2)).off + 1, none⟩ = some (.int .i64 m) from by rw [h.cell (by show (ad.add (k * 2)).block < _; rw [Kit.block_add]; exact hadb)]; exact cm)
              go_upto_region 23 with fail
              go_region_held3 (fun w' => w'.cell? ⟨(ad.add (k * 2)).block, (ad.add (k * 2)).off + 1, none⟩ = some (.int .i64 m)) (first | exact cm' | exact cm4 | exact cm7)
                (first | (go_at_call 40; refine S1.out.mono ?_; rintro e w4 ⟨rfl, hg4, hrs4⟩; have cm4 := CB.out _ hrs4.2.2.2.2) | (go_at_call 41; refine (S2.out _ hrs4).mono ?_; rintro e w7 ⟨rfl, hg7, hrs7⟩; have cm7 := CB.out _ hrs7.2.2.2.2))
              clear S1 S2 CB cm4 cm7 hrs4 hg4 hg7
              replace hrs7 : ∃ q, RS w1 w7 hi g g2 A2 c2 l0 q q := ⟨q, hrs7⟩
              clear hq
              go_upto_region 25 with fail
              obtain ⟨q, hrs7⟩ := hrs7
              have hql := hrs7.pos
              have PP := Lib.hid (fun n => posL _ (hrs7.drewN n).1)
              have LL := Lib.hid (fun n => leftL _ (hrs7.drewN n).1)
              rw [show ((l0.length - q : Nat) : Int) = (l0.length : Int) - (q : Int) from by omega] at LL
              have ws : IntKind.i64.wrap ((l0.length : Int) - (q : Int)) = (l0.length : Int) - (q : Int) := IntWalk.i64_in _ (by omega)
              have x0 := hrs7.2.1.cell0
              have x1 := hrs7.2.1.cell1
              go_quiet (first | (go_at_call 42; exact Kit.quiet_same (PP.out _)) | (go_at_call 43; exact Calls.quiet_of (LL.out _)))
              go_wp2_with fail
              go_roundw
              case rel => exact ⟨k + 1, q, by go_num, by omega, hrs7.drewN _⟩
              case measure => simp [intOf]; omega
            · have x0 := hrs.2.1.cell0
              have x1 := hrs.2.1.cell1
              have hcc := hrs.2.2.1.cap
              have q1 : (p : Int) ≤ (l0.length : Int) := by omega
              have q2 : (p : Int) ≤ (c2 : Int) := by omega
              have RR := Lib.hid (restL _ hrs.drew.1)
              by_cases hcp : c2 = p
              · have hcp' := hcp.symm
                subst hcp'
                have HZ := Lib.hid (show l0.length - p = 0 from by omega)
                go_upto_region 10 with fail
                go_region_held3 (fun w' => w'.cell? ⟨g2, 0, none⟩ = some (.slice A2 l0.length p) ∧ w'.cell? ⟨g2, 1, none⟩ = some (.int .i64 (p : Int))) (first | exact ⟨x0, x1⟩ | exact ⟨hrs7.2.1.cell0, hrs7.2.1.cell1⟩)
                  (first | (go_at_call 36; refine RR.out.mono ?_; rintro e w7 ⟨A7, c7, rfl, ho7, hb7⟩; have hrs7 := hrs.drew.c hb7; have hr7 := hrs7.rest hpl; rw [if_pos rfl, HZ.out] at hr7; rw [HZ.out] at ho7) | (go_at_call 21; refine (bytes_any _ _ _ _ _ _ _ _ _ ho7.rd hr7).mono ?_; rw [eqB_id]; rintro e w8 ⟨rfl, rfl⟩))
                clear RR ho7 hr7 hb7
                clear x0 x1
                go_upto_region 25 with fail
                have hql := hrs7.pos
                have PP := Lib.hid (fun n => posL _ (hrs7.drewN n).1)
                have LL := Lib.hid (fun n => leftL _ (hrs7.drewN n).1)
                rw [show ((l0.length - p : Nat) : Int) = (l0.length : Int) - (p : Int) from by omega] at LL
                have ws : IntKind.i64.wrap ((l0.length : Int) - (p : Int)) = (l0.length : Int) - (p : Int) := IntWalk.i64_in _ (by omega)
                have x0 := hrs7.2.1.cell0
                have x1 := hrs7.2.1.cell1
                go_quiet (first | (go_at_call 42; exact Kit.quiet_same (PP.out _)) | (go_at_call 43; exact Calls.quiet_of (LL.out _)))
                go_wp2_with fail
                go_roundw
                case rel => exact ⟨k + 1, p, by go_num, by omega, hrs7.drewN _⟩
                case measure => simp [intOf]; omega
              · skip
                go_upto_region 10 with fail
                go_region_held3 (fun w' => w'.cell? ⟨g2, 0, none⟩ = some (.slice A2 l0.length c2) ∧ w'.cell? ⟨g2, 1, none⟩ = some (.int .i64 (p : Int))) (first | exact ⟨x0, x1⟩ | exact ⟨hrs7.2.1.cell0, hrs7.2.1.cell1⟩)
                  (first | (go_at_call 36; refine RR.out.mono ?_; rintro e w7 ⟨A7, c7, rfl, ho7, hb7⟩; have hrs7 := hrs.drew.c hb7; have hr7 := hrs7.rest hpl; rw [if_neg hcp] at hr7) | (go_at_call 21; refine (bytes_any _ _ _ _ _ _ _ _ _ ho7.rd hr7).mono ?_; rw [eqB_id]; rintro e w8 ⟨rfl, rfl⟩))
                clear RR ho7 hr7 hb7
                clear x0 x1
                go_upto_region 25 with fail
                have hql := hrs7.pos
                have PP := Lib.hid (fun n => posL _ (hrs7.drewN n).1)
                have LL := Lib.hid (fun n => leftL _ (hrs7.drewN n).1)
                rw [show ((l0.length - p : Nat) : Int) = (l0.length : Int) - (p : Int) from by omega] at LL
                have ws : IntKind.i64.wrap ((l0.length : Int) - (p : Int)) = (l0.length : Int) - (p : Int) := IntWalk.i64_in _ (by omega)
                have x0 := hrs7.2.1.cell0
                have x1 := hrs7.2.1.cell1
                go_quiet (first | (go_at_call 42; exact Kit.quiet_same (PP.out _)) | (go_at_call 43; exact Calls.quiet_of (LL.out _)))
                go_wp2_with fail
                go_roundw
                case rel => exact ⟨k + 1, p, by go_num, by omega, hrs7.drewN _⟩
                case measure => simp [intOf]; omega
      · obtain rfl : k = len1 := by omega
        have hb := hrs.2.2.2.2
        go_wp2_with fail
        go_ret
        exact ⟨rfl, hb1.trans (hb.mono hb1.size)⟩
end Go.Proofs.Ytkkgcfllfhkoaaa
