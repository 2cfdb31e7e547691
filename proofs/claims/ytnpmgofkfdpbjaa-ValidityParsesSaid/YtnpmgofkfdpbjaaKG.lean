/- Joined texts: ClkK, ClkM, ClkL. -/
import Derived.Test.YtnpmgofkfdpbjaaKD
import Derived.Test.YtnpmgofkfdpbjaaKF
import Derived.Test.YtnpmgofkfdpbjaaKA
set_option linter.unusedSimpArgs false
set_option linter.unusedVariables false
/- Walks: the reference's number and fields. -/
namespace Go.Proofs.Ytnpmgofkfdpbjaa.Clk
open Go.RowKit Kit

theorem numF_end (l : List UInt8) (p k : Nat) (h : l.length ≤ p + k) : ∀ c, k ≤ c → numF l p c = numF l p k
  | 0, hc => by have : k = 0 := by omega
                subst this; rfl
  | c + 1, hc => by
    rcases Nat.lt_or_ge c k with hlt | hge
    · have : k = c + 1 := by omega
      subst this; rfl
    · rw [numF, if_neg (by omega)]; exact numF_end l p k h c hge

set_option maxHeartbeats 1000000 in
theorem number_any {A : Option Addr} {n cp B : Nat} {l : List UInt8} (p c : Nat) (w : World) (hr : Rd w B A n l) (hc : c ≤ 4) (hp : p ≤ 1000) (hn : n ≤ 100000) :
    Calls Try.prog 145 #[.slice A n cp, .int .i64 (p : Int), .int .i64 (c : Int)] w fun e w' => e = .returned (.int .i64 (numF l p c)) ∧ ∃ m, w' = w.drewN m := by
  have hl := hr.len
  have HR := Lib.hid hr
  have HL := Lib.hid hl
  clear hr hl
  have wpc : IntKind.i64.wrap ((p : Int) + (c : Int)) = (p : Int) + (c : Int) := IntWalk.i64_in _ (by omega)
  go_enter Try.func145, Try.ntmps145
  go_wp2
  go_loopw [7, 8] (fun a i wr => ∃ k m : Nat, k ≤ c ∧ i = .int .i64 ((p + k : Nat) : Int) ∧ a = .int .i64 (numF l p k) ∧ wr = w.drewN m) (fun _ i _ => p + c + 1 - (intOf i).toNat)
  case atStart => exact ⟨0, 0, Nat.zero_le _, rfl, rfl, rfl⟩
  case round =>
    obtain ⟨k, m, hk, rfl, rfl, rfl⟩ := hrel
    obtain ⟨v0, v1, v2, v3, v4, v5⟩ := numF_bd l p k (by omega)
    by_cases hlt : k < c
    · have hlt' : ((p + k : Nat) : Int) < (p : Int) + (c : Int) := by omega
      by_cases hin : p + k < n
      · have hin' : ((p + k : Nat) : Int) < (n : Int) := by omega
        have hin0 : (0 : Int) ≤ ((p + k : Nat) : Int) := by omega
        obtain ⟨ad, rfl, _, ck⟩ := HR.out.at_ hin
        have hbl := bt_lo l (p + k)
        have hbh := bt_hi l (p + k)
        have hst := Lib.hid (show numF l p (k + 1) = numF l p k * 10 + bt l (p + k) % 16 from by rw [numF, if_pos (by rw [HL.out]; omega)])
        generalize hv : numF l p k = v at *
        have HVV := Lib.hid hv
        clear hv
        have hmod : (bt l (p + k)).tmod 16 = bt l (p + k) % 16 := Int.tmod_eq_emod_of_nonneg hbl
        generalize bt l (p + k) = b at *
        have w1 : IntKind.i64.wrap (v * 10) = v * 10 := IntWalk.i64_in _ (by omega)
        have w2 : IntKind.i64.wrap (v * 10 + b % 16) = v * 10 + b % 16 := IntWalk.i64_in _ (by omega)
        have w3 : IntKind.i64.wrap (b % 16) = b % 16 := IntWalk.i64_in _ (by omega)
        have w4 : IntKind.u8.wrap (b % 16) = b % 16 := IntWalk.u8_in _ (by omega)
        generalize hq : p + k = q at *
        go_wp2_with fail
        go_roundw
        case rel => exact ⟨k + 1, m, by omega, by rw [show ((p + (k + 1) : Nat) : Int) = (q : Int) + 1 by omega], by rw [hst.out], rfl⟩
        case measure => simp [intOf]; omega
      · have hin' : ¬ ((p + k : Nat) : Int) < (n : Int) := by omega
        have F := Lib.hid (numF_end l p k (by rw [HL.out]; omega) c hk)
        generalize hv : numF l p k = v at *
        have HVV := Lib.hid hv
        clear hv
        generalize hq : p + k = q at *
        go_wp2
        go_ret
        exact ⟨ret_int F.out.symm, (by first | exact ⟨0, rfl⟩ | exact ⟨_, rfl⟩ | (simp only [World.drewN_drewN]; exact ⟨_, rfl⟩))⟩
    · obtain rfl : k = c := by omega
      have hlt' : ¬ ((p + k : Nat) : Int) < (p : Int) + (k : Int) := by omega
      generalize hv : numF l p k = v at *
      have HVV := Lib.hid hv
      clear hv
      go_wp2
      go_ret
      exact ⟨ret_int HVV.out.symm, (by first | exact ⟨0, rfl⟩ | exact ⟨_, rfl⟩ | (simp only [World.drewN_drewN]; exact ⟨_, rfl⟩))⟩

set_option maxHeartbeats 1000000 in
theorem fields_any {A : Option Addr} {n cp : Nat} {l : List UInt8} (y : Int) (p : Nat) (w : World) (hr : Rd w w.heap.size A n l) (hp : p ≤ 100) (hn : n ≤ 100000) :
    Calls Try.prog 144 #[.int .i64 y, .slice A n cp, .int .i64 (p : Int)] w fun e w' => e = .returned (time y (numF l p 2) (numF l (p + 2) 2) (numF l (p + 4) 2) (numF l (p + 6) 2) (numF l (p + 8) 2)) ∧ Below w.heap.size w w' := by
  have HD := Lib.hid (fun (w' : World) (h : Rd w' w.heap.size A n l) (q : Int) (hq0 : 0 ≤ q) (hq : q ≤ 200) => show Calls Try.prog 145 #[.slice A n cp, .int .i64 q, .int .i64 2] w' fun e w'' => e = .returned (.int .i64 (numF l q.toNat 2)) ∧ ∃ m, w'' = w'.drewN m from by
    obtain ⟨j, rfl⟩ := Int.eq_ofNat_of_zero_le hq0
    exact number_any (cp := cp) j 2 w' h (by omega) (by omega) hn)
  have HR := Lib.hid (fun o => hr.alloc (Nat.le_refl _) o)
  clear hr
  have k0 : ((p : Int)).toNat = p := by omega
  have k2 : ((p : Int) + 2).toNat = p + 2 := by omega
  have k4 : ((p : Int) + 4).toNat = p + 4 := by omega
  have k6 : ((p : Int) + 6).toNat = p + 6 := by omega
  have k8 : ((p : Int) + 8).toNat = p + 8 := by omega
  go_enter Try.func144, Try.ntmps144
  go_wp2_with (first | (go_at_call 145; refine (HD.out _ (by repeat' (first | (with_reducible exact HR.out _) | (with_reducible refine Rd.drewN ?_ _) | (with_reducible refine Rd.drew ?_))) _ (by omega) (by omega)).mono ?_; rintro e w' ⟨rfl, m, rfl⟩))
  refine bodyPost_ret (v := time y (numF l p 2) (numF l (p + 2) 2) (numF l (p + 4) 2) (numF l (p + 6) 2) (numF l (p + 8) 2)) (by simp [results, Try.results144, go_sem, *]) rfl ?_
  exact ⟨rfl, (by repeat' (first | (with_reducible exact Below.refl _ _) | (with_reducible assumption) | (with_reducible refine below_drewN ?_ _) | (with_reducible refine Below.drew ?_) | (with_reducible refine Below.alloc ?_ ?_ _) | (with_reducible refine Below.setCell ?_ ?_ _) | go_size))⟩
end Go.Proofs.Ytnpmgofkfdpbjaa.Clk
/- Walks: the reference's DecodeGeneral. -/
namespace Go.Proofs.Ytnpmgofkfdpbjaa.Clk
open Go.RowKit Kit Cur

set_option maxHeartbeats 2000000 in
theorem refdecGen_raw {A : Option Addr} {n c : Nat} {l : List UInt8} (w : World) (hr : Rd w w.heap.size A n l) (hn : n ≤ 100000) :
    Calls Try.prog 98 #[.slice A n c] w fun e w' => e = .returned (if genCode (numF l 0 4) (numF l 4 2) (numF l 6 2) (numF l 8 2) (numF l 10 2) (numF l 12 2) = 0 ∧ genBytes (numF l 0 4) (numF l 4 2) (numF l 6 2) (numF l 8 2) (numF l 10 2) (numF l 12 2) = l then .tuple #[time (numF l 0 4) (numF l 4 2) (numF l 6 2) (numF l 8 2) (numF l 10 2) (numF l 12 2), .int .i64 0] else .tuple #[time 0 0 0 0 0 0, .int .i64 6]) ∧ Below w.heap.size w w' := by
  have HN := Lib.hid (fun (w' : World) (h : Rd w' w.heap.size A n l) => show Calls Try.prog 145 #[.slice A n c, .int .i64 0, .int .i64 4] w' fun e w'' => e = .returned (.int .i64 (numF l 0 4)) ∧ ∃ m, w'' = w'.drewN m from
    number_any (cp := c) 0 4 w' h (by omega) (by omega) hn)
  have HF := Lib.hid (fun (y : Int) (w' : World) (h : Rd w' w'.heap.size A n l) => show Calls Try.prog 144 #[.int .i64 y, .slice A n c, .int .i64 4] w' fun e w'' => e = .returned (time y (numF l 4 2) (numF l 6 2) (numF l 8 2) (numF l 10 2) (numF l 12 2)) ∧ Below w'.heap.size w' w'' from
    fields_any (cp := c) y 4 w' h (by omega) hn)
  have HR := Lib.hid (fun o => hr.alloc (Nat.le_refl _) o)
  have HR0 := Lib.hid hr
  generalize numF l 0 4 = y at *
  generalize numF l 4 2 = m at *
  generalize numF l 6 2 = d at *
  generalize numF l 8 2 = h at *
  generalize numF l 10 2 = mi at *
  generalize numF l 12 2 = s at *
  clear hr
  have HE := Lib.hid (fun w => refencGen_any y m d h mi s w)
  by_cases hc0 : genCode y m d h mi s = 0
  · by_cases hby : genBytes y m d h mi s = l
    · rw [if_pos ⟨hc0, hby⟩]
      have HC := Lib.hid hc0
      have HB := Lib.hid (show eqB (genBytes y m d h mi s) l = true from by rw [hby]; exact eqB_self l)
      clear hc0 hby
      go_enter Try.func98, Try.ntmps98
      go_upto_region 2 with (first | (go_at_call 145; refine (HN.out _ (HR.out _)).mono ?_; rintro e w1 ⟨rfl, m1, rfl⟩) | (go_at_call 144; refine (HF.out _ _ (((HR.out _).drewN _).more (by simp))).mono ?_; rintro e w1 ⟨rfl, hb1⟩))
      have hbw : Below w.heap.size w w1 := ((below_drewN (((Below.refl _ _).alloc (Nat.le_refl _) _)) _)).trans (hb1.mono (by simp))
      have tb0 : w1.heap[w.heap.size]? = some (.cells #[.int .i64 0, .int .i64 0, .int .i64 0, .int .i64 0, .int .i64 0, .int .i64 0] 28 (0, 0)) := (hb1.block _ (by simp)).trans (heap_alloc_new w _)
      clear hb1
      have tb := bk_old (o' := .cells #[.int .i64 y, .int .i64 m, .int .i64 d, .int .i64 h, .int .i64 mi, .int .i64 s] 28) tb0
      have tt : (w1.alloc (.cells #[.int .i64 y, .int .i64 m, .int .i64 d, .int .i64 h, .int .i64 mi, .int .i64 s] 28)).heap[w1.heap.size]? = _ := bk_new rfl
      have hb2 : Below w.heap.size w (w1.alloc (.cells #[.int .i64 y, .int .i64 m, .int .i64 d, .int .i64 h, .int .i64 mi, .int .i64 s] 28)) := hbw.alloc hbw.size _
      clear tb0 hbw
      generalize hg : w1.heap.size = b1 at *
      clear hg
      generalize w1.alloc (.cells #[.int .i64 y, .int .i64 m, .int .i64 d, .int .i64 h, .int .i64 mi, .int .i64 s] 28) = w2 at *
      clear w1 HN HF
      have HR2 := Lib.hid ((HR0.out.below hb2).more hb2.size)
      have TB := Lib.hid tb
      have TT := Lib.hid tt
      obtain ⟨t0, t1, t2, t3, t4, t5⟩ := cells6 tt
      clear tb tt
      go_wp2_with (first | (go_at_call 85; refine (HE.out _).mono ?_; rw [HC.out]; rintro e w3 ⟨A3, n3, c3, rfl, hr3, hb3⟩; obtain ⟨p0, p1, p2, p3, p4, p5⟩ := cells6 ((hb3.block _ (Blk_lt TT.out)).trans TT.out); have TB3 := Lib.hid ((hb3.block _ (Blk_lt TB.out)).trans TB.out); obtain ⟨f0, f1, f2, f3, f4, f5⟩ := free6 TB3.out; obtain ⟨z0, z1, z2, z3, z4, z5⟩ := cells6 TB3.out; have HR3 := Lib.hid hr3; clear hr3) | (go_at_call 27; refine (bytes_any _ _ _ _ _ _ _ _ _ HR3.out (HR2.out.past hb3)).mono ?_; rw [HB.out]; rintro e w4 ⟨rfl, rfl⟩))
      clear p0 p1 p2 p3 p4 p5 t0 t1 t2 t3 t4 t5 f0 f1 f2 f3 f4 f5 z0 z1 z2 z3 z4 z5
      have tc := cells6 (set6 (.int .i64 y) (.int .i64 m) (.int .i64 d) (.int .i64 h) (.int .i64 mi) (.int .i64 s) TB3.out)
      refine bodyPost_ret (v := .tuple #[time y m d h mi s, .int .i64 0]) (by simp [results, Try.results98, go_sem, *]) rfl ?_
      have hb4 := hb2.trans (hb3.mono hb2.size)
      exact ⟨rfl, (by repeat' (first | (with_reducible exact Below.refl _ _) | (with_reducible assumption) | (with_reducible refine below_drewN ?_ _) | (with_reducible refine Below.drew ?_) | (with_reducible refine Below.alloc ?_ ?_ _) | (with_reducible refine Below.setCell ?_ ?_ _) | go_size))⟩
    · rw [if_neg (fun x => hby x.2)]
      have HC := Lib.hid hc0
      have HB := Lib.hid (show eqB (genBytes y m d h mi s) l = false from by unfold eqB; rw [decide_eq_false_iff_not]; exact hby)
      clear hc0 hby
      go_enter Try.func98, Try.ntmps98
      go_upto_region 2 with (first | (go_at_call 145; refine (HN.out _ (HR.out _)).mono ?_; rintro e w1 ⟨rfl, m1, rfl⟩) | (go_at_call 144; refine (HF.out _ _ (((HR.out _).drewN _).more (by simp))).mono ?_; rintro e w1 ⟨rfl, hb1⟩))
      have hbw : Below w.heap.size w w1 := ((below_drewN (((Below.refl _ _).alloc (Nat.le_refl _) _)) _)).trans (hb1.mono (by simp))
      have tb0 : w1.heap[w.heap.size]? = some (.cells #[.int .i64 0, .int .i64 0, .int .i64 0, .int .i64 0, .int .i64 0, .int .i64 0] 28 (0, 0)) := (hb1.block _ (by simp)).trans (heap_alloc_new w _)
      clear hb1
      have tb := bk_old (o' := .cells #[.int .i64 y, .int .i64 m, .int .i64 d, .int .i64 h, .int .i64 mi, .int .i64 s] 28) tb0
      have tt : (w1.alloc (.cells #[.int .i64 y, .int .i64 m, .int .i64 d, .int .i64 h, .int .i64 mi, .int .i64 s] 28)).heap[w1.heap.size]? = _ := bk_new rfl
      have hb2 : Below w.heap.size w (w1.alloc (.cells #[.int .i64 y, .int .i64 m, .int .i64 d, .int .i64 h, .int .i64 mi, .int .i64 s] 28)) := hbw.alloc hbw.size _
      clear tb0 hbw
      generalize hg : w1.heap.size = b1 at *
      clear hg
      generalize w1.alloc (.cells #[.int .i64 y, .int .i64 m, .int .i64 d, .int .i64 h, .int .i64 mi, .int .i64 s] 28) = w2 at *
      clear w1 HN HF
      have HR2 := Lib.hid ((HR0.out.below hb2).more hb2.size)
      have TB := Lib.hid tb
      have TT := Lib.hid tt
      obtain ⟨t0, t1, t2, t3, t4, t5⟩ := cells6 tt
      clear tb tt
      go_wp2_with (first | (go_at_call 85; refine (HE.out _).mono ?_; rw [HC.out]; rintro e w3 ⟨A3, n3, c3, rfl, hr3, hb3⟩; have TB3 := Lib.hid ((hb3.block _ (Blk_lt TB.out)).trans TB.out); obtain ⟨f0, f1, f2, f3, f4, f5⟩ := free6 TB3.out; obtain ⟨z0, z1, z2, z3, z4, z5⟩ := cells6 TB3.out; have HR3 := Lib.hid hr3; clear hr3) | (go_at_call 27; refine (bytes_any _ _ _ _ _ _ _ _ _ HR3.out (HR2.out.past hb3)).mono ?_; rw [HB.out]; rintro e w4 ⟨rfl, rfl⟩))
      clear t0 t1 t2 t3 t4 t5 f0 f1 f2 f3 f4 f5 z0 z1 z2 z3 z4 z5
      have tc := cells6 (set6 (.int .i64 0) (.int .i64 0) (.int .i64 0) (.int .i64 0) (.int .i64 0) (.int .i64 0) TB3.out)
      refine bodyPost_ret (v := .tuple #[time 0 0 0 0 0 0, .int .i64 6]) (by simp [results, Try.results98, go_sem, *]) rfl ?_
      have hb4 := hb2.trans (hb3.mono hb2.size)
      exact ⟨rfl, (by repeat' (first | (with_reducible exact Below.refl _ _) | (with_reducible assumption) | (with_reducible refine below_drewN ?_ _) | (with_reducible refine Below.drew ?_) | (with_reducible refine Below.alloc ?_ ?_ _) | (with_reducible refine Below.setCell ?_ ?_ _) | go_size))⟩
  · rw [if_neg (fun x => hc0 x.1)]
    generalize genCode y m d h mi s = code at *
    go_enter Try.func98, Try.ntmps98
    go_upto_region 2 with (first | (go_at_call 145; refine (HN.out _ (HR.out _)).mono ?_; rintro e w1 ⟨rfl, m1, rfl⟩) | (go_at_call 144; refine (HF.out _ _ (((HR.out _).drewN _).more (by simp))).mono ?_; rintro e w1 ⟨rfl, hb1⟩))
    have hbw : Below w.heap.size w w1 := ((below_drewN (((Below.refl _ _).alloc (Nat.le_refl _) _)) _)).trans (hb1.mono (by simp))
    have tb0 : w1.heap[w.heap.size]? = some (.cells #[.int .i64 0, .int .i64 0, .int .i64 0, .int .i64 0, .int .i64 0, .int .i64 0] 28 (0, 0)) := (hb1.block _ (by simp)).trans (heap_alloc_new w _)
    clear hb1
    have tb := bk_old (o' := .cells #[.int .i64 y, .int .i64 m, .int .i64 d, .int .i64 h, .int .i64 mi, .int .i64 s] 28) tb0
    have tt : (w1.alloc (.cells #[.int .i64 y, .int .i64 m, .int .i64 d, .int .i64 h, .int .i64 mi, .int .i64 s] 28)).heap[w1.heap.size]? = _ := bk_new rfl
    have hb2 : Below w.heap.size w (w1.alloc (.cells #[.int .i64 y, .int .i64 m, .int .i64 d, .int .i64 h, .int .i64 mi, .int .i64 s] 28)) := hbw.alloc hbw.size _
    clear tb0 hbw
    generalize hg : w1.heap.size = b1 at *
    clear hg
    generalize w1.alloc (.cells #[.int .i64 y, .int .i64 m, .int .i64 d, .int .i64 h, .int .i64 mi, .int .i64 s] 28) = w2 at *
    clear w1 HN HF
    have HR2 := Lib.hid ((HR0.out.below hb2).more hb2.size)
    have TB := Lib.hid tb
    have TT := Lib.hid tt
    obtain ⟨t0, t1, t2, t3, t4, t5⟩ := cells6 tt
    clear tb tt
    go_wp2_with (first | (go_at_call 85; refine (HE.out _).mono ?_; rintro e w3 ⟨A3, n3, c3, rfl, hr3, hb3⟩; have TB3 := Lib.hid ((hb3.block _ (Blk_lt TB.out)).trans TB.out); obtain ⟨f0, f1, f2, f3, f4, f5⟩ := free6 TB3.out; obtain ⟨z0, z1, z2, z3, z4, z5⟩ := cells6 TB3.out; have HR3 := Lib.hid hr3; clear hr3))
    clear t0 t1 t2 t3 t4 t5 f0 f1 f2 f3 f4 f5 z0 z1 z2 z3 z4 z5
    have tc := cells6 (set6 (.int .i64 0) (.int .i64 0) (.int .i64 0) (.int .i64 0) (.int .i64 0) (.int .i64 0) TB3.out)
    refine bodyPost_ret (v := .tuple #[time 0 0 0 0 0 0, .int .i64 6]) (by simp [results, Try.results98, go_sem, *]) rfl ?_
    have hb4 := hb2.trans (hb3.mono hb2.size)
    exact ⟨rfl, (by repeat' (first | (with_reducible exact Below.refl _ _) | (with_reducible assumption) | (with_reducible refine below_drewN ?_ _) | (with_reducible refine Below.drew ?_) | (with_reducible refine Below.alloc ?_ ?_ _) | (with_reducible refine Below.setCell ?_ ?_ _) | go_size))⟩

theorem refdecGen_ok {A : Option Addr} {n c : Nat} {l : List UInt8} (w : World) (hr : Rd w w.heap.size A n l) (hn : n ≤ 100000) (hok : okG l) :
    Calls Try.prog 98 #[.slice A n c] w fun e w' => e = .returned (.tuple #[time (yr4 l) (pr l 4) (pr l 6) (pr l 8) (pr l 10) (pr l 12), .int .i64 0]) ∧ Below w.heap.size w w' := by
  have := refdecGen_raw (c := c) w hr hn
  rw [if_pos ((gen_iff l).2 hok), num_yr4 hok.1, num_pr hok.1 (by omega), num_pr hok.1 (by omega), num_pr hok.1 (by omega), num_pr hok.1 (by omega), num_pr hok.1 (by omega)] at this
  exact this
theorem refdecGen_no {A : Option Addr} {n c : Nat} {l : List UInt8} (w : World) (hr : Rd w w.heap.size A n l) (hn : n ≤ 100000) (hok : ¬ okG l) :
    Calls Try.prog 98 #[.slice A n c] w fun e w' => e = .returned (.tuple #[time 0 0 0 0 0 0, .int .i64 6]) ∧ Below w.heap.size w w' := by
  have := refdecGen_raw (c := c) w hr hn
  rw [if_neg (fun x => hok ((gen_iff l).1 x))] at this
  exact this
end Go.Proofs.Ytnpmgofkfdpbjaa.Clk
/- Walks: the reference's DecodeUTC. -/
namespace Go.Proofs.Ytnpmgofkfdpbjaa.Clk
open Go.RowKit Kit Cur

set_option maxHeartbeats 2000000 in
theorem refdecUTC_raw {A : Option Addr} {n c : Nat} {l : List UInt8} (w : World) (hr : Rd w w.heap.size A n l) (hn : n ≤ 100000) :
    Calls Try.prog 148 #[.slice A n c] w fun e w' => e = .returned (if utcCode (ry2 l) (numF l 2 2) (numF l 4 2) (numF l 6 2) (numF l 8 2) (numF l 10 2) = 0 ∧ utcBytes (ry2 l) (numF l 2 2) (numF l 4 2) (numF l 6 2) (numF l 8 2) (numF l 10 2) = l then .tuple #[time (ry2 l) (numF l 2 2) (numF l 4 2) (numF l 6 2) (numF l 8 2) (numF l 10 2), .int .i64 0] else .tuple #[time 0 0 0 0 0 0, .int .i64 6]) ∧ Below w.heap.size w w' := by
  obtain ⟨v0, v1, v2, v3, v4, v5⟩ := numF_bd l 0 2 (by omega)
  have v3' := v3 (by omega)
  have HN := Lib.hid (fun (w' : World) (h : Rd w' w.heap.size A n l) => show Calls Try.prog 145 #[.slice A n c, .int .i64 0, .int .i64 2] w' fun e w'' => e = .returned (.int .i64 (numF l 0 2)) ∧ ∃ m, w'' = w'.drewN m from
    number_any (cp := c) 0 2 w' h (by omega) (by omega) hn)
  have HF := Lib.hid (fun (y : Int) (w' : World) (h : Rd w' w'.heap.size A n l) => show Calls Try.prog 144 #[.int .i64 y, .slice A n c, .int .i64 2] w' fun e w'' => e = .returned (time y (numF l 2 2) (numF l 4 2) (numF l 6 2) (numF l 8 2) (numF l 10 2)) ∧ Below w'.heap.size w' w'' from
    fields_any (cp := c) y 2 w' h (by omega) hn)
  have HR := Lib.hid (fun o => hr.alloc (Nat.le_refl _) o)
  have HR0 := Lib.hid hr
  have hry : ry2 l = if 1900 + numF l 0 2 < 1950 then 1900 + numF l 0 2 + 100 else 1900 + numF l 0 2 := rfl
  generalize ry2 l = y at *
  generalize numF l 0 2 = v at *
  generalize numF l 2 2 = m at *
  generalize numF l 4 2 = d at *
  generalize numF l 6 2 = h at *
  generalize numF l 8 2 = mi at *
  generalize numF l 10 2 = s at *
  clear hr v1 v2 v3 v4 v5
  have HE := Lib.hid (fun w => refencUTC_any y m d h mi s w)
  have hcase : (1900 + v < 1950 ∧ 1900 + v + 100 = y) ∨ (¬ 1900 + v < 1950 ∧ 1900 + v = y) := by
    rw [hry]; split
    · exact .inl ⟨by assumption, rfl⟩
    · exact .inr ⟨by assumption, rfl⟩
  clear hry
  by_cases hc0 : utcCode y m d h mi s = 0
  · by_cases hby : utcBytes y m d h mi s = l
    · rw [if_pos ⟨hc0, hby⟩]
      have HC := Lib.hid hc0
      have HB := Lib.hid (show eqB (utcBytes y m d h mi s) l = true from by rw [hby]; exact eqB_self l)
      clear hc0 hby
      rcases hcase with ⟨hlt', hy⟩ | ⟨hlt', hy⟩
      · have HY := Lib.hid hy
        clear hy
        go_enter Try.func148, Try.ntmps148
        go_upto_region 5 with (first | (go_at_call 145; refine (HN.out _ (HR.out _)).mono ?_; rintro e w1 ⟨rfl, m1, rfl⟩) | (go_at_call 144; refine (HF.out _ _ (((HR.out _).drewN _).more (by simp))).mono ?_; rintro e w1 ⟨rfl, hb1⟩))
        have hbw : Below w.heap.size w w1 := ((below_drewN (((Below.refl _ _).alloc (Nat.le_refl _) _)) _)).trans (hb1.mono (by simp))
        have tb0 : w1.heap[w.heap.size]? = some (.cells #[.int .i64 0, .int .i64 0, .int .i64 0, .int .i64 0, .int .i64 0, .int .i64 0] 28 (0, 0)) := (hb1.block _ (by simp)).trans (heap_alloc_new w _)
        clear hb1
        rw [HY.out]
        clear hlt'
        have tb := bk_old (o' := .cells #[.int .i64 y, .int .i64 m, .int .i64 d, .int .i64 h, .int .i64 mi, .int .i64 s] 28) tb0
        have tt : (w1.alloc (.cells #[.int .i64 y, .int .i64 m, .int .i64 d, .int .i64 h, .int .i64 mi, .int .i64 s] 28)).heap[w1.heap.size]? = _ := bk_new rfl
        have hb2 : Below w.heap.size w (w1.alloc (.cells #[.int .i64 y, .int .i64 m, .int .i64 d, .int .i64 h, .int .i64 mi, .int .i64 s] 28)) := hbw.alloc hbw.size _
        clear tb0 hbw
        generalize hg : w1.heap.size = b1 at *
        clear hg
        generalize w1.alloc (.cells #[.int .i64 y, .int .i64 m, .int .i64 d, .int .i64 h, .int .i64 mi, .int .i64 s] 28) = w2 at *
        clear w1 HN HF
        have HR2 := Lib.hid ((HR0.out.below hb2).more hb2.size)
        have TB := Lib.hid tb
        have TT := Lib.hid tt
        obtain ⟨t0, t1, t2, t3, t4, t5⟩ := cells6 tt
        clear tb tt
        go_wp2_with (first | (go_at_call 83; refine (HE.out _).mono ?_; rw [HC.out]; rintro e w3 ⟨A3, n3, c3, rfl, hr3, hb3⟩; obtain ⟨p0, p1, p2, p3, p4, p5⟩ := cells6 ((hb3.block _ (Blk_lt TT.out)).trans TT.out); have TB3 := Lib.hid ((hb3.block _ (Blk_lt TB.out)).trans TB.out); obtain ⟨f0, f1, f2, f3, f4, f5⟩ := free6 TB3.out; obtain ⟨z0, z1, z2, z3, z4, z5⟩ := cells6 TB3.out; have HR3 := Lib.hid hr3; clear hr3) | (go_at_call 27; refine (bytes_any _ _ _ _ _ _ _ _ _ HR3.out (HR2.out.past hb3)).mono ?_; rw [HB.out]; rintro e w4 ⟨rfl, rfl⟩))
        clear p0 p1 p2 p3 p4 p5 t0 t1 t2 t3 t4 t5 f0 f1 f2 f3 f4 f5 z0 z1 z2 z3 z4 z5
        have tc := cells6 (set6 (.int .i64 y) (.int .i64 m) (.int .i64 d) (.int .i64 h) (.int .i64 mi) (.int .i64 s) TB3.out)
        refine bodyPost_ret (v := .tuple #[time y m d h mi s, .int .i64 0]) (by simp [results, Try.results148, go_sem, *]) rfl ?_
        have hb4 := hb2.trans (hb3.mono hb2.size)
        exact ⟨rfl, (by repeat' (first | (with_reducible exact Below.refl _ _) | (with_reducible assumption) | (with_reducible refine below_drewN ?_ _) | (with_reducible refine Below.drew ?_) | (with_reducible refine Below.alloc ?_ ?_ _) | (with_reducible refine Below.setCell ?_ ?_ _) | go_size))⟩
      · have HY := Lib.hid hy
        clear hy
        go_enter Try.func148, Try.ntmps148
        go_upto_region 5 with (first | (go_at_call 145; refine (HN.out _ (HR.out _)).mono ?_; rintro e w1 ⟨rfl, m1, rfl⟩) | (go_at_call 144; refine (HF.out _ _ (((HR.out _).drewN _).more (by simp))).mono ?_; rintro e w1 ⟨rfl, hb1⟩))
        have hbw : Below w.heap.size w w1 := ((below_drewN (((Below.refl _ _).alloc (Nat.le_refl _) _)) _)).trans (hb1.mono (by simp))
        have tb0 : w1.heap[w.heap.size]? = some (.cells #[.int .i64 0, .int .i64 0, .int .i64 0, .int .i64 0, .int .i64 0, .int .i64 0] 28 (0, 0)) := (hb1.block _ (by simp)).trans (heap_alloc_new w _)
        clear hb1
        rw [HY.out]
        clear hlt'
        have tb := bk_old (o' := .cells #[.int .i64 y, .int .i64 m, .int .i64 d, .int .i64 h, .int .i64 mi, .int .i64 s] 28) tb0
        have tt : (w1.alloc (.cells #[.int .i64 y, .int .i64 m, .int .i64 d, .int .i64 h, .int .i64 mi, .int .i64 s] 28)).heap[w1.heap.size]? = _ := bk_new rfl
        have hb2 : Below w.heap.size w (w1.alloc (.cells #[.int .i64 y, .int .i64 m, .int .i64 d, .int .i64 h, .int .i64 mi, .int .i64 s] 28)) := hbw.alloc hbw.size _
        clear tb0 hbw
        generalize hg : w1.heap.size = b1 at *
        clear hg
        generalize w1.alloc (.cells #[.int .i64 y, .int .i64 m, .int .i64 d, .int .i64 h, .int .i64 mi, .int .i64 s] 28) = w2 at *
        clear w1 HN HF
        have HR2 := Lib.hid ((HR0.out.below hb2).more hb2.size)
        have TB := Lib.hid tb
        have TT := Lib.hid tt
        obtain ⟨t0, t1, t2, t3, t4, t5⟩ := cells6 tt
        clear tb tt
        go_wp2_with (first | (go_at_call 83; refine (HE.out _).mono ?_; rw [HC.out]; rintro e w3 ⟨A3, n3, c3, rfl, hr3, hb3⟩; obtain ⟨p0, p1, p2, p3, p4, p5⟩ := cells6 ((hb3.block _ (Blk_lt TT.out)).trans TT.out); have TB3 := Lib.hid ((hb3.block _ (Blk_lt TB.out)).trans TB.out); obtain ⟨f0, f1, f2, f3, f4, f5⟩ := free6 TB3.out; obtain ⟨z0, z1, z2, z3, z4, z5⟩ := cells6 TB3.out; have HR3 := Lib.hid hr3; clear hr3) | (go_at_call 27; refine (bytes_any _ _ _ _ _ _ _ _ _ HR3.out (HR2.out.past hb3)).mono ?_; rw [HB.out]; rintro e w4 ⟨rfl, rfl⟩))
        clear p0 p1 p2 p3 p4 p5 t0 t1 t2 t3 t4 t5 f0 f1 f2 f3 f4 f5 z0 z1 z2 z3 z4 z5
        have tc := cells6 (set6 (.int .i64 y) (.int .i64 m) (.int .i64 d) (.int .i64 h) (.int .i64 mi) (.int .i64 s) TB3.out)
        refine bodyPost_ret (v := .tuple #[time y m d h mi s, .int .i64 0]) (by simp [results, Try.results148, go_sem, *]) rfl ?_
        have hb4 := hb2.trans (hb3.mono hb2.size)
        exact ⟨rfl, (by repeat' (first | (with_reducible exact Below.refl _ _) | (with_reducible assumption) | (with_reducible refine below_drewN ?_ _) | (with_reducible refine Below.drew ?_) | (with_reducible refine Below.alloc ?_ ?_ _) | (with_reducible refine Below.setCell ?_ ?_ _) | go_size))⟩
    · rw [if_neg (fun x => hby x.2)]
      have HC := Lib.hid hc0
      have HB := Lib.hid (show eqB (utcBytes y m d h mi s) l = false from by unfold eqB; rw [decide_eq_false_iff_not]; exact hby)
      clear hc0 hby
      rcases hcase with ⟨hlt', hy⟩ | ⟨hlt', hy⟩
      · have HY := Lib.hid hy
        clear hy
        go_enter Try.func148, Try.ntmps148
        go_upto_region 5 with (first | (go_at_call 145; refine (HN.out _ (HR.out _)).mono ?_; rintro e w1 ⟨rfl, m1, rfl⟩) | (go_at_call 144; refine (HF.out _ _ (((HR.out _).drewN _).more (by simp))).mono ?_; rintro e w1 ⟨rfl, hb1⟩))
        have hbw : Below w.heap.size w w1 := ((below_drewN (((Below.refl _ _).alloc (Nat.le_refl _) _)) _)).trans (hb1.mono (by simp))
        have tb0 : w1.heap[w.heap.size]? = some (.cells #[.int .i64 0, .int .i64 0, .int .i64 0, .int .i64 0, .int .i64 0, .int .i64 0] 28 (0, 0)) := (hb1.block _ (by simp)).trans (heap_alloc_new w _)
        clear hb1
        rw [HY.out]
        clear hlt'
        have tb := bk_old (o' := .cells #[.int .i64 y, .int .i64 m, .int .i64 d, .int .i64 h, .int .i64 mi, .int .i64 s] 28) tb0
        have tt : (w1.alloc (.cells #[.int .i64 y, .int .i64 m, .int .i64 d, .int .i64 h, .int .i64 mi, .int .i64 s] 28)).heap[w1.heap.size]? = _ := bk_new rfl
        have hb2 : Below w.heap.size w (w1.alloc (.cells #[.int .i64 y, .int .i64 m, .int .i64 d, .int .i64 h, .int .i64 mi, .int .i64 s] 28)) := hbw.alloc hbw.size _
        clear tb0 hbw
        generalize hg : w1.heap.size = b1 at *
        clear hg
        generalize w1.alloc (.cells #[.int .i64 y, .int .i64 m, .int .i64 d, .int .i64 h, .int .i64 mi, .int .i64 s] 28) = w2 at *
        clear w1 HN HF
        have HR2 := Lib.hid ((HR0.out.below hb2).more hb2.size)
        have TB := Lib.hid tb
        have TT := Lib.hid tt
        obtain ⟨t0, t1, t2, t3, t4, t5⟩ := cells6 tt
        clear tb tt
        go_wp2_with (first | (go_at_call 83; refine (HE.out _).mono ?_; rw [HC.out]; rintro e w3 ⟨A3, n3, c3, rfl, hr3, hb3⟩; have TB3 := Lib.hid ((hb3.block _ (Blk_lt TB.out)).trans TB.out); obtain ⟨f0, f1, f2, f3, f4, f5⟩ := free6 TB3.out; obtain ⟨z0, z1, z2, z3, z4, z5⟩ := cells6 TB3.out; have HR3 := Lib.hid hr3; clear hr3) | (go_at_call 27; refine (bytes_any _ _ _ _ _ _ _ _ _ HR3.out (HR2.out.past hb3)).mono ?_; rw [HB.out]; rintro e w4 ⟨rfl, rfl⟩))
        clear t0 t1 t2 t3 t4 t5 f0 f1 f2 f3 f4 f5 z0 z1 z2 z3 z4 z5
        have tc := cells6 (set6 (.int .i64 0) (.int .i64 0) (.int .i64 0) (.int .i64 0) (.int .i64 0) (.int .i64 0) TB3.out)
        refine bodyPost_ret (v := .tuple #[time 0 0 0 0 0 0, .int .i64 6]) (by simp [results, Try.results148, go_sem, *]) rfl ?_
        have hb4 := hb2.trans (hb3.mono hb2.size)
        exact ⟨rfl, (by repeat' (first | (with_reducible exact Below.refl _ _) | (with_reducible assumption) | (with_reducible refine below_drewN ?_ _) | (with_reducible refine Below.drew ?_) | (with_reducible refine Below.alloc ?_ ?_ _) | (with_reducible refine Below.setCell ?_ ?_ _) | go_size))⟩
      · have HY := Lib.hid hy
        clear hy
        go_enter Try.func148, Try.ntmps148
        go_upto_region 5 with (first | (go_at_call 145; refine (HN.out _ (HR.out _)).mono ?_; rintro e w1 ⟨rfl, m1, rfl⟩) | (go_at_call 144; refine (HF.out _ _ (((HR.out _).drewN _).more (by simp))).mono ?_; rintro e w1 ⟨rfl, hb1⟩))
        have hbw : Below w.heap.size w w1 := ((below_drewN (((Below.refl _ _).alloc (Nat.le_refl _) _)) _)).trans (hb1.mono (by simp))
        have tb0 : w1.heap[w.heap.size]? = some (.cells #[.int .i64 0, .int .i64 0, .int .i64 0, .int .i64 0, .int .i64 0, .int .i64 0] 28 (0, 0)) := (hb1.block _ (by simp)).trans (heap_alloc_new w _)
        clear hb1
        rw [HY.out]
        clear hlt'
        have tb := bk_old (o' := .cells #[.int .i64 y, .int .i64 m, .int .i64 d, .int .i64 h, .int .i64 mi, .int .i64 s] 28) tb0
        have tt : (w1.alloc (.cells #[.int .i64 y, .int .i64 m, .int .i64 d, .int .i64 h, .int .i64 mi, .int .i64 s] 28)).heap[w1.heap.size]? = _ := bk_new rfl
        have hb2 : Below w.heap.size w (w1.alloc (.cells #[.int .i64 y, .int .i64 m, .int .i64 d, .int .i64 h, .int .i64 mi, .int .i64 s] 28)) := hbw.alloc hbw.size _
        clear tb0 hbw
        generalize hg : w1.heap.size = b1 at *
        clear hg
        generalize w1.alloc (.cells #[.int .i64 y, .int .i64 m, .int .i64 d, .int .i64 h, .int .i64 mi, .int .i64 s] 28) = w2 at *
        clear w1 HN HF
        have HR2 := Lib.hid ((HR0.out.below hb2).more hb2.size)
        have TB := Lib.hid tb
        have TT := Lib.hid tt
        obtain ⟨t0, t1, t2, t3, t4, t5⟩ := cells6 tt
        clear tb tt
        go_wp2_with (first | (go_at_call 83; refine (HE.out _).mono ?_; rw [HC.out]; rintro e w3 ⟨A3, n3, c3, rfl, hr3, hb3⟩; have TB3 := Lib.hid ((hb3.block _ (Blk_lt TB.out)).trans TB.out); obtain ⟨f0, f1, f2, f3, f4, f5⟩ := free6 TB3.out; obtain ⟨z0, z1, z2, z3, z4, z5⟩ := cells6 TB3.out; have HR3 := Lib.hid hr3; clear hr3) | (go_at_call 27; refine (bytes_any _ _ _ _ _ _ _ _ _ HR3.out (HR2.out.past hb3)).mono ?_; rw [HB.out]; rintro e w4 ⟨rfl, rfl⟩))
        clear t0 t1 t2 t3 t4 t5 f0 f1 f2 f3 f4 f5 z0 z1 z2 z3 z4 z5
        have tc := cells6 (set6 (.int .i64 0) (.int .i64 0) (.int .i64 0) (.int .i64 0) (.int .i64 0) (.int .i64 0) TB3.out)
        refine bodyPost_ret (v := .tuple #[time 0 0 0 0 0 0, .int .i64 6]) (by simp [results, Try.results148, go_sem, *]) rfl ?_
        have hb4 := hb2.trans (hb3.mono hb2.size)
        exact ⟨rfl, (by repeat' (first | (with_reducible exact Below.refl _ _) | (with_reducible assumption) | (with_reducible refine below_drewN ?_ _) | (with_reducible refine Below.drew ?_) | (with_reducible refine Below.alloc ?_ ?_ _) | (with_reducible refine Below.setCell ?_ ?_ _) | go_size))⟩
  · rw [if_neg (fun x => hc0 x.1)]
    generalize utcCode y m d h mi s = code at *
    rcases hcase with ⟨hlt', hy⟩ | ⟨hlt', hy⟩
    · have HY := Lib.hid hy
      clear hy
      go_enter Try.func148, Try.ntmps148
      go_upto_region 5 with (first | (go_at_call 145; refine (HN.out _ (HR.out _)).mono ?_; rintro e w1 ⟨rfl, m1, rfl⟩) | (go_at_call 144; refine (HF.out _ _ (((HR.out _).drewN _).more (by simp))).mono ?_; rintro e w1 ⟨rfl, hb1⟩))
      have hbw : Below w.heap.size w w1 := ((below_drewN (((Below.refl _ _).alloc (Nat.le_refl _) _)) _)).trans (hb1.mono (by simp))
      have tb0 : w1.heap[w.heap.size]? = some (.cells #[.int .i64 0, .int .i64 0, .int .i64 0, .int .i64 0, .int .i64 0, .int .i64 0] 28 (0, 0)) := (hb1.block _ (by simp)).trans (heap_alloc_new w _)
      clear hb1
      rw [HY.out]
      clear hlt'
      have tb := bk_old (o' := .cells #[.int .i64 y, .int .i64 m, .int .i64 d, .int .i64 h, .int .i64 mi, .int .i64 s] 28) tb0
      have tt : (w1.alloc (.cells #[.int .i64 y, .int .i64 m, .int .i64 d, .int .i64 h, .int .i64 mi, .int .i64 s] 28)).heap[w1.heap.size]? = _ := bk_new rfl
      have hb2 : Below w.heap.size w (w1.alloc (.cells #[.int .i64 y, .int .i64 m, .int .i64 d, .int .i64 h, .int .i64 mi, .int .i64 s] 28)) := hbw.alloc hbw.size _
      clear tb0 hbw
      generalize hg : w1.heap.size = b1 at *
      clear hg
      generalize w1.alloc (.cells #[.int .i64 y, .int .i64 m, .int .i64 d, .int .i64 h, .int .i64 mi, .int .i64 s] 28) = w2 at *
      clear w1 HN HF
      have HR2 := Lib.hid ((HR0.out.below hb2).more hb2.size)
      have TB := Lib.hid tb
      have TT := Lib.hid tt
      obtain ⟨t0, t1, t2, t3, t4, t5⟩ := cells6 tt
      clear tb tt
      go_wp2_with (first | (go_at_call 83; refine (HE.out _).mono ?_; rintro e w3 ⟨A3, n3, c3, rfl, hr3, hb3⟩; have TB3 := Lib.hid ((hb3.block _ (Blk_lt TB.out)).trans TB.out); obtain ⟨f0, f1, f2, f3, f4, f5⟩ := free6 TB3.out; obtain ⟨z0, z1, z2, z3, z4, z5⟩ := cells6 TB3.out; have HR3 := Lib.hid hr3; clear hr3))
      clear t0 t1 t2 t3 t4 t5 f0 f1 f2 f3 f4 f5 z0 z1 z2 z3 z4 z5
      have tc := cells6 (set6 (.int .i64 0) (.int .i64 0) (.int .i64 0) (.int .i64 0) (.int .i64 0) (.int .i64 0) TB3.out)
      refine bodyPost_ret (v := .tuple #[time 0 0 0 0 0 0, .int .i64 6]) (by simp [results, Try.results148, go_sem, *]) rfl ?_
      have hb4 := hb2.trans (hb3.mono hb2.size)
      exact ⟨rfl, (by repeat' (first | (with_reducible exact Below.refl _ _) | (with_reducible assumption) | (with_reducible refine below_drewN ?_ _) | (with_reducible refine Below.drew ?_) | (with_reducible refine Below.alloc ?_ ?_ _) | (with_reducible refine Below.setCell ?_ ?_ _) | go_size))⟩
    · have HY := Lib.hid hy
      clear hy
      go_enter Try.func148, Try.ntmps148
      go_upto_region 5 with (first | (go_at_call 145; refine (HN.out _ (HR.out _)).mono ?_; rintro e w1 ⟨rfl, m1, rfl⟩) | (go_at_call 144; refine (HF.out _ _ (((HR.out _).drewN _).more (by simp))).mono ?_; rintro e w1 ⟨rfl, hb1⟩))
      have hbw : Below w.heap.size w w1 := ((below_drewN (((Below.refl _ _).alloc (Nat.le_refl _) _)) _)).trans (hb1.mono (by simp))
      have tb0 : w1.heap[w.heap.size]? = some (.cells #[.int .i64 0, .int .i64 0, .int .i64 0, .int .i64 0, .int .i64 0, .int .i64 0] 28 (0, 0)) := (hb1.block _ (by simp)).trans (heap_alloc_new w _)
      clear hb1
      rw [HY.out]
      clear hlt'
      have tb := bk_old (o' := .cells #[.int .i64 y, .int .i64 m, .int .i64 d, .int .i64 h, .int .i64 mi, .int .i64 s] 28) tb0
      have tt : (w1.alloc (.cells #[.int .i64 y, .int .i64 m, .int .i64 d, .int .i64 h, .int .i64 mi, .int .i64 s] 28)).heap[w1.heap.size]? = _ := bk_new rfl
      have hb2 : Below w.heap.size w (w1.alloc (.cells #[.int .i64 y, .int .i64 m, .int .i64 d, .int .i64 h, .int .i64 mi, .int .i64 s] 28)) := hbw.alloc hbw.size _
      clear tb0 hbw
      generalize hg : w1.heap.size = b1 at *
      clear hg
      generalize w1.alloc (.cells #[.int .i64 y, .int .i64 m, .int .i64 d, .int .i64 h, .int .i64 mi, .int .i64 s] 28) = w2 at *
      clear w1 HN HF
      have HR2 := Lib.hid ((HR0.out.below hb2).more hb2.size)
      have TB := Lib.hid tb
      have TT := Lib.hid tt
      obtain ⟨t0, t1, t2, t3, t4, t5⟩ := cells6 tt
      clear tb tt
      go_wp2_with (first | (go_at_call 83; refine (HE.out _).mono ?_; rintro e w3 ⟨A3, n3, c3, rfl, hr3, hb3⟩; have TB3 := Lib.hid ((hb3.block _ (Blk_lt TB.out)).trans TB.out); obtain ⟨f0, f1, f2, f3, f4, f5⟩ := free6 TB3.out; obtain ⟨z0, z1, z2, z3, z4, z5⟩ := cells6 TB3.out; have HR3 := Lib.hid hr3; clear hr3))
      clear t0 t1 t2 t3 t4 t5 f0 f1 f2 f3 f4 f5 z0 z1 z2 z3 z4 z5
      have tc := cells6 (set6 (.int .i64 0) (.int .i64 0) (.int .i64 0) (.int .i64 0) (.int .i64 0) (.int .i64 0) TB3.out)
      refine bodyPost_ret (v := .tuple #[time 0 0 0 0 0 0, .int .i64 6]) (by simp [results, Try.results148, go_sem, *]) rfl ?_
      have hb4 := hb2.trans (hb3.mono hb2.size)
      exact ⟨rfl, (by repeat' (first | (with_reducible exact Below.refl _ _) | (with_reducible assumption) | (with_reducible refine below_drewN ?_ _) | (with_reducible refine Below.drew ?_) | (with_reducible refine Below.alloc ?_ ?_ _) | (with_reducible refine Below.setCell ?_ ?_ _) | go_size))⟩

theorem refdecUTC_ok {A : Option Addr} {n c : Nat} {l : List UInt8} (w : World) (hr : Rd w w.heap.size A n l) (hn : n ≤ 100000) (hok : okU l) :
    Calls Try.prog 148 #[.slice A n c] w fun e w' => e = .returned (.tuple #[time (yr2 l) (pr l 2) (pr l 4) (pr l 6) (pr l 8) (pr l 10), .int .i64 0]) ∧ Below w.heap.size w w' := by
  have := refdecUTC_raw (c := c) w hr hn
  rw [if_pos ((utc_iff l).2 hok), ry_yr hok.1, num_pr hok.1 (by omega), num_pr hok.1 (by omega), num_pr hok.1 (by omega), num_pr hok.1 (by omega), num_pr hok.1 (by omega)] at this
  exact this
theorem refdecUTC_no {A : Option Addr} {n c : Nat} {l : List UInt8} (w : World) (hr : Rd w w.heap.size A n l) (hn : n ≤ 100000) (hok : ¬ okU l) :
    Calls Try.prog 148 #[.slice A n c] w fun e w' => e = .returned (.tuple #[time 0 0 0 0 0 0, .int .i64 6]) ∧ Below w.heap.size w w' := by
  have := refdecUTC_raw (c := c) w hr hn
  rw [if_neg (fun x => hok ((utc_iff l).1 x))] at this
  exact this
end Go.Proofs.Ytnpmgofkfdpbjaa.Clk
