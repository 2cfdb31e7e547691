/- The walk of ClockDecodes. -/
import Derived.Test.YtkkgcfllfhkoaaaClkT
import Derived.Test.YtkkgcfllfhkoaaaClkL
set_option linter.unusedSimpArgs false
set_option linter.unusedVariables false
namespace Go.Proofs.Ytkkgcfllfhkoaaa
open Go.RowKit Kit Clk Go.Sort

/-- what any octets are decoded as, by the clock and by the reference -/
theorem Clk.decU_both (l : List UInt8) (hl : l.length ≤ 200) : ∃ u0 u1 u2 u3 u4 u5 k : Int,
    Hid (∀ (A : Option Addr) (n c : Nat) (w : World), Rd w w.heap.size A n l → n ≤ c → Calls Try.prog 23 #[.slice A n c] w fun e w' => e = .returned (.tuple #[time u0 u1 u2 u3 u4 u5, .int .i64 k]) ∧ Below w.heap.size w w') ∧
    Hid (∀ (A : Option Addr) (n c : Nat) (w : World), Rd w w.heap.size A n l → n ≤ c → Calls Try.prog 25 #[.slice A n c] w fun e w' => e = .returned (.tuple #[time u0 u1 u2 u3 u4 u5, .int .i64 k]) ∧ Below w.heap.size w w') ∧
    (k = 0 → utcCode u0 u1 u2 u3 u4 u5 = 0 ∧ utcBytes u0 u1 u2 u3 u4 u5 = l) := by
  by_cases hok : okU l
  · exact ⟨_, _, _, _, _, _, 0, Lib.hid (fun A n c w hr hc => decUTC_ok w hr hc hok), Lib.hid (fun A n c w hr hc => refdecUTC_ok w hr (by have := hr.len; omega) hok), fun _ => utc_of hok⟩
  · exact ⟨0, 0, 0, 0, 0, 0, 6, Lib.hid (fun A n c w hr hc => decUTC_no w hr hc (by have := hr.len; omega) hok), Lib.hid (fun A n c w hr hc => refdecUTC_no w hr (by have := hr.len; omega) hok), fun h => absurd h (by decide)⟩
theorem Clk.decG_both (l : List UInt8) (hl : l.length ≤ 200) : ∃ u0 u1 u2 u3 u4 u5 k : Int,
    Hid (∀ (A : Option Addr) (n c : Nat) (w : World), Rd w w.heap.size A n l → n ≤ c → Calls Try.prog 24 #[.slice A n c] w fun e w' => e = .returned (.tuple #[time u0 u1 u2 u3 u4 u5, .int .i64 k]) ∧ Below w.heap.size w w') ∧
    Hid (∀ (A : Option Addr) (n c : Nat) (w : World), Rd w w.heap.size A n l → n ≤ c → Calls Try.prog 26 #[.slice A n c] w fun e w' => e = .returned (.tuple #[time u0 u1 u2 u3 u4 u5, .int .i64 k]) ∧ Below w.heap.size w w') ∧
    (k = 0 → genCode u0 u1 u2 u3 u4 u5 = 0 ∧ genBytes u0 u1 u2 u3 u4 u5 = l) := by
  by_cases hok : okG l
  · exact ⟨_, _, _, _, _, _, 0, Lib.hid (fun A n c w hr hc => decGen_ok w hr hc hok), Lib.hid (fun A n c w hr hc => refdecGen_ok w hr (by have := hr.len; omega) hok), fun _ => gen_of hok⟩
  · exact ⟨0, 0, 0, 0, 0, 0, 6, Lib.hid (fun A n c w hr hc => decGen_no w hr hc (by have := hr.len; omega) hok), Lib.hid (fun A n c w hr hc => refdecGen_no w hr (by have := hr.len; omega) hok), fun h => absurd h (by decide)⟩

theorem Clk.bel_al {W w w1 : World} (bel : Below W.heap.size W w) (hb : Below w.heap.size w w1) (o : Obj) : Below W.heap.size W (w1.alloc o) :=
  (two_below bel hb bel.size).alloc (by have := hb.size; have := bel.size; omega) o
theorem Clk.rd_al {w w1 : World} {A : Option Addr} {n : Nat} {l : List UInt8} (h : Rd w w.heap.size A n l) (hb : Below w.heap.size w w1) (o : Obj) : Rd (w1.alloc o) (w1.alloc o).heap.size A n l :=
  ((h.past hb).alloc (Nat.le_refl _) o).more (by simp)

set_option maxRecDepth 100000 in
set_option maxHeartbeats 4000000 in
theorem ClockDecodes.walk (a0 : Option Addr) (len0 cap0 : Nat) (l0 : List UInt8) (W : World) (rd0 : Rd W W.heap.size a0 len0 l0) (hc0 : len0 ≤ cap0) (hm0 : cap0 ≤ maxLen) :
    Calls Try.prog 5 #[.slice a0 len0 cap0] W fun e w' => e = .returned (.bool true) ∧ Below W.heap.size W w' := by
  by_cases hn : 200 < len0
  · have hn' : (200 : Int) < (len0 : Int) := by omega
    clear rd0
    go_enter Try.func5, Try.ntmps5
    go_upto_region 2 with (first | (go_at_call 13; refine (awake8_any _).mono ?_; rintro e w1 ⟨rfl, hb1⟩))
    go_wp2_with (first | (go_at_call 13; refine (awake8_any _).mono ?_; rintro e w2 ⟨rfl, hb2⟩))
    go_ret
    exact ⟨rfl, two_below hb1 hb2 hb1.size⟩
  · have hn' : ¬ (200 : Int) < (len0 : Int) := by omega
    obtain ⟨u0, u1, u2, u3, u4, u5, ku, DU, RU, hu⟩ := decU_both l0 (by have := rd0.len; omega)
    obtain ⟨v0, v1, v2, v3, v4, v5, kg, DG, RG, hv⟩ := decG_both l0 (by have := rd0.len; omega)
    have EU := Lib.hid (fun w => encUTC_any u0 u1 u2 u3 u4 u5 w)
    have EG := Lib.hid (fun w => encGen_any v0 v1 v2 v3 v4 v5 w)
    have R0 := Lib.hid rd0
    clear rd0
    go_enter Try.func5, Try.ntmps5
    go_upto_region 3 with (first | (go_at_call 13; refine (awake8_any _).mono ?_; rintro e w1 ⟨rfl, bel⟩))
    have rd := R0.out.past bel
    clear R0
    go_upto_region 4 with (first | (go_at_call 23; refine (DU.out _ _ _ _ rd hc0).mono ?_; rintro e x ⟨rfl, hb⟩))
    replace bel := bel_al bel hb (.cells #[.int .i64 u0, .int .i64 u1, .int .i64 u2, .int .i64 u3, .int .i64 u4, .int .i64 u5] 26)
    replace rd := rd_al rd hb (.cells #[.int .i64 u0, .int .i64 u1, .int .i64 u2, .int .i64 u3, .int .i64 u4, .int .i64 u5] 26)
    have t3 : (x.alloc (.cells #[.int .i64 u0, .int .i64 u1, .int .i64 u2, .int .i64 u3, .int .i64 u4, .int .i64 u5] 26)).heap[x.heap.size]? = _ := bk_new rfl
    clear hb
    generalize hg : x.heap.size = b3 at *
    clear hg
    generalize x.alloc (.cells #[.int .i64 u0, .int .i64 u1, .int .i64 u2, .int .i64 u3, .int .i64 u4, .int .i64 u5] 26) = w3 at *
    clear x
    go_upto_region 5 with (first | (go_at_call 25; refine (RU.out _ _ _ _ rd hc0).mono ?_; rintro e x ⟨rfl, hb⟩))
    replace bel := bel_al bel hb (.cells #[.int .i64 u0, .int .i64 u1, .int .i64 u2, .int .i64 u3, .int .i64 u4, .int .i64 u5] 26)
    replace rd := rd_al rd hb (.cells #[.int .i64 u0, .int .i64 u1, .int .i64 u2, .int .i64 u3, .int .i64 u4, .int .i64 u5] 26)
    replace t3 := bk_old (o' := .cells #[.int .i64 u0, .int .i64 u1, .int .i64 u2, .int .i64 u3, .int .i64 u4, .int .i64 u5] 26) ((hb.block _ (Blk_lt t3)).trans t3)
    have t4 : (x.alloc (.cells #[.int .i64 u0, .int .i64 u1, .int .i64 u2, .int .i64 u3, .int .i64 u4, .int .i64 u5] 26)).heap[x.heap.size]? = _ := bk_new rfl
    clear hb
    generalize hg : x.heap.size = b4 at *
    clear hg
    generalize x.alloc (.cells #[.int .i64 u0, .int .i64 u1, .int .i64 u2, .int .i64 u3, .int .i64 u4, .int .i64 u5] 26) = w4 at *
    clear x
    go_upto_region 6 with (first | (go_at_call 24; refine (DG.out _ _ _ _ rd hc0).mono ?_; rintro e x ⟨rfl, hb⟩))
    replace bel := bel_al bel hb (.cells #[.int .i64 v0, .int .i64 v1, .int .i64 v2, .int .i64 v3, .int .i64 v4, .int .i64 v5] 26)
    replace rd := rd_al rd hb (.cells #[.int .i64 v0, .int .i64 v1, .int .i64 v2, .int .i64 v3, .int .i64 v4, .int .i64 v5] 26)
    replace t3 := bk_old (o' := .cells #[.int .i64 v0, .int .i64 v1, .int .i64 v2, .int .i64 v3, .int .i64 v4, .int .i64 v5] 26) ((hb.block _ (Blk_lt t3)).trans t3)
    replace t4 := bk_old (o' := .cells #[.int .i64 v0, .int .i64 v1, .int .i64 v2, .int .i64 v3, .int .i64 v4, .int .i64 v5] 26) ((hb.block _ (Blk_lt t4)).trans t4)
    have t5 : (x.alloc (.cells #[.int .i64 v0, .int .i64 v1, .int .i64 v2, .int .i64 v3, .int .i64 v4, .int .i64 v5] 26)).heap[x.heap.size]? = _ := bk_new rfl
    clear hb
    generalize hg : x.heap.size = b5 at *
    clear hg
    generalize x.alloc (.cells #[.int .i64 v0, .int .i64 v1, .int .i64 v2, .int .i64 v3, .int .i64 v4, .int .i64 v5] 26) = w5 at *
    clear x
    go_upto_region 7 with (first | (go_at_call 26; refine (RG.out _ _ _ _ rd hc0).mono ?_; rintro e x ⟨rfl, hb⟩))
    replace bel := bel_al bel hb (.cells #[.int .i64 v0, .int .i64 v1, .int .i64 v2, .int .i64 v3, .int .i64 v4, .int .i64 v5] 26)
    replace rd := rd_al rd hb (.cells #[.int .i64 v0, .int .i64 v1, .int .i64 v2, .int .i64 v3, .int .i64 v4, .int .i64 v5] 26)
    replace t3 := bk_old (o' := .cells #[.int .i64 v0, .int .i64 v1, .int .i64 v2, .int .i64 v3, .int .i64 v4, .int .i64 v5] 26) ((hb.block _ (Blk_lt t3)).trans t3)
    replace t4 := bk_old (o' := .cells #[.int .i64 v0, .int .i64 v1, .int .i64 v2, .int .i64 v3, .int .i64 v4, .int .i64 v5] 26) ((hb.block _ (Blk_lt t4)).trans t4)
    replace t5 := bk_old (o' := .cells #[.int .i64 v0, .int .i64 v1, .int .i64 v2, .int .i64 v3, .int .i64 v4, .int .i64 v5] 26) ((hb.block _ (Blk_lt t5)).trans t5)
    have t6 : (x.alloc (.cells #[.int .i64 v0, .int .i64 v1, .int .i64 v2, .int .i64 v3, .int .i64 v4, .int .i64 v5] 26)).heap[x.heap.size]? = _ := bk_new rfl
    clear hb
    generalize hg : x.heap.size = b6 at *
    clear hg
    generalize x.alloc (.cells #[.int .i64 v0, .int .i64 v1, .int .i64 v2, .int .i64 v3, .int .i64 v4, .int .i64 v5] 26) = w6 at *
    clear x
    clear DU RU DG RG
    obtain ⟨p0, p1, p2, p3, p4, p5⟩ := cells6 t3
    obtain ⟨q0, q1, q2, q3, q4, q5⟩ := cells6 t4
    obtain ⟨r0, r1, r2, r3, r4, r5⟩ := cells6 t5
    obtain ⟨s0, s1, s2, s3, s4, s5⟩ := cells6 t6
    go_upto_region 10 with (first | (go_at_call 17; refine (EU.out _).mono ?_; rintro e x ⟨A1, n1, c1, rfl, ho, hb⟩))
    clear p0 p1 p2 p3 p4 p5 q0 q1 q2 q3 q4 q5 r0 r1 r2 r3 r4 r5 s0 s1 s2 s3 s4 s5
    have t5' := (hb.block _ (Blk_lt t5)).trans t5
    have bel' := two_below bel hb bel.size
    have rd' := rd.past hb
    have ra := ho.rd
    clear t3 t4 t5 t6 bel rd hb ho
    obtain ⟨r0, r1, r2, r3, r4, r5⟩ := cells6 t5'
    go_upto_region 11 with (first | (go_at_call 19; refine (EG.out _).mono ?_; rintro e y ⟨A2, n2, c2, rfl, ho, hb⟩))
    clear r0 r1 r2 r3 r4 r5 t5'
    have bel := two_below bel' hb bel'.size
    have rd := rd'.past hb
    have ra' := ra.past hb
    have rb := ho.rd
    clear bel' rd' ra hb ho
    have X1 := Lib.hid (Cur.bytes_any A1 a0 n1 c1 len0 cap0 _ _ _ ra' rd)
    have X2 := Lib.hid (Cur.bytes_any A2 a0 n2 c2 len0 cap0 _ _ _ rb rd)
    clear ra' rb rd EU EG
    by_cases hku : ku = 0 <;> by_cases hkg : kg = 0
    · obtain ⟨e1, e2⟩ := hu hku
      obtain ⟨e3, e4⟩ := hv hkg
      rw [e2, Cur.eqB_same] at X1
      rw [e4, Cur.eqB_same] at X2
      rw [e1, e3]
      clear hu hv e1 e2 e3 e4
      go_wp2_with (first | (go_at_call 21; refine X1.out.mono ?_; rintro e w' ⟨rfl, rfl⟩) | (go_at_call 21; refine X2.out.mono ?_; rintro e w' ⟨rfl, rfl⟩))
      go_ret
      exact ⟨rfl, bel⟩
    · obtain ⟨e1, e2⟩ := hu hku
      rw [e2, Cur.eqB_same] at X1
      rw [e1]
      clear hu hv e1 e2
      go_wp2_with (first | (go_at_call 21; refine X1.out.mono ?_; rintro e w' ⟨rfl, rfl⟩))
      go_ret
      exact ⟨rfl, bel⟩
    · obtain ⟨e3, e4⟩ := hv hkg
      rw [e4, Cur.eqB_same] at X2
      rw [e3]
      clear hu hv e3 e4
      go_wp2_with (first | (go_at_call 21; refine X2.out.mono ?_; rintro e w' ⟨rfl, rfl⟩))
      go_ret
      exact ⟨rfl, bel⟩
    · clear hu hv
      go_wp2
      go_ret
      exact ⟨rfl, bel⟩
end Go.Proofs.Ytkkgcfllfhkoaaa
