/- Joined texts: DatA, DatB, DatC, DatD. -/
import Derived.Test.YtnpmgofkfdpbjaaKN
import Derived.Test.YtnpmgofkfdpbjaaKV
import Derived.Test.YtnpmgofkfdpbjaaKP
import Derived.Test.YtnpmgofkfdpbjaaKF
import Derived.Test.YtnpmgofkfdpbjaaKY
import Derived.Test.YtnpmgofkfdpbjaaKG
set_option linter.unusedSimpArgs false
set_option linter.unusedVariables false
/- Walks: MarshalDate of entry and of its reference. -/
namespace Go.Proofs.Ytnpmgofkfdpbjaa.Ent
open Go.RowKit Kit Tlv

theorem gen_len {y m d h mi s : Int} (hc : Clk.genCode y m d h mi s = 0) : (Clk.genBytes y m d h mi s).length = 15 := by
  unfold Clk.genBytes; rw [if_pos hc]; exact Val.genL_len _ _ _ _ _ _
set_option maxHeartbeats 2000000 in
theorem mdate_any (y m d h mi s : Int) (w : World) : Calls Try.prog 38 #[Clk.time y m d h mi s] w (MarP w (dateL y m d h mi s) (dateC y m d h mi s)) := by
  by_cases hc : Clk.genCode y m d h mi s = 0
  · unfold dateL dateC
    rw [if_pos hc, if_pos hc]
    exact mdate_ok y m d h mi s w hc (gen_len hc)
  · unfold dateL dateC
    rw [if_neg hc, if_neg hc]
    have G := Lib.hid (fun w => Clk.encGen_any y m d h mi s w)
    generalize Clk.genCode y m d h mi s = cd at *
    generalize Clk.genBytes y m d h mi s = u at *
    go_enter Try.func38, Try.ntmps38
    go_wp2_with fail
    go_must (go_fit (G.out _))
    rintro e w1 ⟨A1, n1, c1, rfl, o1, hb1⟩
    have bel := bel1 hb1
    clear o1 hb1 G
    go_wp2
    go_ret2
    exact ⟨none, 0, rfl, Own.none_ _ _, bel⟩
set_option maxHeartbeats 2000000 in
theorem refmdate_any (y m d h mi s : Int) (w : World) : Calls Try.prog 39 #[Clk.time y m d h mi s] w (MarP w (dateL y m d h mi s) (dateC y m d h mi s)) := by
  have G := Lib.hid (fun w => Clk.refencGen_any y m d h mi s w)
  by_cases hc : Clk.genCode y m d h mi s = 0
  · unfold dateL dateC
    rw [if_pos hc, if_pos hc]
    rw [hc] at G
    have F3 := Lib.hid (gen_len hc)
    have F2 := Lib.hid ((put_enc (c := 0) (n := 24) (b := false) (l := Clk.genBytes y m d h mi s) (by rw [gen_len hc]; exact Val.enc24)).symm.trans (by rw [show idByte 0 false 24 = 24 from by decide]))
    generalize Clk.genBytes y m d h mi s = u at *
    clear hc
    rw [F2.out]
    go_enter Try.func39, Try.ntmps39
    go_wp2_with fail
    go_must (go_fit (G.out _))
    rintro e w1 ⟨A1, n1, c1, rfl, o1, hb1⟩
    have bel := bel1 hb1
    obtain rfl : n1 = 15 := by rw [← o1.len]; exact F3.out
    have W := Lib.hid (put_any (c := c1) 24 _ o1 (Nat.le_refl _) (by decide) (by decide) (by omega))
    clear o1 hb1 G
    go_wp2_with fail
    go_must (go_fit W.out)
    rintro e w3 ⟨A3, c3, rfl, o3, hb3⟩
    go_wp2
    go_ret2
    exact ⟨A3, c3, rfl, o3.mono bel.size, two_belowK bel hb3 bel.size⟩
  · unfold dateL dateC
    rw [if_neg hc, if_neg hc]
    generalize Clk.genCode y m d h mi s = cd at *
    generalize Clk.genBytes y m d h mi s = u at *
    go_enter Try.func39, Try.ntmps39
    go_wp2_with fail
    go_must (go_fit (G.out _))
    rintro e w1 ⟨A1, n1, c1, rfl, o1, hb1⟩
    have bel := bel1 hb1
    clear o1 hb1 G
    go_wp2
    go_ret2
    exact ⟨none, 0, rfl, Own.none_ _ _, bel⟩
end Go.Proofs.Ytnpmgofkfdpbjaa.Ent
/- Walks: ParseDate of the package entry. -/
namespace Go.Proofs.Ytnpmgofkfdpbjaa.Ent
open Go.RowKit Kit Tlv

/-- what ParseDate returns -/
abbrev datR (y m d h mi s k o : Int) : Value := .tuple #[Clk.time y m d h mi s, err k o]
/-- the box of a time -/
def timeO (y m d h mi s : Int) : Obj := .cells #[.int .i64 y, .int .i64 m, .int .i64 d, .int .i64 h, .int .i64 mi, .int .i64 s] 28 (0, 0)

set_option maxRecDepth 100000 in
set_option maxHeartbeats 2000000 in
theorem dat1_raw {A : Option Addr} {n c cb : Nat} {y m d h mi s k y0 m0 d0 h0 mi0 s0 : Int} (w : World) (hcb : w.heap[cb]? = some (timeO y0 m0 d0 h0 mi0 s0))
    (hd : Calls Try.prog 91 #[.slice A n c] w fun e w' => e = .returned (.tuple #[Clk.time y m d h mi s, .int .i64 k]) ∧ Below w.heap.size w w') :
    Calls Try.prog 96 #[.slice A n c, .pointer (some ⟨cb, 0, none⟩)] w fun e w' => e = .returned (.bool (decide (k = 0))) ∧ w.grownBy w' (some cb) ∧ w'.heap[cb]? = some (timeO y m d h mi s) := by
  have D := Lib.hid hd
  have HC := Lib.hid hcb
  clear hd hcb
  go_enter Try.func96, Try.ntmps96
  go_upto_region 2 with (first | (go_at_call 91; go_must (go_fit D.out); rintro e w1 ⟨rfl, hb1⟩))
  have t0 := bk_old (o' := .cells #[.int .i64 y, .int .i64 m, .int .i64 d, .int .i64 h, .int .i64 mi, .int .i64 s] 28) (stayK HC.out hb1)
  have t1 : (w1.alloc (.cells #[.int .i64 y, .int .i64 m, .int .i64 d, .int .i64 h, .int .i64 mi, .int .i64 s] 28)).heap[w1.heap.size]? = _ := bk_new rfl
  have hg := grown_alloc (grown_of_below hb1 (some cb)) (.cells #[.int .i64 y, .int .i64 m, .int .i64 d, .int .i64 h, .int .i64 mi, .int .i64 s] 28)
  have hlt : cb < w1.heap.size := Nat.lt_of_lt_of_le (Blk_lt HC.out) hb1.size
  have n1 : ¬ w1.heap.size = cb := by omega
  have n2 : ¬ cb = w1.heap.size := by omega
  clear hb1 D HC hlt
  generalize w1.heap.size = b1 at *
  generalize w1.alloc (.cells #[.int .i64 y, .int .i64 m, .int .i64 d, .int .i64 h, .int .i64 mi, .int .i64 s] 28) = w2 at *
  clear w1
  obtain ⟨q0, q1, q2, q3, q4, q5⟩ := cells6 t0
  obtain ⟨f0, f1, f2, f3, f4, f5⟩ := Clk.free6 t0
  obtain ⟨u0, u1, u2, u3, u4, u5⟩ := cells6 t1
  have T0 := Lib.hid t0
  have HG := Lib.hid hg
  clear t0 t1 hg
  go_wp2
  clear q0 q1 q2 q3 q4 q5 f0 f1 f2 f3 f4 f5 u0 u1 u2 u3 u4 u5
  go_ret
  exact ⟨ret_bool (by first | rfl | simp), grown_set (grown_set (grown_set (grown_set (grown_set (grown_set HG.out _ _) _ _) _ _) _ _) _ _) _ _, Clk.set6 _ _ _ _ _ _ T0.out⟩

set_option maxRecDepth 100000 in
set_option maxHeartbeats 2000000 in
theorem parsedate_raw {A : Option Addr} {n c : Nat} (w : World) (k o y m d h mi s : Int)
    (hp : Calls Try.prog 93 #[.slice A n c, .int .i64 24, .func (.func 96) #[] #[.pointer (some ⟨w.heap.size + 2, 0, none⟩)]] (((w.alloc (.cells #[.int .i64 0, .int .i64 0, .int .i64 0, .int .i64 0, .int .i64 0, .int .i64 0] 28)).alloc (.cells #[.int .i64 0, .int .i64 0] 36)).alloc (.cells #[.int .i64 0, .int .i64 0, .int .i64 0, .int .i64 0, .int .i64 0, .int .i64 0] 28))
      fun e X => e = .returned (err k o) ∧ (((w.alloc (.cells #[.int .i64 0, .int .i64 0, .int .i64 0, .int .i64 0, .int .i64 0, .int .i64 0] 28)).alloc (.cells #[.int .i64 0, .int .i64 0] 36)).alloc (.cells #[.int .i64 0, .int .i64 0, .int .i64 0, .int .i64 0, .int .i64 0, .int .i64 0] 28)).grownBy X (some (w.heap.size + 2)) ∧ X.heap[w.heap.size + 2]? = some (timeO y m d h mi s)) :
    Calls Try.prog 40 #[.slice A n c] w fun e w' => e = .returned (datR y m d h mi s k o) ∧ Below w.heap.size w w' := by
  have PR := Lib.hid hp
  clear hp
  go_enter Try.func40, Try.ntmps40
  go_wp2_with fail
  go_must (go_fit PR.out)
  rintro e w1 ⟨rfl, hg, hv⟩
  have t0 := stay_grown (bk_old (bk_old (bk_new (w := w) (o := .cells #[.int .i64 0, .int .i64 0, .int .i64 0, .int .i64 0, .int .i64 0, .int .i64 0] 28) rfl))) hg (by omega)
  have t1 := stay_grown (bk_old (bk_new (w := w.alloc (.cells #[.int .i64 0, .int .i64 0, .int .i64 0, .int .i64 0, .int .i64 0, .int .i64 0] 28)) (b := w.heap.size + 1) (o := .cells #[.int .i64 0, .int .i64 0] 36) (by simp))) hg (by omega)
  have bel : Below w.heap.size w w1 := (show Below w.heap.size w _ from (by repeat' (first | (with_reducible exact Below.refl _ _) | (with_reducible assumption) | (with_reducible refine below_drewN ?_ _) | (with_reducible refine Below.drew ?_) | (with_reducible refine Below.alloc ?_ ?_ _) | (with_reducible refine Below.setCell ?_ ?_ _) | go_size))).grown hg (by simp; omega) (fun j hj => by injection hj with hj; omega)
  have zs := hg.size
  simp only [World.size_alloc] at zs
  replace t0 := bk_old (o' := .cells #[.int .i64 k, .int .i64 o] 36) t0
  replace t1 := bk_old (o' := .cells #[.int .i64 k, .int .i64 o] 36) t1
  have t3 := bk_old (o' := .cells #[.int .i64 k, .int .i64 o] 36) hv
  have t4 : (w1.alloc (.cells #[.int .i64 k, .int .i64 o] 36)).heap[w1.heap.size]? = _ := bk_new rfl
  have bel2 := bel.alloc bel.size (.cells #[.int .i64 k, .int .i64 o] 36)
  have n1 : ¬ w1.heap.size = w.heap.size := by omega
  have n2 : ¬ w.heap.size = w1.heap.size := by omega
  have n3 : ¬ w1.heap.size = w.heap.size + 1 := by omega
  have n4 : ¬ w.heap.size + 1 = w1.heap.size := by omega
  clear hg hv bel zs PR
  go_upto_region 3 with fail
  generalize w1.heap.size = b1 at *
  generalize w1.alloc (.cells #[.int .i64 k, .int .i64 o] 36) = w2 at *
  clear w1
  have T0 := Lib.hid t0
  have T1 := Lib.hid t1
  obtain ⟨q0, q1, q2, q3, q4, q5⟩ := cells6 t0
  obtain ⟨f0, f1, f2, f3, f4, f5⟩ := Clk.free6 t0
  obtain ⟨s0, s1⟩ := cells2 t1
  obtain ⟨g0, g1⟩ := free2' t1
  obtain ⟨u0, u1, u2, u3, u4, u5⟩ := cells6 t3
  obtain ⟨v0, v1⟩ := cells2 t4
  clear t0 t1 t3 t4
  go_region
  all_goals
    go_wp2
    clear q0 q1 q2 q3 q4 q5 f0 f1 f2 f3 f4 f5 s0 s1 g0 g1 u0 u1 u2 u3 u4 u5 v0 v1
    have tc := cells6 (far2 (c := w.heap.size + 1) (Clk.set6 (.int .i64 y) (.int .i64 m) (.int .i64 d) (.int .i64 h) (.int .i64 mi) (.int .i64 s) T0.out) (by omega) (.int .i64 k) (.int .i64 o))
    have td := cells2 (set2 (.int .i64 k) (.int .i64 o) (far6 (c := w.heap.size) T1.out (by omega) (.int .i64 y) (.int .i64 m) (.int .i64 d) (.int .i64 h) (.int .i64 mi) (.int .i64 s)))
    refine bodyPost_ret (v := .tuple #[.agg #[.int .i64 y, .int .i64 m, .int .i64 d, .int .i64 h, .int .i64 mi, .int .i64 s], err k o]) (by simp [results, Try.results40, go_sem, *]) rfl ?_
    exact ⟨rfl, (by repeat' (first | (with_reducible exact Below.refl _ _) | (with_reducible assumption) | (with_reducible refine below_drewN ?_ _) | (with_reducible refine Below.drew ?_) | (with_reducible refine Below.alloc ?_ ?_ _) | (with_reducible refine Below.setCell ?_ ?_ _) | go_size))⟩
end Go.Proofs.Ytnpmgofkfdpbjaa.Ent
/- What ParseDate of entry returns: the date whose encoding the bytes are, or an error. -/
namespace Go.Proofs.Ytnpmgofkfdpbjaa.Ent
open Go.RowKit Kit Tlv

theorem date_ok {y m d h mi s : Int} (hc : Clk.genCode y m d h mi s = 0) :
    dateL y m d h mi s = encL 0 false 24 (Clk.genL y m d h mi s) ∧ encCode 0 24 (Clk.genL y m d h mi s).length = 0 ∧ dateC y m d h mi s = 0 := by
  unfold dateL dateC Clk.genBytes
  rw [if_pos hc, if_pos hc, if_pos hc]
  exact ⟨rfl, by rw [Val.genL_len]; exact Val.enc24, rfl⟩
theorem date_no {y m d h mi s : Int} (hc : ¬ Clk.genCode y m d h mi s = 0) : dateL y m d h mi s = [] ∧ dateC y m d h mi s = 8 := by
  unfold dateL dateC
  rw [if_neg hc, if_neg hc]
  exact ⟨rfl, rfl⟩
theorem date_of {k : List UInt8} (h : Clk.okG k) : Clk.genCode (Clk.yr4 k) (Clk.pr k 4) (Clk.pr k 6) (Clk.pr k 8) (Clk.pr k 10) (Clk.pr k 12) = 0 ∧ dateL (Clk.yr4 k) (Clk.pr k 4) (Clk.pr k 6) (Clk.pr k 8) (Clk.pr k 10) (Clk.pr k 12) = encL 0 false 24 k := by
  obtain ⟨h1, h2⟩ := Clk.gen_of h
  refine ⟨h1, ?_⟩
  unfold dateL
  rw [if_pos h1, h2]
/-- a date's encoding determines it -/
theorem date_inj {y m d h mi s y' m' d' h' mi' s' : Int} (hc : Clk.genCode y m d h mi s = 0) (hc' : Clk.genCode y' m' d' h' mi' s' = 0) (e : dateL y m d h mi s = dateL y' m' d' h' mi' s') : y = y' ∧ m = m' ∧ d = d' ∧ h = h' ∧ mi = mi' ∧ s = s' := by
  obtain ⟨a1, a2, _⟩ := date_ok hc
  obtain ⟨b1, b2, _⟩ := date_ok hc'
  rw [a1, b1] at e
  have ek := (Val.enc_inj b2 a2 e).2.2.2
  obtain ⟨_, c1, c2, c3, c4, c5, c6⟩ := Clk.gen_back hc
  obtain ⟨_, d1, d2, d3, d4, d5, d6⟩ := Clk.gen_back hc'
  rw [ek] at d1 d2 d3 d4 d5 d6
  exact ⟨c1.symm.trans d1, c2.symm.trans d2, c3.symm.trans d3, c4.symm.trans d4, c5.symm.trans d5, c6.symm.trans d6⟩
theorem date_len (y m d h mi s : Int) : (dateL y m d h mi s).length ≤ 17 := by
  by_cases hc : Clk.genCode y m d h mi s = 0
  · obtain ⟨a1, a2, _⟩ := date_ok hc
    rw [a1]
    have el := enc_len (b := false) a2
    rw [Val.genL_len] at el
    have h2 : (lenL ((15 : Nat) : Int)).length = 1 := by decide
    omega
  · rw [(date_no hc).1]; simp

def DatOk (w : World) (args : Array Value) (l : List UInt8) : Prop :=
  ∃ y m d h mi s, Clk.genCode y m d h mi s = 0 ∧ l = dateL y m d h mi s ∧ Calls Try.prog 40 args w fun e w' => e = .returned (datR y m d h mi s 0 0) ∧ Below w.heap.size w w'
def DatNo (w : World) (args : Array Value) (l : List UInt8) : Prop :=
  (∀ y m d h mi s, Clk.genCode y m d h mi s = 0 → l ≠ dateL y m d h mi s) ∧
    ∃ code off, 0 < code ∧ 0 ≤ off ∧ off ≤ (l.length : Int) ∧ Calls Try.prog 40 args w fun e w' => e = .returned (datR 0 0 0 0 0 0 code off) ∧ Below w.heap.size w w'

theorem pdate_any {A : Option Addr} {n c B : Nat} {l : List UInt8} (w : World) (hr : Rd w B A n l) (hB : B ≤ w.heap.size) (hc : n ≤ c) (hm : c ≤ maxLen) (hn : n ≤ 100000) :
    DatOk w #[.slice A n c] l ∨ DatNo w #[.slice A n c] l := by
  have hl := hr.len
  have hrX : Rd (((w.alloc (.cells #[.int .i64 0, .int .i64 0, .int .i64 0, .int .i64 0, .int .i64 0, .int .i64 0] 28)).alloc (.cells #[.int .i64 0, .int .i64 0] 36)).alloc (.cells #[.int .i64 0, .int .i64 0, .int .i64 0, .int .i64 0, .int .i64 0, .int .i64 0] 28)) B A n l := ((hr.alloc hB _).alloc (by simp; omega) _).alloc (by simp; omega) _
  have hBX : B ≤ (((w.alloc (.cells #[.int .i64 0, .int .i64 0, .int .i64 0, .int .i64 0, .int .i64 0, .int .i64 0] 28)).alloc (.cells #[.int .i64 0, .int .i64 0] 36)).alloc (.cells #[.int .i64 0, .int .i64 0, .int .i64 0, .int .i64 0, .int .i64 0, .int .i64 0] 28)).heap.size := by simp; omega
  have hcb : (((w.alloc (.cells #[.int .i64 0, .int .i64 0, .int .i64 0, .int .i64 0, .int .i64 0, .int .i64 0] 28)).alloc (.cells #[.int .i64 0, .int .i64 0] 36)).alloc (.cells #[.int .i64 0, .int .i64 0, .int .i64 0, .int .i64 0, .int .i64 0, .int .i64 0] 28)).heap[w.heap.size + 2]? = some (timeO 0 0 0 0 0 0) := bk_new (by simp)
  have hone : ∃ x0 x1 x2 x3 x4 x5 r1 r2, oneV l = (⟨x0, x1, x2, x3, x4, x5⟩, r1, r2) := ⟨_, _, _, _, _, _, _, _, rfl⟩
  obtain ⟨x0, x1, x2, x3, x4, x5, r1, r2, hone⟩ := hone
  by_cases hz : r1 = 0
  · obtain ⟨k1, k2, k3⟩ := Val.one_con (l := l) (by rw [hone]; exact hz)
    obtain ⟨d1, d2, d3, d4, d5⟩ := one_bd (l := l) (by rw [hone]; exact hz)
    generalize (nx l).con = k at *
    rw [hone] at k1 k2 k3 d1 d2 d3 d4 d5
    simp only [] at k1 k2 k3 d1 d2 d3 d4 d5
    rw [hl] at k1
    by_cases hT : (x0 = 0 ∧ x2 = false) ∧ x1 = 24
    · by_cases hb : Clk.okG k
      · have hp := prim_decD (w.heap.size + 2) 24 _ hrX hBX hc hm (by omega) hone (ok := true) (o := timeO (Clk.yr4 k) (Clk.pr k 4) (Clk.pr k 6) (Clk.pr k 8) (Clk.pr k 10) (Clk.pr k 12)) hz hT (by simp) (fun X A1 hX h => by
          rw [k1] at h
          exact dat1_raw X ((hX.block _ (Blk_lt hcb)).trans hcb) (Clk.decGen_ok X h (by omega) hb))
        obtain ⟨⟨e0, e2⟩, e1⟩ := hT
        rw [e0, e1, e2] at k2
        obtain ⟨f1, f2⟩ := date_of hb
        exact .inl ⟨_, _, _, _, _, _, f1, k2.symm.trans f2.symm, parsedate_raw w 0 0 _ _ _ _ _ _ hp⟩
      · have hp := prim_decD (w.heap.size + 2) 24 _ hrX hBX hc hm (by omega) hone (ok := false) (o := timeO 0 0 0 0 0 0) hz hT (by simp) (fun X A1 hX h => by
          rw [k1] at h
          exact dat1_raw X ((hX.block _ (Blk_lt hcb)).trans hcb) (Clk.decGen_no X h (by omega) (by omega) hb))
        obtain ⟨⟨e0, e2⟩, e1⟩ := hT
        rw [e0, e1, e2] at k2
        rw [e0, e1] at k3
        refine .inr ⟨fun y m d h mi s hv e => ?_, 6, x4, by omega, by omega, by omega, parsedate_raw w 6 x4 _ _ _ _ _ _ hp⟩
        rw [← k2, (date_ok hv).1] at e
        have hk := (Val.enc_inj (date_ok hv).2.1 k3 e).2.2.2
        rw [← hk] at hb
        exact hb (Clk.gen_back hv).1
    · have hp := prim_tag 96 (w.heap.size + 2) 24 _ hrX hBX hc hm (by omega) hone hz hT
      refine .inr ⟨fun y m d h mi s hv e => ?_, 3, 0, by omega, by omega, by omega, parsedate_raw w 3 0 0 0 0 0 0 0 (hp.mono fun e X h => ⟨h.1, grown_of_below h.2 _, (h.2.block _ (Blk_lt hcb)).trans hcb⟩)⟩
      rw [← k2, (date_ok hv).1] at e
      obtain ⟨i1, i2, i3, _⟩ := Val.enc_inj (date_ok hv).2.1 k3 e
      exact hT ⟨⟨i1.symm, i3.symm⟩, i2.symm⟩
  · obtain ⟨d1, d2, d3, d4⟩ := one_err (l := l) (by omega) (by rw [hone]; exact hz)
    rw [hone] at d2 d3 d4
    have hp := prim_err 96 (w.heap.size + 2) 24 _ hrX hBX hc hm (by omega) hone hz
    refine .inr ⟨fun y m d h mi s hv e => ?_, r1, r2, d2, d3, d4, parsedate_raw w r1 r2 0 0 0 0 0 0 (hp.mono fun e X h => ⟨h.1, grown_of_below h.2 _, (h.2.block _ (Blk_lt hcb)).trans hcb⟩)⟩
    rw [e, (date_ok hv).1, one_enc (date_ok hv).2.1] at hone
    injection hone with _ h2
    injection h2 with h2
    exact hz h2.symm
end Go.Proofs.Ytnpmgofkfdpbjaa.Ent
/- Walks: ParseDate of the reference. -/
namespace Go.Proofs.Ytnpmgofkfdpbjaa.Ent
open Go.RowKit Kit Tlv

set_option maxRecDepth 100000 in
set_option maxHeartbeats 2000000 in
theorem refpdate_raw {A : Option Addr} {n c B : Nat} {l k : List UInt8} {y m d h mi s kd : Int} (w : World) (hr : Rd w B A n l) (hB : B ≤ w.heap.size) (hc : n ≤ c) (hm : c ≤ maxLen) (hn : n ≤ 100000)
    (hk : (Tree.withinT l 60).1.con = k)
    (hd : ∀ (X : World) (A1 : Option Addr) (c1 : Nat), Rd X X.heap.size A1 k.length k → Calls Try.prog 98 #[.slice A1 k.length c1] X fun e w' => e = .returned (.tuple #[Clk.time y m d h mi s, .int .i64 kd]) ∧ Below X.heap.size X w') :
    Calls Try.prog 41 #[.slice A n c] w fun e w' => e = .returned (if dateC y m d h mi s = 0 ∧ dateL y m d h mi s = l then .tuple #[Clk.time y m d h mi s, .bool true] else .tuple #[Clk.time 0 0 0 0 0 0, .bool false]) ∧ Below w.heap.size w w' := by
  have DP := Lib.hid (fun (X : World) (h : Rd X B A n l) (hB : B ≤ X.heap.size) => Tree.deep_any X h hB hc hm (by omega))
  have DD := Lib.hid hd
  have HR := Lib.hid hr
  have HK := Lib.hid hk
  have MD := Lib.hid (fun X => refmdate_any y m d h mi s X)
  clear hd hr hk
  generalize Tree.withinT l 60 = q at *
  obtain ⟨⟨g1, g2, g3, gc, gk⟩, qc, qo⟩ := q
  have hkk : gc = k := HK.out
  subst hkk
  generalize hL : dateL y m d h mi s = L at *
  generalize hC : dateC y m d h mi s = cd at *
  clear HK hL hC
  have t0 : (w.alloc (.cells #[.int .i64 0, .int .i64 0, .int .i64 0, .int .i64 0, .int .i64 0, .int .i64 0] 28)).heap[w.heap.size]? = _ := bk_new rfl
  have T0 := Lib.hid t0
  clear t0
  have BE0 := Lib.hid ((Below.refl w.heap.size w).alloc (Nat.le_refl _) (.cells #[.int .i64 0, .int .i64 0, .int .i64 0, .int .i64 0, .int .i64 0, .int .i64 0] 28))
  go_enter Try.func41, Try.ntmps41
  go_upto_region 2 with (first | (go_at_call 97; go_must (refine (DP.out _ (HR.out.alloc hB _) (by simp; omega)).mono ?_); rintro e w1 ⟨v, ok, rfl, hnv, hb1⟩; obtain ⟨A6, c6, K6, ck6, rfl, hrd, -, -⟩ := hnv.formR))
  have t1 : (w1.alloc (.cells #[.int .i64 g1, .int .i64 g2, .bool g3, .slice A6 gc.length c6, .slice K6 gk.length ck6] 105)).heap[w1.heap.size]? = _ := bk_new rfl
  have hs1 := hb1.size
  simp only [World.size_alloc] at hs1
  have T1 := Lib.hid (bk_old (o' := (.cells #[.int .i64 g1, .int .i64 g2, .bool g3, .slice A6 gc.length c6, .slice K6 gk.length ck6] 105)) (stayK T0.out hb1))
  have BE1 := Lib.hid ((BE0.out.trans (hb1.mono (by simp))).alloc (by omega) (.cells #[.int .i64 g1, .int .i64 g2, .bool g3, .slice A6 gc.length c6, .slice K6 gk.length ck6] 105))
  have RK := Lib.hid ((hrd.rd (B := w1.heap.size) (fun b h => h.2)).alloc (Nat.le_refl _) (.cells #[.int .i64 g1, .int .i64 g2, .bool g3, .slice A6 gc.length c6, .slice K6 gk.length ck6] 105))
  have hz : (w1.alloc (.cells #[.int .i64 g1, .int .i64 g2, .bool g3, .slice A6 gc.length c6, .slice K6 gk.length ck6] 105)).heap.size = w1.heap.size + 1 := by simp
  clear hnv hb1 DP T0 BE0 hrd
  generalize hg4 : w1.heap.size = b4 at *
  generalize w1.alloc (.cells #[.int .i64 g1, .int .i64 g2, .bool g3, .slice A6 gc.length c6, .slice K6 gk.length ck6] 105) = w2 at *
  clear hg4 w1
  obtain ⟨u0, u1, u2, u3, u4⟩ := cells5 t1
  have DX := Lib.hid (DD.out w2 A6 c6 (RK.out.more (by omega)))
  have w2lo : w.heap.size < w2.heap.size := by omega
  clear t1 DD RK hz
  go_upto_region 3 with (first | (go_at_call 98; go_must (go_fit DX.out); rintro e w3 ⟨rfl, hb3⟩))
  have t3 : (w3.alloc (.cells #[.int .i64 y, .int .i64 m, .int .i64 d, .int .i64 h, .int .i64 mi, .int .i64 s] 28)).heap[w3.heap.size]? = _ := bk_new rfl
  have hs3 := hb3.size
  have T3 := Lib.hid (bk_old (o' := (.cells #[.int .i64 y, .int .i64 m, .int .i64 d, .int .i64 h, .int .i64 mi, .int .i64 s] 28)) (stayK T1.out hb3))
  have BE3 := Lib.hid ((two_belowK BE1.out hb3 BE1.out.size).alloc (by omega) (.cells #[.int .i64 y, .int .i64 m, .int .i64 d, .int .i64 h, .int .i64 mi, .int .i64 s] 28))
  have hz3 : (w3.alloc (.cells #[.int .i64 y, .int .i64 m, .int .i64 d, .int .i64 h, .int .i64 mi, .int .i64 s] 28)).heap.size = w3.heap.size + 1 := by simp
  clear hb3 DX T1 BE1 u0 u1 u2 u3 u4
  generalize hg6 : w3.heap.size = b6 at *
  generalize w3.alloc (.cells #[.int .i64 y, .int .i64 m, .int .i64 d, .int .i64 h, .int .i64 mi, .int .i64 s] 28) = w4 at *
  clear hg6 w3
  have T6 := Lib.hid t3
  have n1 : ¬ b6 = w.heap.size := by omega
  have n2 : ¬ w.heap.size = b6 := by omega
  have w4lo : w.heap.size < w4.heap.size := by omega
  obtain ⟨q0, q1, q2, q3, q4, q5⟩ := cells6 t3
  clear t3 hz3
  go_upto_region 4 with (first | (go_at_call 39; go_must (go_fit (MD.out _)); rintro e w5 ⟨A7, c7, rfl, o7, hb5⟩))
  have HR5 := Lib.hid ((HR.out.below (BE3.out.mono hB)).below (hb5.mono (by omega)))
  have R7 := Lib.hid o7.rd
  have T5 := Lib.hid (stayK T3.out hb5)
  have TB := Lib.hid (stayK T6.out hb5)
  have BE5 := Lib.hid (two_belowK BE3.out hb5 BE3.out.size)
  clear o7 hb5 q0 q1 q2 q3 q4 q5 T3 T6 BE3 MD HR
  have BY := Lib.hid (Cur.bytes_any A7 A L.length c7 n c _ _ w5 R7.out HR5.out)
  obtain ⟨q0, q1, q2, q3, q4, q5⟩ := cells6 TB.out
  obtain ⟨f0, f1, f2, f3, f4, f5⟩ := Clk.free6 T5.out
  obtain ⟨u0, u1, u2, u3, u4, u5⟩ := cells6 T5.out
  by_cases hcd : cd = 0
  · subst hcd
    by_cases hll : L = l
    · have E := Lib.hid (show (if (0 : Int) = 0 ∧ L = l then (Value.tuple #[Clk.time y m d h mi s, .bool true]) else .tuple #[Clk.time 0 0 0 0 0 0, .bool false]) = .tuple #[Clk.time y m d h mi s, .bool true] from if_pos ⟨rfl, hll⟩)
      subst hll
      rw [Cur.eqB_self] at BY
      go_wp2_with fail
      go_must (go_fit BY.out)
      rintro e w6 ⟨rfl, rfl⟩
      go_wp2
      clear q0 q1 q2 q3 q4 q5 f0 f1 f2 f3 f4 f5 u0 u1 u2 u3 u4 u5
      have bel := BE5.out
      have tc := cells6 (Clk.set6 (.int .i64 y) (.int .i64 m) (.int .i64 d) (.int .i64 h) (.int .i64 mi) (.int .i64 s) T5.out)
      refine bodyPost_ret (v := .tuple #[.agg #[.int .i64 y, .int .i64 m, .int .i64 d, .int .i64 h, .int .i64 mi, .int .i64 s], .bool true]) (by simp [results, Try.results41, go_sem, *]) rfl ?_
      exact ⟨rfl, (by repeat' (first | (with_reducible exact Below.refl _ _) | (with_reducible assumption) | (with_reducible refine below_drewN ?_ _) | (with_reducible refine Below.drew ?_) | (with_reducible refine Below.alloc ?_ ?_ _) | (with_reducible refine Below.setCell ?_ ?_ _) | go_size))⟩
    · have hq : Cur.eqB L l = false := by simp [Cur.eqB, hll]
      have E := Lib.hid (show (if (0 : Int) = 0 ∧ L = l then (Value.tuple #[Clk.time y m d h mi s, .bool true]) else .tuple #[Clk.time 0 0 0 0 0 0, .bool false]) = .tuple #[Clk.time 0 0 0 0 0 0, .bool false] from if_neg (fun x => hll x.2))
      rw [hq] at BY
      go_wp2_with fail
      go_must (go_fit BY.out)
      rintro e w6 ⟨rfl, rfl⟩
      go_wp2
      clear q0 q1 q2 q3 q4 q5 f0 f1 f2 f3 f4 f5 u0 u1 u2 u3 u4 u5
      have bel := BE5.out
      have tc := cells6 (Clk.set6 (.int .i64 0) (.int .i64 0) (.int .i64 0) (.int .i64 0) (.int .i64 0) (.int .i64 0) T5.out)
      refine bodyPost_ret (v := .tuple #[.agg #[.int .i64 0, .int .i64 0, .int .i64 0, .int .i64 0, .int .i64 0, .int .i64 0], .bool false]) (by simp [results, Try.results41, go_sem, *]) rfl ?_
      exact ⟨by first | rfl | (rw [E.out]; rfl) | (simp [hll, Clk.time]), (by repeat' (first | (with_reducible exact Below.refl _ _) | (with_reducible assumption) | (with_reducible refine below_drewN ?_ _) | (with_reducible refine Below.drew ?_) | (with_reducible refine Below.alloc ?_ ?_ _) | (with_reducible refine Below.setCell ?_ ?_ _) | go_size))⟩
  · have E := Lib.hid (show (if cd = 0 ∧ L = l then (Value.tuple #[Clk.time y m d h mi s, .bool true]) else .tuple #[Clk.time 0 0 0 0 0 0, .bool false]) = .tuple #[Clk.time 0 0 0 0 0 0, .bool false] from if_neg (fun x => hcd x.1))
    go_wp2
    clear q0 q1 q2 q3 q4 q5 f0 f1 f2 f3 f4 f5 u0 u1 u2 u3 u4 u5
    have bel := BE5.out
    have tc := cells6 (Clk.set6 (.int .i64 0) (.int .i64 0) (.int .i64 0) (.int .i64 0) (.int .i64 0) (.int .i64 0) T5.out)
    refine bodyPost_ret (v := .tuple #[.agg #[.int .i64 0, .int .i64 0, .int .i64 0, .int .i64 0, .int .i64 0, .int .i64 0], .bool false]) (by simp [results, Try.results41, go_sem, *]) rfl ?_
    exact ⟨by first | rfl | (rw [E.out]; rfl) | (simp [hcd, Clk.time]), (by repeat' (first | (with_reducible exact Below.refl _ _) | (with_reducible assumption) | (with_reducible refine below_drewN ?_ _) | (with_reducible refine Below.drew ?_) | (with_reducible refine Below.alloc ?_ ?_ _) | (with_reducible refine Below.setCell ?_ ?_ _) | go_size))⟩

/-- what ParseDate of the reference returns -/
def RefD (w : World) (l : List UInt8) (e : Ending) (w' : World) : Prop :=
  ∃ y m d h mi s b, e = .returned (.tuple #[Clk.time y m d h mi s, .bool b]) ∧ (b = true → Clk.genCode y m d h mi s = 0 ∧ l = dateL y m d h mi s) ∧
    (b = false → (y = 0 ∧ m = 0 ∧ d = 0 ∧ h = 0 ∧ mi = 0 ∧ s = 0) ∧ ∀ y m d h mi s, Clk.genCode y m d h mi s = 0 → l ≠ dateL y m d h mi s) ∧ Below w.heap.size w w'
theorem refpdate_any {A : Option Addr} {n c B : Nat} {l : List UInt8} (w : World) (hr : Rd w B A n l) (hB : B ≤ w.heap.size) (hc : n ≤ c) (hm : c ≤ maxLen) (hn : n ≤ 100000) :
    Calls Try.prog 41 #[.slice A n c] w (RefD w l) := by
  have hl := hr.len
  obtain ⟨k, hk⟩ : ∃ k, (Tree.withinT l 60).1.con = k := ⟨_, rfl⟩
  have hkl : k.length ≤ 100000 := by rw [← hk]; exact Nat.le_trans (Tree.withinT_con l 60).1 (by omega)
  -- a date's encoding has these contents octets
  have back : ∀ y m d h mi s, Clk.genCode y m d h mi s = 0 → l = dateL y m d h mi s → k = Clk.genL y m d h mi s := by
    intro y m d h mi s hg e
    obtain ⟨a1, a2, _⟩ := date_ok hg
    rw [← hk, e, a1, Tree.within_prim 59 a2]
    rfl
  by_cases hok : Clk.okG k
  · obtain ⟨f1, f2⟩ := date_of hok
    refine (refpdate_raw w hr hB hc hm hn hk (fun X A1 c1 h => Clk.refdecGen_ok X h hkl hok)).mono ?_
    rintro e w' ⟨rfl, hb⟩
    by_cases hll : dateL (Clk.yr4 k) (Clk.pr k 4) (Clk.pr k 6) (Clk.pr k 8) (Clk.pr k 10) (Clk.pr k 12) = l
    · rw [if_pos ⟨(date_ok f1).2.2, hll⟩]
      exact ⟨_, _, _, _, _, _, true, rfl, fun _ => ⟨f1, hll.symm⟩, (fun h => by cases h), hb⟩
    · rw [if_neg (fun x => hll x.2)]
      refine ⟨0, 0, 0, 0, 0, 0, false, rfl, (fun h => by cases h), fun _ => ⟨⟨rfl, rfl, rfl, rfl, rfl, rfl⟩, fun y m d h mi s hg e => ?_⟩, hb⟩
      have hkk := back y m d h mi s hg e
      rw [f2, hkk, ← (date_ok hg).1] at hll
      exact hll e.symm
  · refine (refpdate_raw w hr hB hc hm hn hk (fun X A1 c1 h => Clk.refdecGen_no X h hkl hok)).mono ?_
    rintro e w' ⟨rfl, hb⟩
    have h0 : ¬ Clk.genCode 0 0 0 0 0 0 = 0 := by decide
    rw [if_neg (fun x => by have := (date_no h0).2; omega)]
    refine ⟨0, 0, 0, 0, 0, 0, false, rfl, (fun h => by cases h), fun _ => ⟨⟨rfl, rfl, rfl, rfl, rfl, rfl⟩, fun y m d h mi s hg e => ?_⟩, hb⟩
    have hkk := back y m d h mi s hg e
    rw [hkk] at hok
    exact hok (Clk.gen_back hg).1
end Go.Proofs.Ytnpmgofkfdpbjaa.Ent
