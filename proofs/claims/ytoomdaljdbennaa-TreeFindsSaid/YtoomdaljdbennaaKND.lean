/- Joined texts: SpoC, SpoD. -/
import Derived.Test.YtoomdaljdbennaaQSpoB
import Derived.Test.YtoomdaljdbennaaKY
set_option linter.unusedSimpArgs false
set_option linter.unusedVariables false
/- Walks: whole and Parse of the package tree, Parse of the reference. -/
namespace Go.Proofs.Ytoomdaljdbennaa.Tree
open Go.RowKit Kit Tlv

/-- what whole returns, of a reading -/
def WhoQ (w : World) (q : T × Int × Int) (e : Ending) (w' : World) : Prop :=
  ∃ (x y g1 g2 : Int) (g3 : Bool) (A6 : Option Addr) (m6 c6 : Nat) (K6 : Option Addr) (m7 c7 : Nat) (K7 : Option Addr) (m8 c8 : Nat),
    e = .returned (.tuple #[.agg #[.int .i64 x, .int .i64 y, .int .i64 g1, .int .i64 g2, .bool g3, .slice A6 m6 c6, .slice K6 m7 c7, .slice K7 m8 c8], err q.2.1 q.2.2]) ∧
    (q.2.1 = 0 → SpotR 16 w' (fun b => w.heap.size ≤ b ∧ b < w'.heap.size) (.agg #[.int .i64 x, .int .i64 y, .int .i64 g1, .int .i64 g2, .bool g3, .slice A6 m6 c6, .slice K6 m7 c7, .slice K7 m8 c8]) 0 q.1) ∧ (q.2.1 ≠ 0 → .agg #[.int .i64 x, .int .i64 y, .int .i64 g1, .int .i64 g2, .bool g3, .slice A6 m6 c6, .slice K6 m7 c7, .slice K7 m8 c8] = zeroS ∧ q.1 = T.zero) ∧ Below w.heap.size w w'

set_option maxRecDepth 100000 in
set_option maxHeartbeats 4000000 in
theorem whole_any {A : Option Addr} {n c B : Nat} {l : List UInt8} (w : World) (hr : Rd w B A n l) (hB : B ≤ w.heap.size) (hc : n ≤ c) (hm : c ≤ maxLen) (hn : n ≤ 1000000) :
    Calls Try.prog 28 #[.slice A n c] w (WhoQ w (withinT l 16)) := by
  have hl := hr.len
  have HR := Lib.hid hr
  have RD := Lib.hid (fun (w' : World) (h : Rd w' B A n l) (hB : B ≤ w'.heap.size) => spo_any 16 (by decide) (l := l) (c := c) 0 n w' h hB (Nat.zero_le _) (Nat.le_refl _) hc hm hn)
  have bd := readT_bd 16 l (by omega)
  have szq := read_size 16 l (by omega)
  rw [show ((l.drop 0).take (n - 0)) = l from by rw [List.drop_zero, Nat.sub_zero, ← hl, List.take_length]] at RD
  have W1 := Lib.hid (fun (h : (readT 16 l).code = 0 ∧ (readT 16 l).size < (l.length : Int)) => show withinT l 16 = (T.zero, 2, (readT 16 l).size) from by unfold withinT; rw [if_pos h])
  have W2 := Lib.hid (fun (h : ¬ ((readT 16 l).code = 0 ∧ (readT 16 l).size < (l.length : Int))) => show withinT l 16 = ((readT 16 l).t, (readT 16 l).code, (readT 16 l).off) from by unfold withinT; rw [if_neg h])
  clear hr
  generalize readT 16 l = q at *
  obtain ⟨qt, qs, qc, qo⟩ := q
  simp only [RtOk] at bd W1 W2 szq
  have BD := Lib.hid bd
  have SZ := Lib.hid szq
  clear bd szq
  simp only [Int.ofNat_zero, Int.natCast_zero] at RD
  go_enter Try.func28, Try.ntmps28
  go_upto_region 2 with (first | (go_at_call 36; go_must (refine (RD.out _ ((HR.out.alloc hB _).alloc (by simp; omega) _) (by simp; omega)).mono ?_); rintro e w1 ⟨x, y, g1, g2, g3, A6, m6, c6, K6, m7, c7, K7, m8, c8, qe, rfl, hok, hbad, hb⟩))
  obtain ⟨t2, t5, bel⟩ := box2 hb
  have hs := hb.size
  simp only [World.size_alloc] at hs
  have hqe : qo = qe := by
    by_cases h : qc = 0
    · rw [(hok h).2, (BD.out.1 h).1]
    · have h2 := (hbad h).2
      simp at h2
      omega
  subst hqe
  have hy : qc = 0 → y = qs := by
    intro h
    obtain ⟨A', c', K', ck', S', cs', hev, -⟩ := (hok h).1.form
    simp only [spotV, Value.agg.injEq, Array.mk.injEq, List.cons.injEq, and_true, Value.int.injEq, Value.bool.injEq, Value.slice.injEq, true_and] at hev
    have h1 := hev.2.1
    have h2 := SZ.out h
    simp at h1
    omega
  replace t2 := bk_old (o' := (.cells #[.int .i64 qc, .int .i64 qo] 29)) (bk_old (o' := (.cells #[.int .i64 x, .int .i64 y, .int .i64 g1, .int .i64 g2, .bool g3, .slice A6 m6 c6, .slice K6 m7 c7, .slice K7 m8 c8] 53)) t2)
  replace t5 := bk_old (o' := (.cells #[.int .i64 qc, .int .i64 qo] 29)) (bk_old (o' := (.cells #[.int .i64 x, .int .i64 y, .int .i64 g1, .int .i64 g2, .bool g3, .slice A6 m6 c6, .slice K6 m7 c7, .slice K7 m8 c8] 53)) t5)
  have t6 : ((w1.alloc (.cells #[.int .i64 x, .int .i64 y, .int .i64 g1, .int .i64 g2, .bool g3, .slice A6 m6 c6, .slice K6 m7 c7, .slice K7 m8 c8] 53)).alloc (.cells #[.int .i64 qc, .int .i64 qo] 29)).heap[w1.heap.size]? = _ := bk_old (bk_new rfl)
  have t7 : ((w1.alloc (.cells #[.int .i64 x, .int .i64 y, .int .i64 g1, .int .i64 g2, .bool g3, .slice A6 m6 c6, .slice K6 m7 c7, .slice K7 m8 c8] 53)).alloc (.cells #[.int .i64 qc, .int .i64 qo] 29)).heap[w1.heap.size + 1]? = _ := bk_new (by simp)
  replace bel := (bel.alloc bel.size (.cells #[.int .i64 x, .int .i64 y, .int .i64 g1, .int .i64 g2, .bool g3, .slice A6 m6 c6, .slice K6 m7 c7, .slice K7 m8 c8] 53)).alloc (by simp; have := bel.size; omega) (.cells #[.int .i64 qc, .int .i64 qo] 29)
  have k1 : Keeps (fun b => b < w1.heap.size) w1 ((w1.alloc (.cells #[.int .i64 x, .int .i64 y, .int .i64 g1, .int .i64 g2, .bool g3, .slice A6 m6 c6, .slice K6 m7 c7, .slice K7 m8 c8] 53)).alloc (.cells #[.int .i64 qc, .int .i64 qo] 29)) := Keeps.trans (Keeps.alloc _ _ (fun b h => h)) (Keeps.alloc _ _ (fun b h => by simp; omega))
  have hz : ((w1.alloc (.cells #[.int .i64 x, .int .i64 y, .int .i64 g1, .int .i64 g2, .bool g3, .slice A6 m6 c6, .slice K6 m7 c7, .slice K7 m8 c8] 53)).alloc (.cells #[.int .i64 qc, .int .i64 qo] 29)).heap.size = w1.heap.size + 2 := by simp
  have nv : qc = 0 → SpotR 16 ((w1.alloc (.cells #[.int .i64 x, .int .i64 y, .int .i64 g1, .int .i64 g2, .bool g3, .slice A6 m6 c6, .slice K6 m7 c7, .slice K7 m8 c8] 53)).alloc (.cells #[.int .i64 qc, .int .i64 qo] 29)) (fun b => w.heap.size + 2 ≤ b ∧ b < ((w1.alloc (.cells #[.int .i64 x, .int .i64 y, .int .i64 g1, .int .i64 g2, .bool g3, .slice A6 m6 c6, .slice K6 m7 c7, .slice K7 m8 c8] 53)).alloc (.cells #[.int .i64 qc, .int .i64 qo] 29)).heap.size) (.agg #[.int .i64 x, .int .i64 y, .int .i64 g1, .int .i64 g2, .bool g3, .slice A6 m6 c6, .slice K6 m7 c7, .slice K7 m8 c8]) 0 qt := fun h => (((hok h).1).keep (k1.imp (fun b h => h.2))).mono (fun b h => ⟨by have := h.1; simp at this; omega, by have := h.2; omega⟩)
  replace hbad := fun h => (hbad h).1
  clear hb hok k1
  generalize ((w1.alloc (.cells #[.int .i64 x, .int .i64 y, .int .i64 g1, .int .i64 g2, .bool g3, .slice A6 m6 c6, .slice K6 m7 c7, .slice K7 m8 c8] 53)).alloc (.cells #[.int .i64 qc, .int .i64 qo] 29)) = w2 at *
  have T2 := Lib.hid t2
  have T5 := Lib.hid t5
  have NV := Lib.hid nv
  have BADV := Lib.hid hbad
  have n1 : ¬ w1.heap.size = w.heap.size := by omega
  have n2 : ¬ w1.heap.size = w.heap.size + 1 := by omega
  have n3 : ¬ w.heap.size = w1.heap.size := by omega
  have n4 : ¬ w.heap.size + 1 = w1.heap.size := by omega
  have m1 : ¬ w1.heap.size + 1 = w.heap.size := by omega
  have m2 : ¬ w1.heap.size + 1 = w.heap.size + 1 := by omega
  have m3 : ¬ w.heap.size = w1.heap.size + 1 := by omega
  have m4 : ¬ w.heap.size + 1 = w1.heap.size + 1 := by omega
  generalize hg7 : w1.heap.size + 1 = b7 at *
  generalize hg6 : w1.heap.size = b6 at *
  have n67 : ¬ b6 = b7 := by omega
  have n76 : ¬ b7 = b6 := by omega
  have w2lo : w.heap.size + 2 ≤ w2.heap.size := by omega
  clear hg6 hg7 hz w1
  obtain ⟨q0, q1, q2, q3, q4, q5, q6, q7⟩ := cells8 t2
  obtain ⟨f0, f1, f2, f3, f4, f5, f6, f7⟩ := free8 t2
  obtain ⟨s0, s1⟩ := cells2 t5
  obtain ⟨g0', g1', -, -, -⟩ := free5 t5
  obtain ⟨u0, u1, u2, u3, u4, u5, u6, u7⟩ := cells8 t6
  obtain ⟨v0, v1⟩ := cells2 t7
  clear t2 t5 t6 t7 nv hbad
  by_cases hcut : qc = 0 ∧ qs < (l.length : Int)
  · have WW := Lib.hid (W1.out hcut)
    obtain ⟨rfl, hcut⟩ := hcut
    obtain rfl := hy rfl
    rw [hl] at hcut
    obtain ⟨bo, b2, b3⟩ := BD.out.1 rfl
    clear W1 W2 BD SZ hy
    go_upto_region 3 with fail
    go_region
    all_goals
      go_wp2
      clear q0 q1 q2 q3 q4 q5 q6 q7 f0 f1 f2 f3 f4 f5 f6 f7 s0 s1 g0' g1' u0 u1 u2 u3 u4 u5 u6 u7 v0 v1
      have tc := cells8 (far2 (c := w.heap.size + 1) (set8 (.int .i64 0) (.int .i64 0) (.int .i64 0) (.int .i64 0) (.bool false) (.slice none 0 0) (.slice none 0 0) (.slice none 0 0) T2.out) (by omega) (.int .i64 2) (.int .i64 y))
      have td := cells2 (set2 (.int .i64 2) (.int .i64 y) (far8 (c := w.heap.size) T5.out (by omega) (.int .i64 0) (.int .i64 0) (.int .i64 0) (.int .i64 0) (.bool false) (.slice none 0 0) (.slice none 0 0) (.slice none 0 0)))
      refine bodyPost_ret (v := .tuple #[zeroS, err 2 y]) (by simp [results, Try.results28, go_sem, *]) rfl ?_
      rw [WW.out]
      exact ⟨0, 0, 0, 0, false, none, 0, 0, none, 0, 0, none, 0, 0, rfl, fun h => by simp at h, fun _ => ⟨rfl, rfl⟩, (by repeat' (first | (with_reducible exact Below.refl _ _) | (with_reducible assumption) | (with_reducible refine below_drewN ?_ _) | (with_reducible refine Below.drew ?_) | (with_reducible refine Below.alloc ?_ ?_ _) | (with_reducible refine Below.setCell ?_ ?_ _) | go_size))⟩
  · have WW := Lib.hid (W2.out hcut)
    by_cases hz : qc = 0
    · have hge : ¬ y < (n : Int) := fun h => hcut ⟨hz, by rw [hl, ← hy hz]; exact h⟩
      have NV' := Lib.hid (NV.out hz)
      subst hz
      clear W1 W2 BD SZ hy hcut BADV NV
      go_upto_region 4 with fail
      go_region
      all_goals
        go_wp2
        clear q0 q1 q2 q3 q4 q5 q6 q7 f0 f1 f2 f3 f4 f5 f6 f7 s0 s1 g0' g1' u0 u1 u2 u3 u4 u5 u6 u7 v0 v1
        have tc := cells8 (far2 (c := w.heap.size + 1) (set8 (.int .i64 x) (.int .i64 y) (.int .i64 g1) (.int .i64 g2) (.bool g3) (.slice A6 m6 c6) (.slice K6 m7 c7) (.slice K7 m8 c8) T2.out) (by omega) (.int .i64 0) (.int .i64 qo))
        have td := cells2 (set2 (.int .i64 0) (.int .i64 qo) (far8 (c := w.heap.size) T5.out (by omega) (.int .i64 x) (.int .i64 y) (.int .i64 g1) (.int .i64 g2) (.bool g3) (.slice A6 m6 c6) (.slice K6 m7 c7) (.slice K7 m8 c8)))
        refine bodyPost_ret (v := .tuple #[.agg #[.int .i64 x, .int .i64 y, .int .i64 g1, .int .i64 g2, .bool g3, .slice A6 m6 c6, .slice K6 m7 c7, .slice K7 m8 c8], err 0 qo]) (by simp [results, Try.results28, go_sem, *]) rfl ?_
        rw [WW.out]
        have kk : ∀ X : World, Keeps (fun b => w.heap.size + 2 ≤ b ∧ b < w2.heap.size) w2 X → Below w.heap.size w X → w2.heap.size ≤ X.heap.size → WhoQ w (qt, 0, qo) (.returned (.tuple #[.agg #[.int .i64 x, .int .i64 y, .int .i64 g1, .int .i64 g2, .bool g3, .slice A6 m6 c6, .slice K6 m7 c7, .slice K7 m8 c8], err 0 qo])) X := by
          intro X hX hbX hsX
          exact ⟨x, y, g1, g2, g3, A6, m6, c6, K6, m7, c7, K7, m8, c8, rfl, fun _ => (NV'.out.keep hX).mono (fun b h => ⟨by omega, by omega⟩), fun h => absurd rfl h, hbX⟩
        exact kk _ (by repeat' (first | (with_reducible assumption) | (with_reducible exact Keeps.refl _ _) | (with_reducible refine Keeps.drewN ?_ _) | (with_reducible refine Keeps.drew ?_) | (with_reducible refine Keeps.set ?_ ?_ _) | (intro b hb; simp only [ne_eq]; omega))) (by repeat' (first | (with_reducible exact Below.refl _ _) | (with_reducible assumption) | (with_reducible refine below_drewN ?_ _) | (with_reducible refine Below.drew ?_) | (with_reducible refine Below.alloc ?_ ?_ _) | (with_reducible refine Below.setCell ?_ ?_ _) | go_size)) (by simp)
    · have hbv := BADV.out hz
      have qz := (BD.out.2 hz).1
      simp only [zeroS, Value.agg.injEq, Array.mk.injEq, List.cons.injEq, and_true, Value.int.injEq, Value.bool.injEq, Value.slice.injEq, true_and] at hbv
      obtain ⟨rfl, rfl, rfl, rfl, rfl, ⟨rfl, rfl, rfl⟩, ⟨rfl, rfl, rfl⟩, ⟨rfl, rfl, rfl⟩⟩ := hbv
      clear W1 W2 BD SZ hy hcut BADV NV
      go_upto_region 4 with fail
      go_region
      all_goals
        go_wp2
        clear q0 q1 q2 q3 q4 q5 q6 q7 f0 f1 f2 f3 f4 f5 f6 f7 s0 s1 g0' g1' u0 u1 u2 u3 u4 u5 u6 u7 v0 v1
        have tc := cells8 (far2 (c := w.heap.size + 1) (set8 (.int .i64 0) (.int .i64 0) (.int .i64 0) (.int .i64 0) (.bool false) (.slice none 0 0) (.slice none 0 0) (.slice none 0 0) T2.out) (by omega) (.int .i64 qc) (.int .i64 qo))
        have td := cells2 (set2 (.int .i64 qc) (.int .i64 qo) (far8 (c := w.heap.size) T5.out (by omega) (.int .i64 0) (.int .i64 0) (.int .i64 0) (.int .i64 0) (.bool false) (.slice none 0 0) (.slice none 0 0) (.slice none 0 0)))
        refine bodyPost_ret (v := .tuple #[.agg #[.int .i64 0, .int .i64 0, .int .i64 0, .int .i64 0, .bool false, .slice none 0 0, .slice none 0 0, .slice none 0 0], err qc qo]) (by simp [results, Try.results28, go_sem, *]) rfl ?_
        rw [WW.out]
        rw [qz]
        exact ⟨0, 0, 0, 0, false, none, 0, 0, none, 0, 0, none, 0, 0, rfl, fun h => absurd h hz, fun _ => ⟨rfl, rfl⟩, (by repeat' (first | (with_reducible exact Below.refl _ _) | (with_reducible assumption) | (with_reducible refine below_drewN ?_ _) | (with_reducible refine Below.drew ?_) | (with_reducible refine Below.alloc ?_ ?_ _) | (with_reducible refine Below.setCell ?_ ?_ _) | go_size))⟩

/-- what Parse returns, of a reading -/
def ParQ (d : Nat) (w : World) (q : T × Int × Int) (e : Ending) (w' : World) : Prop :=
  ∃ v, e = .returned (.tuple #[v, err q.2.1 q.2.2]) ∧ NodeR d w' (fun b => w.heap.size ≤ b ∧ b < w'.heap.size) v q.1 ∧ Below w.heap.size w w'


set_option maxRecDepth 100000 in
set_option maxHeartbeats 4000000 in
theorem treeparse_any {A : Option Addr} {n c B : Nat} {l : List UInt8} (w : World) (hr : Rd w B A n l) (hB : B ≤ w.heap.size) (hc : n ≤ c) (hm : c ≤ maxLen) (hn : n ≤ 1000000) :
    Calls Try.prog 11 #[.slice A n c] w (ParQ 16 w (withinT l 16)) := by
  have HR := Lib.hid hr
  have RD := Lib.hid (fun (w' : World) (h : Rd w' B A n l) (hB : B ≤ w'.heap.size) => whole_any w' h hB hc hm hn)
  clear hr
  generalize withinT l 16 = q at *
  obtain ⟨qt, qc, qo⟩ := q
  go_enter Try.func11, Try.ntmps11
  go_upto_region 2 with (first | (go_at_call 28; go_must (refine (RD.out _ ((HR.out.alloc hB _).alloc (by simp; omega) _) (by simp; omega)).mono ?_); rintro e w1 ⟨x, y, g1, g2, g3, A6, m6, c6, K6, m7, c7, K7, m8, c8, rfl, hok, hbad, hb⟩))
  obtain ⟨t2, t5, bel⟩ := box2 hb
  have hs := hb.size
  simp only [World.size_alloc] at hs
  have nv : NodeR 16 w1 (fun b => w.heap.size + 2 ≤ b ∧ b < w1.heap.size) (.agg #[.int .i64 g1, .int .i64 g2, .bool g3, .slice A6 m6 c6, .slice K6 m7 c7]) qt := by
    by_cases h : qc = 0
    · obtain ⟨A', c', K', ck', S', cs', hev, hnv⟩ := (hok h).form
      simp only [spotV, Value.agg.injEq, Array.mk.injEq, List.cons.injEq, and_true, Value.int.injEq, Value.bool.injEq, Value.slice.injEq, true_and] at hev
      obtain ⟨-, -, rfl, rfl, rfl, ⟨rfl, rfl, rfl⟩, ⟨rfl, rfl, rfl⟩, -⟩ := hev
      exact hnv.mono (fun b h => ⟨by have := h.1; simp at this; omega, h.2⟩)
    · obtain ⟨hbv, hqt⟩ := hbad h
      simp only [zeroS, Value.agg.injEq, Array.mk.injEq, List.cons.injEq, and_true, Value.int.injEq, Value.bool.injEq, Value.slice.injEq, true_and] at hbv
      obtain ⟨-, -, rfl, rfl, rfl, ⟨rfl, rfl, rfl⟩, ⟨rfl, rfl, rfl⟩, -⟩ := hbv
      have hqt' : qt = T.zero := hqt
      rw [hqt']
      exact NodeR.zero _ _ _
  replace t2 := bk_old (o' := (.cells #[.int .i64 qc, .int .i64 qo] 29)) (bk_old (o' := (.cells #[.int .i64 x, .int .i64 y, .int .i64 g1, .int .i64 g2, .bool g3, .slice A6 m6 c6, .slice K6 m7 c7, .slice K7 m8 c8] 53)) t2)
  replace t5 := bk_old (o' := (.cells #[.int .i64 qc, .int .i64 qo] 29)) (bk_old (o' := (.cells #[.int .i64 x, .int .i64 y, .int .i64 g1, .int .i64 g2, .bool g3, .slice A6 m6 c6, .slice K6 m7 c7, .slice K7 m8 c8] 53)) t5)
  have t6 : ((w1.alloc (.cells #[.int .i64 x, .int .i64 y, .int .i64 g1, .int .i64 g2, .bool g3, .slice A6 m6 c6, .slice K6 m7 c7, .slice K7 m8 c8] 53)).alloc (.cells #[.int .i64 qc, .int .i64 qo] 29)).heap[w1.heap.size]? = _ := bk_old (bk_new rfl)
  have t7 : ((w1.alloc (.cells #[.int .i64 x, .int .i64 y, .int .i64 g1, .int .i64 g2, .bool g3, .slice A6 m6 c6, .slice K6 m7 c7, .slice K7 m8 c8] 53)).alloc (.cells #[.int .i64 qc, .int .i64 qo] 29)).heap[w1.heap.size + 1]? = _ := bk_new (by simp)
  replace bel := (bel.alloc bel.size (.cells #[.int .i64 x, .int .i64 y, .int .i64 g1, .int .i64 g2, .bool g3, .slice A6 m6 c6, .slice K6 m7 c7, .slice K7 m8 c8] 53)).alloc (by simp; have := bel.size; omega) (.cells #[.int .i64 qc, .int .i64 qo] 29)
  have k1 : Keeps (fun b => b < w1.heap.size) w1 ((w1.alloc (.cells #[.int .i64 x, .int .i64 y, .int .i64 g1, .int .i64 g2, .bool g3, .slice A6 m6 c6, .slice K6 m7 c7, .slice K7 m8 c8] 53)).alloc (.cells #[.int .i64 qc, .int .i64 qo] 29)) := Keeps.trans (Keeps.alloc _ _ (fun b h => h)) (Keeps.alloc _ _ (fun b h => by simp; omega))
  have hz : ((w1.alloc (.cells #[.int .i64 x, .int .i64 y, .int .i64 g1, .int .i64 g2, .bool g3, .slice A6 m6 c6, .slice K6 m7 c7, .slice K7 m8 c8] 53)).alloc (.cells #[.int .i64 qc, .int .i64 qo] 29)).heap.size = w1.heap.size + 2 := by simp
  replace nv : NodeR 16 ((w1.alloc (.cells #[.int .i64 x, .int .i64 y, .int .i64 g1, .int .i64 g2, .bool g3, .slice A6 m6 c6, .slice K6 m7 c7, .slice K7 m8 c8] 53)).alloc (.cells #[.int .i64 qc, .int .i64 qo] 29)) (fun b => w.heap.size + 2 ≤ b ∧ b < ((w1.alloc (.cells #[.int .i64 x, .int .i64 y, .int .i64 g1, .int .i64 g2, .bool g3, .slice A6 m6 c6, .slice K6 m7 c7, .slice K7 m8 c8] 53)).alloc (.cells #[.int .i64 qc, .int .i64 qo] 29)).heap.size) (.agg #[.int .i64 g1, .int .i64 g2, .bool g3, .slice A6 m6 c6, .slice K6 m7 c7]) qt := (nv.keep (k1.imp (fun b h => h.2))).mono (fun b h => ⟨h.1, by have := h.2; omega⟩)
  clear hb hok hbad k1
  generalize ((w1.alloc (.cells #[.int .i64 x, .int .i64 y, .int .i64 g1, .int .i64 g2, .bool g3, .slice A6 m6 c6, .slice K6 m7 c7, .slice K7 m8 c8] 53)).alloc (.cells #[.int .i64 qc, .int .i64 qo] 29)) = w2 at *
  have T2 := Lib.hid t2
  have T5 := Lib.hid t5
  have NV := Lib.hid nv
  have n1 : ¬ w1.heap.size = w.heap.size := by omega
  have n2 : ¬ w1.heap.size = w.heap.size + 1 := by omega
  have n3 : ¬ w.heap.size = w1.heap.size := by omega
  have n4 : ¬ w.heap.size + 1 = w1.heap.size := by omega
  have m1 : ¬ w1.heap.size + 1 = w.heap.size := by omega
  have m2 : ¬ w1.heap.size + 1 = w.heap.size + 1 := by omega
  have m3 : ¬ w.heap.size = w1.heap.size + 1 := by omega
  have m4 : ¬ w.heap.size + 1 = w1.heap.size + 1 := by omega
  generalize hg7 : w1.heap.size + 1 = b7 at *
  generalize hg6 : w1.heap.size = b6 at *
  have n67 : ¬ b6 = b7 := by omega
  have n76 : ¬ b7 = b6 := by omega
  have w2lo : w.heap.size + 2 ≤ w2.heap.size := by omega
  clear hg6 hg7 hz w1
  obtain ⟨q0, q1, q2, q3, q4⟩ := cells5 t2
  obtain ⟨f0, f1, f2, f3, f4⟩ := free5 t2
  obtain ⟨s0, s1⟩ := cells2 t5
  obtain ⟨g0', g1', -, -, -⟩ := free5 t5
  obtain ⟨u0, u1, u2, u3, u4, u5, u6, u7⟩ := cells8 t6
  obtain ⟨v0, v1⟩ := cells2 t7
  clear t2 t5 t6 t7 nv
  go_upto_region 2 with fail
  go_region
  all_goals
    go_wp2
    clear q0 q1 q2 q3 q4 f0 f1 f2 f3 f4 s0 s1 g0' g1' u0 u1 u2 u3 u4 u5 u6 u7 v0 v1
    have tc := cells5 (far2 (c := w.heap.size + 1) (set5 (.int .i64 g1) (.int .i64 g2) (.bool g3) (.slice A6 m6 c6) (.slice K6 m7 c7) T2.out) (by omega) (.int .i64 qc) (.int .i64 qo))
    have td := cells2 (set2 (.int .i64 qc) (.int .i64 qo) (far5 (c := w.heap.size) T5.out (by omega) (.int .i64 g1) (.int .i64 g2) (.bool g3) (.slice A6 m6 c6) (.slice K6 m7 c7)))
    refine bodyPost_ret (v := .tuple #[.agg #[.int .i64 g1, .int .i64 g2, .bool g3, .slice A6 m6 c6, .slice K6 m7 c7], err qc qo]) (by simp [results, Try.results11, go_sem, *]) rfl ?_
    have kk : ∀ X : World, Keeps (fun b => w.heap.size + 2 ≤ b ∧ b < w2.heap.size) w2 X → Below w.heap.size w X → w2.heap.size ≤ X.heap.size → ParQ 16 w (qt, qc, qo) (.returned (.tuple #[.agg #[.int .i64 g1, .int .i64 g2, .bool g3, .slice A6 m6 c6, .slice K6 m7 c7], err qc qo])) X := by
      intro X hX hbX hsX
      exact ⟨_, rfl, (NV.out.keep hX).mono (fun b h => ⟨by omega, by omega⟩), hbX⟩
    exact kk _ (by repeat' (first | (with_reducible assumption) | (with_reducible exact Keeps.refl _ _) | (with_reducible refine Keeps.drewN ?_ _) | (with_reducible refine Keeps.drew ?_) | (with_reducible refine Keeps.set ?_ ?_ _) | (intro b hb; simp only [ne_eq]; omega))) (by repeat' (first | (with_reducible exact Below.refl _ _) | (with_reducible assumption) | (with_reducible refine below_drewN ?_ _) | (with_reducible refine Below.drew ?_) | (with_reducible refine Below.alloc ?_ ?_ _) | (with_reducible refine Below.setCell ?_ ?_ _) | go_size)) (by simp)

set_option maxRecDepth 100000 in
set_option maxHeartbeats 4000000 in
theorem refparse_any {A : Option Addr} {n c B : Nat} {l : List UInt8} (w : World) (hr : Rd w B A n l) (hB : B ≤ w.heap.size) (hc : n ≤ c) (hm : c ≤ maxLen) (hn : n ≤ 1000000) :
    Calls Try.prog 12 #[.slice A n c] w (ParQ 16 w (withinT l 16)) := by
  have HR := Lib.hid hr
  have RD := Lib.hid (fun (w' : World) (h : Rd w' B A n l) (hB : B ≤ w'.heap.size) => within_any 16 (by decide) w' h hB hc hm hn)
  clear hr
  generalize withinT l 16 = q at *
  obtain ⟨⟨g1, g2, g3, gc, gk⟩, qc, qo⟩ := q
  go_enter Try.func12, Try.ntmps12
  go_wp2_with (first | (go_at_call 29; go_must (refine (RD.out _ ((HR.out.alloc hB _).alloc (by simp; omega) _) (by simp; omega)).mono ?_); rintro e w1 ⟨v, rfl, hnv, hb⟩; obtain ⟨A6, c6, K6, ck6, rfl⟩ := hnv.formK; obtain ⟨t2, t5, bel⟩ := box2 hb; have hs := hb.size; simp only [World.size_alloc] at hs; have T2 := Lib.hid t2; have T5 := Lib.hid t5; have NV := Lib.hid hnv; have BE := Lib.hid bel; obtain ⟨q0, q1, q2, q3, q4⟩ := cells5 t2; obtain ⟨f0, f1, f2, f3, f4⟩ := free5 t2; obtain ⟨s0, s1⟩ := cells2 t5; obtain ⟨g0', g1', -, -, -⟩ := free5 t5; clear hb hnv t2 t5 bel))
  clear q0 q1 q2 q3 q4 f0 f1 f2 f3 f4 s0 s1 g0' g1'
  have tc := cells5 (far2 (c := w.heap.size + 1) (set5 (.int .i64 g1) (.int .i64 g2) (.bool g3) (.slice A6 gc.length c6) (.slice K6 gk.length ck6) T2.out) (by omega) (.int .i64 qc) (.int .i64 qo))
  have td := cells2 (set2 (.int .i64 qc) (.int .i64 qo) (far5 (c := w.heap.size) T5.out (by omega) (.int .i64 g1) (.int .i64 g2) (.bool g3) (.slice A6 gc.length c6) (.slice K6 gk.length ck6)))
  refine bodyPost_ret (v := .tuple #[.agg #[.int .i64 g1, .int .i64 g2, .bool g3, .slice A6 gc.length c6, .slice K6 gk.length ck6], err qc qo]) (by simp [results, Try.results12, go_sem, *]) rfl ?_
  have bel := BE.out
  have kk : ∀ X : World, Keeps (fun b => w.heap.size + 2 ≤ b ∧ b < w1.heap.size) w1 X → Below w.heap.size w X → w1.heap.size ≤ X.heap.size → ParQ 16 w (.mk g1 g2 g3 gc gk, qc, qo) (.returned (.tuple #[.agg #[.int .i64 g1, .int .i64 g2, .bool g3, .slice A6 gc.length c6, .slice K6 gk.length ck6], err qc qo])) X := by
    intro X hX hbX hsX
    refine ⟨_, rfl, ((NV.out.mono (P' := fun b => w.heap.size + 2 ≤ b ∧ b < w1.heap.size) (fun b h => ⟨by have := h.1; simp at this; omega, h.2⟩)).keep hX).mono (fun b h => ⟨by omega, by omega⟩), hbX⟩
  exact kk _ (by repeat' (first | (with_reducible assumption) | (with_reducible exact Keeps.refl _ _) | (with_reducible refine Keeps.drewN ?_ _) | (with_reducible refine Keeps.drew ?_) | (with_reducible refine Keeps.set ?_ ?_ _) | (intro b hb; simp only [ne_eq]; omega))) (by repeat' (first | (with_reducible exact Below.refl _ _) | (with_reducible assumption) | (with_reducible refine below_drewN ?_ _) | (with_reducible refine Below.drew ?_) | (with_reducible refine Below.alloc ?_ ?_ _) | (with_reducible refine Below.setCell ?_ ?_ _) | go_size)) (by simp)
end Go.Proofs.Ytoomdaljdbennaa.Tree
/- Walks: Find of the package tree. -/
namespace Go.Proofs.Ytoomdaljdbennaa.Tree
open Go.RowKit Kit Tlv

/-- a slice of numbers in memory -/
def RdI (w : World) (B : Nat) (A : Option Addr) (n : Nat) (xs : List Int) : Prop :=
  xs.length = n ∧ (0 < n → ∃ ad : Addr, A = some ad ∧ ad.block < B ∧ ∀ k, k < n → w.cell? (ad.add k) = some (.int .i64 (xs.getD k 0)))
theorem RdI.below {w w' : World} {B n : Nat} {A : Option Addr} {xs : List Int} (h : RdI w B A n xs) (hb : Below B w w') : RdI w' B A n xs := by
  refine ⟨h.1, fun hn => ?_⟩
  obtain ⟨ad, h1, h2, h3⟩ := h.2 hn
  exact ⟨ad, h1, h2, fun k hk => (hb.cell (by rw [block_add]; exact h2)).trans (h3 k hk)⟩
/-- where a path leads: a range, or an error -/
def findT : Nat → List Int → Nat → T → Int × Int × Int × Int
  | d, [], a, t => (a, (a : Int) + (szT d t : Int), 0, 0)
  | d, i :: is, a, t => if i < 0 ∨ (t.kids.length : Int) ≤ i then (0, 0, 10, a) else findT (d - 1) is (a + hdT (d - 1) t + sumS (szT (d - 1)) (t.kids.take i.toNat)) (t.kids.getD i.toNat T.zero)
def findW (l : List UInt8) (xs : List Int) : Int × Int × Int × Int :=
  if (withinT l 16).2.1 = 0 then findT 16 xs 0 (withinT l 16).1 else (0, 0, (withinT l 16).2.1, (withinT l 16).2.2)
/-- what Find returns -/
def FinP (w : World) (r : Int × Int × Int × Int) (e : Ending) (w' : World) : Prop :=
  e = .returned (.tuple #[.agg #[.int .i64 r.1, .int .i64 r.2.1], err r.2.2.1 r.2.2.2]) ∧ Below w.heap.size w w'
/-- a spot's kid, in memory and a spot by itself -/
theorem spot_kid {d : Nat} {w : World} {P : Nat → Prop} {a : Nat} {t k : T} {i : Nat} {A K S : Option Addr} {c ck cs : Nat} (h : SpotR d w P (spotV a (a + szT d t) t A c K ck S cs) a t) (hi : t.kids[i]? = some k) :
    ∃ (g : Addr) (A1 : Option Addr) (c1 : Nat) (K2 : Option Addr) (ck2 : Nat) (S2 : Option Addr) (cs2 a' e' : Nat), S = some g ∧ P g.block ∧ a' = a + hdT (d - 1) t + sumS (szT (d - 1)) (t.kids.take i) ∧ e' = szT (d - 1) k ∧
      w.cell? (g.add (i * 8)) = some (.int .i64 (a' : Int)) ∧ w.cell? ⟨(g.add (i * 8)).block, (g.add (i * 8)).off + 1, none⟩ = some (.int .i64 ((a' : Int) + (e' : Int))) ∧ w.cell? ⟨(g.add (i * 8)).block, (g.add (i * 8)).off + 2, none⟩ = some (.int .i64 k.cls) ∧
      w.cell? ⟨(g.add (i * 8)).block, (g.add (i * 8)).off + 3, none⟩ = some (.int .i64 k.num) ∧ w.cell? ⟨(g.add (i * 8)).block, (g.add (i * 8)).off + 4, none⟩ = some (.bool k.cons) ∧ w.cell? ⟨(g.add (i * 8)).block, (g.add (i * 8)).off + 5, none⟩ = some (.slice A1 k.con.length c1) ∧
      w.cell? ⟨(g.add (i * 8)).block, (g.add (i * 8)).off + 6, none⟩ = some (.slice K2 k.kids.length ck2) ∧ w.cell? ⟨(g.add (i * 8)).block, (g.add (i * 8)).off + 7, none⟩ = some (.slice S2 k.kids.length cs2) ∧
      SpotR (d - 1) w P (spotV a' (a' + szT (d - 1) k) k A1 c1 K2 ck2 S2 cs2) a' k := by
  cases d with
  | zero =>
    obtain ⟨A', c', K', ck', S', cs', -, hn⟩ := h
    obtain ⟨_, _, _, _, -, -, -, -, hk⟩ := hn
    rw [hk] at hi
    simp at hi
  | succ d =>
    obtain ⟨A', c', K', ck', S', cs', xs, hev, -, hc, hr⟩ := h
    simp only [spotV, Value.agg.injEq, Array.mk.injEq, List.cons.injEq, and_true, Value.int.injEq, Value.bool.injEq, Value.slice.injEq, true_and] at hev
    obtain ⟨⟨rfl, rfl⟩, ⟨rfl, rfl⟩, rfl, rfl⟩ := hev
    obtain ⟨x0, x1, x2, x3, x4, x5, x6, x7, hk, i0, i1, i2, i3, i4, i5, i6, i7⟩ := RowS.at_ hr hi
    simp only [Nat.add_sub_cancel]
    obtain ⟨A1, c1, K2, ck2, S2, cs2, he, hnv⟩ := hk.form
    have hk' := hk
    rw [he] at hk'
    simp only [spotV, Value.agg.injEq, Array.mk.injEq, List.cons.injEq, and_true] at he
    obtain ⟨rfl, rfl, rfl, rfl, rfl, rfl, rfl, rfl⟩ := he
    obtain ⟨g, rfl, hg, c0⟩ := hc _ _ i0
    obtain ⟨g1, e1, -, c1'⟩ := hc _ _ i1
    obtain ⟨g2, e2, -, c2⟩ := hc _ _ i2
    obtain ⟨g3, e3, -, c3⟩ := hc _ _ i3
    obtain ⟨g4, e4, -, c4⟩ := hc _ _ i4
    obtain ⟨g5, e5, -, c5⟩ := hc _ _ i5
    obtain ⟨g6, e6, -, c6⟩ := hc _ _ i6
    obtain ⟨g7, e7, -, c7⟩ := hc _ _ i7
    simp only [Option.some.injEq] at e1 e2 e3 e4 e5 e6 e7
    subst e1 e2 e3 e4 e5 e6 e7
    refine ⟨_, A1, c1, K2, ck2, S2, cs2, _, _, rfl, hg, rfl, rfl, ?_, ?_, ?_, ?_, ?_, ?_, ?_, ?_, ?_⟩
    · exact c0
    · rw [← add_plus _ _ _ (by omega)]; exact c1'
    · rw [← add_plus _ _ _ (by omega)]; exact c2
    · rw [← add_plus _ _ _ (by omega)]; exact c3
    · rw [← add_plus _ _ _ (by omega)]; exact c4
    · rw [← add_plus _ _ _ (by omega)]; exact c5
    · rw [← add_plus _ _ _ (by omega)]; exact c6
    · rw [← add_plus _ _ _ (by omega)]; exact c7
    · exact hk'
theorem findT_off {d : Nat} {i : Int} {is : List Int} {a : Nat} {t : T} (h : i < 0 ∨ (t.kids.length : Int) ≤ i) : findT d (i :: is) a t = (0, 0, 10, (a : Int)) := by
  conv => lhs; unfold findT
  rw [if_pos h]
theorem findT_in {d j : Nat} {is : List Int} {a : Nat} {t k : T} (h : t.kids[j]? = some k) : findT d ((j : Int) :: is) a t = findT (d - 1) is (a + hdT (d - 1) t + sumS (szT (d - 1)) (t.kids.take j)) k := by
  have hj : j < t.kids.length := by
    rcases Nat.lt_or_ge j t.kids.length with g | g
    · exact g
    · rw [List.getElem?_eq_none g] at h; cases h
  conv => lhs; unfold findT
  rw [if_neg (by omega), Int.toNat_natCast, List.getD_eq_getElem?_getD, h]
  rfl

/-- where the loop of Find stands -/
def FinL (w : World) (b6 B : Nat) (A2 : Option Addr) (m : Nat) (xs : List Int) (R : Int × Int × Int × Int) (i : Value) (wr : World) : Prop :=
  ∃ (k d a ez : Nat) (t : T) (A6 : Option Addr) (c6 : Nat) (K6 : Option Addr) (ck6 : Nat) (S6 : Option Addr) (cs6 : Nat), i = .int .i64 (k : Int) ∧ k ≤ m ∧ findT d (xs.drop k) a t = R ∧ szT d t = ez ∧
    wr.heap[b6]? = some (.cells #[.int .i64 (a : Int), .int .i64 ((a : Int) + (ez : Int)), .int .i64 t.cls, .int .i64 t.num, .bool t.cons, .slice A6 t.con.length c6, .slice K6 t.kids.length ck6, .slice S6 t.kids.length cs6] 53 (0, 0)) ∧
    SpotR d wr (fun b => w.heap.size + 2 ≤ b ∧ b < b6) (spotV a (a + szT d t) t A6 c6 K6 ck6 S6 cs6) a t ∧
    wr.heap[w.heap.size]? = some (.cells #[.int .i64 0, .int .i64 0] 47 (0, 0)) ∧ wr.heap[w.heap.size + 1]? = some (.cells #[.int .i64 0, .int .i64 0] 29 (0, 0)) ∧ RdI wr B A2 m xs ∧ Below w.heap.size w wr

set_option maxRecDepth 100000 in
set_option maxHeartbeats 8000000 in
theorem treefind_any {A : Option Addr} {n c B : Nat} {l : List UInt8} {A2 : Option Addr} {m cp : Nat} {xs : List Int} (w : World) (hr : Rd w B A n l) (hi : RdI w B A2 m xs) (hB : B ≤ w.heap.size) (hc : n ≤ c) (hm : c ≤ maxLen) (hn : n ≤ 1000000) (hmm : m ≤ 1000000) :
    Calls Try.prog 26 #[.slice A n c, .slice A2 m cp] w (FinP w (findW l xs)) := by
  have HR := Lib.hid hr
  have HI := Lib.hid hi
  have hxl := hi.1
  have RD := Lib.hid (fun (w' : World) (h : Rd w' B A n l) (hB : B ≤ w'.heap.size) => whole_any w' h hB hc hm hn)
  obtain ⟨R, hR⟩ : ∃ R, findW l xs = R := ⟨_, rfl⟩
  rw [hR]
  unfold findW at hR
  clear hr hi
  generalize withinT l 16 = q at *
  obtain ⟨qt, qc, qo⟩ := q
  simp only [] at hR
  have HRR := Lib.hid hR
  clear hR
  go_enter Try.func26, Try.ntmps26
  go_upto_region 2 with (first | (go_at_call 28; go_must (refine (RD.out _ ((HR.out.alloc hB _).alloc (by simp; omega) _) (by simp; omega)).mono ?_); rintro e w1 ⟨x, y, g1, g2, g3, A6, m6, c6, K6, m7, c7, K7, m8, c8, rfl, hok, hbad, hb⟩))
  obtain ⟨t2, t5, bel⟩ := box2 hb
  have hs := hb.size
  simp only [World.size_alloc] at hs
  replace t2 := bk_old (o' := (.cells #[.int .i64 qc, .int .i64 qo] 29)) (bk_old (o' := (.cells #[.int .i64 x, .int .i64 y, .int .i64 g1, .int .i64 g2, .bool g3, .slice A6 m6 c6, .slice K6 m7 c7, .slice K7 m8 c8] 53)) t2)
  replace t5 := bk_old (o' := (.cells #[.int .i64 qc, .int .i64 qo] 29)) (bk_old (o' := (.cells #[.int .i64 x, .int .i64 y, .int .i64 g1, .int .i64 g2, .bool g3, .slice A6 m6 c6, .slice K6 m7 c7, .slice K7 m8 c8] 53)) t5)
  have t6 : ((w1.alloc (.cells #[.int .i64 x, .int .i64 y, .int .i64 g1, .int .i64 g2, .bool g3, .slice A6 m6 c6, .slice K6 m7 c7, .slice K7 m8 c8] 53)).alloc (.cells #[.int .i64 qc, .int .i64 qo] 29)).heap[w1.heap.size]? = _ := bk_old (bk_new rfl)
  have t7 : ((w1.alloc (.cells #[.int .i64 x, .int .i64 y, .int .i64 g1, .int .i64 g2, .bool g3, .slice A6 m6 c6, .slice K6 m7 c7, .slice K7 m8 c8] 53)).alloc (.cells #[.int .i64 qc, .int .i64 qo] 29)).heap[w1.heap.size + 1]? = _ := bk_new (by simp)
  replace bel := (bel.alloc bel.size (.cells #[.int .i64 x, .int .i64 y, .int .i64 g1, .int .i64 g2, .bool g3, .slice A6 m6 c6, .slice K6 m7 c7, .slice K7 m8 c8] 53)).alloc (by simp; have := bel.size; omega) (.cells #[.int .i64 qc, .int .i64 qo] 29)
  have k1 : Keeps (fun b => b < w1.heap.size) w1 ((w1.alloc (.cells #[.int .i64 x, .int .i64 y, .int .i64 g1, .int .i64 g2, .bool g3, .slice A6 m6 c6, .slice K6 m7 c7, .slice K7 m8 c8] 53)).alloc (.cells #[.int .i64 qc, .int .i64 qo] 29)) := Keeps.trans (Keeps.alloc _ _ (fun b h => h)) (Keeps.alloc _ _ (fun b h => by simp; omega))
  have hz : ((w1.alloc (.cells #[.int .i64 x, .int .i64 y, .int .i64 g1, .int .i64 g2, .bool g3, .slice A6 m6 c6, .slice K6 m7 c7, .slice K7 m8 c8] 53)).alloc (.cells #[.int .i64 qc, .int .i64 qo] 29)).heap.size = w1.heap.size + 2 := by simp
  have nv : qc = 0 → SpotR 16 ((w1.alloc (.cells #[.int .i64 x, .int .i64 y, .int .i64 g1, .int .i64 g2, .bool g3, .slice A6 m6 c6, .slice K6 m7 c7, .slice K7 m8 c8] 53)).alloc (.cells #[.int .i64 qc, .int .i64 qo] 29)) (fun b => w.heap.size + 2 ≤ b ∧ b < w1.heap.size) (.agg #[.int .i64 x, .int .i64 y, .int .i64 g1, .int .i64 g2, .bool g3, .slice A6 m6 c6, .slice K6 m7 c7, .slice K7 m8 c8]) 0 qt := fun h => (((hok h)).keep (k1.imp (fun b h => h.2))).mono (fun b h => ⟨by have := h.1; simp at this; omega, h.2⟩)
  have hi5 := HI.out.below (bel.mono hB)
  clear hb hok hbad k1 RD HI
  generalize ((w1.alloc (.cells #[.int .i64 x, .int .i64 y, .int .i64 g1, .int .i64 g2, .bool g3, .slice A6 m6 c6, .slice K6 m7 c7, .slice K7 m8 c8] 53)).alloc (.cells #[.int .i64 qc, .int .i64 qo] 29)) = w2 at *
  have T2 := Lib.hid t2
  have T5 := Lib.hid t5
  have NV := Lib.hid nv
  have HI := Lib.hid hi5
  have n1 : ¬ w1.heap.size = w.heap.size := by omega
  have n2 : ¬ w1.heap.size = w.heap.size + 1 := by omega
  have n3 : ¬ w.heap.size = w1.heap.size := by omega
  have n4 : ¬ w.heap.size + 1 = w1.heap.size := by omega
  have m1 : ¬ w1.heap.size + 1 = w.heap.size := by omega
  have m2 : ¬ w1.heap.size + 1 = w.heap.size + 1 := by omega
  have m3 : ¬ w.heap.size = w1.heap.size + 1 := by omega
  have m4 : ¬ w.heap.size + 1 = w1.heap.size + 1 := by omega
  generalize hg7 : w1.heap.size + 1 = b7 at *
  generalize hg6 : w1.heap.size = b6 at *
  have n67 : ¬ b6 = b7 := by omega
  have n76 : ¬ b7 = b6 := by omega
  have w2lo : w.heap.size + 2 ≤ w2.heap.size := by omega
  have hb6 : w.heap.size + 2 ≤ b6 := by omega
  have hb6s : b6 < w2.heap.size := by omega
  clear hg6 hg7 hz w1
  have T6 := Lib.hid t6
  obtain ⟨s0, s1⟩ := cells2 t5
  obtain ⟨g0', g1', -, -, -⟩ := free5 t5
  obtain ⟨p0, p1⟩ := cells2 t2
  obtain ⟨h0', h1', -, -, -⟩ := free5 t2
  obtain ⟨v0, v1⟩ := cells2 t7
  clear t2 t5 t6 t7 nv hi5
  by_cases hz : qc = 0
  · have NV' := Lib.hid (NV.out hz)
    subst hz
    obtain ⟨A', c', K', ck', S', cs', hev, -⟩ := NV'.out.form
    simp only [spotV, Value.agg.injEq, Array.mk.injEq, List.cons.injEq, and_true, Value.int.injEq, Value.bool.injEq, Value.slice.injEq, true_and] at hev
    obtain ⟨hx, hy, rfl, rfl, rfl, ⟨rfl, rfl, rfl⟩, ⟨rfl, rfl, rfl⟩, ⟨rfl, rfl, rfl⟩⟩ := hev
    have BE := Lib.hid bel
    have ST : FinL w b6 B A2 m xs R (.int .i64 0) w2 := by
      refine ⟨0, 16, 0, szT 16 qt, qt, A6, c6, K6, c7, K7, c8, rfl, Nat.zero_le _, ?_, rfl, ?_, ?_, T2.out, T5.out, HI.out, BE.out⟩
      · have h := HRR.out
        rw [if_pos rfl] at h
        rw [List.drop_zero]
        exact h
      · have h := T6.out
        rw [hx, hy] at h
        exact h
      · have h := NV'.out
        rw [hx, hy] at h
        exact h
    clear hx hy
    have START := Lib.hid ST
    clear ST NV HRR T6 s0 s1 g0' g1' p0 p1 h0' h1' NV' T2 T5 HI BE bel
    go_wp2
    go_loopw [22] (fun i wr => FinL w b6 B A2 m xs R i wr) (fun i _ => m - (intOf i).toNat)
    case atStart => exact START.out
    case round =>
      obtain ⟨k, d, a, ez, t, A6, c6, K6, ck6, S6, cs6, rfl, hk, hfin, hez, h6, hsp, h2, h5, hri, hb⟩ := hrel
      have FN := Lib.hid hfin
      have EZ := Lib.hid hez
      have T6 := Lib.hid h6
      have T2 := Lib.hid h2
      have T5 := Lib.hid h5
      have RI := Lib.hid hri
      have SPR := Lib.hid hsp
      have BE := Lib.hid hb
      have hb6r : b6 < wr.heap.size := Blk_lt h6
      clear START v0 v1 hfin hez hri hsp
      obtain ⟨u0, u1, u2, u3, u4, u5, u6, u7⟩ := cells8 h6
      obtain ⟨f0, f1, f2, f3, f4, f5, f6, f7⟩ := free8 h6
      obtain ⟨s0, s1⟩ := cells2 h5
      obtain ⟨g0', g1', -, -, -⟩ := free5 h5
      obtain ⟨p0, p1⟩ := cells2 h2
      obtain ⟨h0', h1', -, -, -⟩ := free5 h2
      clear h2 h5 h6 hb
      by_cases hlt : k < m
      · have hkz : (k : Int) < (m : Int) := by omega
        obtain ⟨ad, hA2, had, hcs⟩ := RI.out.2 (by omega)
        subst hA2
        have ck := hcs k hlt
        have hxk : xs.getD k 0 = xs[k]'(by omega) := by rw [List.getD_eq_getElem?_getD, List.getElem?_eq_getElem (by omega)]; rfl
        have DR := Lib.hid (show xs.drop k = xs[k]'(by omega) :: xs.drop (k + 1) from List.drop_eq_getElem_cons (by omega))
        rw [hxk] at ck
        obtain ⟨i, hi⟩ : ∃ i, xs[k]'(by omega) = i := ⟨_, rfl⟩
        rw [hi] at ck
        have HIX := Lib.hid hi
        clear hcs hxk hi
        have hadw : ad.block < wr.heap.size := by omega
        by_cases hneg : i < 0 ∨ (t.kids.length : Int) ≤ i
        · have E := Lib.hid (show (0, 0, 10, (a : Int)) = R from by
            have h := FN.out
            rw [DR.out, HIX.out, findT_off hneg] at h
            exact h)
          have E1 := E.out
          subst E1
          clear FN DR HIX E SPR EZ
          obtain ⟨g1, g2, g3, gc, gk⟩ := t
          simp only [T.cls, T.num, T.cons, T.con, T.kids] at *
          by_cases hi0 : i < 0
          · clear hneg
            go_upto_region 8 with fail
            go_region
            all_goals
              go_wp2
              clear u0 u1 u2 u3 u4 u5 u6 u7 f0 f1 f2 f3 f4 f5 f6 f7 s0 s1 g0' g1' p0 p1 h0' h1' ck
              have tc := cells2 (far2 (c := w.heap.size + 1) (set2 (.int .i64 0) (.int .i64 0) T2.out) (by omega) (.int .i64 10) (.int .i64 (a : Int)))
              have td := cells2 (set2 (.int .i64 10) (.int .i64 (a : Int)) (far2 (c := w.heap.size) T5.out (by omega) (.int .i64 0) (.int .i64 0)))
              refine bodyPost_ret (v := .tuple #[.agg #[.int .i64 0, .int .i64 0], err 10 (a : Int)]) (by simp [results, Try.results26, go_sem, *]) rfl ?_
              have bel := BE.out
              exact ⟨rfl, (by repeat' (first | (with_reducible exact Below.refl _ _) | (with_reducible assumption) | (with_reducible refine below_drewN ?_ _) | (with_reducible refine Below.drew ?_) | (with_reducible refine Below.alloc ?_ ?_ _) | (with_reducible refine Below.setCell ?_ ?_ _) | go_size))⟩
          · have hge : (gk.length : Int) ≤ i := by omega
            clear hneg
            go_upto_region 8 with fail
            go_region
            all_goals
              go_wp2
              clear u0 u1 u2 u3 u4 u5 u6 u7 f0 f1 f2 f3 f4 f5 f6 f7 s0 s1 g0' g1' p0 p1 h0' h1' ck
              have tc := cells2 (far2 (c := w.heap.size + 1) (set2 (.int .i64 0) (.int .i64 0) T2.out) (by omega) (.int .i64 10) (.int .i64 (a : Int)))
              have td := cells2 (set2 (.int .i64 10) (.int .i64 (a : Int)) (far2 (c := w.heap.size) T5.out (by omega) (.int .i64 0) (.int .i64 0)))
              refine bodyPost_ret (v := .tuple #[.agg #[.int .i64 0, .int .i64 0], err 10 (a : Int)]) (by simp [results, Try.results26, go_sem, *]) rfl ?_
              have bel := BE.out
              exact ⟨rfl, (by repeat' (first | (with_reducible exact Below.refl _ _) | (with_reducible assumption) | (with_reducible refine below_drewN ?_ _) | (with_reducible refine Below.drew ?_) | (with_reducible refine Below.alloc ?_ ?_ _) | (with_reducible refine Below.setCell ?_ ?_ _) | go_size))⟩
        · obtain ⟨j, rfl⟩ := Int.eq_ofNat_of_zero_le (show 0 ≤ i by omega)
          have hjl : j < t.kids.length := by omega
          have hjz : (j : Int) < (t.kids.length : Int) := by omega
          have hit : t.kids[j]? = some t.kids[j] := List.getElem?_eq_getElem hjl
          have NEXT := Lib.hid (show findT (d - 1) (xs.drop (k + 1)) (a + hdT (d - 1) t + sumS (szT (d - 1)) (t.kids.take j)) t.kids[j] = R from by
            have h := FN.out
            rw [DR.out, HIX.out, findT_in hit] at h
            exact h)
          obtain ⟨g, A1, c1, K2, ck2, S2, cs2, a', e', hS, hg, ha', he', x0, x1, x2, x3, x4, x5, x6, x7, hsk⟩ := spot_kid SPR.out hit
          rw [← ha'] at NEXT
          subst hS
          have SK := Lib.hid hsk
          have HE := Lib.hid he'
          clear FN DR HIX hneg hsk SPR ha' he' hit EZ
          generalize t.kids[j] = t' at *
          obtain ⟨g1, g2, g3, gc, gk⟩ := t
          obtain ⟨k1, k2, k3, kc, kk⟩ := t'
          simp only [T.cls, T.num, T.cons, T.con, T.kids] at *
          have hgw : g.block < wr.heap.size := by omega
          have hgn : ¬ g.block = b6 := by omega
          have REL : FinL w b6 B (some ad) m xs R (.int .i64 ((k : Int) + 1)) (put8 wr b6 (.int .i64 (a' : Int)) (.int .i64 ((a' : Int) + (e' : Int))) (.int .i64 k1) (.int .i64 k2) (.bool k3) (.slice A1 kc.length c1) (.slice K2 kk.length ck2) (.slice S2 kk.length cs2)) := by
            refine ⟨k + 1, d - 1, a', e', .mk k1 k2 k3 kc kk, A1, c1, K2, ck2, S2, cs2, by rw [Int.natCast_add]; rfl, by omega, NEXT.out, HE.out.symm, set8 (.int .i64 (a' : Int)) (.int .i64 ((a' : Int) + (e' : Int))) (.int .i64 k1) (.int .i64 k2) (.bool k3) (.slice A1 kc.length c1) (.slice K2 kk.length ck2) (.slice S2 kk.length cs2) T6.out, ?_, far8 T2.out (by omega) (.int .i64 (a' : Int)) (.int .i64 ((a' : Int) + (e' : Int))) (.int .i64 k1) (.int .i64 k2) (.bool k3) (.slice A1 kc.length c1) (.slice K2 kk.length ck2) (.slice S2 kk.length cs2), far8 T5.out (by omega) (.int .i64 (a' : Int)) (.int .i64 ((a' : Int) + (e' : Int))) (.int .i64 k1) (.int .i64 k2) (.bool k3) (.slice A1 kc.length c1) (.slice K2 kk.length ck2) (.slice S2 kk.length cs2), RI.out.below ?_, ?_⟩
            · exact SK.out.keep (by repeat' (first | (with_reducible assumption) | (with_reducible exact Keeps.refl _ _) | (with_reducible refine Keeps.drewN ?_ _) | (with_reducible refine Keeps.drew ?_) | (with_reducible refine Keeps.set ?_ ?_ _) | (intro b hb; simp only [ne_eq]; omega)))
            · have bel := Below.refl B wr
              exact (by repeat' (first | (with_reducible exact Below.refl _ _) | (with_reducible assumption) | (with_reducible refine below_drewN ?_ _) | (with_reducible refine Below.drew ?_) | (with_reducible refine Below.alloc ?_ ?_ _) | (with_reducible refine Below.setCell ?_ ?_ _) | go_size))
            · have bel := BE.out
              exact (by repeat' (first | (with_reducible exact Below.refl _ _) | (with_reducible assumption) | (with_reducible refine below_drewN ?_ _) | (with_reducible refine Below.drew ?_) | (with_reducible refine Below.alloc ?_ ?_ _) | (with_reducible refine Below.setCell ?_ ?_ _) | go_size))
          have RL := Lib.hid REL
          clear REL SK NEXT HE T2 T5 T6 RI BE s0 s1 g0' g1' p0 p1 h0' h1'
          go_wp2
          go_roundw
          case rel => exact RL.out
          case measure => simp [intOf]; omega
      · obtain rfl : k = m := by omega
        have E := FN.out
        rw [← hxl, List.drop_length] at E
        simp only [findT] at E
        rw [EZ.out] at E
        subst E
        clear FN EZ SPR
        obtain ⟨g1, g2, g3, gc, gk⟩ := t
        simp only [T.cls, T.num, T.cons, T.con, T.kids] at *
        go_wp2
        clear u0 u1 u2 u3 u4 u5 u6 u7 f0 f1 f2 f3 f4 f5 f6 f7 s0 s1 g0' g1' p0 p1 h0' h1'
        have tc := cells2 (far2 (c := w.heap.size + 1) (set2 (.int .i64 (a : Int)) (.int .i64 ((a : Int) + (ez : Int))) T2.out) (by omega) (.int .i64 0) (.int .i64 0))
        have td := cells2 (set2 (.int .i64 0) (.int .i64 0) (far2 (c := w.heap.size) T5.out (by omega) (.int .i64 (a : Int)) (.int .i64 ((a : Int) + (ez : Int)))))
        refine bodyPost_ret (v := .tuple #[.agg #[.int .i64 (a : Int), .int .i64 ((a : Int) + (ez : Int))], err 0 0]) (by simp [results, Try.results26, go_sem, *]) rfl ?_
        have bel := BE.out
        exact ⟨rfl, (by repeat' (first | (with_reducible exact Below.refl _ _) | (with_reducible assumption) | (with_reducible refine below_drewN ?_ _) | (with_reducible refine Below.drew ?_) | (with_reducible refine Below.alloc ?_ ?_ _) | (with_reducible refine Below.setCell ?_ ?_ _) | go_size))⟩
  · have E := HRR.out
    rw [if_neg hz] at E
    subst E
    clear HRR NV T6
    go_upto_region 3 with fail
    go_region
    all_goals
      go_wp2
      clear s0 s1 g0' g1' p0 p1 h0' h1' v0 v1
      have tc := cells2 (far2 (c := w.heap.size + 1) (set2 (.int .i64 0) (.int .i64 0) T2.out) (by omega) (.int .i64 qc) (.int .i64 qo))
      have td := cells2 (set2 (.int .i64 qc) (.int .i64 qo) (far2 (c := w.heap.size) T5.out (by omega) (.int .i64 0) (.int .i64 0)))
      refine bodyPost_ret (v := .tuple #[.agg #[.int .i64 0, .int .i64 0], err qc qo]) (by simp [results, Try.results26, go_sem, *]) rfl ?_
      exact ⟨rfl, (by repeat' (first | (with_reducible exact Below.refl _ _) | (with_reducible assumption) | (with_reducible refine below_drewN ?_ _) | (with_reducible refine Below.drew ?_) | (with_reducible refine Below.alloc ?_ ?_ _) | (with_reducible refine Below.setCell ?_ ?_ _) | go_size))⟩
end Go.Proofs.Ytoomdaljdbennaa.Tree
