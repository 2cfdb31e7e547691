/- Walks: Read and Parse of basic constraints, of the reference. -/
import Derived.Test.YtnpmgofkfdpbjaaKY
import Derived.Test.YtnpmgofkfdpbjaaQBasU
import Derived.Test.YtnpmgofkfdpbjaaKR
set_option linter.unusedSimpArgs false
set_option linter.unusedVariables false
namespace Go.Proofs.Ytnpmgofkfdpbjaa.Bas
open Go.RowKit Kit Tlv

theorem set3' {w : World} {b : Nat} {x0 x1 x2 : Value} {t : TypeId} (y0 y1 y2 : Value) (h : w.heap[b]? = some (.cells #[x0, x1, x2] t (0, 0))) :
    (((w.setCell ⟨b, 0, none⟩ y0).setCell ⟨b, 1, none⟩ y1).setCell ⟨b, 2, none⟩ y2).heap[b]? = some (.cells #[y0, y1, y2] t (0, 0)) :=
  heap_setCell_same _ b 2 _ _ y2 (heap_setCell_same _ b 1 _ _ y1 (heap_setCell_same _ b 0 _ _ y0 h))
theorem free3' {w : World} {b : Nat} {cs : Array Value} {t : TypeId} (h : w.heap[b]? = some (.cells cs t (0, 0))) : w.frozen? ⟨b, 0, none⟩ = false ∧ w.frozen? ⟨b, 1, none⟩ = false ∧ w.frozen? ⟨b, 2, none⟩ = false :=
  ⟨frozen_of_row w b 0 _ _ h, frozen_of_row w b 1 _ _ h, frozen_of_row w b 2 _ _ h⟩
/-- the path's length, out of a node's kids -/
def pathK : List Tree.T → Int
  | _ :: t :: _ => Int4.intV t.con
  | _ => 0

set_option maxRecDepth 100000 in
set_option maxHeartbeats 2000000 in
theorem refread_any {P : Nat → Prop} {v : Value} {g1 g2 : Int} {g3 : Bool} {gc : List UInt8} {gk : List Tree.T} (w : World) (hnv : Tree.NodeR 60 w P v (.mk g1 g2 g3 gc gk)) (hP : ∀ b, P b → b < w.heap.size) (hl : gk.length ≤ 1000000) :
    Calls Try.prog 112 #[v] w fun e w' => e = .returned (.agg #[.bool (decide (0 < gk.length)), .bool (decide (1 < gk.length)), .int .i64 (pathK gk)]) ∧ Below w.heap.size w w' := by
  have HN := Lib.hid hnv
  obtain ⟨A6, c6, K6, ck6, xs, rfl, -, -, -, hcp, hrow⟩ := Tree.NodeR.formX (d := 59) hnv
  have HX := Lib.hid hcp
  have HY := Lib.hid hrow
  clear hnv hcp hrow
  have t1 : ((w.alloc (.cells #[.int .i64 g1, .int .i64 g2, .bool g3, .slice A6 gc.length c6, .slice K6 gk.length ck6] 105)).alloc (.cells #[.bool false, .bool false, .int .i64 0] 50)).heap[w.heap.size]? = _ := bk_old (bk_new rfl)
  have t2 : ((w.alloc (.cells #[.int .i64 g1, .int .i64 g2, .bool g3, .slice A6 gc.length c6, .slice K6 gk.length ck6] 105)).alloc (.cells #[.bool false, .bool false, .int .i64 0] 50)).heap[w.heap.size + 1]? = _ := bk_new (by simp)
  obtain ⟨u0, u1, u2, u3, u4⟩ := cells5 t1
  have T2 := Lib.hid t2
  clear t1 t2
  match gk with
  | [] =>
    simp only [List.length_nil, List.length_cons, Nat.zero_add] at *
    have T3 := Lib.hid (bk_old (o' := (.cells #[.bool false, .bool false, .int .i64 0] 50)) T2.out)
    have t4 : (((w.alloc (.cells #[.int .i64 g1, .int .i64 g2, .bool g3, .slice A6 gc.length c6, .slice K6 (0) ck6] 105)).alloc (.cells #[.bool false, .bool false, .int .i64 0] 50)).alloc (.cells #[.bool false, .bool false, .int .i64 0] 50)).heap[w.heap.size + 1 + 1]? = _ := bk_new (by simp)
    have bel : Below w.heap.size w (((w.alloc (.cells #[.int .i64 g1, .int .i64 g2, .bool g3, .slice A6 gc.length c6, .slice K6 (0) ck6] 105)).alloc (.cells #[.bool false, .bool false, .int .i64 0] 50)).alloc (.cells #[.bool false, .bool false, .int .i64 0] 50)) := (by repeat' (first | (with_reducible exact Below.refl _ _) | (with_reducible assumption) | (with_reducible refine below_drewN ?_ _) | (with_reducible refine Below.drew ?_) | (with_reducible refine Below.alloc ?_ ?_ _) | (with_reducible refine Below.setCell ?_ ?_ _) | go_size))
    go_enter Try.func112, Try.ntmps112
    go_upto_region 4 with fail
    generalize ((w.alloc (.cells #[.int .i64 g1, .int .i64 g2, .bool g3, .slice A6 gc.length c6, .slice K6 (0) ck6] 105)).alloc (.cells #[.bool false, .bool false, .int .i64 0] 50)).alloc (.cells #[.bool false, .bool false, .int .i64 0] 50) = w2 at *
    clear u0 u1 u2 u3 u4 T2
    obtain ⟨q0, q1, q2⟩ := cells3 t4
    obtain ⟨s0, s1, s2⟩ := cells3 T3.out
    obtain ⟨f0, f1, f2⟩ := free3' T3.out
    clear t4
    go_wp2
    clear q0 q1 q2 s0 s1 s2 f0 f1 f2
    have tc := cells3 (set3' (.bool false) (.bool false) (.int .i64 0) T3.out)
    refine bodyPost_ret (v := .agg #[.bool false, .bool false, .int .i64 0]) (by simp [results, Try.results112, go_sem, *]) rfl ?_
    exact ⟨rfl, (by repeat' (first | (with_reducible exact Below.refl _ _) | (with_reducible assumption) | (with_reducible refine below_drewN ?_ _) | (with_reducible refine Below.drew ?_) | (with_reducible refine Below.alloc ?_ ?_ _) | (with_reducible refine Below.setCell ?_ ?_ _) | go_size))⟩
  | [t0] =>
    simp only [List.length_nil, List.length_cons, Nat.zero_add] at *
    have T3 := Lib.hid (bk_old (o' := (.cells #[.bool true, .bool false, .int .i64 0] 50)) T2.out)
    have t4 : (((w.alloc (.cells #[.int .i64 g1, .int .i64 g2, .bool g3, .slice A6 gc.length c6, .slice K6 (1) ck6] 105)).alloc (.cells #[.bool false, .bool false, .int .i64 0] 50)).alloc (.cells #[.bool true, .bool false, .int .i64 0] 50)).heap[w.heap.size + 1 + 1]? = _ := bk_new (by simp)
    have bel : Below w.heap.size w (((w.alloc (.cells #[.int .i64 g1, .int .i64 g2, .bool g3, .slice A6 gc.length c6, .slice K6 (1) ck6] 105)).alloc (.cells #[.bool false, .bool false, .int .i64 0] 50)).alloc (.cells #[.bool true, .bool false, .int .i64 0] 50)) := (by repeat' (first | (with_reducible exact Below.refl _ _) | (with_reducible assumption) | (with_reducible refine below_drewN ?_ _) | (with_reducible refine Below.drew ?_) | (with_reducible refine Below.alloc ?_ ?_ _) | (with_reducible refine Below.setCell ?_ ?_ _) | go_size))
    go_enter Try.func112, Try.ntmps112
    go_upto_region 4 with fail
    generalize ((w.alloc (.cells #[.int .i64 g1, .int .i64 g2, .bool g3, .slice A6 gc.length c6, .slice K6 (1) ck6] 105)).alloc (.cells #[.bool false, .bool false, .int .i64 0] 50)).alloc (.cells #[.bool true, .bool false, .int .i64 0] 50) = w2 at *
    clear u0 u1 u2 u3 u4 T2
    obtain ⟨q0, q1, q2⟩ := cells3 t4
    obtain ⟨s0, s1, s2⟩ := cells3 T3.out
    obtain ⟨f0, f1, f2⟩ := free3' T3.out
    clear t4
    go_wp2
    clear q0 q1 q2 s0 s1 s2 f0 f1 f2
    have tc := cells3 (set3' (.bool true) (.bool false) (.int .i64 0) T3.out)
    refine bodyPost_ret (v := .agg #[.bool true, .bool false, .int .i64 0]) (by simp [results, Try.results112, go_sem, *]) rfl ?_
    exact ⟨rfl, (by repeat' (first | (with_reducible exact Below.refl _ _) | (with_reducible assumption) | (with_reducible refine below_drewN ?_ _) | (with_reducible refine Below.drew ?_) | (with_reducible refine Below.alloc ?_ ?_ _) | (with_reducible refine Below.setCell ?_ ?_ _) | go_size))⟩
  | ka :: kb :: rest =>
    have hk2 : (ka :: kb :: rest).length = rest.length + 2 := rfl
    rw [hk2] at *
    have z1 : decide ((0 : Int) < (rest.length : Int) + 2) = true := by simp only [decide_eq_true_eq]; omega
    have z2 : decide ((1 : Int) < (rest.length : Int) + 2) = true := by simp only [decide_eq_true_eq]; omega
    have z3 : decide (0 < rest.length + 2) = true := by simp
    have z4 : decide (1 < rest.length + 2) = true := by simp
    have z5 : (1 : Int) < (rest.length : Int) + 2 := by omega
    have T3 := Lib.hid (bk_old (o' := (.cells #[.bool true, .bool true, .int .i64 0] 50)) T2.out)
    have t4 : (((w.alloc (.cells #[.int .i64 g1, .int .i64 g2, .bool g3, .slice A6 gc.length c6, .slice K6 (rest.length + 2) ck6] 105)).alloc (.cells #[.bool false, .bool false, .int .i64 0] 50)).alloc (.cells #[.bool true, .bool true, .int .i64 0] 50)).heap[w.heap.size + 1 + 1]? = _ := bk_new (by simp)
    have bel : Below w.heap.size w (((w.alloc (.cells #[.int .i64 g1, .int .i64 g2, .bool g3, .slice A6 gc.length c6, .slice K6 (rest.length + 2) ck6] 105)).alloc (.cells #[.bool false, .bool false, .int .i64 0] 50)).alloc (.cells #[.bool true, .bool true, .int .i64 0] 50)) := (by repeat' (first | (with_reducible exact Below.refl _ _) | (with_reducible assumption) | (with_reducible refine below_drewN ?_ _) | (with_reducible refine Below.drew ?_) | (with_reducible refine Below.alloc ?_ ?_ _) | (with_reducible refine Below.setCell ?_ ?_ _) | go_size))
    have kp : Tree.Keeps P w (((w.alloc (.cells #[.int .i64 g1, .int .i64 g2, .bool g3, .slice A6 gc.length c6, .slice K6 (rest.length + 2) ck6] 105)).alloc (.cells #[.bool false, .bool false, .int .i64 0] 50)).alloc (.cells #[.bool true, .bool true, .int .i64 0] 50)) := Tree.Keeps.below ((by repeat' (first | (with_reducible exact Below.refl _ _) | (with_reducible assumption) | (with_reducible refine below_drewN ?_ _) | (with_reducible refine Below.drew ?_) | (with_reducible refine Below.alloc ?_ ?_ _) | (with_reducible refine Below.setCell ?_ ?_ _) | go_size)) : Below w.heap.size w _) hP
    obtain ⟨g, A1, c1, K2, ck, hK, hg, x0, x1, x2, x3, x4, hrd, -, -⟩ := Tree.kid_at (i := 1) (HX.out.keep kp) (HY.out.imp (fun _ _ h => h.keep kp)) rfl
    subst hK
    go_enter Try.func112, Try.ntmps112
    go_upto_region 3 with fail
    have t1 : (((w.alloc (.cells #[.int .i64 g1, .int .i64 g2, .bool g3, .slice A6 gc.length c6, .slice (some ⟨g, 0, none⟩) (rest.length + 2) ck6] 105)).alloc (.cells #[.bool false, .bool false, .int .i64 0] 50)).alloc (.cells #[.bool true, .bool true, .int .i64 0] 50)).heap[w.heap.size]? = _ := bk_old (bk_old (bk_new rfl))
    have hz : (((w.alloc (.cells #[.int .i64 g1, .int .i64 g2, .bool g3, .slice A6 gc.length c6, .slice (some ⟨g, 0, none⟩) (rest.length + 2) ck6] 105)).alloc (.cells #[.bool false, .bool false, .int .i64 0] 50)).alloc (.cells #[.bool true, .bool true, .int .i64 0] 50)).heap.size = w.heap.size + 3 := by simp
    have hgw := hP g hg
    clear u0 u1 u2 u3 u4 T2 kp HX HY HN
    generalize (((w.alloc (.cells #[.int .i64 g1, .int .i64 g2, .bool g3, .slice A6 gc.length c6, .slice (some ⟨g, 0, none⟩) (rest.length + 2) ck6] 105)).alloc (.cells #[.bool false, .bool false, .int .i64 0] 50)).alloc (.cells #[.bool true, .bool true, .int .i64 0] 50)) = w2 at *
    have R2 := Lib.hid (hrd.rd (B := w2.heap.size) (fun b h => by have := hP b h; omega))
    have RN := Lib.hid (refreadnum_any (k1 := kb.cls) (k2 := kb.num) (k3 := kb.cons) (K := K2) (m := kb.kids.length) (ck := ck) (c := c1) w2 R2.out)
    have T4 := Lib.hid t4
    obtain ⟨u0, u1, u2, u3, u4⟩ := cells5 t1
    clear hrd t4 t1 R2 hz
    simp only [Nat.one_mul, Nat.reduceAdd, Nat.reduceMul] at x0 x1 x2 x3 x4
    go_wp2_with fail
    go_must (go_fit RN.out)
    rintro e w3 ⟨rfl, hb3⟩
    clear x0 x1 x2 x3 x4 u0 u1 u2 u3 u4 RN
    have T5 := Lib.hid (stayK T4.out hb3)
    have T6 := Lib.hid (stayK T3.out hb3)
    have bel3 := two_belowK bel hb3 bel.size
    clear T4 T3 hb3 bel
    obtain ⟨q0, q1, q2⟩ := cells3 T5.out
    obtain ⟨f0, f1, f2⟩ := free3' T5.out
    go_upto_region 4 with fail
    clear q0 q1 q2 f0 f1 f2
    have T7 := Lib.hid (show (w3.setCell ⟨w.heap.size + 1 + 1, 2, none⟩ (.int .i64 (Int4.intV kb.con))).heap[w.heap.size + 1 + 1]? = some (.cells #[.bool true, .bool true, .int .i64 (Int4.intV kb.con)] 50 (0, 0)) from heap_setCell_same _ _ 2 _ _ _ T5.out)
    have T8 := Lib.hid (set_far (k := 2) T6.out (show w.heap.size + 1 ≠ w.heap.size + 1 + 1 by omega) (.int .i64 (Int4.intV kb.con)))
    have bel := bel3.setCell (p := ⟨w.heap.size + 1 + 1, 2, none⟩) (by simp; omega) (.int .i64 (Int4.intV kb.con))
    clear T5 T6 bel3
    generalize w3.setCell ⟨w.heap.size + 1 + 1, 2, none⟩ (.int .i64 (Int4.intV kb.con)) = w4 at *
    obtain ⟨q0, q1, q2⟩ := cells3 T7.out
    obtain ⟨s0, s1, s2⟩ := cells3 T8.out
    obtain ⟨f0, f1, f2⟩ := free3' T8.out
    go_wp2
    clear q0 q1 q2 s0 s1 s2 f0 f1 f2
    have tc := cells3 (set3' (.bool true) (.bool true) (.int .i64 (Int4.intV kb.con)) T8.out)
    refine bodyPost_ret (v := .agg #[.bool true, .bool true, .int .i64 (Int4.intV kb.con)]) (by simp [results, Try.results112, go_sem, *]) rfl ?_
    exact ⟨by first | rfl | (rw [z3, z4]; rfl) | simp [pathK], (by repeat' (first | (with_reducible exact Below.refl _ _) | (with_reducible assumption) | (with_reducible refine below_drewN ?_ _) | (with_reducible refine Below.drew ?_) | (with_reducible refine Below.alloc ?_ ?_ _) | (with_reducible refine Below.setCell ?_ ?_ _) | go_size))⟩

/-- what Parse of the reference returns -/
def RawB (w : World) (l L : List UInt8) (cd : Int) (ca hp : Bool) (p : Int) (e : Ending) (w' : World) : Prop :=
  ∃ a b q ok, e = .returned (.tuple #[.agg #[.bool a, .bool b, .int .i64 q], .bool ok]) ∧ (cd = 0 ∧ L = l ∧ a = ca ∧ b = hp ∧ q = p ∧ ok = true ∨ ¬ (cd = 0 ∧ L = l) ∧ a = false ∧ b = false ∧ q = 0 ∧ ok = false) ∧ Below w.heap.size w w'
set_option maxRecDepth 100000 in
set_option maxHeartbeats 2000000 in
theorem refbparse_raw {A : Option Addr} {n c B : Nat} {l : List UInt8} {ca hp : Bool} {p : Int} (w : World) (hr : Rd w B A n l) (hB : B ≤ w.heap.size) (hc : n ≤ c) (hm : c ≤ maxLen) (hn : n ≤ 100000)
    (h1 : decide (0 < (Tree.withinT l 60).1.kids.length) = ca) (h2 : decide (1 < (Tree.withinT l 60).1.kids.length) = hp) (h3 : pathK (Tree.withinT l 60).1.kids = p) :
    Calls Try.prog 50 #[.slice A n c] w (RawB w l (basL ca hp p) (basC ca hp p) ca hp p) := by
  have hl := hr.len
  have hk := Tree.withinT_klen l 60 (by omega)
  have DP := Lib.hid (fun (X : World) (h : Rd X B A n l) (hB : B ≤ X.heap.size) => Tree.deep_any X h hB hc hm (by omega))
  have HR := Lib.hid hr
  have MD := Lib.hid (fun X => refmarb_any ca hp p X)
  have H1 := Lib.hid h1
  have H2 := Lib.hid h2
  have H3 := Lib.hid h3
  clear hr h1 h2 h3
  generalize Tree.withinT l 60 = q at *
  obtain ⟨⟨g1, g2, g3, gc, gk⟩, qc, qo⟩ := q
  have hkl : gk.length ≤ 1000000 := by have : gk.length ≤ l.length := hk; omega
  have RN := Lib.hid (fun (P : Nat → Prop) (v : Value) (X : World) (h : Tree.NodeR 60 X P v (.mk g1 g2 g3 gc gk)) hP => refread_any X h hP hkl)
  have e1 : decide (0 < gk.length) = ca := H1.out
  have e2 : decide (1 < gk.length) = hp := H2.out
  have e3 : pathK gk = p := H3.out
  rw [e1, e2, e3] at RN
  clear e1 e2 e3 H1 H2 H3 hk hl
  generalize basL ca hp p = L at *
  generalize basC ca hp p = cd at *
  have T0 := Lib.hid (show (w.alloc (.cells #[.bool false, .bool false, .int .i64 0] 50)).heap[w.heap.size]? = _ from bk_new rfl)
  have BE0 := Lib.hid ((Below.refl w.heap.size w).alloc (Nat.le_refl _) (.cells #[.bool false, .bool false, .int .i64 0] 50))
  go_enter Try.func50, Try.ntmps50
  go_upto_region 2 with (first | (go_at_call 97; go_must (refine (DP.out _ (HR.out.alloc hB _) (by simp; omega)).mono ?_); rintro e w1 ⟨v', ok, rfl, hnv, hb1⟩; have HN := Lib.hid hnv; obtain ⟨A6, c6, K6, ck6, rfl, -, -, -⟩ := hnv.formR))
  have t1 : (w1.alloc (.cells #[.int .i64 g1, .int .i64 g2, .bool g3, .slice A6 gc.length c6, .slice K6 gk.length ck6] 105)).heap[w1.heap.size]? = _ := bk_new rfl
  have hs1 := hb1.size
  simp only [World.size_alloc] at hs1
  have T1 := Lib.hid (bk_old (o' := (.cells #[.int .i64 g1, .int .i64 g2, .bool g3, .slice A6 gc.length c6, .slice K6 gk.length ck6] 105)) (stayK T0.out hb1))
  have BE1 := Lib.hid ((BE0.out.trans (hb1.mono (by simp))).alloc (by omega) (.cells #[.int .i64 g1, .int .i64 g2, .bool g3, .slice A6 gc.length c6, .slice K6 gk.length ck6] 105))
  have NV := Lib.hid (HN.out.keep (Tree.Keeps.alloc w1 (.cells #[.int .i64 g1, .int .i64 g2, .bool g3, .slice A6 gc.length c6, .slice K6 gk.length ck6] 105) (fun b h => h.2)))
  have hz : (w1.alloc (.cells #[.int .i64 g1, .int .i64 g2, .bool g3, .slice A6 gc.length c6, .slice K6 gk.length ck6] 105)).heap.size = w1.heap.size + 1 := by simp
  clear hnv hb1 DP T0 BE0 HN
  generalize hg4 : w1.heap.size = b4 at *
  generalize w1.alloc (.cells #[.int .i64 g1, .int .i64 g2, .bool g3, .slice A6 gc.length c6, .slice K6 gk.length ck6] 105) = w2 at *
  clear hg4 w1
  obtain ⟨u0, u1, u2, u3, u4⟩ := cells5 t1
  have DX := Lib.hid (RN.out _ _ w2 NV.out (fun b h => by have := h.2; omega))
  clear t1 RN NV hz
  go_upto_region 3 with (first | (go_at_call 112; go_must (go_fit DX.out); rintro e w3 ⟨rfl, hb3⟩))
  have t3 : (w3.alloc (.cells #[.bool ca, .bool hp, .int .i64 p] 50)).heap[w3.heap.size]? = _ := bk_new rfl
  have T3 := Lib.hid (bk_old (o' := (.cells #[.bool ca, .bool hp, .int .i64 p] 50)) (stayK T1.out hb3))
  have b3 := two_belowK BE1.out hb3 BE1.out.size
  have BE3 := Lib.hid (b3.alloc b3.size (.cells #[.bool ca, .bool hp, .int .i64 p] 50))
  have hlt : w.heap.size < w3.heap.size := Nat.lt_of_lt_of_le (Blk_lt T1.out) hb3.size
  clear hb3 DX T1 BE1 u0 u1 u2 u3 u4 b3
  generalize hg6 : w3.heap.size = b6 at *
  generalize w3.alloc (.cells #[.bool ca, .bool hp, .int .i64 p] 50) = w4 at *
  clear hg6 w3
  have T6 := Lib.hid t3
  have n1 : ¬ b6 = w.heap.size := by omega
  have n2 : ¬ w.heap.size = b6 := by omega
  obtain ⟨q0, q1, q2⟩ := cells3 t3
  clear t3
  go_upto_region 4 with (first | (go_at_call 45; go_must (go_fit (MD.out _)); rintro e w5 ⟨A7, c7, rfl, o7, hb5⟩))
  have BE5 := Lib.hid (two_belowK BE3.out hb5 BE3.out.size)
  have HR5 := Lib.hid (HR.out.below (BE5.out.mono hB))
  have R7 := Lib.hid o7.rd
  have T5 := Lib.hid (stayK T3.out hb5)
  have TB := Lib.hid (stayK T6.out hb5)
  clear o7 hb5 q0 q1 q2 T3 T6 BE3 MD HR
  have BY := Lib.hid (Cur.bytes_any A7 A L.length c7 n c _ _ w5 R7.out HR5.out)
  obtain ⟨q0, q1, q2⟩ := cells3 TB.out
  obtain ⟨f0, f1, f2⟩ := free3' T5.out
  obtain ⟨u0, u1, u2⟩ := cells3 T5.out
  by_cases hcd : cd = 0
  · subst hcd
    by_cases hll : L = l
    · subst hll
      rw [Cur.eqB_self] at BY
      go_wp2_with fail
      go_must (go_fit BY.out)
      rintro e w6 ⟨rfl, rfl⟩
      go_wp2
      clear q0 q1 q2 f0 f1 f2 u0 u1 u2
      have bel := BE5.out
      have tc := cells3 (set3' (.bool ca) (.bool hp) (.int .i64 p) T5.out)
      refine bodyPost_ret (v := .tuple #[.agg #[.bool ca, .bool hp, .int .i64 p], .bool true]) (by simp [results, Try.results50, go_sem, *]) rfl ?_
      exact ⟨ca, hp, p, true, rfl, .inl ⟨rfl, rfl, rfl, rfl, rfl, rfl⟩, (by repeat' (first | (with_reducible exact Below.refl _ _) | (with_reducible assumption) | (with_reducible refine below_drewN ?_ _) | (with_reducible refine Below.drew ?_) | (with_reducible refine Below.alloc ?_ ?_ _) | (with_reducible refine Below.setCell ?_ ?_ _) | go_size))⟩
    · have hq : Cur.eqB L l = false := by simp [Cur.eqB, hll]
      rw [hq] at BY
      go_wp2_with fail
      go_must (go_fit BY.out)
      rintro e w6 ⟨rfl, rfl⟩
      go_wp2
      clear q0 q1 q2 f0 f1 f2 u0 u1 u2
      have bel := BE5.out
      have tc := cells3 (set3' (.bool false) (.bool false) (.int .i64 0) T5.out)
      refine bodyPost_ret (v := .tuple #[.agg #[.bool false, .bool false, .int .i64 0], .bool false]) (by simp [results, Try.results50, go_sem, *]) rfl ?_
      exact ⟨false, false, 0, false, rfl, .inr ⟨fun x => hll x.2, rfl, rfl, rfl, rfl⟩, (by repeat' (first | (with_reducible exact Below.refl _ _) | (with_reducible assumption) | (with_reducible refine below_drewN ?_ _) | (with_reducible refine Below.drew ?_) | (with_reducible refine Below.alloc ?_ ?_ _) | (with_reducible refine Below.setCell ?_ ?_ _) | go_size))⟩
  · go_wp2
    clear q0 q1 q2 f0 f1 f2 u0 u1 u2
    have bel := BE5.out
    have tc := cells3 (set3' (.bool false) (.bool false) (.int .i64 0) T5.out)
    refine bodyPost_ret (v := .tuple #[.agg #[.bool false, .bool false, .int .i64 0], .bool false]) (by simp [results, Try.results50, go_sem, *]) rfl ?_
    exact ⟨false, false, 0, false, rfl, .inr ⟨fun x => hcd x.1, rfl, rfl, rfl, rfl⟩, (by repeat' (first | (with_reducible exact Below.refl _ _) | (with_reducible assumption) | (with_reducible refine below_drewN ?_ _) | (with_reducible refine Below.drew ?_) | (with_reducible refine Below.alloc ?_ ?_ _) | (with_reducible refine Below.setCell ?_ ?_ _) | go_size))⟩

/-- the elements of a record -/
def basPr (ca hp : Bool) (p : Int) : List Tree.Pr := (if ca = true then [(0, 1, [255])] else []) ++ (if hp = true then [(0, 2, Int4.intL p)] else [])
theorem bas_tree {ca hp : Bool} {p : Int} (h : basB ca hp p = true) : (Tree.withinT (basL ca hp p) 60).1.kids = (basPr ca hp p).map Tree.primT := by
  obtain ⟨i1, i2, i3⟩ := basB_iff.1 h
  have hlen := basP_len (ca := ca) (hp := hp) i1
  have hnc : encCode 0 2 (Int4.intL p).length = 0 := nm_code (by omega) (by omega) (int_bd i1)
  have hq : ∀ q, q ∈ basPr ca hp p → encCode q.1 q.2.1 q.2.2.length = 0 := by
    intro q hq
    unfold basPr at hq
    rcases List.mem_append.1 hq with hq | hq <;> split at hq <;> simp at hq
    · subst hq; decide
    · subst hq; exact hnc
  have hcat : Tree.catE ((basPr ca hp p).map Tree.primE) = basP ca hp p := by
    unfold basPr basP
    cases ca <;> cases hp <;> simp [Tree.catE, Tree.primE, nmL, ca_enc.1]
  rw [(bas_yes h).2, ← hcat, Tree.within_seq hq (by rw [hcat]; exact seq_code (by omega))]
  rfl
theorem bas_read {ca hp : Bool} {p : Int} (h : basB ca hp p = true) :
    decide (0 < ((basPr ca hp p).map Tree.primT).length) = ca ∧ decide (1 < ((basPr ca hp p).map Tree.primT).length) = hp ∧ pathK ((basPr ca hp p).map Tree.primT) = p := by
  obtain ⟨i1, i2, i3⟩ := basB_iff.1 h
  have hv := (rd_back i1).2
  cases ca <;> cases hp <;> simp [basPr, pathK, Tree.primT, Tree.T.con] at i2 i3 ⊢
  all_goals first | exact i3.symm | exact hv | skip
theorem bas_inj2 {ca hp ca' hp' : Bool} {p p' : Int} (hv : basB ca hp p = true) (hv' : basB ca' hp' p' = true) (e : basL ca hp p = basL ca' hp' p') : ca = ca' ∧ hp = hp' ∧ p = p' := by
  have t1 := bas_tree hv
  rw [e, bas_tree hv'] at t1
  obtain ⟨a1, a2, a3⟩ := bas_read hv
  obtain ⟨b1, b2, b3⟩ := bas_read hv'
  rw [← t1] at a1 a2 a3
  exact ⟨a1.symm.trans b1, a2.symm.trans b2, a3.symm.trans b3⟩
def RefB (w : World) (l : List UInt8) (e : Ending) (w' : World) : Prop :=
  ∃ a b q ok, e = .returned (.tuple #[.agg #[.bool a, .bool b, .int .i64 q], .bool ok]) ∧ (ok = true → basB a b q = true ∧ l = basL a b q) ∧
    (ok = false → (a = false ∧ b = false ∧ q = 0) ∧ ∀ ca hp p, basB ca hp p = true → l ≠ basL ca hp p) ∧ Below w.heap.size w w'
theorem bas_zero {ca hp : Bool} {p : Int} (h : basC ca hp p = 0) : basB ca hp p = true := by
  cases hb : basB ca hp p with
  | true => rfl
  | false => rw [(bas_no hb).1] at h; omega
theorem refbparse_any {A : Option Addr} {n c B : Nat} {l : List UInt8} (w : World) (hr : Rd w B A n l) (hB : B ≤ w.heap.size) (hc : n ≤ c) (hm : c ≤ maxLen) (hn : n ≤ 100000) :
    Calls Try.prog 50 #[.slice A n c] w (RefB w l) := by
  refine (refbparse_raw w hr hB hc hm hn rfl rfl rfl).mono ?_
  rintro e w' ⟨a, b, q, ok, rfl, h, hb⟩
  rcases h with ⟨h1, h2, rfl, rfl, rfl, rfl⟩ | ⟨h1, rfl, rfl, rfl, rfl⟩
  · exact ⟨_, _, _, true, rfl, fun _ => ⟨bas_zero h1, h2.symm⟩, (fun h => by cases h), hb⟩
  · refine ⟨false, false, 0, false, rfl, (fun h => by cases h), fun _ => ⟨⟨rfl, rfl, rfl⟩, fun ca hp p hv e => h1 ?_⟩, hb⟩
    have e2 := e
    subst e2
    obtain ⟨f1, f2, f3⟩ := bas_read hv
    rw [bas_tree hv, f1, f2, f3]
    exact ⟨(bas_yes hv).1, rfl⟩
end Go.Proofs.Ytnpmgofkfdpbjaa.Bas
