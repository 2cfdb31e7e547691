/- Walks: ReadSkip of the reference. -/
import Derived.Test.YtnpmgofkfdpbjaaKY
import Derived.Test.YtnpmgofkfdpbjaaQBasU
import Derived.Test.YtnpmgofkfdpbjaaKR
set_option linter.unusedSimpArgs false
set_option linter.unusedVariables false
namespace Go.Proofs.Ytnpmgofkfdpbjaa.Bas
open Go.RowKit Kit Tlv

/-- policy constraints as read so far -/
structure Sk where
  hr : Bool
  r : Int
  hi : Bool
  i : Int
def skStep (s : Sk) (t : Tree.T) : Sk := if t.num = 0 then ⟨true, Int4.intV t.con, s.hi, s.i⟩ else ⟨s.hr, s.r, true, Int4.intV t.con⟩
def skRead (ks : List Tree.T) : Sk := ks.foldl skStep ⟨false, 0, false, 0⟩
theorem skRead_more {ks : List Tree.T} {k : Nat} {t : Tree.T} (h : ks[k]? = some t) : skRead (ks.take (k + 1)) = skStep (skRead (ks.take k)) t := by
  unfold skRead
  rw [List.take_add_one, h, List.foldl_append]
  rfl
def skCells (s : Sk) : Obj := .cells #[.bool s.hr, .int .i64 s.r, .bool s.hi, .int .i64 s.i] 71 (0, 0)
theorem set4' {w : World} {b : Nat} {x0 x1 x2 x3 : Value} {t : TypeId} (y0 y1 y2 y3 : Value) (h : w.heap[b]? = some (.cells #[x0, x1, x2, x3] t (0, 0))) :
    ((((w.setCell ⟨b, 0, none⟩ y0).setCell ⟨b, 1, none⟩ y1).setCell ⟨b, 2, none⟩ y2).setCell ⟨b, 3, none⟩ y3).heap[b]? = some (.cells #[y0, y1, y2, y3] t (0, 0)) :=
  heap_setCell_same _ b 3 _ _ y3 (heap_setCell_same _ b 2 _ _ y2 (heap_setCell_same _ b 1 _ _ y1 (heap_setCell_same _ b 0 _ _ y0 h)))
theorem free4' {w : World} {b : Nat} {cs : Array Value} {t : TypeId} (h : w.heap[b]? = some (.cells cs t (0, 0))) : w.frozen? ⟨b, 0, none⟩ = false ∧ w.frozen? ⟨b, 1, none⟩ = false ∧ w.frozen? ⟨b, 2, none⟩ = false ∧ w.frozen? ⟨b, 3, none⟩ = false :=
  ⟨frozen_of_row w b 0 _ _ h, frozen_of_row w b 1 _ _ h, frozen_of_row w b 2 _ _ h, frozen_of_row w b 3 _ _ h⟩
/-- where the loop of ReadSkip stands -/
def SkL (w : World) (g1 g2 : Int) (g3 : Bool) (A6 : Option Addr) (n6 c6 : Nat) (K6 : Option Addr) (ck6 : Nat) (gk : List Tree.T) (i : Value) (wr : World) : Prop :=
  ∃ k : Nat, i = .int .i64 (k : Int) ∧ k ≤ gk.length ∧ wr.heap[w.heap.size]? = some (.cells #[.int .i64 g1, .int .i64 g2, .bool g3, .slice A6 n6 c6, .slice K6 gk.length ck6] 105 (0, 0)) ∧
    wr.heap[w.heap.size + 1]? = some (.cells #[.bool false, .int .i64 0, .bool false, .int .i64 0] 71 (0, 0)) ∧
    wr.heap[w.heap.size + 1 + 1]? = some (skCells (skRead (gk.take k))) ∧ Below w.heap.size w wr

set_option maxRecDepth 100000 in
set_option maxHeartbeats 4000000 in
theorem refreads_any {P : Nat → Prop} {v : Value} {g1 g2 : Int} {g3 : Bool} {gc : List UInt8} {gk : List Tree.T} (w : World) (hnv : Tree.NodeR 60 w P v (.mk g1 g2 g3 gc gk)) (hP : ∀ b, P b → b < w.heap.size) (hl : gk.length ≤ 1000000) :
    Calls Try.prog 121 #[v] w fun e w' => e = .returned (skV (skRead gk).hr (skRead gk).r (skRead gk).hi (skRead gk).i) ∧ Below w.heap.size w w' := by
  obtain ⟨A6, c6, K6, ck6, xs, rfl, -, -, -, hcp, hrow⟩ := Tree.NodeR.formX (d := 59) hnv
  have HX := Lib.hid hcp
  have HY := Lib.hid hrow
  clear hnv hcp hrow
  go_enter Try.func121, Try.ntmps121
  go_wp2
  go_loopw [4] (fun i wr => SkL w g1 g2 g3 A6 gc.length c6 K6 ck6 gk i wr) (fun i _ => gk.length - (intOf i).toNat)
  case atStart =>
    exact ⟨0, rfl, Nat.zero_le _, bk_old (bk_old (bk_new rfl)), bk_old (bk_new (by simp)), bk_new (by simp), (by repeat' (first | (with_reducible exact Below.refl _ _) | (with_reducible assumption) | (with_reducible refine below_drewN ?_ _) | (with_reducible refine Below.drew ?_) | (with_reducible refine Below.alloc ?_ ?_ _) | (with_reducible refine Below.setCell ?_ ?_ _) | go_size))⟩
  case round =>
    obtain ⟨k, rfl, hk, h1, h2, h3, hb⟩ := hrel
    have T1 := Lib.hid h1
    have T2 := Lib.hid h2
    have T3 := Lib.hid h3
    have BE := Lib.hid hb
    clear h1 h2 h3 hb
    obtain ⟨u0, u1, u2, u3, u4⟩ := cells5 T1.out
    by_cases hlt : k < gk.length
    · have hkz : (k : Int) < (gk.length : Int) := by omega
      have hit : gk[k]? = some gk[k] := List.getElem?_eq_getElem hlt
      obtain ⟨g, A1, c1, K2, ck, hK, hg, x0, x1, x2, x3, x4, hrd, -, -⟩ := Tree.kid_at (HX.out.keep (Tree.Keeps.below BE.out hP)) (HY.out.imp (fun _ _ h => h.keep (Tree.Keeps.below BE.out hP))) hit
      subst hK
      have ST := Lib.hid (skRead_more hit)
      have HIT := Lib.hid hit
      generalize gk[k] = t at *
      obtain ⟨t1, t2, t3, tc, tk⟩ := t
      simp only [Tree.T.cls, Tree.T.num, Tree.T.cons, Tree.T.con, Tree.T.kids] at x0 x1 x2 x3 x4 hrd
      have hgw := hP g hg
      generalize hs0 : skRead (gk.take k) = s0 at *
      obtain ⟨a, r, b, i⟩ := s0
      clear hs0 hit
      have T3' : wr.heap[w.heap.size + 1 + 1]? = some (.cells #[.bool a, .int .i64 r, .bool b, .int .i64 i] 71 (0, 0)) := T3.out
      obtain ⟨q0, q1, q2, q3⟩ := cells4 T3'
      obtain ⟨f0, f1, f2, f3⟩ := free4' T3'
      by_cases hz : t2 = 0
      · subst hz
        have kk : Tree.Keeps P wr (wr.setCell ⟨w.heap.size + 1 + 1, 0, none⟩ (.bool true)) := (Tree.Keeps.refl _ _).set (fun b hb => by have := hP b hb; simp only [ne_eq]; omega) _
        have t1' := set_far (k := 0) T1.out (show w.heap.size ≠ w.heap.size + 1 + 1 by omega) (.bool true)
        have t2' := set_far (k := 0) T2.out (show w.heap.size + 1 ≠ w.heap.size + 1 + 1 by omega) (.bool true)
        have t3' : (wr.setCell ⟨w.heap.size + 1 + 1, 0, none⟩ (.bool true)).heap[w.heap.size + 1 + 1]? = some (.cells #[.bool true, .int .i64 r, .bool b, .int .i64 i] 71 (0, 0)) := heap_setCell_same _ _ 0 _ _ _ T3'
        have bel' := BE.out.setCell (p := ⟨w.heap.size + 1 + 1, 0, none⟩) (by simp; omega) (.bool true)
        obtain ⟨g', A1', c1', K2', ck', hK', hg', x0', x1', x2', x3', x4', hrd', -, -⟩ := Tree.kid_at ((HX.out.keep (Tree.Keeps.below BE.out hP)).keep kk) ((HY.out.imp (fun _ _ h => h.keep (Tree.Keeps.below BE.out hP))).imp (fun _ _ h => h.keep kk)) HIT.out
        injection hK' with hK'
        injection hK' with hK'
        subst hK'
        simp only [Tree.T.cls, Tree.T.num, Tree.T.cons, Tree.T.con, Tree.T.kids] at x0' x1' x2' x3' x4' hrd'
        go_upto_region 7 with fail
        clear x0 x1 x2 x3 x4 u0 u1 u2 u3 u4 q0 q1 q2 q3 f0 f1 f2 f3 T1 T2 T3 BE T3' kk hrd
        generalize wr.setCell ⟨w.heap.size + 1 + 1, 0, none⟩ (.bool true) = w2 at *
        have RX := Lib.hid (refreadnum_any (k1 := t1) (k2 := 0) (k3 := t3) (K := K2') (m := tk.length) (ck := ck') (c := c1') w2 (hrd'.rd (fun b hb => by have := hP b hb; have := bel'.size; omega)))
        have U1 := Lib.hid t1'
        have U2 := Lib.hid t2'
        have U3 := Lib.hid t3'
        have BE := Lib.hid bel'
        obtain ⟨u0, u1, u2, u3, u4⟩ := cells5 t1'
        clear hrd' t1' t2' t3' bel'
        go_wp2_with fail
        go_must (go_fit RX.out)
        rintro e w3 ⟨rfl, hb3⟩
        have V1 := Lib.hid (stayK U1.out hb3)
        have V2 := Lib.hid (stayK U2.out hb3)
        have V3 := Lib.hid (stayK U3.out hb3)
        have BE3 := Lib.hid (two_belowK BE.out hb3 BE.out.size)
        clear hb3 RX U1 U2 U3 BE u0 u1 u2 u3 u4 x0' x1' x2' x3' x4'
        obtain ⟨q0, q1, q2, q3⟩ := cells4 V3.out
        obtain ⟨f0, f1, f2, f3⟩ := free4' V3.out
        have REL : SkL w g1 g2 g3 A6 gc.length c6 (some ⟨g, 0, none⟩) ck6 gk (.int .i64 ((k : Int) + 1)) (w3.setCell ⟨w.heap.size + 1 + 1, 1, none⟩ (.int .i64 (Int4.intV tc))) :=
          ⟨k + 1, by rw [Int.natCast_add]; rfl, by omega, set_far (k := 1) V1.out (show w.heap.size ≠ w.heap.size + 1 + 1 by omega) _, set_far (k := 1) V2.out (show w.heap.size + 1 ≠ w.heap.size + 1 + 1 by omega) _, by rw [ST.out, show skStep ⟨a, r, b, i⟩ (.mk t1 0 t3 tc tk) = ⟨true, Int4.intV tc, b, i⟩ from if_pos rfl]; exact heap_setCell_same _ _ 1 _ _ _ V3.out, BE3.out.setCell (p := ⟨w.heap.size + 1 + 1, 1, none⟩) (by simp; omega) _⟩
        have RL := Lib.hid REL
        clear REL
        go_wp2
        go_roundw
        case rel => exact RL.out
        case measure => simp [intOf]; omega
      · have kk : Tree.Keeps P wr (wr.setCell ⟨w.heap.size + 1 + 1, 2, none⟩ (.bool true)) := (Tree.Keeps.refl _ _).set (fun b hb => by have := hP b hb; simp only [ne_eq]; omega) _
        have t1' := set_far (k := 2) T1.out (show w.heap.size ≠ w.heap.size + 1 + 1 by omega) (.bool true)
        have t2' := set_far (k := 2) T2.out (show w.heap.size + 1 ≠ w.heap.size + 1 + 1 by omega) (.bool true)
        have t3' : (wr.setCell ⟨w.heap.size + 1 + 1, 2, none⟩ (.bool true)).heap[w.heap.size + 1 + 1]? = some (.cells #[.bool a, .int .i64 r, .bool true, .int .i64 i] 71 (0, 0)) := heap_setCell_same _ _ 2 _ _ _ T3'
        have bel' := BE.out.setCell (p := ⟨w.heap.size + 1 + 1, 2, none⟩) (by simp; omega) (.bool true)
        obtain ⟨g', A1', c1', K2', ck', hK', hg', x0', x1', x2', x3', x4', hrd', -, -⟩ := Tree.kid_at ((HX.out.keep (Tree.Keeps.below BE.out hP)).keep kk) ((HY.out.imp (fun _ _ h => h.keep (Tree.Keeps.below BE.out hP))).imp (fun _ _ h => h.keep kk)) HIT.out
        injection hK' with hK'
        injection hK' with hK'
        subst hK'
        simp only [Tree.T.cls, Tree.T.num, Tree.T.cons, Tree.T.con, Tree.T.kids] at x0' x1' x2' x3' x4' hrd'
        go_upto_region 9 with fail
        clear x0 x1 x2 x3 x4 u0 u1 u2 u3 u4 q0 q1 q2 q3 f0 f1 f2 f3 T1 T2 T3 BE T3' kk hrd
        generalize wr.setCell ⟨w.heap.size + 1 + 1, 2, none⟩ (.bool true) = w2 at *
        have RX := Lib.hid (refreadnum_any (k1 := t1) (k2 := t2) (k3 := t3) (K := K2') (m := tk.length) (ck := ck') (c := c1') w2 (hrd'.rd (fun b hb => by have := hP b hb; have := bel'.size; omega)))
        have U1 := Lib.hid t1'
        have U2 := Lib.hid t2'
        have U3 := Lib.hid t3'
        have BE := Lib.hid bel'
        obtain ⟨u0, u1, u2, u3, u4⟩ := cells5 t1'
        clear hrd' t1' t2' t3' bel'
        go_wp2_with fail
        go_must (go_fit RX.out)
        rintro e w3 ⟨rfl, hb3⟩
        have V1 := Lib.hid (stayK U1.out hb3)
        have V2 := Lib.hid (stayK U2.out hb3)
        have V3 := Lib.hid (stayK U3.out hb3)
        have BE3 := Lib.hid (two_belowK BE.out hb3 BE.out.size)
        clear hb3 RX U1 U2 U3 BE u0 u1 u2 u3 u4 x0' x1' x2' x3' x4'
        obtain ⟨q0, q1, q2, q3⟩ := cells4 V3.out
        obtain ⟨f0, f1, f2, f3⟩ := free4' V3.out
        have REL : SkL w g1 g2 g3 A6 gc.length c6 (some ⟨g, 0, none⟩) ck6 gk (.int .i64 ((k : Int) + 1)) (w3.setCell ⟨w.heap.size + 1 + 1, 3, none⟩ (.int .i64 (Int4.intV tc))) :=
          ⟨k + 1, by rw [Int.natCast_add]; rfl, by omega, set_far (k := 3) V1.out (show w.heap.size ≠ w.heap.size + 1 + 1 by omega) _, set_far (k := 3) V2.out (show w.heap.size + 1 ≠ w.heap.size + 1 + 1 by omega) _, by rw [ST.out, show skStep ⟨a, r, b, i⟩ (.mk t1 t2 t3 tc tk) = ⟨a, r, true, Int4.intV tc⟩ from if_neg hz]; exact heap_setCell_same _ _ 3 _ _ _ V3.out, BE3.out.setCell (p := ⟨w.heap.size + 1 + 1, 3, none⟩) (by simp; omega) _⟩
        have RL := Lib.hid REL
        clear REL
        go_wp2
        go_roundw
        case rel => exact RL.out
        case measure => simp [intOf]; omega
    · obtain rfl : k = gk.length := by omega
      rw [List.take_length] at T3
      generalize hs : skRead gk = s0 at *
      have HS := Lib.hid hs
      clear hs
      obtain ⟨a, r, b, i⟩ := s0
      have T3' : wr.heap[w.heap.size + 1 + 1]? = some (.cells #[.bool a, .int .i64 r, .bool b, .int .i64 i] 71 (0, 0)) := T3.out
      obtain ⟨q0, q1, q2, q3⟩ := cells4 T3'
      obtain ⟨v0, v1, v2, v3⟩ := cells4 T2.out
      obtain ⟨f0, f1, f2, f3⟩ := free4' T2.out
      clear T3' HX HY
      go_wp2
      clear q0 q1 q2 q3 v0 v1 v2 v3 f0 f1 f2 f3 u0 u1 u2 u3 u4
      have bel := BE.out
      have tc := cells4 (set4' (.bool a) (.int .i64 r) (.bool b) (.int .i64 i) T2.out)
      refine bodyPost_ret (v := .agg #[.bool a, .int .i64 r, .bool b, .int .i64 i]) (by simp [results, Try.results121, go_sem, *]) rfl ?_
      exact ⟨by rw [HS.out], (by repeat' (first | (with_reducible exact Below.refl _ _) | (with_reducible assumption) | (with_reducible refine below_drewN ?_ _) | (with_reducible refine Below.drew ?_) | (with_reducible refine Below.alloc ?_ ?_ _) | (with_reducible refine Below.setCell ?_ ?_ _) | go_size))⟩
end Go.Proofs.Ytnpmgofkfdpbjaa.Bas
