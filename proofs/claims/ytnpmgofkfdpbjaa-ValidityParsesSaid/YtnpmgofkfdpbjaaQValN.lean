/- Walks: a node's kid; Parse of the reference's validity. -/
import Derived.Test.YtnpmgofkfdpbjaaQValM
set_option linter.unusedSimpArgs false
set_option linter.unusedVariables false
namespace Go.Proofs.Ytnpmgofkfdpbjaa.Val
open Go.RowKit Kit Tlv

/-- a kid, or no node -/
def kidT (ks : List Tree.T) (i : Nat) : Tree.T := (ks[i]?).getD Tree.T.zero
/-- what Kid of the reference returns -/
def KidP (w : World) (t : Tree.T) (e : Ending) (w' : World) : Prop :=
  ∃ A c K m ck, e = .returned (.agg #[.int .i64 t.cls, .int .i64 t.num, .bool t.cons, .slice A t.con.length c, .slice K m ck]) ∧ Rd w' w'.heap.size A t.con.length t.con ∧ Below w.heap.size w w'

set_option maxRecDepth 100000 in
set_option maxHeartbeats 2000000 in
theorem refkid_any {P : Nat → Prop} {v : Value} {g1 g2 : Int} {g3 : Bool} {gc : List UInt8} {gk : List Tree.T} (i : Nat) (hi : i ≤ 1000) (w : World) (hnv : Tree.NodeR 60 w P v (.mk g1 g2 g3 gc gk)) (hP : ∀ b, P b → b < w.heap.size) (hl : gk.length ≤ 1000000) :
    Calls Try.prog 114 #[v, .int .i64 (i : Int)] w (KidP w (kidT gk i)) := by
  obtain ⟨A6, c6, K6, ck6, xs, rfl, -, -, -, hcp, hrow⟩ := Tree.NodeR.formX (d := 59) hnv
  have HX := Lib.hid hcp
  have HY := Lib.hid hrow
  clear hnv hcp hrow
  have t1 : ((w.alloc (.cells #[.int .i64 g1, .int .i64 g2, .bool g3, .slice A6 gc.length c6, .slice K6 gk.length ck6] 105)).alloc (.cells #[.int .i64 0, .int .i64 0, .bool false, .slice none 0 0, .slice none 0 0] 105)).heap[w.heap.size]? = _ := bk_old (bk_new rfl)
  have t2 : ((w.alloc (.cells #[.int .i64 g1, .int .i64 g2, .bool g3, .slice A6 gc.length c6, .slice K6 gk.length ck6] 105)).alloc (.cells #[.int .i64 0, .int .i64 0, .bool false, .slice none 0 0, .slice none 0 0] 105)).heap[w.heap.size + 1]? = _ := bk_new (by simp)
  have bel : Below w.heap.size w ((w.alloc (.cells #[.int .i64 g1, .int .i64 g2, .bool g3, .slice A6 gc.length c6, .slice K6 gk.length ck6] 105)).alloc (.cells #[.int .i64 0, .int .i64 0, .bool false, .slice none 0 0, .slice none 0 0] 105)) := (by repeat' (first | (with_reducible exact Below.refl _ _) | (with_reducible assumption) | (with_reducible refine below_drewN ?_ _) | (with_reducible refine Below.drew ?_) | (with_reducible refine Below.alloc ?_ ?_ _) | (with_reducible refine Below.setCell ?_ ?_ _) | go_size))
  have hz : ((w.alloc (.cells #[.int .i64 g1, .int .i64 g2, .bool g3, .slice A6 gc.length c6, .slice K6 gk.length ck6] 105)).alloc (.cells #[.int .i64 0, .int .i64 0, .bool false, .slice none 0 0, .slice none 0 0] 105)).heap.size = w.heap.size + 2 := by simp
  have hneg : ¬ (i : Int) < 0 := by omega
  go_enter Try.func114, Try.ntmps114
  go_upto_region 1 with fail
  generalize (w.alloc (.cells #[.int .i64 g1, .int .i64 g2, .bool g3, .slice A6 gc.length c6, .slice K6 gk.length ck6] 105)).alloc (.cells #[.int .i64 0, .int .i64 0, .bool false, .slice none 0 0, .slice none 0 0] 105) = w0 at *
  have T1 := Lib.hid t1
  have T2 := Lib.hid t2
  have BE := Lib.hid bel
  have kp := Lib.hid (Tree.Keeps.below bel hP)
  have HZ := Lib.hid hz
  clear t1 t2 bel hz
  obtain ⟨u0, u1, u2, u3, u4⟩ := cells5 T1.out
  obtain ⟨q0, q1, q2, q3, q4⟩ := cells5 T2.out
  obtain ⟨f0, f1, f2, f3, f4⟩ := free5 T2.out
  by_cases hlt : i < gk.length
  · have hit : gk[i]? = some gk[i] := List.getElem?_eq_getElem hlt
    have KT := Lib.hid (show kidT gk i = gk[i] from by unfold kidT; rw [hit]; rfl)
    obtain ⟨g, A1, c1, K2, ck, hK, hg, x0, x1, x2, x3, x4, hrd, -, -⟩ := Tree.kid_at (HX.out.keep kp.out) (HY.out.imp (fun _ _ h => h.keep kp.out)) hit
    subst hK
    generalize gk[i] = t at *
    obtain ⟨k1, k2, k3, kc, kk⟩ := t
    simp only [Tree.T.cls, Tree.T.num, Tree.T.cons, Tree.T.con, Tree.T.kids] at x0 x1 x2 x3 x4 hrd
    have hge : ¬ (gk.length : Int) ≤ (i : Int) := by omega
    have hlt2 : (i : Int) < (gk.length : Int) := by omega
    have RD := Lib.hid (hrd.rd (B := w.heap.size) hP)
    clear hrd hit HX HY kp
    go_wp2
    clear u0 u1 u2 u3 u4 q0 q1 q2 q3 q4 f0 f1 f2 f3 f4 x0 x1 x2 x3 x4
    have bel := BE.out
    have hz := HZ.out
    have tc := cells5 (set5 (.int .i64 k1) (.int .i64 k2) (.bool k3) (.slice A1 kc.length c1) (.slice K2 kk.length ck) T2.out)
    have rd := RD.out
    refine bodyPost_ret (v := .agg #[.int .i64 k1, .int .i64 k2, .bool k3, .slice A1 kc.length c1, .slice K2 kk.length ck]) (by simp [results, Try.results114, go_sem, *]) rfl ?_
    rw [KT.out]
    have kk : ∀ X : World, Rd X w.heap.size A1 kc.length kc → w.heap.size ≤ X.heap.size → Below w.heap.size w X → KidP w (.mk k1 k2 k3 kc kk) (.returned (.agg #[.int .i64 k1, .int .i64 k2, .bool k3, .slice A1 kc.length c1, .slice K2 kk.length ck])) X := fun X h1 h2 h3 => ⟨A1, c1, K2, _, ck, rfl, h1.more h2, h3⟩
    exact kk _ (by repeat' (first | (with_reducible assumption) | (with_reducible refine Rd.setCell ?_ ?_ _) | (simp only []; omega))) (by simp; omega) (by repeat' (first | (with_reducible exact Below.refl _ _) | (with_reducible assumption) | (with_reducible refine below_drewN ?_ _) | (with_reducible refine Below.drew ?_) | (with_reducible refine Below.alloc ?_ ?_ _) | (with_reducible refine Below.setCell ?_ ?_ _) | go_size))
  · have KT := Lib.hid (show kidT gk i = Tree.T.zero from by unfold kidT; rw [List.getElem?_eq_none (by omega)]; rfl)
    have hge : (gk.length : Int) ≤ (i : Int) := by omega
    clear HX HY kp
    go_wp2
    clear u0 u1 u2 u3 u4 q0 q1 q2 q3 q4 f0 f1 f2 f3 f4
    have bel := BE.out
    have tc := cells5 (set5 (.int .i64 0) (.int .i64 0) (.bool false) (.slice none 0 0) (.slice none 0 0) T2.out)
    refine bodyPost_ret (v := .agg #[.int .i64 0, .int .i64 0, .bool false, .slice none 0 0, .slice none 0 0]) (by simp [results, Try.results114, go_sem, *]) rfl ?_
    rw [KT.out]
    have kk : ∀ X : World, Below w.heap.size w X → KidP w Tree.T.zero (.returned (.agg #[.int .i64 0, .int .i64 0, .bool false, .slice none 0 0, .slice none 0 0])) X := fun X h3 => ⟨none, 0, none, 0, 0, rfl, Rd.nil_, h3⟩
    exact kk _ (by repeat' (first | (with_reducible exact Below.refl _ _) | (with_reducible assumption) | (with_reducible refine below_drewN ?_ _) | (with_reducible refine Below.drew ?_) | (with_reducible refine Below.alloc ?_ ?_ _) | (with_reducible refine Below.setCell ?_ ?_ _) | go_size))
end Go.Proofs.Ytnpmgofkfdpbjaa.Val
