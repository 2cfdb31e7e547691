/- Walks: what the reference reads out of a node; ParseCount, ParseNumber of the reference. -/
import Derived.Test.YtnpmgofkfdpbjaaKY
import Derived.Test.YtnpmgofkfdpbjaaKQ
set_option linter.unusedSimpArgs false
set_option linter.unusedVariables false
namespace Go.Proofs.Ytnpmgofkfdpbjaa.Bas
open Go.RowKit Kit Tlv

set_option maxHeartbeats 2000000 in
theorem refreadnum_any {A K : Option Addr} {c m ck : Nat} {k1 k2 : Int} {k3 : Bool} {con : List UInt8} (w : World) (hr : Rd w w.heap.size A con.length con) :
    Calls Try.prog 130 #[.agg #[.int .i64 k1, .int .i64 k2, .bool k3, .slice A con.length c, .slice K m ck]] w fun e w' => e = .returned (.int .i64 (Int4.intV con)) ∧ Below w.heap.size w w' := by
  have I := Lib.hid (fun (X : World) (h : Rd X w.heap.size A con.length con) hB => Int4.refint_any (c := c) X h hB)
  have HR := Lib.hid hr
  clear hr
  generalize Int4.intV con = v at *
  generalize Int4.intOk con = b at *
  go_enter Try.func130, Try.ntmps130
  have t1 : (w.alloc (.cells #[.int .i64 k1, .int .i64 k2, .bool k3, .slice A con.length c, .slice K m ck] 105)).heap[w.heap.size]? = _ := bk_new rfl
  obtain ⟨u0, u1, u2, u3, u4⟩ := cells5 t1
  clear t1
  go_wp2_with fail
  go_must (go_fit (I.out _ (HR.out.alloc (Nat.le_refl _) _) (by simp)))
  rintro e w1 ⟨rfl, rfl⟩
  clear u0 u1 u2 u3 u4
  go_wp2
  go_ret
  exact ⟨rfl, (by repeat' (first | (with_reducible exact Below.refl _ _) | (with_reducible assumption) | (with_reducible refine below_drewN ?_ _) | (with_reducible refine Below.drew ?_) | (with_reducible refine Below.alloc ?_ ?_ _) | (with_reducible refine Below.setCell ?_ ?_ _) | go_size))⟩

def RawC (w : World) (l L : List UInt8) (cd v : Int) (e : Ending) (w' : World) : Prop :=
  ∃ u b, e = .returned (.tuple #[.int .i64 u, .bool b]) ∧ (cd = 0 ∧ L = l ∧ u = v ∧ b = true ∨ ¬ (cd = 0 ∧ L = l) ∧ u = 0 ∧ b = false) ∧ Below w.heap.size w w'
def RawN (w : World) (l L : List UInt8) (cd : Int) (k : List UInt8) (e : Ending) (w' : World) : Prop :=
  ∃ A' c' q b, e = .returned (.tuple #[.slice A' q.length c', .bool b]) ∧ Rd w' w'.heap.size A' q.length q ∧ (cd = 0 ∧ L = l ∧ q = k ∧ b = true ∨ ¬ (cd = 0 ∧ L = l) ∧ q = [] ∧ b = false) ∧ Below w.heap.size w w'
set_option maxRecDepth 100000 in
set_option maxHeartbeats 2000000 in
theorem refparcount_raw {A : Option Addr} {n c B : Nat} {l : List UInt8} {v : Int} (w : World) (hr : Rd w B A n l) (hB : B ≤ w.heap.size) (hc : n ≤ c) (hm : c ≤ maxLen) (hn : n ≤ 100000)
    (hv : Int4.intV (Tree.withinT l 60).1.con = v) :
    Calls Try.prog 76 #[.slice A n c] w (RawC w l (cntL v) (cntC v) v) := by
  have DP := Lib.hid (fun (X : World) (h : Rd X B A n l) (hB : B ≤ X.heap.size) => Tree.deep_any X h hB hc hm (by omega))
  have HR := Lib.hid hr
  have HV := Lib.hid hv
  have MD := Lib.hid (fun X => refmarcount_any v X)
  clear hr hv
  generalize Tree.withinT l 60 = q at *
  obtain ⟨⟨g1, g2, g3, gc, gk⟩, qc, qo⟩ := q
  have hvv : Int4.intV gc = v := HV.out
  have RN := Lib.hid (fun (A6 : Option Addr) (c6 : Nat) (K6 : Option Addr) (m ck : Nat) (X : World) (h : Rd X X.heap.size A6 gc.length gc) => refreadnum_any (k1 := g1) (k2 := g2) (k3 := g3) (K := K6) (m := m) (ck := ck) (c := c6) X h)
  rw [hvv] at RN
  generalize cntL v = L at *
  generalize cntC v = cd at *
  clear HV hvv
  go_enter Try.func76, Try.ntmps76
  go_upto_region 2 with (first | (go_at_call 97; go_must (refine (DP.out _ HR.out hB).mono ?_); rintro e w1 ⟨v', ok, rfl, hnv, hb1⟩; obtain ⟨A6, c6, K6, ck6, rfl, hrd, -, -⟩ := hnv.formR))
  have t1 : (w1.alloc (.cells #[.int .i64 g1, .int .i64 g2, .bool g3, .slice A6 gc.length c6, .slice K6 gk.length ck6] 105)).heap[w1.heap.size]? = _ := bk_new rfl
  have BE1 := Lib.hid (hb1.alloc hb1.size (.cells #[.int .i64 g1, .int .i64 g2, .bool g3, .slice A6 gc.length c6, .slice K6 gk.length ck6] 105))
  have RK := Lib.hid ((hrd.rd (B := w1.heap.size) (fun b h => h.2)).allocS (.cells #[.int .i64 g1, .int .i64 g2, .bool g3, .slice A6 gc.length c6, .slice K6 gk.length ck6] 105))
  clear hnv hb1 DP hrd
  generalize w1.heap.size = b4 at *
  generalize w1.alloc (.cells #[.int .i64 g1, .int .i64 g2, .bool g3, .slice A6 gc.length c6, .slice K6 gk.length ck6] 105) = w2 at *
  clear w1
  obtain ⟨u0, u1, u2, u3, u4⟩ := cells5 t1
  have DX := Lib.hid (RN.out A6 c6 K6 gk.length ck6 w2 RK.out)
  clear t1 RN RK
  go_wp2_with fail
  go_must (go_fit DX.out)
  rintro e w3 ⟨rfl, hb3⟩
  have BE3 := Lib.hid (two_belowK BE1.out hb3 BE1.out.size)
  clear hb3 DX BE1 u0 u1 u2 u3 u4
  go_wp2_with fail
  go_must (go_fit (MD.out _))
  rintro e w5 ⟨A7, c7, rfl, o7, hb5⟩
  have BE5 := Lib.hid (two_belowK BE3.out hb5 BE3.out.size)
  have HR5 := Lib.hid (HR.out.below (BE5.out.mono hB))
  have R7 := Lib.hid o7.rd
  clear o7 hb5 BE3 MD HR
  have BY := Lib.hid (Cur.bytes_any A7 A L.length c7 n c _ _ w5 R7.out HR5.out)
  by_cases hcd : cd = 0
  · subst hcd
    by_cases hll : L = l
    · subst hll
      rw [Cur.eqB_self] at BY
      go_wp2_with fail
      go_must (go_fit BY.out)
      rintro e w6 ⟨rfl, rfl⟩
      go_wp2
      go_ret2
      exact ⟨v, true, rfl, by simp, BE5.out⟩
    · have hq : Cur.eqB L l = false := by simp [Cur.eqB, hll]
      rw [hq] at BY
      go_wp2_with fail
      go_must (go_fit BY.out)
      rintro e w6 ⟨rfl, rfl⟩
      go_wp2
      go_ret2
      exact ⟨0, false, rfl, by simp [hll], BE5.out⟩
  · go_wp2
    go_ret2
    exact ⟨0, false, rfl, by simp [hcd], BE5.out⟩
def RefC (w : World) (l : List UInt8) (e : Ending) (w' : World) : Prop :=
  ∃ u b, e = .returned (.tuple #[.int .i64 u, .bool b]) ∧ (b = true → cntB u = true ∧ l = cntL u) ∧ (b = false → u = 0 ∧ ∀ v, cntB v = true → l ≠ cntL v) ∧ Below w.heap.size w w'
theorem cnt_zero {n : Int} (h : cntC n = 0) : cntB n = true := by
  cases hb : cntB n with
  | true => rfl
  | false => rw [(cnt_no hb).1] at h; omega
theorem refparcount_any {A : Option Addr} {n c B : Nat} {l : List UInt8} (w : World) (hr : Rd w B A n l) (hB : B ≤ w.heap.size) (hc : n ≤ c) (hm : c ≤ maxLen) (hn : n ≤ 100000) :
    Calls Try.prog 76 #[.slice A n c] w (RefC w l) := by
  refine (refparcount_raw w hr hB hc hm hn rfl).mono ?_
  rintro e w' ⟨u, b, rfl, h, hb⟩
  rcases h with ⟨h1, h2, rfl, rfl⟩ | ⟨h1, rfl, rfl⟩
  · exact ⟨_, true, rfl, fun _ => ⟨cnt_zero h1, h2.symm⟩, (fun h => by cases h), hb⟩
  · refine ⟨0, false, rfl, (fun h => by cases h), fun _ => ⟨rfl, fun v hv e => h1 ?_⟩, hb⟩
    have e2 := e
    rw [(cnt_yes hv).2, nmL] at e2
    have hw : (Tree.withinT l 60).1.con = Int4.intL v := by rw [e2, Tree.within_prim 59 (nm_code (by omega) (by omega) (int_bd hv))]; rfl
    rw [hw, (rd_back hv).2]
    exact ⟨(cnt_yes hv).1, e.symm⟩

set_option maxRecDepth 100000 in
set_option maxHeartbeats 2000000 in
theorem refparnum_raw {A : Option Addr} {n c B : Nat} {l k : List UInt8} (w : World) (hr : Rd w B A n l) (hB : B ≤ w.heap.size) (hc : n ≤ c) (hm : c ≤ maxLen) (hn : n ≤ 100000)
    (hk : (Tree.withinT l 60).1.con = k) (hkl : k.length ≤ maxLen) :
    Calls Try.prog 77 #[.slice A n c] w (RawN w l (numL k) (numC k) k) := by
  have DP := Lib.hid (fun (X : World) (h : Rd X B A n l) (hB : B ≤ X.heap.size) => Tree.deep_any X h hB hc hm (by omega))
  have HR := Lib.hid hr
  have HK := Lib.hid hk
  have MD := Lib.hid (fun (A6 : Option Addr) (c6 : Nat) (X : World) (h : Rd X X.heap.size A6 k.length k) => refmarnum_any (c := c6) X h (Nat.le_refl _) hkl)
  clear hr hk
  generalize Tree.withinT l 60 = q at *
  obtain ⟨⟨g1, g2, g3, gc, gk⟩, qc, qo⟩ := q
  have hkk : gc = k := HK.out
  subst hkk
  generalize numL gc = L at *
  generalize numC gc = cd at *
  clear HK
  go_enter Try.func77, Try.ntmps77
  go_upto_region 2 with (first | (go_at_call 97; go_must (refine (DP.out _ HR.out hB).mono ?_); rintro e w1 ⟨v', ok, rfl, hnv, hb1⟩; obtain ⟨A6, c6, K6, ck6, rfl, hrd, -, -⟩ := hnv.formR))
  have t1 : (w1.alloc (.cells #[.int .i64 g1, .int .i64 g2, .bool g3, .slice A6 gc.length c6, .slice K6 gk.length ck6] 105)).heap[w1.heap.size]? = _ := bk_new rfl
  have BE1 := Lib.hid (hb1.alloc hb1.size (.cells #[.int .i64 g1, .int .i64 g2, .bool g3, .slice A6 gc.length c6, .slice K6 gk.length ck6] 105))
  have RK := Lib.hid ((hrd.rd (B := w1.heap.size) (fun b h => h.2)).allocS (.cells #[.int .i64 g1, .int .i64 g2, .bool g3, .slice A6 gc.length c6, .slice K6 gk.length ck6] 105))
  clear hnv hb1 DP hrd
  generalize w1.heap.size = b4 at *
  generalize w1.alloc (.cells #[.int .i64 g1, .int .i64 g2, .bool g3, .slice A6 gc.length c6, .slice K6 gk.length ck6] 105) = w2 at *
  clear w1
  have T1 := Lib.hid t1
  obtain ⟨u0, u1, u2, u3, u4⟩ := cells5 t1
  clear t1
  have DX := Lib.hid (MD.out A6 c6 w2 RK.out)
  clear MD
  go_wp2_with fail
  go_must (go_fit DX.out)
  rintro e w5 ⟨A7, c7, rfl, o7, hb5⟩
  have BE5 := Lib.hid (two_belowK BE1.out hb5 BE1.out.size)
  have HR5 := Lib.hid (HR.out.below (BE5.out.mono hB))
  have R7 := Lib.hid o7.rd
  have RK5 := Lib.hid (RK.out.past hb5)
  clear u0 u1 u2 u3 u4
  obtain ⟨u0, u1, u2, u3, u4⟩ := cells5 (stayK T1.out hb5)
  clear o7 hb5 BE1 HR RK T1
  have BY := Lib.hid (Cur.bytes_any A7 A L.length c7 n c _ _ w5 R7.out HR5.out)
  by_cases hcd : cd = 0
  · subst hcd
    by_cases hll : L = l
    · subst hll
      rw [Cur.eqB_self] at BY
      go_wp2_with fail
      go_must (go_fit BY.out)
      rintro e w6 ⟨rfl, rfl⟩
      go_wp2
      go_ret2
      exact ⟨A6, c6, gc, true, rfl, RK5.out, by simp, BE5.out⟩
    · have hq : Cur.eqB L l = false := by simp [Cur.eqB, hll]
      rw [hq] at BY
      go_wp2_with fail
      go_must (go_fit BY.out)
      rintro e w6 ⟨rfl, rfl⟩
      go_wp2
      go_ret2
      exact ⟨none, 0, [], false, rfl, Rd.nil_, by simp [hll], BE5.out⟩
  · go_wp2
    go_ret2
    exact ⟨none, 0, [], false, rfl, Rd.nil_, by simp [hcd], BE5.out⟩
def RefN (w : World) (l : List UInt8) (e : Ending) (w' : World) : Prop :=
  ∃ A' c' q b, e = .returned (.tuple #[.slice A' q.length c', .bool b]) ∧ Rd w' w'.heap.size A' q.length q ∧ (b = true → numB q = true ∧ l = numL q) ∧ (b = false → q = [] ∧ ∀ v, numB v = true → l ≠ numL v) ∧ Below w.heap.size w w'
theorem num_zero {n : List UInt8} (h : numC n = 0) : numB n = true := by
  cases hb : numB n with
  | true => rfl
  | false => rw [(num_no hb).1] at h; omega
theorem refparnum_any {A : Option Addr} {n c B : Nat} {l : List UInt8} (w : World) (hr : Rd w B A n l) (hB : B ≤ w.heap.size) (hc : n ≤ c) (hm : c ≤ maxLen) (hn : n ≤ 100000) :
    Calls Try.prog 77 #[.slice A n c] w (RefN w l) := by
  have hl := hr.len
  have hkl : (Tree.withinT l 60).1.con.length ≤ maxLen := Nat.le_trans (Tree.withinT_con l 60).1 (by unfold maxLen; omega)
  refine (refparnum_raw w hr hB hc hm hn rfl hkl).mono ?_
  rintro e w' ⟨A', c', q, b, rfl, hrd, h, hb⟩
  rcases h with ⟨h1, h2, rfl, rfl⟩ | ⟨h1, rfl, rfl⟩
  · exact ⟨_, _, _, true, rfl, hrd, fun _ => ⟨num_zero h1, h2.symm⟩, (fun h => by cases h), hb⟩
  · refine ⟨_, _, [], false, rfl, hrd, (fun h => by cases h), fun _ => ⟨rfl, fun v hv e => h1 ?_⟩, hb⟩
    have e2 := e
    rw [(num_yes hv).2] at e2
    have hw : (Tree.withinT l 60).1.con = v := by rw [e2, Tree.within_prim 59 (num_code hv).1]; rfl
    rw [hw]
    exact ⟨(num_yes hv).1, e.symm⟩
end Go.Proofs.Ytnpmgofkfdpbjaa.Bas
