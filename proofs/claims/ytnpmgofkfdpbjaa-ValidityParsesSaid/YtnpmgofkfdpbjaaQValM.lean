/- Walks: what the reference reads out of a node as a time; a node's kid. -/
import Derived.Test.YtnpmgofkfdpbjaaKY
import Derived.Test.YtnpmgofkfdpbjaaKV
import Derived.Test.YtnpmgofkfdpbjaaKG
set_option linter.unusedSimpArgs false
set_option linter.unusedVariables false
namespace Go.Proofs.Ytnpmgofkfdpbjaa.Val
open Go.RowKit Kit Tlv

/-- the time that a node would be -/
def RdV (num : Int) (con : List UInt8) (y m d h mi s : Int) : Prop :=
  (num = 23 ∧ Clk.okU con ∧ y = Clk.yr2 con ∧ m = Clk.pr con 2 ∧ d = Clk.pr con 4 ∧ h = Clk.pr con 6 ∧ mi = Clk.pr con 8 ∧ s = Clk.pr con 10) ∨
  (num ≠ 23 ∧ Clk.okG con ∧ y = Clk.yr4 con ∧ m = Clk.pr con 4 ∧ d = Clk.pr con 6 ∧ h = Clk.pr con 8 ∧ mi = Clk.pr con 10 ∧ s = Clk.pr con 12) ∨
  (¬ (num = 23 ∧ Clk.okU con) ∧ ¬ (num ≠ 23 ∧ Clk.okG con) ∧ y = 0 ∧ m = 0 ∧ d = 0 ∧ h = 0 ∧ mi = 0 ∧ s = 0)

set_option maxRecDepth 100000 in
set_option maxHeartbeats 2000000 in
theorem refreadV_utc {A K : Option Addr} {c mk ck : Nat} {g1 : Int} {g3 : Bool} {con : List UInt8} {y m d h mi s k : Int} (w : World) (hr : Rd w w.heap.size A con.length con)
    (hd : ∀ X : World, Rd X X.heap.size A con.length con → Calls Try.prog 148 #[.slice A con.length c] X fun e w' => e = .returned (.tuple #[Clk.time y m d h mi s, .int .i64 k]) ∧ Below X.heap.size X w') :
    Calls Try.prog 113 #[.agg #[.int .i64 g1, .int .i64 23, .bool g3, .slice A con.length c, .slice K mk ck]] w fun e w' => e = .returned (Clk.time y m d h mi s) ∧ Below w.heap.size w w' := by
  have HR := Lib.hid hr
  have D := Lib.hid hd
  have t1 : ((w.alloc (.cells #[.int .i64 g1, .int .i64 23, .bool g3, .slice A con.length c, .slice K mk ck] 105)).alloc (.cells #[.int .i64 0, .int .i64 0, .int .i64 0, .int .i64 0, .int .i64 0, .int .i64 0] 28)).heap[w.heap.size]? = _ := bk_old (bk_new rfl)
  have t2 : ((w.alloc (.cells #[.int .i64 g1, .int .i64 23, .bool g3, .slice A con.length c, .slice K mk ck] 105)).alloc (.cells #[.int .i64 0, .int .i64 0, .int .i64 0, .int .i64 0, .int .i64 0, .int .i64 0] 28)).heap[w.heap.size + 1]? = _ := bk_new (by simp)
  have BE := Lib.hid (show Below w.heap.size w ((w.alloc (.cells #[.int .i64 g1, .int .i64 23, .bool g3, .slice A con.length c, .slice K mk ck] 105)).alloc (.cells #[.int .i64 0, .int .i64 0, .int .i64 0, .int .i64 0, .int .i64 0, .int .i64 0] 28)) from (by repeat' (first | (with_reducible exact Below.refl _ _) | (with_reducible assumption) | (with_reducible refine below_drewN ?_ _) | (with_reducible refine Below.drew ?_) | (with_reducible refine Below.alloc ?_ ?_ _) | (with_reducible refine Below.setCell ?_ ?_ _) | go_size)))
  have R2 := Lib.hid ((HR.out.allocS (.cells #[.int .i64 g1, .int .i64 23, .bool g3, .slice A con.length c, .slice K mk ck] 105)).allocS (.cells #[.int .i64 0, .int .i64 0, .int .i64 0, .int .i64 0, .int .i64 0, .int .i64 0] 28))
  clear hr hd HR
  go_enter Try.func113, Try.ntmps113
  go_upto_region 1 with fail
  generalize (w.alloc (.cells #[.int .i64 g1, .int .i64 23, .bool g3, .slice A con.length c, .slice K mk ck] 105)).alloc (.cells #[.int .i64 0, .int .i64 0, .int .i64 0, .int .i64 0, .int .i64 0, .int .i64 0] 28) = w0 at *
  obtain ⟨u0, u1, u2, u3, u4⟩ := cells5 t1
  have T2 := Lib.hid t2
  have DX := Lib.hid (D.out w0 R2.out)
  clear t1 t2 D R2
  go_upto_region 3 with (first | (go_at_call 148; go_must (go_fit DX.out); rintro e w1 ⟨rfl, hb1⟩))
  have t3 : (w1.alloc (.cells #[.int .i64 y, .int .i64 m, .int .i64 d, .int .i64 h, .int .i64 mi, .int .i64 s] 28)).heap[w1.heap.size]? = _ := bk_new rfl
  have T21 := Lib.hid (bk_old (o' := .cells #[.int .i64 y, .int .i64 m, .int .i64 d, .int .i64 h, .int .i64 mi, .int .i64 s] 28) (stayK T2.out hb1))
  have b1 := two_belowK BE.out hb1 BE.out.size
  have BE1 := Lib.hid (b1.alloc b1.size (.cells #[.int .i64 y, .int .i64 m, .int .i64 d, .int .i64 h, .int .i64 mi, .int .i64 s] 28))
  have hlt : w.heap.size + 1 < w1.heap.size := Nat.lt_of_lt_of_le (Blk_lt T2.out) hb1.size
  have n1 : ¬ w1.heap.size = w.heap.size + 1 := by omega
  have n2 : ¬ w.heap.size + 1 = w1.heap.size := by omega
  clear hb1 b1 BE T2 DX u0 u1 u2 u3 u4 hlt
  generalize w1.heap.size = b1 at *
  generalize w1.alloc (.cells #[.int .i64 y, .int .i64 m, .int .i64 d, .int .i64 h, .int .i64 mi, .int .i64 s] 28) = w2 at *
  obtain ⟨x0, x1, x2, x3, x4, x5⟩ := cells6 t3
  obtain ⟨q0, q1, q2, q3, q4, q5⟩ := cells6 T21.out
  obtain ⟨f0, f1, f2, f3, f4, f5⟩ := Clk.free6 T21.out
  clear t3
  go_wp2
  clear x0 x1 x2 x3 x4 x5 q0 q1 q2 q3 q4 q5 f0 f1 f2 f3 f4 f5
  have bel := BE1.out
  have tc := cells6 (Clk.set6 (.int .i64 y) (.int .i64 m) (.int .i64 d) (.int .i64 h) (.int .i64 mi) (.int .i64 s) T21.out)
  refine bodyPost_ret (v := .agg #[.int .i64 y, .int .i64 m, .int .i64 d, .int .i64 h, .int .i64 mi, .int .i64 s]) (by simp [results, Try.results113, go_sem, *]) rfl ?_
  exact ⟨rfl, (by repeat' (first | (with_reducible exact Below.refl _ _) | (with_reducible assumption) | (with_reducible refine below_drewN ?_ _) | (with_reducible refine Below.drew ?_) | (with_reducible refine Below.alloc ?_ ?_ _) | (with_reducible refine Below.setCell ?_ ?_ _) | go_size))⟩
set_option maxRecDepth 100000 in
set_option maxHeartbeats 2000000 in
theorem refreadV_gen {A K : Option Addr} {c mk ck : Nat} {g1 g2 : Int} {g3 : Bool} {con : List UInt8} {y m d h mi s k : Int} (w : World) (h23 : ¬ g2 = 23) (hr : Rd w w.heap.size A con.length con)
    (hd : ∀ X : World, Rd X X.heap.size A con.length con → Calls Try.prog 98 #[.slice A con.length c] X fun e w' => e = .returned (.tuple #[Clk.time y m d h mi s, .int .i64 k]) ∧ Below X.heap.size X w') :
    Calls Try.prog 113 #[.agg #[.int .i64 g1, .int .i64 g2, .bool g3, .slice A con.length c, .slice K mk ck]] w fun e w' => e = .returned (Clk.time y m d h mi s) ∧ Below w.heap.size w w' := by
  have HR := Lib.hid hr
  have D := Lib.hid hd
  have t1 : ((w.alloc (.cells #[.int .i64 g1, .int .i64 g2, .bool g3, .slice A con.length c, .slice K mk ck] 105)).alloc (.cells #[.int .i64 0, .int .i64 0, .int .i64 0, .int .i64 0, .int .i64 0, .int .i64 0] 28)).heap[w.heap.size]? = _ := bk_old (bk_new rfl)
  have t2 : ((w.alloc (.cells #[.int .i64 g1, .int .i64 g2, .bool g3, .slice A con.length c, .slice K mk ck] 105)).alloc (.cells #[.int .i64 0, .int .i64 0, .int .i64 0, .int .i64 0, .int .i64 0, .int .i64 0] 28)).heap[w.heap.size + 1]? = _ := bk_new (by simp)
  have BE := Lib.hid (show Below w.heap.size w ((w.alloc (.cells #[.int .i64 g1, .int .i64 g2, .bool g3, .slice A con.length c, .slice K mk ck] 105)).alloc (.cells #[.int .i64 0, .int .i64 0, .int .i64 0, .int .i64 0, .int .i64 0, .int .i64 0] 28)) from (by repeat' (first | (with_reducible exact Below.refl _ _) | (with_reducible assumption) | (with_reducible refine below_drewN ?_ _) | (with_reducible refine Below.drew ?_) | (with_reducible refine Below.alloc ?_ ?_ _) | (with_reducible refine Below.setCell ?_ ?_ _) | go_size)))
  have R2 := Lib.hid ((HR.out.allocS (.cells #[.int .i64 g1, .int .i64 g2, .bool g3, .slice A con.length c, .slice K mk ck] 105)).allocS (.cells #[.int .i64 0, .int .i64 0, .int .i64 0, .int .i64 0, .int .i64 0, .int .i64 0] 28))
  clear hr hd HR
  go_enter Try.func113, Try.ntmps113
  go_upto_region 1 with fail
  generalize (w.alloc (.cells #[.int .i64 g1, .int .i64 g2, .bool g3, .slice A con.length c, .slice K mk ck] 105)).alloc (.cells #[.int .i64 0, .int .i64 0, .int .i64 0, .int .i64 0, .int .i64 0, .int .i64 0] 28) = w0 at *
  obtain ⟨u0, u1, u2, u3, u4⟩ := cells5 t1
  have T2 := Lib.hid t2
  have DX := Lib.hid (D.out w0 R2.out)
  clear t1 t2 D R2
  go_upto_region 5 with (first | (go_at_call 98; go_must (go_fit DX.out); rintro e w1 ⟨rfl, hb1⟩))
  have t3 : (w1.alloc (.cells #[.int .i64 y, .int .i64 m, .int .i64 d, .int .i64 h, .int .i64 mi, .int .i64 s] 28)).heap[w1.heap.size]? = _ := bk_new rfl
  have T21 := Lib.hid (bk_old (o' := .cells #[.int .i64 y, .int .i64 m, .int .i64 d, .int .i64 h, .int .i64 mi, .int .i64 s] 28) (stayK T2.out hb1))
  have b1 := two_belowK BE.out hb1 BE.out.size
  have BE1 := Lib.hid (b1.alloc b1.size (.cells #[.int .i64 y, .int .i64 m, .int .i64 d, .int .i64 h, .int .i64 mi, .int .i64 s] 28))
  have hlt : w.heap.size + 1 < w1.heap.size := Nat.lt_of_lt_of_le (Blk_lt T2.out) hb1.size
  have n1 : ¬ w1.heap.size = w.heap.size + 1 := by omega
  have n2 : ¬ w.heap.size + 1 = w1.heap.size := by omega
  clear hb1 b1 BE T2 DX u0 u1 u2 u3 u4 hlt
  generalize w1.heap.size = b1 at *
  generalize w1.alloc (.cells #[.int .i64 y, .int .i64 m, .int .i64 d, .int .i64 h, .int .i64 mi, .int .i64 s] 28) = w2 at *
  obtain ⟨x0, x1, x2, x3, x4, x5⟩ := cells6 t3
  obtain ⟨q0, q1, q2, q3, q4, q5⟩ := cells6 T21.out
  obtain ⟨f0, f1, f2, f3, f4, f5⟩ := Clk.free6 T21.out
  clear t3
  go_wp2
  clear x0 x1 x2 x3 x4 x5 q0 q1 q2 q3 q4 q5 f0 f1 f2 f3 f4 f5
  have bel := BE1.out
  have tc := cells6 (Clk.set6 (.int .i64 y) (.int .i64 m) (.int .i64 d) (.int .i64 h) (.int .i64 mi) (.int .i64 s) T21.out)
  refine bodyPost_ret (v := .agg #[.int .i64 y, .int .i64 m, .int .i64 d, .int .i64 h, .int .i64 mi, .int .i64 s]) (by simp [results, Try.results113, go_sem, *]) rfl ?_
  exact ⟨rfl, (by repeat' (first | (with_reducible exact Below.refl _ _) | (with_reducible assumption) | (with_reducible refine below_drewN ?_ _) | (with_reducible refine Below.drew ?_) | (with_reducible refine Below.alloc ?_ ?_ _) | (with_reducible refine Below.setCell ?_ ?_ _) | go_size))⟩
/-- what Read returns of a node with such contents -/
theorem refreadV_any (num : Int) (con : List UInt8) (hl : con.length ≤ 100000) : ∃ y m d h mi s, RdV num con y m d h mi s ∧ ∀ (g1 : Int) (g3 : Bool) (A K : Option Addr) (c mk ck : Nat) (X : World), Rd X X.heap.size A con.length con →
    Calls Try.prog 113 #[.agg #[.int .i64 g1, .int .i64 num, .bool g3, .slice A con.length c, .slice K mk ck]] X fun e w' => e = .returned (Clk.time y m d h mi s) ∧ Below X.heap.size X w' := by
  by_cases h23 : num = 23
  · subst h23
    by_cases ok : Clk.okU con
    · exact ⟨_, _, _, _, _, _, .inl ⟨rfl, ok, rfl, rfl, rfl, rfl, rfl, rfl⟩, fun g1 g3 A K c mk ck X hr => refreadV_utc X hr (fun Y h => Clk.refdecUTC_ok Y h hl ok)⟩
    · exact ⟨0, 0, 0, 0, 0, 0, .inr (.inr ⟨fun x => ok x.2, fun x => x.1 rfl, rfl, rfl, rfl, rfl, rfl, rfl⟩), fun g1 g3 A K c mk ck X hr => refreadV_utc X hr (fun Y h => Clk.refdecUTC_no Y h hl ok)⟩
  · by_cases ok : Clk.okG con
    · exact ⟨_, _, _, _, _, _, .inr (.inl ⟨h23, ok, rfl, rfl, rfl, rfl, rfl, rfl⟩), fun g1 g3 A K c mk ck X hr => refreadV_gen X h23 hr (fun Y h => Clk.refdecGen_ok Y h hl ok)⟩
    · exact ⟨0, 0, 0, 0, 0, 0, .inr (.inr ⟨fun x => h23 x.1, fun x => ok x.2, rfl, rfl, rfl, rfl, rfl, rfl⟩), fun g1 g3 A K c mk ck X hr => refreadV_gen X h23 hr (fun Y h => Clk.refdecGen_no Y h hl ok)⟩
end Go.Proofs.Ytnpmgofkfdpbjaa.Val
