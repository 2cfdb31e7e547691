/- The walk of TreeParses. Printed by gen_lawt.py. -/
import Derived.Test.YtoomdaljdbennaaKNE
set_option linter.unusedSimpArgs false
set_option linter.unusedVariables false
namespace Go.Proofs.Ytoomdaljdbennaa
open Go.RowKit Kit Cur Tlv Tree

set_option maxRecDepth 100000 in
set_option maxHeartbeats 8000000 in
theorem TreeParses.walk (A : Option Addr) (n c : Nat) (l : List UInt8) (W : World) (hr : Rd W W.heap.size A n l) (hc : n ≤ c) (hm : c ≤ maxLen) :
    Calls Try.prog 3 #[.slice A n c] W fun e w' => e = .returned (.bool true) ∧ Below W.heap.size W w' := by
  have hl := hr.len
  by_cases hn : 1500 < n
  · have hn' : (1500 : Int) < (n : Int) := by omega
    go_enter Try.func3, Try.ntmps3
    go_wp2_with fail
    go_must (go_fit (awake3_any _))
    rintro e w1 ⟨rfl, hb1⟩
    go_wp2_with fail
    go_must (go_fit (awake3_any _))
    rintro e w2 ⟨rfl, hb2⟩
    go_wp2
    go_ret
    exact ⟨rfl, two_belowK hb1 hb2 hb1.size⟩
  have hn' : ¬ (1500 : Int) < (n : Int) := by omega
  have PAR := Lib.hid (par_of (l := l) (by omega))
  rw [hl] at PAR
  have RD1 := Lib.hid (fun (X : World) (hb : Below W.heap.size W X) => treeparse_any X (hr.below hb) hb.size hc hm (by omega))
  have RD2 := Lib.hid (fun (X : World) (hb : Below W.heap.size W X) => refparse_any X (hr.below hb) hb.size hc hm (by omega))
  generalize withinT l 16 = q at *
  obtain ⟨t, qc, qo⟩ := q
  simp only [] at PAR
  clear hr
  go_enter Try.func3, Try.ntmps3
  go_wp2_with fail
  go_must (go_fit (awake3_any _))
  rintro e w1 ⟨rfl, hb1⟩
  have BE := Lib.hid hb1
  clear hb1
  have P1 := Lib.hid (RD1.out w1 BE.out)
  clear RD1
  go_wp2_with fail
  go_must (go_fit P1.out)
  rintro e w2 ⟨v2, rfl, hn2, hb2⟩
  replace hn2 := hn2.fresh
  replace BE := Lib.hid (two_belowK BE.out hb2 BE.out.size)
  clear hb2
  obtain ⟨A2, c2, K2, ck2, rfl⟩ := hn2.formV
  have Na := Lib.hid hn2
  clear hn2
  replace Na := Lib.hid (Na.out.allocS (.cells #[.int .i64 t.cls, .int .i64 t.num, .bool t.cons, .slice A2 t.con.length c2, .slice K2 t.kids.length ck2] 26))
  replace BE := Lib.hid (BE.out.alloc BE.out.size (.cells #[.int .i64 t.cls, .int .i64 t.num, .bool t.cons, .slice A2 t.con.length c2, .slice K2 t.kids.length ck2] 26))
  replace Na := Lib.hid (Na.out.allocS (.cells #[.int .i64 qc, .int .i64 qo] 29))
  replace BE := Lib.hid (BE.out.alloc BE.out.size (.cells #[.int .i64 qc, .int .i64 qo] 29))
  have Tan : Hid (((w2.alloc (.cells #[.int .i64 t.cls, .int .i64 t.num, .bool t.cons, .slice A2 t.con.length c2, .slice K2 t.kids.length ck2] 26)).alloc (.cells #[.int .i64 qc, .int .i64 qo] 29)).heap[w2.heap.size]? = some (.cells #[.int .i64 t.cls, .int .i64 t.num, .bool t.cons, .slice A2 t.con.length c2, .slice K2 t.kids.length ck2] 26 (0, 0))) := Lib.hid (bk_old (bk_new rfl))
  have Tae : Hid (((w2.alloc (.cells #[.int .i64 t.cls, .int .i64 t.num, .bool t.cons, .slice A2 t.con.length c2, .slice K2 t.kids.length ck2] 26)).alloc (.cells #[.int .i64 qc, .int .i64 qo] 29)).heap[w2.heap.size + 1]? = some (.cells #[.int .i64 qc, .int .i64 qo] 29 (0, 0))) := Lib.hid (bk_new (by simp))
  have P2 := Lib.hid (RD2.out _ BE.out)
  clear RD2 P1
  go_wp2_with fail
  go_must (go_fit P2.out)
  rintro e w3 ⟨v3, rfl, hn3, hb3⟩
  replace hn3 := hn3.fresh
  replace Tan := Lib.hid (stayK Tan.out hb3)
  replace Tae := Lib.hid (stayK Tae.out hb3)
  replace Na := Lib.hid (Na.out.past hb3)
  replace BE := Lib.hid (two_belowK BE.out hb3 BE.out.size)
  clear hb3
  obtain ⟨A3, c3, K3, ck3, rfl⟩ := hn3.formV
  have Nb := Lib.hid hn3
  clear hn3
  replace Tan := Lib.hid (bk_old (o' := (.cells #[.int .i64 t.cls, .int .i64 t.num, .bool t.cons, .slice A3 t.con.length c3, .slice K3 t.kids.length ck3] 26)) Tan.out)
  replace Tae := Lib.hid (bk_old (o' := (.cells #[.int .i64 t.cls, .int .i64 t.num, .bool t.cons, .slice A3 t.con.length c3, .slice K3 t.kids.length ck3] 26)) Tae.out)
  replace Na := Lib.hid (Na.out.allocS (.cells #[.int .i64 t.cls, .int .i64 t.num, .bool t.cons, .slice A3 t.con.length c3, .slice K3 t.kids.length ck3] 26))
  replace Nb := Lib.hid (Nb.out.allocS (.cells #[.int .i64 t.cls, .int .i64 t.num, .bool t.cons, .slice A3 t.con.length c3, .slice K3 t.kids.length ck3] 26))
  replace BE := Lib.hid (BE.out.alloc BE.out.size (.cells #[.int .i64 t.cls, .int .i64 t.num, .bool t.cons, .slice A3 t.con.length c3, .slice K3 t.kids.length ck3] 26))
  replace Tan := Lib.hid (bk_old (o' := (.cells #[.int .i64 qc, .int .i64 qo] 29)) Tan.out)
  replace Tae := Lib.hid (bk_old (o' := (.cells #[.int .i64 qc, .int .i64 qo] 29)) Tae.out)
  replace Na := Lib.hid (Na.out.allocS (.cells #[.int .i64 qc, .int .i64 qo] 29))
  replace Nb := Lib.hid (Nb.out.allocS (.cells #[.int .i64 qc, .int .i64 qo] 29))
  replace BE := Lib.hid (BE.out.alloc BE.out.size (.cells #[.int .i64 qc, .int .i64 qo] 29))
  have Tbn : Hid (((w3.alloc (.cells #[.int .i64 t.cls, .int .i64 t.num, .bool t.cons, .slice A3 t.con.length c3, .slice K3 t.kids.length ck3] 26)).alloc (.cells #[.int .i64 qc, .int .i64 qo] 29)).heap[w3.heap.size]? = some (.cells #[.int .i64 t.cls, .int .i64 t.num, .bool t.cons, .slice A3 t.con.length c3, .slice K3 t.kids.length ck3] 26 (0, 0))) := Lib.hid (bk_old (bk_new rfl))
  have Tbe : Hid (((w3.alloc (.cells #[.int .i64 t.cls, .int .i64 t.num, .bool t.cons, .slice A3 t.con.length c3, .slice K3 t.kids.length ck3] 26)).alloc (.cells #[.int .i64 qc, .int .i64 qo] 29)).heap[w3.heap.size + 1]? = some (.cells #[.int .i64 qc, .int .i64 qo] 29 (0, 0))) := Lib.hid (bk_new (by simp))
  clear P2
  have P3 := Lib.hid (nodeS Na.out Nb.out PAR.out.count)
  rw [eqT_self PAR.out.fits] at P3
  obtain ⟨x0, x1⟩ := cells2 Tae.out
  obtain ⟨y0, y1⟩ := cells2 Tbe.out
  obtain ⟨u0, u1, u2, u3, u4⟩ := cells5 Tan.out
  obtain ⟨v0, v1, v2, v3, v4⟩ := cells5 Tbn.out
  go_wp2_with fail
  go_must (go_fit P3.out)
  rintro e w4 ⟨rfl, hb4⟩
  clear x0 x1 y0 y1
  clear u0 u1 u2 u3 u4 v0 v1 v2 v3 v4
  clear P3
  replace Tan := Lib.hid (stayK Tan.out hb4)
  replace Tae := Lib.hid (stayK Tae.out hb4)
  replace Tbn := Lib.hid (stayK Tbn.out hb4)
  replace Tbe := Lib.hid (stayK Tbe.out hb4)
  replace Na := Lib.hid (Na.out.past hb4)
  replace Nb := Lib.hid (Nb.out.past hb4)
  replace BE := Lib.hid (two_belowK BE.out hb4 BE.out.size)
  clear hb4
  obtain ⟨x0, x1⟩ := cells2 Tae.out
  have P4 := Lib.hid (within_par PAR.out w4)
  go_wp2_with fail
  go_must (go_fit P4.out)
  rintro e w5 ⟨rfl, hb5⟩
  clear x0 x1
  clear P4
  replace Tan := Lib.hid (stayK Tan.out hb5)
  replace Tae := Lib.hid (stayK Tae.out hb5)
  replace Tbn := Lib.hid (stayK Tbn.out hb5)
  replace Tbe := Lib.hid (stayK Tbe.out hb5)
  replace Na := Lib.hid (Na.out.past hb5)
  replace Nb := Lib.hid (Nb.out.past hb5)
  replace BE := Lib.hid (two_belowK BE.out hb5 BE.out.size)
  clear hb5
  go_wp2
  go_ret
  exact ⟨rfl, BE.out⟩
end Go.Proofs.Ytoomdaljdbennaa
