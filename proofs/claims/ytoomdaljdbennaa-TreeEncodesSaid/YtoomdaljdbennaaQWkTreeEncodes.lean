/- The walk of TreeEncodes. Printed by gen_lawt.py. -/
import Derived.Test.YtoomdaljdbennaaKNE
import Derived.Test.YtoomdaljdbennaaQFrameN
import Derived.Test.YtoomdaljdbennaaKA
set_option linter.unusedSimpArgs false
set_option linter.unusedVariables false
namespace Go.Proofs.Ytoomdaljdbennaa
open Go.RowKit Kit Go.Sort Cur Tlv Tree

set_option maxRecDepth 100000 in
set_option maxHeartbeats 8000000 in
theorem TreeEncodes.walk (d : Nat) (t : T) (v : Value) (W : World) (hn : NodeR d W (fun b => b < W.heap.size) v t) :
    Calls Try.prog 4 #[v] W fun e w' => e = .returned (.bool true) ∧ Below W.heap.size W w' := by
  obtain ⟨A, c, K, ck, rfl⟩ := hn.formV
  have Na := Lib.hid ((hn.mono (P' := InB 0 W) (fun b h => ⟨Nat.zero_le _, h⟩)).allocS (.cells #[.int .i64 t.cls, .int .i64 t.num, .bool t.cons, .slice A t.con.length c, .slice K t.kids.length ck] 26))
  have Ta : Hid ((W.alloc (.cells #[.int .i64 t.cls, .int .i64 t.num, .bool t.cons, .slice A t.con.length c, .slice K t.kids.length ck] 26)).heap[W.heap.size]? = some (.cells #[.int .i64 t.cls, .int .i64 t.num, .bool t.cons, .slice A t.con.length c, .slice K t.kids.length ck] 26 (0, 0))) := Lib.hid (bk_new rfl)
  have BE : Hid (Below W.heap.size W (W.alloc (.cells #[.int .i64 t.cls, .int .i64 t.num, .bool t.cons, .slice A t.con.length c, .slice K t.kids.length ck] 26))) := Lib.hid ((Below.refl _ _).alloc (Nat.le_refl _) _)
  have HF := Lib.hid hn.fits
  clear hn
  go_enter Try.func4, Try.ntmps4
  go_wp2_with fail
  go_must (go_fit (awake3_any _))
  rintro e w1 ⟨rfl, hb1⟩
  replace Ta := Lib.hid (stayK Ta.out hb1)
  replace Na := Lib.hid (Na.out.past hb1)
  replace BE := Lib.hid (two_belowK BE.out hb1 BE.out.size)
  clear hb1
  obtain ⟨u0, u1, u2, u3, u4⟩ := cells5 Ta.out
  have P0 := Lib.hid (few_any d w1 _ _ t 1500 Na.out InB.lt (by omega) (by omega))
  by_cases hf : 0 ≤ leftT d t 1500
  · rw [decide_eq_true hf] at P0
    obtain ⟨hc, hby, hle⟩ := few_of hf
    clear hf
    have HL := Lib.hid hle
    clear hle
    go_wp2_with fail
    go_must (go_fit P0.out)
    rintro e w2 ⟨rfl, hb2⟩
    clear u0 u1 u2 u3 u4
    clear P0
    replace Ta := Lib.hid (stayK Ta.out hb2)
    replace Na := Lib.hid (Na.out.past hb2)
    replace BE := Lib.hid (two_belowK BE.out hb2 BE.out.size)
    clear hb2
    have HE := Lib.hid (show (validT 16 t = true ∧ encC t = 0 ∧ encB d t = bytesT d t) ∨ (validT 16 t = false ∧ encC t = 8 ∧ encB d t = []) from by
      unfold encC encB
      cases validT 16 t
      · exact .inr ⟨rfl, rfl, rfl⟩
      · exact .inl ⟨rfl, rfl, rfl⟩)
    have P1 := Lib.hid (fun (X : World) (v : Value) (h : NodeR d X (InB 0 X) v t) => treeencode_any d X _ _ t h InB.lt (by omega) HL.out (by omega))
    have P2 := Lib.hid (fun (X : World) (v : Value) (h : NodeR d X (InB 0 X) v t) => refencode_any d X _ _ t h InB.lt (by omega) HL.out (by omega))
    generalize hL : encB d t = L at *
    generalize encC t = ec at *
    have P1' := Lib.hid (P1.out _ _ Na.out)
    clear P1 hL
    obtain ⟨u0, u1, u2, u3, u4⟩ := cells5 Ta.out
    go_wp2_with fail
    go_must (go_fit P1'.out)
    rintro e w3 ⟨A1, c1, rfl, ho1, hb3⟩
    clear u0 u1 u2 u3 u4
    clear P1'
    replace Ta := Lib.hid (stayK Ta.out hb3)
    replace Na := Lib.hid (Na.out.past hb3)
    replace BE := Lib.hid (two_belowK BE.out hb3 BE.out.size)
    clear hb3
    have hcap := ho1.cap
    have hcm := ho1.capMax
    have Rb := Lib.hid ho1.rd
    clear ho1
    have P2' := Lib.hid (P2.out _ _ Na.out)
    clear P2
    obtain ⟨u0, u1, u2, u3, u4⟩ := cells5 Ta.out
    go_wp2_with fail
    go_must (go_fit P2'.out)
    rintro e w5 ⟨A2, c2, rfl, ho2, hb5⟩
    clear u0 u1 u2 u3 u4
    clear P2'
    replace Ta := Lib.hid (stayK Ta.out hb5)
    replace Na := Lib.hid (Na.out.past hb5)
    replace Rb := Lib.hid (Rb.out.past hb5)
    replace BE := Lib.hid (two_belowK BE.out hb5 BE.out.size)
    clear hb5
    have Rc := Lib.hid ho2.rd
    clear ho2
    have X1 := Lib.hid (fun (dd : Nat) (os : Array Obj) => Cur.bytes_any A1 A2 L.length c1 L.length c2 L L (grow (redrawn w5 dd) os) (Rb.out.regrown dd os) (Rc.out.regrown dd os))
    rw [Cur.eqB_self] at X1
    have V1 := Lib.hid (fun (dd : Nat) (os : Array Obj) => treevalid_any d (grow (redrawn w5 dd) os) _ _ t (Na.out.past (below_regrown w5 dd os)) InB.lt (by omega))
    have V2 := Lib.hid (fun (dd : Nat) (os : Array Obj) => refvalid_any d (grow (redrawn w5 dd) os) _ _ t (Na.out.past (below_regrown w5 dd os)) InB.lt (by omega))
    have D1 := Lib.hid (fun (dd : Nat) (os : Array Obj) => depth_any d (grow (redrawn w5 dd) os) _ _ t (Na.out.past (below_regrown w5 dd os)) InB.lt (by omega))
    have D2 := Lib.hid (fun (dd : Nat) (os : Array Obj) => refdepth_any d (grow (redrawn w5 dd) os) _ _ t (Na.out.past (below_regrown w5 dd os)) InB.lt (by omega))
    have C1 := Lib.hid (fun (dd : Nat) (os : Array Obj) => count_any d (grow (redrawn w5 dd) os) _ _ t (Na.out.past (below_regrown w5 dd os)) InB.lt (by omega))
    have C2 := Lib.hid (fun (dd : Nat) (os : Array Obj) => refcount_any d (grow (redrawn w5 dd) os) _ _ t (Na.out.past (below_regrown w5 dd os)) InB.lt (by omega))
    have HV := Lib.hid (fun h : validT 16 t = true => parse_back HF.out h HL.out)
    generalize hvt : validT 16 t = vt at *
    generalize hdt : depthT d t = dt at *
    generalize hct : countT d t = ct at *
    clear hvt hdt
    obtain ⟨u0, u1, u2, u3, u4⟩ := cells5 Ta.out
    have p0 := cell_regrown u0
    have p1 := cell_regrown u1
    have p2 := cell_regrown u2
    have p3 := cell_regrown u3
    have p4 := cell_regrown u4
    go_upto_region 5 with fail
    refine wp_region_quiet_below (by kernel_rfl) (by kernel_rfl) ?_; (repeat (go_big_quiet_step (first | (go_at_call 18; exact regrown_same (X1.out _ _)) | (go_at_call 19; exact Calls.regrown_of (V1.out _ _)) | (go_at_call 20; exact Calls.regrown_of (V2.out _ _)) | (go_at_call 21; exact Calls.regrown_of (D1.out _ _)) | (go_at_call 22; exact Calls.regrown_of (D2.out _ _)) | (go_at_call 23; exact Calls.regrown_of (C1.out _ _)) | (go_at_call 24; exact Calls.regrown_of (C2.out _ _))))); refine wpQuiet_nil ?_; intro wq hq; replace hq := Kit.of_regrown hq
    clear X1 V1 V2 D1 D2 C1 C2 p0 p1 p2 p3 p4 u0 u1 u2 u3 u4
    replace Ta := Lib.hid (stayK Ta.out hq)
    replace Na := Lib.hid (Na.out.past hq)
    replace Rb := Lib.hid (Rb.out.past hq)
    replace Rc := Lib.hid (Rc.out.past hq)
    replace BE := Lib.hid (two_belowK BE.out hq BE.out.size)
    clear hq
    rcases HE.out with ⟨hv, he, hl⟩ | ⟨hv, he, hl⟩
    · subst he
      have PB := HV.out hv
      rw [← hl] at PB hby
      have PAR := Lib.hid (par_of (l := L) (by omega))
      rw [PB] at PAR
      have P3 := Lib.hid (treeparse_any wq Rb.out (Nat.le_refl _) hcap hcm (by omega))
      rw [PB] at P3
      clear PB HV hv hl HE
      go_wp2_with fail
      go_must (go_fit P3.out)
      rintro e w6 ⟨v6, rfl, hn6, hb6⟩
      replace hn6 := hn6.fresh
      replace Ta := Lib.hid (stayK Ta.out hb6)
      replace Na := Lib.hid (Na.out.past hb6)
      replace Rb := Lib.hid (Rb.out.past hb6)
      replace Rc := Lib.hid (Rc.out.past hb6)
      replace BE := Lib.hid (two_belowK BE.out hb6 BE.out.size)
      clear hb6
      obtain ⟨A6, c6, K6, ck6, rfl⟩ := hn6.formV
      have Nb := Lib.hid hn6
      clear hn6
      replace Ta := Lib.hid (bk_old (o' := (.cells #[.int .i64 t.cls, .int .i64 t.num, .bool t.cons, .slice A6 t.con.length c6, .slice K6 t.kids.length ck6] 26)) Ta.out)
      replace Na := Lib.hid (Na.out.allocS (.cells #[.int .i64 t.cls, .int .i64 t.num, .bool t.cons, .slice A6 t.con.length c6, .slice K6 t.kids.length ck6] 26))
      replace Nb := Lib.hid (Nb.out.allocS (.cells #[.int .i64 t.cls, .int .i64 t.num, .bool t.cons, .slice A6 t.con.length c6, .slice K6 t.kids.length ck6] 26))
      replace Rb := Lib.hid (Rb.out.allocS (.cells #[.int .i64 t.cls, .int .i64 t.num, .bool t.cons, .slice A6 t.con.length c6, .slice K6 t.kids.length ck6] 26))
      replace Rc := Lib.hid (Rc.out.allocS (.cells #[.int .i64 t.cls, .int .i64 t.num, .bool t.cons, .slice A6 t.con.length c6, .slice K6 t.kids.length ck6] 26))
      replace BE := Lib.hid (BE.out.alloc BE.out.size (.cells #[.int .i64 t.cls, .int .i64 t.num, .bool t.cons, .slice A6 t.con.length c6, .slice K6 t.kids.length ck6] 26))
      replace Ta := Lib.hid (bk_old (o' := (.cells #[.int .i64 0, .int .i64 0] 29)) Ta.out)
      replace Na := Lib.hid (Na.out.allocS (.cells #[.int .i64 0, .int .i64 0] 29))
      replace Nb := Lib.hid (Nb.out.allocS (.cells #[.int .i64 0, .int .i64 0] 29))
      replace Rb := Lib.hid (Rb.out.allocS (.cells #[.int .i64 0, .int .i64 0] 29))
      replace Rc := Lib.hid (Rc.out.allocS (.cells #[.int .i64 0, .int .i64 0] 29))
      replace BE := Lib.hid (BE.out.alloc BE.out.size (.cells #[.int .i64 0, .int .i64 0] 29))
      have Tbn : Hid (((w6.alloc (.cells #[.int .i64 t.cls, .int .i64 t.num, .bool t.cons, .slice A6 t.con.length c6, .slice K6 t.kids.length ck6] 26)).alloc (.cells #[.int .i64 0, .int .i64 0] 29)).heap[w6.heap.size]? = some (.cells #[.int .i64 t.cls, .int .i64 t.num, .bool t.cons, .slice A6 t.con.length c6, .slice K6 t.kids.length ck6] 26 (0, 0))) := Lib.hid (bk_old (bk_new rfl))
      have Tbe : Hid (((w6.alloc (.cells #[.int .i64 t.cls, .int .i64 t.num, .bool t.cons, .slice A6 t.con.length c6, .slice K6 t.kids.length ck6] 26)).alloc (.cells #[.int .i64 0, .int .i64 0] 29)).heap[w6.heap.size + 1]? = some (.cells #[.int .i64 0, .int .i64 0] 29 (0, 0))) := Lib.hid (bk_new (by simp))
      clear P3
      have P4 := Lib.hid (nodeS Nb.out Na.out PAR.out.count)
      rw [eqT_self PAR.out.fits] at P4
      obtain ⟨x0, x1⟩ := cells2 Tbe.out
      obtain ⟨q0, q1, q2, q3, q4⟩ := cells5 Tbn.out
      obtain ⟨u0, u1, u2, u3, u4⟩ := cells5 Ta.out
      go_wp2_with fail
      go_must (go_fit P4.out)
      rintro e w7 ⟨rfl, hb7⟩
      clear x0 x1
      clear q0 q1 q2 q3 q4 u0 u1 u2 u3 u4
      clear P4
      replace Ta := Lib.hid (stayK Ta.out hb7)
      replace Tbn := Lib.hid (stayK Tbn.out hb7)
      replace Tbe := Lib.hid (stayK Tbe.out hb7)
      replace Na := Lib.hid (Na.out.past hb7)
      replace Nb := Lib.hid (Nb.out.past hb7)
      replace Rb := Lib.hid (Rb.out.past hb7)
      replace Rc := Lib.hid (Rc.out.past hb7)
      replace BE := Lib.hid (two_belowK BE.out hb7 BE.out.size)
      clear hb7
      go_wp2
      go_ret
      exact ⟨rfl, BE.out⟩
    · subst he
      clear HV HE hv hl
      go_wp2
      go_ret
      exact ⟨rfl, BE.out⟩
  · rw [decide_eq_false hf] at P0
    clear hf HF
    go_wp2_with fail
    go_must (go_fit P0.out)
    rintro e w2 ⟨rfl, hb2⟩
    clear u0 u1 u2 u3 u4
    clear P0
    replace Ta := Lib.hid (stayK Ta.out hb2)
    replace Na := Lib.hid (Na.out.past hb2)
    replace BE := Lib.hid (two_belowK BE.out hb2 BE.out.size)
    clear hb2
    go_wp2_with fail
    go_must (go_fit (awake3_any _))
    rintro e w3 ⟨rfl, hb3⟩
    replace Ta := Lib.hid (stayK Ta.out hb3)
    replace Na := Lib.hid (Na.out.past hb3)
    replace BE := Lib.hid (two_belowK BE.out hb3 BE.out.size)
    clear hb3
    go_wp2
    go_ret
    exact ⟨rfl, BE.out⟩
end Go.Proofs.Ytoomdaljdbennaa
