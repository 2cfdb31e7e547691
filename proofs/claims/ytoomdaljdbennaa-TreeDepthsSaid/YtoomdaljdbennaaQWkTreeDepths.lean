/- The walk of TreeDepths. Printed by gen_lawt.py. -/
import Derived.Test.YtoomdaljdbennaaQPlChain
set_option linter.unusedSimpArgs false
set_option linter.unusedVariables false
namespace Go.Proofs.Ytoomdaljdbennaa
open Go.RowKit Kit Cur Tlv Tree

/-- where the loop of TreeDepths stands -/
def Tree.DpsL (W : World) (b7 : Nat) (cc : Int) (l : List UInt8) (kk : Nat) (i : Value) (wr : World) : Prop :=
  ∃ (k : Nat) (g1 g2 : Int) (g3 : Bool) (A' : Option Addr) (m' c' : Nat) (K' : Option Addr) (mk ck : Nat), i = .int .i64 (k : Int) ∧ k ≤ kk ∧
    wr.heap[b7]? = some (.cells #[.int .i64 g1, .int .i64 g2, .bool g3, .slice A' m' c', .slice K' mk ck] 26 (0, 0)) ∧
    NodeR k wr (fun b => b ≠ b7 ∧ b < wr.heap.size) (.agg #[.int .i64 g1, .int .i64 g2, .bool g3, .slice A' m' c', .slice K' mk ck]) (chainT cc l k) ∧ Below W.heap.size W wr
theorem Tree.dps_next {W wr : World} {b7 : Nat} {cc : Int} {l : List UInt8} {kk k : Nat} {g1 g2 : Int} {g3 : Bool} {A' : Option Addr} {m' c' : Nat} {K' : Option Addr} {mk ck : Nat} (hk : k < kk) (hw : W.heap.size ≤ b7)
    (h1 : wr.heap[b7]? = some (.cells #[.int .i64 g1, .int .i64 g2, .bool g3, .slice A' m' c', .slice K' mk ck] 26 (0, 0)))
    (h2 : NodeR k wr (fun b => b ≠ b7 ∧ b < wr.heap.size) (.agg #[.int .i64 g1, .int .i64 g2, .bool g3, .slice A' m' c', .slice K' mk ck]) (chainT cc l k)) (h3 : Below W.heap.size W wr) :
    Tree.DpsL W b7 cc l kk (.int .i64 ((k : Int) + 1)) ((((((wr.setCell ⟨b7, 0, none⟩ (.int .i64 cc)).setCell ⟨b7, 1, none⟩ (.int .i64 16)).setCell ⟨b7, 2, none⟩ (.bool true)).setCell ⟨b7, 3, none⟩ (.slice none 0 0)).setCell ⟨b7, 4, none⟩ (.slice (some ⟨wr.heap.size, 0, none⟩) 1 1)).alloc (.cells #[.int .i64 g1, .int .i64 g2, .bool g3, .slice A' m' c', .slice K' mk ck] 26)) := by
  have hb7 := Blk_lt h1
  have q0 : wr.heap.size ≠ b7 := by omega
  have hC : ((((((wr.setCell ⟨b7, 0, none⟩ (.int .i64 cc)).setCell ⟨b7, 1, none⟩ (.int .i64 16)).setCell ⟨b7, 2, none⟩ (.bool true)).setCell ⟨b7, 3, none⟩ (.slice none 0 0)).setCell ⟨b7, 4, none⟩ (.slice (some ⟨wr.heap.size, 0, none⟩) 1 1)).alloc (.cells #[.int .i64 g1, .int .i64 g2, .bool g3, .slice A' m' c', .slice K' mk ck] 26)).heap[wr.heap.size]? = some (.cells #[.int .i64 g1, .int .i64 g2, .bool g3, .slice A' m' c', .slice K' mk ck] 26 (0, 0)) := bk_new (by simp)
  have e1 : Keeps (fun b => b ≠ b7 ∧ b < wr.heap.size) wr (((((wr.setCell ⟨b7, 0, none⟩ (.int .i64 cc)).setCell ⟨b7, 1, none⟩ (.int .i64 16)).setCell ⟨b7, 2, none⟩ (.bool true)).setCell ⟨b7, 3, none⟩ (.slice none 0 0)).setCell ⟨b7, 4, none⟩ (.slice (some ⟨wr.heap.size, 0, none⟩) 1 1)) := by repeat' (first | (with_reducible exact Keeps.refl _ _) | (with_reducible refine Keeps.set ?_ ?_ _) | (intro b hb; simp only [ne_eq]; omega))
  have kp : Keeps (fun b => b ≠ b7 ∧ b < wr.heap.size) wr ((((((wr.setCell ⟨b7, 0, none⟩ (.int .i64 cc)).setCell ⟨b7, 1, none⟩ (.int .i64 16)).setCell ⟨b7, 2, none⟩ (.bool true)).setCell ⟨b7, 3, none⟩ (.slice none 0 0)).setCell ⟨b7, 4, none⟩ (.slice (some ⟨wr.heap.size, 0, none⟩) 1 1)).alloc (.cells #[.int .i64 g1, .int .i64 g2, .bool g3, .slice A' m' c', .slice K' mk ck] 26)) := Keeps.trans e1 (Keeps.alloc _ _ (fun b h => by simp; exact h.2))
  refine ⟨k + 1, cc, 16, true, none, 0, 0, some ⟨wr.heap.size, 0, none⟩, 1, 1, by rw [Int.natCast_add]; rfl, by omega, bk_old (set5 _ _ _ _ _ h1), ?_, ?_⟩
  · refine ⟨none, 0, some ⟨wr.heap.size, 0, none⟩, 1, [.int .i64 g1, .int .i64 g2, .bool g3, .slice A' m' c', .slice K' mk ck], rfl, RdP.nil_ _ _, Nat.zero_le _, Nat.zero_le _, ?_, ?_⟩
    · intro j u hj
      refine ⟨_, rfl, ⟨q0, by simp⟩, ?_⟩
      rw [add_plain, Nat.zero_add, cell_of_row _ _ _ _ _ _ hC]
      simpa using hj
    · exact ⟨_, _, _, _, _, [], rfl, (h2.keep kp).mono (fun b h => ⟨h.1, by have := h.2; simp; omega⟩), rfl⟩
  · have e0 := Below.setCell (Below.setCell (Below.setCell (Below.setCell (Below.setCell h3 (p := ⟨b7, 0, none⟩) hw (.int .i64 cc)) (p := ⟨b7, 1, none⟩) hw (.int .i64 16)) (p := ⟨b7, 2, none⟩) hw (.bool true)) (p := ⟨b7, 3, none⟩) hw (.slice none 0 0)) (p := ⟨b7, 4, none⟩) hw (.slice (some ⟨wr.heap.size, 0, none⟩) 1 1)
    exact e0.alloc e0.size _

set_option maxRecDepth 100000 in
set_option maxHeartbeats 8000000 in
theorem TreeDepths.walk (dp cl : Int) (A : Option Addr) (n c : Nat) (l : List UInt8) (W : World) (bd : 0 ≤ dp ∧ dp ≤ 255) (bc : 0 ≤ cl ∧ cl ≤ 255) (hr : Rd W W.heap.size A n l) (hc : n ≤ c) (hm : c ≤ maxLen) :
    Calls Try.prog 6 #[.int .u8 dp, .int .u8 cl, .slice A n c] W fun e w' => e = .returned (.bool true) ∧ Below W.heap.size W w' := by
  have hl := hr.len
  obtain ⟨d0, d1⟩ := bd
  obtain ⟨k0, k1⟩ := bc
  by_cases hn : 100 < n
  · have hn' : (100 : Int) < (n : Int) := by omega
    go_enter Try.func6, Try.ntmps6
    go_wp2_with fail
    go_must (go_fit (awake3_any _))
    rintro e w1 ⟨rfl, hb1⟩
    go_wp2_with fail
    go_must (go_fit (awake3_any _))
    rintro e w2 ⟨rfl, hb2⟩
    go_wp2
    go_ret
    exact ⟨rfl, two_belowK hb1 hb2 hb1.size⟩
  have hn' : ¬ (100 : Int) < (n : Int) := by omega
  obtain ⟨cc, hcc⟩ : ∃ cc, cl % 4 = cc := ⟨_, rfl⟩
  have c0 : 0 ≤ cc := by omega
  have c1 : cc ≤ 3 := by omega
  obtain ⟨kk, hkk⟩ : ∃ kk : Nat, dp % 40 = (kk : Int) := ⟨(dp % 40).toNat, by omega⟩
  have hk40 : kk < 40 := by omega
  have EN := Lib.hid (chain_enc (c := cc) (con := l) c0 c1 (by omega) (k := kk) (by omega))
  have CB := Lib.hid (chain_bytes (c := cc) (con := l) kk)
  have CP := Lib.hid (chain_parse (c := cc) (con := l) c0 c1 (by omega) (k := kk) (by omega))
  have CV := Lib.hid (chain_valid (c := cc) (con := l) c0 c1 kk)
  have CC := Lib.hid (chain_count (c := cc) (con := l) kk)
  have HR := Lib.hid hr
  clear hr
  go_enter Try.func6, Try.ntmps6
  go_wp2_with fail
  go_must (go_fit (awake3_any _))
  rintro e w1 ⟨rfl, hb1⟩
  have ST : Tree.DpsL W w1.heap.size cc l kk (.int .i64 0) (w1.alloc (.cells #[.int .i64 cc, .int .i64 4, .bool false, .slice A n c, .slice none 0 0] 26)) := by
    refine ⟨0, cc, 4, false, A, n, c, none, 0, 0, rfl, Nat.zero_le _, bk_new rfl, ?_, (hb1.alloc hb1.size _)⟩
    refine ⟨A, c, none, 0, by rw [← hl]; rfl, ?_, by show l.length ≤ c; omega, hm, rfl⟩
    have r := (HR.out.past hb1).alloc (Nat.le_refl _) (.cells #[.int .i64 cc, .int .i64 4, .bool false, .slice A n c, .slice none 0 0] 26)
    refine ⟨rfl, fun h0 => ?_⟩
    obtain ⟨ad, e1, e2, e3⟩ := r.2 (by have h0' : 0 < l.length := h0; omega)
    exact ⟨ad, e1, ⟨by omega, by simp; omega⟩, fun k hk => e3 k (by have h0' : k < l.length := hk; omega)⟩
  have START := Lib.hid ST
  have zw := hb1.size
  have HZ := Lib.hid zw
  clear ST hb1 HR
  go_wp2_with fail
  go_loopw [9] (fun i wr => Tree.DpsL W w1.heap.size cc l kk i wr) (fun i _ => kk - (intOf i).toNat)
  case atStart => exact START.out
  case round =>
    obtain ⟨k, g1, g2, g3, A', m', c', K', mk, ck, rfl, hk, h7, hnr, hbe⟩ := hrel
    clear START
    have z7 := Blk_lt h7
    obtain ⟨u0, u1, u2, u3, u4⟩ := cells5 h7
    obtain ⟨f0, f1, f2, f3, f4⟩ := free5 h7
    have H7 := Lib.hid h7
    have HN := Lib.hid hnr
    have BE := Lib.hid hbe
    clear h7 hnr hbe
    by_cases hlt : k < kk
    · have hkz : (k : Int) < (kk : Int) := by omega
      have RL := Lib.hid (Tree.dps_next (W := W) hlt HZ.out H7.out HN.out BE.out)
      clear H7 HN BE EN CB CP CV CC
      go_wp2
      go_roundw
      case rel => exact RL.out
      case measure => simp [intOf]; omega
    · obtain rfl : kk = k := by omega
      have Ta := Lib.hid H7.out
      have Na := Lib.hid (HN.out.mono (P' := InB 0 wr) (fun b h => ⟨Nat.zero_le _, h.2⟩))
      clear H7 HN f0 f1 f2 f3 f4 u0 u1 u2 u3 u4
      have hf := chain_fits (c := cc) (con := l) kk
      have P1 := Lib.hid (refbytes_any kk wr _ _ _ Na.out InB.lt EN.out)
      have hle := EN.out.2.1
      have P3 := Lib.hid (fun (X : World) (v : Value) (h : NodeR kk X (InB 0 X) v (chainT cc l kk)) => treeencode_any kk X _ _ _ h InB.lt EN.out.2.2.1 EN.out.2.1 EN.out.2.2.2)
      have P5 := Lib.hid (fun (X : World) (v : Value) (h : NodeR kk X (InB 0 X) v (chainT cc l kk)) => treevalid_any kk X _ _ _ h InB.lt EN.out.2.2.1)
      have EB := Lib.hid (show (encB kk (chainT cc l kk) = if kk + 1 ≤ 16 then bytesT kk (chainT cc l kk) else []) ∧ (encC (chainT cc l kk) = if kk + 1 ≤ 16 then 0 else 8) from by
        unfold encB encC
        rw [CV.out]
        by_cases h : kk + 1 ≤ 16 <;> simp [h])
      generalize chainT cc l kk = t at *
      obtain ⟨L, hL⟩ : ∃ L, bytesT kk t = L := ⟨_, rfl⟩
      rw [hL] at P1 CB CP EB
      have hLl : L.length ≤ 1500 := by have := CB.out; omega
      clear hL CB hle EN
      obtain ⟨u0, u1, u2, u3, u4⟩ := cells5 Ta.out
      go_wp2_with fail
      go_must (go_fit P1.out)
      rintro e w2 ⟨A2, c2, rfl, ho2, hb2⟩
      clear u0 u1 u2 u3 u4
      clear P1
      replace Ta := Lib.hid (stayK Ta.out hb2)
      replace Na := Lib.hid (Na.out.past hb2)
      replace BE := Lib.hid (two_belowK BE.out hb2 BE.out.size)
      clear hb2
      have hcap := ho2.cap
      have hcm := ho2.capMax
      have Rb := Lib.hid ho2.rd
      clear ho2
      by_cases h16 : kk + 1 ≤ 16
      · have hkz : ¬ (16 : Int) < (kk : Int) + 1 := by omega
        have PW := CP.out.1 h16
        have PAR := Lib.hid (par_of (l := L) (by omega))
        have P2 := Lib.hid (treeparse_any w2 Rb.out (Nat.le_refl _) hcap hcm (by omega))
        rw [PW] at P2 PAR
        clear PW CP
        rw [if_pos h16, if_pos h16] at EB
        rw [EB.out.1, EB.out.2] at P3
        go_wp2_with fail
        go_must (go_fit P2.out)
        rintro e w4 ⟨v4, rfl, hn4, hb4⟩
        replace hn4 := hn4.fresh
        replace Ta := Lib.hid (stayK Ta.out hb4)
        replace Na := Lib.hid (Na.out.past hb4)
        replace Rb := Lib.hid (Rb.out.past hb4)
        replace BE := Lib.hid (two_belowK BE.out hb4 BE.out.size)
        clear hb4
        obtain ⟨A4, c4, K4, ck4, rfl⟩ := hn4.formV
        have Nb := Lib.hid hn4
        clear hn4
        replace Ta := Lib.hid (bk_old (o' := (.cells #[.int .i64 t.cls, .int .i64 t.num, .bool t.cons, .slice A4 t.con.length c4, .slice K4 t.kids.length ck4] 26)) Ta.out)
        replace Na := Lib.hid (Na.out.allocS (.cells #[.int .i64 t.cls, .int .i64 t.num, .bool t.cons, .slice A4 t.con.length c4, .slice K4 t.kids.length ck4] 26))
        replace Nb := Lib.hid (Nb.out.allocS (.cells #[.int .i64 t.cls, .int .i64 t.num, .bool t.cons, .slice A4 t.con.length c4, .slice K4 t.kids.length ck4] 26))
        replace Rb := Lib.hid (Rb.out.allocS (.cells #[.int .i64 t.cls, .int .i64 t.num, .bool t.cons, .slice A4 t.con.length c4, .slice K4 t.kids.length ck4] 26))
        replace BE := Lib.hid (BE.out.alloc BE.out.size (.cells #[.int .i64 t.cls, .int .i64 t.num, .bool t.cons, .slice A4 t.con.length c4, .slice K4 t.kids.length ck4] 26))
        replace Ta := Lib.hid (bk_old (o' := (.cells #[.int .i64 0, .int .i64 0] 29)) Ta.out)
        replace Na := Lib.hid (Na.out.allocS (.cells #[.int .i64 0, .int .i64 0] 29))
        replace Nb := Lib.hid (Nb.out.allocS (.cells #[.int .i64 0, .int .i64 0] 29))
        replace Rb := Lib.hid (Rb.out.allocS (.cells #[.int .i64 0, .int .i64 0] 29))
        replace BE := Lib.hid (BE.out.alloc BE.out.size (.cells #[.int .i64 0, .int .i64 0] 29))
        have Tbn : Hid (((w4.alloc (.cells #[.int .i64 t.cls, .int .i64 t.num, .bool t.cons, .slice A4 t.con.length c4, .slice K4 t.kids.length ck4] 26)).alloc (.cells #[.int .i64 0, .int .i64 0] 29)).heap[w4.heap.size]? = some (.cells #[.int .i64 t.cls, .int .i64 t.num, .bool t.cons, .slice A4 t.con.length c4, .slice K4 t.kids.length ck4] 26 (0, 0))) := Lib.hid (bk_old (bk_new rfl))
        have Tbe : Hid (((w4.alloc (.cells #[.int .i64 t.cls, .int .i64 t.num, .bool t.cons, .slice A4 t.con.length c4, .slice K4 t.kids.length ck4] 26)).alloc (.cells #[.int .i64 0, .int .i64 0] 29)).heap[w4.heap.size + 1]? = some (.cells #[.int .i64 0, .int .i64 0] 29 (0, 0))) := Lib.hid (bk_new (by simp))
        clear P2
        have P4 := Lib.hid (P3.out _ _ Na.out)
        clear P3
        obtain ⟨u0, u1, u2, u3, u4⟩ := cells5 Ta.out
        go_wp2_with fail
        go_must (go_fit P4.out)
        rintro e w5 ⟨A5, c5, rfl, ho5, hb5⟩
        clear u0 u1 u2 u3 u4
        clear P4
        replace Ta := Lib.hid (stayK Ta.out hb5)
        replace Tbn := Lib.hid (stayK Tbn.out hb5)
        replace Tbe := Lib.hid (stayK Tbe.out hb5)
        replace Na := Lib.hid (Na.out.past hb5)
        replace Nb := Lib.hid (Nb.out.past hb5)
        replace Rb := Lib.hid (Rb.out.past hb5)
        replace BE := Lib.hid (two_belowK BE.out hb5 BE.out.size)
        clear hb5
        have Rx := Lib.hid ho5.rd
        clear ho5
        have P6 := Lib.hid (nodeS Nb.out Na.out PAR.out.count)
        rw [eqT_self PAR.out.fits] at P6
        obtain ⟨x0, x1⟩ := cells2 Tbe.out
        obtain ⟨q0, q1, q2, q3, q4⟩ := cells5 Tbn.out
        obtain ⟨u0, u1, u2, u3, u4⟩ := cells5 Ta.out
        go_wp2_with fail
        go_must (go_fit P6.out)
        rintro e w6 ⟨rfl, hb6⟩
        clear x0 x1
        clear q0 q1 q2 q3 q4 u0 u1 u2 u3 u4
        clear P6
        replace Ta := Lib.hid (stayK Ta.out hb6)
        replace Tbn := Lib.hid (stayK Tbn.out hb6)
        replace Tbe := Lib.hid (stayK Tbe.out hb6)
        replace Na := Lib.hid (Na.out.past hb6)
        replace Nb := Lib.hid (Nb.out.past hb6)
        replace Rb := Lib.hid (Rb.out.past hb6)
        replace Rx := Lib.hid (Rx.out.past hb6)
        replace BE := Lib.hid (two_belowK BE.out hb6 BE.out.size)
        clear hb6
        have P7 := Lib.hid (bytesK _ _ L.length c5 L.length c2 L L _ Rx.out Rb.out)
        rw [Cur.eqB_self] at P7
        go_wp2_with fail
        go_must (go_fit P7.out)
        rintro e w7 ⟨rfl, rfl⟩
        go_wp2
        go_ret
        exact ⟨rfl, BE.out⟩
      · have hkz : (16 : Int) < (kk : Int) + 1 := by omega
        have PW := CP.out.2 h16
        have P2 := Lib.hid (treeparse_any w2 Rb.out (Nat.le_refl _) hcap hcm (by omega))
        generalize withinT L 16 = q at *
        obtain ⟨t', qc, qo⟩ := q
        have PW' : qc = 5 := PW
        subst PW'
        clear PW CP
        rw [if_neg h16, if_neg h16] at EB
        rw [EB.out.1, EB.out.2] at P3
        rw [CV.out, decide_eq_false h16] at P5
        go_wp2_with fail
        go_must (go_fit P2.out)
        rintro e w4 ⟨v4, rfl, hn4, hb4⟩
        replace hn4 := hn4.fresh
        replace Ta := Lib.hid (stayK Ta.out hb4)
        replace Na := Lib.hid (Na.out.past hb4)
        replace Rb := Lib.hid (Rb.out.past hb4)
        replace BE := Lib.hid (two_belowK BE.out hb4 BE.out.size)
        clear hb4
        obtain ⟨A4, c4, K4, ck4, rfl⟩ := hn4.formV
        have Nb := Lib.hid hn4
        clear hn4
        replace Ta := Lib.hid (bk_old (o' := (.cells #[.int .i64 t'.cls, .int .i64 t'.num, .bool t'.cons, .slice A4 t'.con.length c4, .slice K4 t'.kids.length ck4] 26)) Ta.out)
        replace Na := Lib.hid (Na.out.allocS (.cells #[.int .i64 t'.cls, .int .i64 t'.num, .bool t'.cons, .slice A4 t'.con.length c4, .slice K4 t'.kids.length ck4] 26))
        replace Nb := Lib.hid (Nb.out.allocS (.cells #[.int .i64 t'.cls, .int .i64 t'.num, .bool t'.cons, .slice A4 t'.con.length c4, .slice K4 t'.kids.length ck4] 26))
        replace Rb := Lib.hid (Rb.out.allocS (.cells #[.int .i64 t'.cls, .int .i64 t'.num, .bool t'.cons, .slice A4 t'.con.length c4, .slice K4 t'.kids.length ck4] 26))
        replace BE := Lib.hid (BE.out.alloc BE.out.size (.cells #[.int .i64 t'.cls, .int .i64 t'.num, .bool t'.cons, .slice A4 t'.con.length c4, .slice K4 t'.kids.length ck4] 26))
        replace Ta := Lib.hid (bk_old (o' := (.cells #[.int .i64 5, .int .i64 qo] 29)) Ta.out)
        replace Na := Lib.hid (Na.out.allocS (.cells #[.int .i64 5, .int .i64 qo] 29))
        replace Nb := Lib.hid (Nb.out.allocS (.cells #[.int .i64 5, .int .i64 qo] 29))
        replace Rb := Lib.hid (Rb.out.allocS (.cells #[.int .i64 5, .int .i64 qo] 29))
        replace BE := Lib.hid (BE.out.alloc BE.out.size (.cells #[.int .i64 5, .int .i64 qo] 29))
        have Tbn : Hid (((w4.alloc (.cells #[.int .i64 t'.cls, .int .i64 t'.num, .bool t'.cons, .slice A4 t'.con.length c4, .slice K4 t'.kids.length ck4] 26)).alloc (.cells #[.int .i64 5, .int .i64 qo] 29)).heap[w4.heap.size]? = some (.cells #[.int .i64 t'.cls, .int .i64 t'.num, .bool t'.cons, .slice A4 t'.con.length c4, .slice K4 t'.kids.length ck4] 26 (0, 0))) := Lib.hid (bk_old (bk_new rfl))
        have Tbe : Hid (((w4.alloc (.cells #[.int .i64 t'.cls, .int .i64 t'.num, .bool t'.cons, .slice A4 t'.con.length c4, .slice K4 t'.kids.length ck4] 26)).alloc (.cells #[.int .i64 5, .int .i64 qo] 29)).heap[w4.heap.size + 1]? = some (.cells #[.int .i64 5, .int .i64 qo] 29 (0, 0))) := Lib.hid (bk_new (by simp))
        clear P2
        have P4 := Lib.hid (P3.out _ _ Na.out)
        clear P3
        obtain ⟨u0, u1, u2, u3, u4⟩ := cells5 Ta.out
        go_wp2_with fail
        go_must (go_fit P4.out)
        rintro e w5 ⟨A5, c5, rfl, ho5, hb5⟩
        clear u0 u1 u2 u3 u4
        clear P4 ho5
        replace Ta := Lib.hid (stayK Ta.out hb5)
        replace Tbn := Lib.hid (stayK Tbn.out hb5)
        replace Tbe := Lib.hid (stayK Tbe.out hb5)
        replace Na := Lib.hid (Na.out.past hb5)
        replace Nb := Lib.hid (Nb.out.past hb5)
        replace Rb := Lib.hid (Rb.out.past hb5)
        replace BE := Lib.hid (two_belowK BE.out hb5 BE.out.size)
        clear hb5
        have P6 := Lib.hid (P5.out _ _ Na.out)
        clear P5
        obtain ⟨x0, x1⟩ := cells2 Tbe.out
        obtain ⟨u0, u1, u2, u3, u4⟩ := cells5 Ta.out
        go_wp2_with fail
        go_must (go_fit P6.out)
        rintro e w6 ⟨rfl, hb6⟩
        clear x0 x1
        clear u0 u1 u2 u3 u4
        clear P6
        replace Ta := Lib.hid (stayK Ta.out hb6)
        replace Tbn := Lib.hid (stayK Tbn.out hb6)
        replace Tbe := Lib.hid (stayK Tbe.out hb6)
        replace Na := Lib.hid (Na.out.past hb6)
        replace Nb := Lib.hid (Nb.out.past hb6)
        replace Rb := Lib.hid (Rb.out.past hb6)
        replace BE := Lib.hid (two_belowK BE.out hb6 BE.out.size)
        clear hb6
        go_wp2
        go_ret
        exact ⟨rfl, BE.out⟩
end Go.Proofs.Ytoomdaljdbennaa
