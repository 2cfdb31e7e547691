/- Walks: ParsePair of the reference's validity. Printed by gen_valp.py. -/
import Derived.Test.YtnpmgofkfdpbjaaQValO
set_option linter.unusedSimpArgs false
set_option linter.unusedVariables false
namespace Go.Proofs.Ytnpmgofkfdpbjaa.Val
open Go.RowKit Kit Tlv Bas

def RawP (w : World) (l L : List UInt8) (cd y m d h mi s y' m' d' h' mi' s' : Int) (e : Ending) (w' : World) : Prop :=
  ∃ y2 m2 d2 h2 mi2 s2 y'2 m'2 d'2 h'2 mi'2 s'2 b, e = .returned (.tuple #[Clk.time y2 m2 d2 h2 mi2 s2, Clk.time y'2 m'2 d'2 h'2 mi'2 s'2, .bool b]) ∧ (cd = 0 ∧ L = l ∧ (y2 = y ∧ m2 = m ∧ d2 = d ∧ h2 = h ∧ mi2 = mi ∧ s2 = s ∧ y'2 = y' ∧ m'2 = m' ∧ d'2 = d' ∧ h'2 = h' ∧ mi'2 = mi' ∧ s'2 = s') ∧ b = true ∨ ¬ (cd = 0 ∧ L = l) ∧ (y2 = 0 ∧ m2 = 0 ∧ d2 = 0 ∧ h2 = 0 ∧ mi2 = 0 ∧ s2 = 0 ∧ y'2 = 0 ∧ m'2 = 0 ∧ d'2 = 0 ∧ h'2 = 0 ∧ mi'2 = 0 ∧ s'2 = 0) ∧ b = false) ∧ Below w.heap.size w w'
set_option maxRecDepth 100000 in
set_option maxHeartbeats 4000000 in
theorem refppair_raw {A : Option Addr} {n c B : Nat} {l : List UInt8} {y m d h mi s y' m' d' h' mi' s' : Int} (w : World) (hr : Rd w B A n l) (hB : B ≤ w.heap.size) (hc : n ≤ c) (hm : c ≤ maxLen) (hn : n ≤ 100000)
    (hd0 : ∀ (g1 : Int) (g3 : Bool) (A K : Option Addr) (c mk ck : Nat) (X : World), Rd X X.heap.size A (kidT (Tree.withinT l 60).1.kids 0).con.length (kidT (Tree.withinT l 60).1.kids 0).con →
      Calls Try.prog 113 #[.agg #[.int .i64 g1, .int .i64 (kidT (Tree.withinT l 60).1.kids 0).num, .bool g3, .slice A (kidT (Tree.withinT l 60).1.kids 0).con.length c, .slice K mk ck]] X fun e w' => e = .returned (Clk.time y m d h mi s) ∧ Below X.heap.size X w')
    (hd1 : ∀ (g1 : Int) (g3 : Bool) (A K : Option Addr) (c mk ck : Nat) (X : World), Rd X X.heap.size A (kidT (Tree.withinT l 60).1.kids 1).con.length (kidT (Tree.withinT l 60).1.kids 1).con →
      Calls Try.prog 113 #[.agg #[.int .i64 g1, .int .i64 (kidT (Tree.withinT l 60).1.kids 1).num, .bool g3, .slice A (kidT (Tree.withinT l 60).1.kids 1).con.length c, .slice K mk ck]] X fun e w' => e = .returned (Clk.time y' m' d' h' mi' s') ∧ Below X.heap.size X w') :
    Calls Try.prog 53 #[.slice A n c] w (RawP w l (pairL y m d h mi s y' m' d' h' mi' s') (pairC y m d h mi s y' m' d' h' mi' s') y m d h mi s y' m' d' h' mi' s') := by
  have hl := hr.len
  have hkl := Tree.withinT_klen l 60 (by omega)
  have DP := Lib.hid (fun (X : World) (h : Rd X B A n l) (hB : B ≤ X.heap.size) => Tree.deep_any X h hB hc hm (by omega))
  have HR := Lib.hid hr
  have MD := Lib.hid (fun X => refmarpair_any y m d h mi s y' m' d' h' mi' s' X)
  have RN0 := Lib.hid hd0
  have RN1 := Lib.hid hd1
  clear hr hd0 hd1
  generalize Tree.withinT l 60 = q at *
  obtain ⟨⟨g1, g2, g3, gc, gk⟩, qc, qo⟩ := q
  simp only [Tree.T.kids] at RN0 RN1
  have hkk : gk.length ≤ 1000000 := by have : gk.length ≤ l.length := hkl; omega
  have KI0 := Lib.hid (fun (P : Nat → Prop) (v : Value) (X : World) (h : Tree.NodeR 60 X P v (.mk g1 g2 g3 gc gk)) hP => refkid_any 0 (by omega) X h hP hkk)
  have KI1 := Lib.hid (fun (P : Nat → Prop) (v : Value) (X : World) (h : Tree.NodeR 60 X P v (.mk g1 g2 g3 gc gk)) hP => refkid_any 1 (by omega) X h hP hkk)
  clear hkl hkk hl
  generalize kidT gk 0 = ka at *
  generalize kidT gk 1 = kb at *
  obtain ⟨a1, a2, a3, ac, ak⟩ := ka
  obtain ⟨b1, b2, b3, bc, bk⟩ := kb
  simp only [Tree.T.con, Tree.T.num] at RN0 RN1
  generalize pairL y m d h mi s y' m' d' h' mi' s' = L at *
  generalize pairC y m d h mi s y' m' d' h' mi' s' = cd at *
  have ta : ((w.alloc (.cells #[.int .i64 0, .int .i64 0, .int .i64 0, .int .i64 0, .int .i64 0, .int .i64 0] 28)).alloc (.cells #[.int .i64 0, .int .i64 0, .int .i64 0, .int .i64 0, .int .i64 0, .int .i64 0] 28)).heap[w.heap.size]? = _ := bk_old (bk_new rfl)
  have tb : ((w.alloc (.cells #[.int .i64 0, .int .i64 0, .int .i64 0, .int .i64 0, .int .i64 0, .int .i64 0] 28)).alloc (.cells #[.int .i64 0, .int .i64 0, .int .i64 0, .int .i64 0, .int .i64 0, .int .i64 0] 28)).heap[w.heap.size + 1]? = _ := bk_new (by simp)
  have BE0 := Lib.hid (show Below w.heap.size w ((w.alloc (.cells #[.int .i64 0, .int .i64 0, .int .i64 0, .int .i64 0, .int .i64 0, .int .i64 0] 28)).alloc (.cells #[.int .i64 0, .int .i64 0, .int .i64 0, .int .i64 0, .int .i64 0, .int .i64 0] 28)) from (by repeat' (first | (with_reducible exact Below.refl _ _) | (with_reducible assumption) | (with_reducible refine below_drewN ?_ _) | (with_reducible refine Below.drew ?_) | (with_reducible refine Below.alloc ?_ ?_ _) | (with_reducible refine Below.setCell ?_ ?_ _) | go_size)))
  have R0 := Lib.hid ((HR.out.alloc hB (.cells #[.int .i64 0, .int .i64 0, .int .i64 0, .int .i64 0, .int .i64 0, .int .i64 0] 28)).alloc (by simp; omega) (.cells #[.int .i64 0, .int .i64 0, .int .i64 0, .int .i64 0, .int .i64 0, .int .i64 0] 28))
  go_enter Try.func53, Try.ntmps53
  go_upto_region 1 with fail
  generalize ((w.alloc (.cells #[.int .i64 0, .int .i64 0, .int .i64 0, .int .i64 0, .int .i64 0, .int .i64 0] 28)).alloc (.cells #[.int .i64 0, .int .i64 0, .int .i64 0, .int .i64 0, .int .i64 0, .int .i64 0] 28)) = w0 at *
  have TA0 := Lib.hid ta
  have TB0 := Lib.hid tb
  clear ta tb
  go_upto_region 2 with (first | (go_at_call 97; go_must (refine (DP.out _ R0.out (Nat.le_trans hB BE0.out.size)).mono ?_); rintro e w1 ⟨v', ok, rfl, hnv, hb1⟩; have HN := Lib.hid hnv; obtain ⟨A6, c6, K6, ck6, rfl, -, -, -⟩ := hnv.formR))
  have t1 : (w1.alloc (.cells #[.int .i64 g1, .int .i64 g2, .bool g3, .slice A6 gc.length c6, .slice K6 gk.length ck6] 105)).heap[w1.heap.size]? = _ := bk_new rfl
  have TA1 := Lib.hid (bk_old (o' := (.cells #[.int .i64 g1, .int .i64 g2, .bool g3, .slice A6 gc.length c6, .slice K6 gk.length ck6] 105)) (stayK TA0.out hb1))
  have TB1 := Lib.hid (bk_old (o' := (.cells #[.int .i64 g1, .int .i64 g2, .bool g3, .slice A6 gc.length c6, .slice K6 gk.length ck6] 105)) (stayK TB0.out hb1))
  have b1' := two_belowK BE0.out hb1 BE0.out.size
  have BE1 := Lib.hid (b1'.alloc b1'.size (.cells #[.int .i64 g1, .int .i64 g2, .bool g3, .slice A6 gc.length c6, .slice K6 gk.length ck6] 105))
  have NV := Lib.hid (HN.out.keep (Tree.Keeps.alloc w1 (.cells #[.int .i64 g1, .int .i64 g2, .bool g3, .slice A6 gc.length c6, .slice K6 gk.length ck6] 105) (fun b h => h.2)))
  have hz : (w1.alloc (.cells #[.int .i64 g1, .int .i64 g2, .bool g3, .slice A6 gc.length c6, .slice K6 gk.length ck6] 105)).heap.size = w1.heap.size + 1 := by simp
  clear hnv hb1 DP TA0 TB0 BE0 HN R0 b1'
  generalize hg4 : w1.heap.size = b5 at *
  generalize w1.alloc (.cells #[.int .i64 g1, .int .i64 g2, .bool g3, .slice A6 gc.length c6, .slice K6 gk.length ck6] 105) = w2 at *
  clear hg4 w1
  have T5 := Lib.hid t1
  obtain ⟨u0, u1, u2, u3, u4⟩ := cells5 t1
  have DX := Lib.hid (KI0.out _ _ w2 NV.out (fun b h => by have := h.2; omega))
  have HZ := Lib.hid hz
  clear t1 hz
  go_wp2_with fail
  go_must (go_fit DX.out)
  rintro e w3 ⟨A3, c3, K3, m3, ck3, rfl, r3, hb3⟩
  simp only [Tree.T.cls, Tree.T.num, Tree.T.cons, Tree.T.con] at r3 ⊢
  have DY := Lib.hid (RN0.out a1 a3 A3 K3 c3 m3 ck3 w3 r3)
  have TA3 := Lib.hid (stayK TA1.out hb3)
  have TB3 := Lib.hid (stayK TB1.out hb3)
  have T53 := Lib.hid (stayK T5.out hb3)
  have BE3 := Lib.hid (two_belowK BE1.out hb3 BE1.out.size)
  have NV3 := Lib.hid (NV.out.keep (Tree.Keeps.below hb3 (fun b h => by have := h.2; have := HZ.out; omega)))
  have z3 := hb3.size
  clear hb3 r3 DX TA1 TB1 T5 BE1 NV u0 u1 u2 u3 u4 RN0
  go_upto_region 3 with (first | (go_at_call 113; go_must (go_fit DY.out); rintro e w4 ⟨rfl, hb4⟩))
  have t4 : (w4.alloc (.cells #[.int .i64 y, .int .i64 m, .int .i64 d, .int .i64 h, .int .i64 mi, .int .i64 s] 28)).heap[w4.heap.size]? = _ := bk_new rfl
  have TA4 := Lib.hid (bk_old (o' := (.cells #[.int .i64 y, .int .i64 m, .int .i64 d, .int .i64 h, .int .i64 mi, .int .i64 s] 28)) (stayK TA3.out hb4))
  have TB4 := Lib.hid (bk_old (o' := (.cells #[.int .i64 y, .int .i64 m, .int .i64 d, .int .i64 h, .int .i64 mi, .int .i64 s] 28)) (stayK TB3.out hb4))
  have T54 := Lib.hid (bk_old (o' := (.cells #[.int .i64 y, .int .i64 m, .int .i64 d, .int .i64 h, .int .i64 mi, .int .i64 s] 28)) (stayK T53.out hb4))
  have b4' := two_belowK BE3.out hb4 BE3.out.size
  have BE4 := Lib.hid (b4'.alloc b4'.size (.cells #[.int .i64 y, .int .i64 m, .int .i64 d, .int .i64 h, .int .i64 mi, .int .i64 s] 28))
  have z4 := hb4.size
  have NV4 := Lib.hid (NV3.out.keep ((Tree.Keeps.below hb4 (fun b h => by have := h.2; have := HZ.out; omega)).trans (Tree.Keeps.alloc w4 (.cells #[.int .i64 y, .int .i64 m, .int .i64 d, .int .i64 h, .int .i64 mi, .int .i64 s] 28) (fun b h => by have := h.2; have := HZ.out; omega))))
  have hz4 : (w4.alloc (.cells #[.int .i64 y, .int .i64 m, .int .i64 d, .int .i64 h, .int .i64 mi, .int .i64 s] 28)).heap.size = w4.heap.size + 1 := by simp
  have hlo : w.heap.size + 1 < w4.heap.size := Nat.lt_of_lt_of_le (Blk_lt TB3.out) hb4.size
  clear hb4 DY TA3 TB3 T53 BE3 NV3 b4'
  have h54 : b5 < w4.heap.size := by have := HZ.out; omega
  have H7 : ∃ b7, b7 = w4.heap.size := ⟨_, rfl⟩
  obtain ⟨b7, h7⟩ := H7
  rw [← h7] at t4 hz4 hlo h54 ⊢
  generalize w4.alloc (.cells #[.int .i64 y, .int .i64 m, .int .i64 d, .int .i64 h, .int .i64 mi, .int .i64 s] 28) = w5 at *
  clear h7 w4 z4 z3
  have T7 := Lib.hid t4
  obtain ⟨u0, u1, u2, u3, u4⟩ := cells5 T54.out
  have DX := Lib.hid (KI1.out _ _ w5 NV4.out (fun b h => by have := h.2; omega))
  clear t4 KI0 KI1 NV4 HZ
  go_wp2_with fail
  go_must (go_fit DX.out)
  rintro e w6 ⟨A3', c3', K3', m3', ck3', rfl, r6, hb6⟩
  simp only [Tree.T.cls, Tree.T.num, Tree.T.cons, Tree.T.con] at r6 ⊢
  have DY := Lib.hid (RN1.out b1 b3 A3' K3' c3' m3' ck3' w6 r6)
  have TA6 := Lib.hid (stayK TA4.out hb6)
  have TB6 := Lib.hid (stayK TB4.out hb6)
  have T76 := Lib.hid (stayK T7.out hb6)
  have BE6 := Lib.hid (two_belowK BE4.out hb6 BE4.out.size)
  clear r6 DX TA4 TB4 T54 T7 BE4 u0 u1 u2 u3 u4 RN1 hb6
  go_upto_region 4 with (first | (go_at_call 113; go_must (go_fit DY.out); rintro e w7 ⟨rfl, hb7⟩))
  have t8 : (w7.alloc (.cells #[.int .i64 y', .int .i64 m', .int .i64 d', .int .i64 h', .int .i64 mi', .int .i64 s'] 28)).heap[w7.heap.size]? = _ := bk_new rfl
  have TA7 := Lib.hid (bk_old (o' := (.cells #[.int .i64 y', .int .i64 m', .int .i64 d', .int .i64 h', .int .i64 mi', .int .i64 s'] 28)) (stayK TA6.out hb7))
  have TB7 := Lib.hid (bk_old (o' := (.cells #[.int .i64 y', .int .i64 m', .int .i64 d', .int .i64 h', .int .i64 mi', .int .i64 s'] 28)) (stayK TB6.out hb7))
  have T77 := Lib.hid (bk_old (o' := (.cells #[.int .i64 y', .int .i64 m', .int .i64 d', .int .i64 h', .int .i64 mi', .int .i64 s'] 28)) (stayK T76.out hb7))
  have b7' := two_belowK BE6.out hb7 BE6.out.size
  have BE7 := Lib.hid (b7'.alloc b7'.size (.cells #[.int .i64 y', .int .i64 m', .int .i64 d', .int .i64 h', .int .i64 mi', .int .i64 s'] 28))
  have hlo2 : b7 < w7.heap.size := Nat.lt_of_lt_of_le (Blk_lt T76.out) hb7.size
  clear hb7 DY TA6 TB6 T76 BE6 b7'
  have H8 : ∃ b8, b8 = w7.heap.size := ⟨_, rfl⟩
  obtain ⟨b8, h8⟩ := H8
  rw [← h8] at t8 hlo2 ⊢
  generalize w7.alloc (.cells #[.int .i64 y', .int .i64 m', .int .i64 d', .int .i64 h', .int .i64 mi', .int .i64 s'] 28) = w8 at *
  clear h8 w7
  have T8 := Lib.hid t8
  obtain ⟨q0, q1, q2, q3, q4, q5⟩ := cells6 T77.out
  obtain ⟨x0, x1, x2, x3, x4, x5⟩ := cells6 t8
  clear t8
  go_upto_region 5 with (first | (go_at_call 55; go_must (go_fit (MD.out _)); rintro e w9 ⟨A7, c7, rfl, o7, hb9⟩))
  have BE8 := Lib.hid (two_belowK BE7.out hb9 BE7.out.size)
  have HR5 := Lib.hid (HR.out.below (BE8.out.mono hB))
  have R7 := Lib.hid o7.rd
  have TA := Lib.hid (stayK TA7.out hb9)
  have TB := Lib.hid (stayK TB7.out hb9)
  have T79 := Lib.hid (stayK T77.out hb9)
  have T89 := Lib.hid (stayK T8.out hb9)
  clear o7 hb9 q0 q1 q2 q3 q4 q5 x0 x1 x2 x3 x4 x5 TA7 TB7 T77 T8 BE7 MD HR
  have BY := Lib.hid (Cur.bytes_any A7 A L.length c7 n c _ _ w9 R7.out HR5.out)
  have n1 : ¬ b7 = w.heap.size := by omega
  have n2 : ¬ w.heap.size = b7 := by omega
  have n3 : ¬ b7 = w.heap.size + 1 := by omega
  have n4 : ¬ w.heap.size + 1 = b7 := by omega
  have n5 : ¬ b8 = w.heap.size := by omega
  have n6 : ¬ w.heap.size = b8 := by omega
  have n7 : ¬ b8 = w.heap.size + 1 := by omega
  have n8 : ¬ w.heap.size + 1 = b8 := by omega
  obtain ⟨q0, q1, q2, q3, q4, q5⟩ := cells6 T79.out
  obtain ⟨x0, x1, x2, x3, x4, x5⟩ := cells6 T89.out
  obtain ⟨f0, f1, f2, f3, f4, f5⟩ := Clk.free6 TA.out
  obtain ⟨e0, e1, e2, e3, e4, e5⟩ := Clk.free6 TB.out
  obtain ⟨u0, u1, u2, u3, u4, u5⟩ := cells6 TA.out
  obtain ⟨v0, v1, v2, v3, v4, v5⟩ := cells6 TB.out
  by_cases hcd : cd = 0
  · subst hcd
    by_cases hll : L = l
    · subst hll
      rw [Cur.eqB_self] at BY
      go_wp2_with fail
      go_must (go_fit BY.out)
      rintro e w10 ⟨rfl, rfl⟩
      go_upto_region 7 with fail
      go_region
      all_goals
        go_wp2
        clear q0 q1 q2 q3 q4 q5 x0 x1 x2 x3 x4 x5 f0 f1 f2 f3 f4 f5 e0 e1 e2 e3 e4 e5 u0 u1 u2 u3 u4 u5 v0 v1 v2 v3 v4 v5
        have bel := BE8.out
        have tc := cells6 (far6 (Clk.set6 (.int .i64 y) (.int .i64 m) (.int .i64 d) (.int .i64 h) (.int .i64 mi) (.int .i64 s) TA.out) (show w.heap.size ≠ w.heap.size + 1 by omega) (.int .i64 y') (.int .i64 m') (.int .i64 d') (.int .i64 h') (.int .i64 mi') (.int .i64 s'))
        have td := cells6 (Clk.set6 (.int .i64 y') (.int .i64 m') (.int .i64 d') (.int .i64 h') (.int .i64 mi') (.int .i64 s') (far6 TB.out (show w.heap.size + 1 ≠ w.heap.size by omega) (.int .i64 y) (.int .i64 m) (.int .i64 d) (.int .i64 h) (.int .i64 mi) (.int .i64 s)))
        refine bodyPost_ret (v := .tuple #[.agg #[.int .i64 y, .int .i64 m, .int .i64 d, .int .i64 h, .int .i64 mi, .int .i64 s], .agg #[.int .i64 y', .int .i64 m', .int .i64 d', .int .i64 h', .int .i64 mi', .int .i64 s'], .bool true]) (by simp [results, Try.results53, go_sem, *]) rfl ?_
        exact ⟨y, m, d, h, mi, s, y', m', d', h', mi', s', true, rfl, .inl ⟨rfl, rfl, ⟨rfl, rfl, rfl, rfl, rfl, rfl, rfl, rfl, rfl, rfl, rfl, rfl⟩, rfl⟩, (by repeat' (first | (with_reducible exact Below.refl _ _) | (with_reducible assumption) | (with_reducible refine below_drewN ?_ _) | (with_reducible refine Below.drew ?_) | (with_reducible refine Below.alloc ?_ ?_ _) | (with_reducible refine Below.setCell ?_ ?_ _) | go_size))⟩
    · have hq : Cur.eqB L l = false := by simp [Cur.eqB, hll]
      rw [hq] at BY
      go_wp2_with fail
      go_must (go_fit BY.out)
      rintro e w10 ⟨rfl, rfl⟩
      go_wp2
      clear q0 q1 q2 q3 q4 q5 x0 x1 x2 x3 x4 x5 f0 f1 f2 f3 f4 f5 e0 e1 e2 e3 e4 e5 u0 u1 u2 u3 u4 u5 v0 v1 v2 v3 v4 v5
      have bel := BE8.out
      have tc := cells6 (far6 (Clk.set6 (.int .i64 0) (.int .i64 0) (.int .i64 0) (.int .i64 0) (.int .i64 0) (.int .i64 0) TA.out) (show w.heap.size ≠ w.heap.size + 1 by omega) (.int .i64 0) (.int .i64 0) (.int .i64 0) (.int .i64 0) (.int .i64 0) (.int .i64 0))
      have td := cells6 (Clk.set6 (.int .i64 0) (.int .i64 0) (.int .i64 0) (.int .i64 0) (.int .i64 0) (.int .i64 0) (far6 TB.out (show w.heap.size + 1 ≠ w.heap.size by omega) (.int .i64 0) (.int .i64 0) (.int .i64 0) (.int .i64 0) (.int .i64 0) (.int .i64 0)))
      refine bodyPost_ret (v := .tuple #[.agg #[.int .i64 0, .int .i64 0, .int .i64 0, .int .i64 0, .int .i64 0, .int .i64 0], .agg #[.int .i64 0, .int .i64 0, .int .i64 0, .int .i64 0, .int .i64 0, .int .i64 0], .bool false]) (by simp [results, Try.results53, go_sem, *]) rfl ?_
      exact ⟨0, 0, 0, 0, 0, 0, 0, 0, 0, 0, 0, 0, false, rfl, .inr ⟨fun x => hll x.2, ⟨rfl, rfl, rfl, rfl, rfl, rfl, rfl, rfl, rfl, rfl, rfl, rfl⟩, rfl⟩, (by repeat' (first | (with_reducible exact Below.refl _ _) | (with_reducible assumption) | (with_reducible refine below_drewN ?_ _) | (with_reducible refine Below.drew ?_) | (with_reducible refine Below.alloc ?_ ?_ _) | (with_reducible refine Below.setCell ?_ ?_ _) | go_size))⟩
  · go_wp2
    clear q0 q1 q2 q3 q4 q5 x0 x1 x2 x3 x4 x5 f0 f1 f2 f3 f4 f5 e0 e1 e2 e3 e4 e5 u0 u1 u2 u3 u4 u5 v0 v1 v2 v3 v4 v5
    have bel := BE8.out
    have tc := cells6 (far6 (Clk.set6 (.int .i64 0) (.int .i64 0) (.int .i64 0) (.int .i64 0) (.int .i64 0) (.int .i64 0) TA.out) (show w.heap.size ≠ w.heap.size + 1 by omega) (.int .i64 0) (.int .i64 0) (.int .i64 0) (.int .i64 0) (.int .i64 0) (.int .i64 0))
    have td := cells6 (Clk.set6 (.int .i64 0) (.int .i64 0) (.int .i64 0) (.int .i64 0) (.int .i64 0) (.int .i64 0) (far6 TB.out (show w.heap.size + 1 ≠ w.heap.size by omega) (.int .i64 0) (.int .i64 0) (.int .i64 0) (.int .i64 0) (.int .i64 0) (.int .i64 0)))
    refine bodyPost_ret (v := .tuple #[.agg #[.int .i64 0, .int .i64 0, .int .i64 0, .int .i64 0, .int .i64 0, .int .i64 0], .agg #[.int .i64 0, .int .i64 0, .int .i64 0, .int .i64 0, .int .i64 0, .int .i64 0], .bool false]) (by simp [results, Try.results53, go_sem, *]) rfl ?_
    exact ⟨0, 0, 0, 0, 0, 0, 0, 0, 0, 0, 0, 0, false, rfl, .inr ⟨fun x => hcd x.1, ⟨rfl, rfl, rfl, rfl, rfl, rfl, rfl, rfl, rfl, rfl, rfl, rfl⟩, rfl⟩, (by repeat' (first | (with_reducible exact Below.refl _ _) | (with_reducible assumption) | (with_reducible refine below_drewN ?_ _) | (with_reducible refine Below.drew ?_) | (with_reducible refine Below.alloc ?_ ?_ _) | (with_reducible refine Below.setCell ?_ ?_ _) | go_size))⟩

def RefW (w : World) (l : List UInt8) (e : Ending) (w' : World) : Prop :=
  ∃ y m d h mi s y' m' d' h' mi' s' b, e = .returned (.tuple #[Clk.time y m d h mi s, Clk.time y' m' d' h' mi' s', .bool b]) ∧ (b = true → pairB y m d h mi s y' m' d' h' mi' s' = true ∧ l = pairL y m d h mi s y' m' d' h' mi' s') ∧
    (b = false → (y = 0 ∧ m = 0 ∧ d = 0 ∧ h = 0 ∧ mi = 0 ∧ s = 0 ∧ y' = 0 ∧ m' = 0 ∧ d' = 0 ∧ h' = 0 ∧ mi' = 0 ∧ s' = 0) ∧ ∀ y m d h mi s y' m' d' h' mi' s', pairB y m d h mi s y' m' d' h' mi' s' = true → l ≠ pairL y m d h mi s y' m' d' h' mi' s') ∧ Below w.heap.size w w'
theorem within_pair {y m d h mi s y' m' d' h' mi' s' : Int} (hb : pairB y m d h mi s y' m' d' h' mi' s' = true) :
    (Tree.withinT (pairL y m d h mi s y' m' d' h' mi' s') 60).1.kids = [.mk 0 (shV y m d h mi s).2.1 false (shV y m d h mi s).2.2.2 [], .mk 0 (shV y' m' d' h' mi' s').2.1 false (shV y' m' d' h' mi' s').2.2.2 []] := by
  obtain ⟨v1, v2, -, e⟩ := pair_yes hb
  obtain ⟨c1, e1⟩ := shV_ok v1
  obtain ⟨c2, e2⟩ := shV_ok v2
  have l1 := val_len (y := y) (m := m) (d := d) (h := h) (mi := mi) (s := s)
  have l2 := val_len (y := y') (m := m') (d := d') (h := h') (mi := mi') (s := s')
  rw [shV_form] at c1 c2 e1 e2
  have hcat : Tree.catE (([(0, (shV y m d h mi s).2.1, (shV y m d h mi s).2.2.2), (0, (shV y' m' d' h' mi' s').2.1, (shV y' m' d' h' mi' s').2.2.2)] : List Tree.Pr).map Tree.primE) = valL y m d h mi s ++ valL y' m' d' h' mi' s' := by
    simp only [List.map_cons, List.map_nil, Tree.catE, Tree.primE, List.append_nil]
    rw [← e1, ← e2]
    rfl
  have hq : ∀ q, q ∈ ([(0, (shV y m d h mi s).2.1, (shV y m d h mi s).2.2.2), (0, (shV y' m' d' h' mi' s').2.1, (shV y' m' d' h' mi' s').2.2.2)] : List Tree.Pr) → encCode q.1 q.2.1 q.2.2.length = 0 := by
    intro q hq
    simp only [List.mem_cons, List.not_mem_nil, or_false] at hq
    rcases hq with rfl | rfl
    · exact c1
    · exact c2
  rw [e, ← hcat, Tree.within_seq hq (by rw [hcat]; exact seq_code (by rw [List.length_append]; omega))]
  rfl
theorem pairC_zero {y m d h mi s y' m' d' h' mi' s' : Int} (h0 : pairC y m d h mi s y' m' d' h' mi' s' = 0) : pairB y m d h mi s y' m' d' h' mi' s' = true := by
  cases hb : pairB y m d h mi s y' m' d' h' mi' s' with
  | true => rfl
  | false => rw [(pair_no hb).1] at h0; omega
theorem kid_con {l : List UInt8} (hl : l.length ≤ 100000) (i : Nat) : (kidT (Tree.withinT l 60).1.kids i).con.length ≤ 100000 := by
  unfold kidT
  cases hk : (Tree.withinT l 60).1.kids[i]? with
  | none => simp [Tree.T.zero, Tree.T.con]
  | some t => exact Nat.le_trans ((Tree.withinT_con l 60).2 t (List.mem_of_getElem? hk)) hl
theorem refppair_any {A : Option Addr} {n c B : Nat} {l : List UInt8} (w : World) (hr : Rd w B A n l) (hB : B ≤ w.heap.size) (hc : n ≤ c) (hm : c ≤ maxLen) (hn : n ≤ 100000) :
    Calls Try.prog 53 #[.slice A n c] w (RefW w l) := by
  have hl := hr.len
  obtain ⟨y, m, d, h, mi, s, hrd, hC⟩ := refreadV_any (kidT (Tree.withinT l 60).1.kids 0).num (kidT (Tree.withinT l 60).1.kids 0).con (kid_con (by omega) 0)
  obtain ⟨y', m', d', h', mi', s', hrd', hC'⟩ := refreadV_any (kidT (Tree.withinT l 60).1.kids 1).num (kidT (Tree.withinT l 60).1.kids 1).con (kid_con (by omega) 1)
  refine (refppair_raw w hr hB hc hm hn hC hC').mono ?_
  rintro e w' ⟨y2, m2, d2, h2, mi2, s2, y'2, m'2, d'2, h'2, mi'2, s'2, b, rfl, hh, hb⟩
  rcases hh with ⟨h1, h2, ⟨rfl, rfl, rfl, rfl, rfl, rfl, rfl, rfl, rfl, rfl, rfl, rfl⟩, rfl⟩ | ⟨h1, ⟨rfl, rfl, rfl, rfl, rfl, rfl, rfl, rfl, rfl, rfl, rfl, rfl⟩, rfl⟩
  · exact ⟨_, _, _, _, _, _, _, _, _, _, _, _, true, rfl, fun _ => ⟨pairC_zero h1, h2.symm⟩, (fun h => by cases h), hb⟩
  · refine ⟨0, 0, 0, 0, 0, 0, 0, 0, 0, 0, 0, 0, false, rfl, (fun h => by cases h), fun _ => ⟨⟨rfl, rfl, rfl, rfl, rfl, rfl, rfl, rfl, rfl, rfl, rfl, rfl⟩, fun a b c e f g a' b' c' e' f' g' hv he => h1 ?_⟩, hb⟩
    have hw := within_pair hv
    rw [← he] at hw
    rw [hw] at hrd hrd'
    obtain ⟨v1, v2, p1, -⟩ := pair_yes hv
    obtain ⟨rfl, rfl, rfl, rfl, rfl, rfl⟩ := rdV_back v1 rfl rfl hrd
    obtain ⟨rfl, rfl, rfl, rfl, rfl, rfl⟩ := rdV_back v2 rfl rfl hrd'
    exact ⟨p1, he.symm⟩
end Go.Proofs.Ytnpmgofkfdpbjaa.Val
