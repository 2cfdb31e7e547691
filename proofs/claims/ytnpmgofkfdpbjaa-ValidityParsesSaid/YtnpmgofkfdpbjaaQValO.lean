/- Walks: Parse of the reference's validity. Printed by gen_valo.py. -/
import Derived.Test.YtnpmgofkfdpbjaaQValN
import Derived.Test.YtnpmgofkfdpbjaaQValK
set_option linter.unusedSimpArgs false
set_option linter.unusedVariables false
namespace Go.Proofs.Ytnpmgofkfdpbjaa.Val
open Go.RowKit Kit Tlv

theorem rdV_back {num : Int} {con : List UInt8} {y m d h mi s a b c e f g : Int} (hv : valB a b c e f g = true) (hn : num = (shV a b c e f g).2.1) (hk : con = (shV a b c e f g).2.2.2) (hr : RdV num con y m d h mi s) :
    y = a ∧ m = b ∧ d = c ∧ h = e ∧ mi = f ∧ s = g := by
  by_cases hy : a ≤ 2049
  · obtain ⟨_, _, f3, _⟩ := val_utc hv hy
    obtain ⟨k0, k1, k2, k3, k4, k5, k6⟩ := Clk.utc_back f3
    unfold shV at hn hk
    rw [if_pos hy] at hn hk
    simp only [] at hn hk
    subst hn hk
    rcases hr with ⟨_, _, r1, r2, r3, r4, r5, r6⟩ | ⟨r0, _⟩ | ⟨r0, _⟩
    · exact ⟨r1.trans k1, r2.trans k2, r3.trans k3, r4.trans k4, r5.trans k5, r6.trans k6⟩
    · exact absurd rfl r0
    · exact absurd ⟨rfl, k0⟩ r0
  · obtain ⟨_, _, f3, _⟩ := val_gen hv hy
    obtain ⟨k0, k1, k2, k3, k4, k5, k6⟩ := Clk.gen_back f3
    unfold shV at hn hk
    rw [if_neg hy] at hn hk
    simp only [] at hn hk
    subst hn hk
    rcases hr with ⟨r0, _⟩ | ⟨_, _, r1, r2, r3, r4, r5, r6⟩ | ⟨_, r0, _⟩
    · exact absurd r0 (by decide)
    · exact ⟨r1.trans k1, r2.trans k2, r3.trans k3, r4.trans k4, r5.trans k5, r6.trans k6⟩
    · exact absurd ⟨by decide, k0⟩ r0
theorem shV_form (a b c e f g : Int) : shV a b c e f g = (0, (shV a b c e f g).2.1, false, (shV a b c e f g).2.2.2) := by unfold shV; split <;> rfl
theorem within_val {a b c e f g : Int} (hv : valB a b c e f g = true) : (Tree.withinT (valL a b c e f g) 60).1 = .mk 0 (shV a b c e f g).2.1 false (shV a b c e f g).2.2.2 [] := by
  obtain ⟨k1, k2⟩ := shV_ok hv
  rw [← k2]
  have hf := shV_form a b c e f g
  have k3 : encCode 0 (shV a b c e f g).2.1 (shV a b c e f g).2.2.2.length = 0 := by rw [hf] at k1; exact k1
  have k4 : encS (shV a b c e f g) = encL 0 false (shV a b c e f g).2.1 (shV a b c e f g).2.2.2 := by rw [hf]; rfl
  rw [k4, Tree.within_prim 59 k3]

def RawV (w : World) (l L : List UInt8) (cd y m d h mi s : Int) (e : Ending) (w' : World) : Prop :=
  ∃ y' m' d' h' mi' s' b, e = .returned (.tuple #[Clk.time y' m' d' h' mi' s', .bool b]) ∧ (cd = 0 ∧ L = l ∧ (y' = y ∧ m' = m ∧ d' = d ∧ h' = h ∧ mi' = mi ∧ s' = s) ∧ b = true ∨ ¬ (cd = 0 ∧ L = l) ∧ (y' = 0 ∧ m' = 0 ∧ d' = 0 ∧ h' = 0 ∧ mi' = 0 ∧ s' = 0) ∧ b = false) ∧ Below w.heap.size w w'
set_option maxRecDepth 100000 in
set_option maxHeartbeats 2000000 in
theorem refparseV_raw {A : Option Addr} {n c B : Nat} {l : List UInt8} {y m d h mi s : Int} (w : World) (hr : Rd w B A n l) (hB : B ≤ w.heap.size) (hc : n ≤ c) (hm : c ≤ maxLen) (hn : n ≤ 100000)
    (hd : ∀ (g1 : Int) (g3 : Bool) (A K : Option Addr) (c mk ck : Nat) (X : World), Rd X X.heap.size A (Tree.withinT l 60).1.con.length (Tree.withinT l 60).1.con →
      Calls Try.prog 113 #[.agg #[.int .i64 g1, .int .i64 (Tree.withinT l 60).1.num, .bool g3, .slice A (Tree.withinT l 60).1.con.length c, .slice K mk ck]] X fun e w' => e = .returned (Clk.time y m d h mi s) ∧ Below X.heap.size X w') :
    Calls Try.prog 51 #[.slice A n c] w (RawV w l (valL y m d h mi s) (valC y m d h mi s) y m d h mi s) := by
  have DP := Lib.hid (fun (X : World) (h : Rd X B A n l) (hB : B ≤ X.heap.size) => Tree.deep_any X h hB hc hm (by omega))
  have HR := Lib.hid hr
  have MD := Lib.hid (fun X => refmarshalV_any y m d h mi s X)
  have RN := Lib.hid hd
  clear hr hd
  generalize Tree.withinT l 60 = q at *
  obtain ⟨⟨g1, g2, g3, gc, gk⟩, qc, qo⟩ := q
  simp only [Tree.T.con, Tree.T.num] at RN
  generalize valL y m d h mi s = L at *
  generalize valC y m d h mi s = cd at *
  have T0 := Lib.hid (show (w.alloc (.cells #[.int .i64 0, .int .i64 0, .int .i64 0, .int .i64 0, .int .i64 0, .int .i64 0] 28)).heap[w.heap.size]? = _ from bk_new rfl)
  have BE0 := Lib.hid ((Below.refl w.heap.size w).alloc (Nat.le_refl _) (.cells #[.int .i64 0, .int .i64 0, .int .i64 0, .int .i64 0, .int .i64 0, .int .i64 0] 28))
  go_enter Try.func51, Try.ntmps51
  go_upto_region 2 with (first | (go_at_call 97; go_must (refine (DP.out _ (HR.out.alloc hB _) (by simp; omega)).mono ?_); rintro e w1 ⟨v', ok, rfl, hnv, hb1⟩; obtain ⟨A6, c6, K6, ck6, rfl, hrd, -, -⟩ := hnv.formR))
  have t1 : (w1.alloc (.cells #[.int .i64 g1, .int .i64 g2, .bool g3, .slice A6 gc.length c6, .slice K6 gk.length ck6] 105)).heap[w1.heap.size]? = _ := bk_new rfl
  have hs1 := hb1.size
  simp only [World.size_alloc] at hs1
  have T1 := Lib.hid (bk_old (o' := (.cells #[.int .i64 g1, .int .i64 g2, .bool g3, .slice A6 gc.length c6, .slice K6 gk.length ck6] 105)) (stayK T0.out hb1))
  have BE1 := Lib.hid ((BE0.out.trans (hb1.mono (by simp))).alloc (by omega) (.cells #[.int .i64 g1, .int .i64 g2, .bool g3, .slice A6 gc.length c6, .slice K6 gk.length ck6] 105))
  have RK := Lib.hid ((hrd.rd (B := w1.heap.size) (fun b h => h.2)).allocS (.cells #[.int .i64 g1, .int .i64 g2, .bool g3, .slice A6 gc.length c6, .slice K6 gk.length ck6] 105))
  clear hnv hb1 DP T0 BE0 hrd
  generalize hg4 : w1.heap.size = b4 at *
  generalize w1.alloc (.cells #[.int .i64 g1, .int .i64 g2, .bool g3, .slice A6 gc.length c6, .slice K6 gk.length ck6] 105) = w2 at *
  clear hg4 w1
  obtain ⟨u0, u1, u2, u3, u4⟩ := cells5 t1
  have DX := Lib.hid (RN.out g1 g3 A6 K6 c6 gk.length ck6 w2 RK.out)
  clear t1 RN RK
  go_upto_region 3 with (first | (go_at_call 113; go_must (go_fit DX.out); rintro e w3 ⟨rfl, hb3⟩))
  have t3 : (w3.alloc (.cells #[.int .i64 y, .int .i64 m, .int .i64 d, .int .i64 h, .int .i64 mi, .int .i64 s] 28)).heap[w3.heap.size]? = _ := bk_new rfl
  have T3 := Lib.hid (bk_old (o' := (.cells #[.int .i64 y, .int .i64 m, .int .i64 d, .int .i64 h, .int .i64 mi, .int .i64 s] 28)) (stayK T1.out hb3))
  have b3 := two_belowK BE1.out hb3 BE1.out.size
  have BE3 := Lib.hid (b3.alloc b3.size (.cells #[.int .i64 y, .int .i64 m, .int .i64 d, .int .i64 h, .int .i64 mi, .int .i64 s] 28))
  have hlt : w.heap.size < w3.heap.size := Nat.lt_of_lt_of_le (Blk_lt T1.out) hb3.size
  clear hb3 DX T1 BE1 u0 u1 u2 u3 u4 b3
  generalize hg6 : w3.heap.size = b6 at *
  generalize w3.alloc (.cells #[.int .i64 y, .int .i64 m, .int .i64 d, .int .i64 h, .int .i64 mi, .int .i64 s] 28) = w4 at *
  clear hg6 w3
  have T6 := Lib.hid t3
  have n1 : ¬ b6 = w.heap.size := by omega
  have n2 : ¬ w.heap.size = b6 := by omega
  obtain ⟨q0, q1, q2, q3, q4, q5⟩ := cells6 t3
  clear t3
  go_upto_region 4 with (first | (go_at_call 26; go_must (go_fit (MD.out _)); rintro e w5 ⟨A7, c7, rfl, o7, hb5⟩))
  have BE5 := Lib.hid (two_belowK BE3.out hb5 BE3.out.size)
  have HR5 := Lib.hid (HR.out.below (BE5.out.mono hB))
  have R7 := Lib.hid o7.rd
  have T5 := Lib.hid (stayK T3.out hb5)
  have TB := Lib.hid (stayK T6.out hb5)
  clear o7 hb5 q0 q1 q2 q3 q4 q5 T3 T6 BE3 MD HR
  have BY := Lib.hid (Cur.bytes_any A7 A L.length c7 n c _ _ w5 R7.out HR5.out)
  obtain ⟨q0, q1, q2, q3, q4, q5⟩ := cells6 TB.out
  obtain ⟨f0, f1, f2, f3, f4, f5⟩ := Clk.free6 T5.out
  obtain ⟨u0, u1, u2, u3, u4, u5⟩ := cells6 T5.out
  by_cases hcd : cd = 0
  · subst hcd
    by_cases hll : L = l
    · subst hll
      rw [Cur.eqB_self] at BY
      go_wp2_with fail
      go_must (go_fit BY.out)
      rintro e w6 ⟨rfl, rfl⟩
      go_wp2
      clear q0 q1 q2 q3 q4 q5 f0 f1 f2 f3 f4 f5 u0 u1 u2 u3 u4 u5
      have bel := BE5.out
      have tc := cells6 (Clk.set6 (.int .i64 y) (.int .i64 m) (.int .i64 d) (.int .i64 h) (.int .i64 mi) (.int .i64 s) T5.out)
      refine bodyPost_ret (v := .tuple #[.agg #[.int .i64 y, .int .i64 m, .int .i64 d, .int .i64 h, .int .i64 mi, .int .i64 s], .bool true]) (by simp [results, Try.results51, go_sem, *]) rfl ?_
      exact ⟨y, m, d, h, mi, s, true, rfl, .inl ⟨rfl, rfl, ⟨rfl, rfl, rfl, rfl, rfl, rfl⟩, rfl⟩, (by repeat' (first | (with_reducible exact Below.refl _ _) | (with_reducible assumption) | (with_reducible refine below_drewN ?_ _) | (with_reducible refine Below.drew ?_) | (with_reducible refine Below.alloc ?_ ?_ _) | (with_reducible refine Below.setCell ?_ ?_ _) | go_size))⟩
    · have hq : Cur.eqB L l = false := by simp [Cur.eqB, hll]
      rw [hq] at BY
      go_wp2_with fail
      go_must (go_fit BY.out)
      rintro e w6 ⟨rfl, rfl⟩
      go_wp2
      clear q0 q1 q2 q3 q4 q5 f0 f1 f2 f3 f4 f5 u0 u1 u2 u3 u4 u5
      have bel := BE5.out
      have tc := cells6 (Clk.set6 (.int .i64 0) (.int .i64 0) (.int .i64 0) (.int .i64 0) (.int .i64 0) (.int .i64 0) T5.out)
      refine bodyPost_ret (v := .tuple #[.agg #[.int .i64 0, .int .i64 0, .int .i64 0, .int .i64 0, .int .i64 0, .int .i64 0], .bool false]) (by simp [results, Try.results51, go_sem, *]) rfl ?_
      exact ⟨0, 0, 0, 0, 0, 0, false, rfl, .inr ⟨fun x => hll x.2, ⟨rfl, rfl, rfl, rfl, rfl, rfl⟩, rfl⟩, (by repeat' (first | (with_reducible exact Below.refl _ _) | (with_reducible assumption) | (with_reducible refine below_drewN ?_ _) | (with_reducible refine Below.drew ?_) | (with_reducible refine Below.alloc ?_ ?_ _) | (with_reducible refine Below.setCell ?_ ?_ _) | go_size))⟩
  · go_wp2
    clear q0 q1 q2 q3 q4 q5 f0 f1 f2 f3 f4 f5 u0 u1 u2 u3 u4 u5
    have bel := BE5.out
    have tc := cells6 (Clk.set6 (.int .i64 0) (.int .i64 0) (.int .i64 0) (.int .i64 0) (.int .i64 0) (.int .i64 0) T5.out)
    refine bodyPost_ret (v := .tuple #[.agg #[.int .i64 0, .int .i64 0, .int .i64 0, .int .i64 0, .int .i64 0, .int .i64 0], .bool false]) (by simp [results, Try.results51, go_sem, *]) rfl ?_
    exact ⟨0, 0, 0, 0, 0, 0, false, rfl, .inr ⟨fun x => hcd x.1, ⟨rfl, rfl, rfl, rfl, rfl, rfl⟩, rfl⟩, (by repeat' (first | (with_reducible exact Below.refl _ _) | (with_reducible assumption) | (with_reducible refine below_drewN ?_ _) | (with_reducible refine Below.drew ?_) | (with_reducible refine Below.alloc ?_ ?_ _) | (with_reducible refine Below.setCell ?_ ?_ _) | go_size))⟩

def RefV (w : World) (l : List UInt8) (e : Ending) (w' : World) : Prop :=
  ∃ y m d h mi s b, e = .returned (.tuple #[Clk.time y m d h mi s, .bool b]) ∧ (b = true → valB y m d h mi s = true ∧ l = valL y m d h mi s) ∧
    (b = false → (y = 0 ∧ m = 0 ∧ d = 0 ∧ h = 0 ∧ mi = 0 ∧ s = 0) ∧ ∀ y m d h mi s, valB y m d h mi s = true → l ≠ valL y m d h mi s) ∧ Below w.heap.size w w'
theorem valC_zero {y m d h mi s : Int} (h0 : valC y m d h mi s = 0) : valB y m d h mi s = true := by
  cases hb : valB y m d h mi s with
  | true => rfl
  | false => rw [(val_no hb).1] at h0; omega
theorem refparseV_any {A : Option Addr} {n c B : Nat} {l : List UInt8} (w : World) (hr : Rd w B A n l) (hB : B ≤ w.heap.size) (hc : n ≤ c) (hm : c ≤ maxLen) (hn : n ≤ 100000) :
    Calls Try.prog 51 #[.slice A n c] w (RefV w l) := by
  have hl := hr.len
  obtain ⟨y, m, d, h, mi, s, hrd, hC⟩ := refreadV_any (Tree.withinT l 60).1.num (Tree.withinT l 60).1.con (Nat.le_trans (Tree.withinT_con l 60).1 (by omega))
  refine (refparseV_raw w hr hB hc hm hn hC).mono ?_
  rintro e w' ⟨y', m', d', h', mi', s', b, rfl, hh, hb⟩
  rcases hh with ⟨h1, h2, ⟨rfl, rfl, rfl, rfl, rfl, rfl⟩, rfl⟩ | ⟨h1, ⟨rfl, rfl, rfl, rfl, rfl, rfl⟩, rfl⟩
  · exact ⟨_, _, _, _, _, _, true, rfl, fun _ => ⟨valC_zero h1, h2.symm⟩, (fun h => by cases h), hb⟩
  · refine ⟨0, 0, 0, 0, 0, 0, false, rfl, (fun h => by cases h), fun _ => ⟨⟨rfl, rfl, rfl, rfl, rfl, rfl⟩, fun a b c e f g hv he => h1 ?_⟩, hb⟩
    have hw := within_val hv
    rw [← he] at hw
    rw [hw] at hrd
    obtain ⟨rfl, rfl, rfl, rfl, rfl, rfl⟩ := rdV_back hv rfl rfl hrd
    exact ⟨by unfold valC; rw [hv]; rfl, he.symm⟩
end Go.Proofs.Ytnpmgofkfdpbjaa.Val
