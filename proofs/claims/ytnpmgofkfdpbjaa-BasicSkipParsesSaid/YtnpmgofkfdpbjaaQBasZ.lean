/- Walks: ParseSkip of the reference. -/
import Derived.Test.YtnpmgofkfdpbjaaQBasY
set_option linter.unusedSimpArgs false
set_option linter.unusedVariables false
namespace Go.Proofs.Ytnpmgofkfdpbjaa.Bas
open Go.RowKit Kit Tlv

/-- what ParseSkip of the reference returns -/
def RawS (w : World) (l L : List UInt8) (cd : Int) (s : Sk) (e : Ending) (w' : World) : Prop :=
  ∃ a r b q ok, e = .returned (.tuple #[skV a r b q, .bool ok]) ∧ (cd = 0 ∧ L = l ∧ a = s.hr ∧ r = s.r ∧ b = s.hi ∧ q = s.i ∧ ok = true ∨ ¬ (cd = 0 ∧ L = l) ∧ a = false ∧ r = 0 ∧ b = false ∧ q = 0 ∧ ok = false) ∧ Below w.heap.size w w'
set_option maxRecDepth 100000 in
set_option maxHeartbeats 2000000 in
theorem refsparse_raw {A : Option Addr} {n c B : Nat} {l : List UInt8} {sk : Sk} (w : World) (hr : Rd w B A n l) (hB : B ≤ w.heap.size) (hc : n ≤ c) (hm : c ≤ maxLen) (hn : n ≤ 100000)
    (h1 : skRead (Tree.withinT l 60).1.kids = sk) :
    Calls Try.prog 67 #[.slice A n c] w (RawS w l (skiL sk.hr sk.r sk.hi sk.i) (skiC sk.hr sk.r sk.hi sk.i) sk) := by
  have hl := hr.len
  have hk := Tree.withinT_klen l 60 (by omega)
  have DP := Lib.hid (fun (X : World) (h : Rd X B A n l) (hB : B ≤ X.heap.size) => Tree.deep_any X h hB hc hm (by omega))
  have HR := Lib.hid hr
  have MD := Lib.hid (fun X => refmars_any sk.hr sk.r sk.hi sk.i X)
  have H1 := Lib.hid h1
  clear hr h1
  generalize Tree.withinT l 60 = q at *
  obtain ⟨⟨g1, g2, g3, gc, gk⟩, qc, qo⟩ := q
  have hkl : gk.length ≤ 1000000 := by have : gk.length ≤ l.length := hk; omega
  have RN := Lib.hid (fun (P : Nat → Prop) (v : Value) (X : World) (h : Tree.NodeR 60 X P v (.mk g1 g2 g3 gc gk)) hP => refreads_any X h hP hkl)
  have e1 : skRead gk = sk := H1.out
  rw [e1] at RN
  clear e1 H1 hk hl
  obtain ⟨a, r, b, q⟩ := sk
  simp only [] at RN MD ⊢
  generalize skiL a r b q = L at *
  generalize skiC a r b q = cd at *
  have T0 := Lib.hid (show (w.alloc (.cells #[.bool false, .int .i64 0, .bool false, .int .i64 0] 71)).heap[w.heap.size]? = _ from bk_new rfl)
  have BE0 := Lib.hid ((Below.refl w.heap.size w).alloc (Nat.le_refl _) (.cells #[.bool false, .int .i64 0, .bool false, .int .i64 0] 71))
  go_enter Try.func67, Try.ntmps67
  go_upto_region 2 with (first | (go_at_call 97; go_must (refine (DP.out _ (HR.out.alloc hB _) (by simp; omega)).mono ?_); rintro e w1 ⟨v', ok, rfl, hnv, hb1⟩; have HN := Lib.hid hnv; obtain ⟨A6, c6, K6, ck6, rfl, -, -, -⟩ := hnv.formR))
  have t1 : (w1.alloc (.cells #[.int .i64 g1, .int .i64 g2, .bool g3, .slice A6 gc.length c6, .slice K6 gk.length ck6] 105)).heap[w1.heap.size]? = _ := bk_new rfl
  have hs1 := hb1.size
  simp only [World.size_alloc] at hs1
  have T1 := Lib.hid (bk_old (o' := (.cells #[.int .i64 g1, .int .i64 g2, .bool g3, .slice A6 gc.length c6, .slice K6 gk.length ck6] 105)) (stayK T0.out hb1))
  have BE1 := Lib.hid ((BE0.out.trans (hb1.mono (by simp))).alloc (by omega) (.cells #[.int .i64 g1, .int .i64 g2, .bool g3, .slice A6 gc.length c6, .slice K6 gk.length ck6] 105))
  have NV := Lib.hid (HN.out.keep (Tree.Keeps.alloc w1 (.cells #[.int .i64 g1, .int .i64 g2, .bool g3, .slice A6 gc.length c6, .slice K6 gk.length ck6] 105) (fun b h => h.2)))
  have hz : (w1.alloc (.cells #[.int .i64 g1, .int .i64 g2, .bool g3, .slice A6 gc.length c6, .slice K6 gk.length ck6] 105)).heap.size = w1.heap.size + 1 := by simp
  clear hnv hb1 DP T0 BE0 HN
  generalize hg4 : w1.heap.size = b4 at *
  generalize w1.alloc (.cells #[.int .i64 g1, .int .i64 g2, .bool g3, .slice A6 gc.length c6, .slice K6 gk.length ck6] 105) = w2 at *
  clear hg4 w1
  obtain ⟨u0, u1, u2, u3, u4⟩ := cells5 t1
  have DX := Lib.hid (RN.out _ _ w2 NV.out (fun b h => by have := h.2; omega))
  clear t1 RN NV hz
  go_upto_region 3 with (first | (go_at_call 121; go_must (go_fit DX.out); rintro e w3 ⟨rfl, hb3⟩))
  have t3 : (w3.alloc (.cells #[.bool a, .int .i64 r, .bool b, .int .i64 q] 71)).heap[w3.heap.size]? = _ := bk_new rfl
  have T3 := Lib.hid (bk_old (o' := (.cells #[.bool a, .int .i64 r, .bool b, .int .i64 q] 71)) (stayK T1.out hb3))
  have b3 := two_belowK BE1.out hb3 BE1.out.size
  have BE3 := Lib.hid (b3.alloc b3.size (.cells #[.bool a, .int .i64 r, .bool b, .int .i64 q] 71))
  have hlt : w.heap.size < w3.heap.size := Nat.lt_of_lt_of_le (Blk_lt T1.out) hb3.size
  clear hb3 DX T1 BE1 u0 u1 u2 u3 u4 b3
  generalize hg6 : w3.heap.size = b6 at *
  generalize w3.alloc (.cells #[.bool a, .int .i64 r, .bool b, .int .i64 q] 71) = w4 at *
  clear hg6 w3
  have T6 := Lib.hid t3
  have n1 : ¬ b6 = w.heap.size := by omega
  have n2 : ¬ w.heap.size = b6 := by omega
  obtain ⟨q0, q1, q2, q3⟩ := cells4 t3
  clear t3
  go_upto_region 4 with (first | (go_at_call 62; go_must (go_fit (MD.out _)); rintro e w5 ⟨A7, c7, rfl, o7, hb5⟩))
  have BE5 := Lib.hid (two_belowK BE3.out hb5 BE3.out.size)
  have HR5 := Lib.hid (HR.out.below (BE5.out.mono hB))
  have R7 := Lib.hid o7.rd
  have T5 := Lib.hid (stayK T3.out hb5)
  have TB := Lib.hid (stayK T6.out hb5)
  clear o7 hb5 q0 q1 q2 q3 T3 T6 BE3 MD HR
  have BY := Lib.hid (Cur.bytes_any A7 A L.length c7 n c _ _ w5 R7.out HR5.out)
  obtain ⟨q0, q1, q2, q3⟩ := cells4 TB.out
  obtain ⟨f0, f1, f2, f3⟩ := free4' T5.out
  obtain ⟨u0, u1, u2, u3⟩ := cells4 T5.out
  by_cases hcd : cd = 0
  · subst hcd
    by_cases hll : L = l
    · subst hll
      rw [Cur.eqB_self] at BY
      go_wp2_with fail
      go_must (go_fit BY.out)
      rintro e w6 ⟨rfl, rfl⟩
      go_wp2
      clear q0 q1 q2 q3 f0 f1 f2 f3 u0 u1 u2 u3
      have bel := BE5.out
      have tc := cells4 (set4' (.bool a) (.int .i64 r) (.bool b) (.int .i64 q) T5.out)
      refine bodyPost_ret (v := .tuple #[.agg #[.bool a, .int .i64 r, .bool b, .int .i64 q], .bool true]) (by simp [results, Try.results67, go_sem, *]) rfl ?_
      exact ⟨a, r, b, q, true, rfl, .inl ⟨rfl, rfl, rfl, rfl, rfl, rfl, rfl⟩, (by repeat' (first | (with_reducible exact Below.refl _ _) | (with_reducible assumption) | (with_reducible refine below_drewN ?_ _) | (with_reducible refine Below.drew ?_) | (with_reducible refine Below.alloc ?_ ?_ _) | (with_reducible refine Below.setCell ?_ ?_ _) | go_size))⟩
    · have hq : Cur.eqB L l = false := by simp [Cur.eqB, hll]
      rw [hq] at BY
      go_wp2_with fail
      go_must (go_fit BY.out)
      rintro e w6 ⟨rfl, rfl⟩
      go_wp2
      clear q0 q1 q2 q3 f0 f1 f2 f3 u0 u1 u2 u3
      have bel := BE5.out
      have tc := cells4 (set4' (.bool false) (.int .i64 0) (.bool false) (.int .i64 0) T5.out)
      refine bodyPost_ret (v := .tuple #[.agg #[.bool false, .int .i64 0, .bool false, .int .i64 0], .bool false]) (by simp [results, Try.results67, go_sem, *]) rfl ?_
      exact ⟨false, 0, false, 0, false, rfl, .inr ⟨fun x => hll x.2, rfl, rfl, rfl, rfl, rfl⟩, (by repeat' (first | (with_reducible exact Below.refl _ _) | (with_reducible assumption) | (with_reducible refine below_drewN ?_ _) | (with_reducible refine Below.drew ?_) | (with_reducible refine Below.alloc ?_ ?_ _) | (with_reducible refine Below.setCell ?_ ?_ _) | go_size))⟩
  · go_wp2
    clear q0 q1 q2 q3 f0 f1 f2 f3 u0 u1 u2 u3
    have bel := BE5.out
    have tc := cells4 (set4' (.bool false) (.int .i64 0) (.bool false) (.int .i64 0) T5.out)
    refine bodyPost_ret (v := .tuple #[.agg #[.bool false, .int .i64 0, .bool false, .int .i64 0], .bool false]) (by simp [results, Try.results67, go_sem, *]) rfl ?_
    exact ⟨false, 0, false, 0, false, rfl, .inr ⟨fun x => hcd x.1, rfl, rfl, rfl, rfl, rfl⟩, (by repeat' (first | (with_reducible exact Below.refl _ _) | (with_reducible assumption) | (with_reducible refine below_drewN ?_ _) | (with_reducible refine Below.drew ?_) | (with_reducible refine Below.alloc ?_ ?_ _) | (with_reducible refine Below.setCell ?_ ?_ _) | go_size))⟩

/-- the elements of a record -/
def skiPr (hr : Bool) (r : Int) (hi : Bool) (i : Int) : List Tree.Pr := (if hr = true then [(2, 0, Int4.intL r)] else []) ++ (if hi = true then [(2, 1, Int4.intL i)] else [])
theorem ski_tree {hr hi : Bool} {r i : Int} (h : skiB hr r hi i = true) : (Tree.withinT (skiL hr r hi i) 60).1.kids = (skiPr hr r hi i).map Tree.primT := by
  obtain ⟨_, i1, _, i2, _⟩ := skiB_iff.1 h
  have hlen := skiP_len (hr := hr) (hi := hi) i1 i2
  have n1 : encCode 2 0 (Int4.intL r).length = 0 := nm_code (by omega) (by omega) (int_bd i1)
  have n2 : encCode 2 1 (Int4.intL i).length = 0 := nm_code (by omega) (by omega) (int_bd i2)
  have hq : ∀ q, q ∈ skiPr hr r hi i → encCode q.1 q.2.1 q.2.2.length = 0 := by
    intro q hq
    unfold skiPr at hq
    rcases List.mem_append.1 hq with hq | hq <;> split at hq <;> simp at hq
    · subst hq; exact n1
    · subst hq; exact n2
  have hcat : Tree.catE ((skiPr hr r hi i).map Tree.primE) = skiP hr r hi i := by
    unfold skiPr skiP
    cases hr <;> cases hi <;> simp [Tree.catE, Tree.primE, nmL]
  rw [(ski_yes h).2, ← hcat, Tree.within_seq hq (by rw [hcat]; exact seq_code (by omega))]
  rfl
theorem ski_read {hr hi : Bool} {r i : Int} (h : skiB hr r hi i = true) : skRead ((skiPr hr r hi i).map Tree.primT) = ⟨hr, r, hi, i⟩ := by
  obtain ⟨_, i1, i2, i3, i4⟩ := skiB_iff.1 h
  have v1 := (rd_back i1).2
  have v2 := (rd_back i3).2
  cases hr <;> cases hi <;> simp [skiPr, skRead, skStep, Tree.primT, Tree.T.con, Tree.T.num, v1, v2] at i2 i4 ⊢ <;> first | exact ⟨i2.symm, i4.symm⟩ | exact i2.symm | exact i4.symm | skip
theorem ski_inj2 {hr hi hr' hi' : Bool} {r i r' i' : Int} (hv : skiB hr r hi i = true) (hv' : skiB hr' r' hi' i' = true) (e : skiL hr r hi i = skiL hr' r' hi' i') : hr = hr' ∧ r = r' ∧ hi = hi' ∧ i = i' := by
  have t1 := ski_tree hv
  rw [e, ski_tree hv'] at t1
  have a := ski_read hv
  rw [← t1, ski_read hv'] at a
  injection a with a1 a2 a3 a4
  exact ⟨a1.symm, a2.symm, a3.symm, a4.symm⟩
def RefS (w : World) (l : List UInt8) (e : Ending) (w' : World) : Prop :=
  ∃ a r b q ok, e = .returned (.tuple #[skV a r b q, .bool ok]) ∧ (ok = true → skiB a r b q = true ∧ l = skiL a r b q) ∧
    (ok = false → (a = false ∧ r = 0 ∧ b = false ∧ q = 0) ∧ ∀ hr r hi i, skiB hr r hi i = true → l ≠ skiL hr r hi i) ∧ Below w.heap.size w w'
theorem ski_zero {hr hi : Bool} {r i : Int} (h : skiC hr r hi i = 0) : skiB hr r hi i = true := by
  cases hb : skiB hr r hi i with
  | true => rfl
  | false => rw [(ski_no hb).1] at h; omega
theorem refsparse_any {A : Option Addr} {n c B : Nat} {l : List UInt8} (w : World) (hr : Rd w B A n l) (hB : B ≤ w.heap.size) (hc : n ≤ c) (hm : c ≤ maxLen) (hn : n ≤ 100000) :
    Calls Try.prog 67 #[.slice A n c] w (RefS w l) := by
  refine (refsparse_raw w hr hB hc hm hn rfl).mono ?_
  rintro e w' ⟨a, r, b, q, ok, rfl, h, hb⟩
  rcases h with ⟨h1, h2, rfl, rfl, rfl, rfl, rfl⟩ | ⟨h1, rfl, rfl, rfl, rfl, rfl⟩
  · exact ⟨_, _, _, _, true, rfl, fun _ => ⟨ski_zero h1, h2.symm⟩, (fun h => by cases h), hb⟩
  · refine ⟨false, 0, false, 0, false, rfl, (fun h => by cases h), fun _ => ⟨⟨rfl, rfl, rfl, rfl⟩, fun hr r hi i hv e => h1 ?_⟩, hb⟩
    have e2 := e
    subst e2
    rw [ski_tree hv, ski_read hv]
    exact ⟨(ski_yes hv).1, rfl⟩
end Go.Proofs.Ytnpmgofkfdpbjaa.Bas
