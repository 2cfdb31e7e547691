/- Walks: ParsePair of validity, case by case. -/
import Derived.Deep.DeepCutAuto
import Derived.Deep.RegionWith
import Derived.BigRegion
import Derived.Test.YtnpmgofkfdpbjaaQValI
import Derived.Test.YtnpmgofkfdpbjaaQPlPart
import Derived.Test.YtnpmgofkfdpbjaaKL
set_option linter.unusedSimpArgs false
set_option linter.unusedVariables false
namespace Go.Proofs.Ytnpmgofkfdpbjaa.Val
open Go.RowKit Kit Tlv Bas

/-- what ParsePair returns -/
abbrev ppR (y m d h mi s y' m' d' h' mi' s' k o : Int) : Value := .tuple #[Clk.time y m d h mi s, Clk.time y' m' d' h' mi' s', err k o]
/-- six numbers of a box -/
abbrev six (y m d h mi s : Int) : Array Value := #[.int .i64 y, .int .i64 m, .int .i64 d, .int .i64 h, .int .i64 mi, .int .i64 s]
/-- the blocks of a running ParsePair: three results -/
def VB (w : World) (xs ys zs : Array Value) (X : World) : Prop :=
  X.heap[w.heap.size]? = some (.cells xs 28 (0, 0)) ∧ X.heap[w.heap.size + 1]? = some (.cells ys 28 (0, 0)) ∧ X.heap[w.heap.size + 1 + 1]? = some (.cells zs 36 (0, 0)) ∧ Below w.heap.size w X ∧ w.heap.size + 1 + 1 + 1 ≤ X.heap.size
theorem VB.past {w X Y : World} {xs ys zs : Array Value} (h : VB w xs ys zs X) (hb : Below X.heap.size X Y) : VB w xs ys zs Y :=
  ⟨stayK h.1 hb, stayK h.2.1 hb, stayK h.2.2.1 hb, h.2.2.2.1.trans (hb.mono h.2.2.2.1.size), Nat.le_trans h.2.2.2.2 hb.size⟩
theorem VB.off {w X : World} {xs ys : Array Value} {z0 z1 : Value} (h : VB w xs ys #[z0, z1] X) (v : Value) : VB w xs ys #[z0, v] (X.setCell ⟨w.heap.size + 1 + 1, 1, none⟩ v) := by
  obtain ⟨h1, h2, h3, h4, h5⟩ := h
  exact ⟨set_far h1 (by omega) _, set_far h2 (by omega) _, heap_setCell_same _ _ 1 _ _ v h3, h4.setCell (by simp; omega) _, by simpa using h5⟩
theorem VB.drew {w X : World} {xs ys zs : Array Value} (h : VB w xs ys zs X) : VB w xs ys zs X.drew := ⟨h.1, h.2.1, h.2.2.1, h.2.2.2.1.drew, h.2.2.2.2⟩
theorem wp_vb {P : Program} {cd : Code} {Q : Exit → Act → World → Prop} {a : Act} {W : World} (R : World → Prop) (h : R W) (k : ∀ w2, R w2 → cd.wp P Q a w2) : cd.wp P Q a W := k W h
theorem VB.err {w X : World} {xs ys : Array Value} {z0 z1 : Value} (h : VB w xs ys #[z0, z1] X) (u v : Value) : VB w xs ys #[u, v] ((X.setCell ⟨w.heap.size + 1 + 1, 0, none⟩ u).setCell ⟨w.heap.size + 1 + 1, 1, none⟩ v) := by
  obtain ⟨h1, h2, h3, h4, h5⟩ := h
  exact ⟨far2 h1 (by omega) _ _, far2 h2 (by omega) _ _, set2 u v h3, (by repeat' (first | (with_reducible exact Below.refl _ _) | (with_reducible assumption) | (with_reducible refine below_drewN ?_ _) | (with_reducible refine Below.drew ?_) | (with_reducible refine Below.alloc ?_ ?_ _) | (with_reducible refine Below.setCell ?_ ?_ _) | go_size)), by simpa using h5⟩
theorem VB.all {w X : World} {a b c e f g a' b' c' e' f' g' z0 z1 : Value} (t : VB w #[a, b, c, e, f, g] #[a', b', c', e', f', g'] #[z0, z1] X) (y m d h mi s y' m' d' h' mi' s' k o : Int) :
    VB w (six y m d h mi s) (six y' m' d' h' mi' s') #[.int .i64 k, .int .i64 o] ((((((((((((((X.setCell ⟨w.heap.size, 0, none⟩ (.int .i64 y)).setCell ⟨w.heap.size, 1, none⟩ (.int .i64 m)).setCell ⟨w.heap.size, 2, none⟩ (.int .i64 d)).setCell ⟨w.heap.size, 3, none⟩ (.int .i64 h)).setCell ⟨w.heap.size, 4, none⟩ (.int .i64 mi)).setCell ⟨w.heap.size, 5, none⟩ (.int .i64 s)).setCell ⟨w.heap.size + 1, 0, none⟩ (.int .i64 y')).setCell ⟨w.heap.size + 1, 1, none⟩ (.int .i64 m')).setCell ⟨w.heap.size + 1, 2, none⟩ (.int .i64 d')).setCell ⟨w.heap.size + 1, 3, none⟩ (.int .i64 h')).setCell ⟨w.heap.size + 1, 4, none⟩ (.int .i64 mi')).setCell ⟨w.heap.size + 1, 5, none⟩ (.int .i64 s')).setCell ⟨w.heap.size + 1 + 1, 0, none⟩ (.int .i64 k)).setCell ⟨w.heap.size + 1 + 1, 1, none⟩ (.int .i64 o)) := by
  obtain ⟨h1, h2, h3, h4, h5⟩ := t
  exact ⟨far2 (far6 (Clk.set6 _ _ _ _ _ _ h1) (by omega) _ _ _ _ _ _) (by omega) _ _, far2 (Clk.set6 _ _ _ _ _ _ (far6 h2 (by omega) _ _ _ _ _ _)) (by omega) _ _, set2 _ _ (far6 (far6 h3 (by omega) _ _ _ _ _ _) (by omega) _ _ _ _ _ _), (by repeat' (first | (with_reducible exact Below.refl _ _) | (with_reducible assumption) | (with_reducible refine below_drewN ?_ _) | (with_reducible refine Below.drew ?_) | (with_reducible refine Below.alloc ?_ ?_ _) | (with_reducible refine Below.setCell ?_ ?_ _) | go_size)), by simpa using h5⟩
theorem VB.first {w X : World} {a b c e f g z0 z1 : Value} {ys : Array Value} (t : VB w #[a, b, c, e, f, g] ys #[z0, z1] X) (y m d h mi s k o : Int) :
    VB w (six y m d h mi s) ys #[.int .i64 k, .int .i64 o] ((((((((X.setCell ⟨w.heap.size, 0, none⟩ (.int .i64 y)).setCell ⟨w.heap.size, 1, none⟩ (.int .i64 m)).setCell ⟨w.heap.size, 2, none⟩ (.int .i64 d)).setCell ⟨w.heap.size, 3, none⟩ (.int .i64 h)).setCell ⟨w.heap.size, 4, none⟩ (.int .i64 mi)).setCell ⟨w.heap.size, 5, none⟩ (.int .i64 s)).setCell ⟨w.heap.size + 1 + 1, 0, none⟩ (.int .i64 k)).setCell ⟨w.heap.size + 1 + 1, 1, none⟩ (.int .i64 o)) := by
  obtain ⟨h1, h2, h3, h4, h5⟩ := t
  exact ⟨far2 (Clk.set6 _ _ _ _ _ _ h1) (by omega) _ _, far2 (far6 h2 (by omega) _ _ _ _ _ _) (by omega) _ _, set2 _ _ (far6 h3 (by omega) _ _ _ _ _ _), (by repeat' (first | (with_reducible exact Below.refl _ _) | (with_reducible assumption) | (with_reducible refine below_drewN ?_ _) | (with_reducible refine Below.drew ?_) | (with_reducible refine Below.alloc ?_ ?_ _) | (with_reducible refine Below.setCell ?_ ?_ _) | go_size)), by simpa using h5⟩
theorem VB.second {w X : World} {a b c e f g z0 z1 : Value} {xs : Array Value} (t : VB w xs #[a, b, c, e, f, g] #[z0, z1] X) (y m d h mi s k o : Int) :
    VB w xs (six y m d h mi s) #[.int .i64 k, .int .i64 o] ((((((((X.setCell ⟨w.heap.size + 1, 0, none⟩ (.int .i64 y)).setCell ⟨w.heap.size + 1, 1, none⟩ (.int .i64 m)).setCell ⟨w.heap.size + 1, 2, none⟩ (.int .i64 d)).setCell ⟨w.heap.size + 1, 3, none⟩ (.int .i64 h)).setCell ⟨w.heap.size + 1, 4, none⟩ (.int .i64 mi)).setCell ⟨w.heap.size + 1, 5, none⟩ (.int .i64 s)).setCell ⟨w.heap.size + 1 + 1, 0, none⟩ (.int .i64 k)).setCell ⟨w.heap.size + 1 + 1, 1, none⟩ (.int .i64 o)) := by
  obtain ⟨h1, h2, h3, h4, h5⟩ := t
  exact ⟨far2 (far6 h1 (by omega) _ _ _ _ _ _) (by omega) _ _, far2 (Clk.set6 _ _ _ _ _ _ h2) (by omega) _ _, set2 _ _ (far6 h3 (by omega) _ _ _ _ _ _), (by repeat' (first | (with_reducible exact Below.refl _ _) | (with_reducible assumption) | (with_reducible refine below_drewN ?_ _) | (with_reducible refine Below.drew ?_) | (with_reducible refine Below.alloc ?_ ?_ _) | (with_reducible refine Below.setCell ?_ ?_ _) | go_size)), by simpa using h5⟩

set_option maxRecDepth 100000 in
set_option maxHeartbeats 3000000 in
theorem pp_err {A : Option Addr} {n c B : Nat} {l : List UInt8} {els : List El} {r1 r2 : Int} (w : World) (hr : Rd w B A n l) (hB : B ≤ w.heap.size) (hc : n ≤ c) (hm : c ≤ maxLen) (hn : n ≤ 1000000)
    (hpv : partsV l 0 16 = (els, r1, r2)) (hz : ¬ r1 = 0) :
    Calls Try.prog 52 #[.slice A n c] w fun e w' => e = .returned (ppR 0 0 0 0 0 0 0 0 0 0 0 0 r1 r2) ∧ Below w.heap.size w w' := by
  have PA := Lib.hid (fun (X : World) (h : Below w.heap.size w X) => parts_any (c := c) 0 16 X (hr.below (h.mono hB)) (Nat.le_trans hB h.size) hc hm hn)
  rw [hpv] at PA
  clear hr hpv
  have t0 : VB w (six 0 0 0 0 0 0) (six 0 0 0 0 0 0) #[.int .i64 0, .int .i64 0] (((w.alloc (.cells (six 0 0 0 0 0 0) 28)).alloc (.cells (six 0 0 0 0 0 0) 28)).alloc (.cells #[.int .i64 0, .int .i64 0] 36)) := ⟨bk_old (bk_old (bk_new rfl)), bk_old (bk_new (by simp)), bk_new (by simp), (by repeat' (first | (with_reducible exact Below.refl _ _) | (with_reducible assumption) | (with_reducible refine below_drewN ?_ _) | (with_reducible refine Below.drew ?_) | (with_reducible refine Below.alloc ?_ ?_ _) | (with_reducible refine Below.setCell ?_ ?_ _) | go_size)), by simp⟩
  go_enter Try.func52, Try.ntmps52
  go_upto_region 1 with fail
  generalize ((w.alloc (.cells (six 0 0 0 0 0 0) 28)).alloc (.cells (six 0 0 0 0 0 0) 28)).alloc (.cells #[.int .i64 0, .int .i64 0] 36) = w0 at *
  have T0 := Lib.hid t0
  clear t0
  go_wp2_with fail
  go_must (go_fit (PA.out _ T0.out.2.2.2.1))
  rintro e w1 ⟨A1, cc, rfl, o1, hb1⟩
  have T1 := Lib.hid (T0.out.past hb1)
  obtain ⟨s0, s1⟩ := cells2 T1.out.2.2.1
  obtain ⟨g0, g1, -, -, -⟩ := free5 T1.out.2.2.1
  clear o1 hb1 PA T0
  go_upto_region 2 with fail
  refine wp_vb (VB w (six 0 0 0 0 0 0) (six 0 0 0 0 0 0) #[.int .i64 r1, .int .i64 r2]) (T1.out.err _ _) ?_
  intro w2 hp
  have T2 := Lib.hid hp
  clear hp s0 s1 g0 g1 T1
  obtain ⟨q0, q1, q2, q3, q4, q5⟩ := cells6 T2.out.1
  obtain ⟨f0, f1, f2, f3, f4, f5⟩ := Clk.free6 T2.out.1
  obtain ⟨u0, u1, u2, u3, u4, u5⟩ := cells6 T2.out.2.1
  obtain ⟨v0, v1, v2, v3, v4, v5⟩ := Clk.free6 T2.out.2.1
  obtain ⟨s0, s1⟩ := cells2 T2.out.2.2.1
  obtain ⟨g0, g1, -, -, -⟩ := free5 T2.out.2.2.1
  go_upto_region 3 with fail
  go_region
  all_goals
    go_wp2
    clear q0 q1 q2 q3 q4 q5 f0 f1 f2 f3 f4 f5 u0 u1 u2 u3 u4 u5 v0 v1 v2 v3 v4 v5 s0 s1 g0 g1
    have TT := T2.out.all 0 0 0 0 0 0 0 0 0 0 0 0 r1 r2
    have tc := cells6 TT.1
    have td := cells6 TT.2.1
    have te := cells2 TT.2.2.1
    have bel := TT.2.2.2.1
    clear TT
    refine bodyPost_ret (v := ppR 0 0 0 0 0 0 0 0 0 0 0 0 r1 r2) (by simp [results, Try.results52, go_sem, *]) rfl ?_
    exact ⟨rfl, bel.drew⟩
/-- four numbers of a list of two elements -/
def GB (g m0 s0 m1 s1 lo : Nat) (X : World) : Prop :=
  X.cell? ⟨g, 3, none⟩ = some (.int .i64 (m0 : Int)) ∧ X.cell? ⟨g, 5, none⟩ = some (.int .i64 (s0 : Int)) ∧ X.cell? ⟨g, 9, none⟩ = some (.int .i64 (m1 : Int)) ∧ X.cell? ⟨g, 11, none⟩ = some (.int .i64 (s1 : Int)) ∧ lo ≤ g ∧ g < X.heap.size
theorem GB.past {g m0 s0 m1 s1 lo : Nat} {X Y : World} (h : GB g m0 s0 m1 s1 lo X) (hb : Below X.heap.size X Y) : GB g m0 s0 m1 s1 lo Y :=
  ⟨(hb.cell h.2.2.2.2.2).trans h.1, (hb.cell h.2.2.2.2.2).trans h.2.1, (hb.cell h.2.2.2.2.2).trans h.2.2.1, (hb.cell h.2.2.2.2.2).trans h.2.2.2.1, h.2.2.2.2.1, Nat.lt_of_lt_of_le h.2.2.2.2.2 hb.size⟩
theorem GB.st {g m0 s0 m1 s1 lo : Nat} {X : World} (h : GB g m0 s0 m1 s1 lo X) {p : Addr} (hp : p.block < lo) (u : Value) : GB g m0 s0 m1 s1 lo (X.setCell p u) := by
  have hne : ∀ k, (⟨g, k, none⟩ : Addr) ≠ p := fun k e => by have h5 := h.2.2.2.2.1; rw [← e] at hp; simp only [] at hp; omega
  refine ⟨(World.cell?_setCell_other X p ⟨g, 3, none⟩ u (fun e => hne 3 (by first | exact e | exact e.symm))).trans h.1, (World.cell?_setCell_other X p ⟨g, 5, none⟩ u (fun e => hne 5 (by first | exact e | exact e.symm))).trans h.2.1, (World.cell?_setCell_other X p ⟨g, 9, none⟩ u (fun e => hne 9 (by first | exact e | exact e.symm))).trans h.2.2.1, (World.cell?_setCell_other X p ⟨g, 11, none⟩ u (fun e => hne 11 (by first | exact e | exact e.symm))).trans h.2.2.2.1, h.2.2.2.2.1, by simpa using h.2.2.2.2.2⟩

set_option maxRecDepth 100000 in
set_option maxHeartbeats 3000000 in
theorem pp_len {A : Option Addr} {n c B : Nat} {l : List UInt8} {els : List El} {r1 r2 : Int} (w : World) (hr : Rd w B A n l) (hB : B ≤ w.heap.size) (hc : n ≤ c) (hm : c ≤ maxLen) (hn : n ≤ 1000000)
    (hpv : partsV l 0 16 = (els, r1, r2)) (hz : r1 = 0) (hz2 : r2 = 0) (hlen : ¬ (els.length : Int) = 2) :
    Calls Try.prog 52 #[.slice A n c] w fun e w' => e = .returned (ppR 0 0 0 0 0 0 0 0 0 0 0 0 6 0) ∧ Below w.heap.size w w' := by
  have PA := Lib.hid (fun (X : World) (h : Below w.heap.size w X) => parts_any (c := c) 0 16 X (hr.below (h.mono hB)) (Nat.le_trans hB h.size) hc hm hn)
  rw [hpv] at PA
  subst hz hz2
  clear hr hpv
  have t0 : VB w (six 0 0 0 0 0 0) (six 0 0 0 0 0 0) #[.int .i64 0, .int .i64 0] (((w.alloc (.cells (six 0 0 0 0 0 0) 28)).alloc (.cells (six 0 0 0 0 0 0) 28)).alloc (.cells #[.int .i64 0, .int .i64 0] 36)) := ⟨bk_old (bk_old (bk_new rfl)), bk_old (bk_new (by simp)), bk_new (by simp), (by repeat' (first | (with_reducible exact Below.refl _ _) | (with_reducible assumption) | (with_reducible refine below_drewN ?_ _) | (with_reducible refine Below.drew ?_) | (with_reducible refine Below.alloc ?_ ?_ _) | (with_reducible refine Below.setCell ?_ ?_ _) | go_size)), by simp⟩
  go_enter Try.func52, Try.ntmps52
  go_upto_region 1 with fail
  generalize ((w.alloc (.cells (six 0 0 0 0 0 0) 28)).alloc (.cells (six 0 0 0 0 0 0) 28)).alloc (.cells #[.int .i64 0, .int .i64 0] 36) = w0 at *
  have T0 := Lib.hid t0
  clear t0
  go_wp2_with fail
  go_must (go_fit (PA.out _ T0.out.2.2.2.1))
  rintro e w1 ⟨A1, cc, rfl, o1, hb1⟩
  have T1 := Lib.hid (T0.out.past hb1)
  obtain ⟨s0, s1⟩ := cells2 T1.out.2.2.1
  obtain ⟨g0, g1, -, -, -⟩ := free5 T1.out.2.2.1
  clear o1 hb1 PA T0
  go_upto_region 2 with fail
  refine wp_vb (VB w (six 0 0 0 0 0 0) (six 0 0 0 0 0 0) #[.int .i64 0, .int .i64 0]) (T1.out.err _ _) ?_
  intro w2 hp
  have T2 := Lib.hid hp
  clear hp s0 s1 g0 g1 T1
  obtain ⟨q0, q1, q2, q3, q4, q5⟩ := cells6 T2.out.1
  obtain ⟨f0, f1, f2, f3, f4, f5⟩ := Clk.free6 T2.out.1
  obtain ⟨u0, u1, u2, u3, u4, u5⟩ := cells6 T2.out.2.1
  obtain ⟨v0, v1, v2, v3, v4, v5⟩ := Clk.free6 T2.out.2.1
  obtain ⟨s0, s1⟩ := cells2 T2.out.2.2.1
  obtain ⟨g0, g1, -, -, -⟩ := free5 T2.out.2.2.1
  go_upto_region 5 with fail
  go_region
  all_goals
    go_wp2
    clear q0 q1 q2 q3 q4 q5 f0 f1 f2 f3 f4 f5 u0 u1 u2 u3 u4 u5 v0 v1 v2 v3 v4 v5 s0 s1 g0 g1
    have TT := T2.out.all 0 0 0 0 0 0 0 0 0 0 0 0 6 0
    have tc := cells6 TT.1
    have td := cells6 TT.2.1
    have te := cells2 TT.2.2.1
    have bel := TT.2.2.2.1
    clear TT
    refine bodyPost_ret (v := ppR 0 0 0 0 0 0 0 0 0 0 0 0 6 0) (by simp [results, Try.results52, go_sem, *]) rfl ?_
    exact ⟨rfl, bel.drew⟩

set_option maxRecDepth 100000 in
set_option maxHeartbeats 4000000 in
theorem pp_two {A : Option Addr} {n c B : Nat} {l : List UInt8} {e0 e1 : El} {m0 s0 m1 s1 : Nat} {y m d h mi s k0 o0 y' m' d' h' mi' s' k1 o1 : Int} (w : World) (hr : Rd w B A n l) (hB : B ≤ w.heap.size) (hc : n ≤ c) (hm : c ≤ maxLen) (hn : n ≤ 1000000)
    (hpv : partsV l 0 16 = ([e0, e1], 0, 0)) (e00 : e0.start = m0) (e01 : e0.stop = s0) (e10 : e1.start = m1) (e11 : e1.stop = s1) (hl0 : m0 < s0) (hl1 : m1 < s1) (hs0 : s0 ≤ n) (hs1 : s1 ≤ n)
    (h0 : ∀ X : World, Below w.heap.size w X → Calls Try.prog 30 #[.slice (Option.map (fun x => x.add m0) A) (s0 - m0) (c - m0)] X fun e X' => e = .returned (parR y m d h mi s k0 o0) ∧ Below X.heap.size X X')
    (h1 : ∀ X : World, Below w.heap.size w X → Calls Try.prog 30 #[.slice (Option.map (fun x => x.add m1) A) (s1 - m1) (c - m1)] X fun e X' => e = .returned (parR y' m' d' h' mi' s' k1 o1) ∧ Below X.heap.size X X') (ho0 : 0 ≤ o0 ∧ o0 ≤ (n : Int)) (ho1 : 0 ≤ o1 ∧ o1 + (m1 : Int) ≤ (n : Int)) :
    Calls Try.prog 52 #[.slice A n c] w fun e w' => e = .returned (if k0 = 0 then (if k1 = 0 then ppR y m d h mi s y' m' d' h' mi' s' 0 0 else ppR 0 0 0 0 0 0 0 0 0 0 0 0 k1 (o1 + m1)) else ppR 0 0 0 0 0 0 0 0 0 0 0 0 k0 o0) ∧ Below w.heap.size w w' := by
  have PA := Lib.hid (fun (X : World) (h : Below w.heap.size w X) => parts_any (c := c) 0 16 X (hr.below (h.mono hB)) (Nat.le_trans hB h.size) hc hm hn)
  rw [hpv] at PA
  have H0 := Lib.hid h0
  have H1 := Lib.hid h1
  clear hr hpv h0 h1
  have t0 : VB w (six 0 0 0 0 0 0) (six 0 0 0 0 0 0) #[.int .i64 0, .int .i64 0] (((w.alloc (.cells (six 0 0 0 0 0 0) 28)).alloc (.cells (six 0 0 0 0 0 0) 28)).alloc (.cells #[.int .i64 0, .int .i64 0] 36)) := ⟨bk_old (bk_old (bk_new rfl)), bk_old (bk_new (by simp)), bk_new (by simp), (by repeat' (first | (with_reducible exact Below.refl _ _) | (with_reducible assumption) | (with_reducible refine below_drewN ?_ _) | (with_reducible refine Below.drew ?_) | (with_reducible refine Below.alloc ?_ ?_ _) | (with_reducible refine Below.setCell ?_ ?_ _) | go_size)), by simp⟩
  go_enter Try.func52, Try.ntmps52
  go_upto_region 1 with fail
  generalize ((w.alloc (.cells (six 0 0 0 0 0 0) 28)).alloc (.cells (six 0 0 0 0 0 0) 28)).alloc (.cells #[.int .i64 0, .int .i64 0] 36) = w0 at *
  have T0 := Lib.hid t0
  clear t0
  go_wp2_with fail
  go_must (go_fit (PA.out _ T0.out.2.2.2.1))
  rintro e w1 ⟨A1, cc, rfl, ow, hb1⟩
  have T1 := Lib.hid (T0.out.past hb1)
  obtain ⟨s0', s1'⟩ := cells2 T1.out.2.2.1
  obtain ⟨g0, g1, -, -, -⟩ := free5 T1.out.2.2.1
  have GW : ∃ g, A1 = some ⟨g, 0, none⟩ ∧ GB g m0 s0 m1 s1 (w.heap.size + 1 + 1 + 1) w1 := by
    obtain ⟨g, cap, hv⟩ := Joins.ownsRow_form ow (by simp)
    injection hv with hP
    subst hP
    have hgl := World.ownsRow.lt ow g rfl
    have hl5 := T0.out.2.2.2.2
    refine ⟨g, rfl, ?_, ?_, ?_, ?_, by omega, hgl.2⟩
    · rw [World.ownsRow.cellAt ow _ (by simp)]; simp [elsC, elC, e00]
    · rw [World.ownsRow.cellAt ow _ (by simp)]; simp [elsC, elC, e01]
    · rw [World.ownsRow.cellAt ow _ (by simp)]; simp [elsC, elC, e10]
    · rw [World.ownsRow.cellAt ow _ (by simp)]; simp [elsC, elC, e11]
  obtain ⟨g, rfl, hgb⟩ := GW
  have GG := Lib.hid hgb
  clear ow hb1 PA T0 hgb
  go_upto_region 2 with fail
  refine wp_vb (fun X => VB w (six 0 0 0 0 0 0) (six 0 0 0 0 0 0) #[.int .i64 0, .int .i64 0] X ∧ GB g m0 s0 m1 s1 (w.heap.size + 1 + 1 + 1) X) ⟨T1.out.err _ _, (GG.out.st (by simp) _).st (by simp) _⟩ ?_
  intro w2 hp
  have T2 := Lib.hid hp.1
  have G2 := Lib.hid hp.2
  clear hp s0' s1' g0 g1 T1 GG
  obtain ⟨z0, z1⟩ := cells2 T2.out.2.2.1
  obtain ⟨r0, r1, r2, r3, rlo, rhi⟩ := G2.out
  have i0 : (m0 : Int) ≤ (s0 : Int) := by omega
  have i1 : (s0 : Int) ≤ (c : Int) := by omega
  have i2 : (m1 : Int) ≤ (s1 : Int) := by omega
  have i3 : (s1 : Int) ≤ (c : Int) := by omega
  have i4 : ¬ c = m0 := by omega
  have i5 : ¬ c = m1 := by omega
  go_upto_region 6 with fail
  have T2D := Lib.hid T2.out.drew
  have C0 := Lib.hid (H0.out w2.drew T2D.out.2.2.2.1)
  go_cut [] (fun wx => VB w (six y m d h mi s) (six 0 0 0 0 0 0) #[.int .i64 k0, .int .i64 o0] wx ∧ GB g m0 s0 m1 s1 (w.heap.size + 1 + 1 + 1) wx)
  case first =>
    go_region_with (first | (go_at_call 30; refine (C0.out).mono ?_; rintro e w3 ⟨rfl, hb3⟩; have T3 := Lib.hid (VB.past T2D.out hb3); have G3 := Lib.hid (GB.past (X := w2.drew) G2.out hb3); clear z0 z1 r0 r1 r2 r3 hb3; obtain ⟨f0, f1, f2, f3, f4, f5⟩ := Clk.free6 T3.out.1; obtain ⟨q0, q1, q2, q3, q4, q5⟩ := cells6 T3.out.1; obtain ⟨z0, z1⟩ := cells2 T3.out.2.2.1; obtain ⟨g0, g1, -, -, -⟩ := free5 T3.out.2.2.1))
    all_goals
      go_wp2_with fail
      go_meet
      exact ⟨T3.out.first y m d h mi s k0 o0, by repeat' (first | (with_reducible exact G3.out) | (with_reducible refine GB.st ?_ ?_ _) | (simp only []; omega))⟩
  case rest =>
    clear T2 G2 T2D C0 H0 z0 z1 r0 r1 r2 r3
    have T4 := Lib.hid hcut.1
    have G4 := Lib.hid hcut.2
    clear hcut
    obtain ⟨q0, q1, q2, q3, q4, q5⟩ := cells6 T4.out.1
    obtain ⟨f0, f1, f2, f3, f4, f5⟩ := Clk.free6 T4.out.1
    obtain ⟨u0, u1, u2, u3, u4, u5⟩ := cells6 T4.out.2.1
    obtain ⟨v0, v1, v2, v3, v4, v5⟩ := Clk.free6 T4.out.2.1
    obtain ⟨z0, z1⟩ := cells2 T4.out.2.2.1
    obtain ⟨g0, g1, -, -, -⟩ := free5 T4.out.2.2.1
    by_cases hk0 : k0 = 0
    · subst hk0
      obtain ⟨r0, r1, r2, r3, -, -⟩ := G4.out
      go_upto_region 8 with fail
      have T4D := Lib.hid T4.out.drew
      have C1 := Lib.hid (H1.out wc.drew T4D.out.2.2.2.1)
      clear q0 q1 q2 q3 q4 q5 f0 f1 f2 f3 f4 f5 u0 u1 u2 u3 u4 u5 v0 v1 v2 v3 v4 v5 z0 z1 g0 g1
      go_cut [] (fun wx => VB w (six y m d h mi s) (six y' m' d' h' mi' s') #[.int .i64 k1, .int .i64 o1] wx ∧ GB g m0 s0 m1 s1 (w.heap.size + 1 + 1 + 1) wx)
      case first =>
        go_region_with (first | (go_at_call 30; refine (C1.out).mono ?_; rintro e w3 ⟨rfl, hb3⟩; have T3 := Lib.hid (VB.past T4D.out hb3); have G3 := Lib.hid (GB.past (X := wc.drew) G4.out hb3); clear r0 r1 r2 r3 hb3; obtain ⟨f0, f1, f2, f3, f4, f5⟩ := Clk.free6 T3.out.2.1; obtain ⟨q0, q1, q2, q3, q4, q5⟩ := cells6 T3.out.2.1; obtain ⟨z0, z1⟩ := cells2 T3.out.2.2.1; obtain ⟨g0, g1, -, -, -⟩ := free5 T3.out.2.2.1))
        all_goals
          go_wp2_with fail
          go_meet
          exact ⟨T3.out.second y' m' d' h' mi' s' k1 o1, by repeat' (first | (with_reducible exact G3.out) | (with_reducible refine GB.st ?_ ?_ _) | (simp only []; omega))⟩
      case rest =>
        have T5 := Lib.hid hcut.1
        have G5 := Lib.hid hcut.2
        clear hcut T4 G4 T4D C1 r0 r1 r2 r3
        obtain ⟨z0, z1⟩ := cells2 T5.out.2.2.1
        obtain ⟨g0, g1, -, -, -⟩ := free5 T5.out.2.2.1
        obtain ⟨r0, r1, r2, r3, -, -⟩ := G5.out
        go_upto_region 9 with fail
        refine Kit.wp_tail 8 (by kernel_rfl) (by kernel_rfl) ?_; intro W HW hWc; simp only [List.take_succ_cons, List.take_zero, List.drop_succ_cons, List.drop_zero]; (repeat still_step); refine wpStill_nil ?_; have HW' := HW.out; clear HW hWc; subst HW'
        go_upto_region 10 with fail
        refine wp_vb (VB w (six y m d h mi s) (six y' m' d' h' mi' s') #[.int .i64 k1, .int .i64 (o1 + (m1 : Int))]) (VB.off (X := wc.drew) T5.out.drew _) ?_
        intro w7 hp
        have T7 := Lib.hid hp
        clear hp T5 G5 r0 r1 r2 r3 z0 z1 g0 g1
        obtain ⟨q0, q1, q2, q3, q4, q5⟩ := cells6 T7.out.1
        obtain ⟨f0, f1, f2, f3, f4, f5⟩ := Clk.free6 T7.out.1
        obtain ⟨u0, u1, u2, u3, u4, u5⟩ := cells6 T7.out.2.1
        obtain ⟨v0, v1, v2, v3, v4, v5⟩ := Clk.free6 T7.out.2.1
        obtain ⟨z0, z1⟩ := cells2 T7.out.2.2.1
        obtain ⟨g0, g1, -, -, -⟩ := free5 T7.out.2.2.1
        by_cases hk1 : k1 = 0
        · subst hk1
          go_upto_region 12 with fail
          go_region
          all_goals
            go_wp2
            clear q0 q1 q2 q3 q4 q5 f0 f1 f2 f3 f4 f5 u0 u1 u2 u3 u4 u5 v0 v1 v2 v3 v4 v5 z0 z1 g0 g1
            have TT := T7.out.all y m d h mi s y' m' d' h' mi' s' 0 0
            have tc := cells6 TT.1
            have td := cells6 TT.2.1
            have te := cells2 TT.2.2.1
            have bel := TT.2.2.2.1
            clear TT
            refine bodyPost_ret (v := ppR y m d h mi s y' m' d' h' mi' s' 0 0) (by simp [results, Try.results52, go_sem, *]) rfl ?_
            exact ⟨rfl, bel.drew⟩
        · go_upto_region 11 with fail
          have hmn : o1 + (m1 : Int) ≤ (n : Int) := ho1.2
          have hmn2 : ¬ (n : Int) < o1 + (m1 : Int) := by omega
          go_region
          all_goals
            go_wp2
            clear q0 q1 q2 q3 q4 q5 f0 f1 f2 f3 f4 f5 u0 u1 u2 u3 u4 u5 v0 v1 v2 v3 v4 v5 z0 z1 g0 g1
            have TT := T7.out.all 0 0 0 0 0 0 0 0 0 0 0 0 k1 (o1 + (m1 : Int))
            have tc := cells6 TT.1
            have td := cells6 TT.2.1
            have te := cells2 TT.2.2.1
            have bel := TT.2.2.2.1
            clear TT
            refine bodyPost_ret (v := ppR 0 0 0 0 0 0 0 0 0 0 0 0 k1 (o1 + (m1 : Int))) (by simp [results, Try.results52, go_sem, *]) rfl ?_
            exact ⟨rfl, bel.drew⟩
    · clear G4 H1
      go_upto_region 11 with fail
      have hmn : o0 ≤ (n : Int) := ho0.2
      have hmn2 : ¬ (n : Int) < o0 := by omega
      go_region
      all_goals
        go_wp2
        clear q0 q1 q2 q3 q4 q5 f0 f1 f2 f3 f4 f5 u0 u1 u2 u3 u4 u5 v0 v1 v2 v3 v4 v5 z0 z1 g0 g1
        have TT := T4.out.all 0 0 0 0 0 0 0 0 0 0 0 0 k0 o0
        have tc := cells6 TT.1
        have td := cells6 TT.2.1
        have te := cells2 TT.2.2.1
        have bel := TT.2.2.2.1
        clear TT
        refine bodyPost_ret (v := ppR 0 0 0 0 0 0 0 0 0 0 0 0 k0 o0) (by simp [results, Try.results52, go_sem, *]) rfl ?_
        exact ⟨rfl, bel.drew⟩
end Go.Proofs.Ytnpmgofkfdpbjaa.Val
