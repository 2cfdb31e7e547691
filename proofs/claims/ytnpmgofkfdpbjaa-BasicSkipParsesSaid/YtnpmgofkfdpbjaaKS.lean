/- Joined texts: BasI, BasJ, BasK, FrameB. -/
import Derived.Lib.SmallJoins
import Derived.Test.YtnpmgofkfdpbjaaKR
import Derived.Test.YtnpmgofkfdpbjaaKQ
import Derived.Test.YtnpmgofkfdpbjaaKA
set_option linter.unusedSimpArgs false
set_option linter.unusedVariables false
/- Walks: Parse of the package basic, case by case. -/
namespace Go.Proofs.Ytnpmgofkfdpbjaa.Bas
open Go.RowKit Kit Tlv

/-- the blocks of a running Parse: the two results, the record that is filled, the list -/
def BB (w : World) (b6 g m : Nat) (cc : Nat) (els : List El) (xs : Array Value) (X : World) : Prop :=
  X.heap[w.heap.size]? = some (.cells #[.bool false, .bool false, .int .i64 0] 50 (0, 0)) ∧ X.heap[w.heap.size + 1]? = some (.cells #[.int .i64 0, .int .i64 0] 36 (0, 0)) ∧ X.heap[b6]? = some (.cells xs 50 (0, 0)) ∧
    X.ownsRow (w.heap.size + 2) 93 6 (.slice (some ⟨g, 0, none⟩) m cc) m (elsC els) ∧ Below w.heap.size w X ∧ (w.heap.size + 2 ≤ b6 ∧ w.heap.size + 2 ≤ g ∧ g < b6)
theorem BB.past {w X Y : World} {b6 g m cc : Nat} {els : List El} {xs : Array Value} (h : BB w b6 g m cc els xs X) (hb : Below X.heap.size X Y) : BB w b6 g m cc els xs Y :=
  ⟨stayK h.1 hb, stayK h.2.1 hb, stayK h.2.2.1 hb, owns_below h.2.2.2.1 hb (Nat.le_refl _), h.2.2.2.2.1.trans (hb.mono h.2.2.2.2.1.size), h.2.2.2.2.2⟩
theorem owns_far {w : World} {base g m cc size b k : Nat} {e : TypeId} {xs : List Value} (h : w.ownsRow base e size (.slice (some ⟨g, 0, none⟩) m cc) m xs) (hne : g ≠ b) (u : Value) : (w.setCell ⟨b, k, none⟩ u).ownsRow base e size (.slice (some ⟨g, 0, none⟩) m cc) m xs :=
  World.ownsRow.kept h (grown_set (World.grownBy.refl w (some b)) k u) (.inr (by simpa [Value.ownBlock] using hne))
theorem BB.one {w X : World} {b6 g m cc : Nat} {els : List El} {x0 x1 x2 : Value} (h : BB w b6 g m cc els #[x0, x1, x2] X) (y : Value) : BB w b6 g m cc els #[y, x1, x2] (X.setCell ⟨b6, 0, none⟩ y) := by
  obtain ⟨h1, h2, h3, h4, h5, h6, h7, h8⟩ := h
  exact ⟨set_far h1 (by omega) _, set_far h2 (by omega) _, heap_setCell_same _ b6 0 _ _ y h3, owns_far h4 (by omega) _, (by repeat' (first | (with_reducible exact Below.refl _ _) | (with_reducible assumption) | (with_reducible refine below_drewN ?_ _) | (with_reducible refine Below.drew ?_) | (with_reducible refine Below.alloc ?_ ?_ _) | (with_reducible refine Below.setCell ?_ ?_ _) | go_size)), h6, h7, h8⟩
theorem BB.two {w X : World} {b6 g m cc : Nat} {els : List El} {x0 x1 x2 : Value} (h : BB w b6 g m cc els #[x0, x1, x2] X) (y z : Value) : BB w b6 g m cc els #[x0, y, z] ((X.setCell ⟨b6, 1, none⟩ y).setCell ⟨b6, 2, none⟩ z) := by
  obtain ⟨h1, h2, h3, h4, h5, h6, h7, h8⟩ := h
  exact ⟨set_far (set_far h1 (by omega) _) (by omega) _, set_far (set_far h2 (by omega) _) (by omega) _, heap_setCell_same _ b6 2 _ _ z (heap_setCell_same _ b6 1 _ _ y h3), owns_far (owns_far h4 (by omega) _) (by omega) _, (by repeat' (first | (with_reducible exact Below.refl _ _) | (with_reducible assumption) | (with_reducible refine below_drewN ?_ _) | (with_reducible refine Below.drew ?_) | (with_reducible refine Below.alloc ?_ ?_ _) | (with_reducible refine Below.setCell ?_ ?_ _) | go_size)), h6, h7, h8⟩
theorem set3 {w : World} {b : Nat} {x0 x1 x2 : Value} {t : TypeId} (y0 y1 y2 : Value) (h : w.heap[b]? = some (.cells #[x0, x1, x2] t (0, 0))) :
    (((w.setCell ⟨b, 0, none⟩ y0).setCell ⟨b, 1, none⟩ y1).setCell ⟨b, 2, none⟩ y2).heap[b]? = some (.cells #[y0, y1, y2] t (0, 0)) :=
  heap_setCell_same _ b 2 _ _ y2 (heap_setCell_same _ b 1 _ _ y1 (heap_setCell_same _ b 0 _ _ y0 h))
theorem far3 {w : World} {b c : Nat} {o : Obj} (h : w.heap[b]? = some o) (hne : b ≠ c) (y0 y1 y2 : Value) : (((w.setCell ⟨c, 0, none⟩ y0).setCell ⟨c, 1, none⟩ y1).setCell ⟨c, 2, none⟩ y2).heap[b]? = some o :=
  set_far (set_far (set_far h hne _) hne _) hne _
theorem free3 {w : World} {b : Nat} {cs : Array Value} {t : TypeId} (h : w.heap[b]? = some (.cells cs t (0, 0))) : w.frozen? ⟨b, 0, none⟩ = false ∧ w.frozen? ⟨b, 1, none⟩ = false ∧ w.frozen? ⟨b, 2, none⟩ = false :=
  ⟨frozen_of_row w b 0 _ _ h, frozen_of_row w b 1 _ _ h, frozen_of_row w b 2 _ _ h⟩
/-- the cells of the first elements -/
theorem row0 {w : World} {base g m cc : Nat} {x : El} {els : List El} (h : w.ownsRow base 93 6 (.slice (some ⟨g, 0, none⟩) m cc) m (elsC (x :: els))) (hm : (x :: els).length = m) :
    w.cell? ⟨g, 0, none⟩ = some (.int .i64 x.cls) ∧ w.cell? ⟨g, 1, none⟩ = some (.int .i64 x.num) ∧ w.cell? ⟨g, 2, none⟩ = some (.bool x.cons) ∧ w.cell? ⟨g, 3, none⟩ = some (.int .i64 x.start) ∧ w.cell? ⟨g, 4, none⟩ = some (.int .i64 x.body) ∧ w.cell? ⟨g, 5, none⟩ = some (.int .i64 x.stop) := by
  simp only [List.length_cons] at hm
  refine ⟨?_, ?_, ?_, ?_, ?_, ?_⟩ <;> (rw [World.ownsRow.cellAt h _ (by omega)]; simp [elsC, elC])
theorem row1 {w : World} {base g m cc : Nat} {x y : El} {els : List El} (h : w.ownsRow base 93 6 (.slice (some ⟨g, 0, none⟩) m cc) m (elsC (x :: y :: els))) (hm : (x :: y :: els).length = m) :
    w.cell? ⟨g, 6, none⟩ = some (.int .i64 y.cls) ∧ w.cell? ⟨g, 7, none⟩ = some (.int .i64 y.num) ∧ w.cell? ⟨g, 8, none⟩ = some (.bool y.cons) ∧ w.cell? ⟨g, 9, none⟩ = some (.int .i64 y.start) ∧ w.cell? ⟨g, 10, none⟩ = some (.int .i64 y.body) ∧ w.cell? ⟨g, 11, none⟩ = some (.int .i64 y.stop) := by
  simp only [List.length_cons] at hm
  refine ⟨?_, ?_, ?_, ?_, ?_, ?_⟩ <;> (rw [World.ownsRow.cellAt h _ (by omega)]; simp [elsC, elC])
theorem row2 {w : World} {base g m cc : Nat} {x y z : El} {els : List El} (h : w.ownsRow base 93 6 (.slice (some ⟨g, 0, none⟩) m cc) m (elsC (x :: y :: z :: els))) (hm : (x :: y :: z :: els).length = m) :
    w.cell? ⟨g, 15, none⟩ = some (.int .i64 z.start) := by
  simp only [List.length_cons] at hm
  rw [World.ownsRow.cellAt h _ (by omega)]; simp [elsC, elC]
/-- what Parse of basic constraints returns -/
abbrev bpR (ca hp : Bool) (p code off : Int) : Value := .tuple #[.agg #[.bool ca, .bool hp, .int .i64 p], err code off]
abbrev toYes : Value := .func (.func 107) #[] #[]
abbrev toCnt : Value := .func (.func 111) #[] #[]

set_option maxRecDepth 100000 in
set_option maxHeartbeats 3000000 in
theorem bp_err {A : Option Addr} {n c B : Nat} {l : List UInt8} {els : List El} {r1 r2 : Int} (w : World) (hr : Rd w B A n l) (hB : B ≤ w.heap.size) (hc : n ≤ c) (hm : c ≤ maxLen) (hn : n ≤ 1000000)
    (hpv : partsV l 0 16 = (els, r1, r2)) (hz : ¬ r1 = 0) :
    Calls Try.prog 48 #[.slice A n c] w fun e w' => e = .returned (bpR false false 0 r1 r2) ∧ Below w.heap.size w w' := by
  have PA := Lib.hid (fun (X : World) (h : Below w.heap.size w X) => parts_any (c := c) 0 16 X (hr.below (h.mono hB)) (Nat.le_trans hB h.size) hc hm hn)
  rw [hpv] at PA
  clear hr hpv
  go_enter Try.func48, Try.ntmps48
  go_wp2_with fail
  go_must (go_fit (PA.out _ (((Below.refl _ _).alloc (Nat.le_refl _) _).alloc (by simp) _)))
  rintro e w1 ⟨A1, cc, rfl, o1, hb1⟩
  obtain ⟨t2, t3, bel⟩ := box2 hb1
  have zs := hb1.size
  simp only [World.size_alloc] at zs
  clear o1 hb1 PA
  have T2 := Lib.hid (bk_old (o' := .cells #[.int .i64 r1, .int .i64 r2] 36) t2)
  have T3 := Lib.hid (bk_old (o' := .cells #[.int .i64 r1, .int .i64 r2] 36) t3)
  have T4 := Lib.hid (bk_new (w := w1) (o := .cells #[.int .i64 r1, .int .i64 r2] 36) rfl)
  replace bel := bel.alloc bel.size (.cells #[.int .i64 r1, .int .i64 r2] 36)
  clear t2 t3
  have n1 : ¬ w1.heap.size = w.heap.size := by omega
  have n2 : ¬ w.heap.size = w1.heap.size := by omega
  have n3 : ¬ w1.heap.size = w.heap.size + 1 := by omega
  have n4 : ¬ w.heap.size + 1 = w1.heap.size := by omega
  go_upto_region 2 with fail
  generalize w1.heap.size = b4 at *
  generalize w1.alloc (.cells #[.int .i64 r1, .int .i64 r2] 36) = w2 at *
  clear w1
  obtain ⟨q0, q1, q2⟩ := cells3 T2.out
  obtain ⟨f0, f1, f2⟩ := free3 T2.out
  obtain ⟨s0, s1⟩ := cells2 T3.out
  obtain ⟨g0, g1⟩ := freeP T3.out
  obtain ⟨v0, v1⟩ := cells2 T4.out
  go_upto_region 3 with fail
  go_region_held3 (fun w' => w'.cell? ⟨b4, 0, none⟩ = some (.int .i64 r1) ∧ w'.cell? ⟨b4, 1, none⟩ = some (.int .i64 r2)) (go_keep) (fail)
  rename_i hheld
  clear hheld
  go_wp2
  clear q0 q1 q2 f0 f1 f2 s0 s1 g0 g1 v0 v1
  have tc := cells3 (far2 (c := w.heap.size + 1) (set3 (.bool false) (.bool false) (.int .i64 0) T2.out) (by omega) (.int .i64 r1) (.int .i64 r2))
  have td := cells2 (set2 (.int .i64 r1) (.int .i64 r2) (far3 (c := w.heap.size) T3.out (by omega) (.bool false) (.bool false) (.int .i64 0)))
  refine bodyPost_ret (v := bpR false false 0 r1 r2) (by simp [results, Try.results48, go_sem, *]) rfl ?_
  exact ⟨rfl, (by repeat' (first | (with_reducible exact Below.refl _ _) | (with_reducible assumption) | (with_reducible refine below_drewN ?_ _) | (with_reducible refine Below.drew ?_) | (with_reducible refine Below.alloc ?_ ?_ _) | (with_reducible refine Below.setCell ?_ ?_ _) | go_size))⟩

set_option maxRecDepth 100000 in
set_option maxHeartbeats 3000000 in
theorem bp_nil {A : Option Addr} {n c B : Nat} {l : List UInt8} {els : List El} {r1 r2 : Int} (w : World) (hr : Rd w B A n l) (hB : B ≤ w.heap.size) (hc : n ≤ c) (hm : c ≤ maxLen) (hn : n ≤ 1000000)
    (hpv : partsV l 0 16 = (els, r1, r2)) (hz : r1 = 0) (hz2 : r2 = 0) (he : els.length = 0) :
    Calls Try.prog 48 #[.slice A n c] w fun e w' => e = .returned (bpR false false 0 0 0) ∧ Below w.heap.size w w' := by
  have PA := Lib.hid (fun (X : World) (h : Below w.heap.size w X) => parts_any (c := c) 0 16 X (hr.below (h.mono hB)) (Nat.le_trans hB h.size) hc hm hn)
  rw [hpv] at PA
  subst hz hz2
  obtain rfl : els = [] := List.eq_nil_of_length_eq_zero he
  clear hr hpv
  go_enter Try.func48, Try.ntmps48
  go_wp2_with fail
  go_must (go_fit (PA.out _ (((Below.refl _ _).alloc (Nat.le_refl _) _).alloc (by simp) _)))
  rintro e w1 ⟨A1, cc, rfl, o1, hb1⟩
  obtain ⟨t2, t3, bel⟩ := box2 hb1
  have zs := hb1.size
  simp only [World.size_alloc] at zs
  clear o1 hb1 PA
  have T2 := Lib.hid (bk_old (o' := .cells #[.bool false, .bool false, .int .i64 0] 50) (bk_old (o' := .cells #[.int .i64 0, .int .i64 0] 36) t2))
  have T3 := Lib.hid (bk_old (o' := .cells #[.bool false, .bool false, .int .i64 0] 50) (bk_old (o' := .cells #[.int .i64 0, .int .i64 0] 36) t3))
  have T6 : Hid (((w1.alloc (.cells #[.int .i64 0, .int .i64 0] 36)).alloc (.cells #[.bool false, .bool false, .int .i64 0] 50)).heap[w1.heap.size + 1]? = _) := Lib.hid (bk_new (by simp))
  replace bel := (bel.alloc bel.size (.cells #[.int .i64 0, .int .i64 0] 36)).alloc (by have := bel.size; simp; omega) (.cells #[.bool false, .bool false, .int .i64 0] 50)
  clear t2 t3
  have n1 : ¬ w1.heap.size + 1 = w.heap.size := by omega
  have n2 : ¬ w.heap.size = w1.heap.size + 1 := by omega
  have n3 : ¬ w1.heap.size + 1 = w.heap.size + 1 := by omega
  have n4 : ¬ w.heap.size + 1 = w1.heap.size + 1 := by omega
  go_upto_region 5 with fail
  generalize (w1.alloc (.cells #[.int .i64 0, .int .i64 0] 36)).alloc (.cells #[.bool false, .bool false, .int .i64 0] 50) = w2 at *
  generalize w1.heap.size + 1 = b6 at *
  obtain ⟨q0, q1, q2⟩ := cells3 T2.out
  obtain ⟨f0, f1, f2⟩ := free3 T2.out
  obtain ⟨s0, s1⟩ := cells2 T3.out
  obtain ⟨g0, g1⟩ := freeP T3.out
  obtain ⟨v0, v1, v2⟩ := cells3 T6.out
  go_wp2
  clear q0 q1 q2 f0 f1 f2 s0 s1 g0 g1 v0 v1 v2
  have tc := cells3 (far2 (c := w.heap.size + 1) (set3 (.bool false) (.bool false) (.int .i64 0) T2.out) (by omega) (.int .i64 0) (.int .i64 0))
  have td := cells2 (set2 (.int .i64 0) (.int .i64 0) (far3 (c := w.heap.size) T3.out (by omega) (.bool false) (.bool false) (.int .i64 0)))
  refine bodyPost_ret (v := bpR false false 0 0 0) (by simp [results, Try.results48, go_sem, *]) rfl ?_
  exact ⟨rfl, (by repeat' (first | (with_reducible exact Below.refl _ _) | (with_reducible assumption) | (with_reducible refine below_drewN ?_ _) | (with_reducible refine Below.drew ?_) | (with_reducible refine Below.alloc ?_ ?_ _) | (with_reducible refine Below.setCell ?_ ?_ _) | go_size))⟩

set_option maxRecDepth 100000 in
set_option maxHeartbeats 3000000 in
theorem bp_bad0 {A : Option Addr} {n c B : Nat} {l : List UInt8} {els : List El} {r1 r2 : Int} (w : World) (hr : Rd w B A n l) (hB : B ≤ w.heap.size) (hc : n ≤ c) (hm : c ≤ maxLen) (hn : n ≤ 1000000)
    (hpv : partsV l 0 16 = (els, r1, r2)) {x : El} {xs : List El} {v : Int} {m : Nat} (hz : r1 = 0) (hz2 : r2 = 0) (he : els = x :: xs) (hmm : els.length = m)  (h0 : ∀ X : World, Below w.heap.size w X → Calls Try.prog 109 #[.slice A n c, elT x, .int .i64 0, .int .i64 1, toYes] X fun e X' => e = .returned (.tuple #[.bool false, .bool false]) ∧ Below X.heap.size X X') :
    Calls Try.prog 48 #[.slice A n c] w fun e w' => e = .returned (bpR false false 0 6 x.start) ∧ Below w.heap.size w w' := by
  have PA := Lib.hid (fun (X : World) (h : Below w.heap.size w X) => parts_any (c := c) 0 16 X (hr.below (h.mono hB)) (Nat.le_trans hB h.size) hc hm hn)
  rw [hpv] at PA
  subst hz hz2
  have HM := Lib.hid hmm
  have HE := Lib.hid he
  have HL := Lib.hid (show (x :: xs : List El).length = m from by rw [← he]; exact hmm)
  have H0 := Lib.hid h0
  clear h0
  have hm0 : 0 < m := by have := HL.out; simp only [List.length_cons] at this; omega
  clear hmm he
  clear hr hpv
  go_enter Try.func48, Try.ntmps48
  go_wp2_with fail
  go_must (go_fit (PA.out _ (((Below.refl _ _).alloc (Nat.le_refl _) _).alloc (by simp) _)))
  rintro e w1 ⟨A1, cc, rfl, o1, hb1⟩
  obtain ⟨t2, t3, bel⟩ := box2 hb1
  have zs := hb1.size
  simp only [World.size_alloc] at zs
  unfold OwnE at o1
  simp only [HM.out] at o1 ⊢
  obtain ⟨g, cap, hv⟩ := Joins.ownsRow_form o1 hm0
  injection hv with hP
  subst hP
  have hgl := World.ownsRow.lt o1 g rfl
  simp only [World.size_alloc] at hgl
  obtain ⟨hg1, hg2⟩ := hgl
  go_upto_region 5 with fail
  refine wp_only (BB w (w1.heap.size + 1) g m cc els #[.bool false, .bool false, .int .i64 0]) ?_ ?_
  · exact ⟨bk_old (bk_old t2), bk_old (bk_old t3), bk_new (by simp), ((owns_mono (base' := w.heap.size + 2) o1 (by simp)).alloc _).alloc _, (by repeat' (first | (with_reducible exact Below.refl _ _) | (with_reducible assumption) | (with_reducible refine below_drewN ?_ _) | (with_reducible refine Below.drew ?_) | (with_reducible refine Below.alloc ?_ ?_ _) | (with_reducible refine Below.setCell ?_ ?_ _) | go_size)), by omega, by omega, by omega⟩
  intro w2 hp
  clear o1 hb1 PA t2 t3 bel zs hg1 hg2
  generalize hg6 : w1.heap.size + 1 = b6 at *
  generalize w1.heap.size = b5 at *
  clear hg6 w1
  have n1 : ¬ b6 = w.heap.size := by have := hp.2.2.2.2.2; omega
  have n2 : ¬ w.heap.size = b6 := by have := hp.2.2.2.2.2; omega
  have n3 : ¬ b6 = w.heap.size + 1 := by have := hp.2.2.2.2.2; omega
  have n4 : ¬ w.heap.size + 1 = b6 := by have := hp.2.2.2.2.2; omega
  have n5 : ¬ g = w.heap.size := by have := hp.2.2.2.2.2; omega
  have n6 : ¬ w.heap.size = g := by have := hp.2.2.2.2.2; omega
  have n7 : ¬ g = w.heap.size + 1 := by have := hp.2.2.2.2.2; omega
  have n8 : ¬ w.heap.size + 1 = g := by have := hp.2.2.2.2.2; omega
  have n9 : ¬ g = b6 := by have := hp.2.2.2.2.2; omega
  have n10 : ¬ b6 = g := by have := hp.2.2.2.2.2; omega
  have HP2 := Lib.hid hp
  clear hp
  rw [HE.out] at HP2
  obtain ⟨q0, q1, q2⟩ := cells3 HP2.out.1
  obtain ⟨f0, f1, f2⟩ := free3 HP2.out.1
  obtain ⟨s0, s1⟩ := cells2 HP2.out.2.1
  obtain ⟨g0, g1⟩ := freeP HP2.out.2.1
  obtain ⟨v0, v1, v2⟩ := cells3 HP2.out.2.2.1
  obtain ⟨e0, e1, e2⟩ := free3 HP2.out.2.2.1
  obtain ⟨u0, u1, u2, u3, u4, u5⟩ := row0 HP2.out.2.2.2.1 HL.out
  go_wp2_with fail
  go_must (go_fit (H0.out _ HP2.out.2.2.2.2.1))
  rintro e w3 ⟨rfl, hb3⟩
  have HP3 := Lib.hid (BB.past HP2.out hb3)
  clear hb3 q0 q1 q2 f0 f1 f2 s0 s1 g0 g1 v0 v1 v2 e0 e1 e2 u0 u1 u2 u3 u4 u5
  obtain ⟨q0, q1, q2⟩ := cells3 HP3.out.1
  obtain ⟨f0, f1, f2⟩ := free3 HP3.out.1
  obtain ⟨s0, s1⟩ := cells2 HP3.out.2.1
  obtain ⟨g0, g1⟩ := freeP HP3.out.2.1
  obtain ⟨v0, v1, v2⟩ := cells3 HP3.out.2.2.1
  obtain ⟨e0, e1, e2⟩ := free3 HP3.out.2.2.1
  obtain ⟨u0, u1, u2, u3, u4, u5⟩ := row0 HP3.out.2.2.2.1 HL.out
  go_upto_region 9 with fail
  refine wp_only _ (BB.one HP3.out (.bool false)) ?_
  intro w4 hp
  have HP4 := Lib.hid hp
  clear hp q0 q1 q2 f0 f1 f2 s0 s1 g0 g1 v0 v1 v2 e0 e1 e2 u0 u1 u2 u3 u4 u5
  obtain ⟨q0, q1, q2⟩ := cells3 HP4.out.1
  obtain ⟨f0, f1, f2⟩ := free3 HP4.out.1
  obtain ⟨s0, s1⟩ := cells2 HP4.out.2.1
  obtain ⟨g0, g1⟩ := freeP HP4.out.2.1
  obtain ⟨v0, v1, v2⟩ := cells3 HP4.out.2.2.1
  obtain ⟨e0, e1, e2⟩ := free3 HP4.out.2.2.1
  obtain ⟨u0, u1, u2, u3, u4, u5⟩ := row0 HP4.out.2.2.2.1 HL.out
  go_upto_region 10 with fail
  go_region_held3 (fun w' => w'.cell? ⟨g, 3, none⟩ = some (.int .i64 x.start)) (go_keep) (fail)
  rename_i hheld
  clear hheld
  go_wp2
  clear q0 q1 q2 f0 f1 f2 s0 s1 g0 g1 v0 v1 v2 e0 e1 e2 u0 u1 u2 u3 u4 u5
  have bel := HP4.out.2.2.2.2.1
  have tc := cells3 (far2 (c := w.heap.size + 1) (set3 (.bool false) (.bool false) (.int .i64 (0)) HP4.out.1) (by omega) (.int .i64 (6)) (.int .i64 (x.start)))
  have td := cells2 (set2 (.int .i64 (6)) (.int .i64 (x.start)) (far3 (c := w.heap.size) HP4.out.2.1 (by omega) (.bool false) (.bool false) (.int .i64 (0))))
  refine bodyPost_ret (v := bpR false false (0) (6) (x.start)) (by simp [results, Try.results48, go_sem, *]) rfl ?_
  exact ⟨rfl, (by repeat' (first | (with_reducible exact Below.refl _ _) | (with_reducible assumption) | (with_reducible refine below_drewN ?_ _) | (with_reducible refine Below.drew ?_) | (with_reducible refine Below.alloc ?_ ?_ _) | (with_reducible refine Below.setCell ?_ ?_ _) | go_size))⟩

set_option maxRecDepth 100000 in
set_option maxHeartbeats 3000000 in
theorem bp_one {A : Option Addr} {n c B : Nat} {l : List UInt8} {els : List El} {r1 r2 : Int} (w : World) (hr : Rd w B A n l) (hB : B ≤ w.heap.size) (hc : n ≤ c) (hm : c ≤ maxLen) (hn : n ≤ 1000000)
    (hpv : partsV l 0 16 = (els, r1, r2)) {x : El} {xs : List El} {v : Int} {m : Nat} (hz : r1 = 0) (hz2 : r2 = 0) (he : els = x :: xs) (hmm : els.length = m) (hlm : ¬ 1 < m) (h0 : ∀ X : World, Below w.heap.size w X → Calls Try.prog 109 #[.slice A n c, elT x, .int .i64 0, .int .i64 1, toYes] X fun e X' => e = .returned (.tuple #[.bool true, .bool true]) ∧ Below X.heap.size X X') :
    Calls Try.prog 48 #[.slice A n c] w fun e w' => e = .returned (bpR true false 0 0 0) ∧ Below w.heap.size w w' := by
  have PA := Lib.hid (fun (X : World) (h : Below w.heap.size w X) => parts_any (c := c) 0 16 X (hr.below (h.mono hB)) (Nat.le_trans hB h.size) hc hm hn)
  rw [hpv] at PA
  subst hz hz2
  have HM := Lib.hid hmm
  have HE := Lib.hid he
  have HL := Lib.hid (show (x :: xs : List El).length = m from by rw [← he]; exact hmm)
  have H0 := Lib.hid h0
  clear h0
  have hm0 : 0 < m := by have := HL.out; simp only [List.length_cons] at this; omega
  clear hmm he
  clear hr hpv
  go_enter Try.func48, Try.ntmps48
  go_wp2_with fail
  go_must (go_fit (PA.out _ (((Below.refl _ _).alloc (Nat.le_refl _) _).alloc (by simp) _)))
  rintro e w1 ⟨A1, cc, rfl, o1, hb1⟩
  obtain ⟨t2, t3, bel⟩ := box2 hb1
  have zs := hb1.size
  simp only [World.size_alloc] at zs
  unfold OwnE at o1
  simp only [HM.out] at o1 ⊢
  obtain ⟨g, cap, hv⟩ := Joins.ownsRow_form o1 hm0
  injection hv with hP
  subst hP
  have hgl := World.ownsRow.lt o1 g rfl
  simp only [World.size_alloc] at hgl
  obtain ⟨hg1, hg2⟩ := hgl
  go_upto_region 5 with fail
  refine wp_only (BB w (w1.heap.size + 1) g m cc els #[.bool false, .bool false, .int .i64 0]) ?_ ?_
  · exact ⟨bk_old (bk_old t2), bk_old (bk_old t3), bk_new (by simp), ((owns_mono (base' := w.heap.size + 2) o1 (by simp)).alloc _).alloc _, (by repeat' (first | (with_reducible exact Below.refl _ _) | (with_reducible assumption) | (with_reducible refine below_drewN ?_ _) | (with_reducible refine Below.drew ?_) | (with_reducible refine Below.alloc ?_ ?_ _) | (with_reducible refine Below.setCell ?_ ?_ _) | go_size)), by omega, by omega, by omega⟩
  intro w2 hp
  clear o1 hb1 PA t2 t3 bel zs hg1 hg2
  generalize hg6 : w1.heap.size + 1 = b6 at *
  generalize w1.heap.size = b5 at *
  clear hg6 w1
  have n1 : ¬ b6 = w.heap.size := by have := hp.2.2.2.2.2; omega
  have n2 : ¬ w.heap.size = b6 := by have := hp.2.2.2.2.2; omega
  have n3 : ¬ b6 = w.heap.size + 1 := by have := hp.2.2.2.2.2; omega
  have n4 : ¬ w.heap.size + 1 = b6 := by have := hp.2.2.2.2.2; omega
  have n5 : ¬ g = w.heap.size := by have := hp.2.2.2.2.2; omega
  have n6 : ¬ w.heap.size = g := by have := hp.2.2.2.2.2; omega
  have n7 : ¬ g = w.heap.size + 1 := by have := hp.2.2.2.2.2; omega
  have n8 : ¬ w.heap.size + 1 = g := by have := hp.2.2.2.2.2; omega
  have n9 : ¬ g = b6 := by have := hp.2.2.2.2.2; omega
  have n10 : ¬ b6 = g := by have := hp.2.2.2.2.2; omega
  have HP2 := Lib.hid hp
  clear hp
  rw [HE.out] at HP2
  obtain ⟨q0, q1, q2⟩ := cells3 HP2.out.1
  obtain ⟨f0, f1, f2⟩ := free3 HP2.out.1
  obtain ⟨s0, s1⟩ := cells2 HP2.out.2.1
  obtain ⟨g0, g1⟩ := freeP HP2.out.2.1
  obtain ⟨v0, v1, v2⟩ := cells3 HP2.out.2.2.1
  obtain ⟨e0, e1, e2⟩ := free3 HP2.out.2.2.1
  obtain ⟨u0, u1, u2, u3, u4, u5⟩ := row0 HP2.out.2.2.2.1 HL.out
  go_wp2_with fail
  go_must (go_fit (H0.out _ HP2.out.2.2.2.2.1))
  rintro e w3 ⟨rfl, hb3⟩
  have HP3 := Lib.hid (BB.past HP2.out hb3)
  clear hb3 q0 q1 q2 f0 f1 f2 s0 s1 g0 g1 v0 v1 v2 e0 e1 e2 u0 u1 u2 u3 u4 u5
  obtain ⟨q0, q1, q2⟩ := cells3 HP3.out.1
  obtain ⟨f0, f1, f2⟩ := free3 HP3.out.1
  obtain ⟨s0, s1⟩ := cells2 HP3.out.2.1
  obtain ⟨g0, g1⟩ := freeP HP3.out.2.1
  obtain ⟨v0, v1, v2⟩ := cells3 HP3.out.2.2.1
  obtain ⟨e0, e1, e2⟩ := free3 HP3.out.2.2.1
  obtain ⟨u0, u1, u2, u3, u4, u5⟩ := row0 HP3.out.2.2.2.1 HL.out
  go_upto_region 9 with fail
  refine wp_only _ (BB.one HP3.out (.bool true)) ?_
  intro w4 hp
  have HP4 := Lib.hid hp
  clear hp q0 q1 q2 f0 f1 f2 s0 s1 g0 g1 v0 v1 v2 e0 e1 e2 u0 u1 u2 u3 u4 u5
  obtain ⟨q0, q1, q2⟩ := cells3 HP4.out.1
  obtain ⟨f0, f1, f2⟩ := free3 HP4.out.1
  obtain ⟨s0, s1⟩ := cells2 HP4.out.2.1
  obtain ⟨g0, g1⟩ := freeP HP4.out.2.1
  obtain ⟨v0, v1, v2⟩ := cells3 HP4.out.2.2.1
  obtain ⟨e0, e1, e2⟩ := free3 HP4.out.2.2.1
  obtain ⟨u0, u1, u2, u3, u4, u5⟩ := row0 HP4.out.2.2.2.1 HL.out
  go_wp2
  clear q0 q1 q2 f0 f1 f2 s0 s1 g0 g1 v0 v1 v2 e0 e1 e2 u0 u1 u2 u3 u4 u5
  have bel := HP4.out.2.2.2.2.1
  have tc := cells3 (far2 (c := w.heap.size + 1) (set3 (.bool true) (.bool false) (.int .i64 (0)) HP4.out.1) (by omega) (.int .i64 (0)) (.int .i64 (0)))
  have td := cells2 (set2 (.int .i64 (0)) (.int .i64 (0)) (far3 (c := w.heap.size) HP4.out.2.1 (by omega) (.bool true) (.bool false) (.int .i64 (0))))
  refine bodyPost_ret (v := bpR true false (0) (0) (0)) (by simp [results, Try.results48, go_sem, *]) rfl ?_
  exact ⟨rfl, (by repeat' (first | (with_reducible exact Below.refl _ _) | (with_reducible assumption) | (with_reducible refine below_drewN ?_ _) | (with_reducible refine Below.drew ?_) | (with_reducible refine Below.alloc ?_ ?_ _) | (with_reducible refine Below.setCell ?_ ?_ _) | go_size))⟩

set_option maxRecDepth 100000 in
set_option maxHeartbeats 3000000 in
theorem bp_bad1 {A : Option Addr} {n c B : Nat} {l : List UInt8} {els : List El} {r1 r2 : Int} (w : World) (hr : Rd w B A n l) (hB : B ≤ w.heap.size) (hc : n ≤ c) (hm : c ≤ maxLen) (hn : n ≤ 1000000)
    (hpv : partsV l 0 16 = (els, r1, r2)) {x y : El} {xs : List El} {v : Int} {m : Nat} (hz : r1 = 0) (hz2 : r2 = 0) (he : els = x :: y :: xs) (hmm : els.length = m) (hlm : 1 < m) (h0 : ∀ X : World, Below w.heap.size w X → Calls Try.prog 109 #[.slice A n c, elT x, .int .i64 0, .int .i64 1, toYes] X fun e X' => e = .returned (.tuple #[.bool true, .bool true]) ∧ Below X.heap.size X X') (h1 : ∀ X : World, Below w.heap.size w X → Calls Try.prog 110 #[.slice A n c, elT y, .int .i64 0, .int .i64 2, toCnt] X fun e X' => e = .returned (.tuple #[.int .i64 v, .bool false]) ∧ Below X.heap.size X X') :
    Calls Try.prog 48 #[.slice A n c] w fun e w' => e = .returned (bpR false false 0 6 y.start) ∧ Below w.heap.size w w' := by
  have PA := Lib.hid (fun (X : World) (h : Below w.heap.size w X) => parts_any (c := c) 0 16 X (hr.below (h.mono hB)) (Nat.le_trans hB h.size) hc hm hn)
  rw [hpv] at PA
  subst hz hz2
  have HM := Lib.hid hmm
  have HE := Lib.hid he
  have HL := Lib.hid (show (x :: y :: xs : List El).length = m from by rw [← he]; exact hmm)
  have H0 := Lib.hid h0
  clear h0
  have H1 := Lib.hid h1
  clear h1
  have hm0 : 0 < m := by have := HL.out; simp only [List.length_cons] at this; omega
  clear hmm he
  clear hr hpv
  go_enter Try.func48, Try.ntmps48
  go_wp2_with fail
  go_must (go_fit (PA.out _ (((Below.refl _ _).alloc (Nat.le_refl _) _).alloc (by simp) _)))
  rintro e w1 ⟨A1, cc, rfl, o1, hb1⟩
  obtain ⟨t2, t3, bel⟩ := box2 hb1
  have zs := hb1.size
  simp only [World.size_alloc] at zs
  unfold OwnE at o1
  simp only [HM.out] at o1 ⊢
  obtain ⟨g, cap, hv⟩ := Joins.ownsRow_form o1 hm0
  injection hv with hP
  subst hP
  have hgl := World.ownsRow.lt o1 g rfl
  simp only [World.size_alloc] at hgl
  obtain ⟨hg1, hg2⟩ := hgl
  go_upto_region 5 with fail
  refine wp_only (BB w (w1.heap.size + 1) g m cc els #[.bool false, .bool false, .int .i64 0]) ?_ ?_
  · exact ⟨bk_old (bk_old t2), bk_old (bk_old t3), bk_new (by simp), ((owns_mono (base' := w.heap.size + 2) o1 (by simp)).alloc _).alloc _, (by repeat' (first | (with_reducible exact Below.refl _ _) | (with_reducible assumption) | (with_reducible refine below_drewN ?_ _) | (with_reducible refine Below.drew ?_) | (with_reducible refine Below.alloc ?_ ?_ _) | (with_reducible refine Below.setCell ?_ ?_ _) | go_size)), by omega, by omega, by omega⟩
  intro w2 hp
  clear o1 hb1 PA t2 t3 bel zs hg1 hg2
  generalize hg6 : w1.heap.size + 1 = b6 at *
  generalize w1.heap.size = b5 at *
  clear hg6 w1
  have n1 : ¬ b6 = w.heap.size := by have := hp.2.2.2.2.2; omega
  have n2 : ¬ w.heap.size = b6 := by have := hp.2.2.2.2.2; omega
  have n3 : ¬ b6 = w.heap.size + 1 := by have := hp.2.2.2.2.2; omega
  have n4 : ¬ w.heap.size + 1 = b6 := by have := hp.2.2.2.2.2; omega
  have n5 : ¬ g = w.heap.size := by have := hp.2.2.2.2.2; omega
  have n6 : ¬ w.heap.size = g := by have := hp.2.2.2.2.2; omega
  have n7 : ¬ g = w.heap.size + 1 := by have := hp.2.2.2.2.2; omega
  have n8 : ¬ w.heap.size + 1 = g := by have := hp.2.2.2.2.2; omega
  have n9 : ¬ g = b6 := by have := hp.2.2.2.2.2; omega
  have n10 : ¬ b6 = g := by have := hp.2.2.2.2.2; omega
  have HP2 := Lib.hid hp
  clear hp
  rw [HE.out] at HP2
  obtain ⟨q0, q1, q2⟩ := cells3 HP2.out.1
  obtain ⟨f0, f1, f2⟩ := free3 HP2.out.1
  obtain ⟨s0, s1⟩ := cells2 HP2.out.2.1
  obtain ⟨g0, g1⟩ := freeP HP2.out.2.1
  obtain ⟨v0, v1, v2⟩ := cells3 HP2.out.2.2.1
  obtain ⟨e0, e1, e2⟩ := free3 HP2.out.2.2.1
  obtain ⟨u0, u1, u2, u3, u4, u5⟩ := row0 HP2.out.2.2.2.1 HL.out
  obtain ⟨y0, y1, y2, y3, y4, y5⟩ := row1 HP2.out.2.2.2.1 HL.out
  go_wp2_with fail
  go_must (go_fit (H0.out _ HP2.out.2.2.2.2.1))
  rintro e w3 ⟨rfl, hb3⟩
  have HP3 := Lib.hid (BB.past HP2.out hb3)
  clear hb3 q0 q1 q2 f0 f1 f2 s0 s1 g0 g1 v0 v1 v2 e0 e1 e2 u0 u1 u2 u3 u4 u5 y0 y1 y2 y3 y4 y5
  obtain ⟨q0, q1, q2⟩ := cells3 HP3.out.1
  obtain ⟨f0, f1, f2⟩ := free3 HP3.out.1
  obtain ⟨s0, s1⟩ := cells2 HP3.out.2.1
  obtain ⟨g0, g1⟩ := freeP HP3.out.2.1
  obtain ⟨v0, v1, v2⟩ := cells3 HP3.out.2.2.1
  obtain ⟨e0, e1, e2⟩ := free3 HP3.out.2.2.1
  obtain ⟨u0, u1, u2, u3, u4, u5⟩ := row0 HP3.out.2.2.2.1 HL.out
  obtain ⟨y0, y1, y2, y3, y4, y5⟩ := row1 HP3.out.2.2.2.1 HL.out
  go_upto_region 9 with fail
  refine wp_only _ (BB.one HP3.out (.bool true)) ?_
  intro w4 hp
  have HP4 := Lib.hid hp
  clear hp q0 q1 q2 f0 f1 f2 s0 s1 g0 g1 v0 v1 v2 e0 e1 e2 u0 u1 u2 u3 u4 u5 y0 y1 y2 y3 y4 y5
  obtain ⟨q0, q1, q2⟩ := cells3 HP4.out.1
  obtain ⟨f0, f1, f2⟩ := free3 HP4.out.1
  obtain ⟨s0, s1⟩ := cells2 HP4.out.2.1
  obtain ⟨g0, g1⟩ := freeP HP4.out.2.1
  obtain ⟨v0, v1, v2⟩ := cells3 HP4.out.2.2.1
  obtain ⟨e0, e1, e2⟩ := free3 HP4.out.2.2.1
  obtain ⟨u0, u1, u2, u3, u4, u5⟩ := row0 HP4.out.2.2.2.1 HL.out
  obtain ⟨y0, y1, y2, y3, y4, y5⟩ := row1 HP4.out.2.2.2.1 HL.out
  go_upto_region 12 with fail
  go_wp2_with fail
  go_must (go_fit (H1.out _ HP4.out.2.2.2.2.1))
  rintro e w5 ⟨rfl, hb5⟩
  have HP5 := Lib.hid (BB.past HP4.out hb5)
  clear hb5 q0 q1 q2 f0 f1 f2 s0 s1 g0 g1 v0 v1 v2 e0 e1 e2 u0 u1 u2 u3 u4 u5 y0 y1 y2 y3 y4 y5
  obtain ⟨q0, q1, q2⟩ := cells3 HP5.out.1
  obtain ⟨f0, f1, f2⟩ := free3 HP5.out.1
  obtain ⟨s0, s1⟩ := cells2 HP5.out.2.1
  obtain ⟨g0, g1⟩ := freeP HP5.out.2.1
  obtain ⟨v0, v1, v2⟩ := cells3 HP5.out.2.2.1
  obtain ⟨e0, e1, e2⟩ := free3 HP5.out.2.2.1
  obtain ⟨u0, u1, u2, u3, u4, u5⟩ := row0 HP5.out.2.2.2.1 HL.out
  obtain ⟨y0, y1, y2, y3, y4, y5⟩ := row1 HP5.out.2.2.2.1 HL.out
  go_upto_region 14 with fail
  go_region_held3 (fun w' => w'.cell? ⟨g, 9, none⟩ = some (.int .i64 y.start)) (go_keep) (fail)
  rename_i hheld
  clear hheld
  go_wp2
  clear q0 q1 q2 f0 f1 f2 s0 s1 g0 g1 v0 v1 v2 e0 e1 e2 u0 u1 u2 u3 u4 u5 y0 y1 y2 y3 y4 y5
  have bel := HP5.out.2.2.2.2.1
  have tc := cells3 (far2 (c := w.heap.size + 1) (set3 (.bool false) (.bool false) (.int .i64 (0)) HP5.out.1) (by omega) (.int .i64 (6)) (.int .i64 (y.start)))
  have td := cells2 (set2 (.int .i64 (6)) (.int .i64 (y.start)) (far3 (c := w.heap.size) HP5.out.2.1 (by omega) (.bool false) (.bool false) (.int .i64 (0))))
  refine bodyPost_ret (v := bpR false false (0) (6) (y.start)) (by simp [results, Try.results48, go_sem, *]) rfl ?_
  exact ⟨rfl, (by repeat' (first | (with_reducible exact Below.refl _ _) | (with_reducible assumption) | (with_reducible refine below_drewN ?_ _) | (with_reducible refine Below.drew ?_) | (with_reducible refine Below.alloc ?_ ?_ _) | (with_reducible refine Below.setCell ?_ ?_ _) | go_size))⟩

set_option maxRecDepth 100000 in
set_option maxHeartbeats 3000000 in
theorem bp_two {A : Option Addr} {n c B : Nat} {l : List UInt8} {els : List El} {r1 r2 : Int} (w : World) (hr : Rd w B A n l) (hB : B ≤ w.heap.size) (hc : n ≤ c) (hm : c ≤ maxLen) (hn : n ≤ 1000000)
    (hpv : partsV l 0 16 = (els, r1, r2)) {x y : El} {xs : List El} {v : Int} {m : Nat} (hz : r1 = 0) (hz2 : r2 = 0) (he : els = x :: y :: xs) (hmm : els.length = m) (hlm : 1 < m) (hlm2 : ¬ 2 < m) (h0 : ∀ X : World, Below w.heap.size w X → Calls Try.prog 109 #[.slice A n c, elT x, .int .i64 0, .int .i64 1, toYes] X fun e X' => e = .returned (.tuple #[.bool true, .bool true]) ∧ Below X.heap.size X X') (h1 : ∀ X : World, Below w.heap.size w X → Calls Try.prog 110 #[.slice A n c, elT y, .int .i64 0, .int .i64 2, toCnt] X fun e X' => e = .returned (.tuple #[.int .i64 v, .bool true]) ∧ Below X.heap.size X X') :
    Calls Try.prog 48 #[.slice A n c] w fun e w' => e = .returned (bpR true true v 0 0) ∧ Below w.heap.size w w' := by
  have PA := Lib.hid (fun (X : World) (h : Below w.heap.size w X) => parts_any (c := c) 0 16 X (hr.below (h.mono hB)) (Nat.le_trans hB h.size) hc hm hn)
  rw [hpv] at PA
  subst hz hz2
  have HM := Lib.hid hmm
  have HE := Lib.hid he
  have HL := Lib.hid (show (x :: y :: xs : List El).length = m from by rw [← he]; exact hmm)
  have H0 := Lib.hid h0
  clear h0
  have H1 := Lib.hid h1
  clear h1
  have hm0 : 0 < m := by have := HL.out; simp only [List.length_cons] at this; omega
  clear hmm he
  clear hr hpv
  go_enter Try.func48, Try.ntmps48
  go_wp2_with fail
  go_must (go_fit (PA.out _ (((Below.refl _ _).alloc (Nat.le_refl _) _).alloc (by simp) _)))
  rintro e w1 ⟨A1, cc, rfl, o1, hb1⟩
  obtain ⟨t2, t3, bel⟩ := box2 hb1
  have zs := hb1.size
  simp only [World.size_alloc] at zs
  unfold OwnE at o1
  simp only [HM.out] at o1 ⊢
  obtain ⟨g, cap, hv⟩ := Joins.ownsRow_form o1 hm0
  injection hv with hP
  subst hP
  have hgl := World.ownsRow.lt o1 g rfl
  simp only [World.size_alloc] at hgl
  obtain ⟨hg1, hg2⟩ := hgl
  go_upto_region 5 with fail
  refine wp_only (BB w (w1.heap.size + 1) g m cc els #[.bool false, .bool false, .int .i64 0]) ?_ ?_
  · exact ⟨bk_old (bk_old t2), bk_old (bk_old t3), bk_new (by simp), ((owns_mono (base' := w.heap.size + 2) o1 (by simp)).alloc _).alloc _, (by repeat' (first | (with_reducible exact Below.refl _ _) | (with_reducible assumption) | (with_reducible refine below_drewN ?_ _) | (with_reducible refine Below.drew ?_) | (with_reducible refine Below.alloc ?_ ?_ _) | (with_reducible refine Below.setCell ?_ ?_ _) | go_size)), by omega, by omega, by omega⟩
  intro w2 hp
  clear o1 hb1 PA t2 t3 bel zs hg1 hg2
  generalize hg6 : w1.heap.size + 1 = b6 at *
  generalize w1.heap.size = b5 at *
  clear hg6 w1
  have n1 : ¬ b6 = w.heap.size := by have := hp.2.2.2.2.2; omega
  have n2 : ¬ w.heap.size = b6 := by have := hp.2.2.2.2.2; omega
  have n3 : ¬ b6 = w.heap.size + 1 := by have := hp.2.2.2.2.2; omega
  have n4 : ¬ w.heap.size + 1 = b6 := by have := hp.2.2.2.2.2; omega
  have n5 : ¬ g = w.heap.size := by have := hp.2.2.2.2.2; omega
  have n6 : ¬ w.heap.size = g := by have := hp.2.2.2.2.2; omega
  have n7 : ¬ g = w.heap.size + 1 := by have := hp.2.2.2.2.2; omega
  have n8 : ¬ w.heap.size + 1 = g := by have := hp.2.2.2.2.2; omega
  have n9 : ¬ g = b6 := by have := hp.2.2.2.2.2; omega
  have n10 : ¬ b6 = g := by have := hp.2.2.2.2.2; omega
  have HP2 := Lib.hid hp
  clear hp
  rw [HE.out] at HP2
  obtain ⟨q0, q1, q2⟩ := cells3 HP2.out.1
  obtain ⟨f0, f1, f2⟩ := free3 HP2.out.1
  obtain ⟨s0, s1⟩ := cells2 HP2.out.2.1
  obtain ⟨g0, g1⟩ := freeP HP2.out.2.1
  obtain ⟨v0, v1, v2⟩ := cells3 HP2.out.2.2.1
  obtain ⟨e0, e1, e2⟩ := free3 HP2.out.2.2.1
  obtain ⟨u0, u1, u2, u3, u4, u5⟩ := row0 HP2.out.2.2.2.1 HL.out
  obtain ⟨y0, y1, y2, y3, y4, y5⟩ := row1 HP2.out.2.2.2.1 HL.out
  go_wp2_with fail
  go_must (go_fit (H0.out _ HP2.out.2.2.2.2.1))
  rintro e w3 ⟨rfl, hb3⟩
  have HP3 := Lib.hid (BB.past HP2.out hb3)
  clear hb3 q0 q1 q2 f0 f1 f2 s0 s1 g0 g1 v0 v1 v2 e0 e1 e2 u0 u1 u2 u3 u4 u5 y0 y1 y2 y3 y4 y5
  obtain ⟨q0, q1, q2⟩ := cells3 HP3.out.1
  obtain ⟨f0, f1, f2⟩ := free3 HP3.out.1
  obtain ⟨s0, s1⟩ := cells2 HP3.out.2.1
  obtain ⟨g0, g1⟩ := freeP HP3.out.2.1
  obtain ⟨v0, v1, v2⟩ := cells3 HP3.out.2.2.1
  obtain ⟨e0, e1, e2⟩ := free3 HP3.out.2.2.1
  obtain ⟨u0, u1, u2, u3, u4, u5⟩ := row0 HP3.out.2.2.2.1 HL.out
  obtain ⟨y0, y1, y2, y3, y4, y5⟩ := row1 HP3.out.2.2.2.1 HL.out
  go_upto_region 9 with fail
  refine wp_only _ (BB.one HP3.out (.bool true)) ?_
  intro w4 hp
  have HP4 := Lib.hid hp
  clear hp q0 q1 q2 f0 f1 f2 s0 s1 g0 g1 v0 v1 v2 e0 e1 e2 u0 u1 u2 u3 u4 u5 y0 y1 y2 y3 y4 y5
  obtain ⟨q0, q1, q2⟩ := cells3 HP4.out.1
  obtain ⟨f0, f1, f2⟩ := free3 HP4.out.1
  obtain ⟨s0, s1⟩ := cells2 HP4.out.2.1
  obtain ⟨g0, g1⟩ := freeP HP4.out.2.1
  obtain ⟨v0, v1, v2⟩ := cells3 HP4.out.2.2.1
  obtain ⟨e0, e1, e2⟩ := free3 HP4.out.2.2.1
  obtain ⟨u0, u1, u2, u3, u4, u5⟩ := row0 HP4.out.2.2.2.1 HL.out
  obtain ⟨y0, y1, y2, y3, y4, y5⟩ := row1 HP4.out.2.2.2.1 HL.out
  go_upto_region 12 with fail
  go_wp2_with fail
  go_must (go_fit (H1.out _ HP4.out.2.2.2.2.1))
  rintro e w5 ⟨rfl, hb5⟩
  have HP5 := Lib.hid (BB.past HP4.out hb5)
  clear hb5 q0 q1 q2 f0 f1 f2 s0 s1 g0 g1 v0 v1 v2 e0 e1 e2 u0 u1 u2 u3 u4 u5 y0 y1 y2 y3 y4 y5
  obtain ⟨q0, q1, q2⟩ := cells3 HP5.out.1
  obtain ⟨f0, f1, f2⟩ := free3 HP5.out.1
  obtain ⟨s0, s1⟩ := cells2 HP5.out.2.1
  obtain ⟨g0, g1⟩ := freeP HP5.out.2.1
  obtain ⟨v0, v1, v2⟩ := cells3 HP5.out.2.2.1
  obtain ⟨e0, e1, e2⟩ := free3 HP5.out.2.2.1
  obtain ⟨u0, u1, u2, u3, u4, u5⟩ := row0 HP5.out.2.2.2.1 HL.out
  obtain ⟨y0, y1, y2, y3, y4, y5⟩ := row1 HP5.out.2.2.2.1 HL.out
  go_upto_region 16 with fail
  refine wp_only _ (BB.two HP5.out (.bool true) (.int .i64 v)) ?_
  intro w6 hp
  have HP6 := Lib.hid hp
  clear hp q0 q1 q2 f0 f1 f2 s0 s1 g0 g1 v0 v1 v2 e0 e1 e2 u0 u1 u2 u3 u4 u5 y0 y1 y2 y3 y4 y5
  obtain ⟨q0, q1, q2⟩ := cells3 HP6.out.1
  obtain ⟨f0, f1, f2⟩ := free3 HP6.out.1
  obtain ⟨s0, s1⟩ := cells2 HP6.out.2.1
  obtain ⟨g0, g1⟩ := freeP HP6.out.2.1
  obtain ⟨v0, v1, v2⟩ := cells3 HP6.out.2.2.1
  obtain ⟨e0, e1, e2⟩ := free3 HP6.out.2.2.1
  obtain ⟨u0, u1, u2, u3, u4, u5⟩ := row0 HP6.out.2.2.2.1 HL.out
  obtain ⟨y0, y1, y2, y3, y4, y5⟩ := row1 HP6.out.2.2.2.1 HL.out
  go_wp2
  clear q0 q1 q2 f0 f1 f2 s0 s1 g0 g1 v0 v1 v2 e0 e1 e2 u0 u1 u2 u3 u4 u5 y0 y1 y2 y3 y4 y5
  have bel := HP6.out.2.2.2.2.1
  have tc := cells3 (far2 (c := w.heap.size + 1) (set3 (.bool true) (.bool true) (.int .i64 (v)) HP6.out.1) (by omega) (.int .i64 (0)) (.int .i64 (0)))
  have td := cells2 (set2 (.int .i64 (0)) (.int .i64 (0)) (far3 (c := w.heap.size) HP6.out.2.1 (by omega) (.bool true) (.bool true) (.int .i64 (v))))
  refine bodyPost_ret (v := bpR true true (v) (0) (0)) (by simp [results, Try.results48, go_sem, *]) rfl ?_
  exact ⟨rfl, (by repeat' (first | (with_reducible exact Below.refl _ _) | (with_reducible assumption) | (with_reducible refine below_drewN ?_ _) | (with_reducible refine Below.drew ?_) | (with_reducible refine Below.alloc ?_ ?_ _) | (with_reducible refine Below.setCell ?_ ?_ _) | go_size))⟩

set_option maxRecDepth 100000 in
set_option maxHeartbeats 3000000 in
theorem bp_more {A : Option Addr} {n c B : Nat} {l : List UInt8} {els : List El} {r1 r2 : Int} (w : World) (hr : Rd w B A n l) (hB : B ≤ w.heap.size) (hc : n ≤ c) (hm : c ≤ maxLen) (hn : n ≤ 1000000)
    (hpv : partsV l 0 16 = (els, r1, r2)) {x y z : El} {xs : List El} {v : Int} {m : Nat} (hz : r1 = 0) (hz2 : r2 = 0) (he : els = x :: y :: z :: xs) (hmm : els.length = m) (hlm : 1 < m) (hlm2 : 2 < m) (h0 : ∀ X : World, Below w.heap.size w X → Calls Try.prog 109 #[.slice A n c, elT x, .int .i64 0, .int .i64 1, toYes] X fun e X' => e = .returned (.tuple #[.bool true, .bool true]) ∧ Below X.heap.size X X') (h1 : ∀ X : World, Below w.heap.size w X → Calls Try.prog 110 #[.slice A n c, elT y, .int .i64 0, .int .i64 2, toCnt] X fun e X' => e = .returned (.tuple #[.int .i64 v, .bool true]) ∧ Below X.heap.size X X') :
    Calls Try.prog 48 #[.slice A n c] w fun e w' => e = .returned (bpR false false 0 2 z.start) ∧ Below w.heap.size w w' := by
  have PA := Lib.hid (fun (X : World) (h : Below w.heap.size w X) => parts_any (c := c) 0 16 X (hr.below (h.mono hB)) (Nat.le_trans hB h.size) hc hm hn)
  rw [hpv] at PA
  subst hz hz2
  have HM := Lib.hid hmm
  have HE := Lib.hid he
  have HL := Lib.hid (show (x :: y :: z :: xs : List El).length = m from by rw [← he]; exact hmm)
  have H0 := Lib.hid h0
  clear h0
  have H1 := Lib.hid h1
  clear h1
  have hm0 : 0 < m := by have := HL.out; simp only [List.length_cons] at this; omega
  clear hmm he
  clear hr hpv
  go_enter Try.func48, Try.ntmps48
  go_wp2_with fail
  go_must (go_fit (PA.out _ (((Below.refl _ _).alloc (Nat.le_refl _) _).alloc (by simp) _)))
  rintro e w1 ⟨A1, cc, rfl, o1, hb1⟩
  obtain ⟨t2, t3, bel⟩ := box2 hb1
  have zs := hb1.size
  simp only [World.size_alloc] at zs
  unfold OwnE at o1
  simp only [HM.out] at o1 ⊢
  obtain ⟨g, cap, hv⟩ := Joins.ownsRow_form o1 hm0
  injection hv with hP
  subst hP
  have hgl := World.ownsRow.lt o1 g rfl
  simp only [World.size_alloc] at hgl
  obtain ⟨hg1, hg2⟩ := hgl
  go_upto_region 5 with fail
  refine wp_only (BB w (w1.heap.size + 1) g m cc els #[.bool false, .bool false, .int .i64 0]) ?_ ?_
  · exact ⟨bk_old (bk_old t2), bk_old (bk_old t3), bk_new (by simp), ((owns_mono (base' := w.heap.size + 2) o1 (by simp)).alloc _).alloc _, (by repeat' (first | (with_reducible exact Below.refl _ _) | (with_reducible assumption) | (with_reducible refine below_drewN ?_ _) | (with_reducible refine Below.drew ?_) | (with_reducible refine Below.alloc ?_ ?_ _) | (with_reducible refine Below.setCell ?_ ?_ _) | go_size)), by omega, by omega, by omega⟩
  intro w2 hp
  clear o1 hb1 PA t2 t3 bel zs hg1 hg2
  generalize hg6 : w1.heap.size + 1 = b6 at *
  generalize w1.heap.size = b5 at *
  clear hg6 w1
  have n1 : ¬ b6 = w.heap.size := by have := hp.2.2.2.2.2; omega
  have n2 : ¬ w.heap.size = b6 := by have := hp.2.2.2.2.2; omega
  have n3 : ¬ b6 = w.heap.size + 1 := by have := hp.2.2.2.2.2; omega
  have n4 : ¬ w.heap.size + 1 = b6 := by have := hp.2.2.2.2.2; omega
  have n5 : ¬ g = w.heap.size := by have := hp.2.2.2.2.2; omega
  have n6 : ¬ w.heap.size = g := by have := hp.2.2.2.2.2; omega
  have n7 : ¬ g = w.heap.size + 1 := by have := hp.2.2.2.2.2; omega
  have n8 : ¬ w.heap.size + 1 = g := by have := hp.2.2.2.2.2; omega
  have n9 : ¬ g = b6 := by have := hp.2.2.2.2.2; omega
  have n10 : ¬ b6 = g := by have := hp.2.2.2.2.2; omega
  have HP2 := Lib.hid hp
  clear hp
  rw [HE.out] at HP2
  obtain ⟨q0, q1, q2⟩ := cells3 HP2.out.1
  obtain ⟨f0, f1, f2⟩ := free3 HP2.out.1
  obtain ⟨s0, s1⟩ := cells2 HP2.out.2.1
  obtain ⟨g0, g1⟩ := freeP HP2.out.2.1
  obtain ⟨v0, v1, v2⟩ := cells3 HP2.out.2.2.1
  obtain ⟨e0, e1, e2⟩ := free3 HP2.out.2.2.1
  obtain ⟨u0, u1, u2, u3, u4, u5⟩ := row0 HP2.out.2.2.2.1 HL.out
  obtain ⟨y0, y1, y2, y3, y4, y5⟩ := row1 HP2.out.2.2.2.1 HL.out
  have z3 := row2 HP2.out.2.2.2.1 HL.out
  go_wp2_with fail
  go_must (go_fit (H0.out _ HP2.out.2.2.2.2.1))
  rintro e w3 ⟨rfl, hb3⟩
  have HP3 := Lib.hid (BB.past HP2.out hb3)
  clear hb3 q0 q1 q2 f0 f1 f2 s0 s1 g0 g1 v0 v1 v2 e0 e1 e2 u0 u1 u2 u3 u4 u5 y0 y1 y2 y3 y4 y5 z3
  obtain ⟨q0, q1, q2⟩ := cells3 HP3.out.1
  obtain ⟨f0, f1, f2⟩ := free3 HP3.out.1
  obtain ⟨s0, s1⟩ := cells2 HP3.out.2.1
  obtain ⟨g0, g1⟩ := freeP HP3.out.2.1
  obtain ⟨v0, v1, v2⟩ := cells3 HP3.out.2.2.1
  obtain ⟨e0, e1, e2⟩ := free3 HP3.out.2.2.1
  obtain ⟨u0, u1, u2, u3, u4, u5⟩ := row0 HP3.out.2.2.2.1 HL.out
  obtain ⟨y0, y1, y2, y3, y4, y5⟩ := row1 HP3.out.2.2.2.1 HL.out
  have z3 := row2 HP3.out.2.2.2.1 HL.out
  go_upto_region 9 with fail
  refine wp_only _ (BB.one HP3.out (.bool true)) ?_
  intro w4 hp
  have HP4 := Lib.hid hp
  clear hp q0 q1 q2 f0 f1 f2 s0 s1 g0 g1 v0 v1 v2 e0 e1 e2 u0 u1 u2 u3 u4 u5 y0 y1 y2 y3 y4 y5 z3
  obtain ⟨q0, q1, q2⟩ := cells3 HP4.out.1
  obtain ⟨f0, f1, f2⟩ := free3 HP4.out.1
  obtain ⟨s0, s1⟩ := cells2 HP4.out.2.1
  obtain ⟨g0, g1⟩ := freeP HP4.out.2.1
  obtain ⟨v0, v1, v2⟩ := cells3 HP4.out.2.2.1
  obtain ⟨e0, e1, e2⟩ := free3 HP4.out.2.2.1
  obtain ⟨u0, u1, u2, u3, u4, u5⟩ := row0 HP4.out.2.2.2.1 HL.out
  obtain ⟨y0, y1, y2, y3, y4, y5⟩ := row1 HP4.out.2.2.2.1 HL.out
  have z3 := row2 HP4.out.2.2.2.1 HL.out
  go_upto_region 12 with fail
  go_wp2_with fail
  go_must (go_fit (H1.out _ HP4.out.2.2.2.2.1))
  rintro e w5 ⟨rfl, hb5⟩
  have HP5 := Lib.hid (BB.past HP4.out hb5)
  clear hb5 q0 q1 q2 f0 f1 f2 s0 s1 g0 g1 v0 v1 v2 e0 e1 e2 u0 u1 u2 u3 u4 u5 y0 y1 y2 y3 y4 y5 z3
  obtain ⟨q0, q1, q2⟩ := cells3 HP5.out.1
  obtain ⟨f0, f1, f2⟩ := free3 HP5.out.1
  obtain ⟨s0, s1⟩ := cells2 HP5.out.2.1
  obtain ⟨g0, g1⟩ := freeP HP5.out.2.1
  obtain ⟨v0, v1, v2⟩ := cells3 HP5.out.2.2.1
  obtain ⟨e0, e1, e2⟩ := free3 HP5.out.2.2.1
  obtain ⟨u0, u1, u2, u3, u4, u5⟩ := row0 HP5.out.2.2.2.1 HL.out
  obtain ⟨y0, y1, y2, y3, y4, y5⟩ := row1 HP5.out.2.2.2.1 HL.out
  have z3 := row2 HP5.out.2.2.2.1 HL.out
  go_upto_region 16 with fail
  refine wp_only _ (BB.two HP5.out (.bool true) (.int .i64 v)) ?_
  intro w6 hp
  have HP6 := Lib.hid hp
  clear hp q0 q1 q2 f0 f1 f2 s0 s1 g0 g1 v0 v1 v2 e0 e1 e2 u0 u1 u2 u3 u4 u5 y0 y1 y2 y3 y4 y5 z3
  obtain ⟨q0, q1, q2⟩ := cells3 HP6.out.1
  obtain ⟨f0, f1, f2⟩ := free3 HP6.out.1
  obtain ⟨s0, s1⟩ := cells2 HP6.out.2.1
  obtain ⟨g0, g1⟩ := freeP HP6.out.2.1
  obtain ⟨v0, v1, v2⟩ := cells3 HP6.out.2.2.1
  obtain ⟨e0, e1, e2⟩ := free3 HP6.out.2.2.1
  obtain ⟨u0, u1, u2, u3, u4, u5⟩ := row0 HP6.out.2.2.2.1 HL.out
  obtain ⟨y0, y1, y2, y3, y4, y5⟩ := row1 HP6.out.2.2.2.1 HL.out
  have z3 := row2 HP6.out.2.2.2.1 HL.out
  go_upto_region 17 with fail
  go_region_held3 (fun w' => w'.cell? ⟨g, 15, none⟩ = some (.int .i64 z.start)) (go_keep) (fail)
  rename_i hheld
  clear hheld
  go_wp2
  clear q0 q1 q2 f0 f1 f2 s0 s1 g0 g1 v0 v1 v2 e0 e1 e2 u0 u1 u2 u3 u4 u5 y0 y1 y2 y3 y4 y5 z3
  have bel := HP6.out.2.2.2.2.1
  have tc := cells3 (far2 (c := w.heap.size + 1) (set3 (.bool false) (.bool false) (.int .i64 (0)) HP6.out.1) (by omega) (.int .i64 (2)) (.int .i64 (z.start)))
  have td := cells2 (set2 (.int .i64 (2)) (.int .i64 (z.start)) (far3 (c := w.heap.size) HP6.out.2.1 (by omega) (.bool false) (.bool false) (.int .i64 (0))))
  refine bodyPost_ret (v := bpR false false (0) (2) (z.start)) (by simp [results, Try.results48, go_sem, *]) rfl ?_
  exact ⟨rfl, (by repeat' (first | (with_reducible exact Below.refl _ _) | (with_reducible assumption) | (with_reducible refine below_drewN ?_ _) | (with_reducible refine Below.drew ?_) | (with_reducible refine Below.alloc ?_ ?_ _) | (with_reducible refine Below.setCell ?_ ?_ _) | go_size))⟩
end Go.Proofs.Ytnpmgofkfdpbjaa.Bas
/- Walks: value of a BOOLEAN; what Parse of basic returns: the record whose encoding the bytes are, or an error. -/
namespace Go.Proofs.Ytnpmgofkfdpbjaa.Bas
open Go.RowKit Kit Tlv

theorem boolV_iff {l : List UInt8} : Int4.boolV l = true ↔ l = [255] := by
  unfold Int4.boolV
  constructor
  · intro h
    simp only [Bool.and_eq_true, decide_eq_true_eq] at h
    obtain ⟨h1, h2⟩ := h
    match l, h1 with
    | [b], _ =>
      have : (b.toNat : Int) = 255 := h2
      congr 1
      exact UInt8.toNat_inj.1 (by show b.toNat = 255; omega)
  · rintro rfl; decide
theorem boolV_code {l : List UInt8} (h : Int4.boolV l = true) : Int4.boolC l = 0 := by rw [boolV_iff.1 h]; decide

set_option maxHeartbeats 2000000 in
theorem yes_any {A : Option Addr} {n c B : Nat} {l : List UInt8} (w : World) (hr : Rd w B A n l) (hB : B ≤ w.heap.size) :
    Calls Try.prog 107 #[.slice A n c] w fun e w' => e = .returned (.tuple #[.bool (Int4.boolV l), .bool (Int4.boolV l)]) ∧ w = w' := by
  have BO := Lib.hid (Int4.boolean_any (c := c) w hr hB)
  have HC := Lib.hid (fun h => boolV_code (l := l) h)
  clear hr
  generalize Int4.boolC l = cd at *
  cases hb : Int4.boolV l with
  | false =>
    rw [hb] at BO
    clear hb HC
    go_enter Try.func107, Try.ntmps107
    go_wp2_with fail
    go_must (go_fit BO.out)
    rintro e w1 ⟨rfl, rfl⟩
    go_wp2
    go_ret2
    exact ⟨rfl, rfl⟩
  | true =>
    obtain rfl : cd = 0 := HC.out hb
    rw [hb] at BO
    clear hb HC
    go_enter Try.func107, Try.ntmps107
    go_wp2_with fail
    go_must (go_fit BO.out)
    rintro e w1 ⟨rfl, rfl⟩
    go_wp2
    go_ret2
    exact ⟨rfl, rfl⟩

set_option maxRecDepth 100000 in
set_option maxHeartbeats 2000000 in
theorem valB_no {A : Option Addr} {n c : Nat} {x0 x1 x3 x4 x5 : Int} {x2 : Bool} (cl tg : Int) (D : Value) (w : World) (hT : ¬ ((x0 = cl ∧ x2 = false) ∧ x1 = tg)) :
    Calls Try.prog 109 #[.slice A n c, .agg #[.int .i64 x0, .int .i64 x1, .bool x2, .int .i64 x3, .int .i64 x4, .int .i64 x5], .int .i64 cl, .int .i64 tg, D] w fun e w' => e = .returned (.tuple #[.bool false, .bool false]) ∧ Below w.heap.size w w' := by
  have IS := Lib.hid (fun (X : World) => is_any x0 x1 x3 x4 x5 x2 cl false tg X)
  have IB := Lib.hid (isB_not (x3 := x3) (x4 := x4) (x5 := x5) hT)
  rw [IB.out] at IS
  clear hT IB
  go_enter Try.func109, Try.ntmps109
  go_wp2_with fail
  go_must (go_fit (IS.out _))
  rintro e w1 ⟨rfl, hb1⟩
  go_wp2
  go_ret2
  exact ⟨rfl, bel1 hb1⟩

set_option maxRecDepth 100000 in
set_option maxHeartbeats 2000000 in
theorem valB_at {A : Option Addr} {n c B : Nat} {l : List UInt8} {x0 x1 x3 : Int} {x2 : Bool} (m4 m5 : Nat) (cl tg : Int) (w : World) (hr : Rd w B A n l) (hB : B ≤ w.heap.size) (hc : n ≤ c) (hn : n ≤ 1000000) (h45 : m4 ≤ m5) (h5 : m5 ≤ n) (hT : (x0 = cl ∧ x2 = false) ∧ x1 = tg) :
    Calls Try.prog 109 #[.slice A n c, .agg #[.int .i64 x0, .int .i64 x1, .bool x2, .int .i64 x3, .int .i64 (m4 : Int), .int .i64 (m5 : Int)], .int .i64 cl, .int .i64 tg, .func (.func 107) #[] #[]] w fun e w' => e = .returned (.tuple #[.bool (Int4.boolV ((l.drop m4).take (m5 - m4))), .bool (Int4.boolV ((l.drop m4).take (m5 - m4)))]) ∧ Below w.heap.size w w' := by
  have IS := Lib.hid (fun (X : World) => is_any x0 x1 x3 (m4 : Int) (m5 : Int) x2 cl false tg X)
  have IB := Lib.hid (isB_iff (x3 := x3) (x4 := (m4 : Int)) (x5 := (m5 : Int)) hT)
  rw [IB.out] at IS
  have HR := Lib.hid hr
  have hz1 : (m4 : Int) ≤ (m5 : Int) := by omega
  have hz2 : (m5 : Int) ≤ (c : Int) := by omega
  clear hT IB hr
  obtain ⟨k, hk⟩ : ∃ k, (l.drop m4).take (m5 - m4) = k := ⟨_, rfl⟩
  have HK := Lib.hid hk
  rw [hk]
  obtain ⟨bq, hbq⟩ : ∃ bq, Int4.boolV k = bq := ⟨_, rfl⟩
  have HBQ := Lib.hid hbq
  rw [hbq]
  clear hk hbq
  go_enter Try.func109, Try.ntmps109
  go_upto_region 4 with (first | (go_at_call 89; go_must (go_fit (IS.out _)); rintro e w1 ⟨rfl, hb1⟩))
  have tb := blk1 hb1
  have BE := Lib.hid (bel1 hb1)
  have hrd := ((HR.out.below (BE.out.mono hB)).more (Nat.le_trans hB BE.out.size)).cut (k := m4) (m := m5) (cap := c) h45 h5 (by omega)
  simp only [Nat.mul_one] at hrd
  clear hb1 HR IS
  have HRD := Lib.hid hrd
  clear hrd
  obtain ⟨u0, u1, u2, u3, u4, u5⟩ := cells6 tb
  clear tb
  obtain ⟨A1, hA⟩ : ∃ A1, (if c = m4 then A else Option.map (fun x => x.add m4) A) = A1 := ⟨_, rfl⟩
  rw [hA, HK.out] at HRD
  have DEC := Lib.hid (yes_any (c := c - m4) w1 HRD.out (Nat.le_refl _))
  rw [HBQ.out] at DEC
  go_wp2_with fail
  go_must (go_fit DEC.out)
  rintro e w2 ⟨rfl, rfl⟩
  clear u0 u1 u2 u3 u4 u5 DEC hA
  cases bq with
  | false =>
    go_wp2
    go_ret2
    exact ⟨rfl, BE.out⟩
  | true =>
    go_wp2
    go_ret2
    exact ⟨rfl, BE.out⟩

/-- the parts of basic constraints, of policy constraints -/
def basS (ca hp : Bool) (p : Int) : List Sh := (if ca = true then [(0, 1, false, [255])] else []) ++ (if hp = true then [(0, 2, false, Int4.intL p)] else [])
theorem basS_enc (ca hp : Bool) (p : Int) : catS (basS ca hp p) = basP ca hp p := by
  unfold basS basP
  cases ca <;> cases hp <;> simp [catS, encS, nmL, ca_enc.1]
theorem basS_cod {ca hp : Bool} {p : Int} (h : cntB p = true) : ∀ q, q ∈ basS ca hp p → codS q := by
  intro q hq
  unfold basS at hq
  have h1 : codS (0, 1, false, [255]) := ca_enc.2
  have h2 : codS (0, 2, false, Int4.intL p) := nm_code (c := 0) (t := 2) (by omega) (by omega) (int_bd h)
  cases ca <;> cases hp <;> simp at hq
  · subst hq; exact h2
  · subst hq; exact h1
  · rcases hq with rfl | rfl
    · exact h1
    · exact h2
def BpOk (w : World) (args : Array Value) (l : List UInt8) : Prop :=
  ∃ ca hp p, basB ca hp p = true ∧ l = basL ca hp p ∧ Calls Try.prog 48 args w fun e w' => e = .returned (bpR ca hp p 0 0) ∧ Below w.heap.size w w'
def BpNo (w : World) (args : Array Value) (l : List UInt8) : Prop :=
  (∀ ca hp p, basB ca hp p = true → l ≠ basL ca hp p) ∧ ∃ code off, 0 < code ∧ 0 ≤ off ∧ off ≤ (l.length : Int) ∧ Calls Try.prog 48 args w fun e w' => e = .returned (bpR false false 0 code off) ∧ Below w.heap.size w w'
/-- a valid record's encoding, read -/
theorem bas_fwd {ca hp : Bool} {p : Int} (h : basB ca hp p = true) : ∃ els, partsV (basL ca hp p) 0 16 = (els, 0, 0) ∧ els.map (shX (basL ca hp p)) = basS ca hp p := by
  have hc := (basB_iff.1 h).1
  have hl := basP_len (ca := ca) (hp := hp) hc
  rw [(bas_yes h).2, ← basS_enc]
  exact parts_fwd (basS_cod hc) (by rw [basS_enc]; exact seq_code (by omega)) (by rw [basS_enc]; omega)
theorem parts_err {l : List UInt8} {els : List El} {r1 r2 : Int} (hl : l.length ≤ 1000000) (h : partsV l 0 16 = (els, r1, r2)) (hz : ¬ r1 = 0) : 0 < r1 ∧ 0 ≤ r2 ∧ r2 ≤ l.length := by
  by_cases h1 : (oneV l).2.1 ≠ 0
  · rw [partsV_err h1] at h
    obtain ⟨d1, d2, d3, d4⟩ := one_err (by omega) h1
    injection h with _ h2
    injection h2 with h2 h3
    omega
  · by_cases h2 : ((oneV l).1.cls = 0 ∧ (oneV l).1.cons = true) ∧ (oneV l).1.num = 16
    · rw [partsV_ok h1 h2] at h
      obtain ⟨d1, d2, d3, d4, d5⟩ := one_bd (by omega : (oneV l).2.1 = 0)
      have hbd := (listV_bd (l := l) (a := (oneV l).1.body.toNat) (z := (oneV l).1.stop.toNat) (by omega) (by omega) (by omega)).2 (by rw [h]; exact hz)
      rw [h] at hbd
      simp only [] at hbd
      omega
    · rw [partsV_tag h1 h2] at h
      injection h with _ h2
      injection h2 with h2 h3
      omega
/-- an element of a list, met by value -/
theorem at_nat {l : List UInt8} {x : El} (h : 0 ≤ x.start ∧ 0 ≤ x.body ∧ x.body ≤ x.stop ∧ x.stop ≤ l.length ∧ x.start ≤ l.length) : ∃ m4 m5 : Nat, x.body = m4 ∧ x.stop = m5 ∧ m4 ≤ m5 ∧ m5 ≤ l.length ∧ conX l x = (l.drop m4).take (m5 - m4) := by
  refine ⟨x.body.toNat, x.stop.toNat, by omega, by omega, by omega, by omega, rfl⟩
/-- does an element hold TRUE? a count? -/
def okT (l : List UInt8) (x : El) : Bool := if (x.cls = 0 ∧ x.cons = false) ∧ x.num = 1 then Int4.boolV (conX l x) else false
def okN (l : List UInt8) (c t : Int) (x : El) : Bool := if (x.cls = c ∧ x.cons = false) ∧ x.num = t then rdB (conX l x) else false
def vaN (l : List UInt8) (c t : Int) (x : El) : Int := if okN l c t x = true then Int4.intV (conX l x) else 0
theorem okT_iff {l : List UInt8} {x : El} : okT l x = true ↔ shX l x = (0, 1, false, [255]) := by
  unfold okT shX
  by_cases h : (x.cls = 0 ∧ x.cons = false) ∧ x.num = 1
  · rw [if_pos h, boolV_iff, h.1.1, h.1.2, h.2]; simp
  · rw [if_neg h]
    constructor
    · intro h'; cases h'
    · intro h'
      injection h' with e1 e2
      injection e2 with e2 e3
      injection e3 with e3 e4
      exact absurd ⟨⟨e1, e3⟩, e2⟩ h
theorem okN_iff {l : List UInt8} {c t : Int} {x : El} : okN l c t x = true ↔ cntB (vaN l c t x) = true ∧ shX l x = (c, t, false, Int4.intL (vaN l c t x)) := by
  unfold vaN
  by_cases h : okN l c t x = true
  · rw [if_pos h]
    have h' := h
    unfold okN at h'
    by_cases hT : (x.cls = c ∧ x.cons = false) ∧ x.num = t
    · rw [if_pos hT] at h'
      obtain ⟨f1, f2⟩ := rd_of h'
      refine ⟨fun _ => ⟨f1, ?_⟩, fun _ => h⟩
      unfold shX
      rw [f2, hT.1.1, hT.1.2, hT.2]
    · rw [if_neg hT] at h'; cases h'
  · rw [if_neg h]
    refine ⟨fun h' => absurd h' h, fun h' => ?_⟩
    exfalso
    apply h
    obtain ⟨_, h2⟩ := h'
    unfold shX at h2
    injection h2 with e1 e2
    injection e2 with e2 e3
    injection e3 with e3 e4
    unfold okN
    rw [if_pos ⟨⟨e1, e3⟩, e2⟩, e4]
    exact (rd_back (by decide)).1
theorem okN_of {l : List UInt8} {c t n : Int} {x : El} (hn : cntB n = true) (h : shX l x = (c, t, false, Int4.intL n)) : okN l c t x = true ∧ vaN l c t x = n := by
  unfold shX at h
  injection h with e1 e2
  injection e2 with e2 e3
  injection e3 with e3 e4
  have h1 : okN l c t x = true := by unfold okN; rw [if_pos ⟨⟨e1, e3⟩, e2⟩, e4]; exact (rd_back hn).1
  refine ⟨h1, ?_⟩
  unfold vaN
  rw [if_pos h1, e4, (rd_back hn).2]
theorem callT {A : Option Addr} {n c B : Nat} {l : List UInt8} {x : El} (hx : 0 ≤ x.start ∧ 0 ≤ x.body ∧ x.body ≤ x.stop ∧ x.stop ≤ l.length ∧ x.start ≤ l.length) (X : World) (hr : Rd X B A n l) (hB : B ≤ X.heap.size) (hc : n ≤ c) (hn : n ≤ 1000000) :
    Calls Try.prog 109 #[.slice A n c, elT x, .int .i64 0, .int .i64 1, toYes] X fun e X' => e = .returned (.tuple #[.bool (okT l x), .bool (okT l x)]) ∧ Below X.heap.size X X' := by
  have hl := hr.len
  obtain ⟨m4, m5, h4, h5, h45, h5n, hcon⟩ := at_nat hx
  obtain ⟨x0, x1, x2, x3, x4, x5⟩ := x
  simp only [] at h4 h5
  subst h4 h5
  by_cases hT : (x0 = 0 ∧ x2 = false) ∧ x1 = 1
  · have := valB_at (x3 := x3) m4 m5 0 1 X hr hB hc hn h45 (by omega) hT
    unfold okT
    rw [if_pos hT, hcon]
    exact this
  · have := valB_no (A := A) (n := n) (c := c) (x3 := x3) (x4 := (m4 : Int)) (x5 := (m5 : Int)) 0 1 toYes X hT
    unfold okT
    rw [if_neg hT]
    exact this
theorem callN {A : Option Addr} {n c B : Nat} {l : List UInt8} {x : El} (cl tg : Int) (hx : 0 ≤ x.start ∧ 0 ≤ x.body ∧ x.body ≤ x.stop ∧ x.stop ≤ l.length ∧ x.start ≤ l.length) (X : World) (hr : Rd X B A n l) (hB : B ≤ X.heap.size) (hc : n ≤ c) (hn : n ≤ 1000000) :
    Calls Try.prog 110 #[.slice A n c, elT x, .int .i64 cl, .int .i64 tg, toCnt] X fun e X' => e = .returned (.tuple #[.int .i64 (vaN l cl tg x), .bool (okN l cl tg x)]) ∧ Below X.heap.size X X' := by
  have hl := hr.len
  obtain ⟨m4, m5, h4, h5, h45, h5n, hcon⟩ := at_nat hx
  obtain ⟨x0, x1, x2, x3, x4, x5⟩ := x
  simp only [] at h4 h5
  subst h4 h5
  by_cases hT : (x0 = cl ∧ x2 = false) ∧ x1 = tg
  · have := valI_at (x3 := x3) m4 m5 cl tg X hr hB hc hn h45 (by omega) hT
    unfold vaN okN
    rw [if_pos hT, hcon]
    exact this
  · have := valI_no (A := A) (n := n) (c := c) (x3 := x3) (x4 := (m4 : Int)) (x5 := (m5 : Int)) cl tg toCnt X hT
    unfold vaN okN
    rw [if_neg hT]
    exact this

theorem bparse_any {A : Option Addr} {n c B : Nat} {l : List UInt8} (w : World) (hr : Rd w B A n l) (hB : B ≤ w.heap.size) (hc : n ≤ c) (hm : c ≤ maxLen) (hn : n ≤ 1000000) :
    BpOk w #[.slice A n c] l ∨ BpNo w #[.slice A n c] l := by
  have hl := hr.len
  obtain ⟨els, r1, r2, hpv⟩ : ∃ els r1 r2, partsV l 0 16 = (els, r1, r2) := ⟨_, _, _, rfl⟩
  -- what a valid record's encoding would be
  have fwd : ∀ ca hp p, basB ca hp p = true → l = basL ca hp p → r1 = 0 ∧ els.map (shX l) = basS ca hp p := fun ca hp p hv e => by
    obtain ⟨els', h1, h2⟩ := bas_fwd hv
    rw [← e] at h1 h2
    rw [hpv] at h1
    injection h1 with h3 h4
    injection h4 with h4
    exact ⟨h4, by rw [h3]; exact h2⟩
  by_cases hz : r1 = 0
  · obtain ⟨hz2, hle, hcod, hbd⟩ := parts_bwd (l := l) (by omega) (by rw [hpv, hz])
    have hcallT := fun (x : El) (hx : x ∈ els) (X : World) (hX : Below w.heap.size w X) => callT (hbd x hx) X (hr.below (hX.mono hB)) (Nat.le_trans hB hX.size) hc hn
    have hcallN := fun (x : El) (hx : x ∈ els) (X : World) (hX : Below w.heap.size w X) => callN 0 2 (hbd x hx) X (hr.below (hX.mono hB)) (Nat.le_trans hB hX.size) hc hn
    match els, hpv, fwd, hle, hbd, hcallT, hcallN with
    | [], hpv, fwd, hle, hbd, hcallT, hcallN =>
      exact .inl ⟨false, false, 0, by decide, by rw [(bas_yes (by decide)).2]; exact hle, bp_nil w hr hB hc hm hn hpv hz hz2 rfl⟩
    | x :: xs, hpv, fwd, hle, hbd, hcallT, hcallN =>
      have hx0 := hcallT x (by simp)
      have hbx := hbd x (by simp)
      cases hok : okT l x with
      | false =>
        rw [hok] at hx0
        refine .inr ⟨fun ca hp p hv e => ?_, 6, x.start, by omega, hbx.1, by omega, bp_bad0 (v := 0) w hr hB hc hm hn hpv hz hz2 rfl rfl hx0⟩
        have h2 := (fwd ca hp p hv e).2
        cases ca with
        | true =>
          simp only [basS, List.map_cons, if_true, List.singleton_append, List.cons.injEq] at h2
          rw [okT_iff.2 h2.1] at hok
          cases hok
        | false =>
          cases hp with
          | true => exact absurd ((basB_iff.1 hv).2.1 rfl) (by decide)
          | false => simp [basS] at h2
      | true =>
        rw [hok] at hx0
        have hsx := okT_iff.1 hok
        match xs, hpv, fwd, hle, hbd, hcallT, hcallN with
        | [], hpv, fwd, hle, hbd, hcallT, hcallN =>
          refine .inl ⟨true, false, 0, by decide, ?_, bp_one (v := 0) w hr hB hc hm hn hpv hz hz2 rfl rfl (by simp) hx0⟩
          rw [(bas_yes (by decide)).2, ← basS_enc]
          rw [List.map_cons, List.map_nil, hsx] at hle
          exact hle
        | y :: ys, hpv, fwd, hle, hbd, hcallT, hcallN =>
          have hy0 := hcallN y (by simp)
          have hby := hbd y (by simp)
          cases hok2 : okN l 0 2 y with
          | false =>
            rw [hok2] at hy0
            refine .inr ⟨fun ca hp p hv e => ?_, 6, y.start, by omega, hby.1, by omega, bp_bad1 w hr hB hc hm hn hpv hz hz2 rfl rfl (by simp) hx0 hy0⟩
            have h2 := (fwd ca hp p hv e).2
            cases ca with
            | true =>
              cases hp with
              | true =>
                simp only [basS, List.map_cons, if_true, List.singleton_append, List.cons.injEq] at h2
                rw [(okN_of (basB_iff.1 hv).1 h2.2.1).1] at hok2
                cases hok2
              | false => simp [basS] at h2
            | false =>
              cases hp with
              | true => exact absurd ((basB_iff.1 hv).2.1 rfl) (by decide)
              | false => simp [basS] at h2
          | true =>
            rw [hok2] at hy0
            obtain ⟨hcy, hsy⟩ := okN_iff.1 hok2
            match ys, hpv, fwd, hle, hbd, hcallT, hcallN with
            | [], hpv, fwd, hle, hbd, hcallT, hcallN =>
              have hbb : basB true true (vaN l 0 2 y) = true := basB_iff.2 ⟨hcy, fun _ => rfl, fun h => by cases h⟩
              refine .inl ⟨true, true, vaN l 0 2 y, hbb, ?_, bp_two w hr hB hc hm hn hpv hz hz2 rfl rfl (by simp) (by simp) hx0 hy0⟩
              rw [(bas_yes hbb).2, ← basS_enc]
              rw [List.map_cons, List.map_cons, List.map_nil, hsx, hsy] at hle
              exact hle
            | z :: zs, hpv, fwd, hle, hbd, hcallT, hcallN =>
              have hbz := hbd z (by simp)
              refine .inr ⟨fun ca hp p hv e => ?_, 2, z.start, by omega, hbz.1, by omega, bp_more w hr hB hc hm hn hpv hz hz2 rfl rfl (by simp) (by simp) hx0 hy0⟩
              have h2 := congrArg List.length (fwd ca hp p hv e).2
              cases ca <;> cases hp <;> simp [basS] at h2
  · obtain ⟨d1, d2, d3⟩ := parts_err (by omega) hpv hz
    refine .inr ⟨fun ca hp p hv e => absurd (fwd ca hp p hv e).1 hz, r1, r2, d1, d2, d3, bp_err w hr hB hc hm hn hpv hz⟩
end Go.Proofs.Ytnpmgofkfdpbjaa.Bas
/- Walks: law16.awake. -/
namespace Go.Proofs.Ytnpmgofkfdpbjaa.Bas
open Go.RowKit Kit Tlv

theorem aw1 : basL true true 3 = [48, 6, 1, 1, 255, 2, 1, 3] ∧ basC true true 3 = 0 := by decide +kernel
theorem aw2 : basL false false 0 = [48, 0] ∧ basC false false 0 = 0 := by decide +kernel
theorem aw3 : skiL false 0 true 0 = [48, 3, 129, 1, 0] ∧ skiC false 0 true 0 = 0 := by decide +kernel
theorem aw4 : cntL 128 = [2, 2, 0, 128] ∧ cntC 128 = 0 := by decide +kernel
theorem aw5 : encL 0 true 16 [1, 1, 0] = [48, 3, 1, 1, 0] := by decide +kernel
theorem aw6 {ca hp : Bool} {p : Int} (h : basB ca hp p = true) : [48, 3, 1, 1, 0] ≠ basL ca hp p := by
  intro e
  rw [(bas_yes h).2, ← aw5] at e
  have hl := basP_len (ca := ca) (hp := hp) (basB_iff.1 h).1
  have hk := (Val.enc_inj (b := true) (b' := true) (seq_code (k := basP ca hp p) (by omega)) (seq_code (k := [1, 1, 0]) (by simp)) e).2.2.2
  cases ca with
  | true => cases hp <;> simp [basP] at hk
  | false =>
    cases hp with
    | true => exact absurd ((basB_iff.1 h).2.1 rfl) (by decide)
    | false => simp [basP] at hk

set_option maxRecDepth 100000 in
set_option maxHeartbeats 2000000 in
theorem awake16_any (w : World) : Calls Try.prog 42 #[] w fun e w' => e = .returned (.bool true) ∧ Below w.heap.size w w' := by
  have C1 := Lib.hid (fun (w : World) => marb_any true true 3 w)
  rw [aw1.1, aw1.2] at C1
  have C2 := Lib.hid (fun (w : World) => marb_any false false 0 w)
  rw [aw2.1, aw2.2] at C2
  have C3 := Lib.hid (fun (w : World) => mars_any false 0 true 0 w)
  rw [aw3.1, aw3.2] at C3
  have C4 := Lib.hid (fun (w : World) => marcount_any 128 w)
  rw [aw4.1, aw4.2] at C4
  have C5 := Lib.hid (fun (X : World) {A : Option Addr} (hr : Rd X X.heap.size A 5 [48, 3, 1, 1, 0]) =>
    show ∃ code off, 0 < code ∧ Calls Try.prog 48 #[.slice A 5 5] X fun e X' => e = .returned (bpR false false 0 code off) ∧ Below X.heap.size X X' from by
      rcases bparse_any X hr (Nat.le_refl _) (Nat.le_refl _) (by unfold maxLen; omega) (by omega) with ⟨ca, hp, p, hv, e, _⟩ | ⟨_, code, off, h1, _, _, h2⟩
      · exact absurd e (aw6 hv)
      · exact ⟨code, off, h1, h2⟩)
  go_enter Try.func42, Try.ntmps42
  go_wp2_with fail
  go_must (go_fit (C1.out _))
  rintro e w1 ⟨A1, c1, rfl, o1, hb1⟩
  simp only [List.length_cons, List.length_nil, Nat.zero_add, Nat.reduceAdd] at o1 ⊢
  have r1 := o1.rd
  have bel := hb1
  clear o1 hb1 C1
  go_wp2_with fail
  go_must (go_fit (C2.out _))
  rintro e w2 ⟨A2, c2, rfl, o2, hb2⟩
  simp only [List.length_cons, List.length_nil, Nat.zero_add, Nat.reduceAdd] at o2 ⊢
  have r2 := o2.rd
  replace r1 := r1.past hb2
  replace bel := two_belowK bel hb2 bel.size
  clear o2 hb2 C2
  go_wp2_with fail
  go_must (go_fit (C3.out _))
  rintro e w3 ⟨A3, c3, rfl, o3, hb3⟩
  simp only [List.length_cons, List.length_nil, Nat.zero_add, Nat.reduceAdd] at o3 ⊢
  have r3 := o3.rd
  replace r1 := r1.past hb3
  replace r2 := r2.past hb3
  replace bel := two_belowK bel hb3 bel.size
  clear o3 hb3 C3
  go_wp2_with fail
  go_must (go_fit (C4.out _))
  rintro e w4 ⟨A4, c4, rfl, o4, hb4⟩
  simp only [List.length_cons, List.length_nil, Nat.zero_add, Nat.reduceAdd] at o4 ⊢
  have r4 := o4.rd
  replace r1 := r1.past hb4
  replace r2 := r2.past hb4
  replace r3 := r3.past hb4
  replace bel := two_belowK bel hb4 bel.size
  clear o4 hb4 C4
  have r5 := litK w4 [48, 3, 1, 1, 0] [48, 3, 1, 1, 0] w4.heap.size 5 rfl (by decide) (by decide +kernel) rfl
  obtain ⟨code, off, hpos, PC⟩ := C5.out _ r5
  have PC' := Lib.hid PC
  clear PC C5 r5
  go_wp2_with fail
  go_must (go_fit PC'.out)
  rintro e w5 ⟨rfl, hb5⟩
  replace r1 := (((r1.allocS _).past hb5).allocS (.cells #[.bool false, .bool false, .int .i64 0] 50)).allocS (.cells #[.int .i64 code, .int .i64 off] 36)
  replace r2 := (((r2.allocS _).past hb5).allocS (.cells #[.bool false, .bool false, .int .i64 0] 50)).allocS (.cells #[.int .i64 code, .int .i64 off] 36)
  replace r3 := (((r3.allocS _).past hb5).allocS (.cells #[.bool false, .bool false, .int .i64 0] 50)).allocS (.cells #[.int .i64 code, .int .i64 off] 36)
  replace r4 := (((r4.allocS _).past hb5).allocS (.cells #[.bool false, .bool false, .int .i64 0] 50)).allocS (.cells #[.int .i64 code, .int .i64 off] 36)
  replace bel := (bel.alloc bel.size _).trans (hb5.mono (by have := bel.size; simp; omega))
  replace bel := (bel.alloc bel.size (.cells #[.bool false, .bool false, .int .i64 0] 50)).alloc (by have := bel.size; simp; omega) (.cells #[.int .i64 code, .int .i64 off] 36)
  have hne : ¬ code = 0 := by omega
  clear hb5 PC'
  go_upto_region 8 with fail
  generalize (w5.alloc (.cells #[.bool false, .bool false, .int .i64 0] 50)).alloc (.cells #[.int .i64 code, .int .i64 off] 36) = w6 at *
  clear hne hpos
  go_wp2_with fail
  go_must (go_fit (bytesK _ _ _ _ _ _ [48, 6, 1, 1, 255, 2, 1, 3] [48, 6, 1, 1, 255, 2, 1, 3] _ (r1.allocS _) (by refine litK _ [48, 6, 1, 1, 255, 2, 1, 3] [48, 6, 1, 1, 255, 2, 1, 3] _ _ ?_ ?_ ?_ ?_ <;> first | rfl | decide | (simp; done))))
  rw [Cur.eqB_self]
  rintro e w' ⟨rfl, rfl⟩
  replace bel := bel.alloc bel.size (.cells #[.int .u8 48, .int .u8 6, .int .u8 1, .int .u8 1, .int .u8 255, .int .u8 2, .int .u8 1, .int .u8 3] 5)
  replace r2 := r2.allocS (.cells #[.int .u8 48, .int .u8 6, .int .u8 1, .int .u8 1, .int .u8 255, .int .u8 2, .int .u8 1, .int .u8 3] 5)
  replace r3 := r3.allocS (.cells #[.int .u8 48, .int .u8 6, .int .u8 1, .int .u8 1, .int .u8 255, .int .u8 2, .int .u8 1, .int .u8 3] 5)
  replace r4 := r4.allocS (.cells #[.int .u8 48, .int .u8 6, .int .u8 1, .int .u8 1, .int .u8 255, .int .u8 2, .int .u8 1, .int .u8 3] 5)
  clear r1
  generalize w6.alloc (.cells #[.int .u8 48, .int .u8 6, .int .u8 1, .int .u8 1, .int .u8 255, .int .u8 2, .int .u8 1, .int .u8 3] 5) = w7 at *
  go_wp2_with fail
  go_must (go_fit (bytesK _ _ _ _ _ _ [48, 0] [48, 0] _ (r2.allocS _) (by refine litK _ [48, 0] [48, 0] _ _ ?_ ?_ ?_ ?_ <;> first | rfl | decide | (simp; done))))
  rw [Cur.eqB_self]
  rintro e w' ⟨rfl, rfl⟩
  replace bel := bel.alloc bel.size (.cells #[.int .u8 48, .int .u8 0] 5)
  replace r3 := r3.allocS (.cells #[.int .u8 48, .int .u8 0] 5)
  replace r4 := r4.allocS (.cells #[.int .u8 48, .int .u8 0] 5)
  clear r2
  generalize w7.alloc (.cells #[.int .u8 48, .int .u8 0] 5) = w8 at *
  go_wp2_with fail
  go_must (go_fit (bytesK _ _ _ _ _ _ [48, 3, 129, 1, 0] [48, 3, 129, 1, 0] _ (r3.allocS _) (by refine litK _ [48, 3, 129, 1, 0] [48, 3, 129, 1, 0] _ _ ?_ ?_ ?_ ?_ <;> first | rfl | decide | (simp; done))))
  rw [Cur.eqB_self]
  rintro e w' ⟨rfl, rfl⟩
  replace bel := bel.alloc bel.size (.cells #[.int .u8 48, .int .u8 3, .int .u8 129, .int .u8 1, .int .u8 0] 5)
  replace r4 := r4.allocS (.cells #[.int .u8 48, .int .u8 3, .int .u8 129, .int .u8 1, .int .u8 0] 5)
  clear r3
  generalize w8.alloc (.cells #[.int .u8 48, .int .u8 3, .int .u8 129, .int .u8 1, .int .u8 0] 5) = w9 at *
  go_wp2_with fail
  go_must (go_fit (bytesK _ _ _ _ _ _ [2, 2, 0, 128] [2, 2, 0, 128] _ (r4.allocS _) (by refine litK _ [2, 2, 0, 128] [2, 2, 0, 128] _ _ ?_ ?_ ?_ ?_ <;> first | rfl | decide | (simp; done))))
  rw [Cur.eqB_self]
  rintro e w' ⟨rfl, rfl⟩
  replace bel := bel.alloc bel.size (.cells #[.int .u8 2, .int .u8 2, .int .u8 0, .int .u8 128] 5)
  go_wp2
  go_ret
  exact ⟨(by first | rfl | exact ret_bool (by simp)), bel⟩
end Go.Proofs.Ytnpmgofkfdpbjaa.Bas
/- What an argument gives: basic constraints, policy constraints by value. -/
namespace Go.Proofs.Ytnpmgofkfdpbjaa.Opn
open Go.Joins Go.ChangeShapes Go.WideShapes Go.ChangeAt Go.RowKit Go.Deep Kit

section
variable {H : Type} {enc : TypeId × Value → H} {w : World} {base : Nat} {spare : Nat → Bool} {held : Bool}
theorem numB {P : Program} {n : Nat} {t : TypeId} {v : Value} {y : DataW H × List MemPlace}
    (ht : P.underlying t = some (.int .i64)) (h : DataW.trod enc P w base spare held n t [v] = some y) : ∃ x, v = .int .i64 x := by
  obtain ⟨x, hv, _, hw⟩ := DataW.trod_int ht h
  simp only [List.cons.injEq, and_true] at hv
  exact ⟨x, hv⟩
theorem boolB {P : Program} {n : Nat} {t : TypeId} {v : Value} {y : DataW H × List MemPlace}
    (ht : P.underlying t = some .bool) (h : DataW.trod enc P w base spare held n t [v] = some y) : ∃ x, v = .bool x := by
  obtain ⟨x, hv, _⟩ := DataW.trod_bool ht h
  simp only [List.cons.injEq, and_true] at hv
  exact ⟨x, hv⟩
theorem aggB3 {P : Program} {r : Reach} {b0 : Nat} {t : TypeId} {f0 f1 f2 : Field} {v : Value} {d : DataW H} {p : List MemPlace}
    (hs : P.underlying t = some (.struct #[f0, f1, f2])) (hone : oneCellFields P #[f0, f1, f2] = true) (hC : P.cellsOf t = 3)
    (t0 : P.underlying f0.type = some .bool) (t1 : P.underlying f1.type = some .bool) (t2 : P.underlying f2.type = some (.int .i64))
    (hv : Value.okWide P w r b0 t v) (h : DataW.Trod enc P w base spare held t v d p) : ∃ x0 x1 x2, v = .agg #[.bool x0, .bool x1, .int .i64 x2] := by
  obtain ⟨cs, rfl, hsz⟩ := okWide_struct hs hv
  obtain ⟨l⟩ := cs
  match l, hsz.trans hC with
  | [c0, c1, c2], _ =>
    obtain ⟨fuel, hf⟩ := h
    obtain ⟨xs, n, _, hx, _, hlen, hg⟩ := DataW.trod_struct hs hf
    obtain ⟨o0, k0⟩ := hone_of hone 0 f0 rfl
    obtain ⟨o1, k1⟩ := hone_of hone 1 f1 rfl
    obtain ⟨o2, k2⟩ := hone_of hone 2 f2 rfl
    match xs, hlen with
    | [y0, y1, y2], _ =>
      obtain ⟨x0, rfl⟩ := boolB (enc := enc) (w := w) (base := base) (spare := spare) (held := held) (n := n) (v := c0) (y := y0) t0 (by simpa [Value.cells, o0, k0] using hg 0 f0 rfl)
      obtain ⟨x1, rfl⟩ := boolB (enc := enc) (w := w) (base := base) (spare := spare) (held := held) (n := n) (v := c1) (y := y1) t1 (by simpa [Value.cells, o1, k1] using hg 1 f1 rfl)
      obtain ⟨x2, rfl⟩ := numB (enc := enc) (w := w) (base := base) (spare := spare) (held := held) (n := n) (v := c2) (y := y2) t2 (by simpa [Value.cells, o2, k2] using hg 2 f2 rfl)
      exact ⟨x0, x1, x2, rfl⟩
theorem aggB4 {P : Program} {r : Reach} {b0 : Nat} {t : TypeId} {f0 f1 f2 f3 : Field} {v : Value} {d : DataW H} {p : List MemPlace}
    (hs : P.underlying t = some (.struct #[f0, f1, f2, f3])) (hone : oneCellFields P #[f0, f1, f2, f3] = true) (hC : P.cellsOf t = 4)
    (t0 : P.underlying f0.type = some .bool) (t1 : P.underlying f1.type = some (.int .i64)) (t2 : P.underlying f2.type = some .bool) (t3 : P.underlying f3.type = some (.int .i64))
    (hv : Value.okWide P w r b0 t v) (h : DataW.Trod enc P w base spare held t v d p) : ∃ x0 x1 x2 x3, v = .agg #[.bool x0, .int .i64 x1, .bool x2, .int .i64 x3] := by
  obtain ⟨cs, rfl, hsz⟩ := okWide_struct hs hv
  obtain ⟨l⟩ := cs
  match l, hsz.trans hC with
  | [c0, c1, c2, c3], _ =>
    obtain ⟨fuel, hf⟩ := h
    obtain ⟨xs, n, _, hx, _, hlen, hg⟩ := DataW.trod_struct hs hf
    obtain ⟨o0, k0⟩ := hone_of hone 0 f0 rfl
    obtain ⟨o1, k1⟩ := hone_of hone 1 f1 rfl
    obtain ⟨o2, k2⟩ := hone_of hone 2 f2 rfl
    obtain ⟨o3, k3⟩ := hone_of hone 3 f3 rfl
    match xs, hlen with
    | [y0, y1, y2, y3], _ =>
      obtain ⟨x0, rfl⟩ := boolB (enc := enc) (w := w) (base := base) (spare := spare) (held := held) (n := n) (v := c0) (y := y0) t0 (by simpa [Value.cells, o0, k0] using hg 0 f0 rfl)
      obtain ⟨x1, rfl⟩ := numB (enc := enc) (w := w) (base := base) (spare := spare) (held := held) (n := n) (v := c1) (y := y1) t1 (by simpa [Value.cells, o1, k1] using hg 1 f1 rfl)
      obtain ⟨x2, rfl⟩ := boolB (enc := enc) (w := w) (base := base) (spare := spare) (held := held) (n := n) (v := c2) (y := y2) t2 (by simpa [Value.cells, o2, k2] using hg 2 f2 rfl)
      obtain ⟨x3, rfl⟩ := numB (enc := enc) (w := w) (base := base) (spare := spare) (held := held) (n := n) (v := c3) (y := y3) t3 (by simpa [Value.cells, o3, k3] using hg 3 f3 rfl)
      exact ⟨x0, x1, x2, x3, rfl⟩
set_option maxRecDepth 100000 in
theorem basic_arg {r : Reach} {b0 : Nat} {v : Value} {d : DataW H} {p : List MemPlace} (hv : Value.okWide Try.prog w r b0 50 v) (h : DataW.Trod enc Try.prog w base spare held 50 v d p) :
    ∃ x0 x1 x2, v = .agg #[.bool x0, .bool x1, .int .i64 x2] := aggB3 Try.underlying50 (by kernel_rfl) (by kernel_rfl) Try.underlying4 Try.underlying4 Try.underlying3 hv h
set_option maxRecDepth 100000 in
theorem skip_arg {r : Reach} {b0 : Nat} {v : Value} {d : DataW H} {p : List MemPlace} (hv : Value.okWide Try.prog w r b0 71 v) (h : DataW.Trod enc Try.prog w base spare held 71 v d p) :
    ∃ x0 x1 x2 x3, v = .agg #[.bool x0, .int .i64 x1, .bool x2, .int .i64 x3] := aggB4 Try.underlying71 (by kernel_rfl) (by kernel_rfl) Try.underlying4 Try.underlying3 Try.underlying4 Try.underlying3 hv h
end
end Go.Proofs.Ytnpmgofkfdpbjaa.Opn
