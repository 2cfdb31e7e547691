/- Walks: ParseSkip of the package basic, case by case. -/
import Derived.Test.YtnpmgofkfdpbjaaKS
import Derived.Test.YtnpmgofkfdpbjaaKR
set_option linter.unusedSimpArgs false
set_option linter.unusedVariables false
namespace Go.Proofs.Ytnpmgofkfdpbjaa.Bas
open Go.RowKit Kit Tlv

/-- the blocks of a running ParseSkip: the two results, the record that is filled, the list -/
def KB (w : World) (b6 g m : Nat) (cc : Nat) (els : List El) (xs : Array Value) (X : World) : Prop :=
  X.heap[w.heap.size]? = some (.cells #[.bool false, .int .i64 0, .bool false, .int .i64 0] 71 (0, 0)) ∧ X.heap[w.heap.size + 1]? = some (.cells #[.int .i64 0, .int .i64 0] 36 (0, 0)) ∧ X.heap[b6]? = some (.cells xs 71 (0, 0)) ∧
    X.ownsRow (w.heap.size + 2) 93 6 (.slice (some ⟨g, 0, none⟩) m cc) m (elsC els) ∧ Below w.heap.size w X ∧ (w.heap.size + 2 ≤ b6 ∧ w.heap.size + 2 ≤ g ∧ g < b6)
theorem KB.past {w X Y : World} {b6 g m cc : Nat} {els : List El} {xs : Array Value} (h : KB w b6 g m cc els xs X) (hb : Below X.heap.size X Y) : KB w b6 g m cc els xs Y :=
  ⟨stayK h.1 hb, stayK h.2.1 hb, stayK h.2.2.1 hb, owns_below h.2.2.2.1 hb (Nat.le_refl _), h.2.2.2.2.1.trans (hb.mono h.2.2.2.2.1.size), h.2.2.2.2.2⟩
theorem KB.alloc {w X : World} {b6 g m cc : Nat} {els : List El} {xs : Array Value} (h : KB w b6 g m cc els xs X) (o : Obj) : KB w b6 g m cc els xs (X.alloc o) := h.past ((Below.refl _ _).alloc (Nat.le_refl _) o)
theorem KB.req {w X : World} {b6 g m cc : Nat} {els : List El} {x0 x1 x2 x3 : Value} (h : KB w b6 g m cc els #[x0, x1, x2, x3] X) (y z : Value) : KB w b6 g m cc els #[y, z, x2, x3] ((X.setCell ⟨b6, 0, none⟩ y).setCell ⟨b6, 1, none⟩ z) := by
  obtain ⟨h1, h2, h3, h4, h5, h6, h7, h8⟩ := h
  exact ⟨set_far (set_far h1 (by omega) _) (by omega) _, set_far (set_far h2 (by omega) _) (by omega) _, heap_setCell_same _ b6 1 _ _ z (heap_setCell_same _ b6 0 _ _ y h3), owns_far (owns_far h4 (by omega) _) (by omega) _, (by repeat' (first | (with_reducible exact Below.refl _ _) | (with_reducible assumption) | (with_reducible refine below_drewN ?_ _) | (with_reducible refine Below.drew ?_) | (with_reducible refine Below.alloc ?_ ?_ _) | (with_reducible refine Below.setCell ?_ ?_ _) | go_size)), h6, h7, h8⟩
theorem KB.inh {w X : World} {b6 g m cc : Nat} {els : List El} {x0 x1 x2 x3 : Value} (h : KB w b6 g m cc els #[x0, x1, x2, x3] X) (y z : Value) : KB w b6 g m cc els #[x0, x1, y, z] ((X.setCell ⟨b6, 2, none⟩ y).setCell ⟨b6, 3, none⟩ z) := by
  obtain ⟨h1, h2, h3, h4, h5, h6, h7, h8⟩ := h
  exact ⟨set_far (set_far h1 (by omega) _) (by omega) _, set_far (set_far h2 (by omega) _) (by omega) _, heap_setCell_same _ b6 3 _ _ z (heap_setCell_same _ b6 2 _ _ y h3), owns_far (owns_far h4 (by omega) _) (by omega) _, (by repeat' (first | (with_reducible exact Below.refl _ _) | (with_reducible assumption) | (with_reducible refine below_drewN ?_ _) | (with_reducible refine Below.drew ?_) | (with_reducible refine Below.alloc ?_ ?_ _) | (with_reducible refine Below.setCell ?_ ?_ _) | go_size)), h6, h7, h8⟩
theorem set4 {w : World} {b : Nat} {x0 x1 x2 x3 : Value} {t : TypeId} (y0 y1 y2 y3 : Value) (h : w.heap[b]? = some (.cells #[x0, x1, x2, x3] t (0, 0))) :
    ((((w.setCell ⟨b, 0, none⟩ y0).setCell ⟨b, 1, none⟩ y1).setCell ⟨b, 2, none⟩ y2).setCell ⟨b, 3, none⟩ y3).heap[b]? = some (.cells #[y0, y1, y2, y3] t (0, 0)) :=
  heap_setCell_same _ b 3 _ _ y3 (heap_setCell_same _ b 2 _ _ y2 (heap_setCell_same _ b 1 _ _ y1 (heap_setCell_same _ b 0 _ _ y0 h)))
theorem far4 {w : World} {b c : Nat} {o : Obj} (h : w.heap[b]? = some o) (hne : b ≠ c) (y0 y1 y2 y3 : Value) : ((((w.setCell ⟨c, 0, none⟩ y0).setCell ⟨c, 1, none⟩ y1).setCell ⟨c, 2, none⟩ y2).setCell ⟨c, 3, none⟩ y3).heap[b]? = some o :=
  set_far (set_far (set_far (set_far h hne _) hne _) hne _) hne _
theorem free4 {w : World} {b : Nat} {cs : Array Value} {t : TypeId} (h : w.heap[b]? = some (.cells cs t (0, 0))) : w.frozen? ⟨b, 0, none⟩ = false ∧ w.frozen? ⟨b, 1, none⟩ = false ∧ w.frozen? ⟨b, 2, none⟩ = false ∧ w.frozen? ⟨b, 3, none⟩ = false :=
  ⟨frozen_of_row w b 0 _ _ h, frozen_of_row w b 1 _ _ h, frozen_of_row w b 2 _ _ h, frozen_of_row w b 3 _ _ h⟩
theorem rowz {w : World} {base g m cc : Nat} {x y z : El} {els : List El} (h : w.ownsRow base 93 6 (.slice (some ⟨g, 0, none⟩) m cc) m (elsC (x :: y :: z :: els))) (hm : (x :: y :: z :: els).length = m) :
    w.cell? ⟨g, 12, none⟩ = some (.int .i64 z.cls) ∧ w.cell? ⟨g, 13, none⟩ = some (.int .i64 z.num) ∧ w.cell? ⟨g, 14, none⟩ = some (.bool z.cons) ∧ w.cell? ⟨g, 15, none⟩ = some (.int .i64 z.start) ∧ w.cell? ⟨g, 16, none⟩ = some (.int .i64 z.body) ∧ w.cell? ⟨g, 17, none⟩ = some (.int .i64 z.stop) := by
  simp only [List.length_cons] at hm
  refine ⟨?_, ?_, ?_, ?_, ?_, ?_⟩ <;> (rw [World.ownsRow.cellAt h _ (by omega)]; simp [elsC, elC])
/-- what ParseSkip returns -/
abbrev spR (hr : Bool) (r : Int) (hi : Bool) (i : Int) (code off : Int) : Value := .tuple #[skV hr r hi i, err code off]

set_option maxRecDepth 100000 in
set_option maxHeartbeats 3000000 in
theorem sp_err {A : Option Addr} {n c B : Nat} {l : List UInt8} {els : List El} {r1 r2 : Int} (w : World) (hr : Rd w B A n l) (hB : B ≤ w.heap.size) (hc : n ≤ c) (hm : c ≤ maxLen) (hn : n ≤ 1000000)
    (hpv : partsV l 0 16 = (els, r1, r2)) (hz : ¬ r1 = 0) :
    Calls Try.prog 65 #[.slice A n c] w fun e w' => e = .returned (spR false 0 false 0 r1 r2) ∧ Below w.heap.size w w' := by
  have PA := Lib.hid (fun (X : World) (h : Below w.heap.size w X) => parts_any (c := c) 0 16 X (hr.below (h.mono hB)) (Nat.le_trans hB h.size) hc hm hn)
  rw [hpv] at PA
  clear hr hpv
  go_enter Try.func65, Try.ntmps65
  go_wp2_with fail
  go_must (go_fit (PA.out _ (((Below.refl _ _).alloc (Nat.le_refl _) _).alloc (by simp) _)))
  rintro e w1 ⟨A1, cc, rfl, o1, hb1⟩
  obtain ⟨t2, t3, bel⟩ := box2 hb1
  have zs := hb1.size
  simp only [World.size_alloc] at zs
  clear o1 hb1 PA
  have T2 := Lib.hid (bk_old (o' := .cells #[.int .i64 r1, .int .i64 r2] 36) t2)
  have T3 := Lib.hid (bk_old (o' := .cells #[.int .i64 r1, .int .i64 r2] 36) t3)
  have T4 := Lib.hid (bk_new (w := w1) (o := .cells #[.int .i64 r1, .int .i64 r2] 36) rfl)
  replace bel := bel.alloc bel.size (.cells #[.int .i64 r1, .int .i64 r2] 36)
  clear t2 t3
  have n1 : ¬ w1.heap.size = w.heap.size := by omega
  have n2 : ¬ w.heap.size = w1.heap.size := by omega
  have n3 : ¬ w1.heap.size = w.heap.size + 1 := by omega
  have n4 : ¬ w.heap.size + 1 = w1.heap.size := by omega
  go_upto_region 2 with fail
  generalize w1.heap.size = b4 at *
  generalize w1.alloc (.cells #[.int .i64 r1, .int .i64 r2] 36) = w2 at *
  clear w1
  obtain ⟨q0, q1, q2, q3⟩ := cells4 T2.out
  obtain ⟨f0, f1, f2, f3⟩ := free4 T2.out
  obtain ⟨s0, s1⟩ := cells2 T3.out
  obtain ⟨g0, g1⟩ := freeP T3.out
  obtain ⟨v0, v1⟩ := cells2 T4.out
  go_upto_region 3 with fail
  go_region_held3 (fun w' => w'.cell? ⟨b4, 0, none⟩ = some (.int .i64 r1) ∧ w'.cell? ⟨b4, 1, none⟩ = some (.int .i64 r2)) (go_keep) (fail)
  rename_i hheld
  clear hheld
  go_wp2
  clear q0 q1 q2 q3 f0 f1 f2 f3 s0 s1 g0 g1 v0 v1
  have tc := cells4 (far2 (c := w.heap.size + 1) (set4 (.bool false) (.int .i64 0) (.bool false) (.int .i64 0) T2.out) (by omega) (.int .i64 r1) (.int .i64 r2))
  have td := cells2 (set2 (.int .i64 r1) (.int .i64 r2) (far4 (c := w.heap.size) T3.out (by omega) (.bool false) (.int .i64 0) (.bool false) (.int .i64 0)))
  refine bodyPost_ret (v := spR false 0 false 0 r1 r2) (by simp [results, Try.results65, go_sem, *]) rfl ?_
  exact ⟨rfl, (by repeat' (first | (with_reducible exact Below.refl _ _) | (with_reducible assumption) | (with_reducible refine below_drewN ?_ _) | (with_reducible refine Below.drew ?_) | (with_reducible refine Below.alloc ?_ ?_ _) | (with_reducible refine Below.setCell ?_ ?_ _) | go_size))⟩

set_option maxRecDepth 100000 in
set_option maxHeartbeats 3000000 in
theorem sp_nil {A : Option Addr} {n c B : Nat} {l : List UInt8} {els : List El} {r1 r2 : Int} (w : World) (hr : Rd w B A n l) (hB : B ≤ w.heap.size) (hc : n ≤ c) (hm : c ≤ maxLen) (hn : n ≤ 1000000)
    (hpv : partsV l 0 16 = (els, r1, r2)) (hz : r1 = 0) (hz2 : r2 = 0) (he : els.length = 0) :
    Calls Try.prog 65 #[.slice A n c] w fun e w' => e = .returned (spR false 0 false 0 1 n) ∧ Below w.heap.size w w' := by
  have PA := Lib.hid (fun (X : World) (h : Below w.heap.size w X) => parts_any (c := c) 0 16 X (hr.below (h.mono hB)) (Nat.le_trans hB h.size) hc hm hn)
  rw [hpv] at PA
  subst hz hz2
  obtain rfl : els = [] := List.eq_nil_of_length_eq_zero he
  clear hr hpv
  go_enter Try.func65, Try.ntmps65
  go_wp2_with fail
  go_must (go_fit (PA.out _ (((Below.refl _ _).alloc (Nat.le_refl _) _).alloc (by simp) _)))
  rintro e w1 ⟨A1, cc, rfl, o1, hb1⟩
  obtain ⟨t2, t3, bel⟩ := box2 hb1
  have zs := hb1.size
  simp only [World.size_alloc] at zs
  clear o1 hb1 PA
  have T2 := Lib.hid (bk_old (o' := .cells #[.bool false, .int .i64 0, .bool false, .int .i64 0] 71) (bk_old (o' := .cells #[.int .i64 0, .int .i64 0] 36) t2))
  have T3 := Lib.hid (bk_old (o' := .cells #[.bool false, .int .i64 0, .bool false, .int .i64 0] 71) (bk_old (o' := .cells #[.int .i64 0, .int .i64 0] 36) t3))
  replace bel := (bel.alloc bel.size (.cells #[.int .i64 0, .int .i64 0] 36)).alloc (by have := bel.size; simp; omega) (.cells #[.bool false, .int .i64 0, .bool false, .int .i64 0] 71)
  clear t2 t3
  go_upto_region 6 with fail
  generalize (w1.alloc (.cells #[.int .i64 0, .int .i64 0] 36)).alloc (.cells #[.bool false, .int .i64 0, .bool false, .int .i64 0] 71) = w2 at *
  generalize w1.heap.size + 1 = b6 at *
  obtain ⟨q0, q1, q2, q3⟩ := cells4 T2.out
  obtain ⟨f0, f1, f2, f3⟩ := free4 T2.out
  obtain ⟨s0, s1⟩ := cells2 T3.out
  obtain ⟨g0, g1⟩ := freeP T3.out
  go_wp2_with fail
  refine wp_loop_rounds 1 ?_
  rw [rounds_succ]
  go_wp2
  clear q0 q1 q2 q3 f0 f1 f2 f3 s0 s1 g0 g1
  have tc := cells4 (far2 (c := w.heap.size + 1) (set4 (.bool false) (.int .i64 0) (.bool false) (.int .i64 0) T2.out) (by omega) (.int .i64 1) (.int .i64 (n : Int)))
  have td := cells2 (set2 (.int .i64 1) (.int .i64 (n : Int)) (far4 (c := w.heap.size) T3.out (by omega) (.bool false) (.int .i64 0) (.bool false) (.int .i64 0)))
  refine bodyPost_ret (v := spR false 0 false 0 1 (n : Int)) (by simp [results, Try.results65, go_sem, *]) rfl ?_
  exact ⟨rfl, (by repeat' (first | (with_reducible exact Below.refl _ _) | (with_reducible assumption) | (with_reducible refine below_drewN ?_ _) | (with_reducible refine Below.drew ?_) | (with_reducible refine Below.alloc ?_ ?_ _) | (with_reducible refine Below.setCell ?_ ?_ _) | go_size))⟩

set_option maxRecDepth 100000 in
set_option maxHeartbeats 3000000 in
theorem sp_bad0a {A : Option Addr} {n c B : Nat} {l : List UInt8} {els : List El} {r1 r2 : Int} (w : World) (hr : Rd w B A n l) (hB : B ≤ w.heap.size) (hc : n ≤ c) (hm : c ≤ maxLen) (hn : n ≤ 1000000)
    (hpv : partsV l 0 16 = (els, r1, r2)) {x : El} {xs : List El} {v0 v1 v2 : Int} {ok0 ok1 ok2 : Bool} {m : Nat} (hz : r1 = 0) (hz2 : r2 = 0) (he : els = x :: xs) (hmm : els.length = m) (h0 : ∀ X : World, Below w.heap.size w X → Calls Try.prog 110 #[.slice A n c, elT x, .int .i64 2, .int .i64 x.num, toCnt] X fun e X' => e = .returned (.tuple #[.int .i64 v0, .bool ok0]) ∧ Below X.heap.size X X') (hk : ok0 = false) :
    Calls Try.prog 65 #[.slice A n c] w fun e w' => e = .returned (spR false 0 false 0 6 x.start) ∧ Below w.heap.size w w' := by
  have PA := Lib.hid (fun (X : World) (h : Below w.heap.size w X) => parts_any (c := c) 0 16 X (hr.below (h.mono hB)) (Nat.le_trans hB h.size) hc hm hn)
  rw [hpv] at PA
  subst hz hz2
  have HM := Lib.hid hmm
  have HE := Lib.hid he
  have HL := Lib.hid (show (x :: xs : List El).length = m from by rw [← he]; exact hmm)
  have H0 := Lib.hid h0
  clear h0
  have hm0 : 0 < m := by have := HL.out; simp only [List.length_cons] at this; omega
  have hmk : 1 ≤ m := by have := HL.out; simp only [List.length_cons] at this; omega
  clear hmm he
  clear hr hpv
  go_enter Try.func65, Try.ntmps65
  go_wp2_with fail
  go_must (go_fit (PA.out _ (((Below.refl _ _).alloc (Nat.le_refl _) _).alloc (by simp) _)))
  rintro e w1 ⟨A1, cc, rfl, o1, hb1⟩
  obtain ⟨t2, t3, bel⟩ := box2 hb1
  have zs := hb1.size
  simp only [World.size_alloc] at zs
  unfold OwnE at o1
  simp only [HM.out] at o1 ⊢
  obtain ⟨g, cap, hv⟩ := Joins.ownsRow_form o1 hm0
  injection hv with hP
  subst hP
  have hgl := World.ownsRow.lt o1 g rfl
  simp only [World.size_alloc] at hgl
  obtain ⟨hg1, hg2⟩ := hgl
  go_upto_region 6 with fail
  refine wp_only (KB w (w1.heap.size + 1) g m cc els #[.bool false, .int .i64 0, .bool false, .int .i64 0]) ?_ ?_
  · exact ⟨bk_old (bk_old t2), bk_old (bk_old t3), bk_new (by simp), ((owns_mono (base' := w.heap.size + 2) o1 (by simp)).alloc _).alloc _, (by repeat' (first | (with_reducible exact Below.refl _ _) | (with_reducible assumption) | (with_reducible refine below_drewN ?_ _) | (with_reducible refine Below.drew ?_) | (with_reducible refine Below.alloc ?_ ?_ _) | (with_reducible refine Below.setCell ?_ ?_ _) | go_size)), by omega, by omega, by omega⟩
  intro w2 hp
  clear o1 hb1 PA t2 t3 bel zs hg1 hg2
  generalize hg6 : w1.heap.size + 1 = b6 at *
  generalize w1.heap.size = b5 at *
  clear hg6 w1
  have n1 : ¬ b6 = w.heap.size := by have := hp.2.2.2.2.2; omega
  have n2 : ¬ w.heap.size = b6 := by have := hp.2.2.2.2.2; omega
  have n3 : ¬ b6 = w.heap.size + 1 := by have := hp.2.2.2.2.2; omega
  have n4 : ¬ w.heap.size + 1 = b6 := by have := hp.2.2.2.2.2; omega
  have HP2 := Lib.hid hp
  clear hp
  rw [HE.out] at HP2
  go_wp2_with fail
  refine wp_loop_rounds 1 ?_
  subst hk
  rw [rounds_succ]
  obtain ⟨u0, u1, u2, u3, u4, u5⟩ := row0 HP2.out.2.2.2.1 HL.out
  go_upto_region 9 with fail
  clear u0 u1 u2 u3 u4 u5
  go_wp2_with fail
  go_must (go_fit (H0.out _ (HP2.out.2.2.2.2.1.alloc HP2.out.2.2.2.2.1.size (.cells #[.int .i64 x.cls, .int .i64 x.num, .bool x.cons, .int .i64 x.start, .int .i64 x.body, .int .i64 x.stop] 93))))
  rintro e w0a ⟨rfl, hb⟩
  have HQ0 := Lib.hid (KB.past (KB.alloc HP2.out (.cells #[.int .i64 x.cls, .int .i64 x.num, .bool x.cons, .int .i64 x.start, .int .i64 x.body, .int .i64 x.stop] 93)) hb)
  have yb := blk1 hb
  clear hb
  obtain ⟨u0, u1, u2, u3, u4, u5⟩ := cells6 yb
  have m1 : ¬ w2.heap.size = w.heap.size := by have := HP2.out.2.2.2.2.1.size; have := Blk_lt HP2.out.2.1; omega
  have m2 : ¬ w.heap.size = w2.heap.size := by have := Blk_lt HP2.out.2.1; omega
  have m3 : ¬ w2.heap.size = w.heap.size + 1 := by have := Blk_lt HP2.out.2.1; omega
  have m4 : ¬ w.heap.size + 1 = w2.heap.size := by have := Blk_lt HP2.out.2.1; omega
  have m5 : ¬ w2.heap.size = b6 := by have := Blk_lt HP2.out.2.2.1; omega
  have m6 : ¬ b6 = w2.heap.size := by have := Blk_lt HP2.out.2.2.1; omega
  clear yb
  generalize w2.heap.size = y0 at *
  obtain ⟨q0, q1, q2, q3⟩ := cells4 HQ0.out.1
  obtain ⟨f0, f1, f2, f3⟩ := free4 HQ0.out.1
  obtain ⟨s0, s1⟩ := cells2 HQ0.out.2.1
  obtain ⟨g0, g1⟩ := freeP HQ0.out.2.1
  obtain ⟨j0, j1, j2, j3⟩ := cells4 HQ0.out.2.2.1
  obtain ⟨e0, e1, e2, e3⟩ := free4 HQ0.out.2.2.1
  go_upto_region 11 with fail
  go_region_held3 (fun w' => w'.cell? ⟨y0, 3, none⟩ = some (.int .i64 x.start)) (go_keep) (fail)
  rename_i hheld
  clear hheld
  go_wp2
  clear q0 q1 q2 q3 f0 f1 f2 f3 s0 s1 g0 g1 j0 j1 j2 j3 e0 e1 e2 e3 u0 u1 u2 u3 u4 u5 m1 m2 m3 m4 m5 m6
  have bel := HQ0.out.2.2.2.2.1
  have tc := cells4 (far2 (c := w.heap.size + 1) (set4 (.bool false) (.int .i64 (0)) (.bool false) (.int .i64 (0)) HQ0.out.1) (by omega) (.int .i64 (6)) (.int .i64 (x.start)))
  have td := cells2 (set2 (.int .i64 (6)) (.int .i64 (x.start)) (far4 (c := w.heap.size) HQ0.out.2.1 (by omega) (.bool false) (.int .i64 (0)) (.bool false) (.int .i64 (0))))
  refine bodyPost_ret (v := spR false (0) false (0) (6) (x.start)) (by simp [results, Try.results65, go_sem, *]) rfl ?_
  exact ⟨rfl, (by repeat' (first | (with_reducible exact Below.refl _ _) | (with_reducible assumption) | (with_reducible refine below_drewN ?_ _) | (with_reducible refine Below.drew ?_) | (with_reducible refine Below.alloc ?_ ?_ _) | (with_reducible refine Below.setCell ?_ ?_ _) | go_size))⟩

set_option maxRecDepth 100000 in
set_option maxHeartbeats 3000000 in
theorem sp_bad0b {A : Option Addr} {n c B : Nat} {l : List UInt8} {els : List El} {r1 r2 : Int} (w : World) (hr : Rd w B A n l) (hB : B ≤ w.heap.size) (hc : n ≤ c) (hm : c ≤ maxLen) (hn : n ≤ 1000000)
    (hpv : partsV l 0 16 = (els, r1, r2)) {x : El} {xs : List El} {v0 v1 v2 : Int} {ok0 ok1 ok2 : Bool} {m : Nat} (hz : r1 = 0) (hz2 : r2 = 0) (he : els = x :: xs) (hmm : els.length = m) (h0 : ∀ X : World, Below w.heap.size w X → Calls Try.prog 110 #[.slice A n c, elT x, .int .i64 2, .int .i64 x.num, toCnt] X fun e X' => e = .returned (.tuple #[.int .i64 v0, .bool ok0]) ∧ Below X.heap.size X X') (hk : ok0 = true) (hkk : 1 < x.num) :
    Calls Try.prog 65 #[.slice A n c] w fun e w' => e = .returned (spR false 0 false 0 6 x.start) ∧ Below w.heap.size w w' := by
  have PA := Lib.hid (fun (X : World) (h : Below w.heap.size w X) => parts_any (c := c) 0 16 X (hr.below (h.mono hB)) (Nat.le_trans hB h.size) hc hm hn)
  rw [hpv] at PA
  subst hz hz2
  have HM := Lib.hid hmm
  have HE := Lib.hid he
  have HL := Lib.hid (show (x :: xs : List El).length = m from by rw [← he]; exact hmm)
  have H0 := Lib.hid h0
  clear h0
  have hm0 : 0 < m := by have := HL.out; simp only [List.length_cons] at this; omega
  have hmk : 1 ≤ m := by have := HL.out; simp only [List.length_cons] at this; omega
  clear hmm he
  clear hr hpv
  go_enter Try.func65, Try.ntmps65
  go_wp2_with fail
  go_must (go_fit (PA.out _ (((Below.refl _ _).alloc (Nat.le_refl _) _).alloc (by simp) _)))
  rintro e w1 ⟨A1, cc, rfl, o1, hb1⟩
  obtain ⟨t2, t3, bel⟩ := box2 hb1
  have zs := hb1.size
  simp only [World.size_alloc] at zs
  unfold OwnE at o1
  simp only [HM.out] at o1 ⊢
  obtain ⟨g, cap, hv⟩ := Joins.ownsRow_form o1 hm0
  injection hv with hP
  subst hP
  have hgl := World.ownsRow.lt o1 g rfl
  simp only [World.size_alloc] at hgl
  obtain ⟨hg1, hg2⟩ := hgl
  go_upto_region 6 with fail
  refine wp_only (KB w (w1.heap.size + 1) g m cc els #[.bool false, .int .i64 0, .bool false, .int .i64 0]) ?_ ?_
  · exact ⟨bk_old (bk_old t2), bk_old (bk_old t3), bk_new (by simp), ((owns_mono (base' := w.heap.size + 2) o1 (by simp)).alloc _).alloc _, (by repeat' (first | (with_reducible exact Below.refl _ _) | (with_reducible assumption) | (with_reducible refine below_drewN ?_ _) | (with_reducible refine Below.drew ?_) | (with_reducible refine Below.alloc ?_ ?_ _) | (with_reducible refine Below.setCell ?_ ?_ _) | go_size)), by omega, by omega, by omega⟩
  intro w2 hp
  clear o1 hb1 PA t2 t3 bel zs hg1 hg2
  generalize hg6 : w1.heap.size + 1 = b6 at *
  generalize w1.heap.size = b5 at *
  clear hg6 w1
  have n1 : ¬ b6 = w.heap.size := by have := hp.2.2.2.2.2; omega
  have n2 : ¬ w.heap.size = b6 := by have := hp.2.2.2.2.2; omega
  have n3 : ¬ b6 = w.heap.size + 1 := by have := hp.2.2.2.2.2; omega
  have n4 : ¬ w.heap.size + 1 = b6 := by have := hp.2.2.2.2.2; omega
  have HP2 := Lib.hid hp
  clear hp
  rw [HE.out] at HP2
  go_wp2_with fail
  refine wp_loop_rounds 1 ?_
  subst hk
  rw [rounds_succ]
  obtain ⟨u0, u1, u2, u3, u4, u5⟩ := row0 HP2.out.2.2.2.1 HL.out
  go_upto_region 9 with fail
  clear u0 u1 u2 u3 u4 u5
  go_wp2_with fail
  go_must (go_fit (H0.out _ (HP2.out.2.2.2.2.1.alloc HP2.out.2.2.2.2.1.size (.cells #[.int .i64 x.cls, .int .i64 x.num, .bool x.cons, .int .i64 x.start, .int .i64 x.body, .int .i64 x.stop] 93))))
  rintro e w0a ⟨rfl, hb⟩
  have HQ0 := Lib.hid (KB.past (KB.alloc HP2.out (.cells #[.int .i64 x.cls, .int .i64 x.num, .bool x.cons, .int .i64 x.start, .int .i64 x.body, .int .i64 x.stop] 93)) hb)
  have yb := blk1 hb
  clear hb
  obtain ⟨u0, u1, u2, u3, u4, u5⟩ := cells6 yb
  have m1 : ¬ w2.heap.size = w.heap.size := by have := HP2.out.2.2.2.2.1.size; have := Blk_lt HP2.out.2.1; omega
  have m2 : ¬ w.heap.size = w2.heap.size := by have := Blk_lt HP2.out.2.1; omega
  have m3 : ¬ w2.heap.size = w.heap.size + 1 := by have := Blk_lt HP2.out.2.1; omega
  have m4 : ¬ w.heap.size + 1 = w2.heap.size := by have := Blk_lt HP2.out.2.1; omega
  have m5 : ¬ w2.heap.size = b6 := by have := Blk_lt HP2.out.2.2.1; omega
  have m6 : ¬ b6 = w2.heap.size := by have := Blk_lt HP2.out.2.2.1; omega
  clear yb
  generalize w2.heap.size = y0 at *
  obtain ⟨q0, q1, q2, q3⟩ := cells4 HQ0.out.1
  obtain ⟨f0, f1, f2, f3⟩ := free4 HQ0.out.1
  obtain ⟨s0, s1⟩ := cells2 HQ0.out.2.1
  obtain ⟨g0, g1⟩ := freeP HQ0.out.2.1
  obtain ⟨j0, j1, j2, j3⟩ := cells4 HQ0.out.2.2.1
  obtain ⟨e0, e1, e2, e3⟩ := free4 HQ0.out.2.2.1
  go_upto_region 11 with fail
  go_region_held3 (fun w' => w'.cell? ⟨y0, 3, none⟩ = some (.int .i64 x.start)) (go_keep) (fail)
  rename_i hheld
  clear hheld
  go_wp2
  clear q0 q1 q2 q3 f0 f1 f2 f3 s0 s1 g0 g1 j0 j1 j2 j3 e0 e1 e2 e3 u0 u1 u2 u3 u4 u5 m1 m2 m3 m4 m5 m6
  have bel := HQ0.out.2.2.2.2.1
  have tc := cells4 (far2 (c := w.heap.size + 1) (set4 (.bool false) (.int .i64 (0)) (.bool false) (.int .i64 (0)) HQ0.out.1) (by omega) (.int .i64 (6)) (.int .i64 (x.start)))
  have td := cells2 (set2 (.int .i64 (6)) (.int .i64 (x.start)) (far4 (c := w.heap.size) HQ0.out.2.1 (by omega) (.bool false) (.int .i64 (0)) (.bool false) (.int .i64 (0))))
  refine bodyPost_ret (v := spR false (0) false (0) (6) (x.start)) (by simp [results, Try.results65, go_sem, *]) rfl ?_
  exact ⟨rfl, (by repeat' (first | (with_reducible exact Below.refl _ _) | (with_reducible assumption) | (with_reducible refine below_drewN ?_ _) | (with_reducible refine Below.drew ?_) | (with_reducible refine Below.alloc ?_ ?_ _) | (with_reducible refine Below.setCell ?_ ?_ _) | go_size))⟩

set_option maxRecDepth 100000 in
set_option maxHeartbeats 3000000 in
theorem sp_one0 {A : Option Addr} {n c B : Nat} {l : List UInt8} {els : List El} {r1 r2 : Int} (w : World) (hr : Rd w B A n l) (hB : B ≤ w.heap.size) (hc : n ≤ c) (hm : c ≤ maxLen) (hn : n ≤ 1000000)
    (hpv : partsV l 0 16 = (els, r1, r2)) {x : El} {xs : List El} {v0 v1 v2 : Int} {ok0 ok1 ok2 : Bool} {m : Nat} (hz : r1 = 0) (hz2 : r2 = 0) (he : els = x :: xs) (hmm : els.length = m) (h0 : ∀ X : World, Below w.heap.size w X → Calls Try.prog 110 #[.slice A n c, elT x, .int .i64 2, .int .i64 x.num, toCnt] X fun e X' => e = .returned (.tuple #[.int .i64 v0, .bool ok0]) ∧ Below X.heap.size X X') (hk0 : ok0 = true) (hn0 : x.num = 0) (hlm : ¬ 1 < m) :
    Calls Try.prog 65 #[.slice A n c] w fun e w' => e = .returned (spR true v0 false 0 0 0) ∧ Below w.heap.size w w' := by
  have PA := Lib.hid (fun (X : World) (h : Below w.heap.size w X) => parts_any (c := c) 0 16 X (hr.below (h.mono hB)) (Nat.le_trans hB h.size) hc hm hn)
  rw [hpv] at PA
  subst hz hz2
  have HM := Lib.hid hmm
  have HE := Lib.hid he
  have HL := Lib.hid (show (x :: xs : List El).length = m from by rw [← he]; exact hmm)
  have HN0 := Lib.hid hn0
  clear hn0
  have H0 := Lib.hid h0
  clear h0
  have hm0 : 0 < m := by have := HL.out; simp only [List.length_cons] at this; omega
  have hmk : 1 ≤ m := by have := HL.out; simp only [List.length_cons] at this; omega
  clear hmm he
  clear hr hpv
  go_enter Try.func65, Try.ntmps65
  go_wp2_with fail
  go_must (go_fit (PA.out _ (((Below.refl _ _).alloc (Nat.le_refl _) _).alloc (by simp) _)))
  rintro e w1 ⟨A1, cc, rfl, o1, hb1⟩
  obtain ⟨t2, t3, bel⟩ := box2 hb1
  have zs := hb1.size
  simp only [World.size_alloc] at zs
  unfold OwnE at o1
  simp only [HM.out] at o1 ⊢
  obtain ⟨g, cap, hv⟩ := Joins.ownsRow_form o1 hm0
  injection hv with hP
  subst hP
  have hgl := World.ownsRow.lt o1 g rfl
  simp only [World.size_alloc] at hgl
  obtain ⟨hg1, hg2⟩ := hgl
  go_upto_region 6 with fail
  refine wp_only (KB w (w1.heap.size + 1) g m cc els #[.bool false, .int .i64 0, .bool false, .int .i64 0]) ?_ ?_
  · exact ⟨bk_old (bk_old t2), bk_old (bk_old t3), bk_new (by simp), ((owns_mono (base' := w.heap.size + 2) o1 (by simp)).alloc _).alloc _, (by repeat' (first | (with_reducible exact Below.refl _ _) | (with_reducible assumption) | (with_reducible refine below_drewN ?_ _) | (with_reducible refine Below.drew ?_) | (with_reducible refine Below.alloc ?_ ?_ _) | (with_reducible refine Below.setCell ?_ ?_ _) | go_size)), by omega, by omega, by omega⟩
  intro w2 hp
  clear o1 hb1 PA t2 t3 bel zs hg1 hg2
  generalize hg6 : w1.heap.size + 1 = b6 at *
  generalize w1.heap.size = b5 at *
  clear hg6 w1
  have n1 : ¬ b6 = w.heap.size := by have := hp.2.2.2.2.2; omega
  have n2 : ¬ w.heap.size = b6 := by have := hp.2.2.2.2.2; omega
  have n3 : ¬ b6 = w.heap.size + 1 := by have := hp.2.2.2.2.2; omega
  have n4 : ¬ w.heap.size + 1 = b6 := by have := hp.2.2.2.2.2; omega
  have HP2 := Lib.hid hp
  clear hp
  rw [HE.out] at HP2
  go_wp2_with fail
  refine wp_loop_rounds 2 ?_
  subst hk0
  rw [rounds_succ]
  obtain ⟨u0, u1, u2, u3, u4, u5⟩ := row0 HP2.out.2.2.2.1 HL.out
  go_upto_region 9 with fail
  clear u0 u1 u2 u3 u4 u5
  go_wp2_with fail
  go_must (go_fit (H0.out _ (HP2.out.2.2.2.2.1.alloc HP2.out.2.2.2.2.1.size (.cells #[.int .i64 x.cls, .int .i64 x.num, .bool x.cons, .int .i64 x.start, .int .i64 x.body, .int .i64 x.stop] 93))))
  rintro e w0a ⟨rfl, hb⟩
  have HQ0 := Lib.hid (KB.past (KB.alloc HP2.out (.cells #[.int .i64 x.cls, .int .i64 x.num, .bool x.cons, .int .i64 x.start, .int .i64 x.body, .int .i64 x.stop] 93)) hb)
  have yb := blk1 hb
  clear hb
  obtain ⟨u0, u1, u2, u3, u4, u5⟩ := cells6 yb
  have m1 : ¬ w2.heap.size = w.heap.size := by have := HP2.out.2.2.2.2.1.size; have := Blk_lt HP2.out.2.1; omega
  have m2 : ¬ w.heap.size = w2.heap.size := by have := Blk_lt HP2.out.2.1; omega
  have m3 : ¬ w2.heap.size = w.heap.size + 1 := by have := Blk_lt HP2.out.2.1; omega
  have m4 : ¬ w.heap.size + 1 = w2.heap.size := by have := Blk_lt HP2.out.2.1; omega
  have m5 : ¬ w2.heap.size = b6 := by have := Blk_lt HP2.out.2.2.1; omega
  have m6 : ¬ b6 = w2.heap.size := by have := Blk_lt HP2.out.2.2.1; omega
  clear yb
  generalize w2.heap.size = y0 at *
  obtain ⟨q0, q1, q2, q3⟩ := cells4 HQ0.out.1
  obtain ⟨f0, f1, f2, f3⟩ := free4 HQ0.out.1
  obtain ⟨s0, s1⟩ := cells2 HQ0.out.2.1
  obtain ⟨g0, g1⟩ := freeP HQ0.out.2.1
  obtain ⟨j0, j1, j2, j3⟩ := cells4 HQ0.out.2.2.1
  obtain ⟨e0, e1, e2, e3⟩ := free4 HQ0.out.2.2.1
  have hn0 := HN0.out
  go_upto_region 16 with fail
  refine wp_only _ (KB.req HQ0.out (.bool true) (.int .i64 v0)) ?_
  intro w0b hp
  have HR0 := Lib.hid hp
  clear hp q0 q1 q2 q3 f0 f1 f2 f3 s0 s1 g0 g1 j0 j1 j2 j3 e0 e1 e2 e3 u0 u1 u2 u3 u4 u5 m1 m2 m3 m4 m5 m6 HQ0
  go_wp2_with fail
  rw [rounds_succ]
  obtain ⟨q0, q1, q2, q3⟩ := cells4 HR0.out.1
  obtain ⟨f0, f1, f2, f3⟩ := free4 HR0.out.1
  obtain ⟨s0, s1⟩ := cells2 HR0.out.2.1
  obtain ⟨g0, g1⟩ := freeP HR0.out.2.1
  obtain ⟨j0, j1, j2, j3⟩ := cells4 HR0.out.2.2.1
  obtain ⟨e0, e1, e2, e3⟩ := free4 HR0.out.2.2.1
  go_wp2
  clear q0 q1 q2 q3 f0 f1 f2 f3 s0 s1 g0 g1 j0 j1 j2 j3 e0 e1 e2 e3
  have bel := HR0.out.2.2.2.2.1
  have tc := cells4 (far2 (c := w.heap.size + 1) (set4 (.bool true) (.int .i64 (v0)) (.bool false) (.int .i64 (0)) HR0.out.1) (by omega) (.int .i64 (0)) (.int .i64 (0)))
  have td := cells2 (set2 (.int .i64 (0)) (.int .i64 (0)) (far4 (c := w.heap.size) HR0.out.2.1 (by omega) (.bool true) (.int .i64 (v0)) (.bool false) (.int .i64 (0))))
  refine bodyPost_ret (v := spR true (v0) false (0) (0) (0)) (by simp [results, Try.results65, go_sem, *]) rfl ?_
  exact ⟨rfl, (by repeat' (first | (with_reducible exact Below.refl _ _) | (with_reducible assumption) | (with_reducible refine below_drewN ?_ _) | (with_reducible refine Below.drew ?_) | (with_reducible refine Below.alloc ?_ ?_ _) | (with_reducible refine Below.setCell ?_ ?_ _) | go_size))⟩

set_option maxRecDepth 100000 in
set_option maxHeartbeats 3000000 in
theorem sp_bad1a0 {A : Option Addr} {n c B : Nat} {l : List UInt8} {els : List El} {r1 r2 : Int} (w : World) (hr : Rd w B A n l) (hB : B ≤ w.heap.size) (hc : n ≤ c) (hm : c ≤ maxLen) (hn : n ≤ 1000000)
    (hpv : partsV l 0 16 = (els, r1, r2)) {x y : El} {xs : List El} {v0 v1 v2 : Int} {ok0 ok1 ok2 : Bool} {m : Nat} (hz : r1 = 0) (hz2 : r2 = 0) (he : els = x :: y :: xs) (hmm : els.length = m) (h0 : ∀ X : World, Below w.heap.size w X → Calls Try.prog 110 #[.slice A n c, elT x, .int .i64 2, .int .i64 x.num, toCnt] X fun e X' => e = .returned (.tuple #[.int .i64 v0, .bool ok0]) ∧ Below X.heap.size X X') (h1 : ∀ X : World, Below w.heap.size w X → Calls Try.prog 110 #[.slice A n c, elT y, .int .i64 2, .int .i64 y.num, toCnt] X fun e X' => e = .returned (.tuple #[.int .i64 v1, .bool ok1]) ∧ Below X.heap.size X X') (hk0 : ok0 = true) (hn0 : x.num = 0) (hk : ok1 = false) :
    Calls Try.prog 65 #[.slice A n c] w fun e w' => e = .returned (spR false 0 false 0 6 y.start) ∧ Below w.heap.size w w' := by
  have PA := Lib.hid (fun (X : World) (h : Below w.heap.size w X) => parts_any (c := c) 0 16 X (hr.below (h.mono hB)) (Nat.le_trans hB h.size) hc hm hn)
  rw [hpv] at PA
  subst hz hz2
  have HM := Lib.hid hmm
  have HE := Lib.hid he
  have HL := Lib.hid (show (x :: y :: xs : List El).length = m from by rw [← he]; exact hmm)
  have HN0 := Lib.hid hn0
  clear hn0
  have H0 := Lib.hid h0
  clear h0
  have H1 := Lib.hid h1
  clear h1
  have hm0 : 0 < m := by have := HL.out; simp only [List.length_cons] at this; omega
  have hmk : 2 ≤ m := by have := HL.out; simp only [List.length_cons] at this; omega
  clear hmm he
  clear hr hpv
  go_enter Try.func65, Try.ntmps65
  go_wp2_with fail
  go_must (go_fit (PA.out _ (((Below.refl _ _).alloc (Nat.le_refl _) _).alloc (by simp) _)))
  rintro e w1 ⟨A1, cc, rfl, o1, hb1⟩
  obtain ⟨t2, t3, bel⟩ := box2 hb1
  have zs := hb1.size
  simp only [World.size_alloc] at zs
  unfold OwnE at o1
  simp only [HM.out] at o1 ⊢
  obtain ⟨g, cap, hv⟩ := Joins.ownsRow_form o1 hm0
  injection hv with hP
  subst hP
  have hgl := World.ownsRow.lt o1 g rfl
  simp only [World.size_alloc] at hgl
  obtain ⟨hg1, hg2⟩ := hgl
  go_upto_region 6 with fail
  refine wp_only (KB w (w1.heap.size + 1) g m cc els #[.bool false, .int .i64 0, .bool false, .int .i64 0]) ?_ ?_
  · exact ⟨bk_old (bk_old t2), bk_old (bk_old t3), bk_new (by simp), ((owns_mono (base' := w.heap.size + 2) o1 (by simp)).alloc _).alloc _, (by repeat' (first | (with_reducible exact Below.refl _ _) | (with_reducible assumption) | (with_reducible refine below_drewN ?_ _) | (with_reducible refine Below.drew ?_) | (with_reducible refine Below.alloc ?_ ?_ _) | (with_reducible refine Below.setCell ?_ ?_ _) | go_size)), by omega, by omega, by omega⟩
  intro w2 hp
  clear o1 hb1 PA t2 t3 bel zs hg1 hg2
  generalize hg6 : w1.heap.size + 1 = b6 at *
  generalize w1.heap.size = b5 at *
  clear hg6 w1
  have n1 : ¬ b6 = w.heap.size := by have := hp.2.2.2.2.2; omega
  have n2 : ¬ w.heap.size = b6 := by have := hp.2.2.2.2.2; omega
  have n3 : ¬ b6 = w.heap.size + 1 := by have := hp.2.2.2.2.2; omega
  have n4 : ¬ w.heap.size + 1 = b6 := by have := hp.2.2.2.2.2; omega
  have HP2 := Lib.hid hp
  clear hp
  rw [HE.out] at HP2
  go_wp2_with fail
  refine wp_loop_rounds 2 ?_
  subst hk0
  subst hk
  rw [rounds_succ]
  obtain ⟨u0, u1, u2, u3, u4, u5⟩ := row0 HP2.out.2.2.2.1 HL.out
  go_upto_region 9 with fail
  clear u0 u1 u2 u3 u4 u5
  go_wp2_with fail
  go_must (go_fit (H0.out _ (HP2.out.2.2.2.2.1.alloc HP2.out.2.2.2.2.1.size (.cells #[.int .i64 x.cls, .int .i64 x.num, .bool x.cons, .int .i64 x.start, .int .i64 x.body, .int .i64 x.stop] 93))))
  rintro e w0a ⟨rfl, hb⟩
  have HQ0 := Lib.hid (KB.past (KB.alloc HP2.out (.cells #[.int .i64 x.cls, .int .i64 x.num, .bool x.cons, .int .i64 x.start, .int .i64 x.body, .int .i64 x.stop] 93)) hb)
  have yb := blk1 hb
  clear hb
  obtain ⟨u0, u1, u2, u3, u4, u5⟩ := cells6 yb
  have m1 : ¬ w2.heap.size = w.heap.size := by have := HP2.out.2.2.2.2.1.size; have := Blk_lt HP2.out.2.1; omega
  have m2 : ¬ w.heap.size = w2.heap.size := by have := Blk_lt HP2.out.2.1; omega
  have m3 : ¬ w2.heap.size = w.heap.size + 1 := by have := Blk_lt HP2.out.2.1; omega
  have m4 : ¬ w.heap.size + 1 = w2.heap.size := by have := Blk_lt HP2.out.2.1; omega
  have m5 : ¬ w2.heap.size = b6 := by have := Blk_lt HP2.out.2.2.1; omega
  have m6 : ¬ b6 = w2.heap.size := by have := Blk_lt HP2.out.2.2.1; omega
  clear yb
  generalize w2.heap.size = y0 at *
  obtain ⟨q0, q1, q2, q3⟩ := cells4 HQ0.out.1
  obtain ⟨f0, f1, f2, f3⟩ := free4 HQ0.out.1
  obtain ⟨s0, s1⟩ := cells2 HQ0.out.2.1
  obtain ⟨g0, g1⟩ := freeP HQ0.out.2.1
  obtain ⟨j0, j1, j2, j3⟩ := cells4 HQ0.out.2.2.1
  obtain ⟨e0, e1, e2, e3⟩ := free4 HQ0.out.2.2.1
  have hn0 := HN0.out
  go_upto_region 16 with fail
  refine wp_only _ (KB.req HQ0.out (.bool true) (.int .i64 v0)) ?_
  intro w0b hp
  have HR0 := Lib.hid hp
  clear hp q0 q1 q2 q3 f0 f1 f2 f3 s0 s1 g0 g1 j0 j1 j2 j3 e0 e1 e2 e3 u0 u1 u2 u3 u4 u5 m1 m2 m3 m4 m5 m6 HQ0
  go_wp2_with fail
  rw [rounds_succ]
  obtain ⟨u0, u1, u2, u3, u4, u5⟩ := row1 HR0.out.2.2.2.1 HL.out
  go_upto_region 9 with fail
  clear u0 u1 u2 u3 u4 u5
  go_wp2_with fail
  go_must (go_fit (H1.out _ (HR0.out.2.2.2.2.1.alloc HR0.out.2.2.2.2.1.size (.cells #[.int .i64 y.cls, .int .i64 y.num, .bool y.cons, .int .i64 y.start, .int .i64 y.body, .int .i64 y.stop] 93))))
  rintro e w1a ⟨rfl, hb⟩
  have HQ1 := Lib.hid (KB.past (KB.alloc HR0.out (.cells #[.int .i64 y.cls, .int .i64 y.num, .bool y.cons, .int .i64 y.start, .int .i64 y.body, .int .i64 y.stop] 93)) hb)
  have yb := blk1 hb
  clear hb
  obtain ⟨u0, u1, u2, u3, u4, u5⟩ := cells6 yb
  have m1 : ¬ w0b.heap.size = w.heap.size := by have := HR0.out.2.2.2.2.1.size; have := Blk_lt HR0.out.2.1; omega
  have m2 : ¬ w.heap.size = w0b.heap.size := by have := Blk_lt HR0.out.2.1; omega
  have m3 : ¬ w0b.heap.size = w.heap.size + 1 := by have := Blk_lt HR0.out.2.1; omega
  have m4 : ¬ w.heap.size + 1 = w0b.heap.size := by have := Blk_lt HR0.out.2.1; omega
  have m5 : ¬ w0b.heap.size = b6 := by have := Blk_lt HR0.out.2.2.1; omega
  have m6 : ¬ b6 = w0b.heap.size := by have := Blk_lt HR0.out.2.2.1; omega
  clear yb
  generalize w0b.heap.size = y1 at *
  obtain ⟨q0, q1, q2, q3⟩ := cells4 HQ1.out.1
  obtain ⟨f0, f1, f2, f3⟩ := free4 HQ1.out.1
  obtain ⟨s0, s1⟩ := cells2 HQ1.out.2.1
  obtain ⟨g0, g1⟩ := freeP HQ1.out.2.1
  obtain ⟨j0, j1, j2, j3⟩ := cells4 HQ1.out.2.2.1
  obtain ⟨e0, e1, e2, e3⟩ := free4 HQ1.out.2.2.1
  go_upto_region 11 with fail
  go_region_held3 (fun w' => w'.cell? ⟨y1, 3, none⟩ = some (.int .i64 y.start)) (go_keep) (fail)
  rename_i hheld
  clear hheld
  go_wp2
  clear q0 q1 q2 q3 f0 f1 f2 f3 s0 s1 g0 g1 j0 j1 j2 j3 e0 e1 e2 e3 u0 u1 u2 u3 u4 u5 m1 m2 m3 m4 m5 m6
  have bel := HQ1.out.2.2.2.2.1
  have tc := cells4 (far2 (c := w.heap.size + 1) (set4 (.bool false) (.int .i64 (0)) (.bool false) (.int .i64 (0)) HQ1.out.1) (by omega) (.int .i64 (6)) (.int .i64 (y.start)))
  have td := cells2 (set2 (.int .i64 (6)) (.int .i64 (y.start)) (far4 (c := w.heap.size) HQ1.out.2.1 (by omega) (.bool false) (.int .i64 (0)) (.bool false) (.int .i64 (0))))
  refine bodyPost_ret (v := spR false (0) false (0) (6) (y.start)) (by simp [results, Try.results65, go_sem, *]) rfl ?_
  exact ⟨rfl, (by repeat' (first | (with_reducible exact Below.refl _ _) | (with_reducible assumption) | (with_reducible refine below_drewN ?_ _) | (with_reducible refine Below.drew ?_) | (with_reducible refine Below.alloc ?_ ?_ _) | (with_reducible refine Below.setCell ?_ ?_ _) | go_size))⟩

set_option maxRecDepth 100000 in
set_option maxHeartbeats 3000000 in
theorem sp_bad1b0 {A : Option Addr} {n c B : Nat} {l : List UInt8} {els : List El} {r1 r2 : Int} (w : World) (hr : Rd w B A n l) (hB : B ≤ w.heap.size) (hc : n ≤ c) (hm : c ≤ maxLen) (hn : n ≤ 1000000)
    (hpv : partsV l 0 16 = (els, r1, r2)) {x y : El} {xs : List El} {v0 v1 v2 : Int} {ok0 ok1 ok2 : Bool} {m : Nat} (hz : r1 = 0) (hz2 : r2 = 0) (he : els = x :: y :: xs) (hmm : els.length = m) (h0 : ∀ X : World, Below w.heap.size w X → Calls Try.prog 110 #[.slice A n c, elT x, .int .i64 2, .int .i64 x.num, toCnt] X fun e X' => e = .returned (.tuple #[.int .i64 v0, .bool ok0]) ∧ Below X.heap.size X X') (h1 : ∀ X : World, Below w.heap.size w X → Calls Try.prog 110 #[.slice A n c, elT y, .int .i64 2, .int .i64 y.num, toCnt] X fun e X' => e = .returned (.tuple #[.int .i64 v1, .bool ok1]) ∧ Below X.heap.size X X') (hk0 : ok0 = true) (hn0 : x.num = 0) (hk : ok1 = true) (hkk : 1 < y.num) :
    Calls Try.prog 65 #[.slice A n c] w fun e w' => e = .returned (spR false 0 false 0 6 y.start) ∧ Below w.heap.size w w' := by
  have PA := Lib.hid (fun (X : World) (h : Below w.heap.size w X) => parts_any (c := c) 0 16 X (hr.below (h.mono hB)) (Nat.le_trans hB h.size) hc hm hn)
  rw [hpv] at PA
  subst hz hz2
  have HM := Lib.hid hmm
  have HE := Lib.hid he
  have HL := Lib.hid (show (x :: y :: xs : List El).length = m from by rw [← he]; exact hmm)
  have HN0 := Lib.hid hn0
  clear hn0
  have H0 := Lib.hid h0
  clear h0
  have H1 := Lib.hid h1
  clear h1
  have hm0 : 0 < m := by have := HL.out; simp only [List.length_cons] at this; omega
  have hmk : 2 ≤ m := by have := HL.out; simp only [List.length_cons] at this; omega
  clear hmm he
  clear hr hpv
  go_enter Try.func65, Try.ntmps65
  go_wp2_with fail
  go_must (go_fit (PA.out _ (((Below.refl _ _).alloc (Nat.le_refl _) _).alloc (by simp) _)))
  rintro e w1 ⟨A1, cc, rfl, o1, hb1⟩
  obtain ⟨t2, t3, bel⟩ := box2 hb1
  have zs := hb1.size
  simp only [World.size_alloc] at zs
  unfold OwnE at o1
  simp only [HM.out] at o1 ⊢
  obtain ⟨g, cap, hv⟩ := Joins.ownsRow_form o1 hm0
  injection hv with hP
  subst hP
  have hgl := World.ownsRow.lt o1 g rfl
  simp only [World.size_alloc] at hgl
  obtain ⟨hg1, hg2⟩ := hgl
  go_upto_region 6 with fail
  refine wp_only (KB w (w1.heap.size + 1) g m cc els #[.bool false, .int .i64 0, .bool false, .int .i64 0]) ?_ ?_
  · exact ⟨bk_old (bk_old t2), bk_old (bk_old t3), bk_new (by simp), ((owns_mono (base' := w.heap.size + 2) o1 (by simp)).alloc _).alloc _, (by repeat' (first | (with_reducible exact Below.refl _ _) | (with_reducible assumption) | (with_reducible refine below_drewN ?_ _) | (with_reducible refine Below.drew ?_) | (with_reducible refine Below.alloc ?_ ?_ _) | (with_reducible refine Below.setCell ?_ ?_ _) | go_size)), by omega, by omega, by omega⟩
  intro w2 hp
  clear o1 hb1 PA t2 t3 bel zs hg1 hg2
  generalize hg6 : w1.heap.size + 1 = b6 at *
  generalize w1.heap.size = b5 at *
  clear hg6 w1
  have n1 : ¬ b6 = w.heap.size := by have := hp.2.2.2.2.2; omega
  have n2 : ¬ w.heap.size = b6 := by have := hp.2.2.2.2.2; omega
  have n3 : ¬ b6 = w.heap.size + 1 := by have := hp.2.2.2.2.2; omega
  have n4 : ¬ w.heap.size + 1 = b6 := by have := hp.2.2.2.2.2; omega
  have HP2 := Lib.hid hp
  clear hp
  rw [HE.out] at HP2
  go_wp2_with fail
  refine wp_loop_rounds 2 ?_
  subst hk0
  subst hk
  rw [rounds_succ]
  obtain ⟨u0, u1, u2, u3, u4, u5⟩ := row0 HP2.out.2.2.2.1 HL.out
  go_upto_region 9 with fail
  clear u0 u1 u2 u3 u4 u5
  go_wp2_with fail
  go_must (go_fit (H0.out _ (HP2.out.2.2.2.2.1.alloc HP2.out.2.2.2.2.1.size (.cells #[.int .i64 x.cls, .int .i64 x.num, .bool x.cons, .int .i64 x.start, .int .i64 x.body, .int .i64 x.stop] 93))))
  rintro e w0a ⟨rfl, hb⟩
  have HQ0 := Lib.hid (KB.past (KB.alloc HP2.out (.cells #[.int .i64 x.cls, .int .i64 x.num, .bool x.cons, .int .i64 x.start, .int .i64 x.body, .int .i64 x.stop] 93)) hb)
  have yb := blk1 hb
  clear hb
  obtain ⟨u0, u1, u2, u3, u4, u5⟩ := cells6 yb
  have m1 : ¬ w2.heap.size = w.heap.size := by have := HP2.out.2.2.2.2.1.size; have := Blk_lt HP2.out.2.1; omega
  have m2 : ¬ w.heap.size = w2.heap.size := by have := Blk_lt HP2.out.2.1; omega
  have m3 : ¬ w2.heap.size = w.heap.size + 1 := by have := Blk_lt HP2.out.2.1; omega
  have m4 : ¬ w.heap.size + 1 = w2.heap.size := by have := Blk_lt HP2.out.2.1; omega
  have m5 : ¬ w2.heap.size = b6 := by have := Blk_lt HP2.out.2.2.1; omega
  have m6 : ¬ b6 = w2.heap.size := by have := Blk_lt HP2.out.2.2.1; omega
  clear yb
  generalize w2.heap.size = y0 at *
  obtain ⟨q0, q1, q2, q3⟩ := cells4 HQ0.out.1
  obtain ⟨f0, f1, f2, f3⟩ := free4 HQ0.out.1
  obtain ⟨s0, s1⟩ := cells2 HQ0.out.2.1
  obtain ⟨g0, g1⟩ := freeP HQ0.out.2.1
  obtain ⟨j0, j1, j2, j3⟩ := cells4 HQ0.out.2.2.1
  obtain ⟨e0, e1, e2, e3⟩ := free4 HQ0.out.2.2.1
  have hn0 := HN0.out
  go_upto_region 16 with fail
  refine wp_only _ (KB.req HQ0.out (.bool true) (.int .i64 v0)) ?_
  intro w0b hp
  have HR0 := Lib.hid hp
  clear hp q0 q1 q2 q3 f0 f1 f2 f3 s0 s1 g0 g1 j0 j1 j2 j3 e0 e1 e2 e3 u0 u1 u2 u3 u4 u5 m1 m2 m3 m4 m5 m6 HQ0
  go_wp2_with fail
  rw [rounds_succ]
  obtain ⟨u0, u1, u2, u3, u4, u5⟩ := row1 HR0.out.2.2.2.1 HL.out
  go_upto_region 9 with fail
  clear u0 u1 u2 u3 u4 u5
  go_wp2_with fail
  go_must (go_fit (H1.out _ (HR0.out.2.2.2.2.1.alloc HR0.out.2.2.2.2.1.size (.cells #[.int .i64 y.cls, .int .i64 y.num, .bool y.cons, .int .i64 y.start, .int .i64 y.body, .int .i64 y.stop] 93))))
  rintro e w1a ⟨rfl, hb⟩
  have HQ1 := Lib.hid (KB.past (KB.alloc HR0.out (.cells #[.int .i64 y.cls, .int .i64 y.num, .bool y.cons, .int .i64 y.start, .int .i64 y.body, .int .i64 y.stop] 93)) hb)
  have yb := blk1 hb
  clear hb
  obtain ⟨u0, u1, u2, u3, u4, u5⟩ := cells6 yb
  have m1 : ¬ w0b.heap.size = w.heap.size := by have := HR0.out.2.2.2.2.1.size; have := Blk_lt HR0.out.2.1; omega
  have m2 : ¬ w.heap.size = w0b.heap.size := by have := Blk_lt HR0.out.2.1; omega
  have m3 : ¬ w0b.heap.size = w.heap.size + 1 := by have := Blk_lt HR0.out.2.1; omega
  have m4 : ¬ w.heap.size + 1 = w0b.heap.size := by have := Blk_lt HR0.out.2.1; omega
  have m5 : ¬ w0b.heap.size = b6 := by have := Blk_lt HR0.out.2.2.1; omega
  have m6 : ¬ b6 = w0b.heap.size := by have := Blk_lt HR0.out.2.2.1; omega
  clear yb
  generalize w0b.heap.size = y1 at *
  obtain ⟨q0, q1, q2, q3⟩ := cells4 HQ1.out.1
  obtain ⟨f0, f1, f2, f3⟩ := free4 HQ1.out.1
  obtain ⟨s0, s1⟩ := cells2 HQ1.out.2.1
  obtain ⟨g0, g1⟩ := freeP HQ1.out.2.1
  obtain ⟨j0, j1, j2, j3⟩ := cells4 HQ1.out.2.2.1
  obtain ⟨e0, e1, e2, e3⟩ := free4 HQ1.out.2.2.1
  go_upto_region 11 with fail
  go_region_held3 (fun w' => w'.cell? ⟨y1, 3, none⟩ = some (.int .i64 y.start)) (go_keep) (fail)
  rename_i hheld
  clear hheld
  go_wp2
  clear q0 q1 q2 q3 f0 f1 f2 f3 s0 s1 g0 g1 j0 j1 j2 j3 e0 e1 e2 e3 u0 u1 u2 u3 u4 u5 m1 m2 m3 m4 m5 m6
  have bel := HQ1.out.2.2.2.2.1
  have tc := cells4 (far2 (c := w.heap.size + 1) (set4 (.bool false) (.int .i64 (0)) (.bool false) (.int .i64 (0)) HQ1.out.1) (by omega) (.int .i64 (6)) (.int .i64 (y.start)))
  have td := cells2 (set2 (.int .i64 (6)) (.int .i64 (y.start)) (far4 (c := w.heap.size) HQ1.out.2.1 (by omega) (.bool false) (.int .i64 (0)) (.bool false) (.int .i64 (0))))
  refine bodyPost_ret (v := spR false (0) false (0) (6) (y.start)) (by simp [results, Try.results65, go_sem, *]) rfl ?_
  exact ⟨rfl, (by repeat' (first | (with_reducible exact Below.refl _ _) | (with_reducible assumption) | (with_reducible refine below_drewN ?_ _) | (with_reducible refine Below.drew ?_) | (with_reducible refine Below.alloc ?_ ?_ _) | (with_reducible refine Below.setCell ?_ ?_ _) | go_size))⟩

set_option maxRecDepth 100000 in
set_option maxHeartbeats 3000000 in
theorem sp_bad1c0 {A : Option Addr} {n c B : Nat} {l : List UInt8} {els : List El} {r1 r2 : Int} (w : World) (hr : Rd w B A n l) (hB : B ≤ w.heap.size) (hc : n ≤ c) (hm : c ≤ maxLen) (hn : n ≤ 1000000)
    (hpv : partsV l 0 16 = (els, r1, r2)) {x y : El} {xs : List El} {v0 v1 v2 : Int} {ok0 ok1 ok2 : Bool} {m : Nat} (hz : r1 = 0) (hz2 : r2 = 0) (he : els = x :: y :: xs) (hmm : els.length = m) (h0 : ∀ X : World, Below w.heap.size w X → Calls Try.prog 110 #[.slice A n c, elT x, .int .i64 2, .int .i64 x.num, toCnt] X fun e X' => e = .returned (.tuple #[.int .i64 v0, .bool ok0]) ∧ Below X.heap.size X X') (h1 : ∀ X : World, Below w.heap.size w X → Calls Try.prog 110 #[.slice A n c, elT y, .int .i64 2, .int .i64 y.num, toCnt] X fun e X' => e = .returned (.tuple #[.int .i64 v1, .bool ok1]) ∧ Below X.heap.size X X') (hk0 : ok0 = true) (hn0 : x.num = 0) (hk : ok1 = true) (hkk : ¬ 1 < y.num) (hkl : y.num ≤ 0) :
    Calls Try.prog 65 #[.slice A n c] w fun e w' => e = .returned (spR false 0 false 0 6 y.start) ∧ Below w.heap.size w w' := by
  have PA := Lib.hid (fun (X : World) (h : Below w.heap.size w X) => parts_any (c := c) 0 16 X (hr.below (h.mono hB)) (Nat.le_trans hB h.size) hc hm hn)
  rw [hpv] at PA
  subst hz hz2
  have HM := Lib.hid hmm
  have HE := Lib.hid he
  have HL := Lib.hid (show (x :: y :: xs : List El).length = m from by rw [← he]; exact hmm)
  have HN0 := Lib.hid hn0
  clear hn0
  have H0 := Lib.hid h0
  clear h0
  have H1 := Lib.hid h1
  clear h1
  have hm0 : 0 < m := by have := HL.out; simp only [List.length_cons] at this; omega
  have hmk : 2 ≤ m := by have := HL.out; simp only [List.length_cons] at this; omega
  clear hmm he
  clear hr hpv
  go_enter Try.func65, Try.ntmps65
  go_wp2_with fail
  go_must (go_fit (PA.out _ (((Below.refl _ _).alloc (Nat.le_refl _) _).alloc (by simp) _)))
  rintro e w1 ⟨A1, cc, rfl, o1, hb1⟩
  obtain ⟨t2, t3, bel⟩ := box2 hb1
  have zs := hb1.size
  simp only [World.size_alloc] at zs
  unfold OwnE at o1
  simp only [HM.out] at o1 ⊢
  obtain ⟨g, cap, hv⟩ := Joins.ownsRow_form o1 hm0
  injection hv with hP
  subst hP
  have hgl := World.ownsRow.lt o1 g rfl
  simp only [World.size_alloc] at hgl
  obtain ⟨hg1, hg2⟩ := hgl
  go_upto_region 6 with fail
  refine wp_only (KB w (w1.heap.size + 1) g m cc els #[.bool false, .int .i64 0, .bool false, .int .i64 0]) ?_ ?_
  · exact ⟨bk_old (bk_old t2), bk_old (bk_old t3), bk_new (by simp), ((owns_mono (base' := w.heap.size + 2) o1 (by simp)).alloc _).alloc _, (by repeat' (first | (with_reducible exact Below.refl _ _) | (with_reducible assumption) | (with_reducible refine below_drewN ?_ _) | (with_reducible refine Below.drew ?_) | (with_reducible refine Below.alloc ?_ ?_ _) | (with_reducible refine Below.setCell ?_ ?_ _) | go_size)), by omega, by omega, by omega⟩
  intro w2 hp
  clear o1 hb1 PA t2 t3 bel zs hg1 hg2
  generalize hg6 : w1.heap.size + 1 = b6 at *
  generalize w1.heap.size = b5 at *
  clear hg6 w1
  have n1 : ¬ b6 = w.heap.size := by have := hp.2.2.2.2.2; omega
  have n2 : ¬ w.heap.size = b6 := by have := hp.2.2.2.2.2; omega
  have n3 : ¬ b6 = w.heap.size + 1 := by have := hp.2.2.2.2.2; omega
  have n4 : ¬ w.heap.size + 1 = b6 := by have := hp.2.2.2.2.2; omega
  have HP2 := Lib.hid hp
  clear hp
  rw [HE.out] at HP2
  go_wp2_with fail
  refine wp_loop_rounds 2 ?_
  subst hk0
  subst hk
  rw [rounds_succ]
  obtain ⟨u0, u1, u2, u3, u4, u5⟩ := row0 HP2.out.2.2.2.1 HL.out
  go_upto_region 9 with fail
  clear u0 u1 u2 u3 u4 u5
  go_wp2_with fail
  go_must (go_fit (H0.out _ (HP2.out.2.2.2.2.1.alloc HP2.out.2.2.2.2.1.size (.cells #[.int .i64 x.cls, .int .i64 x.num, .bool x.cons, .int .i64 x.start, .int .i64 x.body, .int .i64 x.stop] 93))))
  rintro e w0a ⟨rfl, hb⟩
  have HQ0 := Lib.hid (KB.past (KB.alloc HP2.out (.cells #[.int .i64 x.cls, .int .i64 x.num, .bool x.cons, .int .i64 x.start, .int .i64 x.body, .int .i64 x.stop] 93)) hb)
  have yb := blk1 hb
  clear hb
  obtain ⟨u0, u1, u2, u3, u4, u5⟩ := cells6 yb
  have m1 : ¬ w2.heap.size = w.heap.size := by have := HP2.out.2.2.2.2.1.size; have := Blk_lt HP2.out.2.1; omega
  have m2 : ¬ w.heap.size = w2.heap.size := by have := Blk_lt HP2.out.2.1; omega
  have m3 : ¬ w2.heap.size = w.heap.size + 1 := by have := Blk_lt HP2.out.2.1; omega
  have m4 : ¬ w.heap.size + 1 = w2.heap.size := by have := Blk_lt HP2.out.2.1; omega
  have m5 : ¬ w2.heap.size = b6 := by have := Blk_lt HP2.out.2.2.1; omega
  have m6 : ¬ b6 = w2.heap.size := by have := Blk_lt HP2.out.2.2.1; omega
  clear yb
  generalize w2.heap.size = y0 at *
  obtain ⟨q0, q1, q2, q3⟩ := cells4 HQ0.out.1
  obtain ⟨f0, f1, f2, f3⟩ := free4 HQ0.out.1
  obtain ⟨s0, s1⟩ := cells2 HQ0.out.2.1
  obtain ⟨g0, g1⟩ := freeP HQ0.out.2.1
  obtain ⟨j0, j1, j2, j3⟩ := cells4 HQ0.out.2.2.1
  obtain ⟨e0, e1, e2, e3⟩ := free4 HQ0.out.2.2.1
  have hn0 := HN0.out
  go_upto_region 16 with fail
  refine wp_only _ (KB.req HQ0.out (.bool true) (.int .i64 v0)) ?_
  intro w0b hp
  have HR0 := Lib.hid hp
  clear hp q0 q1 q2 q3 f0 f1 f2 f3 s0 s1 g0 g1 j0 j1 j2 j3 e0 e1 e2 e3 u0 u1 u2 u3 u4 u5 m1 m2 m3 m4 m5 m6 HQ0
  go_wp2_with fail
  rw [rounds_succ]
  obtain ⟨u0, u1, u2, u3, u4, u5⟩ := row1 HR0.out.2.2.2.1 HL.out
  go_upto_region 9 with fail
  clear u0 u1 u2 u3 u4 u5
  go_wp2_with fail
  go_must (go_fit (H1.out _ (HR0.out.2.2.2.2.1.alloc HR0.out.2.2.2.2.1.size (.cells #[.int .i64 y.cls, .int .i64 y.num, .bool y.cons, .int .i64 y.start, .int .i64 y.body, .int .i64 y.stop] 93))))
  rintro e w1a ⟨rfl, hb⟩
  have HQ1 := Lib.hid (KB.past (KB.alloc HR0.out (.cells #[.int .i64 y.cls, .int .i64 y.num, .bool y.cons, .int .i64 y.start, .int .i64 y.body, .int .i64 y.stop] 93)) hb)
  have yb := blk1 hb
  clear hb
  obtain ⟨u0, u1, u2, u3, u4, u5⟩ := cells6 yb
  have m1 : ¬ w0b.heap.size = w.heap.size := by have := HR0.out.2.2.2.2.1.size; have := Blk_lt HR0.out.2.1; omega
  have m2 : ¬ w.heap.size = w0b.heap.size := by have := Blk_lt HR0.out.2.1; omega
  have m3 : ¬ w0b.heap.size = w.heap.size + 1 := by have := Blk_lt HR0.out.2.1; omega
  have m4 : ¬ w.heap.size + 1 = w0b.heap.size := by have := Blk_lt HR0.out.2.1; omega
  have m5 : ¬ w0b.heap.size = b6 := by have := Blk_lt HR0.out.2.2.1; omega
  have m6 : ¬ b6 = w0b.heap.size := by have := Blk_lt HR0.out.2.2.1; omega
  clear yb
  generalize w0b.heap.size = y1 at *
  obtain ⟨q0, q1, q2, q3⟩ := cells4 HQ1.out.1
  obtain ⟨f0, f1, f2, f3⟩ := free4 HQ1.out.1
  obtain ⟨s0, s1⟩ := cells2 HQ1.out.2.1
  obtain ⟨g0, g1⟩ := freeP HQ1.out.2.1
  obtain ⟨j0, j1, j2, j3⟩ := cells4 HQ1.out.2.2.1
  obtain ⟨e0, e1, e2, e3⟩ := free4 HQ1.out.2.2.1
  go_upto_region 11 with fail
  go_region_held3 (fun w' => w'.cell? ⟨y1, 3, none⟩ = some (.int .i64 y.start)) (go_keep) (fail)
  rename_i hheld
  clear hheld
  go_wp2
  clear q0 q1 q2 q3 f0 f1 f2 f3 s0 s1 g0 g1 j0 j1 j2 j3 e0 e1 e2 e3 u0 u1 u2 u3 u4 u5 m1 m2 m3 m4 m5 m6
  have bel := HQ1.out.2.2.2.2.1
  have tc := cells4 (far2 (c := w.heap.size + 1) (set4 (.bool false) (.int .i64 (0)) (.bool false) (.int .i64 (0)) HQ1.out.1) (by omega) (.int .i64 (6)) (.int .i64 (y.start)))
  have td := cells2 (set2 (.int .i64 (6)) (.int .i64 (y.start)) (far4 (c := w.heap.size) HQ1.out.2.1 (by omega) (.bool false) (.int .i64 (0)) (.bool false) (.int .i64 (0))))
  refine bodyPost_ret (v := spR false (0) false (0) (6) (y.start)) (by simp [results, Try.results65, go_sem, *]) rfl ?_
  exact ⟨rfl, (by repeat' (first | (with_reducible exact Below.refl _ _) | (with_reducible assumption) | (with_reducible refine below_drewN ?_ _) | (with_reducible refine Below.drew ?_) | (with_reducible refine Below.alloc ?_ ?_ _) | (with_reducible refine Below.setCell ?_ ?_ _) | go_size))⟩

set_option maxRecDepth 100000 in
set_option maxHeartbeats 3000000 in
theorem sp_one1 {A : Option Addr} {n c B : Nat} {l : List UInt8} {els : List El} {r1 r2 : Int} (w : World) (hr : Rd w B A n l) (hB : B ≤ w.heap.size) (hc : n ≤ c) (hm : c ≤ maxLen) (hn : n ≤ 1000000)
    (hpv : partsV l 0 16 = (els, r1, r2)) {x : El} {xs : List El} {v0 v1 v2 : Int} {ok0 ok1 ok2 : Bool} {m : Nat} (hz : r1 = 0) (hz2 : r2 = 0) (he : els = x :: xs) (hmm : els.length = m) (h0 : ∀ X : World, Below w.heap.size w X → Calls Try.prog 110 #[.slice A n c, elT x, .int .i64 2, .int .i64 x.num, toCnt] X fun e X' => e = .returned (.tuple #[.int .i64 v0, .bool ok0]) ∧ Below X.heap.size X X') (hk0 : ok0 = true) (hn0 : x.num = 1) (hlm : ¬ 1 < m) :
    Calls Try.prog 65 #[.slice A n c] w fun e w' => e = .returned (spR false 0 true v0 0 0) ∧ Below w.heap.size w w' := by
  have PA := Lib.hid (fun (X : World) (h : Below w.heap.size w X) => parts_any (c := c) 0 16 X (hr.below (h.mono hB)) (Nat.le_trans hB h.size) hc hm hn)
  rw [hpv] at PA
  subst hz hz2
  have HM := Lib.hid hmm
  have HE := Lib.hid he
  have HL := Lib.hid (show (x :: xs : List El).length = m from by rw [← he]; exact hmm)
  have HN0 := Lib.hid hn0
  clear hn0
  have H0 := Lib.hid h0
  clear h0
  have hm0 : 0 < m := by have := HL.out; simp only [List.length_cons] at this; omega
  have hmk : 1 ≤ m := by have := HL.out; simp only [List.length_cons] at this; omega
  clear hmm he
  clear hr hpv
  go_enter Try.func65, Try.ntmps65
  go_wp2_with fail
  go_must (go_fit (PA.out _ (((Below.refl _ _).alloc (Nat.le_refl _) _).alloc (by simp) _)))
  rintro e w1 ⟨A1, cc, rfl, o1, hb1⟩
  obtain ⟨t2, t3, bel⟩ := box2 hb1
  have zs := hb1.size
  simp only [World.size_alloc] at zs
  unfold OwnE at o1
  simp only [HM.out] at o1 ⊢
  obtain ⟨g, cap, hv⟩ := Joins.ownsRow_form o1 hm0
  injection hv with hP
  subst hP
  have hgl := World.ownsRow.lt o1 g rfl
  simp only [World.size_alloc] at hgl
  obtain ⟨hg1, hg2⟩ := hgl
  go_upto_region 6 with fail
  refine wp_only (KB w (w1.heap.size + 1) g m cc els #[.bool false, .int .i64 0, .bool false, .int .i64 0]) ?_ ?_
  · exact ⟨bk_old (bk_old t2), bk_old (bk_old t3), bk_new (by simp), ((owns_mono (base' := w.heap.size + 2) o1 (by simp)).alloc _).alloc _, (by repeat' (first | (with_reducible exact Below.refl _ _) | (with_reducible assumption) | (with_reducible refine below_drewN ?_ _) | (with_reducible refine Below.drew ?_) | (with_reducible refine Below.alloc ?_ ?_ _) | (with_reducible refine Below.setCell ?_ ?_ _) | go_size)), by omega, by omega, by omega⟩
  intro w2 hp
  clear o1 hb1 PA t2 t3 bel zs hg1 hg2
  generalize hg6 : w1.heap.size + 1 = b6 at *
  generalize w1.heap.size = b5 at *
  clear hg6 w1
  have n1 : ¬ b6 = w.heap.size := by have := hp.2.2.2.2.2; omega
  have n2 : ¬ w.heap.size = b6 := by have := hp.2.2.2.2.2; omega
  have n3 : ¬ b6 = w.heap.size + 1 := by have := hp.2.2.2.2.2; omega
  have n4 : ¬ w.heap.size + 1 = b6 := by have := hp.2.2.2.2.2; omega
  have HP2 := Lib.hid hp
  clear hp
  rw [HE.out] at HP2
  go_wp2_with fail
  refine wp_loop_rounds 2 ?_
  subst hk0
  rw [rounds_succ]
  obtain ⟨u0, u1, u2, u3, u4, u5⟩ := row0 HP2.out.2.2.2.1 HL.out
  go_upto_region 9 with fail
  clear u0 u1 u2 u3 u4 u5
  go_wp2_with fail
  go_must (go_fit (H0.out _ (HP2.out.2.2.2.2.1.alloc HP2.out.2.2.2.2.1.size (.cells #[.int .i64 x.cls, .int .i64 x.num, .bool x.cons, .int .i64 x.start, .int .i64 x.body, .int .i64 x.stop] 93))))
  rintro e w0a ⟨rfl, hb⟩
  have HQ0 := Lib.hid (KB.past (KB.alloc HP2.out (.cells #[.int .i64 x.cls, .int .i64 x.num, .bool x.cons, .int .i64 x.start, .int .i64 x.body, .int .i64 x.stop] 93)) hb)
  have yb := blk1 hb
  clear hb
  obtain ⟨u0, u1, u2, u3, u4, u5⟩ := cells6 yb
  have m1 : ¬ w2.heap.size = w.heap.size := by have := HP2.out.2.2.2.2.1.size; have := Blk_lt HP2.out.2.1; omega
  have m2 : ¬ w.heap.size = w2.heap.size := by have := Blk_lt HP2.out.2.1; omega
  have m3 : ¬ w2.heap.size = w.heap.size + 1 := by have := Blk_lt HP2.out.2.1; omega
  have m4 : ¬ w.heap.size + 1 = w2.heap.size := by have := Blk_lt HP2.out.2.1; omega
  have m5 : ¬ w2.heap.size = b6 := by have := Blk_lt HP2.out.2.2.1; omega
  have m6 : ¬ b6 = w2.heap.size := by have := Blk_lt HP2.out.2.2.1; omega
  clear yb
  generalize w2.heap.size = y0 at *
  obtain ⟨q0, q1, q2, q3⟩ := cells4 HQ0.out.1
  obtain ⟨f0, f1, f2, f3⟩ := free4 HQ0.out.1
  obtain ⟨s0, s1⟩ := cells2 HQ0.out.2.1
  obtain ⟨g0, g1⟩ := freeP HQ0.out.2.1
  obtain ⟨j0, j1, j2, j3⟩ := cells4 HQ0.out.2.2.1
  obtain ⟨e0, e1, e2, e3⟩ := free4 HQ0.out.2.2.1
  have hn0 := HN0.out
  go_upto_region 16 with fail
  refine wp_only _ (KB.inh HQ0.out (.bool true) (.int .i64 v0)) ?_
  intro w0b hp
  have HR0 := Lib.hid hp
  clear hp q0 q1 q2 q3 f0 f1 f2 f3 s0 s1 g0 g1 j0 j1 j2 j3 e0 e1 e2 e3 u0 u1 u2 u3 u4 u5 m1 m2 m3 m4 m5 m6 HQ0
  go_wp2_with fail
  rw [rounds_succ]
  obtain ⟨q0, q1, q2, q3⟩ := cells4 HR0.out.1
  obtain ⟨f0, f1, f2, f3⟩ := free4 HR0.out.1
  obtain ⟨s0, s1⟩ := cells2 HR0.out.2.1
  obtain ⟨g0, g1⟩ := freeP HR0.out.2.1
  obtain ⟨j0, j1, j2, j3⟩ := cells4 HR0.out.2.2.1
  obtain ⟨e0, e1, e2, e3⟩ := free4 HR0.out.2.2.1
  go_wp2
  clear q0 q1 q2 q3 f0 f1 f2 f3 s0 s1 g0 g1 j0 j1 j2 j3 e0 e1 e2 e3
  have bel := HR0.out.2.2.2.2.1
  have tc := cells4 (far2 (c := w.heap.size + 1) (set4 (.bool false) (.int .i64 (0)) (.bool true) (.int .i64 (v0)) HR0.out.1) (by omega) (.int .i64 (0)) (.int .i64 (0)))
  have td := cells2 (set2 (.int .i64 (0)) (.int .i64 (0)) (far4 (c := w.heap.size) HR0.out.2.1 (by omega) (.bool false) (.int .i64 (0)) (.bool true) (.int .i64 (v0))))
  refine bodyPost_ret (v := spR false (0) true (v0) (0) (0)) (by simp [results, Try.results65, go_sem, *]) rfl ?_
  exact ⟨rfl, (by repeat' (first | (with_reducible exact Below.refl _ _) | (with_reducible assumption) | (with_reducible refine below_drewN ?_ _) | (with_reducible refine Below.drew ?_) | (with_reducible refine Below.alloc ?_ ?_ _) | (with_reducible refine Below.setCell ?_ ?_ _) | go_size))⟩

set_option maxRecDepth 100000 in
set_option maxHeartbeats 3000000 in
theorem sp_bad1a1 {A : Option Addr} {n c B : Nat} {l : List UInt8} {els : List El} {r1 r2 : Int} (w : World) (hr : Rd w B A n l) (hB : B ≤ w.heap.size) (hc : n ≤ c) (hm : c ≤ maxLen) (hn : n ≤ 1000000)
    (hpv : partsV l 0 16 = (els, r1, r2)) {x y : El} {xs : List El} {v0 v1 v2 : Int} {ok0 ok1 ok2 : Bool} {m : Nat} (hz : r1 = 0) (hz2 : r2 = 0) (he : els = x :: y :: xs) (hmm : els.length = m) (h0 : ∀ X : World, Below w.heap.size w X → Calls Try.prog 110 #[.slice A n c, elT x, .int .i64 2, .int .i64 x.num, toCnt] X fun e X' => e = .returned (.tuple #[.int .i64 v0, .bool ok0]) ∧ Below X.heap.size X X') (h1 : ∀ X : World, Below w.heap.size w X → Calls Try.prog 110 #[.slice A n c, elT y, .int .i64 2, .int .i64 y.num, toCnt] X fun e X' => e = .returned (.tuple #[.int .i64 v1, .bool ok1]) ∧ Below X.heap.size X X') (hk0 : ok0 = true) (hn0 : x.num = 1) (hk : ok1 = false) :
    Calls Try.prog 65 #[.slice A n c] w fun e w' => e = .returned (spR false 0 false 0 6 y.start) ∧ Below w.heap.size w w' := by
  have PA := Lib.hid (fun (X : World) (h : Below w.heap.size w X) => parts_any (c := c) 0 16 X (hr.below (h.mono hB)) (Nat.le_trans hB h.size) hc hm hn)
  rw [hpv] at PA
  subst hz hz2
  have HM := Lib.hid hmm
  have HE := Lib.hid he
  have HL := Lib.hid (show (x :: y :: xs : List El).length = m from by rw [← he]; exact hmm)
  have HN0 := Lib.hid hn0
  clear hn0
  have H0 := Lib.hid h0
  clear h0
  have H1 := Lib.hid h1
  clear h1
  have hm0 : 0 < m := by have := HL.out; simp only [List.length_cons] at this; omega
  have hmk : 2 ≤ m := by have := HL.out; simp only [List.length_cons] at this; omega
  clear hmm he
  clear hr hpv
  go_enter Try.func65, Try.ntmps65
  go_wp2_with fail
  go_must (go_fit (PA.out _ (((Below.refl _ _).alloc (Nat.le_refl _) _).alloc (by simp) _)))
  rintro e w1 ⟨A1, cc, rfl, o1, hb1⟩
  obtain ⟨t2, t3, bel⟩ := box2 hb1
  have zs := hb1.size
  simp only [World.size_alloc] at zs
  unfold OwnE at o1
  simp only [HM.out] at o1 ⊢
  obtain ⟨g, cap, hv⟩ := Joins.ownsRow_form o1 hm0
  injection hv with hP
  subst hP
  have hgl := World.ownsRow.lt o1 g rfl
  simp only [World.size_alloc] at hgl
  obtain ⟨hg1, hg2⟩ := hgl
  go_upto_region 6 with fail
  refine wp_only (KB w (w1.heap.size + 1) g m cc els #[.bool false, .int .i64 0, .bool false, .int .i64 0]) ?_ ?_
  · exact ⟨bk_old (bk_old t2), bk_old (bk_old t3), bk_new (by simp), ((owns_mono (base' := w.heap.size + 2) o1 (by simp)).alloc _).alloc _, (by repeat' (first | (with_reducible exact Below.refl _ _) | (with_reducible assumption) | (with_reducible refine below_drewN ?_ _) | (with_reducible refine Below.drew ?_) | (with_reducible refine Below.alloc ?_ ?_ _) | (with_reducible refine Below.setCell ?_ ?_ _) | go_size)), by omega, by omega, by omega⟩
  intro w2 hp
  clear o1 hb1 PA t2 t3 bel zs hg1 hg2
  generalize hg6 : w1.heap.size + 1 = b6 at *
  generalize w1.heap.size = b5 at *
  clear hg6 w1
  have n1 : ¬ b6 = w.heap.size := by have := hp.2.2.2.2.2; omega
  have n2 : ¬ w.heap.size = b6 := by have := hp.2.2.2.2.2; omega
  have n3 : ¬ b6 = w.heap.size + 1 := by have := hp.2.2.2.2.2; omega
  have n4 : ¬ w.heap.size + 1 = b6 := by have := hp.2.2.2.2.2; omega
  have HP2 := Lib.hid hp
  clear hp
  rw [HE.out] at HP2
  go_wp2_with fail
  refine wp_loop_rounds 2 ?_
  subst hk0
  subst hk
  rw [rounds_succ]
  obtain ⟨u0, u1, u2, u3, u4, u5⟩ := row0 HP2.out.2.2.2.1 HL.out
  go_upto_region 9 with fail
  clear u0 u1 u2 u3 u4 u5
  go_wp2_with fail
  go_must (go_fit (H0.out _ (HP2.out.2.2.2.2.1.alloc HP2.out.2.2.2.2.1.size (.cells #[.int .i64 x.cls, .int .i64 x.num, .bool x.cons, .int .i64 x.start, .int .i64 x.body, .int .i64 x.stop] 93))))
  rintro e w0a ⟨rfl, hb⟩
  have HQ0 := Lib.hid (KB.past (KB.alloc HP2.out (.cells #[.int .i64 x.cls, .int .i64 x.num, .bool x.cons, .int .i64 x.start, .int .i64 x.body, .int .i64 x.stop] 93)) hb)
  have yb := blk1 hb
  clear hb
  obtain ⟨u0, u1, u2, u3, u4, u5⟩ := cells6 yb
  have m1 : ¬ w2.heap.size = w.heap.size := by have := HP2.out.2.2.2.2.1.size; have := Blk_lt HP2.out.2.1; omega
  have m2 : ¬ w.heap.size = w2.heap.size := by have := Blk_lt HP2.out.2.1; omega
  have m3 : ¬ w2.heap.size = w.heap.size + 1 := by have := Blk_lt HP2.out.2.1; omega
  have m4 : ¬ w.heap.size + 1 = w2.heap.size := by have := Blk_lt HP2.out.2.1; omega
  have m5 : ¬ w2.heap.size = b6 := by have := Blk_lt HP2.out.2.2.1; omega
  have m6 : ¬ b6 = w2.heap.size := by have := Blk_lt HP2.out.2.2.1; omega
  clear yb
  generalize w2.heap.size = y0 at *
  obtain ⟨q0, q1, q2, q3⟩ := cells4 HQ0.out.1
  obtain ⟨f0, f1, f2, f3⟩ := free4 HQ0.out.1
  obtain ⟨s0, s1⟩ := cells2 HQ0.out.2.1
  obtain ⟨g0, g1⟩ := freeP HQ0.out.2.1
  obtain ⟨j0, j1, j2, j3⟩ := cells4 HQ0.out.2.2.1
  obtain ⟨e0, e1, e2, e3⟩ := free4 HQ0.out.2.2.1
  have hn0 := HN0.out
  go_upto_region 16 with fail
  refine wp_only _ (KB.inh HQ0.out (.bool true) (.int .i64 v0)) ?_
  intro w0b hp
  have HR0 := Lib.hid hp
  clear hp q0 q1 q2 q3 f0 f1 f2 f3 s0 s1 g0 g1 j0 j1 j2 j3 e0 e1 e2 e3 u0 u1 u2 u3 u4 u5 m1 m2 m3 m4 m5 m6 HQ0
  go_wp2_with fail
  rw [rounds_succ]
  obtain ⟨u0, u1, u2, u3, u4, u5⟩ := row1 HR0.out.2.2.2.1 HL.out
  go_upto_region 9 with fail
  clear u0 u1 u2 u3 u4 u5
  go_wp2_with fail
  go_must (go_fit (H1.out _ (HR0.out.2.2.2.2.1.alloc HR0.out.2.2.2.2.1.size (.cells #[.int .i64 y.cls, .int .i64 y.num, .bool y.cons, .int .i64 y.start, .int .i64 y.body, .int .i64 y.stop] 93))))
  rintro e w1a ⟨rfl, hb⟩
  have HQ1 := Lib.hid (KB.past (KB.alloc HR0.out (.cells #[.int .i64 y.cls, .int .i64 y.num, .bool y.cons, .int .i64 y.start, .int .i64 y.body, .int .i64 y.stop] 93)) hb)
  have yb := blk1 hb
  clear hb
  obtain ⟨u0, u1, u2, u3, u4, u5⟩ := cells6 yb
  have m1 : ¬ w0b.heap.size = w.heap.size := by have := HR0.out.2.2.2.2.1.size; have := Blk_lt HR0.out.2.1; omega
  have m2 : ¬ w.heap.size = w0b.heap.size := by have := Blk_lt HR0.out.2.1; omega
  have m3 : ¬ w0b.heap.size = w.heap.size + 1 := by have := Blk_lt HR0.out.2.1; omega
  have m4 : ¬ w.heap.size + 1 = w0b.heap.size := by have := Blk_lt HR0.out.2.1; omega
  have m5 : ¬ w0b.heap.size = b6 := by have := Blk_lt HR0.out.2.2.1; omega
  have m6 : ¬ b6 = w0b.heap.size := by have := Blk_lt HR0.out.2.2.1; omega
  clear yb
  generalize w0b.heap.size = y1 at *
  obtain ⟨q0, q1, q2, q3⟩ := cells4 HQ1.out.1
  obtain ⟨f0, f1, f2, f3⟩ := free4 HQ1.out.1
  obtain ⟨s0, s1⟩ := cells2 HQ1.out.2.1
  obtain ⟨g0, g1⟩ := freeP HQ1.out.2.1
  obtain ⟨j0, j1, j2, j3⟩ := cells4 HQ1.out.2.2.1
  obtain ⟨e0, e1, e2, e3⟩ := free4 HQ1.out.2.2.1
  go_upto_region 11 with fail
  go_region_held3 (fun w' => w'.cell? ⟨y1, 3, none⟩ = some (.int .i64 y.start)) (go_keep) (fail)
  rename_i hheld
  clear hheld
  go_wp2
  clear q0 q1 q2 q3 f0 f1 f2 f3 s0 s1 g0 g1 j0 j1 j2 j3 e0 e1 e2 e3 u0 u1 u2 u3 u4 u5 m1 m2 m3 m4 m5 m6
  have bel := HQ1.out.2.2.2.2.1
  have tc := cells4 (far2 (c := w.heap.size + 1) (set4 (.bool false) (.int .i64 (0)) (.bool false) (.int .i64 (0)) HQ1.out.1) (by omega) (.int .i64 (6)) (.int .i64 (y.start)))
  have td := cells2 (set2 (.int .i64 (6)) (.int .i64 (y.start)) (far4 (c := w.heap.size) HQ1.out.2.1 (by omega) (.bool false) (.int .i64 (0)) (.bool false) (.int .i64 (0))))
  refine bodyPost_ret (v := spR false (0) false (0) (6) (y.start)) (by simp [results, Try.results65, go_sem, *]) rfl ?_
  exact ⟨rfl, (by repeat' (first | (with_reducible exact Below.refl _ _) | (with_reducible assumption) | (with_reducible refine below_drewN ?_ _) | (with_reducible refine Below.drew ?_) | (with_reducible refine Below.alloc ?_ ?_ _) | (with_reducible refine Below.setCell ?_ ?_ _) | go_size))⟩

set_option maxRecDepth 100000 in
set_option maxHeartbeats 3000000 in
theorem sp_bad1b1 {A : Option Addr} {n c B : Nat} {l : List UInt8} {els : List El} {r1 r2 : Int} (w : World) (hr : Rd w B A n l) (hB : B ≤ w.heap.size) (hc : n ≤ c) (hm : c ≤ maxLen) (hn : n ≤ 1000000)
    (hpv : partsV l 0 16 = (els, r1, r2)) {x y : El} {xs : List El} {v0 v1 v2 : Int} {ok0 ok1 ok2 : Bool} {m : Nat} (hz : r1 = 0) (hz2 : r2 = 0) (he : els = x :: y :: xs) (hmm : els.length = m) (h0 : ∀ X : World, Below w.heap.size w X → Calls Try.prog 110 #[.slice A n c, elT x, .int .i64 2, .int .i64 x.num, toCnt] X fun e X' => e = .returned (.tuple #[.int .i64 v0, .bool ok0]) ∧ Below X.heap.size X X') (h1 : ∀ X : World, Below w.heap.size w X → Calls Try.prog 110 #[.slice A n c, elT y, .int .i64 2, .int .i64 y.num, toCnt] X fun e X' => e = .returned (.tuple #[.int .i64 v1, .bool ok1]) ∧ Below X.heap.size X X') (hk0 : ok0 = true) (hn0 : x.num = 1) (hk : ok1 = true) (hkk : 1 < y.num) :
    Calls Try.prog 65 #[.slice A n c] w fun e w' => e = .returned (spR false 0 false 0 6 y.start) ∧ Below w.heap.size w w' := by
  have PA := Lib.hid (fun (X : World) (h : Below w.heap.size w X) => parts_any (c := c) 0 16 X (hr.below (h.mono hB)) (Nat.le_trans hB h.size) hc hm hn)
  rw [hpv] at PA
  subst hz hz2
  have HM := Lib.hid hmm
  have HE := Lib.hid he
  have HL := Lib.hid (show (x :: y :: xs : List El).length = m from by rw [← he]; exact hmm)
  have HN0 := Lib.hid hn0
  clear hn0
  have H0 := Lib.hid h0
  clear h0
  have H1 := Lib.hid h1
  clear h1
  have hm0 : 0 < m := by have := HL.out; simp only [List.length_cons] at this; omega
  have hmk : 2 ≤ m := by have := HL.out; simp only [List.length_cons] at this; omega
  clear hmm he
  clear hr hpv
  go_enter Try.func65, Try.ntmps65
  go_wp2_with fail
  go_must (go_fit (PA.out _ (((Below.refl _ _).alloc (Nat.le_refl _) _).alloc (by simp) _)))
  rintro e w1 ⟨A1, cc, rfl, o1, hb1⟩
  obtain ⟨t2, t3, bel⟩ := box2 hb1
  have zs := hb1.size
  simp only [World.size_alloc] at zs
  unfold OwnE at o1
  simp only [HM.out] at o1 ⊢
  obtain ⟨g, cap, hv⟩ := Joins.ownsRow_form o1 hm0
  injection hv with hP
  subst hP
  have hgl := World.ownsRow.lt o1 g rfl
  simp only [World.size_alloc] at hgl
  obtain ⟨hg1, hg2⟩ := hgl
  go_upto_region 6 with fail
  refine wp_only (KB w (w1.heap.size + 1) g m cc els #[.bool false, .int .i64 0, .bool false, .int .i64 0]) ?_ ?_
  · exact ⟨bk_old (bk_old t2), bk_old (bk_old t3), bk_new (by simp), ((owns_mono (base' := w.heap.size + 2) o1 (by simp)).alloc _).alloc _, (by repeat' (first | (with_reducible exact Below.refl _ _) | (with_reducible assumption) | (with_reducible refine below_drewN ?_ _) | (with_reducible refine Below.drew ?_) | (with_reducible refine Below.alloc ?_ ?_ _) | (with_reducible refine Below.setCell ?_ ?_ _) | go_size)), by omega, by omega, by omega⟩
  intro w2 hp
  clear o1 hb1 PA t2 t3 bel zs hg1 hg2
  generalize hg6 : w1.heap.size + 1 = b6 at *
  generalize w1.heap.size = b5 at *
  clear hg6 w1
  have n1 : ¬ b6 = w.heap.size := by have := hp.2.2.2.2.2; omega
  have n2 : ¬ w.heap.size = b6 := by have := hp.2.2.2.2.2; omega
  have n3 : ¬ b6 = w.heap.size + 1 := by have := hp.2.2.2.2.2; omega
  have n4 : ¬ w.heap.size + 1 = b6 := by have := hp.2.2.2.2.2; omega
  have HP2 := Lib.hid hp
  clear hp
  rw [HE.out] at HP2
  go_wp2_with fail
  refine wp_loop_rounds 2 ?_
  subst hk0
  subst hk
  rw [rounds_succ]
  obtain ⟨u0, u1, u2, u3, u4, u5⟩ := row0 HP2.out.2.2.2.1 HL.out
  go_upto_region 9 with fail
  clear u0 u1 u2 u3 u4 u5
  go_wp2_with fail
  go_must (go_fit (H0.out _ (HP2.out.2.2.2.2.1.alloc HP2.out.2.2.2.2.1.size (.cells #[.int .i64 x.cls, .int .i64 x.num, .bool x.cons, .int .i64 x.start, .int .i64 x.body, .int .i64 x.stop] 93))))
  rintro e w0a ⟨rfl, hb⟩
  have HQ0 := Lib.hid (KB.past (KB.alloc HP2.out (.cells #[.int .i64 x.cls, .int .i64 x.num, .bool x.cons, .int .i64 x.start, .int .i64 x.body, .int .i64 x.stop] 93)) hb)
  have yb := blk1 hb
  clear hb
  obtain ⟨u0, u1, u2, u3, u4, u5⟩ := cells6 yb
  have m1 : ¬ w2.heap.size = w.heap.size := by have := HP2.out.2.2.2.2.1.size; have := Blk_lt HP2.out.2.1; omega
  have m2 : ¬ w.heap.size = w2.heap.size := by have := Blk_lt HP2.out.2.1; omega
  have m3 : ¬ w2.heap.size = w.heap.size + 1 := by have := Blk_lt HP2.out.2.1; omega
  have m4 : ¬ w.heap.size + 1 = w2.heap.size := by have := Blk_lt HP2.out.2.1; omega
  have m5 : ¬ w2.heap.size = b6 := by have := Blk_lt HP2.out.2.2.1; omega
  have m6 : ¬ b6 = w2.heap.size := by have := Blk_lt HP2.out.2.2.1; omega
  clear yb
  generalize w2.heap.size = y0 at *
  obtain ⟨q0, q1, q2, q3⟩ := cells4 HQ0.out.1
  obtain ⟨f0, f1, f2, f3⟩ := free4 HQ0.out.1
  obtain ⟨s0, s1⟩ := cells2 HQ0.out.2.1
  obtain ⟨g0, g1⟩ := freeP HQ0.out.2.1
  obtain ⟨j0, j1, j2, j3⟩ := cells4 HQ0.out.2.2.1
  obtain ⟨e0, e1, e2, e3⟩ := free4 HQ0.out.2.2.1
  have hn0 := HN0.out
  go_upto_region 16 with fail
  refine wp_only _ (KB.inh HQ0.out (.bool true) (.int .i64 v0)) ?_
  intro w0b hp
  have HR0 := Lib.hid hp
  clear hp q0 q1 q2 q3 f0 f1 f2 f3 s0 s1 g0 g1 j0 j1 j2 j3 e0 e1 e2 e3 u0 u1 u2 u3 u4 u5 m1 m2 m3 m4 m5 m6 HQ0
  go_wp2_with fail
  rw [rounds_succ]
  obtain ⟨u0, u1, u2, u3, u4, u5⟩ := row1 HR0.out.2.2.2.1 HL.out
  go_upto_region 9 with fail
  clear u0 u1 u2 u3 u4 u5
  go_wp2_with fail
  go_must (go_fit (H1.out _ (HR0.out.2.2.2.2.1.alloc HR0.out.2.2.2.2.1.size (.cells #[.int .i64 y.cls, .int .i64 y.num, .bool y.cons, .int .i64 y.start, .int .i64 y.body, .int .i64 y.stop] 93))))
  rintro e w1a ⟨rfl, hb⟩
  have HQ1 := Lib.hid (KB.past (KB.alloc HR0.out (.cells #[.int .i64 y.cls, .int .i64 y.num, .bool y.cons, .int .i64 y.start, .int .i64 y.body, .int .i64 y.stop] 93)) hb)
  have yb := blk1 hb
  clear hb
  obtain ⟨u0, u1, u2, u3, u4, u5⟩ := cells6 yb
  have m1 : ¬ w0b.heap.size = w.heap.size := by have := HR0.out.2.2.2.2.1.size; have := Blk_lt HR0.out.2.1; omega
  have m2 : ¬ w.heap.size = w0b.heap.size := by have := Blk_lt HR0.out.2.1; omega
  have m3 : ¬ w0b.heap.size = w.heap.size + 1 := by have := Blk_lt HR0.out.2.1; omega
  have m4 : ¬ w.heap.size + 1 = w0b.heap.size := by have := Blk_lt HR0.out.2.1; omega
  have m5 : ¬ w0b.heap.size = b6 := by have := Blk_lt HR0.out.2.2.1; omega
  have m6 : ¬ b6 = w0b.heap.size := by have := Blk_lt HR0.out.2.2.1; omega
  clear yb
  generalize w0b.heap.size = y1 at *
  obtain ⟨q0, q1, q2, q3⟩ := cells4 HQ1.out.1
  obtain ⟨f0, f1, f2, f3⟩ := free4 HQ1.out.1
  obtain ⟨s0, s1⟩ := cells2 HQ1.out.2.1
  obtain ⟨g0, g1⟩ := freeP HQ1.out.2.1
  obtain ⟨j0, j1, j2, j3⟩ := cells4 HQ1.out.2.2.1
  obtain ⟨e0, e1, e2, e3⟩ := free4 HQ1.out.2.2.1
  go_upto_region 11 with fail
  go_region_held3 (fun w' => w'.cell? ⟨y1, 3, none⟩ = some (.int .i64 y.start)) (go_keep) (fail)
  rename_i hheld
  clear hheld
  go_wp2
  clear q0 q1 q2 q3 f0 f1 f2 f3 s0 s1 g0 g1 j0 j1 j2 j3 e0 e1 e2 e3 u0 u1 u2 u3 u4 u5 m1 m2 m3 m4 m5 m6
  have bel := HQ1.out.2.2.2.2.1
  have tc := cells4 (far2 (c := w.heap.size + 1) (set4 (.bool false) (.int .i64 (0)) (.bool false) (.int .i64 (0)) HQ1.out.1) (by omega) (.int .i64 (6)) (.int .i64 (y.start)))
  have td := cells2 (set2 (.int .i64 (6)) (.int .i64 (y.start)) (far4 (c := w.heap.size) HQ1.out.2.1 (by omega) (.bool false) (.int .i64 (0)) (.bool false) (.int .i64 (0))))
  refine bodyPost_ret (v := spR false (0) false (0) (6) (y.start)) (by simp [results, Try.results65, go_sem, *]) rfl ?_
  exact ⟨rfl, (by repeat' (first | (with_reducible exact Below.refl _ _) | (with_reducible assumption) | (with_reducible refine below_drewN ?_ _) | (with_reducible refine Below.drew ?_) | (with_reducible refine Below.alloc ?_ ?_ _) | (with_reducible refine Below.setCell ?_ ?_ _) | go_size))⟩

set_option maxRecDepth 100000 in
set_option maxHeartbeats 3000000 in
theorem sp_bad1c1 {A : Option Addr} {n c B : Nat} {l : List UInt8} {els : List El} {r1 r2 : Int} (w : World) (hr : Rd w B A n l) (hB : B ≤ w.heap.size) (hc : n ≤ c) (hm : c ≤ maxLen) (hn : n ≤ 1000000)
    (hpv : partsV l 0 16 = (els, r1, r2)) {x y : El} {xs : List El} {v0 v1 v2 : Int} {ok0 ok1 ok2 : Bool} {m : Nat} (hz : r1 = 0) (hz2 : r2 = 0) (he : els = x :: y :: xs) (hmm : els.length = m) (h0 : ∀ X : World, Below w.heap.size w X → Calls Try.prog 110 #[.slice A n c, elT x, .int .i64 2, .int .i64 x.num, toCnt] X fun e X' => e = .returned (.tuple #[.int .i64 v0, .bool ok0]) ∧ Below X.heap.size X X') (h1 : ∀ X : World, Below w.heap.size w X → Calls Try.prog 110 #[.slice A n c, elT y, .int .i64 2, .int .i64 y.num, toCnt] X fun e X' => e = .returned (.tuple #[.int .i64 v1, .bool ok1]) ∧ Below X.heap.size X X') (hk0 : ok0 = true) (hn0 : x.num = 1) (hk : ok1 = true) (hkk : ¬ 1 < y.num) (hkl : y.num ≤ 1) :
    Calls Try.prog 65 #[.slice A n c] w fun e w' => e = .returned (spR false 0 false 0 6 y.start) ∧ Below w.heap.size w w' := by
  have PA := Lib.hid (fun (X : World) (h : Below w.heap.size w X) => parts_any (c := c) 0 16 X (hr.below (h.mono hB)) (Nat.le_trans hB h.size) hc hm hn)
  rw [hpv] at PA
  subst hz hz2
  have HM := Lib.hid hmm
  have HE := Lib.hid he
  have HL := Lib.hid (show (x :: y :: xs : List El).length = m from by rw [← he]; exact hmm)
  have HN0 := Lib.hid hn0
  clear hn0
  have H0 := Lib.hid h0
  clear h0
  have H1 := Lib.hid h1
  clear h1
  have hm0 : 0 < m := by have := HL.out; simp only [List.length_cons] at this; omega
  have hmk : 2 ≤ m := by have := HL.out; simp only [List.length_cons] at this; omega
  clear hmm he
  clear hr hpv
  go_enter Try.func65, Try.ntmps65
  go_wp2_with fail
  go_must (go_fit (PA.out _ (((Below.refl _ _).alloc (Nat.le_refl _) _).alloc (by simp) _)))
  rintro e w1 ⟨A1, cc, rfl, o1, hb1⟩
  obtain ⟨t2, t3, bel⟩ := box2 hb1
  have zs := hb1.size
  simp only [World.size_alloc] at zs
  unfold OwnE at o1
  simp only [HM.out] at o1 ⊢
  obtain ⟨g, cap, hv⟩ := Joins.ownsRow_form o1 hm0
  injection hv with hP
  subst hP
  have hgl := World.ownsRow.lt o1 g rfl
  simp only [World.size_alloc] at hgl
  obtain ⟨hg1, hg2⟩ := hgl
  go_upto_region 6 with fail
  refine wp_only (KB w (w1.heap.size + 1) g m cc els #[.bool false, .int .i64 0, .bool false, .int .i64 0]) ?_ ?_
  · exact ⟨bk_old (bk_old t2), bk_old (bk_old t3), bk_new (by simp), ((owns_mono (base' := w.heap.size + 2) o1 (by simp)).alloc _).alloc _, (by repeat' (first | (with_reducible exact Below.refl _ _) | (with_reducible assumption) | (with_reducible refine below_drewN ?_ _) | (with_reducible refine Below.drew ?_) | (with_reducible refine Below.alloc ?_ ?_ _) | (with_reducible refine Below.setCell ?_ ?_ _) | go_size)), by omega, by omega, by omega⟩
  intro w2 hp
  clear o1 hb1 PA t2 t3 bel zs hg1 hg2
  generalize hg6 : w1.heap.size + 1 = b6 at *
  generalize w1.heap.size = b5 at *
  clear hg6 w1
  have n1 : ¬ b6 = w.heap.size := by have := hp.2.2.2.2.2; omega
  have n2 : ¬ w.heap.size = b6 := by have := hp.2.2.2.2.2; omega
  have n3 : ¬ b6 = w.heap.size + 1 := by have := hp.2.2.2.2.2; omega
  have n4 : ¬ w.heap.size + 1 = b6 := by have := hp.2.2.2.2.2; omega
  have HP2 := Lib.hid hp
  clear hp
  rw [HE.out] at HP2
  go_wp2_with fail
  refine wp_loop_rounds 2 ?_
  subst hk0
  subst hk
  rw [rounds_succ]
  obtain ⟨u0, u1, u2, u3, u4, u5⟩ := row0 HP2.out.2.2.2.1 HL.out
  go_upto_region 9 with fail
  clear u0 u1 u2 u3 u4 u5
  go_wp2_with fail
  go_must (go_fit (H0.out _ (HP2.out.2.2.2.2.1.alloc HP2.out.2.2.2.2.1.size (.cells #[.int .i64 x.cls, .int .i64 x.num, .bool x.cons, .int .i64 x.start, .int .i64 x.body, .int .i64 x.stop] 93))))
  rintro e w0a ⟨rfl, hb⟩
  have HQ0 := Lib.hid (KB.past (KB.alloc HP2.out (.cells #[.int .i64 x.cls, .int .i64 x.num, .bool x.cons, .int .i64 x.start, .int .i64 x.body, .int .i64 x.stop] 93)) hb)
  have yb := blk1 hb
  clear hb
  obtain ⟨u0, u1, u2, u3, u4, u5⟩ := cells6 yb
  have m1 : ¬ w2.heap.size = w.heap.size := by have := HP2.out.2.2.2.2.1.size; have := Blk_lt HP2.out.2.1; omega
  have m2 : ¬ w.heap.size = w2.heap.size := by have := Blk_lt HP2.out.2.1; omega
  have m3 : ¬ w2.heap.size = w.heap.size + 1 := by have := Blk_lt HP2.out.2.1; omega
  have m4 : ¬ w.heap.size + 1 = w2.heap.size := by have := Blk_lt HP2.out.2.1; omega
  have m5 : ¬ w2.heap.size = b6 := by have := Blk_lt HP2.out.2.2.1; omega
  have m6 : ¬ b6 = w2.heap.size := by have := Blk_lt HP2.out.2.2.1; omega
  clear yb
  generalize w2.heap.size = y0 at *
  obtain ⟨q0, q1, q2, q3⟩ := cells4 HQ0.out.1
  obtain ⟨f0, f1, f2, f3⟩ := free4 HQ0.out.1
  obtain ⟨s0, s1⟩ := cells2 HQ0.out.2.1
  obtain ⟨g0, g1⟩ := freeP HQ0.out.2.1
  obtain ⟨j0, j1, j2, j3⟩ := cells4 HQ0.out.2.2.1
  obtain ⟨e0, e1, e2, e3⟩ := free4 HQ0.out.2.2.1
  have hn0 := HN0.out
  go_upto_region 16 with fail
  refine wp_only _ (KB.inh HQ0.out (.bool true) (.int .i64 v0)) ?_
  intro w0b hp
  have HR0 := Lib.hid hp
  clear hp q0 q1 q2 q3 f0 f1 f2 f3 s0 s1 g0 g1 j0 j1 j2 j3 e0 e1 e2 e3 u0 u1 u2 u3 u4 u5 m1 m2 m3 m4 m5 m6 HQ0
  go_wp2_with fail
  rw [rounds_succ]
  obtain ⟨u0, u1, u2, u3, u4, u5⟩ := row1 HR0.out.2.2.2.1 HL.out
  go_upto_region 9 with fail
  clear u0 u1 u2 u3 u4 u5
  go_wp2_with fail
  go_must (go_fit (H1.out _ (HR0.out.2.2.2.2.1.alloc HR0.out.2.2.2.2.1.size (.cells #[.int .i64 y.cls, .int .i64 y.num, .bool y.cons, .int .i64 y.start, .int .i64 y.body, .int .i64 y.stop] 93))))
  rintro e w1a ⟨rfl, hb⟩
  have HQ1 := Lib.hid (KB.past (KB.alloc HR0.out (.cells #[.int .i64 y.cls, .int .i64 y.num, .bool y.cons, .int .i64 y.start, .int .i64 y.body, .int .i64 y.stop] 93)) hb)
  have yb := blk1 hb
  clear hb
  obtain ⟨u0, u1, u2, u3, u4, u5⟩ := cells6 yb
  have m1 : ¬ w0b.heap.size = w.heap.size := by have := HR0.out.2.2.2.2.1.size; have := Blk_lt HR0.out.2.1; omega
  have m2 : ¬ w.heap.size = w0b.heap.size := by have := Blk_lt HR0.out.2.1; omega
  have m3 : ¬ w0b.heap.size = w.heap.size + 1 := by have := Blk_lt HR0.out.2.1; omega
  have m4 : ¬ w.heap.size + 1 = w0b.heap.size := by have := Blk_lt HR0.out.2.1; omega
  have m5 : ¬ w0b.heap.size = b6 := by have := Blk_lt HR0.out.2.2.1; omega
  have m6 : ¬ b6 = w0b.heap.size := by have := Blk_lt HR0.out.2.2.1; omega
  clear yb
  generalize w0b.heap.size = y1 at *
  obtain ⟨q0, q1, q2, q3⟩ := cells4 HQ1.out.1
  obtain ⟨f0, f1, f2, f3⟩ := free4 HQ1.out.1
  obtain ⟨s0, s1⟩ := cells2 HQ1.out.2.1
  obtain ⟨g0, g1⟩ := freeP HQ1.out.2.1
  obtain ⟨j0, j1, j2, j3⟩ := cells4 HQ1.out.2.2.1
  obtain ⟨e0, e1, e2, e3⟩ := free4 HQ1.out.2.2.1
  go_upto_region 11 with fail
  go_region_held3 (fun w' => w'.cell? ⟨y1, 3, none⟩ = some (.int .i64 y.start)) (go_keep) (fail)
  rename_i hheld
  clear hheld
  go_wp2
  clear q0 q1 q2 q3 f0 f1 f2 f3 s0 s1 g0 g1 j0 j1 j2 j3 e0 e1 e2 e3 u0 u1 u2 u3 u4 u5 m1 m2 m3 m4 m5 m6
  have bel := HQ1.out.2.2.2.2.1
  have tc := cells4 (far2 (c := w.heap.size + 1) (set4 (.bool false) (.int .i64 (0)) (.bool false) (.int .i64 (0)) HQ1.out.1) (by omega) (.int .i64 (6)) (.int .i64 (y.start)))
  have td := cells2 (set2 (.int .i64 (6)) (.int .i64 (y.start)) (far4 (c := w.heap.size) HQ1.out.2.1 (by omega) (.bool false) (.int .i64 (0)) (.bool false) (.int .i64 (0))))
  refine bodyPost_ret (v := spR false (0) false (0) (6) (y.start)) (by simp [results, Try.results65, go_sem, *]) rfl ?_
  exact ⟨rfl, (by repeat' (first | (with_reducible exact Below.refl _ _) | (with_reducible assumption) | (with_reducible refine below_drewN ?_ _) | (with_reducible refine Below.drew ?_) | (with_reducible refine Below.alloc ?_ ?_ _) | (with_reducible refine Below.setCell ?_ ?_ _) | go_size))⟩

set_option maxRecDepth 100000 in
set_option maxHeartbeats 3000000 in
theorem sp_two {A : Option Addr} {n c B : Nat} {l : List UInt8} {els : List El} {r1 r2 : Int} (w : World) (hr : Rd w B A n l) (hB : B ≤ w.heap.size) (hc : n ≤ c) (hm : c ≤ maxLen) (hn : n ≤ 1000000)
    (hpv : partsV l 0 16 = (els, r1, r2)) {x y : El} {xs : List El} {v0 v1 v2 : Int} {ok0 ok1 ok2 : Bool} {m : Nat} (hz : r1 = 0) (hz2 : r2 = 0) (he : els = x :: y :: xs) (hmm : els.length = m) (h0 : ∀ X : World, Below w.heap.size w X → Calls Try.prog 110 #[.slice A n c, elT x, .int .i64 2, .int .i64 x.num, toCnt] X fun e X' => e = .returned (.tuple #[.int .i64 v0, .bool ok0]) ∧ Below X.heap.size X X') (h1 : ∀ X : World, Below w.heap.size w X → Calls Try.prog 110 #[.slice A n c, elT y, .int .i64 2, .int .i64 y.num, toCnt] X fun e X' => e = .returned (.tuple #[.int .i64 v1, .bool ok1]) ∧ Below X.heap.size X X') (hk0 : ok0 = true) (hn0 : x.num = 0) (hk1 : ok1 = true) (hn1 : y.num = 1) (hlm : ¬ 2 < m) :
    Calls Try.prog 65 #[.slice A n c] w fun e w' => e = .returned (spR true v0 true v1 0 0) ∧ Below w.heap.size w w' := by
  have PA := Lib.hid (fun (X : World) (h : Below w.heap.size w X) => parts_any (c := c) 0 16 X (hr.below (h.mono hB)) (Nat.le_trans hB h.size) hc hm hn)
  rw [hpv] at PA
  subst hz hz2
  have HM := Lib.hid hmm
  have HE := Lib.hid he
  have HL := Lib.hid (show (x :: y :: xs : List El).length = m from by rw [← he]; exact hmm)
  have HN0 := Lib.hid hn0
  clear hn0
  have H0 := Lib.hid h0
  clear h0
  have HN1 := Lib.hid hn1
  clear hn1
  have H1 := Lib.hid h1
  clear h1
  have hm0 : 0 < m := by have := HL.out; simp only [List.length_cons] at this; omega
  have hmk : 2 ≤ m := by have := HL.out; simp only [List.length_cons] at this; omega
  clear hmm he
  clear hr hpv
  go_enter Try.func65, Try.ntmps65
  go_wp2_with fail
  go_must (go_fit (PA.out _ (((Below.refl _ _).alloc (Nat.le_refl _) _).alloc (by simp) _)))
  rintro e w1 ⟨A1, cc, rfl, o1, hb1⟩
  obtain ⟨t2, t3, bel⟩ := box2 hb1
  have zs := hb1.size
  simp only [World.size_alloc] at zs
  unfold OwnE at o1
  simp only [HM.out] at o1 ⊢
  obtain ⟨g, cap, hv⟩ := Joins.ownsRow_form o1 hm0
  injection hv with hP
  subst hP
  have hgl := World.ownsRow.lt o1 g rfl
  simp only [World.size_alloc] at hgl
  obtain ⟨hg1, hg2⟩ := hgl
  go_upto_region 6 with fail
  refine wp_only (KB w (w1.heap.size + 1) g m cc els #[.bool false, .int .i64 0, .bool false, .int .i64 0]) ?_ ?_
  · exact ⟨bk_old (bk_old t2), bk_old (bk_old t3), bk_new (by simp), ((owns_mono (base' := w.heap.size + 2) o1 (by simp)).alloc _).alloc _, (by repeat' (first | (with_reducible exact Below.refl _ _) | (with_reducible assumption) | (with_reducible refine below_drewN ?_ _) | (with_reducible refine Below.drew ?_) | (with_reducible refine Below.alloc ?_ ?_ _) | (with_reducible refine Below.setCell ?_ ?_ _) | go_size)), by omega, by omega, by omega⟩
  intro w2 hp
  clear o1 hb1 PA t2 t3 bel zs hg1 hg2
  generalize hg6 : w1.heap.size + 1 = b6 at *
  generalize w1.heap.size = b5 at *
  clear hg6 w1
  have n1 : ¬ b6 = w.heap.size := by have := hp.2.2.2.2.2; omega
  have n2 : ¬ w.heap.size = b6 := by have := hp.2.2.2.2.2; omega
  have n3 : ¬ b6 = w.heap.size + 1 := by have := hp.2.2.2.2.2; omega
  have n4 : ¬ w.heap.size + 1 = b6 := by have := hp.2.2.2.2.2; omega
  have HP2 := Lib.hid hp
  clear hp
  rw [HE.out] at HP2
  go_wp2_with fail
  refine wp_loop_rounds 3 ?_
  subst hk0 hk1
  rw [rounds_succ]
  obtain ⟨u0, u1, u2, u3, u4, u5⟩ := row0 HP2.out.2.2.2.1 HL.out
  go_upto_region 9 with fail
  clear u0 u1 u2 u3 u4 u5
  go_wp2_with fail
  go_must (go_fit (H0.out _ (HP2.out.2.2.2.2.1.alloc HP2.out.2.2.2.2.1.size (.cells #[.int .i64 x.cls, .int .i64 x.num, .bool x.cons, .int .i64 x.start, .int .i64 x.body, .int .i64 x.stop] 93))))
  rintro e w0a ⟨rfl, hb⟩
  have HQ0 := Lib.hid (KB.past (KB.alloc HP2.out (.cells #[.int .i64 x.cls, .int .i64 x.num, .bool x.cons, .int .i64 x.start, .int .i64 x.body, .int .i64 x.stop] 93)) hb)
  have yb := blk1 hb
  clear hb
  obtain ⟨u0, u1, u2, u3, u4, u5⟩ := cells6 yb
  have m1 : ¬ w2.heap.size = w.heap.size := by have := HP2.out.2.2.2.2.1.size; have := Blk_lt HP2.out.2.1; omega
  have m2 : ¬ w.heap.size = w2.heap.size := by have := Blk_lt HP2.out.2.1; omega
  have m3 : ¬ w2.heap.size = w.heap.size + 1 := by have := Blk_lt HP2.out.2.1; omega
  have m4 : ¬ w.heap.size + 1 = w2.heap.size := by have := Blk_lt HP2.out.2.1; omega
  have m5 : ¬ w2.heap.size = b6 := by have := Blk_lt HP2.out.2.2.1; omega
  have m6 : ¬ b6 = w2.heap.size := by have := Blk_lt HP2.out.2.2.1; omega
  clear yb
  generalize w2.heap.size = y0 at *
  obtain ⟨q0, q1, q2, q3⟩ := cells4 HQ0.out.1
  obtain ⟨f0, f1, f2, f3⟩ := free4 HQ0.out.1
  obtain ⟨s0, s1⟩ := cells2 HQ0.out.2.1
  obtain ⟨g0, g1⟩ := freeP HQ0.out.2.1
  obtain ⟨j0, j1, j2, j3⟩ := cells4 HQ0.out.2.2.1
  obtain ⟨e0, e1, e2, e3⟩ := free4 HQ0.out.2.2.1
  have hn0 := HN0.out
  go_upto_region 16 with fail
  refine wp_only _ (KB.req HQ0.out (.bool true) (.int .i64 v0)) ?_
  intro w0b hp
  have HR0 := Lib.hid hp
  clear hp q0 q1 q2 q3 f0 f1 f2 f3 s0 s1 g0 g1 j0 j1 j2 j3 e0 e1 e2 e3 u0 u1 u2 u3 u4 u5 m1 m2 m3 m4 m5 m6 HQ0
  go_wp2_with fail
  rw [rounds_succ]
  obtain ⟨u0, u1, u2, u3, u4, u5⟩ := row1 HR0.out.2.2.2.1 HL.out
  go_upto_region 9 with fail
  clear u0 u1 u2 u3 u4 u5
  go_wp2_with fail
  go_must (go_fit (H1.out _ (HR0.out.2.2.2.2.1.alloc HR0.out.2.2.2.2.1.size (.cells #[.int .i64 y.cls, .int .i64 y.num, .bool y.cons, .int .i64 y.start, .int .i64 y.body, .int .i64 y.stop] 93))))
  rintro e w1a ⟨rfl, hb⟩
  have HQ1 := Lib.hid (KB.past (KB.alloc HR0.out (.cells #[.int .i64 y.cls, .int .i64 y.num, .bool y.cons, .int .i64 y.start, .int .i64 y.body, .int .i64 y.stop] 93)) hb)
  have yb := blk1 hb
  clear hb
  obtain ⟨u0, u1, u2, u3, u4, u5⟩ := cells6 yb
  have m1 : ¬ w0b.heap.size = w.heap.size := by have := HR0.out.2.2.2.2.1.size; have := Blk_lt HR0.out.2.1; omega
  have m2 : ¬ w.heap.size = w0b.heap.size := by have := Blk_lt HR0.out.2.1; omega
  have m3 : ¬ w0b.heap.size = w.heap.size + 1 := by have := Blk_lt HR0.out.2.1; omega
  have m4 : ¬ w.heap.size + 1 = w0b.heap.size := by have := Blk_lt HR0.out.2.1; omega
  have m5 : ¬ w0b.heap.size = b6 := by have := Blk_lt HR0.out.2.2.1; omega
  have m6 : ¬ b6 = w0b.heap.size := by have := Blk_lt HR0.out.2.2.1; omega
  clear yb
  generalize w0b.heap.size = y1 at *
  obtain ⟨q0, q1, q2, q3⟩ := cells4 HQ1.out.1
  obtain ⟨f0, f1, f2, f3⟩ := free4 HQ1.out.1
  obtain ⟨s0, s1⟩ := cells2 HQ1.out.2.1
  obtain ⟨g0, g1⟩ := freeP HQ1.out.2.1
  obtain ⟨j0, j1, j2, j3⟩ := cells4 HQ1.out.2.2.1
  obtain ⟨e0, e1, e2, e3⟩ := free4 HQ1.out.2.2.1
  have hn1 := HN1.out
  go_upto_region 16 with fail
  refine wp_only _ (KB.inh HQ1.out (.bool true) (.int .i64 v1)) ?_
  intro w1b hp
  have HR1 := Lib.hid hp
  clear hp q0 q1 q2 q3 f0 f1 f2 f3 s0 s1 g0 g1 j0 j1 j2 j3 e0 e1 e2 e3 u0 u1 u2 u3 u4 u5 m1 m2 m3 m4 m5 m6 HQ1
  go_wp2_with fail
  rw [rounds_succ]
  obtain ⟨q0, q1, q2, q3⟩ := cells4 HR1.out.1
  obtain ⟨f0, f1, f2, f3⟩ := free4 HR1.out.1
  obtain ⟨s0, s1⟩ := cells2 HR1.out.2.1
  obtain ⟨g0, g1⟩ := freeP HR1.out.2.1
  obtain ⟨j0, j1, j2, j3⟩ := cells4 HR1.out.2.2.1
  obtain ⟨e0, e1, e2, e3⟩ := free4 HR1.out.2.2.1
  go_wp2
  clear q0 q1 q2 q3 f0 f1 f2 f3 s0 s1 g0 g1 j0 j1 j2 j3 e0 e1 e2 e3
  have bel := HR1.out.2.2.2.2.1
  have tc := cells4 (far2 (c := w.heap.size + 1) (set4 (.bool true) (.int .i64 (v0)) (.bool true) (.int .i64 (v1)) HR1.out.1) (by omega) (.int .i64 (0)) (.int .i64 (0)))
  have td := cells2 (set2 (.int .i64 (0)) (.int .i64 (0)) (far4 (c := w.heap.size) HR1.out.2.1 (by omega) (.bool true) (.int .i64 (v0)) (.bool true) (.int .i64 (v1))))
  refine bodyPost_ret (v := spR true (v0) true (v1) (0) (0)) (by simp [results, Try.results65, go_sem, *]) rfl ?_
  exact ⟨rfl, (by repeat' (first | (with_reducible exact Below.refl _ _) | (with_reducible assumption) | (with_reducible refine below_drewN ?_ _) | (with_reducible refine Below.drew ?_) | (with_reducible refine Below.alloc ?_ ?_ _) | (with_reducible refine Below.setCell ?_ ?_ _) | go_size))⟩

set_option maxRecDepth 100000 in
set_option maxHeartbeats 3000000 in
theorem sp_bad2a {A : Option Addr} {n c B : Nat} {l : List UInt8} {els : List El} {r1 r2 : Int} (w : World) (hr : Rd w B A n l) (hB : B ≤ w.heap.size) (hc : n ≤ c) (hm : c ≤ maxLen) (hn : n ≤ 1000000)
    (hpv : partsV l 0 16 = (els, r1, r2)) {x y z : El} {xs : List El} {v0 v1 v2 : Int} {ok0 ok1 ok2 : Bool} {m : Nat} (hz : r1 = 0) (hz2 : r2 = 0) (he : els = x :: y :: z :: xs) (hmm : els.length = m) (h0 : ∀ X : World, Below w.heap.size w X → Calls Try.prog 110 #[.slice A n c, elT x, .int .i64 2, .int .i64 x.num, toCnt] X fun e X' => e = .returned (.tuple #[.int .i64 v0, .bool ok0]) ∧ Below X.heap.size X X') (h1 : ∀ X : World, Below w.heap.size w X → Calls Try.prog 110 #[.slice A n c, elT y, .int .i64 2, .int .i64 y.num, toCnt] X fun e X' => e = .returned (.tuple #[.int .i64 v1, .bool ok1]) ∧ Below X.heap.size X X') (h2 : ∀ X : World, Below w.heap.size w X → Calls Try.prog 110 #[.slice A n c, elT z, .int .i64 2, .int .i64 z.num, toCnt] X fun e X' => e = .returned (.tuple #[.int .i64 v2, .bool ok2]) ∧ Below X.heap.size X X') (hk0 : ok0 = true) (hn0 : x.num = 0) (hk1 : ok1 = true) (hn1 : y.num = 1) (hk : ok2 = false) :
    Calls Try.prog 65 #[.slice A n c] w fun e w' => e = .returned (spR false 0 false 0 6 z.start) ∧ Below w.heap.size w w' := by
  have PA := Lib.hid (fun (X : World) (h : Below w.heap.size w X) => parts_any (c := c) 0 16 X (hr.below (h.mono hB)) (Nat.le_trans hB h.size) hc hm hn)
  rw [hpv] at PA
  subst hz hz2
  have HM := Lib.hid hmm
  have HE := Lib.hid he
  have HL := Lib.hid (show (x :: y :: z :: xs : List El).length = m from by rw [← he]; exact hmm)
  have HN0 := Lib.hid hn0
  clear hn0
  have H0 := Lib.hid h0
  clear h0
  have HN1 := Lib.hid hn1
  clear hn1
  have H1 := Lib.hid h1
  clear h1
  have H2 := Lib.hid h2
  clear h2
  have hm0 : 0 < m := by have := HL.out; simp only [List.length_cons] at this; omega
  have hmk : 3 ≤ m := by have := HL.out; simp only [List.length_cons] at this; omega
  clear hmm he
  clear hr hpv
  go_enter Try.func65, Try.ntmps65
  go_wp2_with fail
  go_must (go_fit (PA.out _ (((Below.refl _ _).alloc (Nat.le_refl _) _).alloc (by simp) _)))
  rintro e w1 ⟨A1, cc, rfl, o1, hb1⟩
  obtain ⟨t2, t3, bel⟩ := box2 hb1
  have zs := hb1.size
  simp only [World.size_alloc] at zs
  unfold OwnE at o1
  simp only [HM.out] at o1 ⊢
  obtain ⟨g, cap, hv⟩ := Joins.ownsRow_form o1 hm0
  injection hv with hP
  subst hP
  have hgl := World.ownsRow.lt o1 g rfl
  simp only [World.size_alloc] at hgl
  obtain ⟨hg1, hg2⟩ := hgl
  go_upto_region 6 with fail
  refine wp_only (KB w (w1.heap.size + 1) g m cc els #[.bool false, .int .i64 0, .bool false, .int .i64 0]) ?_ ?_
  · exact ⟨bk_old (bk_old t2), bk_old (bk_old t3), bk_new (by simp), ((owns_mono (base' := w.heap.size + 2) o1 (by simp)).alloc _).alloc _, (by repeat' (first | (with_reducible exact Below.refl _ _) | (with_reducible assumption) | (with_reducible refine below_drewN ?_ _) | (with_reducible refine Below.drew ?_) | (with_reducible refine Below.alloc ?_ ?_ _) | (with_reducible refine Below.setCell ?_ ?_ _) | go_size)), by omega, by omega, by omega⟩
  intro w2 hp
  clear o1 hb1 PA t2 t3 bel zs hg1 hg2
  generalize hg6 : w1.heap.size + 1 = b6 at *
  generalize w1.heap.size = b5 at *
  clear hg6 w1
  have n1 : ¬ b6 = w.heap.size := by have := hp.2.2.2.2.2; omega
  have n2 : ¬ w.heap.size = b6 := by have := hp.2.2.2.2.2; omega
  have n3 : ¬ b6 = w.heap.size + 1 := by have := hp.2.2.2.2.2; omega
  have n4 : ¬ w.heap.size + 1 = b6 := by have := hp.2.2.2.2.2; omega
  have HP2 := Lib.hid hp
  clear hp
  rw [HE.out] at HP2
  go_wp2_with fail
  refine wp_loop_rounds 3 ?_
  subst hk0 hk1 hk
  rw [rounds_succ]
  obtain ⟨u0, u1, u2, u3, u4, u5⟩ := row0 HP2.out.2.2.2.1 HL.out
  go_upto_region 9 with fail
  clear u0 u1 u2 u3 u4 u5
  go_wp2_with fail
  go_must (go_fit (H0.out _ (HP2.out.2.2.2.2.1.alloc HP2.out.2.2.2.2.1.size (.cells #[.int .i64 x.cls, .int .i64 x.num, .bool x.cons, .int .i64 x.start, .int .i64 x.body, .int .i64 x.stop] 93))))
  rintro e w0a ⟨rfl, hb⟩
  have HQ0 := Lib.hid (KB.past (KB.alloc HP2.out (.cells #[.int .i64 x.cls, .int .i64 x.num, .bool x.cons, .int .i64 x.start, .int .i64 x.body, .int .i64 x.stop] 93)) hb)
  have yb := blk1 hb
  clear hb
  obtain ⟨u0, u1, u2, u3, u4, u5⟩ := cells6 yb
  have m1 : ¬ w2.heap.size = w.heap.size := by have := HP2.out.2.2.2.2.1.size; have := Blk_lt HP2.out.2.1; omega
  have m2 : ¬ w.heap.size = w2.heap.size := by have := Blk_lt HP2.out.2.1; omega
  have m3 : ¬ w2.heap.size = w.heap.size + 1 := by have := Blk_lt HP2.out.2.1; omega
  have m4 : ¬ w.heap.size + 1 = w2.heap.size := by have := Blk_lt HP2.out.2.1; omega
  have m5 : ¬ w2.heap.size = b6 := by have := Blk_lt HP2.out.2.2.1; omega
  have m6 : ¬ b6 = w2.heap.size := by have := Blk_lt HP2.out.2.2.1; omega
  clear yb
  generalize w2.heap.size = y0 at *
  obtain ⟨q0, q1, q2, q3⟩ := cells4 HQ0.out.1
  obtain ⟨f0, f1, f2, f3⟩ := free4 HQ0.out.1
  obtain ⟨s0, s1⟩ := cells2 HQ0.out.2.1
  obtain ⟨g0, g1⟩ := freeP HQ0.out.2.1
  obtain ⟨j0, j1, j2, j3⟩ := cells4 HQ0.out.2.2.1
  obtain ⟨e0, e1, e2, e3⟩ := free4 HQ0.out.2.2.1
  have hn0 := HN0.out
  go_upto_region 16 with fail
  refine wp_only _ (KB.req HQ0.out (.bool true) (.int .i64 v0)) ?_
  intro w0b hp
  have HR0 := Lib.hid hp
  clear hp q0 q1 q2 q3 f0 f1 f2 f3 s0 s1 g0 g1 j0 j1 j2 j3 e0 e1 e2 e3 u0 u1 u2 u3 u4 u5 m1 m2 m3 m4 m5 m6 HQ0
  go_wp2_with fail
  rw [rounds_succ]
  obtain ⟨u0, u1, u2, u3, u4, u5⟩ := row1 HR0.out.2.2.2.1 HL.out
  go_upto_region 9 with fail
  clear u0 u1 u2 u3 u4 u5
  go_wp2_with fail
  go_must (go_fit (H1.out _ (HR0.out.2.2.2.2.1.alloc HR0.out.2.2.2.2.1.size (.cells #[.int .i64 y.cls, .int .i64 y.num, .bool y.cons, .int .i64 y.start, .int .i64 y.body, .int .i64 y.stop] 93))))
  rintro e w1a ⟨rfl, hb⟩
  have HQ1 := Lib.hid (KB.past (KB.alloc HR0.out (.cells #[.int .i64 y.cls, .int .i64 y.num, .bool y.cons, .int .i64 y.start, .int .i64 y.body, .int .i64 y.stop] 93)) hb)
  have yb := blk1 hb
  clear hb
  obtain ⟨u0, u1, u2, u3, u4, u5⟩ := cells6 yb
  have m1 : ¬ w0b.heap.size = w.heap.size := by have := HR0.out.2.2.2.2.1.size; have := Blk_lt HR0.out.2.1; omega
  have m2 : ¬ w.heap.size = w0b.heap.size := by have := Blk_lt HR0.out.2.1; omega
  have m3 : ¬ w0b.heap.size = w.heap.size + 1 := by have := Blk_lt HR0.out.2.1; omega
  have m4 : ¬ w.heap.size + 1 = w0b.heap.size := by have := Blk_lt HR0.out.2.1; omega
  have m5 : ¬ w0b.heap.size = b6 := by have := Blk_lt HR0.out.2.2.1; omega
  have m6 : ¬ b6 = w0b.heap.size := by have := Blk_lt HR0.out.2.2.1; omega
  clear yb
  generalize w0b.heap.size = y1 at *
  obtain ⟨q0, q1, q2, q3⟩ := cells4 HQ1.out.1
  obtain ⟨f0, f1, f2, f3⟩ := free4 HQ1.out.1
  obtain ⟨s0, s1⟩ := cells2 HQ1.out.2.1
  obtain ⟨g0, g1⟩ := freeP HQ1.out.2.1
  obtain ⟨j0, j1, j2, j3⟩ := cells4 HQ1.out.2.2.1
  obtain ⟨e0, e1, e2, e3⟩ := free4 HQ1.out.2.2.1
  have hn1 := HN1.out
  go_upto_region 16 with fail
  refine wp_only _ (KB.inh HQ1.out (.bool true) (.int .i64 v1)) ?_
  intro w1b hp
  have HR1 := Lib.hid hp
  clear hp q0 q1 q2 q3 f0 f1 f2 f3 s0 s1 g0 g1 j0 j1 j2 j3 e0 e1 e2 e3 u0 u1 u2 u3 u4 u5 m1 m2 m3 m4 m5 m6 HQ1
  go_wp2_with fail
  rw [rounds_succ]
  obtain ⟨u0, u1, u2, u3, u4, u5⟩ := rowz HR1.out.2.2.2.1 HL.out
  go_upto_region 9 with fail
  clear u0 u1 u2 u3 u4 u5
  go_wp2_with fail
  go_must (go_fit (H2.out _ (HR1.out.2.2.2.2.1.alloc HR1.out.2.2.2.2.1.size (.cells #[.int .i64 z.cls, .int .i64 z.num, .bool z.cons, .int .i64 z.start, .int .i64 z.body, .int .i64 z.stop] 93))))
  rintro e w2a ⟨rfl, hb⟩
  have HQ2 := Lib.hid (KB.past (KB.alloc HR1.out (.cells #[.int .i64 z.cls, .int .i64 z.num, .bool z.cons, .int .i64 z.start, .int .i64 z.body, .int .i64 z.stop] 93)) hb)
  have yb := blk1 hb
  clear hb
  obtain ⟨u0, u1, u2, u3, u4, u5⟩ := cells6 yb
  have m1 : ¬ w1b.heap.size = w.heap.size := by have := HR1.out.2.2.2.2.1.size; have := Blk_lt HR1.out.2.1; omega
  have m2 : ¬ w.heap.size = w1b.heap.size := by have := Blk_lt HR1.out.2.1; omega
  have m3 : ¬ w1b.heap.size = w.heap.size + 1 := by have := Blk_lt HR1.out.2.1; omega
  have m4 : ¬ w.heap.size + 1 = w1b.heap.size := by have := Blk_lt HR1.out.2.1; omega
  have m5 : ¬ w1b.heap.size = b6 := by have := Blk_lt HR1.out.2.2.1; omega
  have m6 : ¬ b6 = w1b.heap.size := by have := Blk_lt HR1.out.2.2.1; omega
  clear yb
  generalize w1b.heap.size = y2 at *
  obtain ⟨q0, q1, q2, q3⟩ := cells4 HQ2.out.1
  obtain ⟨f0, f1, f2, f3⟩ := free4 HQ2.out.1
  obtain ⟨s0, s1⟩ := cells2 HQ2.out.2.1
  obtain ⟨g0, g1⟩ := freeP HQ2.out.2.1
  obtain ⟨j0, j1, j2, j3⟩ := cells4 HQ2.out.2.2.1
  obtain ⟨e0, e1, e2, e3⟩ := free4 HQ2.out.2.2.1
  go_upto_region 11 with fail
  go_region_held3 (fun w' => w'.cell? ⟨y2, 3, none⟩ = some (.int .i64 z.start)) (go_keep) (fail)
  rename_i hheld
  clear hheld
  go_wp2
  clear q0 q1 q2 q3 f0 f1 f2 f3 s0 s1 g0 g1 j0 j1 j2 j3 e0 e1 e2 e3 u0 u1 u2 u3 u4 u5 m1 m2 m3 m4 m5 m6
  have bel := HQ2.out.2.2.2.2.1
  have tc := cells4 (far2 (c := w.heap.size + 1) (set4 (.bool false) (.int .i64 (0)) (.bool false) (.int .i64 (0)) HQ2.out.1) (by omega) (.int .i64 (6)) (.int .i64 (z.start)))
  have td := cells2 (set2 (.int .i64 (6)) (.int .i64 (z.start)) (far4 (c := w.heap.size) HQ2.out.2.1 (by omega) (.bool false) (.int .i64 (0)) (.bool false) (.int .i64 (0))))
  refine bodyPost_ret (v := spR false (0) false (0) (6) (z.start)) (by simp [results, Try.results65, go_sem, *]) rfl ?_
  exact ⟨rfl, (by repeat' (first | (with_reducible exact Below.refl _ _) | (with_reducible assumption) | (with_reducible refine below_drewN ?_ _) | (with_reducible refine Below.drew ?_) | (with_reducible refine Below.alloc ?_ ?_ _) | (with_reducible refine Below.setCell ?_ ?_ _) | go_size))⟩

set_option maxRecDepth 100000 in
set_option maxHeartbeats 3000000 in
theorem sp_bad2b {A : Option Addr} {n c B : Nat} {l : List UInt8} {els : List El} {r1 r2 : Int} (w : World) (hr : Rd w B A n l) (hB : B ≤ w.heap.size) (hc : n ≤ c) (hm : c ≤ maxLen) (hn : n ≤ 1000000)
    (hpv : partsV l 0 16 = (els, r1, r2)) {x y z : El} {xs : List El} {v0 v1 v2 : Int} {ok0 ok1 ok2 : Bool} {m : Nat} (hz : r1 = 0) (hz2 : r2 = 0) (he : els = x :: y :: z :: xs) (hmm : els.length = m) (h0 : ∀ X : World, Below w.heap.size w X → Calls Try.prog 110 #[.slice A n c, elT x, .int .i64 2, .int .i64 x.num, toCnt] X fun e X' => e = .returned (.tuple #[.int .i64 v0, .bool ok0]) ∧ Below X.heap.size X X') (h1 : ∀ X : World, Below w.heap.size w X → Calls Try.prog 110 #[.slice A n c, elT y, .int .i64 2, .int .i64 y.num, toCnt] X fun e X' => e = .returned (.tuple #[.int .i64 v1, .bool ok1]) ∧ Below X.heap.size X X') (h2 : ∀ X : World, Below w.heap.size w X → Calls Try.prog 110 #[.slice A n c, elT z, .int .i64 2, .int .i64 z.num, toCnt] X fun e X' => e = .returned (.tuple #[.int .i64 v2, .bool ok2]) ∧ Below X.heap.size X X') (hk0 : ok0 = true) (hn0 : x.num = 0) (hk1 : ok1 = true) (hn1 : y.num = 1) (hk : ok2 = true) (hkk : 1 < z.num) :
    Calls Try.prog 65 #[.slice A n c] w fun e w' => e = .returned (spR false 0 false 0 6 z.start) ∧ Below w.heap.size w w' := by
  have PA := Lib.hid (fun (X : World) (h : Below w.heap.size w X) => parts_any (c := c) 0 16 X (hr.below (h.mono hB)) (Nat.le_trans hB h.size) hc hm hn)
  rw [hpv] at PA
  subst hz hz2
  have HM := Lib.hid hmm
  have HE := Lib.hid he
  have HL := Lib.hid (show (x :: y :: z :: xs : List El).length = m from by rw [← he]; exact hmm)
  have HN0 := Lib.hid hn0
  clear hn0
  have H0 := Lib.hid h0
  clear h0
  have HN1 := Lib.hid hn1
  clear hn1
  have H1 := Lib.hid h1
  clear h1
  have H2 := Lib.hid h2
  clear h2
  have hm0 : 0 < m := by have := HL.out; simp only [List.length_cons] at this; omega
  have hmk : 3 ≤ m := by have := HL.out; simp only [List.length_cons] at this; omega
  clear hmm he
  clear hr hpv
  go_enter Try.func65, Try.ntmps65
  go_wp2_with fail
  go_must (go_fit (PA.out _ (((Below.refl _ _).alloc (Nat.le_refl _) _).alloc (by simp) _)))
  rintro e w1 ⟨A1, cc, rfl, o1, hb1⟩
  obtain ⟨t2, t3, bel⟩ := box2 hb1
  have zs := hb1.size
  simp only [World.size_alloc] at zs
  unfold OwnE at o1
  simp only [HM.out] at o1 ⊢
  obtain ⟨g, cap, hv⟩ := Joins.ownsRow_form o1 hm0
  injection hv with hP
  subst hP
  have hgl := World.ownsRow.lt o1 g rfl
  simp only [World.size_alloc] at hgl
  obtain ⟨hg1, hg2⟩ := hgl
  go_upto_region 6 with fail
  refine wp_only (KB w (w1.heap.size + 1) g m cc els #[.bool false, .int .i64 0, .bool false, .int .i64 0]) ?_ ?_
  · exact ⟨bk_old (bk_old t2), bk_old (bk_old t3), bk_new (by simp), ((owns_mono (base' := w.heap.size + 2) o1 (by simp)).alloc _).alloc _, (by repeat' (first | (with_reducible exact Below.refl _ _) | (with_reducible assumption) | (with_reducible refine below_drewN ?_ _) | (with_reducible refine Below.drew ?_) | (with_reducible refine Below.alloc ?_ ?_ _) | (with_reducible refine Below.setCell ?_ ?_ _) | go_size)), by omega, by omega, by omega⟩
  intro w2 hp
  clear o1 hb1 PA t2 t3 bel zs hg1 hg2
  generalize hg6 : w1.heap.size + 1 = b6 at *
  generalize w1.heap.size = b5 at *
  clear hg6 w1
  have n1 : ¬ b6 = w.heap.size := by have := hp.2.2.2.2.2; omega
  have n2 : ¬ w.heap.size = b6 := by have := hp.2.2.2.2.2; omega
  have n3 : ¬ b6 = w.heap.size + 1 := by have := hp.2.2.2.2.2; omega
  have n4 : ¬ w.heap.size + 1 = b6 := by have := hp.2.2.2.2.2; omega
  have HP2 := Lib.hid hp
  clear hp
  rw [HE.out] at HP2
  go_wp2_with fail
  refine wp_loop_rounds 3 ?_
  subst hk0 hk1 hk
  rw [rounds_succ]
  obtain ⟨u0, u1, u2, u3, u4, u5⟩ := row0 HP2.out.2.2.2.1 HL.out
  go_upto_region 9 with fail
  clear u0 u1 u2 u3 u4 u5
  go_wp2_with fail
  go_must (go_fit (H0.out _ (HP2.out.2.2.2.2.1.alloc HP2.out.2.2.2.2.1.size (.cells #[.int .i64 x.cls, .int .i64 x.num, .bool x.cons, .int .i64 x.start, .int .i64 x.body, .int .i64 x.stop] 93))))
  rintro e w0a ⟨rfl, hb⟩
  have HQ0 := Lib.hid (KB.past (KB.alloc HP2.out (.cells #[.int .i64 x.cls, .int .i64 x.num, .bool x.cons, .int .i64 x.start, .int .i64 x.body, .int .i64 x.stop] 93)) hb)
  have yb := blk1 hb
  clear hb
  obtain ⟨u0, u1, u2, u3, u4, u5⟩ := cells6 yb
  have m1 : ¬ w2.heap.size = w.heap.size := by have := HP2.out.2.2.2.2.1.size; have := Blk_lt HP2.out.2.1; omega
  have m2 : ¬ w.heap.size = w2.heap.size := by have := Blk_lt HP2.out.2.1; omega
  have m3 : ¬ w2.heap.size = w.heap.size + 1 := by have := Blk_lt HP2.out.2.1; omega
  have m4 : ¬ w.heap.size + 1 = w2.heap.size := by have := Blk_lt HP2.out.2.1; omega
  have m5 : ¬ w2.heap.size = b6 := by have := Blk_lt HP2.out.2.2.1; omega
  have m6 : ¬ b6 = w2.heap.size := by have := Blk_lt HP2.out.2.2.1; omega
  clear yb
  generalize w2.heap.size = y0 at *
  obtain ⟨q0, q1, q2, q3⟩ := cells4 HQ0.out.1
  obtain ⟨f0, f1, f2, f3⟩ := free4 HQ0.out.1
  obtain ⟨s0, s1⟩ := cells2 HQ0.out.2.1
  obtain ⟨g0, g1⟩ := freeP HQ0.out.2.1
  obtain ⟨j0, j1, j2, j3⟩ := cells4 HQ0.out.2.2.1
  obtain ⟨e0, e1, e2, e3⟩ := free4 HQ0.out.2.2.1
  have hn0 := HN0.out
  go_upto_region 16 with fail
  refine wp_only _ (KB.req HQ0.out (.bool true) (.int .i64 v0)) ?_
  intro w0b hp
  have HR0 := Lib.hid hp
  clear hp q0 q1 q2 q3 f0 f1 f2 f3 s0 s1 g0 g1 j0 j1 j2 j3 e0 e1 e2 e3 u0 u1 u2 u3 u4 u5 m1 m2 m3 m4 m5 m6 HQ0
  go_wp2_with fail
  rw [rounds_succ]
  obtain ⟨u0, u1, u2, u3, u4, u5⟩ := row1 HR0.out.2.2.2.1 HL.out
  go_upto_region 9 with fail
  clear u0 u1 u2 u3 u4 u5
  go_wp2_with fail
  go_must (go_fit (H1.out _ (HR0.out.2.2.2.2.1.alloc HR0.out.2.2.2.2.1.size (.cells #[.int .i64 y.cls, .int .i64 y.num, .bool y.cons, .int .i64 y.start, .int .i64 y.body, .int .i64 y.stop] 93))))
  rintro e w1a ⟨rfl, hb⟩
  have HQ1 := Lib.hid (KB.past (KB.alloc HR0.out (.cells #[.int .i64 y.cls, .int .i64 y.num, .bool y.cons, .int .i64 y.start, .int .i64 y.body, .int .i64 y.stop] 93)) hb)
  have yb := blk1 hb
  clear hb
  obtain ⟨u0, u1, u2, u3, u4, u5⟩ := cells6 yb
  have m1 : ¬ w0b.heap.size = w.heap.size := by have := HR0.out.2.2.2.2.1.size; have := Blk_lt HR0.out.2.1; omega
  have m2 : ¬ w.heap.size = w0b.heap.size := by have := Blk_lt HR0.out.2.1; omega
  have m3 : ¬ w0b.heap.size = w.heap.size + 1 := by have := Blk_lt HR0.out.2.1; omega
  have m4 : ¬ w.heap.size + 1 = w0b.heap.size := by have := Blk_lt HR0.out.2.1; omega
  have m5 : ¬ w0b.heap.size = b6 := by have := Blk_lt HR0.out.2.2.1; omega
  have m6 : ¬ b6 = w0b.heap.size := by have := Blk_lt HR0.out.2.2.1; omega
  clear yb
  generalize w0b.heap.size = y1 at *
  obtain ⟨q0, q1, q2, q3⟩ := cells4 HQ1.out.1
  obtain ⟨f0, f1, f2, f3⟩ := free4 HQ1.out.1
  obtain ⟨s0, s1⟩ := cells2 HQ1.out.2.1
  obtain ⟨g0, g1⟩ := freeP HQ1.out.2.1
  obtain ⟨j0, j1, j2, j3⟩ := cells4 HQ1.out.2.2.1
  obtain ⟨e0, e1, e2, e3⟩ := free4 HQ1.out.2.2.1
  have hn1 := HN1.out
  go_upto_region 16 with fail
  refine wp_only _ (KB.inh HQ1.out (.bool true) (.int .i64 v1)) ?_
  intro w1b hp
  have HR1 := Lib.hid hp
  clear hp q0 q1 q2 q3 f0 f1 f2 f3 s0 s1 g0 g1 j0 j1 j2 j3 e0 e1 e2 e3 u0 u1 u2 u3 u4 u5 m1 m2 m3 m4 m5 m6 HQ1
  go_wp2_with fail
  rw [rounds_succ]
  obtain ⟨u0, u1, u2, u3, u4, u5⟩ := rowz HR1.out.2.2.2.1 HL.out
  go_upto_region 9 with fail
  clear u0 u1 u2 u3 u4 u5
  go_wp2_with fail
  go_must (go_fit (H2.out _ (HR1.out.2.2.2.2.1.alloc HR1.out.2.2.2.2.1.size (.cells #[.int .i64 z.cls, .int .i64 z.num, .bool z.cons, .int .i64 z.start, .int .i64 z.body, .int .i64 z.stop] 93))))
  rintro e w2a ⟨rfl, hb⟩
  have HQ2 := Lib.hid (KB.past (KB.alloc HR1.out (.cells #[.int .i64 z.cls, .int .i64 z.num, .bool z.cons, .int .i64 z.start, .int .i64 z.body, .int .i64 z.stop] 93)) hb)
  have yb := blk1 hb
  clear hb
  obtain ⟨u0, u1, u2, u3, u4, u5⟩ := cells6 yb
  have m1 : ¬ w1b.heap.size = w.heap.size := by have := HR1.out.2.2.2.2.1.size; have := Blk_lt HR1.out.2.1; omega
  have m2 : ¬ w.heap.size = w1b.heap.size := by have := Blk_lt HR1.out.2.1; omega
  have m3 : ¬ w1b.heap.size = w.heap.size + 1 := by have := Blk_lt HR1.out.2.1; omega
  have m4 : ¬ w.heap.size + 1 = w1b.heap.size := by have := Blk_lt HR1.out.2.1; omega
  have m5 : ¬ w1b.heap.size = b6 := by have := Blk_lt HR1.out.2.2.1; omega
  have m6 : ¬ b6 = w1b.heap.size := by have := Blk_lt HR1.out.2.2.1; omega
  clear yb
  generalize w1b.heap.size = y2 at *
  obtain ⟨q0, q1, q2, q3⟩ := cells4 HQ2.out.1
  obtain ⟨f0, f1, f2, f3⟩ := free4 HQ2.out.1
  obtain ⟨s0, s1⟩ := cells2 HQ2.out.2.1
  obtain ⟨g0, g1⟩ := freeP HQ2.out.2.1
  obtain ⟨j0, j1, j2, j3⟩ := cells4 HQ2.out.2.2.1
  obtain ⟨e0, e1, e2, e3⟩ := free4 HQ2.out.2.2.1
  go_upto_region 11 with fail
  go_region_held3 (fun w' => w'.cell? ⟨y2, 3, none⟩ = some (.int .i64 z.start)) (go_keep) (fail)
  rename_i hheld
  clear hheld
  go_wp2
  clear q0 q1 q2 q3 f0 f1 f2 f3 s0 s1 g0 g1 j0 j1 j2 j3 e0 e1 e2 e3 u0 u1 u2 u3 u4 u5 m1 m2 m3 m4 m5 m6
  have bel := HQ2.out.2.2.2.2.1
  have tc := cells4 (far2 (c := w.heap.size + 1) (set4 (.bool false) (.int .i64 (0)) (.bool false) (.int .i64 (0)) HQ2.out.1) (by omega) (.int .i64 (6)) (.int .i64 (z.start)))
  have td := cells2 (set2 (.int .i64 (6)) (.int .i64 (z.start)) (far4 (c := w.heap.size) HQ2.out.2.1 (by omega) (.bool false) (.int .i64 (0)) (.bool false) (.int .i64 (0))))
  refine bodyPost_ret (v := spR false (0) false (0) (6) (z.start)) (by simp [results, Try.results65, go_sem, *]) rfl ?_
  exact ⟨rfl, (by repeat' (first | (with_reducible exact Below.refl _ _) | (with_reducible assumption) | (with_reducible refine below_drewN ?_ _) | (with_reducible refine Below.drew ?_) | (with_reducible refine Below.alloc ?_ ?_ _) | (with_reducible refine Below.setCell ?_ ?_ _) | go_size))⟩

set_option maxRecDepth 100000 in
set_option maxHeartbeats 3000000 in
theorem sp_bad2c {A : Option Addr} {n c B : Nat} {l : List UInt8} {els : List El} {r1 r2 : Int} (w : World) (hr : Rd w B A n l) (hB : B ≤ w.heap.size) (hc : n ≤ c) (hm : c ≤ maxLen) (hn : n ≤ 1000000)
    (hpv : partsV l 0 16 = (els, r1, r2)) {x y z : El} {xs : List El} {v0 v1 v2 : Int} {ok0 ok1 ok2 : Bool} {m : Nat} (hz : r1 = 0) (hz2 : r2 = 0) (he : els = x :: y :: z :: xs) (hmm : els.length = m) (h0 : ∀ X : World, Below w.heap.size w X → Calls Try.prog 110 #[.slice A n c, elT x, .int .i64 2, .int .i64 x.num, toCnt] X fun e X' => e = .returned (.tuple #[.int .i64 v0, .bool ok0]) ∧ Below X.heap.size X X') (h1 : ∀ X : World, Below w.heap.size w X → Calls Try.prog 110 #[.slice A n c, elT y, .int .i64 2, .int .i64 y.num, toCnt] X fun e X' => e = .returned (.tuple #[.int .i64 v1, .bool ok1]) ∧ Below X.heap.size X X') (h2 : ∀ X : World, Below w.heap.size w X → Calls Try.prog 110 #[.slice A n c, elT z, .int .i64 2, .int .i64 z.num, toCnt] X fun e X' => e = .returned (.tuple #[.int .i64 v2, .bool ok2]) ∧ Below X.heap.size X X') (hk0 : ok0 = true) (hn0 : x.num = 0) (hk1 : ok1 = true) (hn1 : y.num = 1) (hk : ok2 = true) (hkk : ¬ 1 < z.num) (hkl : z.num ≤ 1) :
    Calls Try.prog 65 #[.slice A n c] w fun e w' => e = .returned (spR false 0 false 0 6 z.start) ∧ Below w.heap.size w w' := by
  have PA := Lib.hid (fun (X : World) (h : Below w.heap.size w X) => parts_any (c := c) 0 16 X (hr.below (h.mono hB)) (Nat.le_trans hB h.size) hc hm hn)
  rw [hpv] at PA
  subst hz hz2
  have HM := Lib.hid hmm
  have HE := Lib.hid he
  have HL := Lib.hid (show (x :: y :: z :: xs : List El).length = m from by rw [← he]; exact hmm)
  have HN0 := Lib.hid hn0
  clear hn0
  have H0 := Lib.hid h0
  clear h0
  have HN1 := Lib.hid hn1
  clear hn1
  have H1 := Lib.hid h1
  clear h1
  have H2 := Lib.hid h2
  clear h2
  have hm0 : 0 < m := by have := HL.out; simp only [List.length_cons] at this; omega
  have hmk : 3 ≤ m := by have := HL.out; simp only [List.length_cons] at this; omega
  clear hmm he
  clear hr hpv
  go_enter Try.func65, Try.ntmps65
  go_wp2_with fail
  go_must (go_fit (PA.out _ (((Below.refl _ _).alloc (Nat.le_refl _) _).alloc (by simp) _)))
  rintro e w1 ⟨A1, cc, rfl, o1, hb1⟩
  obtain ⟨t2, t3, bel⟩ := box2 hb1
  have zs := hb1.size
  simp only [World.size_alloc] at zs
  unfold OwnE at o1
  simp only [HM.out] at o1 ⊢
  obtain ⟨g, cap, hv⟩ := Joins.ownsRow_form o1 hm0
  injection hv with hP
  subst hP
  have hgl := World.ownsRow.lt o1 g rfl
  simp only [World.size_alloc] at hgl
  obtain ⟨hg1, hg2⟩ := hgl
  go_upto_region 6 with fail
  refine wp_only (KB w (w1.heap.size + 1) g m cc els #[.bool false, .int .i64 0, .bool false, .int .i64 0]) ?_ ?_
  · exact ⟨bk_old (bk_old t2), bk_old (bk_old t3), bk_new (by simp), ((owns_mono (base' := w.heap.size + 2) o1 (by simp)).alloc _).alloc _, (by repeat' (first | (with_reducible exact Below.refl _ _) | (with_reducible assumption) | (with_reducible refine below_drewN ?_ _) | (with_reducible refine Below.drew ?_) | (with_reducible refine Below.alloc ?_ ?_ _) | (with_reducible refine Below.setCell ?_ ?_ _) | go_size)), by omega, by omega, by omega⟩
  intro w2 hp
  clear o1 hb1 PA t2 t3 bel zs hg1 hg2
  generalize hg6 : w1.heap.size + 1 = b6 at *
  generalize w1.heap.size = b5 at *
  clear hg6 w1
  have n1 : ¬ b6 = w.heap.size := by have := hp.2.2.2.2.2; omega
  have n2 : ¬ w.heap.size = b6 := by have := hp.2.2.2.2.2; omega
  have n3 : ¬ b6 = w.heap.size + 1 := by have := hp.2.2.2.2.2; omega
  have n4 : ¬ w.heap.size + 1 = b6 := by have := hp.2.2.2.2.2; omega
  have HP2 := Lib.hid hp
  clear hp
  rw [HE.out] at HP2
  go_wp2_with fail
  refine wp_loop_rounds 3 ?_
  subst hk0 hk1 hk
  rw [rounds_succ]
  obtain ⟨u0, u1, u2, u3, u4, u5⟩ := row0 HP2.out.2.2.2.1 HL.out
  go_upto_region 9 with fail
  clear u0 u1 u2 u3 u4 u5
  go_wp2_with fail
  go_must (go_fit (H0.out _ (HP2.out.2.2.2.2.1.alloc HP2.out.2.2.2.2.1.size (.cells #[.int .i64 x.cls, .int .i64 x.num, .bool x.cons, .int .i64 x.start, .int .i64 x.body, .int .i64 x.stop] 93))))
  rintro e w0a ⟨rfl, hb⟩
  have HQ0 := Lib.hid (KB.past (KB.alloc HP2.out (.cells #[.int .i64 x.cls, .int .i64 x.num, .bool x.cons, .int .i64 x.start, .int .i64 x.body, .int .i64 x.stop] 93)) hb)
  have yb := blk1 hb
  clear hb
  obtain ⟨u0, u1, u2, u3, u4, u5⟩ := cells6 yb
  have m1 : ¬ w2.heap.size = w.heap.size := by have := HP2.out.2.2.2.2.1.size; have := Blk_lt HP2.out.2.1; omega
  have m2 : ¬ w.heap.size = w2.heap.size := by have := Blk_lt HP2.out.2.1; omega
  have m3 : ¬ w2.heap.size = w.heap.size + 1 := by have := Blk_lt HP2.out.2.1; omega
  have m4 : ¬ w.heap.size + 1 = w2.heap.size := by have := Blk_lt HP2.out.2.1; omega
  have m5 : ¬ w2.heap.size = b6 := by have := Blk_lt HP2.out.2.2.1; omega
  have m6 : ¬ b6 = w2.heap.size := by have := Blk_lt HP2.out.2.2.1; omega
  clear yb
  generalize w2.heap.size = y0 at *
  obtain ⟨q0, q1, q2, q3⟩ := cells4 HQ0.out.1
  obtain ⟨f0, f1, f2, f3⟩ := free4 HQ0.out.1
  obtain ⟨s0, s1⟩ := cells2 HQ0.out.2.1
  obtain ⟨g0, g1⟩ := freeP HQ0.out.2.1
  obtain ⟨j0, j1, j2, j3⟩ := cells4 HQ0.out.2.2.1
  obtain ⟨e0, e1, e2, e3⟩ := free4 HQ0.out.2.2.1
  have hn0 := HN0.out
  go_upto_region 16 with fail
  refine wp_only _ (KB.req HQ0.out (.bool true) (.int .i64 v0)) ?_
  intro w0b hp
  have HR0 := Lib.hid hp
  clear hp q0 q1 q2 q3 f0 f1 f2 f3 s0 s1 g0 g1 j0 j1 j2 j3 e0 e1 e2 e3 u0 u1 u2 u3 u4 u5 m1 m2 m3 m4 m5 m6 HQ0
  go_wp2_with fail
  rw [rounds_succ]
  obtain ⟨u0, u1, u2, u3, u4, u5⟩ := row1 HR0.out.2.2.2.1 HL.out
  go_upto_region 9 with fail
  clear u0 u1 u2 u3 u4 u5
  go_wp2_with fail
  go_must (go_fit (H1.out _ (HR0.out.2.2.2.2.1.alloc HR0.out.2.2.2.2.1.size (.cells #[.int .i64 y.cls, .int .i64 y.num, .bool y.cons, .int .i64 y.start, .int .i64 y.body, .int .i64 y.stop] 93))))
  rintro e w1a ⟨rfl, hb⟩
  have HQ1 := Lib.hid (KB.past (KB.alloc HR0.out (.cells #[.int .i64 y.cls, .int .i64 y.num, .bool y.cons, .int .i64 y.start, .int .i64 y.body, .int .i64 y.stop] 93)) hb)
  have yb := blk1 hb
  clear hb
  obtain ⟨u0, u1, u2, u3, u4, u5⟩ := cells6 yb
  have m1 : ¬ w0b.heap.size = w.heap.size := by have := HR0.out.2.2.2.2.1.size; have := Blk_lt HR0.out.2.1; omega
  have m2 : ¬ w.heap.size = w0b.heap.size := by have := Blk_lt HR0.out.2.1; omega
  have m3 : ¬ w0b.heap.size = w.heap.size + 1 := by have := Blk_lt HR0.out.2.1; omega
  have m4 : ¬ w.heap.size + 1 = w0b.heap.size := by have := Blk_lt HR0.out.2.1; omega
  have m5 : ¬ w0b.heap.size = b6 := by have := Blk_lt HR0.out.2.2.1; omega
  have m6 : ¬ b6 = w0b.heap.size := by have := Blk_lt HR0.out.2.2.1; omega
  clear yb
  generalize w0b.heap.size = y1 at *
  obtain ⟨q0, q1, q2, q3⟩ := cells4 HQ1.out.1
  obtain ⟨f0, f1, f2, f3⟩ := free4 HQ1.out.1
  obtain ⟨s0, s1⟩ := cells2 HQ1.out.2.1
  obtain ⟨g0, g1⟩ := freeP HQ1.out.2.1
  obtain ⟨j0, j1, j2, j3⟩ := cells4 HQ1.out.2.2.1
  obtain ⟨e0, e1, e2, e3⟩ := free4 HQ1.out.2.2.1
  have hn1 := HN1.out
  go_upto_region 16 with fail
  refine wp_only _ (KB.inh HQ1.out (.bool true) (.int .i64 v1)) ?_
  intro w1b hp
  have HR1 := Lib.hid hp
  clear hp q0 q1 q2 q3 f0 f1 f2 f3 s0 s1 g0 g1 j0 j1 j2 j3 e0 e1 e2 e3 u0 u1 u2 u3 u4 u5 m1 m2 m3 m4 m5 m6 HQ1
  go_wp2_with fail
  rw [rounds_succ]
  obtain ⟨u0, u1, u2, u3, u4, u5⟩ := rowz HR1.out.2.2.2.1 HL.out
  go_upto_region 9 with fail
  clear u0 u1 u2 u3 u4 u5
  go_wp2_with fail
  go_must (go_fit (H2.out _ (HR1.out.2.2.2.2.1.alloc HR1.out.2.2.2.2.1.size (.cells #[.int .i64 z.cls, .int .i64 z.num, .bool z.cons, .int .i64 z.start, .int .i64 z.body, .int .i64 z.stop] 93))))
  rintro e w2a ⟨rfl, hb⟩
  have HQ2 := Lib.hid (KB.past (KB.alloc HR1.out (.cells #[.int .i64 z.cls, .int .i64 z.num, .bool z.cons, .int .i64 z.start, .int .i64 z.body, .int .i64 z.stop] 93)) hb)
  have yb := blk1 hb
  clear hb
  obtain ⟨u0, u1, u2, u3, u4, u5⟩ := cells6 yb
  have m1 : ¬ w1b.heap.size = w.heap.size := by have := HR1.out.2.2.2.2.1.size; have := Blk_lt HR1.out.2.1; omega
  have m2 : ¬ w.heap.size = w1b.heap.size := by have := Blk_lt HR1.out.2.1; omega
  have m3 : ¬ w1b.heap.size = w.heap.size + 1 := by have := Blk_lt HR1.out.2.1; omega
  have m4 : ¬ w.heap.size + 1 = w1b.heap.size := by have := Blk_lt HR1.out.2.1; omega
  have m5 : ¬ w1b.heap.size = b6 := by have := Blk_lt HR1.out.2.2.1; omega
  have m6 : ¬ b6 = w1b.heap.size := by have := Blk_lt HR1.out.2.2.1; omega
  clear yb
  generalize w1b.heap.size = y2 at *
  obtain ⟨q0, q1, q2, q3⟩ := cells4 HQ2.out.1
  obtain ⟨f0, f1, f2, f3⟩ := free4 HQ2.out.1
  obtain ⟨s0, s1⟩ := cells2 HQ2.out.2.1
  obtain ⟨g0, g1⟩ := freeP HQ2.out.2.1
  obtain ⟨j0, j1, j2, j3⟩ := cells4 HQ2.out.2.2.1
  obtain ⟨e0, e1, e2, e3⟩ := free4 HQ2.out.2.2.1
  go_upto_region 11 with fail
  go_region_held3 (fun w' => w'.cell? ⟨y2, 3, none⟩ = some (.int .i64 z.start)) (go_keep) (fail)
  rename_i hheld
  clear hheld
  go_wp2
  clear q0 q1 q2 q3 f0 f1 f2 f3 s0 s1 g0 g1 j0 j1 j2 j3 e0 e1 e2 e3 u0 u1 u2 u3 u4 u5 m1 m2 m3 m4 m5 m6
  have bel := HQ2.out.2.2.2.2.1
  have tc := cells4 (far2 (c := w.heap.size + 1) (set4 (.bool false) (.int .i64 (0)) (.bool false) (.int .i64 (0)) HQ2.out.1) (by omega) (.int .i64 (6)) (.int .i64 (z.start)))
  have td := cells2 (set2 (.int .i64 (6)) (.int .i64 (z.start)) (far4 (c := w.heap.size) HQ2.out.2.1 (by omega) (.bool false) (.int .i64 (0)) (.bool false) (.int .i64 (0))))
  refine bodyPost_ret (v := spR false (0) false (0) (6) (z.start)) (by simp [results, Try.results65, go_sem, *]) rfl ?_
  exact ⟨rfl, (by repeat' (first | (with_reducible exact Below.refl _ _) | (with_reducible assumption) | (with_reducible refine below_drewN ?_ _) | (with_reducible refine Below.drew ?_) | (with_reducible refine Below.alloc ?_ ?_ _) | (with_reducible refine Below.setCell ?_ ?_ _) | go_size))⟩
end Go.Proofs.Ytnpmgofkfdpbjaa.Bas
