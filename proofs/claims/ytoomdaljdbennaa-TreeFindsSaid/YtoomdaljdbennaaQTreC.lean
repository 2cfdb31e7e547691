/- Walks: the reference's Read. -/
import Derived.BigRegion
import Derived.Deep.RegionHeld3
import Derived.Test.YtoomdaljdbennaaKX
set_option linter.unusedSimpArgs false
set_option linter.unusedVariables false
namespace Go.Proofs.Ytoomdaljdbennaa.Tree
open Go.RowKit Kit Tlv

/-- what the reference's Read returns, of a reading -/
def ReadQ (d : Nat) (w : World) (q : Rt) (e : Ending) (w' : World) : Prop :=
  ∃ v, e = .returned (.tuple #[v, .int .i64 q.size, err q.code q.off]) ∧ NodeR d w' (fun b => w.heap.size ≤ b ∧ b < w'.heap.size) v q.t ∧ Below w.heap.size w w'
theorem bel1x {w w1 : World} {o : Obj} (hb : Below w.heap.size (w.alloc o) w1) : Below w.heap.size w w1 := ((Below.refl _ _).alloc (Nat.le_refl _) _).trans hb
theorem NodeR.formK {w : World} {P : Nat → Prop} {d : Nat} {v : Value} {k1 k2 : Int} {k3 : Bool} {con : List UInt8} {kids : List T} (h : NodeR d w P v (.mk k1 k2 k3 con kids)) :
    ∃ A c K ck, v = .agg #[.int .i64 k1, .int .i64 k2, .bool k3, .slice A con.length c, .slice K kids.length ck] := by
  obtain ⟨A, c, K, ck, rfl, _⟩ := h.form
  exact ⟨A, c, K, ck, rfl⟩

set_option maxRecDepth 100000 in
set_option maxHeartbeats 4000000 in
theorem read_zero {A : Option Addr} {n c : Nat} {l : List UInt8} (w : World) : Calls Try.prog 37 #[.slice A n c, .int .i64 0] w (ReadQ 0 w (readT 0 l)) := by
  have t4 : ((w.alloc (.cells #[.int .i64 0, .int .i64 0, .bool false, .slice none 0 0, .slice none 0 0] 26)).alloc (.cells #[.int .i64 0, .int .i64 0] 29)).heap[w.heap.size]? = _ := bk_old (bk_new rfl)
  have t6 : ((w.alloc (.cells #[.int .i64 0, .int .i64 0, .bool false, .slice none 0 0, .slice none 0 0] 26)).alloc (.cells #[.int .i64 0, .int .i64 0] 29)).heap[w.heap.size + 1]? = _ := bk_new (by simp)
  have tc := cells5 (far2 (c := w.heap.size + 1) (set5 (.int .i64 0) (.int .i64 0) (.bool false) (.slice none 0 0) (.slice none 0 0) t4) (by omega) (.int .i64 5) (.int .i64 0))
  have td := cells2 (set2 (.int .i64 5) (.int .i64 0) (far5 (c := w.heap.size) t6 (by omega) (.int .i64 0) (.int .i64 0) (.bool false) (.slice none 0 0) (.slice none 0 0)))
  clear t4 t6
  go_enter Try.func37, Try.ntmps37
  go_wp2
  refine bodyPost_ret (v := .tuple #[.agg #[.int .i64 0, .int .i64 0, .bool false, .slice none 0 0, .slice none 0 0], .int .i64 0, err 5 0]) (by simp [results, Try.results37, go_sem, *]) rfl ?_
  exact ⟨_, rfl, NodeR.zero 0 _ _, (by repeat' (first | (with_reducible exact Below.refl _ _) | (with_reducible assumption) | (with_reducible refine below_drewN ?_ _) | (with_reducible refine Below.drew ?_) | (with_reducible refine Below.alloc ?_ ?_ _) | (with_reducible refine Below.setCell ?_ ?_ _) | go_size))⟩

/-- what the reference's Next returns, of a reading -/
def NxQ (B : Nat) (w : World) (q : Nx) (e : Ending) (w' : World) : Prop :=
  ∃ A1 c1 A2 c2, e = .returned (.tuple #[hdV q.hd, .slice A1 q.con.length c1, .slice A2 q.rest.length c2, err q.code q.off]) ∧
    Rd w' B A1 q.con.length q.con ∧ Rd w' B A2 q.rest.length q.rest ∧ Below w.heap.size w w' ∧ q.con.length ≤ c1 ∧ c1 ≤ maxLen

theorem cells_one (a b : Int) (c : Bool) (A K : Option Addr) (n m k l : Nat) : ∀ u ∈ [Value.int .i64 a, .int .i64 b, .bool c, .slice A n m, .slice K k l], u.oneCell' = true := by
  intro u hu
  simp only [List.mem_cons, List.not_mem_nil, or_false] at hu
  rcases hu with rfl | rfl | rfl | rfl | rfl <;> rfl
/-- where the loop of Read stands -/
def ReadL (d : Nat) (w : World) (b6 b11 B : Nat) (A1 : Option Addr) (con : List UInt8) (c1 : Nat) (k1 k2 : Int) (sz : Nat) (r : List T × Int × Int) (i : Value) (wr : World) : Prop :=
  ∃ (p f : Nat) (K : Option Addr) (ck : Nat) (acc : List T) (xs : List Value), i = .int .i64 (p : Int) ∧ p ≤ con.length ∧
    wr.ownsRow (b11 + 1) 26 5 (.slice K acc.length ck) acc.length xs ∧
    RowR (NodeR d wr (fun b => b11 < b ∧ b < wr.heap.size ∧ (Value.slice K acc.length ck).ownBlock ≠ some b)) acc xs ∧
    wr.heap[w.heap.size]? = some (.cells #[.int .i64 0, .int .i64 0, .bool false, .slice none 0 0, .slice none 0 0] 26 (0, 0)) ∧
    wr.heap[w.heap.size + 1]? = some (.cells #[.int .i64 0, .int .i64 0] 29 (0, 0)) ∧
    wr.heap[b6]? = some (.cells #[.int .i64 k1, .int .i64 k2, .bool true, .int .i64 (con.length : Int), .int .i64 (sz : Int)] 70 (0, 0)) ∧
    wr.heap[b11]? = some (.cells #[.int .i64 k1, .int .i64 k2, .bool true, .slice none 0 0, .slice K acc.length ck] 26 (0, 0)) ∧
    Rd wr B A1 con.length con ∧ Below w.heap.size w wr ∧ kidsA (readT d) con f p acc = r ∧ con.length - p < f ∧ acc.length ≤ p
theorem set5at3 {w : World} {b : Nat} {x0 x1 x2 x3 x4 : Value} {t : TypeId} (y : Value) (h : w.heap[b]? = some (.cells #[x0, x1, x2, x3, x4] t (0, 0))) :
    (w.setCell ⟨b, 3, none⟩ y).heap[b]? = some (.cells #[x0, x1, x2, y, x4] t (0, 0)) := heap_setCell_same _ b 3 _ _ y h
theorem set5at4 {w : World} {b : Nat} {x0 x1 x2 x3 x4 : Value} {t : TypeId} (y : Value) (h : w.heap[b]? = some (.cells #[x0, x1, x2, x3, x4] t (0, 0))) :
    (w.setCell ⟨b, 4, none⟩ y).heap[b]? = some (.cells #[x0, x1, x2, x3, y] t (0, 0)) := heap_setCell_same _ b 4 _ _ y h

set_option maxRecDepth 100000 in
set_option maxHeartbeats 8000000 in
theorem read_succ (d : Nat) (hd : d ≤ 1000)
    (ih : ∀ (A : Option Addr) (n c B : Nat) (l : List UInt8) (w : World), Rd w B A n l → B ≤ w.heap.size → n ≤ c → c ≤ maxLen → n ≤ 1000000 → Calls Try.prog 37 #[.slice A n c, .int .i64 (d : Int)] w (ReadQ d w (readT d l)))
    {A : Option Addr} {n c B : Nat} {l : List UInt8} (w : World) (hr : Rd w B A n l) (hB : B ≤ w.heap.size) (hc : n ≤ c) (hm : c ≤ maxLen) (hn : n ≤ 1000000) :
    Calls Try.prog 37 #[.slice A n c, .int .i64 ((d : Int) + 1)] w (ReadQ (d + 1) w (readT (d + 1) l)) := by
  have hl := hr.len
  have HR := Lib.hid hr
  have NX := Lib.hid (fun (w' : World) (h : Rd w' B A n l) (hB : B ≤ w'.heap.size) => (show Calls Try.prog 46 #[.slice A n c] w' (NxQ B w' (nx l)) from refnextc_any (c := c) w' h hB hc hm (by omega)))
  have E1 := Lib.hid (fun h => readT_err (d := d) (l := l) h)
  have E2 := Lib.hid (fun h h2 => readT_leaf (d := d) (l := l) h h2)
  have E3 := Lib.hid (fun h h2 h3 => readT_kerr (d := d) (l := l) h h2 h3)
  have E4 := Lib.hid (fun h h2 h3 => readT_node (d := d) (l := l) h h2 h3)
  have FIT := Lib.hid (fun h => nx_fit (l := l) h)
  have IH := Lib.hid ih
  clear ih hr
  generalize nx l = q at *
  obtain ⟨⟨k1, k2, k3, k4, k5⟩, con, rest, r1, r2⟩ := q
  simp only [] at E1 E2 E3 E4 FIT
  have e0 : decide ((d : Int) + 1 = 0) = false := by simp only [decide_eq_false_iff_not]; omega
  go_enter Try.func37, Try.ntmps37
  go_upto_region 4 with (first | (go_at_call 46; refine (NX.out _ ((HR.out.alloc hB _).alloc (by simp; omega) _) (by simp; omega)).mono ?_; rintro e w1 ⟨A1, c1, A2, c2, rfl, hR1, -, hb, hc1, hm1⟩))
  obtain ⟨t2, t5, bel⟩ := box2 hb
  have hs := hb.size
  simp only [World.size_alloc] at hs
  replace t2 := bk_old (o' := (.cells #[.int .i64 r1, .int .i64 r2] 29)) (bk_old (o' := (.cells #[.int .i64 k1, .int .i64 k2, .bool k3, .int .i64 k4, .int .i64 k5] 70)) t2)
  replace t5 := bk_old (o' := (.cells #[.int .i64 r1, .int .i64 r2] 29)) (bk_old (o' := (.cells #[.int .i64 k1, .int .i64 k2, .bool k3, .int .i64 k4, .int .i64 k5] 70)) t5)
  have t6 : ((w1.alloc (.cells #[.int .i64 k1, .int .i64 k2, .bool k3, .int .i64 k4, .int .i64 k5] 70)).alloc (.cells #[.int .i64 r1, .int .i64 r2] 29)).heap[w1.heap.size]? = _ := bk_old (bk_new rfl)
  have t7 : ((w1.alloc (.cells #[.int .i64 k1, .int .i64 k2, .bool k3, .int .i64 k4, .int .i64 k5] 70)).alloc (.cells #[.int .i64 r1, .int .i64 r2] 29)).heap[w1.heap.size + 1]? = _ := bk_new (by simp)
  replace bel := (bel.alloc bel.size (.cells #[.int .i64 k1, .int .i64 k2, .bool k3, .int .i64 k4, .int .i64 k5] 70)).alloc (by simp; have := bel.size; omega) (.cells #[.int .i64 r1, .int .i64 r2] 29)
  have hz2 : ((w1.alloc (.cells #[.int .i64 k1, .int .i64 k2, .bool k3, .int .i64 k4, .int .i64 k5] 70)).alloc (.cells #[.int .i64 r1, .int .i64 r2] 29)).heap.size = w1.heap.size + 2 := by simp
  have hR2 := (hR1.alloc (by omega) (.cells #[.int .i64 k1, .int .i64 k2, .bool k3, .int .i64 k4, .int .i64 k5] 70)).alloc (by simp; omega) (.cells #[.int .i64 r1, .int .i64 r2] 29)
  have n1 : ¬ w1.heap.size = w.heap.size := by omega
  have n2 : ¬ w1.heap.size = w.heap.size + 1 := by omega
  have n3 : ¬ w.heap.size = w1.heap.size := by omega
  have n4 : ¬ w.heap.size + 1 = w1.heap.size := by omega
  have m1 : ¬ w1.heap.size + 1 = w.heap.size := by omega
  have m2 : ¬ w1.heap.size + 1 = w.heap.size + 1 := by omega
  have m3 : ¬ w.heap.size = w1.heap.size + 1 := by omega
  have m4 : ¬ w.heap.size + 1 = w1.heap.size + 1 := by omega
  have hlo : w.heap.size + 2 ≤ w1.heap.size := by omega
  clear hb hs NX hR1
  have hz3 : ((w1.alloc (.cells #[.int .i64 k1, .int .i64 k2, .bool k3, .int .i64 k4, .int .i64 k5] 70)).alloc (.cells #[.int .i64 r1, .int .i64 r2] 29)).heap.size = w1.heap.size + 1 + 1 := hz2
  generalize hg7 : w1.heap.size + 1 = b7 at *
  generalize hg6 : w1.heap.size = b6 at *
  generalize ((w1.alloc (.cells #[.int .i64 k1, .int .i64 k2, .bool k3, .int .i64 k4, .int .i64 k5] 70)).alloc (.cells #[.int .i64 r1, .int .i64 r2] 29)) = w2 at *
  have HG7 := Lib.hid hg7
  have HZ3 := Lib.hid hz3
  have n67 : ¬ b6 = b7 := by omega
  have n76 : ¬ b7 = b6 := by omega
  have b7lo : w.heap.size + 2 ≤ b7 := by omega
  clear hz2 hz3 hg7 hg6 w1
  have RW := Lib.hid hR2
  have T2 := Lib.hid t2
  have T5 := Lib.hid t5
  have T6 := Lib.hid t6
  have BE := Lib.hid bel
  obtain ⟨q0, q1, q2, q3, q4⟩ := cells5 t2
  obtain ⟨f0, f1, f2, f3, f4⟩ := free5 t2
  obtain ⟨s0, s1⟩ := cells2 t5
  obtain ⟨g0, g1, -, -, -⟩ := free5 t5
  obtain ⟨u0, u1, u2, u3, u4⟩ := cells5 t6
  obtain ⟨v0, v1⟩ := cells2 t7
  clear t2 t5 t6 t7 hR2
  by_cases hz : r1 = 0
  · have E2' := Lib.hid (E2.out (by omega))
    have E3' := Lib.hid (E3.out (by omega))
    have E4' := Lib.hid (E4.out (by omega))
    obtain ⟨z1, z2, z3⟩ := FIT.out hz
    clear E1 E2 E3 E4 FIT
    subst hz
    subst z2
    obtain ⟨sz, rfl⟩ := Int.eq_ofNat_of_zero_le z1
    go_upto_region 7 with fail
    clear q0 q1 q2 q3 q4 f0 f1 f2 f3 f4 s0 s1 g0 g1 u0 u1 u2 u3 u4 v0 v1
    have t2 := bk_old (o' := (.cells #[.int .i64 k1, .int .i64 k2, .bool k3, .slice none 0 0, .slice none 0 0] 26)) T2.out
    have t5 := bk_old (o' := (.cells #[.int .i64 k1, .int .i64 k2, .bool k3, .slice none 0 0, .slice none 0 0] 26)) T5.out
    have t6 := bk_old (o' := (.cells #[.int .i64 k1, .int .i64 k2, .bool k3, .slice none 0 0, .slice none 0 0] 26)) T6.out
    have t11 : (w2.alloc (.cells #[.int .i64 k1, .int .i64 k2, .bool k3, .slice none 0 0, .slice none 0 0] 26)).heap[w2.heap.size]? = _ := bk_new rfl
    replace bel := BE.out.alloc BE.out.size (.cells #[.int .i64 k1, .int .i64 k2, .bool k3, .slice none 0 0, .slice none 0 0] 26)
    have hz4 : (w2.alloc (.cells #[.int .i64 k1, .int .i64 k2, .bool k3, .slice none 0 0, .slice none 0 0] 26)).heap.size = w2.heap.size + 1 := by simp
    have rw3 := RW.out.alloc (Nat.le_trans hB BE.out.size) (.cells #[.int .i64 k1, .int .i64 k2, .bool k3, .slice none 0 0, .slice none 0 0] 26)
    have hb11 := HZ3.out
    generalize w2.heap.size = b11 at *
    generalize w2.alloc (.cells #[.int .i64 k1, .int .i64 k2, .bool k3, .slice none 0 0, .slice none 0 0] 26) = w3 at *
    clear T2 T5 T6 BE RW HZ3 w2
    have hbb := HG7.out
    have T2 := Lib.hid t2
    have T5 := Lib.hid t5
    have T6 := Lib.hid t6
    have T11 := Lib.hid t11
    have RW := Lib.hid rw3
    have BE := Lib.hid bel
    have n6b : ¬ b6 = b11 := by omega
    have nb6 : ¬ b11 = b6 := by omega
    have nwb : ¬ w.heap.size = b11 := by omega
    have nbw : ¬ b11 = w.heap.size := by omega
    have nwb1 : ¬ w.heap.size + 1 = b11 := by omega
    have nbw1 : ¬ b11 = w.heap.size + 1 := by omega
    obtain ⟨u0, u1, u2, u3, u4⟩ := cells5 t6
    have HZ4 := Lib.hid hz4
    have HB11 := Lib.hid hb11
    have hw3 : B ≤ w3.heap.size := by omega
    have hwb : w.heap.size + 1 < b11 := by omega
    have hbs : b11 < w3.heap.size := by omega
    clear t2 t5 t6 t11 rw3 bel hz4 hb11 hbb
    cases k3 with
    | false =>
      have E := Lib.hid (E2'.out rfl)
      clear E2' E3' E4' IH
      have ho := Own.lit (base := w3.heap.size) w3 [] (Nat.le_refl _) (Nat.zero_le _)
      go_upto_region 9 with (first | (at_builtin; go_must (refine app rfl (.tmp 42) (.tmp 43) rfl rfl ho rfl (RW.out.alloc hw3 _) (by simp; omega) (by simp) ?_; intro A4 c4 w4 ho4 hg4 hb4 hs4; simp only [List.length_nil, Nat.zero_add, List.nil_append] at ho4; clear hg4 hs4 u0 u1 u2 u3 u4; have bel4 := bel1x hb4; have t11 := stayK T11.out bel4; have TT := Lib.hid t11; obtain ⟨q0, q1, q2, q3, q4⟩ := cells5 t11; obtain ⟨f0, f1, f2, f3, f4⟩ := free5 t11; clear t11)))
      clear q0 q1 q2 q3 q4 f0 f1 f2 f3 f4
      have t2 := set_far (k := 3) (stayK T2.out bel4) (show ¬ w.heap.size = b11 by omega) (.slice A4 con.length c4)
      have t5 := set_far (k := 3) (stayK T5.out bel4) (show ¬ w.heap.size + 1 = b11 by omega) (.slice A4 con.length c4)
      have t6 := set_far (k := 3) (stayK T6.out bel4) n6b (.slice A4 con.length c4)
      have t11 := set5at3 (.slice A4 con.length c4) TT.out
      have ow : Own (w4.setCell ⟨b11, 3, none⟩ (.slice A4 con.length c4)) w3.heap.size A4 con.length c4 con := ho4.setOld (by simp; omega) _
      have bel := (BE.out.trans (bel4.mono (by omega))).setCell (p := ⟨b11, 3, none⟩) (by simp; omega) (.slice A4 con.length c4)
      generalize w4.setCell ⟨b11, 3, none⟩ (.slice A4 con.length c4) = w5 at *
      clear T2 T5 T6 T11 TT RW BE bel4 ho4 hb4 HZ4 w4
      have T2 := Lib.hid t2
      have T5 := Lib.hid t5
      have OW := Lib.hid ow
      have BE := Lib.hid bel
      obtain ⟨q0, q1, q2, q3, q4⟩ := cells5 t2
      obtain ⟨f0, f1, f2, f3, f4⟩ := free5 t2
      obtain ⟨s0, s1⟩ := cells2 t5
      obtain ⟨g0, g1, -, -, -⟩ := free5 t5
      obtain ⟨u0, u1, u2, u3, u4⟩ := cells5 t6
      obtain ⟨v0, v1, v2, v3, v4⟩ := cells5 t11
      clear t2 t5 t6 t11 ow bel
      go_region
      all_goals
        go_wp2
        clear q0 q1 q2 q3 q4 f0 f1 f2 f3 f4 s0 s1 g0 g1 u0 u1 u2 u3 u4 v0 v1 v2 v3 v4
        have tc := cells5 (far2 (c := w.heap.size + 1) (set5 (.int .i64 k1) (.int .i64 k2) (.bool false) (.slice A4 con.length c4) (.slice none 0 0) T2.out) (by omega) (.int .i64 0) (.int .i64 0))
        have td := cells2 (set2 (.int .i64 0) (.int .i64 0) (far5 (c := w.heap.size) T5.out (by omega) (.int .i64 k1) (.int .i64 k2) (.bool false) (.slice A4 con.length c4) (.slice none 0 0)))
        refine bodyPost_ret (v := .tuple #[.agg #[.int .i64 k1, .int .i64 k2, .bool false, .slice A4 con.length c4, .slice none 0 0], .int .i64 ((sz : Int) + (con.length : Int)), err 0 0]) (by simp [results, Try.results37, go_sem, *]) rfl ?_
        unfold ReadQ
        rw [E.out]
        have ow := OW.out
        have bel := BE.out
        exact ⟨_, rfl, ⟨A4, c4, none, 0, [], rfl, (RdP.own (base := w3.heap.size) (n := con.length) (c := c4) (A := A4) (l := con) (by repeat' (first | (with_reducible assumption) | (with_reducible refine Own.drewN ?_ _) | (with_reducible refine Own.drew ?_) | (with_reducible refine Own.alloc ?_ _) | (with_reducible refine Own.setOld ?_ ?_ _) | go_size))).mono (fun b hb => ⟨by omega, hb.2⟩), ow.cap, ow.capMax, (fun j u h => by simp at h), rfl⟩, (by repeat' (first | (with_reducible exact Below.refl _ _) | (with_reducible assumption) | (with_reducible refine below_drewN ?_ _) | (with_reducible refine Below.drew ?_) | (with_reducible refine Below.alloc ?_ ?_ _) | (with_reducible refine Below.setCell ?_ ?_ _) | go_size))⟩
    | true =>
      clear E2'
      obtain ⟨r, hr0⟩ : ∃ r, kidsA (readT d) con (con.length + 1) 0 [] = r := ⟨_, rfl⟩
      have E3 := Lib.hid (E3'.out rfl)
      have E4 := Lib.hid (E4'.out rfl)
      rw [hr0] at E3 E4
      have R0 := Lib.hid hr0
      have CE := Lib.hid (fun (p f : Nat) (acc : List T) (h : p < con.length) he => kidsA_err (rd := readT d) (l := con) (f := f) (acc := acc) h he)
      have CS := Lib.hid (fun (p f : Nat) (acc : List T) (h : p < con.length) he => kidsA_step (rd := readT d) (l := con) (f := f) (acc := acc) h he)
      have CZ := Lib.hid (fun (f p : Nat) (acc : List T) (h : con.length ≤ p) => kidsA_end (readT d) con f p acc h)
      have BD := Lib.hid (fun p => readT_bd d (con.drop p) (by rw [List.length_drop]; omega))
      clear E3' E4' hr0
      go_upto_region 10 with fail
      clear u0 u1 u2 u3 u4
      go_wp2
      go_loopw [12] (fun i wr => ReadL d w b6 b11 B A1 con c1 k1 k2 sz r i wr) (fun i _ => con.length - (intOf i).toNat)
      case atStart =>
        exact ⟨0, con.length + 1, none, 0, [], [], rfl, Nat.zero_le _, World.ownsRow_nil _ _ _ _, rfl, T2.out, T5.out, T6.out, T11.out, RW.out, BE.out, R0.out, by omega, Nat.le_refl _⟩
      case round =>
        obtain ⟨p, f, K, ck, acc, xs, rfl, hp, ho, hrow, h2, h5, h6, h11, hrw, hb, hkr, hf, hacc⟩ := hrel
        clear T2 T5 T6 T11 RW BE R0 HZ4 hw3 hbs
        have T2 := Lib.hid h2
        have T5 := Lib.hid h5
        have T6 := Lib.hid h6
        have T11 := Lib.hid h11
        have RW := Lib.hid hrw
        have BE := Lib.hid hb
        have OW := Lib.hid ho
        have RO := Lib.hid hrow
        have zb := Blk_lt h11
        have hBr : B ≤ wr.heap.size := by omega
        clear h2 h5 h6 h11 hrw hb ho hrow
        by_cases hlt : p < con.length
        · obtain ⟨f', rfl⟩ : ∃ f', f = f' + 1 := ⟨f - 1, by omega⟩
          have hpz : (p : Int) < (con.length : Int) := by omega
          have hrd := RW.out.cut (k := p) (m := con.length) (cap := c1) hp (Nat.le_refl _) hc1
          simp only [Nat.mul_one] at hrd
          rw [List.take_of_length_le (by rw [List.length_drop]; exact Nat.le_refl _)] at hrd
          rw [if_neg (by omega)] at hrd
          have S1 := Lib.hid (CE.out p f' acc hlt)
          have S2 := Lib.hid (CS.out p f' acc hlt)
          have RD := Lib.hid (IH.out (Option.map (fun x => x.add p) A1) (con.length - p) (c1 - p) B (con.drop p) wr hrd hBr (by omega) (by omega) (by omega))
          have bd := BD.out p
          rw [List.length_drop] at bd
          have KR := Lib.hid hkr
          have HF := Lib.hid hf
          clear CE CS CZ BD hrd hkr hf IH
          generalize readT d (con.drop p) = q at *
          obtain ⟨⟨g1, g2, g3, gc, gk⟩, qs, qc, qo⟩ := q
          simp only [RtOk] at S1 S2 bd
          have BD := Lib.hid bd
          clear bd
          go_upto_region 13 with (first | (go_at_call 37; go_must (go_fit RD.out); rintro e w4 ⟨v, rfl, hnv, hb4⟩; obtain ⟨A6, c6, K6, ck6, rfl⟩ := hnv.formK))
          have zs4 := hb4.size
          have t2 := bk_old (o' := (.cells #[.int .i64 qc, .int .i64 qo] 29)) (bk_old (o' := (.cells #[.int .i64 g1, .int .i64 g2, .bool g3, .slice A6 gc.length c6, .slice K6 gk.length ck6] 26)) (stayK T2.out hb4))
          have t5 := bk_old (o' := (.cells #[.int .i64 qc, .int .i64 qo] 29)) (bk_old (o' := (.cells #[.int .i64 g1, .int .i64 g2, .bool g3, .slice A6 gc.length c6, .slice K6 gk.length ck6] 26)) (stayK T5.out hb4))
          have t6 := bk_old (o' := (.cells #[.int .i64 qc, .int .i64 qo] 29)) (bk_old (o' := (.cells #[.int .i64 g1, .int .i64 g2, .bool g3, .slice A6 gc.length c6, .slice K6 gk.length ck6] 26)) (stayK T6.out hb4))
          have t11 := bk_old (o' := (.cells #[.int .i64 qc, .int .i64 qo] 29)) (bk_old (o' := (.cells #[.int .i64 g1, .int .i64 g2, .bool g3, .slice A6 gc.length c6, .slice K6 gk.length ck6] 26)) (stayK T11.out hb4))
          have t13 : ((w4.alloc (.cells #[.int .i64 g1, .int .i64 g2, .bool g3, .slice A6 gc.length c6, .slice K6 gk.length ck6] 26)).alloc (.cells #[.int .i64 qc, .int .i64 qo] 29)).heap[w4.heap.size]? = _ := bk_old (bk_new rfl)
          have t15 : ((w4.alloc (.cells #[.int .i64 g1, .int .i64 g2, .bool g3, .slice A6 gc.length c6, .slice K6 gk.length ck6] 26)).alloc (.cells #[.int .i64 qc, .int .i64 qo] 29)).heap[w4.heap.size + 1]? = _ := bk_new (by simp)
          have ow := ((owns_below OW.out hb4 (Nat.le_refl _)).alloc (.cells #[.int .i64 g1, .int .i64 g2, .bool g3, .slice A6 gc.length c6, .slice K6 gk.length ck6] 26)).alloc (.cells #[.int .i64 qc, .int .i64 qo] 29)
          have rw5 := ((RW.out.below (hb4.mono hBr)).alloc (by omega) (.cells #[.int .i64 g1, .int .i64 g2, .bool g3, .slice A6 gc.length c6, .slice K6 gk.length ck6] 26)).alloc (by simp; omega) (.cells #[.int .i64 qc, .int .i64 qo] 29)
          have bel := ((BE.out.trans (hb4.mono (by have := BE.out.size; exact this))).alloc (by have := BE.out.size; omega) (.cells #[.int .i64 g1, .int .i64 g2, .bool g3, .slice A6 gc.length c6, .slice K6 gk.length ck6] 26)).alloc (by have := BE.out.size; simp; omega) (.cells #[.int .i64 qc, .int .i64 qo] 29)
          have k0 : Keeps (fun b => b < wr.heap.size) wr ((w4.alloc (.cells #[.int .i64 g1, .int .i64 g2, .bool g3, .slice A6 gc.length c6, .slice K6 gk.length ck6] 26)).alloc (.cells #[.int .i64 qc, .int .i64 qo] 29)) := Keeps.trans (Keeps.trans (Keeps.below hb4 (fun b h => h)) (Keeps.alloc _ _ (fun b h => by omega))) (Keeps.alloc _ _ (fun b h => by simp; omega))
          have k1 : Keeps (fun b => b < w4.heap.size) w4 ((w4.alloc (.cells #[.int .i64 g1, .int .i64 g2, .bool g3, .slice A6 gc.length c6, .slice K6 gk.length ck6] 26)).alloc (.cells #[.int .i64 qc, .int .i64 qo] 29)) := Keeps.trans (Keeps.alloc _ _ (fun b h => h)) (Keeps.alloc _ _ (fun b h => by simp; omega))
          have nv := hnv.keep (k1.imp (fun b h => h.2))
          have hz5 : ((w4.alloc (.cells #[.int .i64 g1, .int .i64 g2, .bool g3, .slice A6 gc.length c6, .slice K6 gk.length ck6] 26)).alloc (.cells #[.int .i64 qc, .int .i64 qo] 29)).heap.size = w4.heap.size + 2 := by simp
          clear hnv k1 hb4 RD
          generalize hg13 : w4.heap.size = b13 at *
          generalize ((w4.alloc (.cells #[.int .i64 g1, .int .i64 g2, .bool g3, .slice A6 gc.length c6, .slice K6 gk.length ck6] 26)).alloc (.cells #[.int .i64 qc, .int .i64 qo] 29)) = w5 at *
          clear hg13 w4
          have HZ5 := Lib.hid hz5
          have U2 := Lib.hid t2
          have U5 := Lib.hid t5
          have U6 := Lib.hid t6
          have U11 := Lib.hid t11
          have U13 := Lib.hid t13
          have OW5 := Lib.hid ow
          have RW5 := Lib.hid rw5
          have BE5 := Lib.hid bel
          have K0 := Lib.hid k0
          have NV := Lib.hid nv
          have nb13 : ¬ b13 = b11 := by omega
          have nb13' : ¬ b11 = b13 := by omega
          obtain ⟨x0, x1, x2, x3, x4⟩ := cells5 t13
          obtain ⟨y0, y1⟩ := cells2 t15
          obtain ⟨u0, u1, u2, u3, u4⟩ := cells5 t6
          obtain ⟨v0, v1, v2, v3, v4⟩ := cells5 t11
          obtain ⟨q0, q1, q2, q3, q4⟩ := cells5 t2
          obtain ⟨f0, f1, f2, f3, f4⟩ := free5 t2
          obtain ⟨s0, s1⟩ := cells2 t5
          obtain ⟨g0', g1', -, -, -⟩ := free5 t5
          clear t2 t5 t6 t11 t13 t15 ow rw5 bel k0 nv hz5
          by_cases hz : qc = 0
          · subst hz
            obtain ⟨bo, b2, b3⟩ := BD.out.1 rfl
            obtain ⟨m, rfl⟩ := Int.eq_ofNat_of_zero_le (show 0 ≤ qs by omega)
            have EE := Lib.hid ((S2.out rfl).symm.trans KR.out)
            simp only [Int.toNat_natCast] at EE
            have hlim : (acc.length + 1) * 72 ≤ 140737488355328 := by omega
            have lb : b11 + 1 ≤ w5.heap.size := by have := HZ5.out; omega
            have hmm : (p : Int) + (m : Int) ≤ (con.length : Int) := by omega
            clear S1 S2 BD KR u0 u1 u2 u3 u4 q0 q1 q2 q3 q4 f0 f1 f2 f3 f4 s0 s1 g0' g1'
            go_upto_region 15 with fail
            clear y0 y1
            go_upto_region 16 with (first | (at_builtin; go_must (refine appS rfl (.tmp 82) (.tmp 84) 24 5 72 _ rfl Try.underlying24 infoNode rfl (by decide) (by decide) rfl OW5.out rfl (cells_one _ _ _ _ _ _ _ _ _) rfl rfl hlim lb ?_; intro A8 c8 w6 ho6 hg6 hb6 hs6; clear x0 x1 x2 x3 x4 v0 v1 v2 v3 v4; have t11 := far_own (b := b11) OW5.out hg6 (bk_old U11.out) (.inl (Nat.lt_succ_self _)); have TT := Lib.hid t11; obtain ⟨v0, v1, v2, v3, v4⟩ := cells5 t11; obtain ⟨f0, f1, f2, f3, f4⟩ := free5 t11; clear t11)))
            clear v0 v1 v2 v3 v4 f0 f1 f2 f3 f4
            have zw5 := HZ5.out
            have w6lo := hg6.size
            simp only [World.size_alloc] at w6lo
            have t2 := set_far (k := 4) (far_own (b := w.heap.size) OW5.out hg6 (bk_old U2.out) (.inl (by omega))) (show ¬ w.heap.size = b11 by omega) (.slice A8 (acc.length + 1) c8)
            have t5 := set_far (k := 4) (far_own (b := w.heap.size + 1) OW5.out hg6 (bk_old U5.out) (.inl (by omega))) (show ¬ w.heap.size + 1 = b11 by omega) (.slice A8 (acc.length + 1) c8)
            have t6 := set_far (k := 4) (far_own (b := b6) OW5.out hg6 (bk_old U6.out) (.inl (by have := HB11.out; have := HG7.out; omega))) n6b (.slice A8 (acc.length + 1) c8)
            have t11 := set5at4 (.slice A8 (acc.length + 1) c8) TT.out
            have rw7 := (RW5.out.below (hb6.mono (show B ≤ b11 + 1 by omega))).setCell (p := ⟨b11, 4, none⟩) (by simp; omega) (.slice A8 (acc.length + 1) c8)
            have bel7 := (BE5.out.trans (hb6.mono (show w.heap.size ≤ b11 + 1 by omega))).setCell (p := ⟨b11, 4, none⟩) (by simp; omega) (.slice A8 (acc.length + 1) c8)
            have ow7 := ownsRow_setCell_below (a := ⟨b11, 4, none⟩) ho6 (by simp only []; omega) (.slice A8 (acc.length + 1) c8)
            have kA : Keeps (fun b => b < w5.heap.size ∧ (Value.slice K acc.length ck).ownBlock ≠ some b) w5 w6 := Keeps.trans (Keeps.alloc _ _ (fun b h => h.1)) (Keeps.grown hg6 (fun b h => h.2))
            have kB : Keeps (fun b => b11 < b) w6 (w6.setCell ⟨b11, 4, none⟩ (.slice A8 (acc.length + 1) c8)) := (Keeps.refl _ _).set (by intro b hb; simp only [ne_eq]; omega) _
            have hz7 : (w6.setCell ⟨b11, 4, none⟩ (.slice A8 (acc.length + 1) c8)).heap.size = w6.heap.size := by simp
            have hr7 : RowR (NodeR d (w6.setCell ⟨b11, 4, none⟩ (.slice A8 (acc.length + 1) c8)) (fun b => b11 < b ∧ b < (w6.setCell ⟨b11, 4, none⟩ (.slice A8 (acc.length + 1) c8)).heap.size ∧ (Value.slice A8 (acc.length + 1) c8).ownBlock ≠ some b)) (acc ++ [.mk g1 g2 g3 gc gk]) (xs ++ [.int .i64 g1, .int .i64 g2, .bool g3, .slice A6 gc.length c6, .slice K6 gk.length ck6]) := by
              refine RowR.snoc ?_ (RO.out.imp (fun v t h => ?_))
              · refine ((NV.out.keep (kA.imp (fun b h => ⟨by omega, fun e => ?_⟩))).keep (kB.imp (fun b h => by omega))).mono (fun b h => ⟨by omega, by omega, ?_⟩)
                · have := (World.ownsRow.lt OW.out b e).2; omega
                · rcases hs6 with e | e <;> rw [e]
                  · intro e2; have := (World.ownsRow.lt OW.out b e2).2; omega
                  · intro e2; injection e2 with e2; omega
              · refine (((h.keep (K0.out.imp (fun b h => h.2.1))).keep (kA.imp (fun b h => ⟨by omega, h.2.2⟩))).keep (kB.imp (fun b h => h.1))).mono (fun b h => ⟨h.1, by omega, ?_⟩)
                rcases hs6 with e | e <;> rw [e]
                · exact h.2.2
                · intro e2; injection e2 with e2; omega
            clear kA kB hz7 w6lo zw5 hg6 hb6 hs6 ho6 TT OW5 RW5 U2 U5 U6 U11 U13 BE5 NV K0
            have hla : (acc ++ [T.mk g1 g2 g3 gc gk]).length = acc.length + 1 := by simp
            generalize (w6.setCell ⟨b11, 4, none⟩ (.slice A8 (acc.length + 1) c8)) = w7 at *
            have REL : ReadL d w b6 b11 B A1 con c1 k1 k2 sz r (.int .i64 ((p : Int) + (m : Int))) w7 :=
              ⟨p + m, f', A8, c8, acc ++ [.mk g1 g2 g3 gc gk], _, by rw [Int.natCast_add], by omega, by rw [hla]; exact ow7, by rw [hla]; exact hr7, t2, t5, t6, by rw [hla]; exact t11, rw7, bel7, EE.out, by have := HF.out; omega, by rw [hla]; omega⟩
            have RL := Lib.hid REL
            clear REL t2 t5 t6 t11 rw7 bel7 ow7 hr7 OW RO T2 T5 T6 T11 RW BE EE
            go_wp2
            go_roundw
            case rel => exact RL.out
            case measure => simp [intOf]; omega
          · obtain ⟨-, -, b3, b4, b5⟩ := BD.out.2 hz
            have rr := KR.out.symm.trans (S1.out hz)
            subst rr
            have E := Lib.hid (E3.out hz)
            clear S1 S2 BD KR E3 E4 U6 U11 U13 OW5 RW5 NV K0
            go_upto_region 14 with fail
            go_region
            all_goals
              go_wp2
              clear x0 x1 x2 x3 x4 y0 y1 u0 u1 u2 u3 u4 v0 v1 v2 v3 v4 q0 q1 q2 q3 q4 f0 f1 f2 f3 f4 s0 s1 g0' g1'
              have tc := cells5 (far2 (c := w.heap.size + 1) (set5 (.int .i64 0) (.int .i64 0) (.bool false) (.slice none 0 0) (.slice none 0 0) U2.out) (by omega) (.int .i64 qc) (.int .i64 ((sz : Int) + (p : Int) + qo)))
              have td := cells2 (set2 (.int .i64 qc) (.int .i64 ((sz : Int) + (p : Int) + qo)) (far5 (c := w.heap.size) U5.out (by omega) (.int .i64 0) (.int .i64 0) (.bool false) (.slice none 0 0) (.slice none 0 0)))
              refine bodyPost_ret (v := .tuple #[.agg #[.int .i64 0, .int .i64 0, .bool false, .slice none 0 0, .slice none 0 0], .int .i64 0, err qc ((sz : Int) + (p : Int) + qo)]) (by simp [results, Try.results37, go_sem, *]) rfl ?_
              unfold ReadQ
              rw [E.out]
              have bel := BE5.out
              exact ⟨_, by simp only [Int.add_assoc]; rfl, NodeR.zero _ _ _, (by repeat' (first | (with_reducible exact Below.refl _ _) | (with_reducible assumption) | (with_reducible refine below_drewN ?_ _) | (with_reducible refine Below.drew ?_) | (with_reducible refine Below.alloc ?_ ?_ _) | (with_reducible refine Below.setCell ?_ ?_ _) | go_size))⟩
        · obtain rfl : p = con.length := by omega
          have rr := hkr.symm.trans (CZ.out f _ acc (Nat.le_refl _))
          subst rr
          have E := Lib.hid (E4.out (by simp))
          clear CE CS CZ BD IH E3 E4 hkr
          obtain ⟨u0, u1, u2, u3, u4⟩ := cells5 T6.out
          obtain ⟨v0, v1, v2, v3, v4⟩ := cells5 T11.out
          obtain ⟨q0, q1, q2, q3, q4⟩ := cells5 T2.out
          obtain ⟨f0, f1, f2, f3, f4⟩ := free5 T2.out
          obtain ⟨s0, s1⟩ := cells2 T5.out
          obtain ⟨g0', g1', -, -, -⟩ := free5 T5.out
          go_upto_region 17 with fail
          go_region
          all_goals
            go_wp2
            clear u0 u1 u2 u3 u4 v0 v1 v2 v3 v4 q0 q1 q2 q3 q4 f0 f1 f2 f3 f4 s0 s1 g0' g1'
            have tc := cells5 (far2 (c := w.heap.size + 1) (set5 (.int .i64 k1) (.int .i64 k2) (.bool true) (.slice none 0 0) (.slice K acc.length ck) T2.out) (by omega) (.int .i64 0) (.int .i64 0))
            have td := cells2 (set2 (.int .i64 0) (.int .i64 0) (far5 (c := w.heap.size) T5.out (by omega) (.int .i64 k1) (.int .i64 k2) (.bool true) (.slice none 0 0) (.slice K acc.length ck)))
            refine bodyPost_ret (v := .tuple #[.agg #[.int .i64 k1, .int .i64 k2, .bool true, .slice none 0 0, .slice K acc.length ck], .int .i64 ((sz : Int) + (con.length : Int)), err 0 0]) (by simp [results, Try.results37, go_sem, *]) rfl ?_
            rw [E.out]
            have bel := BE.out
            have kk : ∀ X : World, Keeps (fun b => b11 < b) wr X → Below w.heap.size w X → wr.heap.size ≤ X.heap.size → ReadQ (d + 1) w ⟨.mk k1 k2 true [] acc, (sz : Int) + (con.length : Int), 0, 0⟩ (.returned (.tuple #[.agg #[.int .i64 k1, .int .i64 k2, .bool true, .slice none 0 0, .slice K acc.length ck], .int .i64 ((sz : Int) + (con.length : Int)), err 0 0])) X := by
              intro X hX hbX hsX
              exact ⟨_, rfl, ⟨none, 0, K, ck, xs, rfl, RdP.nil_ _ _, Nat.zero_le _, Nat.zero_le _, ((CellsP.own OW.out).keep (hX.imp (fun b h => h.1))).mono (fun b h => ⟨by omega, by omega⟩), RO.out.imp (fun _ _ h => (h.keep (hX.imp (fun b h => h.1))).mono (fun b h => ⟨by omega, by omega⟩))⟩, hbX⟩
            exact kk _ (by repeat' (first | (with_reducible exact Keeps.refl _ _) | (with_reducible refine Keeps.drewN ?_ _) | (with_reducible refine Keeps.drew ?_) | (with_reducible refine Keeps.set ?_ ?_ _) | (intro b hb; simp only [ne_eq]; omega))) (by repeat' (first | (with_reducible exact Below.refl _ _) | (with_reducible assumption) | (with_reducible refine below_drewN ?_ _) | (with_reducible refine Below.drew ?_) | (with_reducible refine Below.alloc ?_ ?_ _) | (with_reducible refine Below.setCell ?_ ?_ _) | go_size)) (by simp)
  · have E := Lib.hid (E1.out hz)
    clear E1 E2 E3 E4 FIT RW T6 IH
    go_upto_region 5 with fail
    go_region
    all_goals
      go_wp2
      clear q0 q1 q2 q3 q4 f0 f1 f2 f3 f4 s0 s1 g0 g1 u0 u1 u2 u3 u4 v0 v1
      have tc := cells5 (far2 (c := w.heap.size + 1) (set5 (.int .i64 0) (.int .i64 0) (.bool false) (.slice none 0 0) (.slice none 0 0) T2.out) (by omega) (.int .i64 r1) (.int .i64 r2))
      have td := cells2 (set2 (.int .i64 r1) (.int .i64 r2) (far5 (c := w.heap.size) T5.out (by omega) (.int .i64 0) (.int .i64 0) (.bool false) (.slice none 0 0) (.slice none 0 0)))
      refine bodyPost_ret (v := .tuple #[.agg #[.int .i64 0, .int .i64 0, .bool false, .slice none 0 0, .slice none 0 0], .int .i64 0, err r1 r2]) (by simp [results, Try.results37, go_sem, *]) rfl ?_
      unfold ReadQ
      rw [E.out]
      exact ⟨_, rfl, NodeR.zero _ _ _, (by repeat' (first | (with_reducible exact Below.refl _ _) | (with_reducible assumption) | (with_reducible refine below_drewN ?_ _) | (with_reducible refine Below.drew ?_) | (with_reducible refine Below.alloc ?_ ?_ _) | (with_reducible refine Below.setCell ?_ ?_ _) | go_size))⟩
theorem read_any : ∀ (d : Nat), d ≤ 1000 → ∀ (A : Option Addr) (n c B : Nat) (l : List UInt8) (w : World), Rd w B A n l → B ≤ w.heap.size → n ≤ c → c ≤ maxLen → n ≤ 1000000 →
    Calls Try.prog 37 #[.slice A n c, .int .i64 (d : Int)] w (ReadQ d w (readT d l)) := by
  intro d
  induction d with
  | zero => intro _ A n c B l w _ _ _ _ _; exact read_zero w
  | succ d ih =>
    intro hd A n c B l w hr hB hc hm hn
    rw [Int.natCast_add]
    exact read_succ d (by omega) (ih (by omega)) w hr hB hc hm hn
end Go.Proofs.Ytoomdaljdbennaa.Tree
