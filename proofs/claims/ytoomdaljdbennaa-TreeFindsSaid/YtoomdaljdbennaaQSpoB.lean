/- Walks: read of the package tree. -/
import Derived.BigRegion
import Derived.Deep.RegionHeld3
import Derived.Test.YtoomdaljdbennaaKNC
import Derived.Test.YtoomdaljdbennaaKA
set_option linter.unusedSimpArgs false
set_option linter.unusedVariables false
namespace Go.Proofs.Ytoomdaljdbennaa.Tree
open Go.RowKit Kit Tlv

/-- what read returns, of a reading: a spot at an offset, or an error -/
def SpQ (d : Nat) (w : World) (a : Nat) (q : Rt) (e : Ending) (w' : World) : Prop :=
  ∃ (x y g1 g2 : Int) (g3 : Bool) (A6 : Option Addr) (m6 c6 : Nat) (K6 : Option Addr) (m7 c7 : Nat) (K7 : Option Addr) (m8 c8 : Nat) (qe : Int),
    e = .returned (.tuple #[.agg #[.int .i64 x, .int .i64 y, .int .i64 g1, .int .i64 g2, .bool g3, .slice A6 m6 c6, .slice K6 m7 c7, .slice K7 m8 c8], err q.code qe]) ∧
    (q.code = 0 → SpotR d w' (fun b => w.heap.size ≤ b ∧ b < w'.heap.size) (.agg #[.int .i64 x, .int .i64 y, .int .i64 g1, .int .i64 g2, .bool g3, .slice A6 m6 c6, .slice K6 m7 c7, .slice K7 m8 c8]) a q.t ∧ qe = 0) ∧
    (q.code ≠ 0 → .agg #[.int .i64 x, .int .i64 y, .int .i64 g1, .int .i64 g2, .bool g3, .slice A6 m6 c6, .slice K6 m7 c7, .slice K7 m8 c8] = zeroS ∧ qe = a + q.off) ∧ Below w.heap.size w w'
theorem SpQ.bad {d : Nat} {w w' : World} {a : Nat} {q : Rt} (c o : Int) (hc : q.code = c) (h0 : c ≠ 0) (ho : o = a + q.off) (hb : Below w.heap.size w w') : SpQ d w a q (.returned (.tuple #[zeroS, err c o])) w' := by
  subst hc
  exact ⟨0, 0, 0, 0, false, none, 0, 0, none, 0, 0, none, 0, 0, o, rfl, fun h => absurd h h0, fun _ => ⟨rfl, ho⟩, hb⟩
theorem owns_grown {w w' : World} {base n size : Nat} {e : TypeId} {v : Value} {xs : List Value} (h : w.ownsRow base e size v n xs) {r : Option Nat} (hg : w.grownBy w' r) (hr : ∀ g, v.ownBlock = some g → r ≠ some g) : w'.ownsRow base e size v n xs := by
  refine ⟨h.1, ?_⟩
  rcases h.2 with hn | ⟨g, cap, cur, rfl, hg', hgg, rest⟩
  · exact .inl hn
  · exact .inr ⟨g, cap, cur, rfl, hg', (hg.block g (Blk_lt hgg) (fun e => hr g rfl e.symm)).trans hgg, rest⟩
theorem set8at5 {w : World} {b : Nat} {x0 x1 x2 x3 x4 x5 x6 x7 : Value} {t : TypeId} (y : Value) (h : w.heap[b]? = some (.cells #[x0, x1, x2, x3, x4, x5, x6, x7] t (0, 0))) :
    (w.setCell ⟨b, 5, none⟩ y).heap[b]? = some (.cells #[x0, x1, x2, x3, x4, y, x6, x7] t (0, 0)) := heap_setCell_same _ b 5 _ _ y h
theorem set8at6 {w : World} {b : Nat} {x0 x1 x2 x3 x4 x5 x6 x7 : Value} {t : TypeId} (y : Value) (h : w.heap[b]? = some (.cells #[x0, x1, x2, x3, x4, x5, x6, x7] t (0, 0))) :
    (w.setCell ⟨b, 6, none⟩ y).heap[b]? = some (.cells #[x0, x1, x2, x3, x4, x5, y, x7] t (0, 0)) := heap_setCell_same _ b 6 _ _ y h
theorem set8at7 {w : World} {b : Nat} {x0 x1 x2 x3 x4 x5 x6 x7 : Value} {t : TypeId} (y : Value) (h : w.heap[b]? = some (.cells #[x0, x1, x2, x3, x4, x5, x6, x7] t (0, 0))) :
    (w.setCell ⟨b, 7, none⟩ y).heap[b]? = some (.cells #[x0, x1, x2, x3, x4, x5, x6, y] t (0, 0)) := heap_setCell_same _ b 7 _ _ y h

set_option maxRecDepth 100000 in
set_option maxHeartbeats 4000000 in
theorem spo_zero {A : Option Addr} {n c : Nat} (a e : Nat) (s : List UInt8) (w : World) : Calls Try.prog 36 #[.slice A n c, .int .i64 (a : Int), .int .i64 (e : Int), .int .i64 0] w (SpQ 0 w a (readT 0 s)) := by
  have t2 : ((w.alloc (.cells #[.int .i64 0, .int .i64 0, .int .i64 0, .int .i64 0, .bool false, .slice none 0 0, .slice none 0 0, .slice none 0 0] 53)).alloc (.cells #[.int .i64 0, .int .i64 0] 29)).heap[w.heap.size]? = _ := bk_old (bk_new rfl)
  have t5 : ((w.alloc (.cells #[.int .i64 0, .int .i64 0, .int .i64 0, .int .i64 0, .bool false, .slice none 0 0, .slice none 0 0, .slice none 0 0] 53)).alloc (.cells #[.int .i64 0, .int .i64 0] 29)).heap[w.heap.size + 1]? = _ := bk_new (by simp)
  have bel : Below w.heap.size w ((w.alloc (.cells #[.int .i64 0, .int .i64 0, .int .i64 0, .int .i64 0, .bool false, .slice none 0 0, .slice none 0 0, .slice none 0 0] 53)).alloc (.cells #[.int .i64 0, .int .i64 0] 29)) := (by repeat' (first | (with_reducible exact Below.refl _ _) | (with_reducible assumption) | (with_reducible refine below_drewN ?_ _) | (with_reducible refine Below.drew ?_) | (with_reducible refine Below.alloc ?_ ?_ _) | (with_reducible refine Below.setCell ?_ ?_ _) | go_size))
  have E := Lib.hid (show readT 0 s = ⟨T.zero, 0, 5, 0⟩ from rfl)
  go_enter Try.func36, Try.ntmps36
  go_wp2_with fail
  go_must (go_fit (fail_any _ _ _))
  rintro e3 w3 ⟨rfl, hb3⟩
  replace t2 := stayK t2 hb3
  replace t5 := stayK t5 hb3
  replace bel := two_belowK bel hb3 bel.size
  have tc := cells8 (far2 (c := w.heap.size + 1) (set8 (.int .i64 0) (.int .i64 0) (.int .i64 0) (.int .i64 0) (.bool false) (.slice none 0 0) (.slice none 0 0) (.slice none 0 0) t2) (by omega) (.int .i64 5) (.int .i64 (a : Int)))
  have td := cells2 (set2 (.int .i64 5) (.int .i64 (a : Int)) (far8 (c := w.heap.size) t5 (by omega) (.int .i64 0) (.int .i64 0) (.int .i64 0) (.int .i64 0) (.bool false) (.slice none 0 0) (.slice none 0 0) (.slice none 0 0)))
  obtain ⟨f0, f1, f2, f3, f4, f5, f6, f7⟩ := free8 t2
  obtain ⟨g0, g1, -, -, -⟩ := free5 t5
  obtain ⟨q0, q1, q2, q3, q4, q5, q6, q7⟩ := cells8 t2
  obtain ⟨s0, s1⟩ := cells2 t5
  clear t2 t5 hb3
  go_wp2
  clear q0 q1 q2 q3 q4 q5 q6 q7 f0 f1 f2 f3 f4 f5 f6 f7 s0 s1 g0 g1
  refine bodyPost_ret (v := .tuple #[zeroS, err 5 (a : Int)]) (by simp [results, Try.results36, go_sem, *]) rfl ?_
  rw [E.out]
  exact SpQ.bad 5 a rfl (by decide) (by simp) (by repeat' (first | (with_reducible exact Below.refl _ _) | (with_reducible assumption) | (with_reducible refine below_drewN ?_ _) | (with_reducible refine Below.drew ?_) | (with_reducible refine Below.alloc ?_ ?_ _) | (with_reducible refine Below.setCell ?_ ?_ _) | go_size))


theorem cells_one8 (x y a b : Int) (c : Bool) (A K S : Option Addr) (n m k l p q : Nat) : ∀ u ∈ [Value.int .i64 x, .int .i64 y, .int .i64 a, .int .i64 b, .bool c, .slice A n m, .slice K k l, .slice S p q], u.oneCell' = true := by
  intro u hu
  simp only [List.mem_cons, List.not_mem_nil, or_false] at hu
  rcases hu with rfl | rfl | rfl | rfl | rfl | rfl | rfl | rfl <;> rfl
theorem cells_one5 (a b : Int) (c : Bool) (A K : Option Addr) (n m k l : Nat) : ∀ u ∈ [Value.int .i64 a, .int .i64 b, .bool c, .slice A n m, .slice K k l], u.oneCell' = true := by
  intro u hu
  simp only [List.mem_cons, List.not_mem_nil, or_false] at hu
  rcases hu with rfl | rfl | rfl | rfl | rfl <;> rfl
theorem CellsP.own8 {w : World} {base n c : Nat} {K : Option Addr} {xs : List Value} (h : w.ownsRow base 53 8 (.slice K n c) n xs) : CellsP w (fun b => base ≤ b ∧ b < w.heap.size) K xs := by
  intro j u hj
  have hlen := h.1
  have hjl : j < xs.length := by
    rcases Nat.lt_or_ge j xs.length with g | g
    · exact g
    · rw [List.getElem?_eq_none g] at hj; cases hj
  rcases Nat.eq_zero_or_pos n with h0 | h0
  · subst h0; omega
  obtain ⟨g, cap, hv⟩ := Joins.ownsRow_form h h0
  injection hv with hK
  subst hK
  exact ⟨_, rfl, World.ownsRow.lt h g rfl, by rw [add_plain, Nat.zero_add]; exact (World.ownsRow.cellAt h j (by omega)).trans hj⟩
/-- blocks that the loop of read does not write -/
def PP (b11 : Nat) (wr : World) (S K : Value) (b : Nat) : Prop := b11 < b ∧ b < wr.heap.size ∧ S.ownBlock ≠ some b ∧ K.ownBlock ≠ some b
/-- where the loop of read stands -/
def SpoL (d : Nat) (w : World) (b11 B : Nat) (A : Option Addr) (n : Nat) (l con : List UInt8) (k1 k2 : Int) (at_ b0 ee : Nat) (r : List T × Int × Int) (i : Value) (wr : World) : Prop :=
  ∃ (q f : Nat) (K : Option Addr) (ck : Nat) (S : Option Addr) (cs : Nat) (acc : List T) (xs ys : List Value), i = .int .i64 (q : Int) ∧ b0 ≤ q ∧ q ≤ ee ∧
    wr.ownsRow (b11 + 1) 53 8 (.slice S acc.length cs) acc.length xs ∧ wr.ownsRow (b11 + 1) 26 5 (.slice K acc.length ck) acc.length ys ∧
    (∀ g, (Value.slice S acc.length cs).ownBlock = some g → (Value.slice K acc.length ck).ownBlock ≠ some g) ∧
    RowS (SpotR d wr (PP b11 wr (.slice S acc.length cs) (.slice K acc.length ck))) (szT d) b0 acc xs ∧ RowR (NodeR d wr (PP b11 wr (.slice S acc.length cs) (.slice K acc.length ck))) acc ys ∧
    wr.heap[w.heap.size]? = some (.cells #[.int .i64 0, .int .i64 0, .int .i64 0, .int .i64 0, .bool false, .slice none 0 0, .slice none 0 0, .slice none 0 0] 53 (0, 0)) ∧
    wr.heap[w.heap.size + 1]? = some (.cells #[.int .i64 0, .int .i64 0] 29 (0, 0)) ∧
    wr.heap[b11]? = some (.cells #[.int .i64 (at_ : Int), .int .i64 (ee : Int), .int .i64 k1, .int .i64 k2, .bool true, .slice none 0 0, .slice K acc.length ck, .slice S acc.length cs] 53 (0, 0)) ∧
    Rd wr B A n l ∧ Below w.heap.size w wr ∧ kidsA (readT d) con f (q - b0) acc = r ∧ ee - q < f ∧ acc.length ≤ q - b0 ∧ sumS (szT d) acc = q - b0

set_option maxRecDepth 100000 in
set_option maxHeartbeats 8000000 in
theorem spo_succ (d : Nat) (hd : d ≤ 1000) {A : Option Addr} {n c B : Nat} {l : List UInt8}
    (ih : ∀ (at_ en : Nat) (w : World), Rd w B A n l → B ≤ w.heap.size → at_ ≤ en → en ≤ n → Calls Try.prog 36 #[.slice A n c, .int .i64 (at_ : Int), .int .i64 (en : Int), .int .i64 (d : Int)] w (SpQ d w at_ (readT d ((l.drop at_).take (en - at_)))))
    (at_ en : Nat) (w : World) (hr : Rd w B A n l) (hB : B ≤ w.heap.size) (ha : at_ ≤ en) (he : en ≤ n) (hc : n ≤ c) (hm : c ≤ maxLen) (hn : n ≤ 1000000) :
    Calls Try.prog 36 #[.slice A n c, .int .i64 (at_ : Int), .int .i64 (en : Int), .int .i64 ((d : Int) + 1)] w (SpQ (d + 1) w at_ (readT (d + 1) ((l.drop at_).take (en - at_)))) := by
  have HR := Lib.hid hr
  have RK := hr.cut (k := at_) (m := en) (cap := en) ha he (Nat.le_refl _)
  simp only [Nat.mul_one] at RK
  obtain ⟨A1, hA1⟩ : ∃ A1, (if en = at_ then A else Option.map (fun x => x.add at_) A) = A1 := ⟨_, rfl⟩
  rw [hA1] at RK
  have hs := RK.len
  have CC := Lib.hid (fun k m h => cut_cut l at_ (en - at_) k m h)
  obtain ⟨s, hss⟩ : ∃ s, (l.drop at_).take (en - at_) = s := ⟨_, rfl⟩
  rw [hss] at RK hs CC ⊢
  have hsz : s.length ≤ 140737488355328 := by omega
  obtain ⟨d1, d2, d3, d4, d5, d6, d7, d8⟩ := rh_bd s hsz
  have RH := Lib.hid (fun (X : World) (h : Below w.heap.size w X) => readhead_any (c := en - at_) X (RK.below (h.mono hB)) (by have := h.size; omega) (Nat.le_refl _) (by unfold maxLen at hm ⊢; omega) (by omega))
  have E1 := Lib.hid (fun h => sp_err d (s := s) h)
  have E2 := Lib.hid (fun h h2 => sp_short d (s := s) h h2)
  have E3 := Lib.hid (fun h h2 h3 => sp_leaf d (s := s) hsz h h2 h3)
  have E4 := Lib.hid (fun h h2 h3 c o acc h4 h5 => sp_kerr d (s := s) h h2 h3 (c := c) (o := o) (acc := acc) h4 h5)
  have E5 := Lib.hid (fun h h2 h3 acc h4 => sp_node d (s := s) hsz h h2 h3 (acc := acc) h4)
  have FIT := Lib.hid (fun h h2 => sp_fit (s := s) h h2)
  have HS := Lib.hid hs
  have IH := Lib.hid ih
  have hss' := Lib.hid hss
  have CO : conS s = (s.drop (rh s).1.size.toNat).take (rh s).1.len.toNat := rfl
  generalize conS s = con at *
  clear ih hr RK hss hsz
  generalize rh s = r at *
  obtain ⟨⟨k1, k2, k3, k4, k5⟩, r1, r2⟩ := r
  simp only [rhV, hdV] at RH E1 E2 E3 E4 E5 FIT CO d1 d2 d3 d4 d5 d6 d7 d8
  have CON := Lib.hid CO
  clear CO
  have e0 : decide ((d : Int) + 1 = 0) = false := by simp only [decide_eq_false_iff_not]; omega
  have ha' : (at_ : Int) ≤ (en : Int) := by omega
  have he' : (en : Int) ≤ (c : Int) := by omega
  have he'' : (en : Int) ≤ (n : Int) := by omega
  go_enter Try.func36, Try.ntmps36
  go_upto_region 5 with (first | (go_at_call 45; go_must (refine (RH.out _ (((Below.refl _ _).alloc (Nat.le_refl _) _).alloc (by simp) _)).mono ?_); rintro e w1 ⟨rfl, hb⟩))
  obtain ⟨t2, t5, bel⟩ := box2 hb
  have hs2 := hb.size
  simp only [World.size_alloc] at hs2
  replace t2 := bk_old (o' := (.cells #[.int .i64 r1, .int .i64 r2] 29)) (bk_old (o' := (.cells #[.int .i64 k1, .int .i64 k2, .bool k3, .int .i64 k4, .int .i64 k5] 70)) t2)
  replace t5 := bk_old (o' := (.cells #[.int .i64 r1, .int .i64 r2] 29)) (bk_old (o' := (.cells #[.int .i64 k1, .int .i64 k2, .bool k3, .int .i64 k4, .int .i64 k5] 70)) t5)
  have t6 : ((w1.alloc (.cells #[.int .i64 k1, .int .i64 k2, .bool k3, .int .i64 k4, .int .i64 k5] 70)).alloc (.cells #[.int .i64 r1, .int .i64 r2] 29)).heap[w1.heap.size]? = _ := bk_old (bk_new rfl)
  have t7 : ((w1.alloc (.cells #[.int .i64 k1, .int .i64 k2, .bool k3, .int .i64 k4, .int .i64 k5] 70)).alloc (.cells #[.int .i64 r1, .int .i64 r2] 29)).heap[w1.heap.size + 1]? = _ := bk_new (by simp)
  replace bel := (bel.alloc bel.size (.cells #[.int .i64 k1, .int .i64 k2, .bool k3, .int .i64 k4, .int .i64 k5] 70)).alloc (by simp; have := bel.size; omega) (.cells #[.int .i64 r1, .int .i64 r2] 29)
  have hz2 : ((w1.alloc (.cells #[.int .i64 k1, .int .i64 k2, .bool k3, .int .i64 k4, .int .i64 k5] 70)).alloc (.cells #[.int .i64 r1, .int .i64 r2] 29)).heap.size = w1.heap.size + 1 + 1 := by simp
  have n1 : ¬ w1.heap.size = w.heap.size := by omega
  have n2 : ¬ w1.heap.size = w.heap.size + 1 := by omega
  have n3 : ¬ w.heap.size = w1.heap.size := by omega
  have n4 : ¬ w.heap.size + 1 = w1.heap.size := by omega
  have m1 : ¬ w1.heap.size + 1 = w.heap.size := by omega
  have m2 : ¬ w1.heap.size + 1 = w.heap.size + 1 := by omega
  have m3 : ¬ w.heap.size = w1.heap.size + 1 := by omega
  have m4 : ¬ w.heap.size + 1 = w1.heap.size + 1 := by omega
  have hlo : w.heap.size + 2 ≤ w1.heap.size := by omega
  clear hb hs2 RH
  generalize hg7 : w1.heap.size + 1 = b7 at *
  generalize hg6 : w1.heap.size = b6 at *
  generalize ((w1.alloc (.cells #[.int .i64 k1, .int .i64 k2, .bool k3, .int .i64 k4, .int .i64 k5] 70)).alloc (.cells #[.int .i64 r1, .int .i64 r2] 29)) = w2 at *
  have HG7 := Lib.hid hg7
  have HZ2 := Lib.hid hz2
  have n67 : ¬ b6 = b7 := by omega
  have n76 : ¬ b7 = b6 := by omega
  have b7lo : w.heap.size + 2 ≤ b7 := by omega
  clear hz2 hg7 hg6 w1
  have T2 := Lib.hid t2
  have T5 := Lib.hid t5
  have T6 := Lib.hid t6
  have BE := Lib.hid bel
  obtain ⟨u0, u1, u2, u3, u4⟩ := cells5 t6
  obtain ⟨v0, v1⟩ := cells2 t7
  clear t2 t5 t6 t7 bel hA1
  by_cases hz : r1 = 0
  · have E2' := Lib.hid (E2.out (by omega))
    have E3' := Lib.hid (E3.out (by omega))
    have E4' := Lib.hid (E4.out (by omega))
    have E5' := Lib.hid (E5.out (by omega))
    have FIT' := Lib.hid (FIT.out (by omega))
    clear E1 E2 E3 E4 E5 FIT
    subst hz
    obtain ⟨sz, rfl⟩ := Int.eq_ofNat_of_zero_le d3
    obtain ⟨m, rfl⟩ := Int.eq_ofNat_of_zero_le d1
    have hsb : (sz : Int) ≤ 6 := by omega
    by_cases hcut : (en : Int) - ((at_ : Int) + (sz : Int)) < (m : Int)
    · have E := Lib.hid (E2'.out (by rw [HS.out]; omega))
      clear E2' E3' E4' E5' FIT'
      
      go_wp2_with fail
      go_must (go_fit (fail_any _ _ _))
      rintro e3 w3 ⟨rfl, hb3⟩
      have t2 := stayK T2.out hb3
      have t5 := stayK T5.out hb3
      have bel3 := two_belowK BE.out hb3 BE.out.size
      have tc := cells8 (far2 (c := w.heap.size + 1) (set8 (.int .i64 0) (.int .i64 0) (.int .i64 0) (.int .i64 0) (.bool false) (.slice none 0 0) (.slice none 0 0) (.slice none 0 0) t2) (by omega) (.int .i64 1) (.int .i64 (en : Int)))
      have td := cells2 (set2 (.int .i64 1) (.int .i64 (en : Int)) (far8 (c := w.heap.size) t5 (by omega) (.int .i64 0) (.int .i64 0) (.int .i64 0) (.int .i64 0) (.bool false) (.slice none 0 0) (.slice none 0 0) (.slice none 0 0)))
      obtain ⟨f0, f1, f2, f3, f4, f5, f6, f7⟩ := free8 t2
      obtain ⟨g0, g1, -, -, -⟩ := free5 t5
      obtain ⟨q0, q1, q2, q3, q4, q5, q6, q7⟩ := cells8 t2
      obtain ⟨s0, s1⟩ := cells2 t5
      clear t2 t5 hb3
      go_wp2
      clear q0 q1 q2 q3 q4 q5 q6 q7 f0 f1 f2 f3 f4 f5 f6 f7 s0 s1 g0 g1
      refine bodyPost_ret (v := .tuple #[zeroS, err 1 (en : Int)]) (by simp [results, Try.results36, go_sem, *]) rfl ?_
      rw [E.out]
      exact SpQ.bad _ _ rfl (by omega) (by rw [HS.out]; simp only []; omega) (by repeat' (first | (with_reducible exact Below.refl _ _) | (with_reducible assumption) | (with_reducible refine below_drewN ?_ _) | (with_reducible refine Below.drew ?_) | (with_reducible refine Below.alloc ?_ ?_ _) | (with_reducible refine Below.setCell ?_ ?_ _) | go_size))
    · obtain ⟨z1, z2, z3⟩ := FIT'.out (by rw [HS.out]; omega)
      have E3 := Lib.hid (E3'.out (by rw [HS.out]; omega))
      have E4 := Lib.hid (E4'.out (by rw [HS.out]; omega))
      have E5 := Lib.hid (E5'.out (by rw [HS.out]; omega))
      clear E2' E3' E4' E5' FIT'
      obtain rfl : m = con.length := by omega
      obtain ⟨b0, hb0⟩ : ∃ b0 : Nat, at_ + sz = b0 := ⟨_, rfl⟩
      obtain ⟨ee, hee⟩ : ∃ ee : Nat, b0 + con.length = ee := ⟨_, rfl⟩
      have hb0z : (at_ : Int) + (sz : Int) = (b0 : Int) := by omega
      have hez : (b0 : Int) + (con.length : Int) = (ee : Int) := by omega
      have hL : ee - b0 = con.length := by omega
      have hbe : b0 ≤ ee := by omega
      have hen : ee ≤ n := by omega
      have CO : con = (l.drop b0).take con.length := by
        have e := CON.out
        simp only [Int.toNat_natCast] at e
        have e2 := CC.out sz con.length (by omega)
        rw [hb0] at e2
        rw [← e2]
        exact e
      have RC := HR.out.cut (k := b0) (m := ee) (cap := c) hbe hen (by omega)
      simp only [Nat.mul_one] at RC
      obtain ⟨A2, hA2⟩ : ∃ A2, (if c = b0 then A else Option.map (fun x => x.add b0) A) = A2 := ⟨_, rfl⟩
      rw [hA2, hL, ← CO] at RC
      have CL := Lib.hid (fun (X : World) (h : Below w.heap.size w X) => Cur.clone_any A2 con.length (c - b0) con X (RC.below (h.mono hB)) (by omega) (by have := h.size; omega))
      have CON2 := Lib.hid CO
      have HB0 := Lib.hid hb0
      have HEE := Lib.hid hee
      have hbez : (b0 : Int) ≤ (ee : Int) := by omega
      have henz : (ee : Int) ≤ (n : Int) := by omega
      have hecz : (ee : Int) ≤ (c : Int) := by omega
      clear CO RC hb0 hee CON CC
      go_upto_region 11 with fail
      clear u0 u1 u2 u3 u4 v0 v1
      have t2 := bk_old (o' := (.cells #[.int .i64 (at_ : Int), .int .i64 (ee : Int), .int .i64 k1, .int .i64 k2, .bool k3, .slice none 0 0, .slice none 0 0, .slice none 0 0] 53)) T2.out
      have t5 := bk_old (o' := (.cells #[.int .i64 (at_ : Int), .int .i64 (ee : Int), .int .i64 k1, .int .i64 k2, .bool k3, .slice none 0 0, .slice none 0 0, .slice none 0 0] 53)) T5.out
      have t6 := bk_old (o' := (.cells #[.int .i64 (at_ : Int), .int .i64 (ee : Int), .int .i64 k1, .int .i64 k2, .bool k3, .slice none 0 0, .slice none 0 0, .slice none 0 0] 53)) T6.out
      have t11 : (w2.alloc (.cells #[.int .i64 (at_ : Int), .int .i64 (ee : Int), .int .i64 k1, .int .i64 k2, .bool k3, .slice none 0 0, .slice none 0 0, .slice none 0 0] 53)).heap[w2.heap.size]? = _ := bk_new rfl
      have bel := BE.out.alloc BE.out.size (.cells #[.int .i64 (at_ : Int), .int .i64 (ee : Int), .int .i64 k1, .int .i64 k2, .bool k3, .slice none 0 0, .slice none 0 0, .slice none 0 0] 53)
      have hz4 : (w2.alloc (.cells #[.int .i64 (at_ : Int), .int .i64 (ee : Int), .int .i64 k1, .int .i64 k2, .bool k3, .slice none 0 0, .slice none 0 0, .slice none 0 0] 53)).heap.size = w2.heap.size + 1 := by simp
      have hb11 := HZ2.out
      generalize w2.heap.size = b11 at *
      generalize w2.alloc (.cells #[.int .i64 (at_ : Int), .int .i64 (ee : Int), .int .i64 k1, .int .i64 k2, .bool k3, .slice none 0 0, .slice none 0 0, .slice none 0 0] 53) = w3 at *
      clear T2 T5 T6 BE HZ2 w2
      have hbb := HG7.out
      have T2 := Lib.hid t2
      have T5 := Lib.hid t5
      have T6 := Lib.hid t6
      have T11 := Lib.hid t11
      have BE := Lib.hid bel
      have n6b : ¬ b6 = b11 := by omega
      have nb6 : ¬ b11 = b6 := by omega
      have nwb : ¬ w.heap.size = b11 := by omega
      have nbw : ¬ b11 = w.heap.size := by omega
      have nwb1 : ¬ w.heap.size + 1 = b11 := by omega
      have nbw1 : ¬ b11 = w.heap.size + 1 := by omega
      obtain ⟨u0, u1, u2, u3, u4⟩ := cells5 t6
      obtain ⟨v0, v1, v2, v3, v4, v5, v6, v7⟩ := cells8 t11
      obtain ⟨f0, f1, f2, f3, f4, f5, f6, f7⟩ := free8 t11
      have HZ4 := Lib.hid hz4
      have HB11 := Lib.hid hb11
      have hwb : w.heap.size + 1 < b11 := by omega
      have hbs : b11 < w3.heap.size := by omega
      clear t2 t5 t6 t11 bel hz4 hb11 hbb
      cases k3 with
      | false =>  
        have E := Lib.hid (E3.out rfl)
        clear E3 E4 E5 IH
        go_upto_region 13 with (first | (go_at_call 38; go_must (refine (CL.out _ BE.out).mono ?_); rintro e4 w4 ⟨A4, c4, rfl, ho4, hb4⟩; clear u0 u1 u2 u3 u4 v0 v1 v2 v3 v4 v5 v6 v7 f0 f1 f2 f3 f4 f5 f6 f7; have t11 := stayK T11.out hb4; have TT := Lib.hid t11; obtain ⟨v0, v1, v2, v3, v4, v5, v6, v7⟩ := cells8 t11; obtain ⟨f0, f1, f2, f3, f4, f5, f6, f7⟩ := free8 t11; clear t11))
        clear v0 v1 v2 v3 v4 v5 v6 v7 f0 f1 f2 f3 f4 f5 f6 f7
        have t2 := set_far (k := 5) (stayK T2.out hb4) nwb (.slice A4 con.length c4)
        have t5 := set_far (k := 5) (stayK T5.out hb4) nwb1 (.slice A4 con.length c4)
        have t11 := set8at5 (.slice A4 con.length c4) TT.out
        have ow : Own (w4.setCell ⟨b11, 5, none⟩ (.slice A4 con.length c4)) w3.heap.size A4 con.length c4 con := ho4.setOld (by simp; omega) _
        have bel := (two_belowK BE.out hb4 BE.out.size).setCell (p := ⟨b11, 5, none⟩) (by simp; omega) (.slice A4 con.length c4)
        generalize w4.setCell ⟨b11, 5, none⟩ (.slice A4 con.length c4) = w5 at *
        clear T2 T5 T6 T11 TT BE ho4 hb4 HZ4 CL w4
        have T2 := Lib.hid t2
        have T5 := Lib.hid t5
        have OW := Lib.hid ow
        have BE := Lib.hid bel
        obtain ⟨q0, q1, q2, q3, q4, q5, q6, q7⟩ := cells8 t2
        obtain ⟨f0, f1, f2, f3, f4, f5, f6, f7⟩ := free8 t2
        obtain ⟨s0, s1⟩ := cells2 t5
        obtain ⟨g0, g1, -, -, -⟩ := free5 t5
        obtain ⟨v0, v1, v2, v3, v4, v5, v6, v7⟩ := cells8 t11
        clear t2 t5 t11 ow bel
        go_wp2
        clear q0 q1 q2 q3 q4 q5 q6 q7 f0 f1 f2 f3 f4 f5 f6 f7 s0 s1 g0 g1 v0 v1 v2 v3 v4 v5 v6 v7
        have tc := cells8 (far2 (c := w.heap.size + 1) (set8 (.int .i64 (at_ : Int)) (.int .i64 (ee : Int)) (.int .i64 k1) (.int .i64 k2) (.bool false) (.slice A4 con.length c4) (.slice none 0 0) (.slice none 0 0) T2.out) (by omega) (.int .i64 0) (.int .i64 0))
        have td := cells2 (set2 (.int .i64 0) (.int .i64 0) (far8 (c := w.heap.size) T5.out (by omega) (.int .i64 (at_ : Int)) (.int .i64 (ee : Int)) (.int .i64 k1) (.int .i64 k2) (.bool false) (.slice A4 con.length c4) (.slice none 0 0) (.slice none 0 0)))
        refine bodyPost_ret (v := .tuple #[.agg #[.int .i64 (at_ : Int), .int .i64 (ee : Int), .int .i64 k1, .int .i64 k2, .bool false, .slice A4 con.length c4, .slice none 0 0, .slice none 0 0], err 0 0]) (by simp [results, Try.results36, go_sem, *]) rfl ?_
        rw [E.out.1]
        have bel := BE.out
        have kk : ∀ X : World, Keeps (fun b => w3.heap.size ≤ b ∧ b < w5.heap.size) w5 X → Below w.heap.size w X → w5.heap.size ≤ X.heap.size → SpQ (d + 1) w at_ ⟨.mk k1 k2 false con [], (sz : Int) + (con.length : Int), 0, 0⟩ (.returned (.tuple #[.agg #[.int .i64 (at_ : Int), .int .i64 (ee : Int), .int .i64 k1, .int .i64 k2, .bool false, .slice A4 con.length c4, .slice none 0 0, .slice none 0 0], err 0 0])) X := by
          intro X hX hbX hsX
          refine ⟨_, _, _, _, _, _, _, _, _, _, _, _, _, _, _, rfl, fun _ => ⟨?_, rfl⟩, fun h => absurd rfl h, hbX⟩
          refine ⟨A4, c4, none, 0, none, 0, [], ?_, ⟨A4, c4, none, 0, [], rfl, ((RdP.own OW.out).keep hX).mono (fun b h => ⟨by omega, by omega⟩), OW.out.cap, OW.out.capMax, (fun j u h => by simp at h), rfl⟩, (fun j u h => by simp at h), rfl⟩
          rw [E.out.2, show (at_ : Int) + ((sz : Int) + (con.length : Int)) = (ee : Int) from by omega]
          rfl
        exact kk _ (by repeat' (first | (with_reducible assumption) | (with_reducible exact Keeps.refl _ _) | (with_reducible refine Keeps.drewN ?_ _) | (with_reducible refine Keeps.drew ?_) | (with_reducible refine Keeps.set ?_ ?_ _) | (intro b hb; simp only [ne_eq]; omega))) (by repeat' (first | (with_reducible exact Below.refl _ _) | (with_reducible assumption) | (with_reducible refine below_drewN ?_ _) | (with_reducible refine Below.drew ?_) | (with_reducible refine Below.alloc ?_ ?_ _) | (with_reducible refine Below.setCell ?_ ?_ _) | go_size)) (by simp)
      | true =>  
        clear E3 CL
        replace E4 := Lib.hid (E4.out rfl)
        replace E5 := Lib.hid (E5.out rfl)
        obtain ⟨r, hr0⟩ : ∃ r, kidsA (readT d) con (con.length + 1) 0 [] = r := ⟨_, rfl⟩
        rw [hr0] at E4 E5
        have R0 := Lib.hid hr0
        have CE := Lib.hid (fun (p f : Nat) (acc : List T) (h : p < con.length) he => kidsA_err (rd := readT d) (l := con) (f := f) (acc := acc) h he)
        have CS := Lib.hid (fun (p f : Nat) (acc : List T) (h : p < con.length) he => kidsA_step (rd := readT d) (l := con) (f := f) (acc := acc) h he)
        have CZ := Lib.hid (fun (f p : Nat) (acc : List T) (h : con.length ≤ p) => kidsA_end (readT d) con f p acc h)
        have BD := Lib.hid (fun p => readT_bd d (con.drop p) (by rw [List.length_drop]; omega))
        have SZ := Lib.hid (fun p => read_size d (con.drop p) (by rw [List.length_drop]; omega))
        have CD := Lib.hid (fun q (h0 : b0 ≤ q) => show con.drop (q - b0) = (l.drop q).take (ee - q) from by
          refine (congrArg (fun z : List UInt8 => z.drop (q - b0)) CON2.out).trans ?_
          show ((l.drop b0).take con.length).drop (q - b0) = _
          rw [cut_drop, show b0 + (q - b0) = q from by omega, show con.length - (q - b0) = ee - q from by omega])
        clear hr0
        go_wp2
        
        go_loopw [13] (fun i wr => SpoL d w b11 B A n l con k1 k2 at_ b0 ee r i wr) (fun i _ => ee - (intOf i).toNat)
        case atStart =>
          exact ⟨b0, con.length + 1, none, 0, none, 0, [], [], [], rfl, Nat.le_refl _, hbe, World.ownsRow_nil _ _ _ _, World.ownsRow_nil _ _ _ _, (fun g h => by cases h), rfl, rfl, T2.out, T5.out, T11.out, HR.out.below (BE.out.mono hB), BE.out, by rw [Nat.sub_self]; exact R0.out, by omega, Nat.zero_le _, by rw [Nat.sub_self]; rfl⟩
        case round =>
          obtain ⟨q, f, K, ck, S, cs, acc, xs, ys, rfl, hq0, hq1, hos, hok, hdif, hrs, hrk, h2, h5, h11, hrw, hb, hkr, hf, hacc, hsum⟩ := hrel
          clear T2 T5 T6 T11 BE R0 HZ4 hbs u0 u1 u2 u3 u4 v0 v1 v2 v3 v4 v5 v6 v7 f0 f1 f2 f3 f4 f5 f6 f7
          have T2 := Lib.hid h2
          have T5 := Lib.hid h5
          have T11 := Lib.hid h11
          have RW := Lib.hid hrw
          have BE := Lib.hid hb
          have OS := Lib.hid hos
          have OK := Lib.hid hok
          have DI := Lib.hid hdif
          have RS := Lib.hid hrs
          have RK := Lib.hid hrk
          have KR := Lib.hid hkr
          have HF := Lib.hid hf
          have SU := Lib.hid hsum
          have zb := Blk_lt h11
          have hBr : B ≤ wr.heap.size := Nat.le_trans hB hb.size
          obtain ⟨v0, v1, v2, v3, v4, v5, v6, v7⟩ := cells8 h11
          clear h2 h5 hrw hb hos hok hdif hrs hrk hkr hf hsum v0 v2 v3 v4 v5 v6 v7 h11
          by_cases hlt : q < ee
          · obtain ⟨f', rfl⟩ : ∃ f', f = f' + 1 := ⟨f - 1, by have := HF.out; omega⟩
            have hqz : (q : Int) < (ee : Int) := by omega
            have S1 := Lib.hid (CE.out (q - b0) f' acc (by omega))
            have S2 := Lib.hid (CS.out (q - b0) f' acc (by omega))
            have RD := Lib.hid (IH.out q ee wr RW.out hBr hq1 hen)
            have bd := BD.out (q - b0)
            have sz1 := SZ.out (q - b0)
            have cd := CD.out q hq0
            have hld : (con.drop (q - b0)).length = ee - q := by rw [List.length_drop]; omega
            rw [cd] at S1 S2 bd sz1 hld
            rw [hld] at bd
            clear CE CS CZ BD SZ CD IH cd hld
            generalize readT d ((l.drop q).take (ee - q)) = qq at *
            obtain ⟨qt, qs, qc, qo⟩ := qq
            simp only [RtOk] at S1 S2 bd sz1
            have BD := Lib.hid bd
            have SZ := Lib.hid sz1
            clear bd sz1
            go_upto_region 16 with (first | (go_at_call 36; go_must (go_fit RD.out); rintro e4 w4 ⟨x, y, g1, g2, g3, A6, m6, c6, K6, m7, c7, K7, m8, c8, qe, rfl, hok, hbad, hb4⟩))
            have zs4 := hb4.size
            have t2 := bk_old (o' := (.cells #[.int .i64 qc, .int .i64 qe] 29)) (bk_old (o' := (.cells #[.int .i64 x, .int .i64 y, .int .i64 g1, .int .i64 g2, .bool g3, .slice A6 m6 c6, .slice K6 m7 c7, .slice K7 m8 c8] 53)) (stayK T2.out hb4))
            have t5 := bk_old (o' := (.cells #[.int .i64 qc, .int .i64 qe] 29)) (bk_old (o' := (.cells #[.int .i64 x, .int .i64 y, .int .i64 g1, .int .i64 g2, .bool g3, .slice A6 m6 c6, .slice K6 m7 c7, .slice K7 m8 c8] 53)) (stayK T5.out hb4))
            have t11 := bk_old (o' := (.cells #[.int .i64 qc, .int .i64 qe] 29)) (bk_old (o' := (.cells #[.int .i64 x, .int .i64 y, .int .i64 g1, .int .i64 g2, .bool g3, .slice A6 m6 c6, .slice K6 m7 c7, .slice K7 m8 c8] 53)) (stayK T11.out hb4))
            have t13 : ((w4.alloc (.cells #[.int .i64 x, .int .i64 y, .int .i64 g1, .int .i64 g2, .bool g3, .slice A6 m6 c6, .slice K6 m7 c7, .slice K7 m8 c8] 53)).alloc (.cells #[.int .i64 qc, .int .i64 qe] 29)).heap[w4.heap.size]? = _ := bk_old (bk_new rfl)
            have t15 : ((w4.alloc (.cells #[.int .i64 x, .int .i64 y, .int .i64 g1, .int .i64 g2, .bool g3, .slice A6 m6 c6, .slice K6 m7 c7, .slice K7 m8 c8] 53)).alloc (.cells #[.int .i64 qc, .int .i64 qe] 29)).heap[w4.heap.size + 1]? = _ := bk_new (by simp)
            have ows := ((owns_below OS.out hb4 (Nat.le_refl _)).alloc (.cells #[.int .i64 x, .int .i64 y, .int .i64 g1, .int .i64 g2, .bool g3, .slice A6 m6 c6, .slice K6 m7 c7, .slice K7 m8 c8] 53)).alloc (.cells #[.int .i64 qc, .int .i64 qe] 29)
            have owk := ((owns_below OK.out hb4 (Nat.le_refl _)).alloc (.cells #[.int .i64 x, .int .i64 y, .int .i64 g1, .int .i64 g2, .bool g3, .slice A6 m6 c6, .slice K6 m7 c7, .slice K7 m8 c8] 53)).alloc (.cells #[.int .i64 qc, .int .i64 qe] 29)
            have rw5 := ((RW.out.below (hb4.mono hBr)).alloc (by omega) (.cells #[.int .i64 x, .int .i64 y, .int .i64 g1, .int .i64 g2, .bool g3, .slice A6 m6 c6, .slice K6 m7 c7, .slice K7 m8 c8] 53)).alloc (by simp; omega) (.cells #[.int .i64 qc, .int .i64 qe] 29)
            have bel := ((BE.out.trans (hb4.mono (by have := BE.out.size; exact this))).alloc (by have := BE.out.size; omega) (.cells #[.int .i64 x, .int .i64 y, .int .i64 g1, .int .i64 g2, .bool g3, .slice A6 m6 c6, .slice K6 m7 c7, .slice K7 m8 c8] 53)).alloc (by have := BE.out.size; simp; omega) (.cells #[.int .i64 qc, .int .i64 qe] 29)
            have k0 : Keeps (fun b => b < wr.heap.size) wr ((w4.alloc (.cells #[.int .i64 x, .int .i64 y, .int .i64 g1, .int .i64 g2, .bool g3, .slice A6 m6 c6, .slice K6 m7 c7, .slice K7 m8 c8] 53)).alloc (.cells #[.int .i64 qc, .int .i64 qe] 29)) := Keeps.trans (Keeps.trans (Keeps.below hb4 (fun b h => h)) (Keeps.alloc _ _ (fun b h => by omega))) (Keeps.alloc _ _ (fun b h => by simp; omega))
            have k1' : Keeps (fun b => b < w4.heap.size) w4 ((w4.alloc (.cells #[.int .i64 x, .int .i64 y, .int .i64 g1, .int .i64 g2, .bool g3, .slice A6 m6 c6, .slice K6 m7 c7, .slice K7 m8 c8] 53)).alloc (.cells #[.int .i64 qc, .int .i64 qe] 29)) := Keeps.trans (Keeps.alloc _ _ (fun b h => h)) (Keeps.alloc _ _ (fun b h => by simp; omega))
            replace hok : qc = 0 → SpotR d ((w4.alloc (.cells #[.int .i64 x, .int .i64 y, .int .i64 g1, .int .i64 g2, .bool g3, .slice A6 m6 c6, .slice K6 m7 c7, .slice K7 m8 c8] 53)).alloc (.cells #[.int .i64 qc, .int .i64 qe] 29)) (fun b => wr.heap.size ≤ b ∧ b < w4.heap.size) (.agg #[.int .i64 x, .int .i64 y, .int .i64 g1, .int .i64 g2, .bool g3, .slice A6 m6 c6, .slice K6 m7 c7, .slice K7 m8 c8]) q qt ∧ qe = 0 := fun h => ⟨(hok h).1.keep (k1'.imp (fun b h => h.2)), (hok h).2⟩
            have hz5 : ((w4.alloc (.cells #[.int .i64 x, .int .i64 y, .int .i64 g1, .int .i64 g2, .bool g3, .slice A6 m6 c6, .slice K6 m7 c7, .slice K7 m8 c8] 53)).alloc (.cells #[.int .i64 qc, .int .i64 qe] 29)).heap.size = w4.heap.size + 2 := by simp
            clear k1' hb4 RD
            generalize hg13 : w4.heap.size = b13 at *
            generalize ((w4.alloc (.cells #[.int .i64 x, .int .i64 y, .int .i64 g1, .int .i64 g2, .bool g3, .slice A6 m6 c6, .slice K6 m7 c7, .slice K7 m8 c8] 53)).alloc (.cells #[.int .i64 qc, .int .i64 qe] 29)) = w5 at *
            clear hg13 w4
            have HZ5 := Lib.hid hz5
            have U2 := Lib.hid t2
            have U5 := Lib.hid t5
            have U11 := Lib.hid t11
            have U13 := Lib.hid t13
            have OS5 := Lib.hid ows
            have OK5 := Lib.hid owk
            have RW5 := Lib.hid rw5
            have BE5 := Lib.hid bel
            have K0 := Lib.hid k0
            have HOK := Lib.hid hok
            have nb13 : ¬ b13 = b11 := by omega
            have nb13' : ¬ b11 = b13 := by omega
            clear v1
            obtain ⟨x0, x1, x2, x3, x4, x5, x6, x7⟩ := cells8 t13
            obtain ⟨y0, y1⟩ := cells2 t15
            obtain ⟨v0, v1, v2, v3, v4, v5, v6, v7⟩ := cells8 t11
            obtain ⟨q0, q1, q2, q3, q4, q5, q6, q7⟩ := cells8 t2
            obtain ⟨f0, f1, f2, f3, f4, f5, f6, f7⟩ := free8 t2
            obtain ⟨s0, s1⟩ := cells2 t5
            obtain ⟨g0', g1', -, -, -⟩ := free5 t5
            clear t2 t5 t11 t13 t15 ows owk rw5 bel k0 hz5 hok
            by_cases hz : qc = 0
            · clear hbad      
              obtain ⟨hsp, hqe⟩ := HOK.out hz
              subst hqe
              subst hz
              obtain ⟨A', c', K', ck', S', cs', hev, hnv⟩ := hsp.form
              simp only [spotV, Value.agg.injEq, Array.mk.injEq, List.cons.injEq, and_true, Value.int.injEq, Value.bool.injEq, Value.slice.injEq, true_and] at hev
              obtain ⟨rfl, rfl, rfl, rfl, rfl, ⟨rfl, rfl, rfl⟩, ⟨rfl, rfl, rfl⟩, ⟨rfl, rfl, rfl⟩⟩ := hev
              have NVN := Lib.hid hnv
              clear HOK hnv
              obtain ⟨bo, b2, b3⟩ := BD.out.1 rfl
              have zq := SZ.out rfl
              subst zq
              have EE := Lib.hid ((S2.out rfl).symm.trans KR.out)
              simp only [Int.toNat_natCast] at EE
              obtain ⟨mz, hmz⟩ : ∃ mz, szT d qt = mz := ⟨_, rfl⟩
              have HMZ := Lib.hid hmz
              rw [hmz] at x1 b2 b3 EE U13 hsp
              clear hmz
              have qm : q + mz ≤ ee := by omega
              have hmm : (q : Int) + (mz : Int) = ((q + mz : Nat) : Int) := by omega
              obtain ⟨qn, hqn⟩ : ∃ qn : Nat, q + mz = qn := ⟨_, rfl⟩
              rw [show q - b0 + mz = qn - b0 from by omega] at EE
              rw [hqn] at hmm qm
              have HQ2 := Lib.hid hqn
              have hqb : b0 ≤ qn := by omega
              have hq12 : q < qn := by omega
              clear hqn
              rw [hmm] at x1 U13 hsp
              have SPN := Lib.hid hsp
              have hlim8 : (acc.length + 1) * 112 ≤ 140737488355328 := by omega
              have hlim5 : (acc.length + 1) * 72 ≤ 140737488355328 := by omega
              have lb : b11 + 1 ≤ w5.heap.size := by have := HZ5.out; omega
              have hsl : sumS (szT d) (acc ++ [qt]) = qn - b0 := by
                have := SU.out
                rw [sumS_szK] at this ⊢
                rw [szK_snoc, HMZ.out, this]
                have := HQ2.out
                omega
              have HSL := Lib.hid hsl
              clear S1 S2 BD SZ KR hmm E4 E5 hsp hsl b2 b3 q0 q1 q2 q3 q4 q5 q6 q7 f0 f1 f2 f3 f4 f5 f6 f7 s0 s1 g0' g1'
              go_upto_region 18 with fail
              clear y0 y1
              go_upto_region 19 with (first | (at_builtin; go_must (refine appS rfl (.tmp 107) (.tmp 109) 51 8 112 _ rfl Try.underlying51 infoSpot rfl (by decide) (by decide) rfl OS5.out rfl (cells_one8 _ _ _ _ _ _ _ _ _ _ _ _ _ _) rfl rfl hlim8 lb ?_; intro A9 c9 w6 ho6 hg6 hb6 hs6; clear x0 x1 x2 x3 x4 x5 x6 x7 v0 v1 v2 v3 v4 v5 v6 v7; have t11 := far_own (b := b11) OS5.out hg6 (bk_old U11.out) (.inl (Nat.lt_succ_self _)); have TT := Lib.hid t11; obtain ⟨v0, v1, v2, v3, v4, v5, v6, v7⟩ := cells8 t11; obtain ⟨f0, f1, f2, f3, f4, f5, f6, f7⟩ := free8 t11; clear t11)))
              clear v0 v1 v2 v3 v4 v5 v6 v7 f0 f1 f2 f3 f4 f5 f6 f7
              have zw5 := HZ5.out
              have w6lo := hg6.size
              simp only [World.size_alloc] at w6lo
              have t2 := set_far (k := 7) (far_own (b := w.heap.size) OS5.out hg6 (bk_old U2.out) (.inl (by omega))) nwb (.slice A9 (acc.length + 1) c9)
              have t5 := set_far (k := 7) (far_own (b := w.heap.size + 1) OS5.out hg6 (bk_old U5.out) (.inl (by omega))) nwb1 (.slice A9 (acc.length + 1) c9)
              have t13 := set_far (k := 7) (far_own (b := b13) OS.out hg6 (bk_old U13.out) (.inr zs4)) nb13 (.slice A9 (acc.length + 1) c9)
              have t11 := set8at7 (.slice A9 (acc.length + 1) c9) TT.out
              have rw7 := (RW5.out.below (hb6.mono (show B ≤ b11 + 1 by omega))).setCell (p := ⟨b11, 7, none⟩) (by simp; omega) (.slice A9 (acc.length + 1) c9)
              have bel7 := (BE5.out.trans (hb6.mono (show w.heap.size ≤ b11 + 1 by omega))).setCell (p := ⟨b11, 7, none⟩) (by simp; omega) (.slice A9 (acc.length + 1) c9)
              have ows7 := ownsRow_setCell_below (a := ⟨b11, 7, none⟩) ho6 (by simp only []; omega) (.slice A9 (acc.length + 1) c9)
              have owk7 := ownsRow_setCell_below (a := ⟨b11, 7, none⟩) (owns_grown (OK5.out.alloc _) hg6 (fun g h e => DI.out g e h)) (by simp only []; omega) (.slice A9 (acc.length + 1) c9)
              have kA : Keeps (fun b => b < w5.heap.size ∧ (Value.slice S acc.length cs).ownBlock ≠ some b) w5 w6 := Keeps.trans (Keeps.alloc _ _ (fun b h => h.1)) (Keeps.grown hg6 (fun b h => h.2))
              have kB : Keeps (fun b => b11 < b) w6 (w6.setCell ⟨b11, 7, none⟩ (.slice A9 (acc.length + 1) c9)) := (Keeps.refl _ _).set (by intro b hb; simp only [ne_eq]; omega) _
              have kAB := Keeps.trans (kA.imp (P := fun b => b11 < b ∧ b < w5.heap.size ∧ (Value.slice S acc.length cs).ownBlock ≠ some b) (fun b h => h.2)) (kB.imp (fun b h => h.1))
              have hz7 : (w6.setCell ⟨b11, 7, none⟩ (.slice A9 (acc.length + 1) c9)).heap.size = w6.heap.size := by simp
              clear kA kB hg6 hb6 ho6 TT OS5 OK5 RW5 U2 U5 U11 U13 BE5
              generalize (w6.setCell ⟨b11, 7, none⟩ (.slice A9 (acc.length + 1) c9)) = w7 at *
              have w7lo : w5.heap.size + 1 ≤ w7.heap.size := by omega
              clear hz7 w6lo w6
              have HZ7 := Lib.hid w7lo
              have U2 := Lib.hid t2
              have U5 := Lib.hid t5
              have U11 := Lib.hid t11
              have U13 := Lib.hid t13
              have OS7 := Lib.hid ows7
              have OK7 := Lib.hid owk7
              have RW7 := Lib.hid rw7
              have BE7 := Lib.hid bel7
              have KAB := Lib.hid kAB
              have HS6 := Lib.hid hs6
              obtain ⟨x0, x1, x2, x3, x4, x5, x6, x7⟩ := cells8 t13
              obtain ⟨v0, v1, v2, v3, v4, v5, v6, v7⟩ := cells8 t11
              have lb7 : b11 + 1 ≤ w7.heap.size := by omega
              clear t2 t5 t11 t13 ows7 owk7 rw7 bel7 kAB hs6 zw5 w7lo
              go_upto_region 20 with (first | (at_builtin; go_must (refine appS rfl (.tmp 114) (.tmp 117) 24 5 72 _ rfl Try.underlying24 infoNode rfl (by decide) (by decide) rfl OK7.out rfl (cells_one5 _ _ _ _ _ _ _ _ _) rfl rfl hlim5 lb7 ?_; intro A10 c10 w8 ho8 hg8 hb8 hs8; clear x0 x1 x2 x3 x4 x5 x6 x7 v0 v1 v2 v3 v4 v5 v6 v7; have t11 := far_own (b := b11) OK7.out hg8 (bk_old U11.out) (.inl (Nat.lt_succ_self _)); have TT := Lib.hid t11; obtain ⟨v0, v1, v2, v3, v4, v5, v6, v7⟩ := cells8 t11; obtain ⟨f0, f1, f2, f3, f4, f5, f6, f7⟩ := free8 t11; clear t11)))
              clear v0 v1 v2 v3 v4 v5 v6 v7 f0 f1 f2 f3 f4 f5 f6 f7
              have zw5 := HZ5.out
              have zw7 := HZ7.out
              have w8lo := hg8.size
              simp only [World.size_alloc] at w8lo
              have t2 := set_far (k := 6) (far_own (b := w.heap.size) OK7.out hg8 (bk_old U2.out) (.inl (by omega))) nwb (.slice A10 (acc.length + 1) c10)
              have t5 := set_far (k := 6) (far_own (b := w.heap.size + 1) OK7.out hg8 (bk_old U5.out) (.inl (by omega))) nwb1 (.slice A10 (acc.length + 1) c10)
              have t13 := set_far (k := 6) (far_own (b := b13) OK.out hg8 (bk_old U13.out) (.inr zs4)) nb13 (.slice A10 (acc.length + 1) c10)
              have t11 := set8at6 (.slice A10 (acc.length + 1) c10) TT.out
              have rw9 := (RW7.out.below (hb8.mono (show B ≤ b11 + 1 by omega))).setCell (p := ⟨b11, 6, none⟩) (by simp; omega) (.slice A10 (acc.length + 1) c10)
              have bel9 := (BE7.out.trans (hb8.mono (show w.heap.size ≤ b11 + 1 by omega))).setCell (p := ⟨b11, 6, none⟩) (by simp; omega) (.slice A10 (acc.length + 1) c10)
              have kle : ∀ g, (Value.slice K acc.length ck).ownBlock = some g → b11 < g ∧ g < wr.heap.size := fun g h => ⟨(World.ownsRow.lt OK.out g h).1, (World.ownsRow.lt OK.out g h).2⟩
              have sle : ∀ g, (Value.slice S acc.length cs).ownBlock = some g → b11 < g ∧ g < wr.heap.size := fun g h => ⟨(World.ownsRow.lt OS.out g h).1, (World.ownsRow.lt OS.out g h).2⟩
              have s9le : ∀ g, (Value.slice A9 (acc.length + 1) c9).ownBlock = some g → g < w7.heap.size := fun g h => (World.ownsRow.lt OS7.out g h).2
              have ows9 := ownsRow_setCell_below (a := ⟨b11, 6, none⟩) (owns_grown (OS7.out.alloc _) hg8 (fun g h e => by
                rcases HS6.out with e6 | e6 <;> rw [e6] at h
                · exact DI.out g h e
                · have h := Option.some.inj h
                  have := (kle g e).2
                  omega)) (by simp only []; omega) (.slice A10 (acc.length + 1) c10)
              have owk9 := ownsRow_setCell_below (a := ⟨b11, 6, none⟩) ho8 (by simp only []; omega) (.slice A10 (acc.length + 1) c10)
              have kA : Keeps (fun b => b < w7.heap.size ∧ (Value.slice K acc.length ck).ownBlock ≠ some b) w7 w8 := Keeps.trans (Keeps.alloc _ _ (fun b h => h.1)) (Keeps.grown hg8 (fun b h => h.2))
              have kB : Keeps (fun b => b11 < b) w8 (w8.setCell ⟨b11, 6, none⟩ (.slice A10 (acc.length + 1) c10)) := (Keeps.refl _ _).set (by intro b hb; simp only [ne_eq]; omega) _
              have kCD := Keeps.trans (kA.imp (P := fun b => b11 < b ∧ b < w7.heap.size ∧ (Value.slice K acc.length ck).ownBlock ≠ some b) (fun b h => h.2)) (kB.imp (fun b h => h.1))
              have hz9 : (w8.setCell ⟨b11, 6, none⟩ (.slice A10 (acc.length + 1) c10)).heap.size = w8.heap.size := by simp
              have dif9 : ∀ g, (Value.slice A9 (acc.length + 1) c9).ownBlock = some g → (Value.slice A10 (acc.length + 1) c10).ownBlock ≠ some g := by
                intro g h e
                have h7 := s9le g h
                rcases hs8 with e8 | e8 <;> rw [e8] at e
                · rcases HS6.out with e6 | e6 <;> rw [e6] at h
                  · exact DI.out g h e
                  · have h := Option.some.inj h
                    have := (kle g e).2
                    omega
                · have e := Option.some.inj e
                  omega
              -- an old block that the loop does not write is none of the new ones
              have old9 : ∀ b, PP b11 wr (.slice S acc.length cs) (.slice K acc.length ck) b → PP b11 (w8.setCell ⟨b11, 6, none⟩ (.slice A10 (acc.length + 1) c10)) (.slice A9 (acc.length + 1) c9) (.slice A10 (acc.length + 1) c10) b := by
                intro b h
                refine ⟨h.1, by have := h.2.1; omega, fun e => ?_, fun e => ?_⟩
                · rcases HS6.out with e6 | e6 <;> rw [e6] at e
                  · exact h.2.2.1 e
                  · have e := Option.some.inj e
                    have := h.2.1
                    omega
                · rcases hs8 with e8 | e8 <;> rw [e8] at e
                  · exact h.2.2.2 e
                  · have e := Option.some.inj e
                    have := h.2.1
                    omega
              have new9 : ∀ b, wr.heap.size ≤ b ∧ b < b13 → PP b11 (w8.setCell ⟨b11, 6, none⟩ (.slice A10 (acc.length + 1) c10)) (.slice A9 (acc.length + 1) c9) (.slice A10 (acc.length + 1) c10) b := by
                intro b h
                refine ⟨by omega, by omega, fun e => ?_, fun e => ?_⟩
                · rcases HS6.out with e6 | e6 <;> rw [e6] at e
                  · have := (sle b e).2; omega
                  · have e := Option.some.inj e
                    omega
                · rcases hs8 with e8 | e8 <;> rw [e8] at e
                  · have := (kle b e).2; omega
                  · have e := Option.some.inj e
                    omega
              have keepO : Keeps (PP b11 wr (.slice S acc.length cs) (.slice K acc.length ck)) wr (w8.setCell ⟨b11, 6, none⟩ (.slice A10 (acc.length + 1) c10)) :=
                Keeps.trans (Keeps.trans (K0.out.imp (fun b h => h.2.1)) (KAB.out.imp (fun b h => ⟨h.1, by have := h.2.1; omega, h.2.2.1⟩))) (kCD.imp (fun b h => ⟨h.1, by have := h.2.1; omega, h.2.2.2⟩))
              have keepN : Keeps (fun b => wr.heap.size ≤ b ∧ b < b13) w5 (w8.setCell ⟨b11, 6, none⟩ (.slice A10 (acc.length + 1) c10)) :=
                Keeps.trans (KAB.out.imp (fun b h => ⟨by omega, by omega, fun e => by have := (sle b e).2; omega⟩)) (kCD.imp (fun b h => ⟨by omega, by omega, fun e => by have := (kle b e).2; omega⟩))
              have nsp := SPN.out
              have rows9 : RowS (SpotR d (w8.setCell ⟨b11, 6, none⟩ (.slice A10 (acc.length + 1) c10)) (PP b11 (w8.setCell ⟨b11, 6, none⟩ (.slice A10 (acc.length + 1) c10)) (.slice A9 (acc.length + 1) c9) (.slice A10 (acc.length + 1) c10))) (szT d) b0 (acc ++ [qt]) (xs ++ [.int .i64 (q : Int), .int .i64 (qn : Int), .int .i64 qt.cls, .int .i64 qt.num, .bool qt.cons, .slice A6 qt.con.length c6, .slice K6 qt.kids.length c7, .slice K7 qt.kids.length c8]) := by
                refine RowS.snoc ?_ (RS.out.imp (fun v a t h => (h.keep keepO).mono old9))
                rw [SU.out, show b0 + (q - b0) = q from by omega]
                exact (nsp.keep keepN).mono new9
              have rowk9 : RowR (NodeR d (w8.setCell ⟨b11, 6, none⟩ (.slice A10 (acc.length + 1) c10)) (PP b11 (w8.setCell ⟨b11, 6, none⟩ (.slice A10 (acc.length + 1) c10)) (.slice A9 (acc.length + 1) c9) (.slice A10 (acc.length + 1) c10))) (acc ++ [qt]) (ys ++ [.int .i64 qt.cls, .int .i64 qt.num, .bool qt.cons, .slice A6 qt.con.length c6, .slice K6 qt.kids.length c7]) := by
                refine RowR.snoc ?_ (RK.out.imp (fun v t h => (h.keep keepO).mono old9))
                exact (NVN.out.keep keepN).mono new9
              clear kA kB kCD hz9 w8lo zw5 zw7 hg8 hb8 hs8 ho8 TT OS7 OK7 RW7 BE7 U2 U5 U11 U13 KAB SPN NVN K0 keepO keepN old9 new9 kle sle s9le nsp OS OK DI RS RK
              have hla : (acc ++ [qt]).length = acc.length + 1 := by simp
              generalize (w8.setCell ⟨b11, 6, none⟩ (.slice A10 (acc.length + 1) c10)) = w9 at *
              have REL : SpoL d w b11 B A n l con k1 k2 at_ b0 ee r (.int .i64 (qn : Int)) w9 :=
                ⟨qn, f', A10, c10, A9, c9, acc ++ [qt], _, _, rfl, hqb, qm, by rw [hla]; exact ows9, by rw [hla]; exact owk9, by rw [hla]; exact dif9, by rw [hla]; exact rows9, by rw [hla]; exact rowk9, t2, t5, by rw [hla]; exact t11, rw9, bel9, EE.out, by have := HF.out; omega, by rw [hla]; omega, HSL.out⟩
              have RL := Lib.hid REL
              obtain ⟨x0, x1, x2, x3, x4, x5, x6, x7⟩ := cells8 t13
              clear REL t2 t5 t11 t13 rw9 bel9 ows9 owk9 dif9 rows9 rowk9 T2 T5 T11 RW BE EE HS6
              go_wp2
              go_roundw
              case rel => exact RL.out
              case measure => simp [intOf]; omega
            · clear HOK      
              have EE := KR.out.symm.trans (S1.out hz)
              subst EE
              obtain ⟨-, rfl⟩ := hbad hz
              obtain ⟨-, -, b3, b4, b5⟩ := BD.out.2 hz
              have E := Lib.hid (E4.out _ _ _ rfl hz)
              clear S1 S2 BD E4 E5
              go_upto_region 17 with fail
              go_region
              all_goals
                go_wp2
                clear x0 x1 x2 x3 x4 x5 x6 x7 y0 y1 v0 v1 v2 v3 v4 v5 v6 v7 q0 q1 q2 q3 q4 q5 q6 q7 f0 f1 f2 f3 f4 f5 f6 f7 s0 s1 g0' g1'
                have tc := cells8 (far2 (c := w.heap.size + 1) (set8 (.int .i64 0) (.int .i64 0) (.int .i64 0) (.int .i64 0) (.bool false) (.slice none 0 0) (.slice none 0 0) (.slice none 0 0) U2.out) (by omega) (.int .i64 qc) (.int .i64 ((q : Int) + qo)))
                have td := cells2 (set2 (.int .i64 qc) (.int .i64 ((q : Int) + qo)) (far8 (c := w.heap.size) U5.out (by omega) (.int .i64 0) (.int .i64 0) (.int .i64 0) (.int .i64 0) (.bool false) (.slice none 0 0) (.slice none 0 0) (.slice none 0 0)))
                refine bodyPost_ret (v := .tuple #[zeroS, err qc ((q : Int) + qo)]) (by simp [results, Try.results36, go_sem, *]) rfl ?_
                rw [E.out]
                have bel := BE5.out
                exact SpQ.bad _ _ rfl hz (by simp only []; omega) (by repeat' (first | (with_reducible exact Below.refl _ _) | (with_reducible assumption) | (with_reducible refine below_drewN ?_ _) | (with_reducible refine Below.drew ?_) | (with_reducible refine Below.alloc ?_ ?_ _) | (with_reducible refine Below.setCell ?_ ?_ _) | go_size))
          · skip    
            obtain rfl : q = ee := by omega
            have hkr := KR.out
            have rr := hkr.symm.trans (CZ.out f _ acc (by omega))
            subst rr
            have E := Lib.hid (E5.out acc rfl)
            clear CE CS CZ BD SZ CD IH E4 E5 hkr KR v1
            have OSo := OS.out
            have OKo := OK.out
            have RSo := RS.out
            have RKo := RK.out
            obtain ⟨q0, q1, q2, q3, q4, q5, q6, q7⟩ := cells8 T2.out
            obtain ⟨f0, f1, f2, f3, f4, f5, f6, f7⟩ := free8 T2.out
            obtain ⟨s0, s1⟩ := cells2 T5.out
            obtain ⟨g0', g1', -, -, -⟩ := free5 T5.out
            obtain ⟨v0, v1, v2, v3, v4, v5, v6, v7⟩ := cells8 T11.out
            clear OSo OKo RSo RKo
            go_wp2
            clear q0 q1 q2 q3 q4 q5 q6 q7 f0 f1 f2 f3 f4 f5 f6 f7 s0 s1 g0' g1' v0 v1 v2 v3 v4 v5 v6 v7
            have tc := cells8 (far2 (c := w.heap.size + 1) (set8 (.int .i64 (at_ : Int)) (.int .i64 (q : Int)) (.int .i64 k1) (.int .i64 k2) (.bool true) (.slice none 0 0) (.slice K acc.length ck) (.slice S acc.length cs) T2.out) (by omega) (.int .i64 0) (.int .i64 0))
            have td := cells2 (set2 (.int .i64 0) (.int .i64 0) (far8 (c := w.heap.size) T5.out (by omega) (.int .i64 (at_ : Int)) (.int .i64 (q : Int)) (.int .i64 k1) (.int .i64 k2) (.bool true) (.slice none 0 0) (.slice K acc.length ck) (.slice S acc.length cs)))
            refine bodyPost_ret (v := .tuple #[.agg #[.int .i64 (at_ : Int), .int .i64 (q : Int), .int .i64 k1, .int .i64 k2, .bool true, .slice none 0 0, .slice K acc.length ck, .slice S acc.length cs], err 0 0]) (by simp [results, Try.results36, go_sem, *]) rfl ?_
            rw [E.out.1]
            have bel := BE.out
            have kk : ∀ X : World, Keeps (fun b => b11 < b) wr X → Below w.heap.size w X → wr.heap.size ≤ X.heap.size → SpQ (d + 1) w at_ ⟨.mk k1 k2 true [] acc, (sz : Int) + (con.length : Int), 0, 0⟩ (.returned (.tuple #[.agg #[.int .i64 (at_ : Int), .int .i64 (q : Int), .int .i64 k1, .int .i64 k2, .bool true, .slice none 0 0, .slice K acc.length ck, .slice S acc.length cs], err 0 0])) X := by
              intro X hX hbX hsX
              refine ⟨_, _, _, _, _, _, _, _, _, _, _, _, _, _, _, rfl, fun _ => ⟨?_, rfl⟩, fun h => absurd rfl h, hbX⟩
              refine ⟨none, 0, K, ck, S, cs, xs, ?_, ⟨none, 0, K, ck, ys, rfl, RdP.nil_ _ _, Nat.zero_le _, Nat.zero_le _, ((CellsP.own OK.out).keep (hX.imp (fun b h => h.1))).mono (fun b h => ⟨by omega, by omega⟩), RK.out.imp (fun _ _ h => (h.keep (hX.imp (fun b h => h.1))).mono (fun b h => ⟨by have := h.1; omega, by have := h.2.1; omega⟩))⟩, ((CellsP.own8 OS.out).keep (hX.imp (fun b h => h.1))).mono (fun b h => ⟨by omega, by omega⟩), ?_⟩
              · rw [E.out.2.2, show (at_ : Int) + ((sz : Int) + (con.length : Int)) = (q : Int) from by omega]
                rfl
              · rw [show at_ + hdT d (.mk k1 k2 true [] acc) = b0 from by have := E.out.2.1; omega]
                exact RS.out.imp (fun _ _ _ h => (h.keep (hX.imp (fun b h => h.1))).mono (fun b h => ⟨by have := h.1; omega, by have := h.2.1; omega⟩))
            exact kk _ (by repeat' (first | (with_reducible assumption) | (with_reducible exact Keeps.refl _ _) | (with_reducible refine Keeps.drewN ?_ _) | (with_reducible refine Keeps.drew ?_) | (with_reducible refine Keeps.set ?_ ?_ _) | (intro b hb; simp only [ne_eq]; omega))) (by repeat' (first | (with_reducible exact Below.refl _ _) | (with_reducible assumption) | (with_reducible refine below_drewN ?_ _) | (with_reducible refine Below.drew ?_) | (with_reducible refine Below.alloc ?_ ?_ _) | (with_reducible refine Below.setCell ?_ ?_ _) | go_size)) (by simp)
  · have E := Lib.hid (E1.out hz)
    clear E1 E2 E3 E4 E5 FIT T6
    
    go_wp2_with fail
    go_must (go_fit (fail_any _ _ _))
    rintro e3 w3 ⟨rfl, hb3⟩
    have t2 := stayK T2.out hb3
    have t5 := stayK T5.out hb3
    have bel3 := two_belowK BE.out hb3 BE.out.size
    have tc := cells8 (far2 (c := w.heap.size + 1) (set8 (.int .i64 0) (.int .i64 0) (.int .i64 0) (.int .i64 0) (.bool false) (.slice none 0 0) (.slice none 0 0) (.slice none 0 0) t2) (by omega) (.int .i64 r1) (.int .i64 ((at_ : Int) + r2)))
    have td := cells2 (set2 (.int .i64 r1) (.int .i64 ((at_ : Int) + r2)) (far8 (c := w.heap.size) t5 (by omega) (.int .i64 0) (.int .i64 0) (.int .i64 0) (.int .i64 0) (.bool false) (.slice none 0 0) (.slice none 0 0) (.slice none 0 0)))
    obtain ⟨f0, f1, f2, f3, f4, f5, f6, f7⟩ := free8 t2
    obtain ⟨g0, g1, -, -, -⟩ := free5 t5
    obtain ⟨q0, q1, q2, q3, q4, q5, q6, q7⟩ := cells8 t2
    obtain ⟨s0, s1⟩ := cells2 t5
    clear t2 t5 hb3
    go_wp2
    clear q0 q1 q2 q3 q4 q5 q6 q7 f0 f1 f2 f3 f4 f5 f6 f7 s0 s1 g0 g1
    refine bodyPost_ret (v := .tuple #[zeroS, err r1 ((at_ : Int) + r2)]) (by simp [results, Try.results36, go_sem, *]) rfl ?_
    rw [E.out]
    exact SpQ.bad _ _ rfl (by omega) (by first | rfl | (simp only []; omega)) (by repeat' (first | (with_reducible exact Below.refl _ _) | (with_reducible assumption) | (with_reducible refine below_drewN ?_ _) | (with_reducible refine Below.drew ?_) | (with_reducible refine Below.alloc ?_ ?_ _) | (with_reducible refine Below.setCell ?_ ?_ _) | go_size))

/-- READ, of any bytes -/
theorem spo_any : ∀ (d : Nat), d ≤ 1000 → ∀ {A : Option Addr} {n c B : Nat} {l : List UInt8} (at_ en : Nat) (w : World), Rd w B A n l → B ≤ w.heap.size → at_ ≤ en → en ≤ n → n ≤ c → c ≤ maxLen → n ≤ 1000000 →
    Calls Try.prog 36 #[.slice A n c, .int .i64 (at_ : Int), .int .i64 (en : Int), .int .i64 (d : Int)] w (SpQ d w at_ (readT d ((l.drop at_).take (en - at_)))) := by
  intro d
  induction d with
  | zero => intro _ A n c B l at_ en w _ _ _ _ _ _ _; exact spo_zero at_ en _ w
  | succ d ih =>
    intro hd A n c B l at_ en w hr hB ha he hc hm hn
    rw [Int.natCast_add]
    exact spo_succ d (by omega) (fun at_ en w h1 h2 h3 h4 => ih (by omega) at_ en w h1 h2 h3 h4 hc hm hn) at_ en w hr hB ha he hc hm hn
end Go.Proofs.Ytoomdaljdbennaa.Tree
