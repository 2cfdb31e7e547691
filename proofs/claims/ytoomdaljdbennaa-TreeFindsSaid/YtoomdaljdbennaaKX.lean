/- Joined texts: TreA, TreB. -/
import Derived.Test.YtoomdaljdbennaaKU
import Derived.Test.YtoomdaljdbennaaKL
import Derived.Test.YtoomdaljdbennaaQAppS
import Derived.Test.YtoomdaljdbennaaKA
set_option linter.unusedSimpArgs false
set_option linter.unusedVariables false
/- Walks: the element at the beginning, read by the reference, with the capacity's bounds. -/
namespace Go.Proofs.Ytoomdaljdbennaa.Tlv
open Go.RowKit Kit

/-- what the reference's Next returns, with the bounds of the capacity -/
def NxC (B : Nat) (w : World) (l : List UInt8) (e : Ending) (w' : World) : Prop :=
  ∃ A1 c1 A2 c2, e = .returned (.tuple #[hdV (nx l).hd, .slice A1 (nx l).con.length c1, .slice A2 (nx l).rest.length c2, err (nx l).code (nx l).off]) ∧
    Rd w' B A1 (nx l).con.length (nx l).con ∧ Rd w' B A2 (nx l).rest.length (nx l).rest ∧ Below w.heap.size w w' ∧ (nx l).con.length ≤ c1 ∧ c1 ≤ maxLen

set_option maxRecDepth 100000 in
set_option maxHeartbeats 4000000 in
theorem refnextc_any {A : Option Addr} {n c B : Nat} {l : List UInt8} (w : World) (hr : Rd w B A n l) (hB : B ≤ w.heap.size) (hc : n ≤ c) (hm : c ≤ maxLen) (hn : n ≤ 140737488355328) :
    Calls Try.prog 46 #[.slice A n c] w (NxC B w l) := by
  have hl := hr.len
  obtain ⟨d1, d2, d3, d4, d5, d6, d7, d8⟩ := rh_bd l (by omega)
  have RH := Lib.hid (fun (w' : World) (h : Rd w' B A n l) (hB : B ≤ w'.heap.size) => refreadhead_any (c := c) w' h hB hc hm hn)
  have hm' := hm
  unfold maxLen at hm'
  have HR := Lib.hid hr
  have N1 := Lib.hid (fun (h : (rh l).2.1 ≠ 0) => show nx l = ⟨Hd.zero, [], [], (rh l).2.1, (rh l).2.2⟩ from by unfold nx; rw [if_pos h])
  have N2 := Lib.hid (fun (h : ¬ (rh l).2.1 ≠ 0) (h2 : (l.length : Int) - (rh l).1.size < (rh l).1.len) => show nx l = ⟨Hd.zero, [], [], 1, l.length⟩ from by unfold nx; rw [if_neg h, if_pos h2])
  have N3 := Lib.hid (fun (h : ¬ (rh l).2.1 ≠ 0) (h2 : ¬ (l.length : Int) - (rh l).1.size < (rh l).1.len) => show nx l = ⟨(rh l).1, (l.drop (rh l).1.size.toNat).take (rh l).1.len.toNat, l.drop ((rh l).1.size.toNat + (rh l).1.len.toNat), 0, 0⟩ from by unfold nx; rw [if_neg h, if_neg h2])
  generalize rh l = r at *
  obtain ⟨⟨k1, k2, k3, k4, k5⟩, r1, r2⟩ := r
  simp only [rhV, hdV] at RH N1 N2 N3 d1 d2 d3 d4 d5 d6 d7 d8
  clear hr
  go_enter Try.func46, Try.ntmps46
  go_upto_region 2 with (first | (go_at_call 53; refine (RH.out _ ((HR.out.alloc hB _).alloc (by simp; omega) _) (by simp; omega)).mono ?_; rintro e w1 ⟨rfl, hb⟩))
  obtain ⟨t2, t5, bel⟩ := box2 hb
  have hs := hb.size
  simp only [World.size_alloc] at hs
  replace t2 := bk_old (o' := .cells #[.int .i64 r1, .int .i64 r2] 29) (bk_old (o' := .cells #[.int .i64 k1, .int .i64 k2, .bool k3, .int .i64 k4, .int .i64 k5] 70) t2)
  replace t5 := bk_old (o' := .cells #[.int .i64 r1, .int .i64 r2] 29) (bk_old (o' := .cells #[.int .i64 k1, .int .i64 k2, .bool k3, .int .i64 k4, .int .i64 k5] 70) t5)
  have t6 : ((w1.alloc (.cells #[.int .i64 k1, .int .i64 k2, .bool k3, .int .i64 k4, .int .i64 k5] 70)).alloc (.cells #[.int .i64 r1, .int .i64 r2] 29)).heap[w1.heap.size]? = _ := bk_old (bk_new rfl)
  have t7 : ((w1.alloc (.cells #[.int .i64 k1, .int .i64 k2, .bool k3, .int .i64 k4, .int .i64 k5] 70)).alloc (.cells #[.int .i64 r1, .int .i64 r2] 29)).heap[w1.heap.size + 1]? = _ := bk_new (by simp)
  replace bel := (bel.alloc bel.size (.cells #[.int .i64 k1, .int .i64 k2, .bool k3, .int .i64 k4, .int .i64 k5] 70)).alloc (by simp; have := bel.size; omega) (.cells #[.int .i64 r1, .int .i64 r2] 29)
  have n1 : ¬ w1.heap.size = w.heap.size := by omega
  have n2 : ¬ w1.heap.size = w.heap.size + 1 := by omega
  have n3 : ¬ w.heap.size = w1.heap.size := by omega
  have n4 : ¬ w.heap.size + 1 = w1.heap.size := by omega
  have m1 : ¬ w1.heap.size + 1 = w.heap.size := by omega
  have m2 : ¬ w1.heap.size + 1 = w.heap.size + 1 := by omega
  have m3 : ¬ w.heap.size = w1.heap.size + 1 := by omega
  have m4 : ¬ w.heap.size + 1 = w1.heap.size + 1 := by omega
  clear hb hs RH
  generalize hg7 : w1.heap.size + 1 = b7 at *
  generalize hg6 : w1.heap.size = b6 at *
  clear hg6 hg7
  generalize (w1.alloc (.cells #[.int .i64 k1, .int .i64 k2, .bool k3, .int .i64 k4, .int .i64 k5] 70)).alloc (.cells #[.int .i64 r1, .int .i64 r2] 29) = w2 at *
  clear w1
  have RW := Lib.hid (HR.out.below (bel.mono hB))
  have T2 := Lib.hid t2
  have T5 := Lib.hid t5
  obtain ⟨q0, q1, q2, q3, q4⟩ := cells5 t2
  obtain ⟨f0, f1, f2, f3, f4⟩ := free5 t2
  obtain ⟨s0, s1⟩ := cells2 t5
  obtain ⟨g0, g1, _, _, _⟩ := free5 t5
  obtain ⟨u0, u1, u2, u3, u4⟩ := cells5 t6
  obtain ⟨v0, v1⟩ := cells2 t7
  clear t2 t5 t6 t7
  by_cases hz : r1 = 0
  · subst hz
    obtain ⟨sz, rfl⟩ := Int.eq_ofNat_of_zero_le d3
    obtain ⟨m, rfl⟩ := Int.eq_ofNat_of_zero_le d1
    by_cases hcut : (n : Int) - (sz : Int) < (m : Int)
    · have E := Lib.hid (N2.out (by decide) (by rw [hl]; exact hcut))
      clear N1 N2 N3 HR RW
      go_wp2
      clear q0 q1 q2 q3 q4 f0 f1 f2 f3 f4 s0 s1 g0 g1 u0 u1 u2 u3 u4 v0 v1
      have tc := cells5 (far2 (c := w.heap.size + 1) (set5 (.int .i64 0) (.int .i64 0) (.bool false) (.int .i64 0) (.int .i64 0) T2.out) (by omega) (.int .i64 1) (.int .i64 (n : Int)))
      have td := cells2 (set2 (.int .i64 1) (.int .i64 (n : Int)) (far5 (c := w.heap.size) T5.out (by omega) (.int .i64 0) (.int .i64 0) (.bool false) (.int .i64 0) (.int .i64 0)))
      refine bodyPost_ret (v := .tuple #[.agg #[.int .i64 0, .int .i64 0, .bool false, .int .i64 0, .int .i64 0], .slice none 0 0, .slice none 0 0, err 1 (n : Int)]) (by simp [results, Try.results46, go_sem, *]) rfl ?_
      unfold NxC
      rw [E.out, hl]
      exact ⟨none, 0, none, 0, rfl, Rd.nil_, Rd.nil_, (by repeat' (first | (with_reducible exact Below.refl _ _) | (with_reducible assumption) | (with_reducible refine below_drewN ?_ _) | (with_reducible refine Below.drew ?_) | (with_reducible refine Below.alloc ?_ ?_ _) | (with_reducible refine Below.setCell ?_ ?_ _) | go_size)), Nat.zero_le _, Nat.zero_le _⟩
    · have E := Lib.hid (N3.out (by decide) (by rw [hl]; omega))
      simp only [Int.toNat_natCast] at E
      clear N1 N2 N3 HR
      have x1 : (sz : Int) ≤ (sz : Int) + (m : Int) := by omega
      have x2 : (sz : Int) + (m : Int) ≤ (n : Int) := by omega
      have x3 : (sz : Int) + (m : Int) ≤ (c : Int) := by omega
      go_upto_region 6 with fail
      have hnn : (0:Int) ≤ (sz : Int) + (m : Int) := by omega
      have wr6 : IntKind.i64.wrap ((sz : Int) + (m : Int)) = (sz : Int) + (m : Int) := IntWalk.i64_in _ (by omega)
      go_region_held3 (fun w' => w'.cell? ⟨b6, 0, none⟩ = some (.int .i64 k1) ∧ w'.cell? ⟨b6, 1, none⟩ = some (.int .i64 k2) ∧ w'.cell? ⟨b6, 2, none⟩ = some (.bool k3) ∧ w'.cell? ⟨b6, 3, none⟩ = some (.int .i64 (m : Int)) ∧ w'.cell? ⟨b6, 4, none⟩ = some (.int .i64 (sz : Int))) (go_keep) (fail)
      rename_i hheld
      clear wr6 hnn hheld
      rw [show ((sz : Int) + (m : Int)).toNat = sz + m from by omega]
      have R1 := RW.out.cut (k := sz) (m := sz + m) (cap := c) (by omega) (by omega) (by omega)
      have R2 := RW.out.cut (k := sz + m) (m := n) (cap := c) (by omega) (Nat.le_refl _) hc
      simp only [Nat.mul_one, Nat.add_sub_cancel_left] at R1 R2 ⊢
      rw [List.take_of_length_le (by rw [List.length_drop, hl]; exact Nat.le_refl _)] at R2
      generalize (if c = sz then A else Option.map (fun x => x.add sz) A) = A1 at *
      generalize (if c = sz + m then A else Option.map (fun x => x.add (sz + m)) A) = A2 at *
      have L1 := R1.len
      have L2 := R2.len
      have R1' := Lib.hid R1
      have R2' := Lib.hid R2
      clear R1 R2
      go_wp2
      clear q0 q1 q2 q3 q4 f0 f1 f2 f3 f4 s0 s1 g0 g1 u0 u1 u2 u3 u4 v0 v1
      have tc := cells5 (far2 (c := w.heap.size + 1) (set5 (.int .i64 k1) (.int .i64 k2) (.bool k3) (.int .i64 (m : Int)) (.int .i64 (sz : Int)) T2.out) (by omega) (.int .i64 0) (.int .i64 0))
      have td := cells2 (set2 (.int .i64 0) (.int .i64 0) (far5 (c := w.heap.size) T5.out (by omega) (.int .i64 k1) (.int .i64 k2) (.bool k3) (.int .i64 (m : Int)) (.int .i64 (sz : Int))))
      refine bodyPost_ret (v := .tuple #[.agg #[.int .i64 k1, .int .i64 k2, .bool k3, .int .i64 (m : Int), .int .i64 (sz : Int)], .slice A1 m (c - sz), .slice A2 (n - (sz + m)) (c - (sz + m)), err 0 0]) (by simp [results, Try.results46, go_sem, *]) rfl ?_
      unfold NxC
      rw [E.out]
      refine ⟨A1, c - sz, A2, c - (sz + m), ?_, ?_, ?_, (by repeat' (first | (with_reducible exact Below.refl _ _) | (with_reducible assumption) | (with_reducible refine below_drewN ?_ _) | (with_reducible refine Below.drew ?_) | (with_reducible refine Below.alloc ?_ ?_ _) | (with_reducible refine Below.setCell ?_ ?_ _) | go_size)), ?_, ?_⟩
      · simp only [L1, L2]
      · simp only [L1]
        exact ((((((((R1'.out).setCell (by simp; omega) _).setCell (by simp; omega) _).setCell (by simp; omega) _).setCell (by simp; omega) _).setCell (by simp; omega) _).setCell (by simp; omega) _).setCell (by simp; omega) _).drew
      · simp only [L2]
        exact ((((((((R2'.out).setCell (by simp; omega) _).setCell (by simp; omega) _).setCell (by simp; omega) _).setCell (by simp; omega) _).setCell (by simp; omega) _).setCell (by simp; omega) _).setCell (by simp; omega) _).drew
      · simp only [L1]; omega
      · exact Nat.le_trans (Nat.sub_le _ _) hm
  · have E := Lib.hid (N1.out hz)
    clear N1 N2 N3 HR RW
    go_upto_region 3 with fail
    go_region
    all_goals
      go_wp2
      clear q0 q1 q2 q3 q4 f0 f1 f2 f3 f4 s0 s1 g0 g1 u0 u1 u2 u3 u4 v0 v1
      have tc := cells5 (far2 (c := w.heap.size + 1) (set5 (.int .i64 0) (.int .i64 0) (.bool false) (.int .i64 0) (.int .i64 0) T2.out) (by omega) (.int .i64 r1) (.int .i64 r2))
      have td := cells2 (set2 (.int .i64 r1) (.int .i64 r2) (far5 (c := w.heap.size) T5.out (by omega) (.int .i64 0) (.int .i64 0) (.bool false) (.int .i64 0) (.int .i64 0)))
      refine bodyPost_ret (v := .tuple #[.agg #[.int .i64 0, .int .i64 0, .bool false, .int .i64 0, .int .i64 0], .slice none 0 0, .slice none 0 0, err r1 r2]) (by simp [results, Try.results46, go_sem, *]) rfl ?_
      unfold NxC
      rw [E.out]
      exact ⟨none, 0, none, 0, rfl, Rd.nil_, Rd.nil_, (by repeat' (first | (with_reducible exact Below.refl _ _) | (with_reducible assumption) | (with_reducible refine below_drewN ?_ _) | (with_reducible refine Below.drew ?_) | (with_reducible refine Below.alloc ?_ ?_ _) | (with_reducible refine Below.setCell ?_ ?_ _) | go_size)), Nat.zero_le _, Nat.zero_le _⟩
end Go.Proofs.Ytoomdaljdbennaa.Tlv
/- Trees in memory: nodes whose blocks are allowed ones. -/
namespace Go.Proofs.Ytoomdaljdbennaa.Tree
open Go.RowKit Kit Tlv

/-- bytes of an allowed block -/
def RdP (w : World) (P : Nat → Prop) (A : Option Addr) (n : Nat) (l : List UInt8) : Prop :=
  l.length = n ∧ (0 < n → ∃ ad : Addr, A = some ad ∧ P ad.block ∧ ∀ k, k < n → w.cell? (ad.add k) = some (.int .u8 (bt l k)))
/-- the cells of allowed blocks stay -/
def Keeps (P : Nat → Prop) (w w' : World) : Prop := ∀ p : Addr, P p.block → ∀ u, w.cell? p = some u → w'.cell? p = some u
theorem RdP.keep {w w' : World} {P : Nat → Prop} {A : Option Addr} {n : Nat} {l : List UInt8} (h : RdP w P A n l) (hk : Keeps P w w') : RdP w' P A n l := by
  refine ⟨h.1, fun hn => ?_⟩
  obtain ⟨ad, h1, h2, h3⟩ := h.2 hn
  exact ⟨ad, h1, h2, fun k hk' => hk _ (by rw [block_add]; exact h2) _ (h3 k hk')⟩
theorem RdP.mono {w : World} {P P' : Nat → Prop} {A : Option Addr} {n : Nat} {l : List UInt8} (h : RdP w P A n l) (hk : ∀ b, P b → P' b) : RdP w P' A n l := by
  refine ⟨h.1, fun hn => ?_⟩
  obtain ⟨ad, h1, h2, h3⟩ := h.2 hn
  exact ⟨ad, h1, hk _ h2, h3⟩
theorem RdP.rd {w : World} {P : Nat → Prop} {A : Option Addr} {n B : Nat} {l : List UInt8} (h : RdP w P A n l) (hP : ∀ b, P b → b < B) : Rd w B A n l := by
  refine ⟨h.1, fun hn => ?_⟩
  obtain ⟨ad, h1, h2, h3⟩ := h.2 hn
  exact ⟨ad, h1, hP _ h2, h3⟩
theorem RdP.nil_ (w : World) (P : Nat → Prop) : RdP w P none 0 [] := ⟨rfl, fun h => absurd h (by omega)⟩
theorem RdP.own {w : World} {base n c : Nat} {A : Option Addr} {l : List UInt8} (h : Own w base A n c l) : RdP w (fun b => base ≤ b ∧ b < w.heap.size) A n l := by
  refine ⟨h.len, fun hn => ?_⟩
  obtain ⟨g, rfl⟩ := h.shape hn
  exact ⟨_, rfl, h.lt, fun k hk => by rw [add_plain, Nat.zero_add]; exact h.cellAt hk⟩

/-- kids, five cells each -/
def RowR (N : Value → T → Prop) : List T → List Value → Prop
  | [], xs => xs = []
  | t :: ts, xs => ∃ x0 x1 x2 x3 x4 ys, xs = x0 :: x1 :: x2 :: x3 :: x4 :: ys ∧ N (.agg #[x0, x1, x2, x3, x4]) t ∧ RowR N ts ys
/-- cells of an allowed block -/
def CellsP (w : World) (P : Nat → Prop) (K : Option Addr) (xs : List Value) : Prop := ∀ j u, xs[j]? = some u → ∃ g : Addr, K = some g ∧ P g.block ∧ w.cell? (g.add j) = some u
def nodeV (t : T) (A : Option Addr) (c : Nat) (K : Option Addr) (ck : Nat) : Value :=
  .agg #[.int .i64 t.cls, .int .i64 t.num, .bool t.cons, .slice A t.con.length c, .slice K t.kids.length ck]
/-- a node of at most so many levels -/
def NodeR : Nat → World → (Nat → Prop) → Value → T → Prop
  | 0, w, P, v, t => ∃ A c K ck, v = nodeV t A c K ck ∧ RdP w P A t.con.length t.con ∧ t.con.length ≤ c ∧ c ≤ maxLen ∧ t.kids = []
  | d + 1, w, P, v, t => ∃ A c K ck xs, v = nodeV t A c K ck ∧ RdP w P A t.con.length t.con ∧ t.con.length ≤ c ∧ c ≤ maxLen ∧ CellsP w P K xs ∧ RowR (NodeR d w P) t.kids xs

theorem RowR.len {N : Value → T → Prop} : ∀ {ts : List T} {xs : List Value}, RowR N ts xs → xs.length = ts.length * 5
  | [], xs, h => by have h' : xs = [] := h; rw [h']; rfl
  | t :: ts, xs, h => by obtain ⟨x0, x1, x2, x3, x4, ys, rfl, _, h3⟩ := h; have := RowR.len h3; simp only [List.length_cons]; omega
theorem RowR.imp {N N' : Value → T → Prop} (hN : ∀ v t, N v t → N' v t) : ∀ {ts : List T} {xs : List Value}, RowR N ts xs → RowR N' ts xs
  | [], xs, h => h
  | t :: ts, xs, h => by obtain ⟨x0, x1, x2, x3, x4, ys, rfl, h2, h3⟩ := h; exact ⟨x0, x1, x2, x3, x4, ys, rfl, hN _ _ h2, RowR.imp hN h3⟩
theorem RowR.snoc {N : Value → T → Prop} {t : T} {y0 y1 y2 y3 y4 : Value} (hy : N (.agg #[y0, y1, y2, y3, y4]) t) : ∀ {ts : List T} {xs : List Value}, RowR N ts xs → RowR N (ts ++ [t]) (xs ++ [y0, y1, y2, y3, y4])
  | [], xs, h => by have h' : xs = [] := h; rw [h']; exact ⟨y0, y1, y2, y3, y4, [], rfl, hy, rfl⟩
  | u :: ts, xs, h => by
    obtain ⟨x0, x1, x2, x3, x4, ys, rfl, h2, h3⟩ := h
    exact ⟨x0, x1, x2, x3, x4, ys ++ [y0, y1, y2, y3, y4], rfl, h2, RowR.snoc hy h3⟩
theorem RowR.at_ {N : Value → T → Prop} : ∀ {ts : List T} {xs : List Value} {i : Nat} {t : T}, RowR N ts xs → ts[i]? = some t →
    ∃ x0 x1 x2 x3 x4, N (.agg #[x0, x1, x2, x3, x4]) t ∧ xs[i * 5]? = some x0 ∧ xs[i * 5 + 1]? = some x1 ∧ xs[i * 5 + 2]? = some x2 ∧ xs[i * 5 + 3]? = some x3 ∧ xs[i * 5 + 4]? = some x4
  | [], xs, i, t, h, hi => by simp at hi
  | u :: ts, xs, 0, t, h, hi => by
    obtain ⟨x0, x1, x2, x3, x4, ys, rfl, h2, h3⟩ := h
    simp at hi
    subst hi
    exact ⟨x0, x1, x2, x3, x4, h2, rfl, rfl, rfl, rfl, rfl⟩
  | u :: ts, xs, i + 1, t, h, hi => by
    obtain ⟨x0, x1, x2, x3, x4, ys, rfl, h2, h3⟩ := h
    obtain ⟨z0, z1, z2, z3, z4, g, g0, g1, g2, g3, g4⟩ := RowR.at_ h3 (by simpa using hi)
    refine ⟨z0, z1, z2, z3, z4, g, ?_, ?_, ?_, ?_, ?_⟩
    · rw [show (i + 1) * 5 = i * 5 + 1 + 1 + 1 + 1 + 1 from by omega]; simpa using g0
    · rw [show (i + 1) * 5 + 1 = i * 5 + 1 + 1 + 1 + 1 + 1 + 1 from by omega]; simpa using g1
    · rw [show (i + 1) * 5 + 2 = i * 5 + 2 + 1 + 1 + 1 + 1 + 1 from by omega]; simpa using g2
    · rw [show (i + 1) * 5 + 3 = i * 5 + 3 + 1 + 1 + 1 + 1 + 1 from by omega]; simpa using g3
    · rw [show (i + 1) * 5 + 4 = i * 5 + 4 + 1 + 1 + 1 + 1 + 1 from by omega]; simpa using g4
theorem CellsP.keep {w w' : World} {P : Nat → Prop} {K : Option Addr} {xs : List Value} (h : CellsP w P K xs) (hk : Keeps P w w') : CellsP w' P K xs := by
  intro j u hj
  obtain ⟨g, h1, h2, h3⟩ := h j u hj
  exact ⟨g, h1, h2, hk (g.add j) (by rw [block_add]; exact h2) _ h3⟩
theorem CellsP.mono {w : World} {P P' : Nat → Prop} {K : Option Addr} {xs : List Value} (h : CellsP w P K xs) (hk : ∀ b, P b → P' b) : CellsP w P' K xs := by
  intro j u hj
  obtain ⟨ad, h1, h2, h3⟩ := h j u hj
  exact ⟨ad, h1, hk _ h2, h3⟩
theorem CellsP.own {w : World} {base n c : Nat} {K : Option Addr} {xs : List Value} (h : w.ownsRow base 26 5 (.slice K n c) n xs) : CellsP w (fun b => base ≤ b ∧ b < w.heap.size) K xs := by
  intro j u hj
  have hlen := h.1
  have hjl : j < xs.length := by
    rcases Nat.lt_or_ge j xs.length with g | g
    · exact g
    · rw [List.getElem?_eq_none g] at hj; cases hj
  rcases Nat.eq_zero_or_pos n with h0 | h0
  · subst h0; omega
  obtain ⟨g, cap, hv⟩ := Joins.ownsRow_form h h0
  injection hv with hK
  subst hK
  exact ⟨_, rfl, World.ownsRow.lt h g rfl, by rw [add_plain, Nat.zero_add]; exact (World.ownsRow.cellAt h j (by omega)).trans hj⟩
theorem add_block (a : Addr) (k : Nat) : (a.add k).block = a.block := by unfold Addr.add; split <;> rfl
theorem add_off (a : Addr) (k : Nat) : (a.add k).off = a.off + k := by unfold Addr.add; split <;> simp_all
theorem add_plus (a : Addr) (j k : Nat) (hk : 0 < k) : a.add (j + k) = ⟨(a.add j).block, (a.add j).off + k, none⟩ := by
  rw [add_block, add_off]
  unfold Addr.add
  rw [if_neg (by omega), Nat.add_assoc]
theorem NodeR.keep {w w' : World} {P : Nat → Prop} (hk : Keeps P w w') : ∀ {d : Nat} {v : Value} {t : T}, NodeR d w P v t → NodeR d w' P v t
  | 0, v, t, h => by obtain ⟨A, c, K, ck, h1, h2, h3⟩ := h; exact ⟨A, c, K, ck, h1, h2.keep hk, h3⟩
  | d + 1, v, t, h => by obtain ⟨A, c, K, ck, xs, h1, h2, h3, h4, h5, h6⟩ := h; exact ⟨A, c, K, ck, xs, h1, h2.keep hk, h3, h4, h5.keep hk, RowR.imp (fun _ _ => NodeR.keep hk) h6⟩
theorem NodeR.mono {w : World} {P P' : Nat → Prop} (hk : ∀ b, P b → P' b) : ∀ {d : Nat} {v : Value} {t : T}, NodeR d w P v t → NodeR d w P' v t
  | 0, v, t, h => by obtain ⟨A, c, K, ck, h1, h2, h3⟩ := h; exact ⟨A, c, K, ck, h1, h2.mono hk, h3⟩
  | d + 1, v, t, h => by obtain ⟨A, c, K, ck, xs, h1, h2, h3, h4, h5, h6⟩ := h; exact ⟨A, c, K, ck, xs, h1, h2.mono hk, h3, h4, h5.mono hk, RowR.imp (fun _ _ => NodeR.mono hk) h6⟩
theorem NodeR.form {w : World} {P : Nat → Prop} {d : Nat} {v : Value} {t : T} (h : NodeR d w P v t) : ∃ A c K ck, v = nodeV t A c K ck ∧ RdP w P A t.con.length t.con ∧ t.con.length ≤ c ∧ c ≤ maxLen := by
  cases d with
  | zero => obtain ⟨A, c, K, ck, h1, h2, h3, h4, _⟩ := h; exact ⟨A, c, K, ck, h1, h2, h3, h4⟩
  | succ d => obtain ⟨A, c, K, ck, xs, h1, h2, h3, h4, _⟩ := h; exact ⟨A, c, K, ck, h1, h2, h3, h4⟩
theorem NodeR.zero (d : Nat) (w : World) (P : Nat → Prop) : NodeR d w P (nodeV T.zero none 0 none 0) T.zero := by
  cases d with
  | zero => exact ⟨none, 0, none, 0, rfl, RdP.nil_ _ _, Nat.zero_le _, Nat.zero_le _, rfl⟩
  | succ d => exact ⟨none, 0, none, 0, [], rfl, RdP.nil_ _ _, Nat.zero_le _, Nat.zero_le _, (fun j u h => by simp at h), rfl⟩
theorem Keeps.below {w w' : World} {B : Nat} {P : Nat → Prop} (h : Below B w w') (hP : ∀ b, P b → b < B) : Keeps P w w' := fun p hp u hu => (h.cell (hP _ hp)).trans hu
theorem Keeps.grown {w w' : World} {P : Nat → Prop} {r : Option Nat} (h : w.grownBy w' r) (hP : ∀ b, P b → r ≠ some b) : Keeps P w w' := fun p hp u hu => h.cell hu (fun e => hP _ hp e.symm)
theorem Keeps.trans {w w1 w' : World} {P : Nat → Prop} (h : Keeps P w w1) (h2 : Keeps P w1 w') : Keeps P w w' := fun p hp u hu => h2 p hp u (h p hp u hu)
theorem Keeps.alloc (w : World) {P : Nat → Prop} (o : Obj) (hP : ∀ b, P b → b < w.heap.size) : Keeps P w (w.alloc o) := fun p hp u hu => (World.cell?_alloc_lt w o p (hP _ hp)).trans hu
theorem Keeps.refl (w : World) (P : Nat → Prop) : Keeps P w w := fun _ _ _ hu => hu
theorem Keeps.imp {w w' : World} {P P' : Nat → Prop} (h : Keeps P' w w') (hk : ∀ b, P b → P' b) : Keeps P w w' := fun p hp u hu => h p (hk _ hp) u hu
theorem Keeps.set {w w' : World} {P : Nat → Prop} {p : Addr} (h : Keeps P w w') (hP : ∀ b, P b → b ≠ p.block) (u : Value) : Keeps P w (w'.setCell p u) :=
  fun q hq x hx => (World.cell?_setCell_other w' p q u (fun e => hP _ hq (by rw [e]))).trans (h q hq x hx)
theorem Keeps.drew {w w' : World} {P : Nat → Prop} (h : Keeps P w w') : Keeps P w w'.drew := h
theorem Keeps.drewN {w w' : World} {P : Nat → Prop} (h : Keeps P w w') (k : Nat) : Keeps P w (w'.drewN k) := h
theorem nx_fit {l : List UInt8} (h : (nx l).code = 0) : 0 ≤ (nx l).hd.size ∧ (nx l).hd.len = (nx l).con.length ∧ (nx l).hd.size + (nx l).hd.len ≤ l.length := by
  obtain ⟨b1, b2, b3, b4, b5⟩ := nx_back h
  have el := enc_len (b := (nx l).hd.cons) b1
  have hln := congrArg List.length b2
  rw [List.length_append, el] at hln
  have hll := (rl_len (encCode_ok b1).2 []).2.1
  exact ⟨by omega, b4, by rw [b4, b5]; omega⟩
theorem infoNode : (Try.prog.info? 26).map (fun i => (i.zero, i.size, i.bytes)) = some (some (.agg #[.int .i64 0, .int .i64 0, .bool false, .slice none 0 0, .slice none 0 0]), 5, 72) := by kernel_rfl
end Go.Proofs.Ytoomdaljdbennaa.Tree
