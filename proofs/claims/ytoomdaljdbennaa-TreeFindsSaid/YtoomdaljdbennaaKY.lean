/- Joined texts: TreD, TreE, TreF. -/
import Derived.Test.YtoomdaljdbennaaQTreC
set_option linter.unusedSimpArgs false
set_option linter.unusedVariables false
/- Walks: the reference's Within and Deep. -/
namespace Go.Proofs.Ytoomdaljdbennaa.Tree
open Go.RowKit Kit Tlv

/-- what Within returns, of a reading -/
def WithinQ (d : Nat) (w : World) (q : T × Int × Int) (e : Ending) (w' : World) : Prop :=
  ∃ v, e = .returned (.tuple #[v, err q.2.1 q.2.2]) ∧ NodeR d w' (fun b => w.heap.size ≤ b ∧ b < w'.heap.size) v q.1 ∧ Below w.heap.size w w'

set_option maxRecDepth 100000 in
set_option maxHeartbeats 4000000 in
theorem within_any (d : Nat) (hd : d ≤ 1000) {A : Option Addr} {n c B : Nat} {l : List UInt8} (w : World) (hr : Rd w B A n l) (hB : B ≤ w.heap.size) (hc : n ≤ c) (hm : c ≤ maxLen) (hn : n ≤ 1000000) :
    Calls Try.prog 29 #[.slice A n c, .int .i64 (d : Int)] w (WithinQ d w (withinT l d)) := by
  have hl := hr.len
  have HR := Lib.hid hr
  have RD := Lib.hid (fun (w' : World) (h : Rd w' B A n l) (hB : B ≤ w'.heap.size) => read_any d hd A n c B l w' h hB hc hm hn)
  have bd := readT_bd d l (by omega)
  have W1 := Lib.hid (fun (h : (readT d l).code = 0 ∧ (readT d l).size < (l.length : Int)) => show withinT l d = (T.zero, 2, (readT d l).size) from by unfold withinT; rw [if_pos h])
  have W2 := Lib.hid (fun (h : ¬ ((readT d l).code = 0 ∧ (readT d l).size < (l.length : Int))) => show withinT l d = ((readT d l).t, (readT d l).code, (readT d l).off) from by unfold withinT; rw [if_neg h])
  clear hr
  generalize readT d l = q at *
  obtain ⟨⟨g1, g2, g3, gc, gk⟩, qs, qc, qo⟩ := q
  simp only [RtOk] at bd W1 W2
  have BD := Lib.hid bd
  clear bd
  go_enter Try.func29, Try.ntmps29
  go_upto_region 2 with (first | (go_at_call 37; go_must (refine (RD.out _ ((HR.out.alloc hB _).alloc (by simp; omega) _) (by simp; omega)).mono ?_); rintro e w1 ⟨v, rfl, hnv, hb⟩; obtain ⟨A6, c6, K6, ck6, rfl⟩ := hnv.formK))
  obtain ⟨t2, t5, bel⟩ := box2 hb
  have hs := hb.size
  simp only [World.size_alloc] at hs
  replace t2 := bk_old (o' := (.cells #[.int .i64 qc, .int .i64 qo] 29)) (bk_old (o' := (.cells #[.int .i64 g1, .int .i64 g2, .bool g3, .slice A6 gc.length c6, .slice K6 gk.length ck6] 26)) t2)
  replace t5 := bk_old (o' := (.cells #[.int .i64 qc, .int .i64 qo] 29)) (bk_old (o' := (.cells #[.int .i64 g1, .int .i64 g2, .bool g3, .slice A6 gc.length c6, .slice K6 gk.length ck6] 26)) t5)
  have t6 : ((w1.alloc (.cells #[.int .i64 g1, .int .i64 g2, .bool g3, .slice A6 gc.length c6, .slice K6 gk.length ck6] 26)).alloc (.cells #[.int .i64 qc, .int .i64 qo] 29)).heap[w1.heap.size]? = _ := bk_old (bk_new rfl)
  have t7 : ((w1.alloc (.cells #[.int .i64 g1, .int .i64 g2, .bool g3, .slice A6 gc.length c6, .slice K6 gk.length ck6] 26)).alloc (.cells #[.int .i64 qc, .int .i64 qo] 29)).heap[w1.heap.size + 1]? = _ := bk_new (by simp)
  replace bel := (bel.alloc bel.size (.cells #[.int .i64 g1, .int .i64 g2, .bool g3, .slice A6 gc.length c6, .slice K6 gk.length ck6] 26)).alloc (by simp; have := bel.size; omega) (.cells #[.int .i64 qc, .int .i64 qo] 29)
  have k1 : Keeps (fun b => b < w1.heap.size) w1 ((w1.alloc (.cells #[.int .i64 g1, .int .i64 g2, .bool g3, .slice A6 gc.length c6, .slice K6 gk.length ck6] 26)).alloc (.cells #[.int .i64 qc, .int .i64 qo] 29)) := Keeps.trans (Keeps.alloc _ _ (fun b h => h)) (Keeps.alloc _ _ (fun b h => by simp; omega))
  have hz : ((w1.alloc (.cells #[.int .i64 g1, .int .i64 g2, .bool g3, .slice A6 gc.length c6, .slice K6 gk.length ck6] 26)).alloc (.cells #[.int .i64 qc, .int .i64 qo] 29)).heap.size = w1.heap.size + 2 := by simp
  have nv : NodeR d ((w1.alloc (.cells #[.int .i64 g1, .int .i64 g2, .bool g3, .slice A6 gc.length c6, .slice K6 gk.length ck6] 26)).alloc (.cells #[.int .i64 qc, .int .i64 qo] 29)) (fun b => w.heap.size + 2 ≤ b ∧ b < ((w1.alloc (.cells #[.int .i64 g1, .int .i64 g2, .bool g3, .slice A6 gc.length c6, .slice K6 gk.length ck6] 26)).alloc (.cells #[.int .i64 qc, .int .i64 qo] 29)).heap.size) _ _ := (hnv.keep (k1.imp (fun b h => h.2))).mono (fun b h => ⟨by have := h.1; simp at this; omega, by have := h.2; omega⟩)
  clear hb hnv k1
  generalize ((w1.alloc (.cells #[.int .i64 g1, .int .i64 g2, .bool g3, .slice A6 gc.length c6, .slice K6 gk.length ck6] 26)).alloc (.cells #[.int .i64 qc, .int .i64 qo] 29)) = w2 at *
  have T2 := Lib.hid t2
  have T5 := Lib.hid t5
  have NV := Lib.hid nv
  have n1 : ¬ w1.heap.size = w.heap.size := by omega
  have n2 : ¬ w1.heap.size = w.heap.size + 1 := by omega
  have n3 : ¬ w.heap.size = w1.heap.size := by omega
  have n4 : ¬ w.heap.size + 1 = w1.heap.size := by omega
  have m1 : ¬ w1.heap.size + 1 = w.heap.size := by omega
  have m2 : ¬ w1.heap.size + 1 = w.heap.size + 1 := by omega
  have m3 : ¬ w.heap.size = w1.heap.size + 1 := by omega
  have m4 : ¬ w.heap.size + 1 = w1.heap.size + 1 := by omega
  generalize hg7 : w1.heap.size + 1 = b7 at *
  generalize hg6 : w1.heap.size = b6 at *
  have n67 : ¬ b6 = b7 := by omega
  have n76 : ¬ b7 = b6 := by omega
  have w2lo : w.heap.size + 2 ≤ w2.heap.size := by omega
  clear hg6 hg7 hz w1
  obtain ⟨q0, q1, q2, q3, q4⟩ := cells5 t2
  obtain ⟨f0, f1, f2, f3, f4⟩ := free5 t2
  obtain ⟨s0, s1⟩ := cells2 t5
  obtain ⟨g0', g1', -, -, -⟩ := free5 t5
  obtain ⟨u0, u1, u2, u3, u4⟩ := cells5 t6
  obtain ⟨v0, v1⟩ := cells2 t7
  clear t2 t5 t6 t7 nv
  by_cases hcut : qc = 0 ∧ qs < (l.length : Int)
  · have WW := Lib.hid (W1.out hcut)
    obtain ⟨rfl, hcut⟩ := hcut
    rw [hl] at hcut
    obtain ⟨bo, b2, b3⟩ := BD.out.1 rfl
    clear W1 W2 BD
    go_wp2
    clear q0 q1 q2 q3 q4 f0 f1 f2 f3 f4 s0 s1 g0' g1' u0 u1 u2 u3 u4 v0 v1
    have tc := cells5 (far2 (c := w.heap.size + 1) (set5 (.int .i64 0) (.int .i64 0) (.bool false) (.slice none 0 0) (.slice none 0 0) T2.out) (by omega) (.int .i64 2) (.int .i64 qs))
    have td := cells2 (set2 (.int .i64 2) (.int .i64 qs) (far5 (c := w.heap.size) T5.out (by omega) (.int .i64 0) (.int .i64 0) (.bool false) (.slice none 0 0) (.slice none 0 0)))
    refine bodyPost_ret (v := .tuple #[.agg #[.int .i64 0, .int .i64 0, .bool false, .slice none 0 0, .slice none 0 0], err 2 qs]) (by simp [results, Try.results29, go_sem, *]) rfl ?_
    rw [WW.out]
    exact ⟨_, rfl, NodeR.zero _ _ _, (by repeat' (first | (with_reducible exact Below.refl _ _) | (with_reducible assumption) | (with_reducible refine below_drewN ?_ _) | (with_reducible refine Below.drew ?_) | (with_reducible refine Below.alloc ?_ ?_ _) | (with_reducible refine Below.setCell ?_ ?_ _) | go_size))⟩
  · have WW := Lib.hid (W2.out hcut)
    by_cases hz : qc = 0
    · have hge : ¬ qs < (n : Int) := fun h => hcut ⟨hz, by rw [hl]; exact h⟩
      subst hz
      clear W1 W2 BD hcut
      go_upto_region 4 with fail
      go_region
      all_goals
        go_wp2
        clear q0 q1 q2 q3 q4 f0 f1 f2 f3 f4 s0 s1 g0' g1' u0 u1 u2 u3 u4 v0 v1
        have tc := cells5 (far2 (c := w.heap.size + 1) (set5 (.int .i64 g1) (.int .i64 g2) (.bool g3) (.slice A6 gc.length c6) (.slice K6 gk.length ck6) T2.out) (by omega) (.int .i64 0) (.int .i64 qo))
        have td := cells2 (set2 (.int .i64 0) (.int .i64 qo) (far5 (c := w.heap.size) T5.out (by omega) (.int .i64 g1) (.int .i64 g2) (.bool g3) (.slice A6 gc.length c6) (.slice K6 gk.length ck6)))
        refine bodyPost_ret (v := .tuple #[.agg #[.int .i64 g1, .int .i64 g2, .bool g3, .slice A6 gc.length c6, .slice K6 gk.length ck6], err 0 qo]) (by simp [results, Try.results29, go_sem, *]) rfl ?_
        rw [WW.out]
        have kk : ∀ X : World, Keeps (fun b => w.heap.size + 2 ≤ b ∧ b < w2.heap.size) w2 X → Below w.heap.size w X → w2.heap.size ≤ X.heap.size → WithinQ d w (.mk g1 g2 g3 gc gk, 0, qo) (.returned (.tuple #[.agg #[.int .i64 g1, .int .i64 g2, .bool g3, .slice A6 gc.length c6, .slice K6 gk.length ck6], err 0 qo])) X := by
          intro X hX hbX hsX
          exact ⟨_, rfl, (NV.out.keep hX).mono (fun b h => ⟨by omega, by omega⟩), hbX⟩
        exact kk _ (by repeat' (first | (with_reducible assumption) | (with_reducible exact Keeps.refl _ _) | (with_reducible refine Keeps.drewN ?_ _) | (with_reducible refine Keeps.drew ?_) | (with_reducible refine Keeps.set ?_ ?_ _) | (intro b hb; simp only [ne_eq]; omega))) (by repeat' (first | (with_reducible exact Below.refl _ _) | (with_reducible assumption) | (with_reducible refine below_drewN ?_ _) | (with_reducible refine Below.drew ?_) | (with_reducible refine Below.alloc ?_ ?_ _) | (with_reducible refine Below.setCell ?_ ?_ _) | go_size)) (by simp)
    · clear W1 W2 BD hcut
      go_upto_region 4 with fail
      go_region
      all_goals
        go_wp2
        clear q0 q1 q2 q3 q4 f0 f1 f2 f3 f4 s0 s1 g0' g1' u0 u1 u2 u3 u4 v0 v1
        have tc := cells5 (far2 (c := w.heap.size + 1) (set5 (.int .i64 g1) (.int .i64 g2) (.bool g3) (.slice A6 gc.length c6) (.slice K6 gk.length ck6) T2.out) (by omega) (.int .i64 qc) (.int .i64 qo))
        have td := cells2 (set2 (.int .i64 qc) (.int .i64 qo) (far5 (c := w.heap.size) T5.out (by omega) (.int .i64 g1) (.int .i64 g2) (.bool g3) (.slice A6 gc.length c6) (.slice K6 gk.length ck6)))
        refine bodyPost_ret (v := .tuple #[.agg #[.int .i64 g1, .int .i64 g2, .bool g3, .slice A6 gc.length c6, .slice K6 gk.length ck6], err qc qo]) (by simp [results, Try.results29, go_sem, *]) rfl ?_
        rw [WW.out]
        have kk : ∀ X : World, Keeps (fun b => w.heap.size + 2 ≤ b ∧ b < w2.heap.size) w2 X → Below w.heap.size w X → w2.heap.size ≤ X.heap.size → WithinQ d w (.mk g1 g2 g3 gc gk, qc, qo) (.returned (.tuple #[.agg #[.int .i64 g1, .int .i64 g2, .bool g3, .slice A6 gc.length c6, .slice K6 gk.length ck6], err qc qo])) X := by
          intro X hX hbX hsX
          exact ⟨_, rfl, (NV.out.keep hX).mono (fun b h => ⟨by omega, by omega⟩), hbX⟩
        exact kk _ (by repeat' (first | (with_reducible assumption) | (with_reducible exact Keeps.refl _ _) | (with_reducible refine Keeps.drewN ?_ _) | (with_reducible refine Keeps.drew ?_) | (with_reducible refine Keeps.set ?_ ?_ _) | (intro b hb; simp only [ne_eq]; omega))) (by repeat' (first | (with_reducible exact Below.refl _ _) | (with_reducible assumption) | (with_reducible refine below_drewN ?_ _) | (with_reducible refine Below.drew ?_) | (with_reducible refine Below.alloc ?_ ?_ _) | (with_reducible refine Below.setCell ?_ ?_ _) | go_size)) (by simp)

end Go.Proofs.Ytoomdaljdbennaa.Tree
/- Plain: bounds of what a tree holds; the tree of an encoding. -/
namespace Go.Proofs.Ytoomdaljdbennaa.Tree
open Go.RowKit Kit Tlv

theorem kidsA_all {rd : List UInt8 → Rt} {l : List UInt8} {Q : T → Prop} (h : ∀ m : List UInt8, m.length ≤ l.length → Q (rd m).t) : ∀ (f p : Nat) (acc : List T), (∀ x, x ∈ acc → Q x) → ∀ x, x ∈ (kidsA rd l f p acc).1 → Q x := by
  intro f
  induction f with
  | zero => intro p acc ha; exact ha
  | succ f ih =>
    intro p acc ha
    rcases Nat.lt_or_ge p l.length with hlt | hge
    · by_cases he : (rd (l.drop p)).code ≠ 0
      · rw [kidsA_err hlt he]; intro x hx; simp at hx
      · rw [kidsA_step hlt (by omega)]
        refine ih _ _ (fun x hx => ?_)
        rcases List.mem_append.1 hx with h1 | h1
        · exact ha x h1
        · simp at h1; subst h1; exact h _ (by rw [List.length_drop]; omega)
    · rw [kidsA_end _ _ _ _ _ hge]; exact ha
/-- contents octets lie in the bytes -/
def ConOk (n : Nat) (t : T) : Prop := t.con.length ≤ n ∧ ∀ k, k ∈ t.kids → k.con.length ≤ n
theorem ConOk.zero (n : Nat) : ConOk n T.zero := ⟨Nat.zero_le _, fun k h => by simp [T.zero, T.kids] at h⟩
theorem readT_con : ∀ (d : Nat) (l : List UInt8), ConOk l.length (readT d l).t := by
  intro d
  induction d with
  | zero => intro l; exact ConOk.zero _
  | succ d ih =>
    intro l
    by_cases h : (nx l).code ≠ 0
    · rw [readT_err h]; exact ConOk.zero _
    · obtain ⟨f1, f2, f3⟩ := nx_fit (l := l) (by omega)
      have hcl : (nx l).con.length ≤ l.length := by omega
      cases h2 : (nx l).hd.cons with
      | false => rw [readT_leaf h h2]; exact ⟨hcl, fun k hk => by simp [T.kids] at hk⟩
      | true =>
        by_cases h3 : (kidsA (readT d) (nx l).con ((nx l).con.length + 1) 0 []).2.1 ≠ 0
        · rw [readT_kerr h h2 h3]; exact ConOk.zero _
        · rw [readT_node h h2 h3]
          refine ⟨Nat.zero_le _, ?_⟩
          exact kidsA_all (Q := fun k => k.con.length ≤ l.length) (fun m hm => Nat.le_trans (ih m).1 (by omega)) _ _ _ (fun x hx => by simp at hx)
theorem withinT_con (l : List UInt8) (d : Nat) : ConOk l.length (withinT l d).1 := by
  unfold withinT
  split
  · exact ConOk.zero _
  · exact readT_con d l
theorem within_prim {c n : Int} {k : List UInt8} (d : Nat) (h : encCode c n k.length = 0) : withinT (encL c false n k) (d + 1) = (.mk c n false k [], 0, 0) :=
  withinT_enc (fun more => readT_prim d h more)
theorem NodeR.formR {w : World} {P : Nat → Prop} {d : Nat} {v : Value} {k1 k2 : Int} {k3 : Bool} {con : List UInt8} {kids : List T} (h : NodeR d w P v (.mk k1 k2 k3 con kids)) :
    ∃ A c K ck, v = .agg #[.int .i64 k1, .int .i64 k2, .bool k3, .slice A con.length c, .slice K kids.length ck] ∧ RdP w P A con.length con ∧ con.length ≤ c ∧ c ≤ maxLen := by
  obtain ⟨A, c, K, ck, rfl, h2, h3, h4⟩ := h.form
  exact ⟨A, c, K, ck, rfl, h2, h3, h4⟩
theorem NodeR.formX {w : World} {P : Nat → Prop} {d : Nat} {v : Value} {k1 k2 : Int} {k3 : Bool} {con : List UInt8} {kids : List T} (h : NodeR (d + 1) w P v (.mk k1 k2 k3 con kids)) :
    ∃ A c K ck xs, v = .agg #[.int .i64 k1, .int .i64 k2, .bool k3, .slice A con.length c, .slice K kids.length ck] ∧ RdP w P A con.length con ∧ con.length ≤ c ∧ c ≤ maxLen ∧ CellsP w P K xs ∧ RowR (NodeR d w P) kids xs := by
  obtain ⟨A, c, K, ck, xs, rfl, h2, h3, h4, h5, h6⟩ := h
  exact ⟨A, c, K, ck, xs, rfl, h2, h3, h4, h5, h6⟩
end Go.Proofs.Ytoomdaljdbennaa.Tree
/- The tree of a sequence of primitive elements; a node's kid in memory. -/
namespace Go.Proofs.Ytoomdaljdbennaa.Tree
open Go.RowKit Kit Tlv

/-- a primitive element: class, number, contents -/
abbrev Pr := Int × Int × List UInt8
def primE (q : Pr) : T × List UInt8 := (.mk q.1 q.2.1 false q.2.2 [], encL q.1 false q.2.1 q.2.2)
def primT (q : Pr) : T := .mk q.1 q.2.1 false q.2.2 []
theorem within_seq {qs : List Pr} (hq : ∀ q, q ∈ qs → encCode q.1 q.2.1 q.2.2.length = 0) (h : encCode 0 16 (catE (qs.map primE)).length = 0) :
    withinT (encL 0 true 16 (catE (qs.map primE))) 60 = (.mk 0 16 true [] (qs.map primT), 0, 0) := by
  have hx : ∀ x, x ∈ qs.map primE → 1 ≤ x.2.length ∧ ∀ more, readT 59 (x.2 ++ more) = ⟨x.1, (x.2.length : Int), 0, 0⟩ := by
    intro x hx
    obtain ⟨q, hq', rfl⟩ := List.mem_map.1 hx
    refine ⟨?_, fun more => readT_prim 58 (hq q hq') more⟩
    have := enc_len (b := false) (hq q hq')
    simp only [primE]
    omega
  have := withinT_enc (fun more => readT_cons (qs.map primE) 59 h hx more)
  rw [this]
  simp only [List.map_map]
  rfl
/-- how many kids -/
theorem kidsA_len {rd : List UInt8 → Rt} {l : List UInt8} (h : ∀ m : List UInt8, m.length ≤ l.length → RtOk (rd m) m.length) : ∀ (f p : Nat) (acc : List T), (kidsA rd l f p acc).1.length ≤ acc.length + (l.length - p) := by
  intro f
  induction f with
  | zero => intro p acc; exact Nat.le_add_right _ _
  | succ f ih =>
    intro p acc
    rcases Nat.lt_or_ge p l.length with hlt | hge
    · by_cases he : (rd (l.drop p)).code ≠ 0
      · rw [kidsA_err hlt he]; exact Nat.zero_le _
      · rw [kidsA_step hlt (by omega)]
        obtain ⟨_, b2, b3⟩ := (h (l.drop p) (by rw [List.length_drop]; omega)).1 (by omega)
        have := ih (p + (rd (l.drop p)).size.toNat) (acc ++ [(rd (l.drop p)).t])
        rw [List.length_append, List.length_cons, List.length_nil] at this
        omega
    · rw [kidsA_end _ _ _ _ _ hge]; exact Nat.le_add_right _ _
theorem readT_klen (d : Nat) (l : List UInt8) (hl : l.length ≤ 140737488355328) : (readT d l).t.kids.length ≤ l.length := by
  cases d with
  | zero => exact Nat.zero_le _
  | succ d =>
    by_cases h : (nx l).code ≠ 0
    · rw [readT_err h]; exact Nat.zero_le _
    · obtain ⟨f1, f2, f3⟩ := nx_fit (l := l) (by omega)
      have hcl : (nx l).con.length ≤ l.length := by omega
      cases h2 : (nx l).hd.cons with
      | false => rw [readT_leaf h h2]; exact Nat.zero_le _
      | true =>
        by_cases h3 : (kidsA (readT d) (nx l).con ((nx l).con.length + 1) 0 []).2.1 ≠ 0
        · rw [readT_kerr h h2 h3]; exact Nat.zero_le _
        · rw [readT_node h h2 h3]
          have := kidsA_len (rd := readT d) (l := (nx l).con) (fun m hm => readT_bd d m (by omega)) ((nx l).con.length + 1) 0 []
          simp only [List.length_nil, Nat.zero_add, Nat.sub_zero] at this
          exact Nat.le_trans this hcl
theorem withinT_klen (l : List UInt8) (d : Nat) (hl : l.length ≤ 140737488355328) : (withinT l d).1.kids.length ≤ l.length := by
  unfold withinT
  split
  · exact Nat.zero_le _
  · exact readT_klen d l hl
end Go.Proofs.Ytoomdaljdbennaa.Tree
